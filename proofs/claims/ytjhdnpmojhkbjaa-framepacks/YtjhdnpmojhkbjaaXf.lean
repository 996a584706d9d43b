/- Soundness of addresses, parts, slices of slices, tuples, closures. No condition. -/
import Derived.Test.YtjhdnpmojhkbjaaXe
namespace Go.Proofs.Ytjhdnpmojhkbjaa
open Go.RowKit (Below)
section
variable {C : Ctx} {o : Oper} {ρ : Opd → AV} {ev : Operand → Value} {h : AHeap} {w : World} {L : Lay} {v : AV} {P : Program}

theorem sound_faddr (H : HRel C h L w) {t : TypeId} {fs : Array Field} {f : Nat} {fd : Field} {i : TypeInfo} {off : Nat} {p : AV} {p' : Operand} (ho : o.op = .fieldAddr t p' f) (rp : RelC C h L w p (ev p'))
    (ht : C.P.underlying t = some (.struct fs)) (hf : fs[f]? = some fd) (hoff : fd.offset = off) (hi : C.P.info? fd.type = some i) (hz : i.size ≠ 0)
    (hv : faddrR std off p = some (true, v)) : Snd C h L w ev o h v := by
  have run : ∀ ad : Addr, ev p' = .pointer (some ad) → (execOp ev o).run C.P w = .ok (.value (.pointer (some (ad.add off)))) w := fun ad he => by
    simp [execOp, ho, Instr.fieldAt, run_und ht, hf, he, Instr.sureAddr, fieldPlace, run_size hi, hz, hoff]
  generalize hpv : ev p' = pv at *
  unfold faddrR at hv
  split at hv
  · rename_i a j k q
    simp only [Option.some.injEq, Prod.mk.injEq, true_and] at hv
    subst hv
    cases rp with
    | ptr _ _ _ _ g oo hl => exact .pure H (run _ rfl) (by rw [add_mk]; exact .ptr _ _ _ _ _ _ ⟨hl.1, fun sz hsz => ⟨(hl.2 sz hsz).1, by have := (hl.2 sz hsz).2; omega⟩⟩)
  · rename_i u q
    simp only [Option.some.injEq, Prod.mk.injEq, true_and] at hv
    subst hv
    obtain ⟨ad, cs, rfl, hsp, hb, hok, hl, h1, hc, hp, hr⟩ := eptr_of rp
    exact .pure H (run _ rfl) (by rw [add_add]; exact .eptr u _ ad cs hsp hb hok hl h1 hc hp hr.2)
  · cases hv

theorem cell_spot {ad : Addr} {v : Value} (h : w.cell? ad = some v) : ad.spot = none := by
  unfold World.cell? at h
  split at h
  · split at h
    · cases h
    · rename_i hh; simpa using hh
  · cases h
theorem list_of {r : Row} {x : Value} (hr : RelC C h L w (.list r) x) (hne : r.elems ≠ []) : ∃ (ad : Addr) (n cap sz : Nat) (cs : List Value), x = .slice (some ad) n cap ∧ ad.block < w.heap.size ∧ okOf C h L ad.block ∧ n = r.elems.length ∧ n ≤ cap ∧
    (∀ x ∈ r.elems, x.flat.length = sz) ∧ (∀ v ∈ cs, v.oneCell' = true) ∧ (∀ (j : Nat) (v : Value), cs[j]? = some v → w.cell? (ad.add j) = some v) ∧ AV.pureL (flatAll r.elems) = true ∧
    RelL w (okOf C h L) h L (flatAll r.elems) cs := by
  cases hr with
  | nil _ _ _ he => exact absurd he hne
  | list _ xs hx ad n cap sz cs hb hok hn hcap hsz hl h1 hc hp hrr => subst hx; exact ⟨ad, n, cap, sz, cs, rfl, hb, hok, hn, hcap, hsz, h1, hc, hp, hl.symm, hrr⟩

theorem pureL_part : ∀ {xs : List AV}, AV.pureL xs = true → ∀ k n, AV.pureL ((xs.drop k).take n) = true := by
  have hd : ∀ (k : Nat) (xs : List AV), AV.pureL xs = true → AV.pureL (xs.drop k) = true := by
    intro k
    induction k with
    | zero => intro xs h; exact h
    | succ k ih => intro xs h; cases xs with
      | nil => rfl
      | cons x xs => simp only [AV.pureL, Bool.and_eq_true] at h; exact ih xs h.2
  have ht : ∀ (n : Nat) (xs : List AV), AV.pureL xs = true → AV.pureL (xs.take n) = true := by
    intro n
    induction n with
    | zero => intro xs _; rfl
    | succ n ih => intro xs h; cases xs with
      | nil => rfl
      | cons x xs => simp only [AV.pureL, Bool.and_eq_true] at h; simp only [List.take_succ_cons, AV.pureL, Bool.and_eq_true]; exact ⟨h.1, ih xs h.2⟩
  intro xs h k n
  exact ht n _ (hd k _ h)

/-- an element of an immutable list, as an address -/
theorem elem_eptr {r : Row} {ad : Addr} {sz k : Nat} {cs : List Value} (hb : ad.block < w.heap.size) (hok : okOf C h L ad.block) (hsz : ∀ x ∈ r.elems, x.flat.length = sz) (h1 : ∀ v ∈ cs, v.oneCell' = true)
    (hc : ∀ (j : Nat) (v : Value), cs[j]? = some v → w.cell? (ad.add j) = some v) (hp : AV.pureL (flatAll r.elems) = true) (hr : RelL w (okOf C h L) h L (flatAll r.elems) cs) (hk : k < r.elems.length) (hpos : 0 < sz) :
    RelC C h L w (.eptr (r.get std k) 0) (.pointer (some (ad.add (k * sz)))) := by
  have hget := Row.get_std hk
  have hul := hsz _ (List.mem_of_getElem? hget)
  have hfa := flatAll_length hsz
  have hge : k * sz + sz ≤ r.elems.length * sz := by
    have := Nat.mul_le_mul_right sz (Nat.succ_le_of_lt hk)
    rwa [Nat.succ_mul] at this
  have hl6 := hr.1
  have hsub : (r.get std k).flat = ((flatAll r.elems).drop (k * sz)).take sz := by
    apply List.ext_getElem?
    intro j
    rw [List.getElem?_take]
    split
    · rename_i hj; rw [List.getElem?_drop, elem_sub hsz hget j hj]
    · exact List.getElem?_eq_none (by omega)
  have hsp : (ad.add (k * sz)).spot = none := by
    have hj : cs[k * sz]? = some (cs[k * sz]'(by omega)) := List.getElem?_eq_getElem (by omega)
    exact cell_spot (hc _ _ hj)
  have hzero : (ad.add (k * sz)) = (ad.add (k * sz)).add 0 := by simp [Addr.add]
  rw [hzero]
  have hpart := hr.part (k * sz) sz
  rw [← hsub] at hpart
  refine .eptr _ 0 _ ((cs.drop (k * sz)).take sz) hsp (by rw [block_add]; exact hb) (by rw [block_add]; exact hok) hpart.1.symm (fun v hv => h1 v (List.mem_of_mem_drop (List.mem_of_mem_take hv))) (fun j v hj => ?_) (by rw [hsub]; exact pureL_part hp _ _) hpart.2
  rw [List.getElem?_take] at hj
  split at hj
  · rw [List.getElem?_drop] at hj
    rw [add_add]; exact hc _ v hj
  · cases hj

theorem sound_iaddr (H : HRel C h L w) {t e : TypeId} {i : TypeInfo} {sz : Nat} {x ix : AV} {x' ix' : Operand} (ho : o.op = .indexAddr t x' ix') (rx : RelC C h L w x (ev x')) (ri : RelC C h L w ix (ev ix'))
    (ht : C.P.underlying t = some (.slice e)) (hi : C.P.info? e = some i) (hsz : i.size = sz) (hpos : 0 < sz) (hv : iaddrR std h sz x ix = some (true, v)) : Snd C h L w ev o h v := by
  have run : ∀ (ad : Addr) (len cap : Nat) (k : IntKind) (n : Int), ev x' = .slice (some ad) len cap → ev ix' = .int k n → 0 ≤ n → n.toNat < len →
      (execOp ev o).run C.P w = .ok (.value (.pointer (some (ad.add (n.toNat * sz))))) w := fun ad len cap k n e1 e2 h0 hlt => by
    have hlt' : n < (len : Int) := by omega
    simp [execOp, ho, Instr.indexAt, e1, e2, asIntOf, run_und ht, h0, hlt', run_size hi, hsz]
  unfold iaddrR at hv
  split at hv
  · rename_i kd n
    have hix := int_of ri
    split at hv
    · rename_i r
      simp only [Option.some.injEq, Prod.mk.injEq, std_and] at hv
      obtain ⟨⟨⟨h0, hlt⟩, hfl⟩, rfl⟩ := hv
      have h0 : 0 ≤ n := by simpa [std] using h0
      have hlt : n.toNat < r.elems.length := by rw [Row.len_std] at hlt; simpa [std] using hlt
      have hfl : (r.get std n.toNat).flat.length = sz := by rw [flatLen_std] at hfl; simpa [std] using hfl
      obtain ⟨ad, nn, cap, sz', cs, hxv, hb, hok, hnn, hcap, hszs, h1, hc, hp, hr⟩ := list_of rx (by intro e'; rw [e'] at hlt; simp at hlt)
      have hss : sz' = sz := by rw [← hszs _ (List.mem_of_getElem? (Row.get_std hlt))]; exact hfl
      subst hss
      exact .pure H (run ad nn cap kd n hxv hix h0 (by omega)) (elem_eptr hb hok hszs h1 hc hp hr hlt hpos)
    · rename_i a j
      split at hv
      · rename_i e' sz' r hbk
        simp only [Option.some.injEq, Prod.mk.injEq, std_and] at hv
        obtain ⟨⟨h2, h0, hlt⟩, rfl⟩ := hv
        have h0 : 0 ≤ n := by simpa [std] using h0
        have h2 : sz' = sz := by simpa [std] using h2
        have hlt : n.toNat < r.elems.length := by rw [Row.len_std] at hlt; simpa [std] using hlt
        subst h2
        have htg := H.tagAt hbk
        generalize hxv : ev x' = xv at rx
        cases rx with
        | row _ _ g oo nn c hn hl =>
          obtain ⟨rfl, rfl, rfl, rfl⟩ := hl.2 _ htg
          refine .pure H (run _ _ _ kd n hxv hix h0 hlt) ?_
          rw [add_mk]
          exact .ptr _ _ _ _ _ _ ⟨hl.1, fun sz hsz => by rw [htg] at hsz; cases hsz; exact ⟨rfl, by simp [std]⟩⟩
      · cases hv
    · rename_i a j k m cp
      split at hv
      · rename_i e' sz' r hbk
        simp only [Option.some.injEq, Prod.mk.injEq, std_and] at hv
        obtain ⟨⟨h2, h0, hlt⟩, rfl⟩ := hv
        have h0 : 0 ≤ n := by simpa [std] using h0
        have h2 : sz' = sz := by simpa [std] using h2
        have hlt : n.toNat < m := by simpa [std] using hlt
        subst h2
        have htg := H.tagAt hbk
        generalize hxv : ev x' = xv at rx
        cases rx with
        | slc _ _ _ _ _ g oo c hn hl =>
          rcases hl.2 _ htg with ⟨_, rfl⟩ | ⟨rfl, rfl, _⟩
          · omega
          · refine .pure H (run _ _ _ kd n hxv hix h0 hlt) ?_
            rw [add_mk]
            exact .ptr _ _ _ _ _ _ ⟨hl.1, fun sz hsz => by rw [htg] at hsz; cases hsz; exact ⟨rfl, by simp [std, Nat.add_mul]⟩⟩
      · cases hv
    · rename_i a j k off m
      split at hv
      · rename_i e' sz' r hbk
        simp only [Option.some.injEq, Prod.mk.injEq, std_and] at hv
        obtain ⟨⟨h2, h0, hlt⟩, rfl⟩ := hv
        have h0 : 0 ≤ n := by simpa [std] using h0
        have h2 : sz = 1 := by simpa [std] using h2
        have hlt : n.toNat < m := by simpa [std] using hlt
        subst h2
        have htg := H.tagAt hbk
        generalize hxv : ev x' = xv at rx
        cases rx with
        | aslc _ _ _ _ _ g oo c hn hl =>
          rcases hl.2 _ htg with rfl | ⟨rfl, rfl⟩
          · omega
          · refine .pure H (run _ _ _ kd n hxv hix h0 hlt) ?_
            rw [add_mk]
            exact .ptr _ _ _ _ _ _ ⟨hl.1, fun sz hsz => by rw [htg] at hsz; cases hsz; exact ⟨rfl, by simp [std, Nat.add_assoc]⟩⟩
      · cases hv
    · cases hv
  · cases hv

theorem sound_aaddr (H : HRel C h L w) {t e : TypeId} {i : TypeInfo} {ln sz : Nat} {x ix : AV} {x' ix' : Operand} (ho : o.op = .indexAddr t x' ix') (rx : RelC C h L w x (ev x')) (ri : RelC C h L w ix (ev ix'))
    (ht : C.P.underlying t = some (.array ln e)) (hi : C.P.info? e = some i) (hsz : i.size = sz) (hv : aaddrR std ln sz x ix = some (true, v)) : Snd C h L w ev o h v := by
  have run : ∀ (ad : Addr) (k : IntKind) (n : Int), ev x' = .pointer (some ad) → ev ix' = .int k n → 0 ≤ n → n < ln →
      (execOp ev o).run C.P w = .ok (.value (.pointer (some (ad.add (n.toNat * sz))))) w := fun ad k n e1 e2 h0 hlt => by
    simp [execOp, ho, Instr.indexAt, e1, e2, asIntOf, run_und ht, Instr.sureAddr, h0, hlt, run_size hi, hsz]
  have hmul : ∀ n : Int, scale std sz n = n.toNat * sz := fun n => by
    unfold scale
    split
    · rename_i hb; have : sz = 1 := by simpa using hb
      subst this; simp [std]
    · rfl
  unfold aaddrR at hv
  split at hv
  · rename_i kd n
    have hix := int_of ri
    generalize hxv : ev x' = xv at rx
    split at hv
    · rename_i a j k off
      simp only [Option.some.injEq, Prod.mk.injEq, std_and] at hv
      obtain ⟨⟨h0, hlt⟩, rfl⟩ := hv
      have h0 : 0 ≤ n := by simpa [std] using h0
      have hlt : n < (ln : Int) := by simpa [std] using hlt
      cases rx with
      | ptr _ _ _ _ g oo hl =>
        refine .pure H (run _ kd n hxv hix h0 hlt) ?_
        rw [add_mk, hmul]
        exact .ptr _ _ _ _ _ _ ⟨hl.1, fun sz hsz => ⟨(hl.2 sz hsz).1, by rw [(hl.2 sz hsz).2]; simp only [std]; omega⟩⟩
    · rename_i u off
      simp only [Option.some.injEq, Prod.mk.injEq, std_and] at hv
      obtain ⟨⟨h0, hlt⟩, rfl⟩ := hv
      have h0 : 0 ≤ n := by simpa [std] using h0
      have hlt : n < (ln : Int) := by simpa [std] using hlt
      obtain ⟨ad, cs, rfl, hsp, hb, hok, hl, h1, hc, hp, hr⟩ := eptr_of rx
      refine .pure H (run _ kd n hxv hix h0 hlt) ?_
      rw [add_add, hmul]
      exact .eptr u _ ad cs hsp hb hok hl h1 hc hp hr.2
    · cases hv
  · cases hv

theorem run_part {t : TypeId} {d : TypeDesc} {i : TypeInfo} {ag : Bool} {n off : Nat} {vs : Array Value} (hd : P.underlying t = some d) (hag : isAggD d = ag) (hi : P.info? t = some i)
    (hn : i.size = n) (hne : ag = false → n = 1) (hoff : off + n ≤ vs.size) : (part t vs off).run P w = .ok (if ag then .agg ((vs.toList.drop off).take n).toArray else vs.toList.getD off undef) w := by
  cases ag with
  | true =>
    have : vs.extract off (off + n) = ((vs.toList.drop off).take n).toArray := by apply Array.ext'; simp [List.extract_eq_take_drop]
    simp [part, isAgg_run hd hag, run_size hi, hn, this]
  | false =>
    have := hne rfl
    have hv : vs[off]? = some (vs[off]'(by omega)) := Array.getElem?_eq_getElem (by omega)
    simp [part, isAgg_run hd hag, hv, List.getD_eq_getElem?_getD]

theorem sound_fld (H : HRel C h L w) {t : TypeId} {fs : Array Field} {f : Nat} {fd : Field} {d : TypeDesc} {i : TypeInfo} {ag : Bool} {off n : Nat} {r : Row} {x' : Operand} (ho : o.op = .field t x' f) (rx : RelC C h L w (.agg r) (ev x'))
    (ht : C.P.underlying t = some (.struct fs)) (hf : fs[f]? = some fd) (hoff : fd.offset = off) (hd : C.P.underlying fd.type = some d) (hag : isAggD d = ag) (hi : C.P.info? fd.type = some i)
    (hn : i.size = n) (hne : ag = false → n = 1) (hv : cutE std ag n off (.agg r) = some (true, v)) : Snd C h L w ev o h v := by
  obtain ⟨vs, hxv, hr, h1⟩ := agg_of rx
  obtain ⟨c1, c2⟩ := cut_rel (u := .agg r) hr (by simpa using h1) hv hne
  have hp := run_part (P := C.P) (w := w) (vs := vs) (off := off) hd hag hi hn hne (by simpa using c1)
  refine .pure H ?_ c2
  simp only [execOp, ho, Instr.field, Sem.run_bind, run_und ht, Result.andThen_ok, hf, hxv, asAgg, Sem.run_pure, hoff, hp]

theorem sound_idx (H : HRel C h L w) {t e : TypeId} {d : TypeDesc} {i : TypeInfo} {ln : Nat} {r : Row} {kd : IntKind} {n : Int} {x' ix' : Operand} (ho : o.op = .index t x' ix') (rx : RelC C h L w (.agg r) (ev x')) (ri : RelC C h L w (.int kd n) (ev ix'))
    (ht : C.P.underlying t = some (.array ln e)) (hd : C.P.underlying e = some d) (hag : isAggD d = false) (hi : C.P.info? e = some i) (hn : i.size = 1)
    (h0 : 0 ≤ n) (hlt : n < (ln : Int)) (hl : n.toNat < r.elems.length) : Snd C h L w ev o h (r.get std n.toNat) := by
  obtain ⟨vs, hxv, hr, h1⟩ := agg_of rx
  have hlv : n.toNat < vs.toList.length := by rw [← hr.1]; exact hl
  have hp := run_part (P := C.P) (w := w) (vs := vs) (off := n.toNat) hd hag hi hn (fun _ => rfl) (by simp at hlv; omega)
  simp only [Bool.false_eq_true, if_false] at hp
  refine .pure H (r := vs.toList.getD n.toNat undef) ?_ (hr.2 _ _ _ (Row.get_std hl) (by rw [List.getD_eq_getElem?_getD, List.getElem?_eq_getElem hlv]; rfl))
  simp only [execOp, ho, Instr.index, Sem.run_bind, int_of ri, asIntOf, Sem.run_pure, Result.andThen_ok, run_und ht, hxv, h0, hlt, and_self, if_true, run_size hi, hn, Nat.mul_one, hp]

theorem sound_sidx (H : HRel C h L w) {t : TypeId} {l : List UInt8} {kd : IntKind} {n : Int} {x' ix' : Operand} (ho : o.op = .index t x' ix') (rx : RelC C h L w (.str l) (ev x')) (ri : RelC C h L w (.int kd n) (ev ix')) (ht : C.P.underlying t = some .string)
    (h0 : 0 ≤ n) (hlt : n.toNat < l.length) : Snd C h L w ev o h (.int .u8 (std.nthS l n.toNat)) := by
  refine .pure H (r := .int .u8 (l.getD n.toNat 0).toNat) ?_ (.int _ _)
  have hb : (⟨l.toArray⟩ : ByteArray)[n.toNat]? = some (l.getD n.toNat 0) := by
    have hsz : n.toNat < (⟨l.toArray⟩ : ByteArray).size := hlt
    rw [getElem?_pos (⟨l.toArray⟩ : ByteArray) n.toNat hsz]
    simp [List.getD_eq_getElem?_getD, hlt]
    rfl
  simp only [execOp, ho, Instr.index, Sem.run_bind, int_of ri, asIntOf, Sem.run_pure, Result.andThen_ok, run_und ht, str_of rx, h0, if_true, hb]

theorem sound_ext (H : HRel C h L w) {ix : Nat} {xs : List AV} {x' : Operand} (ho : o.op = .extract x' ix) (rx : RelC C h L w (.tup xs) (ev x')) (hv : xs[ix]? = some v) : Snd C h L w ev o h v := by
  cases hxv : ev x' <;> rw [hxv] at rx <;> cases rx
  rename_i vs hl hr
  have hlt : ix < vs.size := by rw [← hl]; exact (List.getElem?_eq_some_iff.1 hv).1
  have hg : vs[ix]? = some vs[ix] := Array.getElem?_eq_getElem hlt
  exact .pure H (r := vs[ix]) (by simp [execOp, ho, Instr.extract, hxv, hg]) (hr ix v _ hv hg)

theorem mopds_spec : ∀ {xs : List Opd} {ys : List Operand}, mopds xs ys = true → xs.length = ys.length ∧ ∀ (j : Nat) (x : Opd) (y : Operand), xs[j]? = some x → ys[j]? = some y → mopd x y = true
  | [], [], _ => ⟨rfl, fun j x y h => by simp at h⟩
  | x :: xs, y :: ys, h => by
    simp only [mopds, Bool.and_eq_true] at h
    obtain ⟨h1, h2⟩ := mopds_spec h.2
    refine ⟨by simp [h1], fun j a b ha hb => ?_⟩
    cases j with
    | zero => simp at ha hb; subst ha; subst hb; exact h.1
    | succ j => exact h2 j a b (by simpa using ha) (by simpa using hb)
  | [], _ :: _, h => by simp [mopds] at h
  | _ :: _, [], h => by simp [mopds] at h
theorem mopds_rel (hρ : Rho C h L w ρ ev) {xs : List Opd} {ys : Array Operand} (hm : mopds xs ys.toList = true) : RelL w (okOf C h L) h L (xs.map ρ) (ys.map ev).toList := by
  obtain ⟨hl, hm⟩ := mopds_spec hm
  refine ⟨by simpa using hl, fun j u v hu hv => ?_⟩
  rw [List.getElem?_map] at hu
  cases hx : xs[j]? with
  | none => simp [hx] at hu
  | some x =>
    cases hy : ys[j]? with
    | none => simp [hy] at hv
    | some y =>
      simp [hx] at hu; simp [hy] at hv
      subst hu; subst hv
      exact hρ.rel x y (hm j x y hx (by simpa using hy))
theorem sound_mkfn (H : HRel C h L w) (hρ : Rho C h L w ρ ev) {f : FuncId} {xs : List Opd} {ys : Array Operand} (ho : o.op = .makeFunc (.func f) #[] ys) (hm : mopds xs ys.toList = true) : Snd C h L w ev o h (.fn f (xs.map ρ)) := by
  have hr := mopds_rel hρ hm
  refine .pure H (r := .func (.func f) #[] (ys.map ev)) (by simp [execOp, ho, Instr.makeFunc]) ?_
  exact .fn f _ _ (by simpa using hr.1) (fun j u v hu hv => hr.2 j u v hu (by simpa using hv))

/-! ### Slices of slices -/
theorem natOf_val (hρ : Rho C h L w ρ ev) {x : Option Opd} {y : Option Operand} (hm : mopt x y = true) {d n : Nat} {b : Bool} (hv : natOf std ρ d x = some (b, n)) (hb : b = true) : (y = none ∧ n = d) ∨ ∃ z k, y = some z ∧ ev z = .int k (n : Int) := by
  cases x with
  | none =>
    cases y with
    | none => simp only [natOf, Option.some.injEq, Prod.mk.injEq] at hv; exact .inl ⟨rfl, hv.2.symm⟩
    | some y => simp [mopt] at hm
  | some x =>
    cases y with
    | none => simp [mopt] at hm
    | some y =>
      have r := hρ.rel x y hm
      simp only [natOf] at hv
      split at hv
      · rename_i k n' hq
        rw [hq] at r
        simp only [Option.some.injEq, Prod.mk.injEq] at hv
        obtain ⟨h1, h2⟩ := hv
        rw [hb] at h1
        have h1 : 0 ≤ n' := by simpa [std] using h1
        have h2 : n'.toNat = n := h2
        exact .inr ⟨y, k, rfl, by rw [int_of r]; congr 1; omega⟩
      · cases hv

theorem run_bounds {b : Bool} {ln cap m : Nat} {lo hi mx : Option Operand} {l hh : Nat} (hl : (lo = none ∧ l = 0) ∨ ∃ z k, lo = some z ∧ ev z = .int k (l : Int)) (hhi : (hi = none ∧ hh = ln) ∨ ∃ z k, hi = some z ∧ ev z = .int k (hh : Int))
    (hmx : (mx = none ∧ m = cap) ∨ ∃ z k, mx = some z ∧ ev z = .int k (m : Int)) (hmh : mx.isNone ∨ hi.isSome) (h1 : l ≤ hh) (h2 : hh ≤ m) (h3 : m ≤ cap) : (Instr.sliceBounds b ln cap (lo.map ev) (hi.map ev) (mx.map ev)).run P w = .ok (l, hh, m) w := by
  have hb : ∀ (v : Operand) (k : IntKind) (n y : Nat) (code : BoundsCode), ev v = .int k (n : Int) → n ≤ y → (Instr.sliceBound (ev v) y code).run P w = .ok n w := fun v k n y code e1 e3 => by
    have : (n : Int) ≤ y := by omega
    simp [Instr.sliceBound, e1, asIntOf, this]
  rcases hl with ⟨rfl, rfl⟩ | ⟨z, k, rfl, ez⟩ <;> rcases hhi with ⟨rfl, rfl⟩ | ⟨z', k', rfl, ez'⟩ <;> rcases hmx with ⟨rfl, rfl⟩ | ⟨z2, k2, rfl, ez2⟩
  · simp [Instr.sliceBounds]
  · simp at hmh
  · simp [Instr.sliceBounds, hb z' k' hh _ _ ez' h2]
  · simp [Instr.sliceBounds, hb z2 k2 m cap _ ez2 h3, hb z' k' hh m _ ez' h2]
  · simp [Instr.sliceBounds, hb z k l hh _ ez h1]
  · simp at hmh
  · simp [Instr.sliceBounds, hb z' k' hh _ _ ez' h2, hb z k l hh _ ez h1]
  · simp [Instr.sliceBounds, hb z2 k2 m cap _ ez2 h3, hb z' k' hh m _ ez' h2, hb z k l hh _ ez h1]

theorem sound_slc (H : HRel C h L w) (hρ : Rho C h L w ρ ev) {t e : TypeId} {i : TypeInfo} {sz : Nat} {x : AV} {x' : Operand} {lo hi mx : Option Opd} {lo' hi' mx' : Option Operand} (ho : o.op = .slice t x' lo' hi' mx') (rx : RelC C h L w x (ev x'))
    (hlo : mopt lo lo' = true) (hhi : mopt hi hi' = true) (hmx : mopt mx mx' = true) (hmh : mx.isNone = true ∨ hi.isSome = true) (ht : C.P.underlying t = some (.slice e)) (hinf : C.P.info? e = some i) (hsz : i.size = sz) (hpos : 0 < sz)
    (hv : slcR std ρ h sz x lo hi mx = some (true, v)) : Snd C h L w ev o h v := by
  have hmh' : mx'.isNone = true ∨ hi'.isSome = true := by
    cases mx <;> cases mx' <;> cases hi <;> cases hi' <;> simp_all [mopt]
  -- the run
  have run : ∀ (adr : Option Addr) (n cap l m q : Nat), ev x' = .slice adr n cap → ((lo' = none ∧ l = 0) ∨ ∃ z k, lo' = some z ∧ ev z = .int k (l : Int)) → ((hi' = none ∧ m = n) ∨ ∃ z k, hi' = some z ∧ ev z = .int k (m : Int)) →
      ((mx' = none ∧ q = cap) ∨ ∃ z k, mx' = some z ∧ ev z = .int k (q : Int)) → l ≤ m → m ≤ q → q ≤ cap →
      (execOp ev o).run C.P w = .ok (.value (.slice (if q = l then adr else adr.map (·.add (l * sz))) (m - l) (q - l))) w := fun adr n cap l m q e1 e2 e3 e4 e5 e6 e7 => by
    have hbd := run_bounds (P := C.P) (w := w) (ev := ev) (b := true) (ln := n) (cap := cap) e2 e3 e4 hmh' e5 e6 e7
    simp only [execOp, ho, Instr.sliceAt, Instr.slice, Sem.run_bind, run_und ht, Result.andThen_ok, e1, hsz, run_size hinf]
    rw [hbd]
    simp
  unfold slcR at hv
  split at hv
  · cases hv
  · rename_i b1 l hl0
    -- the general step
    have key : ∀ (n : Nat) (f : Nat → Out), goR std ρ hi b1 l n f = some (true, v) → ∃ m, f m = some (true, v) ∧ l ≤ m ∧ m ≤ n ∧ ((lo' = none ∧ l = 0) ∨ ∃ z k, lo' = some z ∧ ev z = .int k (l : Int)) ∧ ((hi' = none ∧ m = n) ∨ ∃ z k, hi' = some z ∧ ev z = .int k (m : Int)) ∧ (lo = none → l = 0) ∧ (hi = none → m = n) := by
      intro n f hf
      unfold goR at hf
      split at hf
      · cases hf
      · rename_i b2 m hm0
        split at hf
        · rename_i b3 v' hfm
          simp only [Option.some.injEq, Prod.mk.injEq, std_and] at hf
          obtain ⟨⟨⟨rfl, rfl⟩, ⟨h1, h2⟩, rfl⟩, rfl⟩ := hf
          refine ⟨m, hfm, by simpa [std] using h1, by simpa [std] using h2, natOf_val hρ hlo hl0 rfl, natOf_val hρ hhi hm0 rfl, fun e => ?_, fun e => ?_⟩
          · subst e; simp only [natOf, Option.some.injEq, Prod.mk.injEq] at hl0; exact hl0.2.symm
          · subst e; simp only [natOf, Option.some.injEq, Prod.mk.injEq] at hm0; exact hm0.2.symm
        · cases hf
    have capk : ∀ (n m : Nat) (c : Option Nat) (b : Bool) (c' : Option Nat), capR std ρ mx l n m c = some (b, c') → b = true →
        (mx' = none ∧ c' = c.map (· - l)) ∨ ∃ z k q, mx' = some z ∧ ev z = .int k ((q : Nat) : Int) ∧ m ≤ q ∧ q ≤ n ∧ c' = some (q - l) := by
      intro n m c b c' hc hb
      unfold capR at hc
      cases mx with
      | none =>
        cases mx' with
        | some y => simp [mopt] at hmx
        | none =>
          left
          cases c <;> simp only [Option.some.injEq, Prod.mk.injEq] at hc <;> exact ⟨rfl, by rw [← hc.2]; rfl⟩
      | some y =>
        cases mx' with
        | none => simp [mopt] at hmx
        | some z =>
          right
          have r := hρ.rel y z hmx
          dsimp only at hc
          split at hc
          · rename_i k q hq
            rw [hq] at r
            simp only [Option.some.injEq, Prod.mk.injEq] at hc
            obtain ⟨hc1, rfl⟩ := hc
            rw [hb] at hc1
            simp only [std_and] at hc1
            have g0 : 0 ≤ q := by simpa [std] using hc1.1
            have g1 : m ≤ q.toNat := by simpa [std] using hc1.2.1
            have g2 : q.toNat ≤ n := by simpa [std] using hc1.2.2
            exact ⟨z, k, q.toNat, rfl, by rw [int_of r]; congr 1; omega, g1, g2, rfl⟩
          · cases hc
    generalize hxv : ev x' = xv at rx
    unfold slcK at hv
    split at hv
    · rename_i r
      obtain ⟨m, hf, c1, c2, c3, c4, _, _⟩ := key _ _ hv
      split at hf
      · rename_i b c' hcap
        simp only [Option.some.injEq, Prod.mk.injEq, std_and] at hf
        obtain ⟨⟨hun, rfl⟩, rfl⟩ := hf
        have hcc := capk _ _ _ _ _ hcap rfl
        rw [Row.len_std] at c2 c4
        obtain ⟨adr, n, cap, hxe, hn, hnc⟩ : ∃ adr n cap, xv = .slice adr n cap ∧ n = r.elems.length ∧ n ≤ cap := by
          cases rx with
          | nil _ a c he => exact ⟨a, 0, c, rfl, by rw [he]; rfl, Nat.zero_le _⟩
          | list _ xs hx ad n cap sz cs hb hok hn hcap hsz hl h1 hc hp hr => subst hx; exact ⟨some ad, n, cap, rfl, hn, hcap⟩
        subst hn
        obtain ⟨q, hq, hmq, hqc⟩ : ∃ q : Nat, ((mx' = none ∧ q = cap) ∨ ∃ z k, mx' = some z ∧ ev z = .int k (q : Int)) ∧ m ≤ q ∧ q ≤ cap := by
          rcases hcc with ⟨e1, _⟩ | ⟨z, k, q, e1, e2, e3, e4, _⟩
          · exact ⟨cap, .inl ⟨e1, rfl⟩, by omega, Nat.le_refl _⟩
          · rw [Row.len_std] at e4; exact ⟨q, .inr ⟨z, k, e1, e2⟩, e3, by omega⟩
        refine .pure H (run adr _ cap l m q (by rw [hxv, hxe]) c3 c4 hq c1 hmq hqc) ?_
        have hel : (r.sub std l (m - l)).elems = sub3 r.elems l (m - l) := Row.sub_std _ _ _
        have hlen : (r.sub std l (m - l)).elems.length = m - l := by rw [hel]; simp [sub3]; omega
        show RelC C h L w (.list (r.sub std l (m - l))) _
        by_cases hz : m - l = 0
        · rw [hz]
          rw [hz] at hlen
          exact .nil _ _ _ (List.eq_nil_of_length_eq_zero hlen)
        · have hne : r.elems ≠ [] := by intro e'; rw [e'] at c2; simp at c2; omega
          obtain ⟨ad, n', cap', sz', cs, hv', hb, hok, hn', hcap', hszs, h1, hc, hp, hr⟩ := list_of rx hne
          rw [hxe] at hv'
          cases hv'
          have hss : sz' = sz := by
            have hlt : 0 < r.elems.length := List.length_pos_iff.2 hne
            have hg := Row.get_std hlt
            rw [← hszs _ (List.mem_of_getElem? hg), ← flatLen_std]
            unfold Row.unit at hun
            split at hun
            · exact absurd rfl hne
            · simpa [std] using hun
          subst hss
          rw [if_neg (by omega)]
          simp only [Option.map_some]
          have hfl : flatAll (r.sub std l (m - l)).elems = ((flatAll r.elems).drop (l * sz')).take ((m - l) * sz') := by
            rw [hel]; unfold sub3
            rw [flatAll_take _ _ (fun y hy => hszs y (List.mem_of_mem_drop hy)), flatAll_drop _ _ hszs]
          have hpart := hr.part (l * sz') ((m - l) * sz')
          rw [← hfl] at hpart
          refine .list _ _ rfl (ad.add (l * sz')) _ _ sz' ((cs.drop (l * sz')).take ((m - l) * sz')) (by rw [block_add]; exact hb) (by rw [block_add]; exact hok) hlen.symm (by omega)
            (fun x hx => by rw [hel] at hx; exact hszs x (List.mem_of_mem_drop (List.mem_of_mem_take hx))) hpart.1.symm (fun v hv => h1 v (List.mem_of_mem_drop (List.mem_of_mem_take hv))) (fun j v hj => ?_) (by rw [hfl]; exact pureL_part hp _ _) hpart.2
          rw [List.getElem?_take] at hj
          split at hj
          · rw [List.getElem?_drop] at hj
            rw [add_add]; exact hc _ v hj
          · cases hj
      · cases hf
    · obtain ⟨m, hf, c1, c2, c3, c4, _, _⟩ := key _ _ hv
      split at hf
      · rename_i b c' hcap
        simp only [Option.some.injEq, Prod.mk.injEq] at hf
        obtain ⟨rfl, rfl⟩ := hf
        have hcc := capk _ _ _ _ _ hcap rfl
        have hm0 : m = 0 := by omega
        have hl0 : l = 0 := by omega
        subst hm0; subst hl0
        cases rx
        obtain ⟨q, hq, hqc⟩ : ∃ q : Nat, ((mx' = none ∧ q = 0) ∨ ∃ z k, mx' = some z ∧ ev z = .int k (q : Int)) ∧ q ≤ 0 := by
          rcases hcc with ⟨e1, _⟩ | ⟨z, k, q, e1, e2, e3, e4, _⟩
          · exact ⟨0, .inl ⟨e1, rfl⟩, Nat.le_refl _⟩
          · exact ⟨q, .inr ⟨z, k, e1, e2⟩, e4⟩
        have hq0 : q = 0 := by omega
        subst hq0
        exact .pure H (run none 0 0 0 0 0 hxv c3 c4 hq (Nat.le_refl _) (Nat.le_refl _) (Nat.le_refl _)) .nils
      · cases hf
    · rename_i a j
      split at hv
      · rename_i e' sz' r hbk
        obtain ⟨m, hf, c1, c2, c3, c4, c5, c6⟩ := key _ _ hv
        rw [Row.len_std] at c2 c4 c6
        obtain ⟨htg, g0, g1, g2, g3, _⟩ := H.rowAt hbk
        split at hf
        · rename_i b c' hcap
          cases rx with
          | row _ _ g oo n c hn hl =>
            obtain ⟨rfl, rfl, rfl, rfl⟩ := hl.2 _ htg
            dsimp only at hxv hn
            split at hf
            · rename_i hall
              cases hf
              obtain ⟨rfl, rfl, rfl⟩ : lo = none ∧ hi = none ∧ mx = none := by
                unfold allN at hall
                split at hall
                · exact ⟨rfl, rfl, rfl⟩
                · cases hall
              have hl0 := c5 rfl
              have hm0 := c6 rfl
              subst hl0; subst hm0
              have hmx' : mx' = none := by cases mx' with | none => rfl | some y => simp [mopt] at hmx
              have := run _ _ _ 0 _ (L.size a j) hxv c3 c4 (.inl ⟨hmx', rfl⟩) (Nat.zero_le _) g2 (Nat.le_refl _)
              refine .pure H this ?_
              have hadd : (if L.size a j = 0 then some (⟨L.loc a j, 0, none⟩ : Addr) else Option.map (fun b : Addr => b.add (0 * sz)) (some ⟨L.loc a j, 0, none⟩)) = some ⟨L.loc a j, 0, none⟩ := by split <;> simp [Addr.add]
              rw [hadd]
              exact .row _ _ _ _ _ _ (by omega) ⟨hl.1, fun s hs => by rw [htg] at hs; cases hs; exact ⟨rfl, rfl, by simp, by simp⟩⟩
            · simp only [Option.some.injEq, Prod.mk.injEq, std_and] at hf
              obtain ⟨⟨hss, rfl⟩, rfl⟩ := hf
              have hss : sz' = sz := by simpa [std] using hss
              subst hss
              have hcc := capk _ _ _ _ _ hcap rfl
              obtain ⟨q, hq, hmq, hqc, hc'⟩ : ∃ q : Nat, ((mx' = none ∧ q = L.size a j) ∨ ∃ z k, mx' = some z ∧ ev z = .int k (q : Int)) ∧ m ≤ q ∧ q ≤ L.size a j ∧ q - l = c'.getD (L.size a j - l) := by
                rcases hcc with ⟨e1, e2⟩ | ⟨z, k, q, e1, e2, e3, e4, e5⟩
                · exact ⟨L.size a j, .inl ⟨e1, rfl⟩, by omega, Nat.le_refl _, by rw [e2]; rfl⟩
                · rw [Row.len_std] at e4; exact ⟨q, .inr ⟨z, k, e1, e2⟩, e3, by omega, by rw [e5]; rfl⟩
              refine .pure H (run _ _ _ l m q hxv c3 c4 hq c1 hmq hqc) ?_
              split
              · rename_i hql
                have hml : m - l = 0 := by omega
                refine .slc _ _ _ _ _ _ _ _ (by show m - l ≤ _; omega) ⟨hl.1, fun s hs => ?_⟩
                rw [htg] at hs; cases hs
                by_cases hl0 : l = 0
                · refine .inr ⟨rfl, by simp [hl0], by omega, hc'⟩
                · exact .inl ⟨hl0, hml⟩
              · simp only [Option.map_some, add_mk, Nat.zero_add]
                refine .slc _ _ _ _ _ _ _ _ (by show m - l ≤ q - l; omega) ⟨hl.1, fun s hs => ?_⟩
                rw [htg] at hs; cases hs
                exact .inr ⟨rfl, rfl, by omega, hc'⟩
        · cases hf
      · cases hv
    · rename_i a j k n c
      split at hv
      · rename_i e' sz' r hbk
        obtain ⟨m, hf, c1, c2, c3, c4, c5, c6⟩ := key _ _ hv
        obtain ⟨htg, g0, g1, g2, g3, _⟩ := H.rowAt hbk
        split at hf
        · rename_i b c' hcap
          simp only [Option.some.injEq, Prod.mk.injEq, std_and] at hf
          obtain ⟨⟨hss, rfl⟩, rfl⟩ := hf
          have hss : sz' = sz := by simpa [std] using hss
          subst hss
          have hcc := capk _ _ _ _ _ hcap rfl
          cases rx with
          | slc _ _ _ _ _ g oo cp hn hl =>
            obtain ⟨q, hq, hmq, hqc, hc'⟩ : ∃ q : Nat, ((mx' = none ∧ q = cp) ∨ ∃ z k, mx' = some z ∧ ev z = .int k (q : Int)) ∧ m ≤ q ∧ q ≤ cp ∧ ((mx' = none ∧ q = cp ∧ c' = c.map (· - l)) ∨ c' = some (q - l)) := by
              rcases hcc with ⟨e1, e2⟩ | ⟨z, k, q, e1, e2, e3, e4, e5⟩
              · exact ⟨cp, .inl ⟨e1, rfl⟩, by omega, Nat.le_refl _, .inl ⟨e1, rfl, e2⟩⟩
              · exact ⟨q, .inr ⟨z, k, e1, e2⟩, e3, by omega, .inr e5⟩
            refine .pure H (run _ _ _ l m q hxv c3 c4 hq c1 hmq hqc) ?_
            have hcap' : ∀ S, k + cp ≤ S → cp = c.getD (S - k) → q - l = c'.getD (S - (k + l)) := fun S hS hcp => by
              rcases hc' with ⟨_, e1, e2⟩ | e2
              · rw [e2, e1]
                cases c with
                | none => simp at hcp ⊢; omega
                | some c0 => simp at hcp ⊢; omega
              · rw [e2]; rfl
            split
            · rename_i hql
              have hml : m - l = 0 := by omega
              refine .slc _ _ _ _ _ _ _ _ (by show m - l ≤ _; omega) ⟨hl.1, fun s hs => ?_⟩
              have hls := hl.2 _ hs
              rw [htg] at hs; cases hs
              by_cases hkl : k + l = 0
              · obtain ⟨rfl, rfl⟩ : k = 0 ∧ l = 0 := by omega
                rcases hls with ⟨hk, _⟩ | ⟨e1, e2, e3, e4⟩
                · exact absurd rfl hk
                · exact .inr ⟨e1, by simpa [std] using e2, by show 0 + 0 + (q - 0) ≤ _; omega, hcap' _ e3 e4⟩
              · exact .inl ⟨hkl, hml⟩
            · simp only [Option.map_some, add_mk]
              refine .slc _ _ _ _ _ _ _ _ (by show m - l ≤ q - l; omega) ⟨hl.1, fun s hs => ?_⟩
              have hls := hl.2 _ hs
              rw [htg] at hs; cases hs
              rcases hls with ⟨hk, hn0⟩ | ⟨e1, e2, e3, e4⟩
              · exact .inl ⟨by show k + l ≠ 0; omega, by show m - l = 0; omega⟩
              · exact .inr ⟨e1, by simp only [e2, std, Nat.add_mul], by show k + l + (q - l) ≤ _; omega, hcap' _ e3 e4⟩
        · cases hf
      · cases hv
    · rename_i a j k off n
      obtain ⟨m, hf, c1, c2, c3, c4, c5, c6⟩ := key _ _ hv
      split at hf
      · rename_i b c' hcap
        simp only [Option.some.injEq, Prod.mk.injEq, std_and] at hf
        obtain ⟨⟨hss, rfl⟩, rfl⟩ := hf
        have hss : sz = 1 := by simpa [std] using hss
        subst hss
        have hcc := capk _ _ _ _ _ hcap rfl
        cases rx with
        | aslc _ _ _ _ _ g oo cp hn hl =>
          obtain ⟨q, hq, hmq, hqc⟩ : ∃ q : Nat, ((mx' = none ∧ q = cp) ∨ ∃ z k, mx' = some z ∧ ev z = .int k (q : Int)) ∧ m ≤ q ∧ q ≤ cp := by
            rcases hcc with ⟨e1, e2⟩ | ⟨z, k, q, e1, e2, e3, e4, e5⟩
            · exact ⟨cp, .inl ⟨e1, rfl⟩, by omega, Nat.le_refl _⟩
            · exact ⟨q, .inr ⟨z, k, e1, e2⟩, e3, by omega⟩
          refine .pure H (run _ _ _ l m q hxv c3 c4 hq c1 hmq hqc) ?_
          split
          · rename_i hql
            exact .aslc _ _ _ _ _ _ _ _ (by show m - l ≤ q - l; omega) ⟨hl.1, fun s hs => .inl (by show m - l = 0; omega)⟩
          · simp only [Option.map_some, add_mk]
            refine .aslc _ _ _ _ _ _ _ _ (by show m - l ≤ q - l; omega) ⟨hl.1, fun s hs => ?_⟩
            rcases hl.2 _ hs with hn0 | ⟨e1, e2⟩
            · exact .inl (by show m - l = 0; omega)
            · exact .inr ⟨e1, by simp only [e2, std, Nat.mul_one]; omega⟩
      · cases hf
    · cases hv

theorem sound_asl (H : HRel C h L w) (hρ : Rho C h L w ρ ev) {t arr e : TypeId} {i : TypeInfo} {ln : Nat} {p : AV} {p' : Operand} {lo hi : Option Opd} {lo' hi' : Option Operand} (ho : o.op = .slice t p' lo' hi' none) (rp : RelC C h L w p (ev p'))
    (hlo : mopt lo lo' = true) (hhi : mopt hi hi' = true) (ht : C.P.underlying t = some (.pointer arr)) (ha : C.P.underlying arr = some (.array ln e)) (hinf : C.P.info? e = some i) (hsz : i.size = 1)
    (hv : aslR std ρ ln p lo hi = some (true, v)) : Snd C h L w ev o h v := by
  unfold aslR at hv
  split at hv
  · rename_i b1 l b2 m hl0 hm0
    generalize hxv : ev p' = pv at rp
    split at hv
    · rename_i a j k off
      simp only [Option.some.injEq, Prod.mk.injEq, std_and] at hv
      obtain ⟨⟨⟨rfl, rfl⟩, c1, c2⟩, rfl⟩ := hv
      have c1 : l ≤ m := by simpa [std] using c1
      have c2 : m ≤ ln := by simpa [std] using c2
      have e2 := natOf_val hρ hlo hl0 rfl
      have e3 := natOf_val hρ hhi hm0 rfl
      have hbd := run_bounds (P := C.P) (w := w) (ev := ev) (b := false) (ln := ln) (cap := ln) (mx := none) e2 e3 (.inl ⟨rfl, rfl⟩) (.inl rfl) c1 c2 (Nat.le_refl _)
      cases rp with
      | ptr _ _ _ _ g oo hl =>
        refine .pure H (r := .slice (some (if ln = l then ⟨g, oo, none⟩ else (⟨g, oo, none⟩ : Addr).add (l * 1))) (m - l) (ln - l)) ?_ ?_
        · simp only [Option.map_none] at hbd
          simp only [execOp, ho, Instr.sliceAt, Instr.slice, Sem.run_bind, run_und ht, run_und ha, Result.andThen_ok, hxv, asAddr, Sem.run_pure, run_size hinf, hsz, Option.map_none]
          rw [hbd]
          simp
        · split
          · exact .aslc _ _ _ _ _ _ _ _ (by show m - l ≤ ln - l; omega) ⟨hl.1, fun s hs => .inl (by show m - l = 0; omega)⟩
          · rw [add_mk]
            exact .aslc _ _ _ _ _ _ _ _ (by show m - l ≤ ln - l; omega) ⟨hl.1, fun s hs => .inr ⟨(hl.2 s hs).1, by rw [(hl.2 s hs).2]; simp only [std, Nat.mul_one]; omega⟩⟩
    · cases hv
  · cases hv

theorem sound_bsl (H : HRel C h L w) (hρ : Rho C h L w ρ ev) {t e : TypeId} {i : TypeInfo} {ln : Nat} {p : AV} {p' : Operand} {lo hi : Option Opd} {lo' hi' : Option Operand} (ho : o.op = .slice t p' lo' hi' none) (rp : RelC C h L w p (ev p'))
    (hlo : mopt lo lo' = true) (hhi : mopt hi hi' = true) (ht : C.P.underlying t = some (.array ln e)) (hinf : C.P.info? e = some i) (hsz : i.size = 1)
    (hv : aslR std ρ ln p lo hi = some (true, v)) : Snd C h L w ev o h v := by
  unfold aslR at hv
  split at hv
  · rename_i b1 l b2 m hl0 hm0
    generalize hxv : ev p' = pv at rp
    split at hv
    · rename_i a j k off
      simp only [Option.some.injEq, Prod.mk.injEq, std_and] at hv
      obtain ⟨⟨⟨rfl, rfl⟩, c1, c2⟩, rfl⟩ := hv
      have c1 : l ≤ m := by simpa [std] using c1
      have c2 : m ≤ ln := by simpa [std] using c2
      have e2 := natOf_val hρ hlo hl0 rfl
      have e3 := natOf_val hρ hhi hm0 rfl
      have hbd := run_bounds (P := C.P) (w := w) (ev := ev) (b := false) (ln := ln) (cap := ln) (mx := none) e2 e3 (.inl ⟨rfl, rfl⟩) (.inl rfl) c1 c2 (Nat.le_refl _)
      cases rp with
      | ptr _ _ _ _ g oo hl =>
        refine .pure H (r := .slice (some (if ln = l then ⟨g, oo, none⟩ else (⟨g, oo, none⟩ : Addr).add (l * 1))) (m - l) (ln - l)) ?_ ?_
        · simp only [Option.map_none] at hbd
          simp only [execOp, ho, Instr.sliceAt, Instr.sureAddr, Sem.run_bind, run_und ht, Result.andThen_ok, hxv, Sem.run_pure, run_size hinf, hsz, Option.map_none]
          rw [hbd]
          simp
        · split
          · exact .aslc _ _ _ _ _ _ _ _ (by show m - l ≤ ln - l; omega) ⟨hl.1, fun s hs => .inl (by show m - l = 0; omega)⟩
          · rw [add_mk]
            exact .aslc _ _ _ _ _ _ _ _ (by show m - l ≤ ln - l; omega) ⟨hl.1, fun s hs => .inr ⟨(hl.2 s hs).1, by rw [(hl.2 s hs).2]; simp only [std, Nat.mul_one]; omega⟩⟩
    · cases hv
  · cases hv

theorem sound_sslc (H : HRel C h L w) (hρ : Rho C h L w ρ ev) {t : TypeId} {x : AV} {x' : Operand} {lo hi : Option Opd} {lo' hi' : Option Operand} (ho : o.op = .slice t x' lo' hi' none) (rx : RelC C h L w x (ev x'))
    (hlo : mopt lo lo' = true) (hhi : mopt hi hi' = true) (ht : C.P.underlying t = some .string) (hv : sslcR std ρ x lo hi = some (true, v)) : Snd C h L w ev o h v := by
  unfold sslcR at hv
  split at hv
  · rename_i xs
    split at hv
    · rename_i b1 l b2 m hl0 hm0
      simp only [Option.some.injEq, Prod.mk.injEq, std_and] at hv
      obtain ⟨⟨⟨rfl, rfl⟩, c1, c2⟩, rfl⟩ := hv
      have c1 : l ≤ m := by simpa [std] using c1
      have c2 : m ≤ xs.length := by simpa [std] using c2
      have e2 := natOf_val hρ hlo hl0 rfl
      have e3 := natOf_val hρ hhi hm0 rfl
      have hbd := run_bounds (P := C.P) (w := w) (ev := ev) (b := false) (ln := xs.length) (cap := xs.length) (mx := none) e2 e3 (.inl ⟨rfl, rfl⟩) (.inl rfl) c1 c2 (Nat.le_refl _)
      have hsz : (⟨xs.toArray⟩ : ByteArray).size = xs.length := rfl
      have hex : (⟨xs.toArray⟩ : ByteArray).extract l m = ⟨(sub3 xs l (m - l)).toArray⟩ := by
        apply ByteArray.ext
        simp [sub3]
      refine .pure H (r := .string ⟨(sub3 xs l (m - l)).toArray⟩) ?_ (.str _)
      simp only [Option.map_none] at hbd
      simp only [execOp, ho, Instr.sliceAt, Instr.slice, Sem.run_bind, run_und ht, Result.andThen_ok, str_of rx, Option.map_none, hsz, Option.isSome_none, Bool.false_eq_true, if_false]
      rw [hbd]
      simp [hex]
    · cases hv
  · cases hv

end
end Go.Proofs.Ytjhdnpmojhkbjaa
