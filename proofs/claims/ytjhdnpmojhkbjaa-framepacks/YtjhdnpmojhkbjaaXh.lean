/- Soundness of slices that are made, grown and copied; of all operations. No condition. -/
import Derived.Test.YtjhdnpmojhkbjaaXg
import Derived.Test.YtjhdnpmojhkbjaaXy
namespace Go.Proofs.Ytjhdnpmojhkbjaa
open Go.RowKit (Below)
section
variable {C : Ctx} {o : Oper} {ρ : Opd → AV} {ev : Operand → Value} {h h' : AHeap} {w w' : World} {L : Lay} {v : AV} {P : Program}

/-- literal elements, one behind the other -/
theorem cfill_all {sz : Nat} : ∀ (vs : List (List Value)) (k : Nat) (cells : List Value), (∀ v ∈ vs, v.length = sz) → cells.length = (k + vs.length) * sz →
    cfill cells ((vs.zipIdx k).map fun p => (p.2 * sz, p.1)) = cells.take (k * sz) ++ vs.flatten
  | [], k, cells, _, hl => by
    simp only [List.length_nil, Nat.add_zero] at hl
    simp [cfill, ← hl]
  | v :: vs, k, cells, hv, hl => by
    have h1 := hv v (by simp)
    simp only [List.length_cons] at hl
    have hle : k * sz + sz ≤ cells.length := by rw [hl]; have := Nat.mul_le_mul_right sz (show k + 1 ≤ k + (vs.length + 1) by omega); rwa [Nat.add_mul, Nat.one_mul] at this
    simp only [List.zipIdx_cons, List.map_cons, cfill, spl]
    rw [cfill_all vs (k + 1) _ (fun u hu => hv u (by simp [hu])) (by rw [List.length_append, List.length_append, List.length_take, List.length_drop, h1, show k + 1 + vs.length = k + (vs.length + 1) by omega, ← hl]; omega)]
    have e0 : (cells.take (k * sz)).length = k * sz := by rw [List.length_take]; omega
    have e1 : (cells.take (k * sz) ++ v ++ cells.drop (k * sz + v.length)).take ((k + 1) * sz) = cells.take (k * sz) ++ v := by
      have e2 : (k + 1) * sz = (cells.take (k * sz) ++ v).length := by rw [List.length_append, e0, h1, Nat.add_mul, Nat.one_mul]
      rw [e2, List.take_left]
    rw [e1]
    simp
theorem mlits_spec : ∀ {k : Nat} {xs : List Opd} {ys : List (Nat × Operand)}, mlits k xs ys = true → ys = ((ys.map (·.2)).zipIdx k).map (fun p => (p.2, p.1)) ∧ xs.length = ys.length ∧ ∀ (j : Nat) (x : Opd) (y : Operand), xs[j]? = some x → (ys.map (·.2))[j]? = some y → mopd x y = true
  | _, [], [], _ => ⟨rfl, rfl, fun j x y hx => by simp at hx⟩
  | k, x :: xs, (i, y) :: ys, h => by
    simp only [mlits, Bool.and_eq_true, beq_iff_eq] at h
    obtain ⟨h1, h2, h3⟩ := mlits_spec h.2
    refine ⟨?_, by simp [h2], fun j x' y' hx hy => ?_⟩
    · simp only [List.map_cons, List.zipIdx_cons]
      rw [h.1.1, ← h1]
    · cases j with
      | zero => simp at hx hy; subst hx; subst hy; exact h.1.2
      | succ j => exact h3 j x' y' (by simpa using hx) (by simpa using hy)
  | _, [], (_, _) :: _, h => by simp [mlits] at h
  | _, _ :: _, [], h => by simp [mlits] at h

theorem row_push {a e sz : Nat} {r : Row} {c n g : Nat} (hn : n = r.elems.length) (hc : n ≤ c) : RelC C (pushB h a (.row e sz r)) (L.put a (nxt h a) g c) w' (.row a (nxt h a)) (.slice (some ⟨g, 0, none⟩) n c) :=
  .row _ _ _ _ _ _ hc (live_push (fun s hs => by cases hs; exact ⟨rfl, rfl, hn, by rw [Lay.put_size]⟩))

theorem sound_bslice (H : HRel C h L w) (hρ : Rho C h L w ρ ev) {a : Nat} {t e : TypeId} {sz ln : Nat} {zv : Value} {i : TypeInfo} {parts : List Opd} {parts' : Array (Nat × Operand)} (ho : o.op = .buildSlice t ln parts') (hm : mlits 0 parts parts'.toList = true) (hln : ln = parts.length)
    (ht : C.P.underlying t = some (.slice e)) (hi : C.P.info? e = some i) (hz : i.zero = some zv) (hsz : i.size = sz) (hpos : 0 < sz) (hsmall : parts.length * sz ≤ 65536) (hfit : Row.fits std sz (.gen (parts.map ρ)) = true) :
    Snd C h L w ev o (pushB h a (.row e sz (normG (parts.map ρ)))) (.row a (nxt h a)) := by
  have hel : ∀ u ∈ parts.map ρ, u.bx = true ∧ u.flat.length = sz := Row.fits_std hfit
  obtain ⟨m1, m2, m3⟩ := mlits_spec hm
  have hrels : ∀ (j : Nat) (x : Opd) (y : Operand), parts[j]? = some x → (parts'.toList.map (·.2))[j]? = some y → RelL w (okOf C h L) h L (ρ x).flat (ev y).cells.toList ∧ (∀ c ∈ (ev y).cells, c.oneCell' = true) ∧ (ev y).cells.size = sz := by
    intro j x y hx hy
    obtain ⟨e2, e3⟩ := hel (ρ x) (List.mem_map.2 ⟨x, List.mem_of_getElem? hx, rfl⟩)
    obtain ⟨c1, c2⟩ := Rel.cells (hρ.rel x y (m3 j x y hx hy)) e2
    exact ⟨c1, c2, by have := c1.1; simp only [Array.length_toList] at this; omega⟩
  generalize hys : parts'.toList.map (·.2) = ys at *
  have hyl : ys.length = parts.length := by rw [← hys]; simp [m2]
  have hget : ∀ y ∈ ys, ∃ j x, parts[j]? = some x ∧ ys[j]? = some y := fun y hy => by
    obtain ⟨j, hj⟩ := List.mem_iff_getElem?.1 hy
    have hlt : j < parts.length := by rw [← hyl]; exact (List.getElem?_eq_some_iff.1 hj).1
    exact ⟨j, _, List.getElem?_eq_getElem hlt, hj⟩
  have hsize : ∀ y ∈ ys, (ev y).cells.size = sz := fun y hy => by
    obtain ⟨j, x, hx, hyj⟩ := hget y hy
    exact (hrels j x y hx hyj).2.2
  let zero : Array Value := if ln * sz = 0 then #[] else zv.cells
  obtain ⟨out, e1, e2⟩ := fill_eq (fun i => some (i * sz, sz)) (fun i => i * sz) (parts'.toList.map fun (i, x) => (i, ev x)) ((Array.range (ln * sz)).map (zero[· % zero.size]!)) (by
    intro p hp
    obtain ⟨q, hq, rfl⟩ := List.mem_map.1 hp
    rw [m1] at hq
    obtain ⟨r, hr, rfl⟩ := List.mem_map.1 hq
    have hy : r.1 ∈ ys := (List.mem_zipIdx hr).2.2 ▸ List.getElem_mem _
    have hlt : r.2 < ys.length := by have := (List.mem_zipIdx hr).2.1; omega
    dsimp only
    rw [hsize r.1 hy]
    refine ⟨rfl, ?_⟩
    simp only [Array.size_map, Array.size_range, hln]
    have := Nat.mul_le_mul_right sz (show r.2 + 1 ≤ parts.length by omega)
    rwa [Nat.add_mul, Nat.one_mul] at this)
  have hout : out.toList = (ys.map fun y => (ev y).cells.toList).flatten := by
    rw [e2]
    have e3 : ((parts'.toList.map fun (i, x) => (i, ev x)).map fun p => (p.1 * sz, p.2.cells.toList)) = ((ys.map fun y => (ev y).cells.toList).zipIdx 0).map fun p => (p.2 * sz, p.1) := by
      rw [m1]
      simp [List.zipIdx_map, Function.comp_def]
    rw [e3, cfill_all _ 0 _ (fun v hv => by obtain ⟨y, hy, rfl⟩ := List.mem_map.1 hv; simpa using hsize y hy) (by simp [hln, hyl])]
    simp
  have hrelF : ∀ (ps : List Opd) (zs : List Operand), ps.length = zs.length → (∀ (j : Nat) (x : Opd) (y : Operand), ps[j]? = some x → zs[j]? = some y → RelL w (okOf C h L) h L (ρ x).flat (ev y).cells.toList) →
      RelL w (okOf C h L) h L (flatAll (ps.map ρ)) ((zs.map fun y => (ev y).cells.toList).flatten) := by
    intro ps
    induction ps with
    | nil => intro zs hl _; cases zs with
      | nil => exact RelL.nil
      | cons z zs => simp at hl
    | cons p ps ih =>
      intro zs hl hh
      cases zs with
      | nil => simp at hl
      | cons z zs =>
        have h0 := hh 0 p z rfl rfl
        have h1 := ih zs (by simpa using hl) (fun j x y hx hy => hh (j + 1) x y (by simpa using hx) (by simpa using hy))
        simp only [List.map_cons, List.flatten_cons]
        rw [flatAll_cons]
        exact h0.append h1
  have hrel := hrelF parts ys hyl.symm (fun j x y hx hy => (hrels j x y hx hy).1)
  rw [← hout] at hrel
  have hone : ∀ c ∈ out, c.oneCell' = true := by
    intro c hc
    have hc : c ∈ out.toList := by simpa using hc
    rw [hout] at hc
    obtain ⟨l, hl, hcl⟩ := List.mem_flatten.1 hc
    obtain ⟨y, hy, rfl⟩ := List.mem_map.1 hl
    obtain ⟨j, x, hx, hyj⟩ := hget y hy
    exact (hrels j x y hx hyj).2.1 c (by simpa using hcl)
  have hle : parts.length ≤ maxLen := by have := Nat.le_mul_of_pos_right parts.length hpos; simp [maxLen]; omega
  have hnr := H.newRow a (e := e) (sz := sz) (r := normG (parts.map ρ)) (cur := out) hpos (by rw [normG_std]; exact fun x hx => (hel x hx).2) (by rw [normG_std]; exact hrel) hone (by rw [normG_std, List.length_map]; exact hle)
  have hlen : (normG (parts.map ρ)).elems.length = parts.length := by rw [normG_std, List.length_map]
  refine ⟨_, _, .slice (some ⟨w.heap.size, 0, none⟩) parts.length parts.length, .inl ?_, hnr.1, hnr.2, fun _ => by rw [hlen]; exact row_push hlen.symm (Nat.le_refl _)⟩
  have hsm : ¬ (ln * sz > 2 ^ 24) := by rw [hln]; omega
  have e1' : Instr.fill (fun i => some (i * sz, sz)) ((Array.range (ln * sz)).map (zero[· % zero.size]!)) (parts'.map fun x => (x.1, ev x.2)).toList = some out := by simpa using e1
  by_cases h0 : ln * sz = 0
  · have hz0 : zero = #[] := by simp [zero, h0]
    rw [hz0] at e1'
    simp only [execOp, ho, Instr.buildSlice, Sem.run_bind, run_und ht, Result.andThen_ok, run_size hi, hsz, if_neg hsm, if_pos h0, Sem.run_pure, e1']
    simp [Go.newRow, hln]
  · have hz0 : zero = zv.cells := by simp [zero, h0]
    rw [hz0] at e1'
    have hzz : (zeroValue e).run C.P w = .ok zv w := by simp [zeroValue, typeInfo, hi, hz]
    simp only [execOp, ho, Instr.buildSlice, Sem.run_bind, run_und ht, Result.andThen_ok, run_size hi, hsz, if_neg hsm, if_neg h0, Sem.run_pure, hzz, e1']
    simp [Go.newRow, hln]

/-- a row that the model owns becomes a tracked one -/
theorem pushOwn (H : HRel C h L w) (kill : Nat → Nat → Prop) (hm : AHeap) (hn : ∀ a, nxt hm a = nxt h a) (hkk : ∀ a i, blk hm a i = .dead ∨ (¬ kill a i ∧ blk hm a i = blk h a i)) {a : Nat} {e sz : Nat} {r : Row} {g n c : Nat} {cs : List Value}
    (hown : w'.ownsRow C.base e sz (.slice (some ⟨g, 0, none⟩) n c) n cs) (hnr : n = r.elems.length) (hrel : RelL w (okOf C h L) h L (flatAll r.elems) cs) (hf : ∀ x ∈ r.elems, x.flat.length = sz) (h1 : ∀ c ∈ cs, c.oneCell' = true) (hsz : 0 < sz)
    {row : Option Nat} (hg : w.grownBy w' row) (hrow : ∀ k, row = some k → ∃ b j, kill b j ∧ (blk h b j).tag ≠ none ∧ k = L.loc b j) (hgg : w.heap.size ≤ g ∨ row = some g) :
    ∃ L', Step w (okOf C h L) h L w' (okOf C (pushB hm a (.row e sz r)) L') (pushB hm a (.row e sz r)) L' ∧ HRel C (pushB hm a (.row e sz r)) L' w' ∧ RelC C (pushB hm a (.row e sz r)) L' w' (.row a (nxt h a)) (.slice (some ⟨g, 0, none⟩) n c) := by
  obtain ⟨hcl, ⟨hv, _⟩ | ⟨g', cap, cur, hv, hb, hgc, hnc, hcm, hcs, htake⟩⟩ := hown
  · cases hv
  · cases hv
    have hlt : g < w'.heap.size := (Array.getElem?_eq_some_iff.1 hgc).1
    have hbel : Below C.base w w' := (Below.refl _ _).grown hg H.hbase (fun k hk => by obtain ⟨b, j, _, hl, rfl⟩ := hrow k hk; exact (H.live b j hl).1)
    obtain ⟨s, H'⟩ := H.pushK (w' := w') kill hm hn hkk a (.row e sz r) g c hbel (fun k hk hne => hg.block k hk (fun e => by
      obtain ⟨b, j, h1, h2, h3⟩ := hrow k e.symm
      exact hne b j h1 h2 h3)) (by
        rcases hgg with hgg | hgg
        · exact .inl ⟨hgg, hlt⟩
        · obtain ⟨b, j, h1, h2, h3⟩ := hrow g hgg; exact .inr ⟨b, j, h1, h2, h3⟩)
      (fun s => ⟨hsz, hcm, by rw [← hnr]; exact hnc, hf, cur, hgc, hcs, by rw [← hnr, htake]; exact hrel.step s, by rw [← hnr, htake]; exact h1⟩)
    refine ⟨_, s, H', ?_⟩
    have hp := tag_push hm a (.row e sz r)
    rw [hn] at hp
    refine .row _ _ _ _ _ _ hnc ⟨by rw [nxt_push, if_pos rfl, hn]; omega, fun s hs => ?_⟩
    rw [hp] at hs
    cases hs
    exact ⟨by rw [Lay.put_loc], rfl, hnr, by rw [Lay.put_size]⟩

theorem sound_mkslice (H : HRel C h L w) {a : Nat} {t e : TypeId} {sz : Nat} {z : AV} {zv : Value} {i : TypeInfo} {kd kd' : IntKind} {n : Int} {l' c' : Operand} (ho : o.op = .makeSlice t l' c') (e1 : ev l' = .int kd n) (e2 : ev c' = .int kd' n)
    (ht : C.P.underlying t = some (.slice e)) (hi : C.P.info? e = some i) (hz : i.zero = some zv) (hzm : zmatch z zv = true) (hsz : i.size = sz) (hpos : 0 < sz) (hzs : z.flat.length = sz) (hby : i.bytes ≤ 32768) (hzb : z.bx = true)
    (h0 : 0 ≤ n) (hle : n ≤ 4294967296) : Snd C h L w ev o (pushB h a (.row e sz (repR std n.toNat z))) (.row a (nxt h a)) := by
  have hzr : RelC C h L w z zv := zmatch_rel hzm
  obtain ⟨hz1, hz2⟩ := hzr.cells hzb
  have hzsz : zv.cells.size = sz := by have := hz1.1; simp only [Array.length_toList] at this; omega
  obtain ⟨w', hr, hown, hg⟩ := run_make_full (P := C.P) w C.base t e i zv sz ht hi hz hsz kd kd' n.toNat (by have h := Nat.mul_le_mul hby (show n.toNat ≤ 4294967296 by omega); omega) (by simp [maxLen]; omega) H.hbase
  have hnn : ((n.toNat : Nat) : Int) = n := by omega
  rw [hnn] at hr
  have hmade : ∀ m : Nat, (madeCells zv.cells (m * sz)).toList = (List.replicate m zv.cells.toList).flatten := by
    intro m
    apply List.ext_getElem?
    intro j
    simp only [madeCells, hzsz, Array.toList_map, Array.toList_range]
    rw [List.getElem?_map]
    by_cases hj : j < m * sz
    · rw [List.getElem?_range hj]
      simp only [Option.map_some]
      have hm : j % sz < zv.cells.size := by rw [hzsz]; exact Nat.mod_lt _ hpos
      have e1 : zv.cells[j % sz]! = zv.cells.toList[j % sz]'(by simpa using hm) := by
        simp [getElem!_pos, hm]
      rw [e1]
      have e2 : ∀ (m j : Nat), j < m * sz → ((List.replicate m zv.cells.toList).flatten)[j]? = zv.cells.toList[j % sz]? := by
        intro m
        induction m with
        | zero => intro j hj; omega
        | succ m ih =>
          intro j hj
          simp only [List.replicate_succ, List.flatten_cons]
          by_cases hjs : j < sz
          · rw [List.getElem?_append_left (by simpa [hzsz] using hjs), Nat.mod_eq_of_lt hjs]
          · rw [List.getElem?_append_right (by simp [hzsz]; omega), Array.length_toList, hzsz, ih (j - sz) (by rw [Nat.add_mul] at hj; omega)]
            congr 1
            conv => rhs; rw [show j = j - sz + sz from by omega, Nat.add_mod_right]
      rw [e2 m j hj, List.getElem?_eq_getElem]
    · rw [List.getElem?_eq_none (by simpa using hj), List.getElem?_eq_none (by simp [hzsz]; omega)]
      rfl
  have hrel : ∀ m : Nat, RelL w (okOf C h L) h L (flatAll (List.replicate m z)) (List.replicate m zv.cells.toList).flatten := by
    intro m
    induction m with
    | zero => exact RelL.nil
    | succ m ih => simp only [List.replicate_succ, List.flatten_cons]; rw [flatAll_cons]; exact hz1.append ih
  have hone : ∀ c ∈ (madeCells zv.cells (n.toNat * sz)).toList, c.oneCell' = true := by
    intro c hc
    rw [hmade] at hc
    obtain ⟨l, hl, hcl⟩ := List.mem_flatten.1 hc
    rw [List.eq_of_mem_replicate hl] at hcl
    exact hz2 c (by simpa using hcl)
  obtain ⟨L', s, H', rr⟩ := pushOwn (w' := w') H (fun _ _ => False) h (fun _ => rfl) (fun _ _ => .inr ⟨fun e => e, rfl⟩) (a := a) (e := e) (sz := sz) (r := repR std n.toNat z) hown (by rw [repR_std, List.length_replicate]) (by rw [repR_std, hmade]; exact hrel _)
    (by rw [repR_std]; intro x hx; rw [List.eq_of_mem_replicate hx]; exact hzs) hone hpos hg (fun k hk => by cases hk) (.inl (Nat.le_refl _))
  exact ⟨w', L', _, .inl (by simp [execOp, ho, e1, e2, hr]), s, H', fun _ => rr⟩

theorem kill_dead {a i : Nat} (hl : blk h a i ≠ .dead) : (∀ b, nxt (setB h a i .dead) b = nxt h b) ∧ ∀ b j, blk (setB h a i .dead) b j = .dead ∨ (¬ (b = a ∧ j = i) ∧ blk (setB h a i .dead) b j = blk h b j) := by
  refine ⟨fun b => nxt_set _ _ _ _ _, fun b j => ?_⟩
  rw [blk_set hl]
  by_cases e : a = b ∧ i = j
  · rw [if_pos e]; exact .inl rfl
  · rw [if_neg e]; exact .inr ⟨fun e' => e ⟨e'.1.symm, e'.2.symm⟩, rfl⟩

theorem flats_of {sz : Nat} {r s : Row} (hr : ∀ x ∈ r.elems, x.flat.length = sz) (hs : ∀ x ∈ s.elems, x.flat.length = sz) : ∀ x ∈ r.elems ++ s.elems, x.flat.length = sz := fun x hx => by
  rcases List.mem_append.1 hx with hx | hx
  · exact hr x hx
  · exact hs x hx

/-- what is copied from: cells at an address -/
theorem source (H : HRel C h L w) {y : AV} {yv : Value} (ry : RelC C h L w y yv) {s : Row} (hc : contR std h y = some (true, s)) {sz : Nat} (hu : s.unit std sz = true) : ∃ ad c us, yv = .slice ad s.elems.length c ∧ RelL w (okOf C h L) h L (flatAll s.elems) us ∧ (∀ c ∈ us, c.oneCell' = true) ∧
    (∀ x ∈ s.elems, x.flat.length = sz) ∧ us.length = s.elems.length * sz ∧ (∀ a', ad = some a' → ∀ (j : Nat) (v : Value), us[j]? = some v → w.cell? (a'.add j) = some v) ∧ (ad = none → s.elems = []) := by
  obtain ⟨ad, m, c, rfl, rfl, hmc, hsome, hnone, sz', hfl⟩ := contents_rel H ry hc
  by_cases he : s.elems = []
  · exact ⟨ad, c, [], rfl, by rw [he]; exact RelL.nil, by simp, by rw [he]; simp, by rw [he]; simp, fun a' _ j v hj => by simp at hj, hnone⟩
  · have hss : sz' = sz := by
      have hg := Row.get_std (List.length_pos_iff.2 he)
      rw [← hfl _ (List.mem_of_getElem? hg), ← flatLen_std]
      unfold Row.unit at hu
      split at hu
      · exact absurd rfl he
      · simpa [std] using hu
    subst hss
    cases ad with
    | none => exact absurd (hnone rfl) he
    | some a' =>
      obtain ⟨us, e1, e2, e3, e4, _⟩ := hsome a' rfl he
      exact ⟨some a', c, us, rfl, e4, e2, hfl, by rw [e1, flatAll_length hfl], fun b e => by cases e; exact e3, fun e => by cases e⟩

theorem sound_append (H : HRel C h L w) {a : Nat} {t e : TypeId} {sz : Nat} {zv : Value} {i : TypeInfo} {x y : AV} {x' y' : Operand} (ho : o.op = .call { callee := .builtin .append, args := #[x', y'], argTypes := #[t, t] }) (rx : RelC C h L w x (ev x')) (ry : RelC C h L w y (ev y'))
    (ht : C.P.underlying t = some (.slice e)) (hi : C.P.info? e = some i) (hz : i.zero = some zv) (hzs : zv.cells.size = sz) (hsz : i.size = sz) (hpos : 0 < sz) (hby : i.bytes ≤ 32768)
    (hv : appR std h a e sz x y = some (true, v, h')) : Snd C h L w ev o h' v := by
  unfold appR at hv
  split at hv
  · cases hv
  · rename_i b s hcont
    have hun' : b = true → s.unit std sz = true → _ := fun e1 e2 => source H ry (e1 ▸ hcont) e2
    have hrun : ∀ v v' w', ev x' = v → (Builtin.append_ #[t, t] o.type #[v, ev y']).run C.P w = .ok v' w' → (execOp ev o).run C.P w = .ok (.value v') w' := fun v v' w' e1 e2 => by
      simp [execOp, ho, resolve, invoke, builtin, e1, e2]
    -- the general step: onto a value that owns vs
    have step : b = true → s.unit std sz = true → ∀ (v : Value) (n : Nat) (vs : List Value), w.ownsRow C.base e sz v n vs → n + s.elems.length ≤ 4294967296 →
        ∃ v' w' us, (Builtin.append_ #[t, t] o.type #[v, ev y']).run C.P w = .ok v' w' ∧ w'.ownsRow C.base e sz v' (n + s.elems.length) (vs ++ us) ∧ w.grownBy w' v.ownBlock ∧ (v'.ownBlock = v.ownBlock ∨ v'.ownBlock = some w.heap.size) ∧
          RelL w (okOf C h L) h L (flatAll s.elems) us ∧ (∀ c ∈ us, c.oneCell' = true) ∧ (∀ x ∈ s.elems, x.flat.length = sz) := by
      intro hb hu v n vs hown hle
      obtain ⟨ad, c, us, hyv, hrel, h1, hf, hul, hcl, hnone⟩ := hun' hb hu
      have hbb : (n + s.elems.length) * i.bytes ≤ 140737488355328 := by
        have := Nat.mul_le_mul hle hby; omega
      cases ad with
      | none =>
        have he := hnone rfl
        have hus : us = [] := List.eq_nil_of_length_eq_zero (by rw [hul, he]; simp)
        subst hus
        refine ⟨v, w, [], ?_, by rw [he]; simpa using hown, ⟨rfl, rfl, rfl, Nat.le_refl _, fun _ _ _ => rfl⟩, .inl rfl, hrel, by simp, hf⟩
        rw [hyv, he]
        rcases hown.2 with ⟨rfl, h0⟩ | ⟨g, cap, cur, rfl, _, _, hnc, _⟩
        · simp [Builtin.append_, run_und ht, sizeOf, typeInfo, hi, Builtin.lenOf, Builtin.firstCells]
        · simp [Builtin.append_, run_und ht, sizeOf, typeInfo, hi, Builtin.lenOf, Builtin.firstCells, hnc, storeCells]
      | some ad =>
        obtain ⟨v', w', e1, e2, e3, _, e5⟩ := run_append_own_at (P := C.P) w C.base t o.type e i zv sz i.bytes ht hi hz hsz rfl hzs hpos v n vs hown ad s.elems.length c us hul (hcl ad rfl) h1 (by simp [maxLen]; omega) hbb H.hbase
        exact ⟨v', w', us, by rw [hyv]; exact e1, e2, e3, e5, hrel, h1, hf⟩
    split at hv
    · -- onto nil
      have hxv : ev x' = .slice none 0 0 := by generalize ev x' = xv at rx; cases rx; rfl
      split at hv
      · simp only [Option.some.injEq, Prod.mk.injEq, std_and] at hv
        obtain ⟨⟨rfl, hu⟩, rfl, rfl⟩ := hv
        obtain ⟨ad, c, us, hyv, hrel, h1, hf, hul, hcl, hnone⟩ := hun' rfl hu
        refine .pure H (hrun _ (.slice none 0 0) w hxv ?_) .nils
        rw [hyv]
        cases ad <;> simp [Builtin.append_, run_und ht, sizeOf, typeInfo, hi, Builtin.lenOf, Builtin.firstCells, Row.elems, loadCells, loadCellsFrom]
      · simp only [Option.some.injEq, Prod.mk.injEq, std_and] at hv
        obtain ⟨⟨⟨rfl, hu⟩, hle, hne⟩, rfl, rfl⟩ := hv
        have hle : s.elems.length ≤ 4294967296 := by rw [Row.len_std] at hle; simpa [std] using hle
        have hne : 0 < s.elems.length := by rw [Row.len_std] at hne; simpa [std] using hne
        obtain ⟨v', w', us, e1, e2, e3, e4, e5, e6, e7⟩ := step rfl hu (.slice none 0 0) 0 [] (World.ownsRow_nil _ _ _ _) (by omega)
        obtain ⟨g, cap, rfl⟩ : ∃ g cap, v' = .slice (some ⟨g, 0, none⟩) (0 + s.elems.length) cap := by
          rcases e2.2 with ⟨_, h0⟩ | ⟨g, cap, cur, rfl, _⟩
          · omega
          · exact ⟨g, cap, rfl⟩
        simp only [Value.ownBlock, reduceCtorEq, false_or, Option.some.injEq] at e4
        obtain ⟨L', s', H', rr⟩ := pushOwn (w' := w') H (fun _ _ => False) h (fun _ => rfl) (fun _ _ => .inr ⟨fun e => e, rfl⟩) (a := a) (e := e) (sz := sz) (r := s) e2 (by simp) (by simpa using e5) e7 (by simpa using e6) hpos e3 (fun k hk => by cases hk) (.inl (by omega))
        exact ⟨w', L', _, .inl (hrun _ _ _ hxv e1), s', H', fun _ => rr⟩
    · rename_i c j
      split at hv
      · rename_i e' sz' r hbk
        simp only [Option.some.injEq, Prod.mk.injEq, std_and] at hv
        obtain ⟨⟨⟨rfl, hu⟩, he, hs, hle⟩, rfl, rfl⟩ := hv
        have he : e' = e := by simpa [std] using he
        have hs : sz' = sz := by simpa [std] using hs
        subst he; subst hs
        have hle : r.elems.length + s.elems.length ≤ 4294967296 := by rw [Row.len_std, Row.len_std] at hle; simpa [std] using hle
        obtain ⟨htg, g0, g1, g2, g3, cur, h4, h5, h6, h7, h8⟩ := H.rowAt hbk
        generalize hxv : ev x' = xv at rx
        cases rx with
        | row _ _ g oo n cc hn hl =>
          obtain ⟨rfl, rfl, rfl, rfl⟩ := hl.2 _ htg
          have hown : w.ownsRow C.base e' sz' (.slice (some ⟨L.loc c j, 0, none⟩) r.elems.length (L.size c j)) r.elems.length (cur.toList.take (r.elems.length * sz')) :=
            ⟨by rw [← h6.1, flatAll_length g3], .inr ⟨_, _, cur, rfl, (H.live c j (by rw [htg]; simp)).1, h4, g2, g1, h5, rfl⟩⟩
          obtain ⟨v', w', us, e1, e2, e3, e4, e5, e6, e7⟩ := step rfl hu _ _ _ hown hle
          obtain ⟨g, cap, rfl⟩ : ∃ g cap, v' = .slice (some ⟨g, 0, none⟩) (r.elems.length + s.elems.length) cap := by
            rcases e2.2 with ⟨rfl, h0⟩ | ⟨g, cap, cur, rfl, _⟩
            · simp [Value.ownBlock] at e4
            · exact ⟨g, cap, rfl⟩
          simp only [Value.ownBlock, Option.some.injEq] at e3 e4
          have hnd : blk h c j ≠ .dead := by rw [hbk]; simp
          obtain ⟨k1, k2⟩ := kill_dead hnd
          obtain ⟨L', s', H', rr⟩ := pushOwn (w' := w') H (fun b i => b = c ∧ i = j) (setB h c j .dead) k1 k2 (a := a) (e := e') (sz := sz') (r := r.app std s) e2 (by rw [Row.app_std, List.length_append]) (by rw [Row.app_std, flatAll_append]; exact h6.append e5)
            (by rw [Row.app_std]; exact flats_of g3 e7) (fun c hc => by
              rcases List.mem_append.1 hc with hc | hc
              · exact h7 c hc
              · exact e6 c hc) g0 e3 (fun k hk => ⟨c, j, ⟨rfl, rfl⟩, by rw [htg]; simp, by cases hk; rfl⟩) (by
              rcases e4 with e4 | e4
              · exact .inr (by rw [e4])
              · exact .inl (by omega))
          rw [k1]
          exact ⟨w', L', _, .inl (hrun _ _ _ hxv e1), s', H', fun _ => rr⟩
      · cases hv
    · rename_i c j n
      split at hv
      · rename_i e' sz' r hbk
        simp only [Option.some.injEq, Prod.mk.injEq, std_and] at hv
        obtain ⟨⟨⟨rfl, hu⟩, he, hs, hle⟩, rfl, rfl⟩ := hv
        have he : e' = e := by simpa [std] using he
        have hs : sz' = sz := by simpa [std] using hs
        subst he; subst hs
        have hle : n + s.elems.length ≤ r.elems.length := by rw [Row.len_std, Row.len_std] at hle; simpa [std] using hle
        obtain ⟨ad, c', us, hyv, hrel, h1, hf, hul, hcl, hnone⟩ := hun' rfl hu
        obtain ⟨htg, g0, g1, g2, g3, cur0, h4, h5, h6, h7, h8⟩ := H.rowAt hbk
        have hel : (r.blit std n s).elems = spl r.elems n s.elems := Row.blit_std _ _ _
        have hfl' : flatAll (r.blit std n s).elems = spl (flatAll r.elems) (n * sz') (flatAll s.elems) := by
          rw [hel]; unfold spl
          rw [flatAll_append, flatAll_append, flatAll_take _ _ g3, flatAll_drop _ _ g3, flatAll_length hf, Nat.add_mul]
        have hlen : (r.blit std n s).elems.length = r.elems.length := by rw [hel, spl_length hle]
        have hff : ∀ x ∈ (r.blit std n s).elems, x.flat.length = sz' := fun x hx => by
          rw [hel] at hx
          rcases spl_mem hx with hx | hx
          · exact g3 x hx
          · exact hf x hx
        obtain ⟨cur, h4', hfit, hst, H'⟩ := H.write hbk (r' := r.blit std n s) hfl' hlen hff (by rw [flatAll_length hf, ← Nat.add_mul]; exact Nat.mul_le_mul_right _ hle) hrel h1
        generalize hxv : ev x' = xv at rx
        cases rx with
        | slc _ _ _ _ _ g oo cc hn hl =>
          rcases hl.2 _ htg with ⟨h0, _⟩ | ⟨rfl, rfl, hkc, hcc⟩
          · exact absurd rfl h0
          have hcc : cc = L.size c j := by simpa using hcc
          subst hcc
          have hroom : n + s.elems.length ≤ L.size c j := by omega
          have htag : ∀ sz, (blk (setB h c j (.row e' sz' (r.blit std n s))) c j).tag = some sz → sz = (sz', r.elems.length) := fun sz hsz => by
            rw [blk_set (by rw [hbk]; simp), if_pos ⟨rfl, rfl⟩] at hsz
            simp only [Blk.tag, hlen, Option.some.injEq] at hsz
            exact hsz.symm
          refine ⟨_, L, .slice (some ⟨L.loc c j, 0 * sz', none⟩) (n + s.elems.length) (L.size c j), .inl (hrun _ _ _ hxv ?_), hst, H', fun _ => ?_⟩
          · cases ad with
            | none =>
              have he := hnone rfl
              have hus : us = [] := List.eq_nil_of_length_eq_zero (by rw [hul, he]; simp)
              subst hus
              have hw : w.setRow (L.loc c j) (spl cur.toList (n * sz') []).toArray = w := by
                have : (spl cur.toList (n * sz') ([] : List Value)).toArray = cur := by simp [spl]
                rw [this]; exact setRow_self w _ cur e' (0, 0) h4'
              rw [hw, hyv, he]
              simp [Builtin.append_, run_und ht, sizeOf, typeInfo, hi, Builtin.lenOf, Builtin.firstCells, storeCells, hn]
            | some ad =>
              have hra := run_append_room (P := C.P) w t o.type e' i ht hi (L.loc c j) n (L.size c j) cur h4' ad s.elems.length c' us (by rw [hsz]; exact hul) (hcl ad rfl) h1 hroom (by rw [hsz]; exact hfit)
              rw [hsz] at hra
              rw [hyv, Nat.zero_mul]
              exact hra
          · rw [Row.len_std]
            refine .slc _ _ _ _ _ _ _ _ hroom ⟨by rw [nxt_set]; exact hl.1, fun sz hsz => ?_⟩
            have := htag sz hsz
            subst this
            exact .inr ⟨rfl, rfl, by omega, by simp⟩
      · cases hv
    · cases hv

theorem sound_appz (H : HRel C h L w) {a : Nat} {t tn e : TypeId} {sz : Nat} {z x : AV} {zv : Value} {i : TypeInfo} {kn kd : IntKind} {n : Int} {x' l' : Operand} (ho : o.op = .call { callee := .builtin .append, args := #[x', l'], argTypes := #[t, tn] }) (rx : RelC C h L w x (ev x')) (e1 : ev l' = .int kd n)
    (ht : C.P.underlying t = some (.slice e)) (htn : C.P.underlying tn = some (.int kn)) (hi : C.P.info? e = some i) (hz : i.zero = some zv) (hzm : zmatch z zv = true) (hzs : zv.cells.size = sz) (hsz : i.size = sz) (hpos : 0 < sz) (hby : i.bytes ≤ 32768) (hzl : z.flat.length = sz) (hzb : z.bx = true)
    (hv : appzR std h a e sz z x n = some (true, v, h')) : Snd C h L w ev o h' v := by
  have hzr : RelC C h L w z zv := zmatch_rel hzm
  obtain ⟨hz1, hz2⟩ := hzr.cells hzb
  have hrel : ∀ m : Nat, RelL w (okOf C h L) h L (flatAll (List.replicate m z)) (List.replicate m zv.cells.toList).flatten := by
    intro m
    induction m with
    | zero => exact RelL.nil
    | succ m ih => simp only [List.replicate_succ, List.flatten_cons]; rw [flatAll_cons]; exact hz1.append ih
  have hone : ∀ (m : Nat), ∀ c ∈ (List.replicate m zv.cells.toList).flatten, c.oneCell' = true := by
    intro m c hc
    obtain ⟨l, hl, hcl⟩ := List.mem_flatten.1 hc
    rw [List.eq_of_mem_replicate hl] at hcl
    exact hz2 c (by simpa using hcl)
  have hrun : ∀ v v' w', ev x' = v → (Builtin.append_ #[t, tn] o.type #[v, .int kd n]).run C.P w = .ok v' w' → (execOp ev o).run C.P w = .ok (.value v') w' := fun v v' w' e2 e3 => by
    simp [execOp, ho, resolve, invoke, builtin, e1, e2, e3]
  have step : 0 ≤ n → ∀ (v : Value) (k : Nat) (vs : List Value), w.ownsRow C.base e sz v k vs → k + n.toNat ≤ 4294967296 →
      ∃ v' w', (Builtin.append_ #[t, tn] o.type #[v, .int kd n]).run C.P w = .ok v' w' ∧ w'.ownsRow C.base e sz v' (k + n.toNat) (vs ++ (List.replicate n.toNat zv.cells.toList).flatten) ∧ w.grownBy w' v.ownBlock ∧ (v'.ownBlock = v.ownBlock ∨ v'.ownBlock = some w.heap.size) := by
    intro hn v k vs hown hle
    have hbb : (k + n.toNat) * i.bytes ≤ 140737488355328 := by
      have := Nat.mul_le_mul hle hby; omega
    have hzl := zero_list zv hzs hpos n.toNat
    obtain ⟨v', w', r1, r2, r3, r4⟩ := append_own_zeros (P := C.P) w C.base t tn o.type e i zv sz i.bytes kd kn ht htn hi hz hsz rfl hzs hpos v k vs hown n.toNat (by rw [hzl]; exact hone _) (by simp [maxLen]; omega) hbb H.hbase
    have hnn : ((n.toNat : Nat) : Int) = n := by omega
    rw [hnn] at r1
    rw [hzl] at r2
    exact ⟨v', w', r1, r2, r3, r4⟩
  have hfl : ∀ (m : Nat), ∀ y ∈ (repR std m z).elems, y.flat.length = sz := fun m => by
    rw [repR_std]; intro y hy; rw [List.eq_of_mem_replicate hy]; exact hzl
  unfold appzR at hv
  split at hv
  · have hxv : ev x' = .slice none 0 0 := by generalize ev x' = xv at rx; cases rx; rfl
    simp only [Option.some.injEq, Prod.mk.injEq, std_and] at hv
    obtain ⟨⟨h0, hle⟩, rfl, rfl⟩ := hv
    have h0 : 0 < n := by simpa [std] using h0
    have hle : n ≤ 4294967296 := by simpa [std] using hle
    obtain ⟨v', w', r1, r2, r3, r4⟩ := step (by omega) (.slice none 0 0) 0 [] (World.ownsRow_nil _ _ _ _) (by omega)
    obtain ⟨g, cap, rfl⟩ : ∃ g cap, v' = .slice (some ⟨g, 0, none⟩) (0 + n.toNat) cap := by
      rcases r2.2 with ⟨_, h0⟩ | ⟨g, cap, cur, rfl, _⟩
      · omega
      · exact ⟨g, cap, rfl⟩
    simp only [Value.ownBlock, reduceCtorEq, false_or, Option.some.injEq] at r4
    obtain ⟨L', s', H', rr⟩ := pushOwn (w' := w') H (fun _ _ => False) h (fun _ => rfl) (fun _ _ => .inr ⟨fun e => e, rfl⟩) (a := a) (e := e) (sz := sz) (r := repR std n.toNat z) r2 (by rw [repR_std, List.length_replicate]; omega) (by rw [repR_std]; simpa using hrel n.toNat) (hfl _) (by simpa using hone n.toNat) hpos r3 (fun k hk => by cases hk) (.inl (by omega))
    exact ⟨w', L', _, .inl (hrun _ _ _ hxv r1), s', H', fun _ => rr⟩
  · rename_i c j
    split at hv
    · rename_i e' sz' r hbk
      simp only [Option.some.injEq, Prod.mk.injEq, std_and] at hv
      obtain ⟨⟨h0, he, hs, hle⟩, rfl, rfl⟩ := hv
      have h0 : 0 ≤ n := by simpa [std] using h0
      have he : e' = e := by simpa [std] using he
      have hs : sz' = sz := by simpa [std] using hs
      subst he; subst hs
      have hle : r.elems.length + n.toNat ≤ 4294967296 := by rw [Row.len_std] at hle; simpa [std] using hle
      obtain ⟨htg, g0, g1, g2, g3, cur, h4, h5, h6, h7, h8⟩ := H.rowAt hbk
      generalize hxv : ev x' = xv at rx
      cases rx with
      | row _ _ g oo n' cc hn hl =>
        obtain ⟨rfl, rfl, rfl, rfl⟩ := hl.2 _ htg
        have hown : w.ownsRow C.base e' sz' (.slice (some ⟨L.loc c j, 0, none⟩) r.elems.length (L.size c j)) r.elems.length (cur.toList.take (r.elems.length * sz')) :=
          ⟨by rw [← h6.1, flatAll_length g3], .inr ⟨_, _, cur, rfl, (H.live c j (by rw [htg]; simp)).1, h4, g2, g1, h5, rfl⟩⟩
        obtain ⟨v', w', r1, r2, r3, r4⟩ := step h0 _ _ _ hown hle
        obtain ⟨g, cap, rfl⟩ : ∃ g cap, v' = .slice (some ⟨g, 0, none⟩) (r.elems.length + n.toNat) cap := by
          rcases r2.2 with ⟨rfl, h0⟩ | ⟨g, cap, cur, rfl, _⟩
          · simp [Value.ownBlock] at r4
          · exact ⟨g, cap, rfl⟩
        simp only [Value.ownBlock, Option.some.injEq] at r3 r4
        have hnd : blk h c j ≠ .dead := by rw [hbk]; simp
        obtain ⟨k1, k2⟩ := kill_dead hnd
        obtain ⟨L', s', H', rr⟩ := pushOwn (w' := w') H (fun b i => b = c ∧ i = j) (setB h c j .dead) k1 k2 (a := a) (e := e') (sz := sz') (r := r.app std (repR std n.toNat z)) r2 (by rw [Row.app_std, List.length_append, repR_std, List.length_replicate]) (by rw [Row.app_std, flatAll_append, repR_std]; exact h6.append (hrel _))
          (by rw [Row.app_std]; exact flats_of g3 (hfl _)) (fun c hc => by
            rcases List.mem_append.1 hc with hc | hc
            · exact h7 c hc
            · exact hone _ c hc) g0 r3 (fun k hk => ⟨c, j, ⟨rfl, rfl⟩, by rw [htg]; simp, by cases hk; rfl⟩) (by
            rcases r4 with e4 | e4
            · exact .inr (by rw [e4])
            · exact .inl (by omega))
        rw [k1]
        exact ⟨w', L', _, .inl (hrun _ _ _ hxv r1), s', H', fun _ => rr⟩
    · cases hv
  · cases hv
end
end Go.Proofs.Ytjhdnpmojhkbjaa
