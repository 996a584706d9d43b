/- Soundness of the operations that turn memory. No condition. -/
import Derived.Test.YtjhdnpmojhkbjaaXf
namespace Go.Proofs.Ytjhdnpmojhkbjaa
open Go.RowKit (Below)

def spl {α : Type} (l : List α) (o : Nat) (ys : List α) : List α := l.take o ++ ys ++ l.drop (o + ys.length)
theorem spl_length {α : Type} {l : List α} {o : Nat} {ys : List α} (h : o + ys.length ≤ l.length) : (spl l o ys).length = l.length := by simp [spl]; omega
theorem spl_get {α : Type} {l : List α} {o : Nat} {ys : List α} (h : o + ys.length ≤ l.length) (j : Nat) : (spl l o ys)[j]? = if o ≤ j ∧ j < o + ys.length then ys[j - o]? else l[j]? := by
  unfold spl
  by_cases h1 : j < o
  · rw [if_neg (by omega), List.append_assoc, List.getElem?_append_left (by simp; omega), List.getElem?_take, if_pos h1]
  · rw [List.append_assoc, List.getElem?_append_right (by simp; omega)]
    have hl : (l.take o).length = o := by simp; omega
    rw [hl]
    by_cases h2 : j < o + ys.length
    · rw [if_pos ⟨by omega, h2⟩, List.getElem?_append_left (by omega)]
    · rw [if_neg (by omega), List.getElem?_append_right (by omega), List.getElem?_drop]
      congr 1; omega
theorem spl_mem {α : Type} {l : List α} {o : Nat} {ys : List α} {x : α} (h : x ∈ spl l o ys) : x ∈ l ∨ x ∈ ys := by
  simp only [spl, List.mem_append] at h
  rcases h with (h | h) | h
  · exact .inl (List.mem_of_mem_take h)
  · exact .inr h
  · exact .inl (List.mem_of_mem_drop h)
theorem RelL.spl {w : World} {ok : Nat → Prop} {h : AHeap} {L : Lay} {us xs : List AV} {vs ys : List Value} (hr : RelL w ok h L us vs) (hx : RelL w ok h L xs ys) (o : Nat) (ho : o + xs.length ≤ us.length) :
    RelL w ok h L (Ytjhdnpmojhkbjaa.spl us o xs) (Ytjhdnpmojhkbjaa.spl vs o ys) := by
  have h1 := hr.1
  have h2 := hx.1
  refine ⟨by rw [spl_length ho, spl_length (by omega)]; exact h1, fun j u v hu hv => ?_⟩
  rw [spl_get ho] at hu
  rw [spl_get (by omega)] at hv
  by_cases hc : o ≤ j ∧ j < o + xs.length
  · rw [if_pos hc] at hu
    rw [if_pos (by omega)] at hv
    exact hx.2 _ u v hu hv
  · rw [if_neg hc] at hu
    rw [if_neg (by omega)] at hv
    exact hr.2 _ u v hu hv
theorem set_eq_spl {α : Type} (l : List α) (k : Nat) (x : α) (h : k < l.length) : l.set k x = spl l k [x] := by
  apply List.ext_getElem?
  intro j
  rw [spl_get (by simp; omega)]
  by_cases hj : k = j
  · subst hj; rw [List.getElem?_set_self h, if_pos (by simp)]; simp
  · rw [List.getElem?_set_ne hj, if_neg (by simp; omega)]
/-- an element is put in among the others -/
theorem flatAll_set {sz : Nat} : ∀ {xs : List AV} {k : Nat} {v : AV}, (∀ x ∈ xs, x.flat.length = sz) → k < xs.length → v.flat.length = sz → flatAll (xs.set k v) = spl (flatAll xs) (k * sz) v.flat := by
  intro xs k v hf hk hv
  have e : xs.set k v = xs.take k ++ [v] ++ xs.drop (k + 1) := by rw [set_eq_spl _ _ _ hk]; rfl
  rw [e, flatAll_append, flatAll_append, flatAll_take _ _ hf, flatAll_drop _ _ hf]
  unfold spl
  rw [hv, Nat.add_mul, Nat.one_mul]
  simp [flatAll]
theorem flats_set {sz : Nat} {xs : List AV} {k : Nat} {v : AV} (hf : ∀ x ∈ xs, x.flat.length = sz) (hv : v.flat.length = sz) : ∀ x ∈ xs.set k v, x.flat.length = sz := by
  intro x hx
  rcases List.mem_or_eq_of_mem_set hx with hx | rfl
  · exact hf x hx
  · exact hv
theorem spl_spl {α : Type} {l : List α} {k sz off : Nat} {u xs : List α} (hk : k + sz ≤ l.length) (hu : ∀ j, j < sz → l[k + j]? = u[j]?) (hul : u.length = sz) (ho : off + xs.length ≤ sz) : spl l k (spl u off xs) = spl l (k + off) xs := by
  have hl : (spl u off xs).length = sz := by rw [spl_length (by omega)]; exact hul
  apply List.ext_getElem?
  intro j
  rw [spl_get (l := l) (o := k) (ys := spl u off xs) (by omega), spl_get (l := l) (o := k + off) (ys := xs) (by omega), hl]
  by_cases h1 : k ≤ j ∧ j < k + sz
  · rw [if_pos h1, spl_get (by omega)]
    by_cases h2 : off ≤ j - k ∧ j - k < off + xs.length
    · rw [if_pos h2, if_pos (by omega)]; congr 1; omega
    · rw [if_neg h2, if_neg (by omega), ← hu _ (by omega)]; congr 1; omega
  · rw [if_neg h1, if_neg (by omega)]

theorem put_std {sz n off : Nat} {u x v : AV} (hu : u.flat.length = sz) (hv : putE std sz n off u x = some (true, v)) : x.bx = true ∧ x.flat.length = n ∧ off + n ≤ sz ∧ v.flat = spl u.flat off x.flat := by
  unfold putE at hv
  split at hv
  · rename_i us xs
    split at hv
    · rename_i e1 e2
      have e1 : off = 0 := by simpa using e1
      have e2 : n = sz := by simpa using e2
      subst e1; subst e2
      simp only [Option.some.injEq, Prod.mk.injEq] at hv
      obtain ⟨hl, rfl⟩ := hv
      have hl : xs.elems.length = n := by rw [Row.len_std] at hl; simpa [std] using hl
      refine ⟨rfl, hl, by omega, ?_⟩
      have : (AV.agg us).flat = us.elems := rfl
      simp only [spl, AV.flat, List.take_zero, List.nil_append]
      rw [List.drop_of_length_le (by rw [this] at hu; omega), List.append_nil]
    · simp only [Option.some.injEq, Prod.mk.injEq, std_and] at hv
      obtain ⟨⟨hl, hle⟩, rfl⟩ := hv
      have hl : xs.elems.length = n := by rw [Row.len_std] at hl; simpa [std] using hl
      have hle : off + n ≤ sz := by simpa [std] using hle
      exact ⟨rfl, hl, hle, Row.blit_std _ _ _⟩
  · rename_i us hx
    simp only [Option.some.injEq, Prod.mk.injEq, std_and] at hv
    obtain ⟨⟨⟨hb, hn⟩, hlt⟩, rfl⟩ := hv
    have hn : n = 1 := by simpa [std] using hn
    have hlt : off < sz := by simpa [std] using hlt
    subst hn
    have hf : x.flat = [x] := flat_single (by cases x <;> first | rfl | exact (hx _ rfl).elim)
    refine ⟨hb, by rw [hf]; rfl, hlt, ?_⟩
    rw [hf]
    show (us.set std off x).elems = _
    rw [Row.set_std]
    exact set_eq_spl _ _ _ (by rw [show us.elems.length = sz from hu]; exact hlt)
  · rename_i hx1 hx2
    simp only [Option.some.injEq, Prod.mk.injEq, std_and] at hv
    obtain ⟨⟨⟨hb, h0⟩, hn, hl⟩, rfl⟩ := hv
    have h0 : off = 0 := by simpa [std] using h0
    have hn : n = sz := by simpa [std] using hn
    subst h0; subst hn
    have hl : x.flat.length = n := by
      rw [flatLen_std] at hl; simpa [std] using hl
    refine ⟨hb, hl, by omega, ?_⟩
    simp only [spl, List.take_zero, List.nil_append]
    rw [List.drop_of_length_le (by omega), List.append_nil]

section
variable {C : Ctx} {o : Oper} {ρ : Opd → AV} {ev : Operand → Value} {h h' : AHeap} {w w' : World} {L : Lay} {v : AV} {P : Program}

theorem setRow_grown (w : World) (g : Nat) (cs : Array Value) : w.grownBy (w.setRow g cs) (some g) := ⟨rfl, rfl, rfl, by simp, fun k _ hne => setRow_other w g k cs (fun e => hne (by rw [e]))⟩

/-- so many cells of a tracked row are written -/
theorem HRel.write (H : HRel C h L w) {a i e sz : Nat} {r r' : Row} (hb : blk h a i = .row e sz r) {q : Nat} {xs : List AV} {ys : List Value} (hr' : flatAll r'.elems = spl (flatAll r.elems) q xs) (hlen : r'.elems.length = r.elems.length) (hf : ∀ x ∈ r'.elems, x.flat.length = sz)
    (hq : q + xs.length ≤ r.elems.length * sz) (hx : RelL w (okOf C h L) h L xs ys) (h1 : ∀ c ∈ ys, c.oneCell' = true) :
    ∃ cur : Array Value, w.heap[L.loc a i]? = some (.cells cur e (0, 0)) ∧ q + ys.length ≤ cur.size ∧
      Step w (okOf C h L) h L (w.setRow (L.loc a i) (spl cur.toList q ys).toArray) (okOf C (setB h a i (.row e sz r')) L) (setB h a i (.row e sz r')) L ∧ HRel C (setB h a i (.row e sz r')) L (w.setRow (L.loc a i) (spl cur.toList q ys).toArray) := by
  obtain ⟨ht, h0, g1, g2, g3, cur, h4, h5, h6, h7, h8⟩ := H.rowAt hb
  have hfl := flatAll_length g3
  have hxl := hx.1
  have hge : r.elems.length * sz ≤ cur.size := by rw [h5]; exact Nat.mul_le_mul_right _ g2
  have hqc : q + ys.length ≤ cur.size := by omega
  refine ⟨cur, h4, hqc, H.set (by rw [ht]; simp) (by rw [ht]; simp [Blk.tag, hlen]) (setRow_grown _ _ _) (fun s => ?_)⟩
  have htake : ((spl cur.toList q ys).toArray.toList).take (r'.elems.length * sz) = spl (cur.toList.take (r.elems.length * sz)) q ys := by
    rw [hlen, List.toList_toArray]
    apply List.ext_getElem?
    intro j
    rw [spl_get (by simp; omega), List.getElem?_take, spl_get (by simpa using hqc), List.getElem?_take]
    by_cases hj : j < r.elems.length * sz
    · rw [if_pos hj, if_pos hj]
    · rw [if_neg hj, if_neg hj, if_neg (by omega)]
  refine ⟨h0, g1, by rw [hlen]; exact g2, hf, _, setRow_heap w _ cur _ e (0, 0) h4, by simp only [List.size_toArray]; rw [spl_length (by simpa using hqc)]; simpa using h5, ?_, ?_⟩
  · rw [htake, hr']
    exact (h6.spl hx q (by omega)).step s
  · rw [htake]
    intro c hc
    rcases spl_mem hc with hc | hc
    · exact h7 c hc
    · exact h1 c hc

theorem sound_store (H : HRel C h L w) {t : TypeId} {i : TypeInfo} {n : Nat} {p x : AV} {p' x' : Operand} (ho : o.op = .store t p' x') (hd : o.dst = none) (rp : RelC C h L w p (ev p')) (rx : RelC C h L w x (ev x'))
    (hi : C.P.info? t = some i) (hn : i.size = n) (hv : storeR std h n p x = some (true, v, h')) : Snd C h L w ev o h' v := by
  unfold storeR at hv
  split at hv
  · rename_i a j k off
    split at hv
    · rename_i e sz r hb
      split at hv
      · rename_i b u hput
        simp only [Option.some.injEq, Prod.mk.injEq, std_and] at hv
        obtain ⟨⟨hk, rfl⟩, rfl, rfl⟩ := hv
        have hk : k < r.elems.length := by rw [Row.len_std] at hk; simpa [std] using hk
        obtain ⟨ht, h0, g1, g2, g3, cur0, h4, _⟩ := H.rowAt hb
        have hget := Row.get_std hk
        have hul := g3 _ (List.mem_of_getElem? hget)
        obtain ⟨hbx, hxl, hon, hvf⟩ := put_std hul hput
        obtain ⟨c1, c2⟩ := rx.cells hbx
        have hge : k * sz + sz ≤ r.elems.length * sz := by
          have := Nat.mul_le_mul_right sz (Nat.succ_le_of_lt hk)
          rwa [Nat.succ_mul] at this
        have hfa := flatAll_length g3
        have hvl : u.flat.length = sz := by rw [hvf, spl_length (by omega)]; exact hul
        have hfl' : flatAll (r.set std k u).elems = spl (flatAll r.elems) (k * sz + off) x.flat := by
          rw [Row.set_std, flatAll_set g3 hk hvl, hvf]
          exact spl_spl (by omega) (fun j hj => elem_sub g3 hget j hj) hul (by omega)
        obtain ⟨cur, h4', hfit, hs, H'⟩ := H.write hb (r' := r.set std k u) hfl' (by rw [Row.set_std, List.length_set]) (by rw [Row.set_std]; exact flats_set g3 hvl) (by omega) c1 (by simpa using c2)
        generalize hpv : ev p' = pv at rp
        cases rp with
        | ptr _ _ _ _ g oo hl =>
          obtain ⟨rfl, rfl⟩ := hl.2 _ ht
          refine ⟨_, L, undef, .inr ⟨?_, hd⟩, hs, H', fun e => absurd hd e⟩
          have hst := run_storeCells_at C.P (L.loc a j) (k * sz + off) e (ev x').cells.toList 0 cur w h4' (by simpa using hfit) (by simpa using c2)
          have hsz : (ev x').cells.size = i.size := by rw [hn, ← Array.length_toList, ← c1.1]; exact hxl
          simp only [Nat.add_zero] at hst
          simp only [execOp, ho, Instr.storeAt, hpv, Instr.sureAddr, Sem.run_bind, Sem.run_pure, Result.andThen_ok, storeVar, run_size hi, hsz, ne_eq, not_true_eq_false, if_false, hst]
          rfl
      · cases hv
    · cases hv
  · cases hv

/-- a new block of cells, all of them known -/
theorem HRel.newRow (H : HRel C h L w) (a : Nat) {e sz : Nat} {r : Row} {cur : Array Value} (hsz : 0 < sz) (hf : ∀ x ∈ r.elems, x.flat.length = sz) (hr : RelL w (okOf C h L) h L (flatAll r.elems) cur.toList) (h1 : ∀ c ∈ cur, c.oneCell' = true) (hm : r.elems.length ≤ maxLen) :
    Step w (okOf C h L) h L (w.alloc (.cells cur e)) (okOf C (pushB h a (.row e sz r)) (L.put a (nxt h a) w.heap.size r.elems.length)) (pushB h a (.row e sz r)) (L.put a (nxt h a) w.heap.size r.elems.length) ∧
    HRel C (pushB h a (.row e sz r)) (L.put a (nxt h a) w.heap.size r.elems.length) (w.alloc (.cells cur e)) := by
  have hl : r.elems.length * sz = cur.size := by have := hr.1; rw [flatAll_length hf] at this; simpa using this
  refine H.push a _ _ _ ((Below.refl _ _).alloc (Nat.le_refl _) _) ⟨Nat.le_refl _, by simp⟩ (fun s => ⟨hsz, hm, Nat.le_refl _, hf, cur, heap_alloc_new w _, by rw [← hl], ?_, ?_⟩)
  · rw [hl, List.take_of_length_le (by simp)]; exact hr.step s
  · intro c hc; exact h1 c (by simpa using List.mem_of_mem_take hc)
theorem tag_push (h : AHeap) (a : Nat) (b : Blk) : blk (pushB h a b) a (nxt h a) = b := by rw [blk_push, if_pos ⟨rfl, rfl⟩]
theorem live_push {h : AHeap} {L : Lay} {a : Nat} {b : Blk} {g n : Nat} {p : Nat → Nat × Nat → Prop} (hp : ∀ sz, b.tag = some sz → p g sz) : Live (pushB h a b) (L.put a (nxt h a) g n) a (nxt h a) p := by
  refine ⟨by rw [nxt_push, if_pos rfl]; omega, fun sz hsz => ?_⟩
  rw [tag_push] at hsz
  rw [Lay.put_loc]; exact hp sz hsz

theorem newBox (H : HRel C h L w) (a : Nat) (e : TypeId) {x : AV} {xv : Value} (hx : RelC C h L w x xv) (hb : x.bx = true) (hpos : 0 < x.flat.length) :
    ∃ L', Step w (okOf C h L) h L (w.alloc (.cells xv.cells e)) (okOf C (pushB h a (.row e (flatLen std x) (.gen [x]))) L') (pushB h a (.row e (flatLen std x) (.gen [x]))) L' ∧ HRel C (pushB h a (.row e (flatLen std x) (.gen [x]))) L' (w.alloc (.cells xv.cells e)) ∧
      RelC C (pushB h a (.row e (flatLen std x) (.gen [x]))) L' (w.alloc (.cells xv.cells e)) (.ptr a (nxt h a) 0 0) (.pointer (some ⟨w.heap.size, 0, none⟩)) := by
  obtain ⟨c1, c2⟩ := hx.cells hb
  have hn := H.newRow a (e := e) (sz := flatLen std x) (r := .gen [x]) (cur := xv.cells) (by rw [flatLen_std]; exact hpos) (by simp [Row.elems, flatLen_std]) (by simpa [Row.elems, flatAll] using c1) c2 (by simp [Row.elems, maxLen])
  refine ⟨_, hn.1, hn.2, .ptr _ _ _ _ _ _ (live_push (fun sz hsz => ⟨rfl, by simp⟩))⟩

theorem sound_box (H : HRel C h L w) {a : Nat} {e : TypeId} {x : AV} {x' : Operand} (ho : o.op = .box e x') (rx : RelC C h L w x (ev x')) (hb : x.bx = true) (hpos : 0 < x.flat.length) : Snd C h L w ev o (pushB h a (.row e (flatLen std x) (.gen [x]))) (.ptr a (nxt h a) 0 0) := by
  obtain ⟨L', s, H', r⟩ := newBox H a e rx hb hpos
  exact ⟨_, L', .pointer (some ⟨w.heap.size, 0, none⟩), .inl (by simp [execOp, ho, Instr.box, newVar, newRow]), s, H', fun _ => r⟩
theorem sound_alloc (H : HRel C h L w) {a : Nat} {e : TypeId} {i : TypeInfo} {z : AV} {zv : Value} (ho : o.op = .alloc e) (hi : C.P.info? e = some i) (hz : i.zero = some zv) (hm : zmatch z zv = true) (hb : z.bx = true) (hpos : 0 < z.flat.length) :
    Snd C h L w ev o (pushB h a (.row e (flatLen std z) (.gen [z]))) (.ptr a (nxt h a) 0 0) := by
  obtain ⟨L', s, H', r⟩ := newBox H a e (zmatch_rel hm) hb hpos
  exact ⟨_, L', .pointer (some ⟨w.heap.size, 0, none⟩), .inl (by simp [execOp, ho, Instr.alloc, zeroValue, typeInfo, hi, hz, newVar, newRow]), s, H', fun _ => r⟩

/-! ### Composite values -/
def cfill : List Value → List (Nat × List Value) → List Value
  | cells, [] => cells
  | cells, (o, vs) :: rest => cfill (spl cells o vs) rest
theorem foldl_set : ∀ (vs : List Value) (k off : Nat) (cells : Array Value), off + k + vs.length ≤ cells.size →
    ((vs.zipIdx k).foldl (fun cs (p : Value × Nat) => cs.setIfInBounds (off + p.2) p.1) cells).toList = spl cells.toList (off + k) vs
  | [], k, off, cells, _ => by simp [spl]
  | v :: vs, k, off, cells, h => by
    simp only [List.zipIdx_cons, List.foldl_cons]
    simp only [List.length_cons] at h
    rw [foldl_set vs (k + 1) off _ (by simp; omega)]
    simp only [Array.toList_setIfInBounds]
    rw [set_eq_spl _ _ _ (by simp; omega)]
    apply List.ext_getElem?
    intro j
    have hl1 : off + k + [v].length ≤ cells.toList.length := by simp; omega
    have hl2 := spl_length hl1
    rw [spl_get (by rw [hl2]; simp; omega), spl_get hl1, spl_get (by simp; omega)]
    simp only [List.length_cons, List.length_nil]
    by_cases c1 : off + (k + 1) ≤ j ∧ j < off + (k + 1) + vs.length
    · rw [if_pos c1, if_pos (by omega)]
      rw [show j - (off + k) = (j - (off + (k + 1))) + 1 from by omega, List.getElem?_cons_succ]
    · rw [if_neg c1]
      by_cases c2 : j = off + k
      · subst c2; rw [if_pos (by omega), if_pos (by omega)]; simp
      · rw [if_neg (by omega), if_neg (by omega)]
theorem fill_eq (place : Nat → Option (Nat × Nat)) (off : Nat → Nat) : ∀ (parts : List (Nat × Value)) (cells : Array Value),
    (∀ p ∈ parts, place p.1 = some (off p.1, p.2.cells.size) ∧ off p.1 + p.2.cells.size ≤ cells.size) →
    ∃ out, Instr.fill place cells parts = some out ∧ out.toList = cfill cells.toList (parts.map fun p => (off p.1, p.2.cells.toList))
  | [], cells, _ => ⟨cells, rfl, rfl⟩
  | (i, v) :: rest, cells, h => by
    obtain ⟨h1, h2⟩ := h (i, v) (by simp)
    dsimp only at h1 h2
    have hf := foldl_set v.cells.toList 0 (off i) cells (by simp only [Array.length_toList]; omega)
    have hsz : (v.cells.zipIdx.foldl (fun cs (p : Value × Nat) => cs.setIfInBounds (off i + p.2) p.1) cells).size = cells.size := by
      rw [← Array.length_toList, ← Array.foldl_toList, Array.toList_zipIdx, hf, spl_length (by simp; omega), Array.length_toList]
    obtain ⟨out, e1, e2⟩ := fill_eq place off rest (v.cells.zipIdx.foldl (fun cs (p : Value × Nat) => cs.setIfInBounds (off i + p.2) p.1) cells) (fun p hp => by
      rw [hsz]; exact h p (by simp [hp]))
    refine ⟨out, ?_, ?_⟩
    · simp only [Instr.fill, h1]
      rw [if_neg (by simp; omega)]
      exact e1
    · rw [e2]
      simp only [List.map_cons, cfill]
      congr 1
      rw [← Array.foldl_toList, Array.toList_zipIdx, hf]
      simp

theorem built_places {t : TypeId} {z : Value} {place : Nat → Option (Nat × Nat)} (hp : placesOf P t = some (z, place)) (parts : List (Nat × Value)) : P.built t parts = Instr.fill place z.cells parts := by
  unfold placesOf at hp
  unfold Program.built
  split at hp
  · rename_i e1 e2
    rw [e1, e2]
    split at hp
    · rename_i f1 f2
      cases hp
      simp [f1, f2]
    · cases hp
  · rename_i e1 e2
    rw [e1, e2]
    split at hp
    · rename_i f1 f2
      cases hp
      simp [f1, f2]
    · cases hp
  · cases hp

/-- the parts, one after the other -/
theorem fill_rel (hρ : Rho C h L w ρ ev) (place : Nat → Option (Nat × Nat)) (off : Nat → Nat) : ∀ (ps : List (Nat × Nat × Opd)) (qs : List (Nat × Operand)) (r r' : Row) (vs : List Value), mparts place ps qs = true → fillR std ρ r ps = (true, r') → (∀ i o n, place i = some (o, n) → off i = o) →
    RelL w (okOf C h L) h L r.elems vs → (∀ c ∈ vs, c.oneCell' = true) →
    (∀ q ∈ qs, place q.1 = some (off q.1, (ev q.2).cells.size) ∧ off q.1 + (ev q.2).cells.size ≤ vs.length) ∧
    RelL w (okOf C h L) h L r'.elems (cfill vs (qs.map fun q => (off q.1, (ev q.2).cells.toList))) ∧ ∀ c ∈ cfill vs (qs.map fun q => (off q.1, (ev q.2).cells.toList)), c.oneCell' = true
  | [], [], r, r', vs, _, hf, _, hr, h1 => by
    simp only [fillR, Prod.mk.injEq, true_and] at hf; subst hf
    exact ⟨(fun q hq => by cases hq), hr, h1⟩
  | (o, n, x) :: ps, (i, y) :: qs, r, r', vs, hm, hf, hoff, hr, h1 => by
    simp only [mparts, Bool.and_eq_true, beq_iff_eq] at hm
    obtain ⟨⟨hpl, hxy⟩, hm⟩ := hm
    have ho := hoff i o n hpl
    subst ho
    have rx := hρ.rel x y hxy
    simp only [fillR] at hf
    generalize hg : fillR std ρ (match ρ x with | .agg xs => r.blit std (off i) xs | v => r.set std (off i) v) ps = res at hf
    obtain ⟨b, r2⟩ := res
    simp only [Prod.mk.injEq, std_and] at hf
    obtain ⟨⟨⟨hbx, hfl⟩, hle, hpos, rfl⟩, rfl⟩ := hf
    rw [flatLen_std] at hfl
    have hfl : (ρ x).flat.length = n := by simpa [std] using hfl
    have hle : off i + n ≤ r.elems.length := by rw [Row.len_std] at hle; simpa [std] using hle
    have hpos : 0 < n := by simpa [std] using hpos
    obtain ⟨c1, c2⟩ := rx.cells hbx
    have hel : (match ρ x with | .agg xs => r.blit std (off i) xs | v => r.set std (off i) v).elems = spl r.elems (off i) (ρ x).flat := by
      split
      · rename_i xs hx; rw [hx] at *; exact Row.blit_std _ _ _
      · rename_i hx
        have hs : (ρ x).flat = [ρ x] := flat_single (by generalize ρ x = u at hx; cases u <;> first | rfl | exact (hx _ rfl).elim)
        rw [hs, Row.set_std]
        exact set_eq_spl _ _ _ (by omega)
    have hvl : (ev y).cells.size = n := by have := c1.1; rw [hfl] at this; simpa using this.symm
    have ih := fill_rel hρ place off ps qs _ r2 (spl vs (off i) (ev y).cells.toList) hm hg hoff (by rw [hel]; exact hr.spl c1 _ (by omega)) (fun c hc => by
      rcases spl_mem hc with hc | hc
      · exact h1 c hc
      · exact c2 c (by simpa using hc))
    have hsl : (spl vs (off i) (ev y).cells.toList).length = vs.length := spl_length (by have := hr.1; simp; omega)
    refine ⟨fun q hq => ?_, ih.2⟩
    rcases List.mem_cons.1 hq with rfl | hq
    · exact ⟨by rw [hvl]; exact hpl, by have := hr.1; simp only; omega⟩
    · have := ih.1 q hq; rw [hsl] at this; exact this
  | [], _ :: _, _, _, _, hm, _, _, _, _ => by simp [mparts] at hm
  | _ :: _, [], _, _, _, hm, _, _, _, _ => by simp [mparts] at hm

theorem sound_build (H : HRel C h L w) (hρ : Rho C h L w ρ ev) {t : TypeId} {z r' : Row} {zv : Value} {place : Nat → Option (Nat × Nat)} {parts : List (Nat × Nat × Opd)} {parts' : Array (Nat × Operand)} (ho : o.op = .build t parts')
    (hpl : placesOf C.P t = some (zv, place)) (hz : zmatch (.agg z) zv = true) (hm : mparts place parts parts'.toList = true) (hv : fillR std ρ z parts = (true, r')) : Snd C h L w ev o h (.agg r') := by
  have hzr : RelC C h L w (.agg z) zv := zmatch_rel hz
  obtain ⟨zc, hzv, hzr, hz1⟩ := agg_of hzr
  let off : Nat → Nat := fun i => ((place i).map (·.1)).getD 0
  obtain ⟨f1, f2, f3⟩ := fill_rel hρ place off parts parts'.toList z r' zc.toList hm hv (fun i o n e => by simp [off, e]) hzr (by simpa using hz1)
  obtain ⟨out, e1, e2⟩ := fill_eq place off (parts'.toList.map fun (i, x) => (i, ev x)) zc (by
    intro p hp
    obtain ⟨q, hq, rfl⟩ := List.mem_map.1 hp
    have := f1 q hq
    simpa using this)
  have hrun : C.P.built t (parts'.map fun (i, x) => (i, ev x)).toList = some out := by
    rw [built_places hpl, hzv]
    simpa [Value.cells] using e1
  rw [List.map_map] at e2
  have e2 : out.toList = cfill zc.toList (parts'.toList.map fun q => (off q.1, (ev q.2).cells.toList)) := e2
  refine .pure H (r := .agg out) (by simp [execOp, ho, run_build w t _ out hrun]) ?_
  exact .agg r' _ rfl _ (by rw [← Array.length_toList, e2]; exact f2.1) (fun c hc => f3 c (by rw [← e2]; simpa using hc)) (fun j u v hu hv => f2.2 j u v hu (by rw [← e2]; simpa using hv))

end
end Go.Proofs.Ytjhdnpmojhkbjaa
