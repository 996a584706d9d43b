/- Rows under the plain arithmetic; reading what a slice holds. No condition. -/
import Derived.Test.YtimmgjppippdiaaXc
namespace Go.Proofs.Ytimmgjppippdiaa
open Go.RowKit (Below)

theorem Row.len_std (r : Row) : r.len std = r.elems.length := by cases r <;> simp [Row.len, Row.elems, std]
theorem Row.get_std {r : Row} {j : Nat} (hj : j < r.elems.length) : r.elems[j]? = some (r.get std j) := by
  cases r with
  | gen xs => simp only [Row.elems] at hj ⊢; simp [Row.get, List.getD_eq_getElem?_getD, List.getElem?_eq_getElem hj]
  | ints k l => simp only [Row.elems, List.length_map] at hj; simp [Row.elems, Row.get, std, List.getElem?_eq_getElem hj]
  | flts k l => simp only [Row.elems, List.length_map] at hj; simp [Row.elems, Row.get, std, List.getElem?_eq_getElem hj]
  | tab n f => simp [Row.elems] at hj; simp [Row.elems, Row.get, List.getElem?_range hj]
theorem Row.set_std (r : Row) (j : Nat) (v : AV) : (r.set std j v).elems = r.elems.set j v := by
  unfold Row.set
  split
  · split
    · rename_i hk; have := of_decide_eq_true hk; subst this; simp [Row.elems, std]
    · rfl
  · split
    · rename_i hk; have := of_decide_eq_true hk; subst this; simp [Row.elems, std]
    · rfl
  · rfl
theorem Row.app_std (r s : Row) : (r.app std s).elems = r.elems ++ s.elems := by
  unfold Row.app
  split
  · simp [Row.elems]
  · simp [Row.elems]
  · split
    · rename_i hk; have := of_decide_eq_true hk; subst this; simp [Row.elems, std]
    · rfl
  · split
    · rename_i hk; have := of_decide_eq_true hk; subst this; simp [Row.elems, std]
    · rfl
  · rfl
theorem sub3_map {α β : Type} (f : α → β) (l : List α) (k n : Nat) : (sub3 l k n).map f = sub3 (l.map f) k n := by simp [sub3, List.map_take, List.map_drop]
theorem sub3_range (f : Nat → AV) (m k n : Nat) : (List.range (min n (m - k))).map (fun j => f (k + j)) = sub3 ((List.range m).map f) k n := by
  apply List.ext_getElem?
  intro j
  unfold sub3
  rw [List.getElem?_take, List.getElem?_drop, List.getElem?_map, List.getElem?_map]
  by_cases h1 : j < n
  · rw [if_pos h1]
    by_cases h2 : k + j < m
    · rw [List.getElem?_range (by omega), List.getElem?_range h2]; rfl
    · rw [List.getElem?_eq_none (by simp; omega), List.getElem?_eq_none (by simp; omega)]; rfl
  · rw [if_neg h1, List.getElem?_eq_none (by simp; omega)]; rfl
theorem Row.sub_std (r : Row) (k n : Nat) : (r.sub std k n).elems = sub3 r.elems k n := by
  cases r with
  | gen xs => rfl
  | ints kd l => exact sub3_map _ l k n
  | flts kd l => exact sub3_map _ l k n
  | tab m f => exact sub3_range f m k n
theorem sub3_zero {α : Type} (l : List α) (k : Nat) : sub3 l 0 k = l.take k := by simp [sub3]
theorem sub3_tail {α : Type} (l : List α) (k : Nat) : sub3 l k l.length = l.drop k := by simp [sub3]; rw [List.take_of_length_le]; simp
theorem Row.blit_std (r : Row) (k : Nat) (s : Row) : (r.blit std k s).elems = r.elems.take k ++ s.elems ++ r.elems.drop (k + s.elems.length) := by
  unfold Row.blit
  split
  · split
    · rename_i hk; have := of_decide_eq_true hk; subst this
      simp only [Row.elems, std, List.map_append, sub3_map, List.length_map]
      rw [sub3_zero, ← sub3_map, sub3_tail, List.map_drop]
    · rfl
  · split
    · rename_i hk; have := of_decide_eq_true hk; subst this
      simp only [Row.elems, std, List.map_append, sub3_map, List.length_map]
      rw [sub3_zero, ← sub3_map, sub3_tail, List.map_drop]
    · rfl
  · simp [Row.elems]
  · rfl
theorem intsOf_std {k : IntKind} : ∀ {xs : List AV} {l : List Int}, intsOf k xs = some l → l.map (.int k) = xs
  | [], l, h => by cases h; rfl
  | .int k' n :: r, l, h => by
    simp only [intsOf] at h
    split at h
    · rename_i hk
      have := of_decide_eq_true hk; subst this
      split at h
      · rename_i l' hl; cases h; simp [intsOf_std hl]
      · cases h
    · cases h
theorem fltsOf_std {k : FloatKind} : ∀ {xs : List AV} {l : List Nat}, fltsOf k xs = some l → l.map (.flt k) = xs
  | [], l, h => by cases h; rfl
  | .flt k' n :: r, l, h => by
    simp only [fltsOf] at h
    split at h
    · rename_i hk
      have := of_decide_eq_true hk; subst this
      split at h
      · rename_i l' hl; cases h; simp [fltsOf_std hl]
      · cases h
    · cases h
theorem normG_std (xs : List AV) : (normG xs).elems = xs := by
  unfold normG
  split
  · split
    · rename_i l hl; simp [Row.elems, intsOf_std hl]
    · rfl
  · split
    · rename_i l hl; simp [Row.elems, fltsOf_std hl]
    · rfl
  · rfl
theorem normR_std (r : Row) : (normR r).elems = r.elems := by cases r <;> first | rfl | exact normG_std _
theorem repR_std (n : Nat) (v : AV) : (repR std n v).elems = List.replicate n v := by
  unfold repR; split <;> simp [Row.elems, std]
theorem Row.part_std {r : Row} {k n : Nat} (h : k + n ≤ r.elems.length) : (r.part std k n).elems = sub3 r.elems k n := by
  cases r with
  | gen xs => rfl
  | ints kd l => exact sub3_map _ l k n
  | flts kd l => exact sub3_map _ l k n
  | tab m f =>
    have hm : k + n ≤ m := by simpa [Row.elems] using h
    have := sub3_range f m k n
    rw [Nat.min_eq_left (by omega)] at this
    exact this
theorem Row.sing_std {r : Row} (h : r.sing = true) : ∀ x ∈ r.elems, x.single = true := by
  cases r with
  | gen xs => exact List.all_eq_true.1 h
  | ints k l => intro x hx; simp [Row.elems] at hx; obtain ⟨_, _, rfl⟩ := hx; rfl
  | flts k l => intro x hx; simp [Row.elems] at hx; obtain ⟨_, _, rfl⟩ := hx; rfl
  | tab n f => cases h
theorem flatLen_std (x : AV) : flatLen std x = x.flat.length := by cases x <;> first | rfl | exact Row.len_std _
theorem Row.fits_std {r : Row} {sz : Nat} (h : r.fits std sz = true) : ∀ x ∈ r.elems, x.bx = true ∧ x.flat.length = sz := by
  cases r with
  | gen xs =>
    intro x hx
    have := List.all_eq_true.1 h x hx
    simp only [Bool.and_eq_true, Nat.beq_eq, flatLen_std] at this
    exact this
  | ints k l => intro x hx; simp [Row.elems] at hx; obtain ⟨_, _, rfl⟩ := hx; exact ⟨rfl, (by simpa [Row.fits] using h : sz = 1).symm⟩
  | flts k l => intro x hx; simp [Row.elems] at hx; obtain ⟨_, _, rfl⟩ := hx; exact ⟨rfl, (by simpa [Row.fits] using h : sz = 1).symm⟩
  | tab n f =>
    intro x hx
    simp [Row.elems] at hx
    obtain ⟨j, hj, rfl⟩ := hx
    have := List.all_eq_true.1 h j (by simpa using hj)
    simp only [Bool.and_eq_true, Nat.beq_eq, flatLen_std] at this
    exact this

section
variable {C : Ctx} {h : AHeap} {L : Lay} {w : World}

/-- the cells of a tracked row -/
theorem HRel.rowAt (H : HRel C h L w) {a i : Nat} {e sz : Nat} {r : Row} (hb : blk h a i = .row e sz r) : (blk h a i).tag = some (sz, r.elems.length) ∧ 0 < sz ∧ L.size a i ≤ maxLen ∧ r.elems.length ≤ L.size a i ∧ (∀ x ∈ r.elems, x.flat.length = sz) ∧
    ∃ cur : Array Value, w.heap[L.loc a i]? = some (.cells cur e (0, 0)) ∧ cur.size = L.size a i * sz ∧ RelL w (okOf C h L) h L (flatAll r.elems) (cur.toList.take (r.elems.length * sz)) ∧
      (∀ c ∈ cur.toList.take (r.elems.length * sz), c.oneCell' = true) ∧ ∀ (j : Nat) (v : Value), (cur.toList.take (r.elems.length * sz))[j]? = some v → w.cell? ((⟨L.loc a i, 0, none⟩ : Addr).add j) = some v := by
  have := H.blks a i
  rw [hb] at this ⊢
  obtain ⟨h0, h1, h2, h3, cur, h4, h5, h6, h7⟩ := this
  refine ⟨rfl, h0, h1, h2, h3, cur, h4, h5, h6, h7, fun j v hj => ?_⟩
  rw [add_mk, Nat.zero_add, cell_of_row w _ j cur e (0, 0) h4]
  rw [List.getElem?_take] at hj
  split at hj
  · simpa using hj
  · cases hj
theorem HRel.tagAt (H : HRel C h L w) {a i : Nat} {e sz : Nat} {r : Row} (hb : blk h a i = .row e sz r) : (blk h a i).tag = some (sz, r.elems.length) := (H.rowAt hb).1

theorem std_and {a b : Bool} : std.and a b = true ↔ a = true ∧ b = true := by simp [std]

/-- what a slice value reads as -/
theorem contents_rel (H : HRel C h L w) {av : AV} {v : Value} (hr : RelC C h L w av v) {r : Row} (hc : contR std h av = some (true, r)) :
    ∃ ad n c, v = .slice ad n c ∧ n = r.elems.length ∧ n ≤ c ∧
      (∀ a', ad = some a' → r.elems ≠ [] → ∃ cs : List Value, cs.length = (flatAll r.elems).length ∧ (∀ c ∈ cs, c.oneCell' = true) ∧ (∀ (j : Nat) (v : Value), cs[j]? = some v → w.cell? (a'.add j) = some v) ∧
        RelL w (okOf C h L) h L (flatAll r.elems) cs ∧ a'.block < w.heap.size) ∧ (ad = none → r.elems = []) ∧ (∃ sz, ∀ x ∈ r.elems, x.flat.length = sz) := by
  unfold contR at hc
  split at hc
  · cases hc
    cases hr with
    | nil _ a c he => exact ⟨a, 0, c, rfl, by rw [he]; rfl, Nat.zero_le _, fun a' _ hne => absurd he hne, fun _ => he, 0, by rw [he]; simp⟩
    | list _ xs hx ad n cap sz cs hb hok hn hcap hsz hl h1 hcl hp hrr => subst hx; exact ⟨some ad, n, cap, rfl, hn, hcap, fun a' e _ => by cases e; exact ⟨cs, hl, h1, hcl, ⟨hl.symm, hrr⟩, hb⟩, (fun e => by cases e), sz, hsz⟩
  · cases hc
    cases hr
    exact ⟨none, 0, 0, rfl, rfl, Nat.le_refl _, (fun a' e => by cases e), fun _ => rfl, 0, by simp [Row.elems]⟩
  · rename_i a i
    split at hc
    · rename_i e sz r' hb
      cases hc
      obtain ⟨ht, h0, h1, h2, h3, cur, h4, h5, h6, h7, h8⟩ := H.rowAt hb
      cases hr with
      | row _ _ g o n c hn hl =>
        obtain ⟨rfl, rfl, rfl, rfl⟩ := hl.2 _ ht
        exact ⟨_, _, _, rfl, rfl, hn, fun a' e _ => by cases e; exact ⟨_, h6.1.symm, h7, h8, h6, (H.live a i (by rw [ht]; simp)).2⟩, (fun e => by cases e), sz, h3⟩
    · cases hc
  · rename_i a i k n cap
    split at hc
    · rename_i e sz r' hb
      simp only [Option.some.injEq, Prod.mk.injEq] at hc
      obtain ⟨hkn, rfl⟩ := hc
      have hkn : k + n ≤ r'.elems.length := by rw [Row.len_std] at hkn; simpa [std] using hkn
      obtain ⟨ht, h0, h1, h2, h3, cur, h4, h5, h6, h7, h8⟩ := H.rowAt hb
      have hlen : (r'.sub std k n).elems.length = n := by rw [Row.sub_std]; simp [sub3]; omega
      have hsub : ∀ x ∈ (r'.sub std k n).elems, x.flat.length = sz := fun x hx => by
        rw [Row.sub_std] at hx; exact h3 x (List.mem_of_mem_drop (List.mem_of_mem_take hx))
      cases hr with
      | slc _ _ _ _ _ g o c hn hl =>
        refine ⟨_, _, _, rfl, hlen.symm, hn, fun a' e hne => ?_, (fun e => by cases e), sz, hsub⟩
        cases e
        rcases hl.2 _ ht with ⟨_, rfl⟩ | ⟨rfl, rfl, _⟩
        · exact absurd (List.eq_nil_of_length_eq_zero hlen) hne
        · have hfl : flatAll (r'.sub std k n).elems = ((flatAll r'.elems).drop (k * sz)).take (n * sz) := by
            rw [Row.sub_std]; unfold sub3
            rw [flatAll_take _ n (fun x hx => h3 x (List.mem_of_mem_drop hx)), flatAll_drop _ k h3]
          refine ⟨((cur.toList.take (r'.elems.length * sz)).drop (k * sz)).take (n * sz), ?_, fun c hc => h7 c (List.mem_of_mem_drop (List.mem_of_mem_take hc)), fun j v hj => ?_, by rw [hfl]; exact h6.part _ _, (H.live a i (by rw [ht]; simp)).2⟩
          · rw [hfl]; simp only [List.length_take, List.length_drop, h6.1]
          · rw [List.getElem?_take] at hj
            split at hj
            · rw [List.getElem?_drop] at hj
              have := h8 _ v hj
              rw [add_mk, Nat.zero_add] at this
              rw [add_mk]; exact this
            · cases hj
    · cases hc
  · rename_i a i k off n
    split at hc
    · rename_i e sz r' hb
      split at hc
      · rename_i x hx
        simp only [Option.some.injEq, Prod.mk.injEq, std_and] at hc
        obtain ⟨⟨hk, hon, hsg⟩, hrr⟩ := hc
        have hk : k < r'.elems.length := by rw [Row.len_std] at hk; simpa [std] using hk
        have hon : off + n ≤ x.elems.length := by rw [Row.len_std] at hon; simpa [std] using hon
        have hre : r.elems = sub3 x.elems off n := by rw [← Row.part_std hon, ← hrr, normR_std]
        obtain ⟨ht, h0, h1, h2, h3, cur, h4, h5, h6, h7, h8⟩ := H.rowAt hb
        have hget := Row.get_std hk
        rw [hx] at hget
        have hxl : x.elems.length = sz := by have := h3 _ (List.mem_of_getElem? hget); simpa [AV.flat] using this
        have hlen : r.elems.length = n := by rw [hre]; simp [sub3]; omega
        have hone : ∀ y ∈ r.elems, y.single = true := fun y hy => by rw [hre] at hy; exact Row.sing_std hsg y (List.mem_of_mem_drop (List.mem_of_mem_take hy))
        have hfl := flatAll_single hone
        cases hr with
        | aslc _ _ _ _ _ g o c hn hl =>
          refine ⟨_, _, _, rfl, hlen.symm, hn, fun a' e hne => ?_, (fun e => by cases e), 1, fun y hy => by rw [flat_single (hone y hy)]; rfl⟩
          cases e
          rcases hl.2 _ ht with rfl | ⟨rfl, rfl⟩
          · exact absurd (List.eq_nil_of_length_eq_zero hlen) hne
          · have hsubE : ∀ j, j < sz → (flatAll r'.elems)[k * sz + j]? = x.elems[j]? := fun j hj => by
              have := elem_sub h3 hget j hj; simpa [AV.flat] using this
            have hpart : flatAll r.elems = ((flatAll r'.elems).drop (k * sz + off)).take n := by
              rw [hfl, hre]; unfold sub3
              apply List.ext_getElem?
              intro j
              rw [List.getElem?_take, List.getElem?_take]
              split
              · rw [List.getElem?_drop, List.getElem?_drop, Nat.add_assoc, hsubE _ (by omega)]
              · rfl
            refine ⟨((cur.toList.take (r'.elems.length * sz)).drop (k * sz + off)).take n, ?_, fun c hc => h7 c (List.mem_of_mem_drop (List.mem_of_mem_take hc)), fun j v hj => ?_, by rw [hpart]; exact h6.part _ _, (H.live a i (by rw [ht]; simp)).2⟩
            · rw [hpart]; simp only [List.length_take, List.length_drop, h6.1]
            · rw [List.getElem?_take] at hj
              split at hj
              · rw [List.getElem?_drop] at hj
                have := h8 _ v hj
                rw [add_mk, Nat.zero_add] at this
                rw [add_mk]; exact this
              · cases hj
      · cases hc
    · cases hc
  · cases hc

end
end Go.Proofs.Ytimmgjppippdiaa
