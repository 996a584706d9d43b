/- Rows under the plain arithmetic; reading what a slice holds. No condition. -/
import Derived.Test.YtjhdnpmojhkbjaaXc
namespace Go.Proofs.Ytjhdnpmojhkbjaa
open Go.RowKit (Below)

mutual
theorem eqSh_eq : ∀ {s t : Sh}, eqSh s t = true → s = t
  | .int k, .int k', h => by simp only [eqSh, decide_eq_true_eq] at h; rw [h]
  | .bool, .bool, _ => rfl
  | .str, .str, _ => rfl
  | .flt k, .flt k', h => by simp only [eqSh, decide_eq_true_eq] at h; rw [h]
  | .ints k, .ints k', h => by simp only [eqSh, decide_eq_true_eq] at h; rw [h]
  | .big s, .big t, h => by simp only [eqSh] at h; rw [eqSh_eq h]
  | .agg ss, .agg ts, h => by simp only [eqSh] at h; rw [eqShL_eq h]
  | .int _, .bool, h => by simp [eqSh] at h
  | .int _, .str, h => by simp [eqSh] at h
  | .int _, .flt _, h => by simp [eqSh] at h
  | .int _, .ints _, h => by simp [eqSh] at h
  | .int _, .big _, h => by simp [eqSh] at h
  | .int _, .agg _, h => by simp [eqSh] at h
  | .bool, .int _, h => by simp [eqSh] at h
  | .bool, .str, h => by simp [eqSh] at h
  | .bool, .flt _, h => by simp [eqSh] at h
  | .bool, .ints _, h => by simp [eqSh] at h
  | .bool, .big _, h => by simp [eqSh] at h
  | .bool, .agg _, h => by simp [eqSh] at h
  | .str, .int _, h => by simp [eqSh] at h
  | .str, .bool, h => by simp [eqSh] at h
  | .str, .flt _, h => by simp [eqSh] at h
  | .str, .ints _, h => by simp [eqSh] at h
  | .str, .big _, h => by simp [eqSh] at h
  | .str, .agg _, h => by simp [eqSh] at h
  | .flt _, .int _, h => by simp [eqSh] at h
  | .flt _, .bool, h => by simp [eqSh] at h
  | .flt _, .str, h => by simp [eqSh] at h
  | .flt _, .ints _, h => by simp [eqSh] at h
  | .flt _, .big _, h => by simp [eqSh] at h
  | .flt _, .agg _, h => by simp [eqSh] at h
  | .ints _, .int _, h => by simp [eqSh] at h
  | .ints _, .bool, h => by simp [eqSh] at h
  | .ints _, .str, h => by simp [eqSh] at h
  | .ints _, .flt _, h => by simp [eqSh] at h
  | .ints _, .big _, h => by simp [eqSh] at h
  | .ints _, .agg _, h => by simp [eqSh] at h
  | .big _, .int _, h => by simp [eqSh] at h
  | .big _, .bool, h => by simp [eqSh] at h
  | .big _, .str, h => by simp [eqSh] at h
  | .big _, .flt _, h => by simp [eqSh] at h
  | .big _, .ints _, h => by simp [eqSh] at h
  | .big _, .agg _, h => by simp [eqSh] at h
  | .agg _, .int _, h => by simp [eqSh] at h
  | .agg _, .bool, h => by simp [eqSh] at h
  | .agg _, .str, h => by simp [eqSh] at h
  | .agg _, .flt _, h => by simp [eqSh] at h
  | .agg _, .ints _, h => by simp [eqSh] at h
  | .agg _, .big _, h => by simp [eqSh] at h
theorem eqShL_eq : ∀ {s t : List Sh}, eqShL s t = true → s = t
  | [], [], _ => rfl
  | s :: ss, t :: ts, h => by
    simp only [eqShL] at h
    split at h
    · rename_i e; rw [eqSh_eq e, eqShL_eq h]
    · cases h
  | [], _ :: _, h => by simp [eqShL] at h
  | _ :: _, [], h => by simp [eqShL] at h
end
theorem conf1_view {s : Sh} {v : AV} (h : conf1 s v = true) : s.view1 v = v := by
  unfold conf1 at h
  split at h
  · have := of_decide_eq_true h; subst this; rfl
  · rfl
  · rfl
  · have := of_decide_eq_true h; subst this; rfl
  · have := of_decide_eq_true h; subst this; rfl
  · have := eqSh_eq h; subst this; rfl
  · cases h
theorem confL_view : ∀ {ss : List Sh} {xs ys : List AV} {i : Nat} {zs : List AV}, confL ss xs = true → zs = ys ++ xs → ys.length = i → viewL ss i (.agg (.gen zs)) = xs
  | [], [], _, _, _, _, _, _ => rfl
  | s :: ss, x :: xs, ys, i, zs, h, e, hi => by
    simp only [confL] at h
    split at h
    · rename_i h1
      have hx : (AV.agg (.gen zs)).cellAt i = x := by simp [AV.cellAt, e, ← hi]
      simp only [viewL, hx, conf1_view h1]
      rw [confL_view (ys := ys ++ [x]) h (by rw [e]; simp) (by simp [hi])]
    · cases h
  | [], _ :: _, _, _, _, h, _, _ => by simp [confL] at h
  | _ :: _, [], _, _, _, h, _, _ => by simp [confL] at h
theorem conf_view {s : Sh} {v : AV} (h : conf s v = true) : s.view v = v := by
  unfold conf at h
  split at h
  · rename_i ss xs
    simp only [Sh.view]
    have e := confL_view (ss := ss) (xs := xs) (ys := []) (i := 0) (zs := xs) h rfl rfl
    rw [e]
  · cases h
  · rename_i hne
    have := conf1_view h
    cases s with
    | agg ss => simp [conf1] at h
    | _ => simp only [Sh.view]; exact this
theorem confA_view {s : Sh} : ∀ {xs : List AV}, confA s xs = true → xs.map s.view = xs
  | [], _ => rfl
  | x :: xs, h => by
    simp only [confA] at h
    split at h
    · rename_i h1; rw [List.map_cons, conf_view h1, confA_view h]
    · cases h
theorem viewL_len : ∀ (ss : List Sh) (i : Nat) (v : AV), (viewL ss i v).length = ss.length
  | [], _, _ => rfl
  | s :: ss, i, v => by simp [viewL, viewL_len ss]
theorem view1_single (s : Sh) (v : AV) : (s.view1 v).single = true := by cases s <;> rfl
theorem view_flat (s : Sh) (v : AV) : (s.view v).bx = true ∧ (s.view v).flat.length = s.len := by
  cases s with
  | agg ss => exact ⟨rfl, viewL_len ss 0 v⟩
  | _ => exact ⟨rfl, rfl⟩
theorem Row.len_std (r : Row) : r.len std = r.elems.length := by cases r <;> simp [Row.len, Row.elems, std]
theorem Row.get_std {r : Row} {j : Nat} (hj : j < r.elems.length) : r.elems[j]? = some (r.get std j) := by
  cases r with
  | gen xs => simp only [Row.elems] at hj ⊢; simp [Row.get, List.getD_eq_getElem?_getD, List.getElem?_eq_getElem hj]
  | ints k l => simp only [Row.elems, List.length_map] at hj; simp [Row.elems, Row.get, std, List.getElem?_eq_getElem hj]
  | flts k l => simp only [Row.elems, List.length_map] at hj; simp [Row.elems, Row.get, std, List.getElem?_eq_getElem hj]
  | big sh xs => simp only [Row.elems, List.length_map] at hj; simp [Row.elems, Row.get, std, List.getElem?_eq_getElem hj]
theorem Row.set_std (r : Row) (j : Nat) (v : AV) : (r.set std j v).elems = r.elems.set j v := by
  unfold Row.set
  split
  · split
    · rename_i hk; have := of_decide_eq_true hk; subst this; simp [Row.elems, std]
    · rfl
  · split
    · rename_i hk; have := of_decide_eq_true hk; subst this; simp [Row.elems, std]
    · rfl
  · split
    · rename_i hk; simp only [Row.elems, std, List.map_set, conf_view hk]
    · rfl
  · rfl
theorem Row.app_std (r s : Row) : (r.app std s).elems = r.elems ++ s.elems := by
  unfold Row.app
  split
  · simp [Row.elems]
  · simp [Row.elems]
  · split
    · rename_i hk; have := of_decide_eq_true hk; subst this; simp [Row.elems, std]
    · rfl
  · split
    · rename_i hk; have := of_decide_eq_true hk; subst this; simp [Row.elems, std]
    · rfl
  · split
    · rename_i hk; have := eqSh_eq hk; subst this; simp [Row.elems, std]
    · rfl
  · split
    · rename_i hk; simp only [Row.elems, std, List.map_append, confA_view hk]
    · rfl
  · split
    · rename_i hk; simp only [Row.elems, std, List.map_append, confA_view hk]
    · rfl
  · rfl
theorem sub3_map {α β : Type} (f : α → β) (l : List α) (k n : Nat) : (sub3 l k n).map f = sub3 (l.map f) k n := by simp [sub3, List.map_take, List.map_drop]
theorem sub3_range (f : Nat → AV) (m k n : Nat) : (List.range (min n (m - k))).map (fun j => f (k + j)) = sub3 ((List.range m).map f) k n := by
  apply List.ext_getElem?
  intro j
  unfold sub3
  rw [List.getElem?_take, List.getElem?_drop, List.getElem?_map, List.getElem?_map]
  by_cases h1 : j < n
  · rw [if_pos h1]
    by_cases h2 : k + j < m
    · rw [List.getElem?_range (by omega), List.getElem?_range h2]; rfl
    · rw [List.getElem?_eq_none (by simp; omega), List.getElem?_eq_none (by simp; omega)]; rfl
  · rw [if_neg h1, List.getElem?_eq_none (by simp; omega)]; rfl
theorem Row.sub_std (r : Row) (k n : Nat) : (r.sub std k n).elems = sub3 r.elems k n := by
  cases r with
  | gen xs => rfl
  | ints kd l => exact sub3_map _ l k n
  | flts kd l => exact sub3_map _ l k n
  | big sh xs => exact sub3_map _ xs k n
theorem sub3_zero {α : Type} (l : List α) (k : Nat) : sub3 l 0 k = l.take k := by simp [sub3]
theorem sub3_tail {α : Type} (l : List α) (k : Nat) : sub3 l k l.length = l.drop k := by simp [sub3]; rw [List.take_of_length_le]; simp
theorem Row.blit_std (r : Row) (k : Nat) (s : Row) : (r.blit std k s).elems = r.elems.take k ++ s.elems ++ r.elems.drop (k + s.elems.length) := by
  unfold Row.blit
  split
  · split
    · rename_i hk; have := of_decide_eq_true hk; subst this
      simp only [Row.elems, std, List.map_append, sub3_map, List.length_map]
      rw [sub3_zero, ← sub3_map, sub3_tail, List.map_drop]
    · rfl
  · split
    · rename_i hk; have := of_decide_eq_true hk; subst this
      simp only [Row.elems, std, List.map_append, sub3_map, List.length_map]
      rw [sub3_zero, ← sub3_map, sub3_tail, List.map_drop]
    · rfl
  · simp [Row.elems]
  · rfl
theorem intsOf_std {k : IntKind} : ∀ {xs : List AV} {l : List Int}, intsOf k xs = some l → l.map (.int k) = xs
  | [], l, h => by cases h; rfl
  | .int k' n :: r, l, h => by
    simp only [intsOf] at h
    split at h
    · rename_i hk
      have := of_decide_eq_true hk; subst this
      split at h
      · rename_i l' hl; cases h; simp [intsOf_std hl]
      · cases h
    · cases h
theorem fltsOf_std {k : FloatKind} : ∀ {xs : List AV} {l : List Nat}, fltsOf k xs = some l → l.map (.flt k) = xs
  | [], l, h => by cases h; rfl
  | .flt k' n :: r, l, h => by
    simp only [fltsOf] at h
    split at h
    · rename_i hk
      have := of_decide_eq_true hk; subst this
      split at h
      · rename_i l' hl; cases h; simp [fltsOf_std hl]
      · cases h
    · cases h
theorem normG_std (xs : List AV) : (normG xs).elems = xs := by
  unfold normG
  split
  · split
    · rename_i l hl; simp [Row.elems, intsOf_std hl]
    · rfl
  · split
    · rename_i l hl; simp [Row.elems, fltsOf_std hl]
    · rfl
  · split
    · split
      · rename_i hc; exact confA_view hc
      · rfl
    · rfl
  · rfl
theorem normR_std (r : Row) : (normR r).elems = r.elems := by cases r <;> first | rfl | exact normG_std _
theorem repR_std (n : Nat) (v : AV) : (repR std n v).elems = List.replicate n v := by
  unfold repR
  split
  · simp [Row.elems, std]
  · simp [Row.elems, std]
  · split
    · split
      · rename_i hc; simp [Row.elems, std, conf_view hc]
      · rfl
    · rfl
theorem Row.part_std {r : Row} {k n : Nat} (h : k + n ≤ r.elems.length) : (r.part std k n).elems = sub3 r.elems k n := by
  cases r with
  | gen xs => rfl
  | ints kd l => exact sub3_map _ l k n
  | flts kd l => exact sub3_map _ l k n
  | big sh xs => exact sub3_map _ xs k n
theorem Row.sing_std {r : Row} (h : r.sing = true) : ∀ x ∈ r.elems, x.single = true := by
  cases r with
  | gen xs => exact List.all_eq_true.1 h
  | ints k l => intro x hx; simp [Row.elems] at hx; obtain ⟨_, _, rfl⟩ := hx; rfl
  | flts k l => intro x hx; simp [Row.elems] at hx; obtain ⟨_, _, rfl⟩ := hx; rfl
  | big sh xs =>
    intro x hx; simp [Row.elems] at hx; obtain ⟨y, _, rfl⟩ := hx
    cases sh with
    | agg ss => cases h
    | _ => simp only [Sh.view]; exact view1_single _ _
theorem flatLen_std (x : AV) : flatLen std x = x.flat.length := by cases x <;> first | rfl | exact Row.len_std _
theorem Row.fits_std {r : Row} {sz : Nat} (h : r.fits std sz = true) : ∀ x ∈ r.elems, x.bx = true ∧ x.flat.length = sz := by
  cases r with
  | gen xs =>
    intro x hx
    have := List.all_eq_true.1 h x hx
    simp only [Bool.and_eq_true, Nat.beq_eq, flatLen_std] at this
    exact this
  | ints k l => intro x hx; simp [Row.elems] at hx; obtain ⟨_, _, rfl⟩ := hx; exact ⟨rfl, (by simpa [Row.fits] using h : sz = 1).symm⟩
  | flts k l => intro x hx; simp [Row.elems] at hx; obtain ⟨_, _, rfl⟩ := hx; exact ⟨rfl, (by simpa [Row.fits] using h : sz = 1).symm⟩
  | big sh xs =>
    intro x hx; simp [Row.elems] at hx; obtain ⟨y, _, rfl⟩ := hx
    obtain ⟨h1, h2⟩ := view_flat sh y
    exact ⟨h1, h2.trans (by simpa [Row.fits] using h)⟩

section
variable {C : Ctx} {h : AHeap} {L : Lay} {w : World}

/-- the cells of a tracked row -/
theorem HRel.rowAt (H : HRel C h L w) {a i : Nat} {e sz : Nat} {r : Row} (hb : blk h a i = .row e sz r) : (blk h a i).tag = some (sz, r.elems.length) ∧ 0 < sz ∧ L.size a i ≤ maxLen ∧ r.elems.length ≤ L.size a i ∧ (∀ x ∈ r.elems, x.flat.length = sz) ∧
    ∃ cur : Array Value, w.heap[L.loc a i]? = some (.cells cur e (0, 0)) ∧ cur.size = L.size a i * sz ∧ RelL w (okOf C h L) h L (flatAll r.elems) (cur.toList.take (r.elems.length * sz)) ∧
      (∀ c ∈ cur.toList.take (r.elems.length * sz), c.oneCell' = true) ∧ ∀ (j : Nat) (v : Value), (cur.toList.take (r.elems.length * sz))[j]? = some v → w.cell? ((⟨L.loc a i, 0, none⟩ : Addr).add j) = some v := by
  have := H.blks a i
  rw [hb] at this ⊢
  obtain ⟨h0, h1, h2, h3, cur, h4, h5, h6, h7⟩ := this
  refine ⟨rfl, h0, h1, h2, h3, cur, h4, h5, h6, h7, fun j v hj => ?_⟩
  rw [add_mk, Nat.zero_add, cell_of_row w _ j cur e (0, 0) h4]
  rw [List.getElem?_take] at hj
  split at hj
  · simpa using hj
  · cases hj
theorem HRel.tagAt (H : HRel C h L w) {a i : Nat} {e sz : Nat} {r : Row} (hb : blk h a i = .row e sz r) : (blk h a i).tag = some (sz, r.elems.length) := (H.rowAt hb).1

theorem std_and {a b : Bool} : std.and a b = true ↔ a = true ∧ b = true := by simp [std]

/-- what a slice value reads as -/
theorem contents_rel (H : HRel C h L w) {av : AV} {v : Value} (hr : RelC C h L w av v) {r : Row} (hc : contR std h av = some (true, r)) :
    ∃ ad n c, v = .slice ad n c ∧ n = r.elems.length ∧ n ≤ c ∧
      (∀ a', ad = some a' → r.elems ≠ [] → ∃ cs : List Value, cs.length = (flatAll r.elems).length ∧ (∀ c ∈ cs, c.oneCell' = true) ∧ (∀ (j : Nat) (v : Value), cs[j]? = some v → w.cell? (a'.add j) = some v) ∧
        RelL w (okOf C h L) h L (flatAll r.elems) cs ∧ a'.block < w.heap.size) ∧ (ad = none → r.elems = []) ∧ (∃ sz, ∀ x ∈ r.elems, x.flat.length = sz) := by
  unfold contR at hc
  split at hc
  · cases hc
    cases hr with
    | nil _ a c he => exact ⟨a, 0, c, rfl, by rw [he]; rfl, Nat.zero_le _, fun a' _ hne => absurd he hne, fun _ => he, 0, by rw [he]; simp⟩
    | list _ xs hx ad n cap sz cs hb hok hn hcap hsz hl h1 hcl hp hrr => subst hx; exact ⟨some ad, n, cap, rfl, hn, hcap, fun a' e _ => by cases e; exact ⟨cs, hl, h1, hcl, ⟨hl.symm, hrr⟩, hb⟩, (fun e => by cases e), sz, hsz⟩
  · cases hc
    cases hr
    exact ⟨none, 0, 0, rfl, rfl, Nat.le_refl _, (fun a' e => by cases e), fun _ => rfl, 0, by simp [Row.elems]⟩
  · rename_i a i
    split at hc
    · rename_i e sz r' hb
      cases hc
      obtain ⟨ht, h0, h1, h2, h3, cur, h4, h5, h6, h7, h8⟩ := H.rowAt hb
      cases hr with
      | row _ _ g o n c hn hl =>
        obtain ⟨rfl, rfl, rfl, rfl⟩ := hl.2 _ ht
        exact ⟨_, _, _, rfl, rfl, hn, fun a' e _ => by cases e; exact ⟨_, h6.1.symm, h7, h8, h6, (H.live a i (by rw [ht]; simp)).2⟩, (fun e => by cases e), sz, h3⟩
    · cases hc
  · rename_i a i k n cap
    split at hc
    · rename_i e sz r' hb
      simp only [Option.some.injEq, Prod.mk.injEq] at hc
      obtain ⟨hkn, rfl⟩ := hc
      have hkn : k + n ≤ r'.elems.length := by rw [Row.len_std] at hkn; simpa [std] using hkn
      obtain ⟨ht, h0, h1, h2, h3, cur, h4, h5, h6, h7, h8⟩ := H.rowAt hb
      have hlen : (r'.sub std k n).elems.length = n := by rw [Row.sub_std]; simp [sub3]; omega
      have hsub : ∀ x ∈ (r'.sub std k n).elems, x.flat.length = sz := fun x hx => by
        rw [Row.sub_std] at hx; exact h3 x (List.mem_of_mem_drop (List.mem_of_mem_take hx))
      cases hr with
      | slc _ _ _ _ _ g o c hn hl =>
        refine ⟨_, _, _, rfl, hlen.symm, hn, fun a' e hne => ?_, (fun e => by cases e), sz, hsub⟩
        cases e
        rcases hl.2 _ ht with ⟨_, rfl⟩ | ⟨rfl, rfl, _⟩
        · exact absurd (List.eq_nil_of_length_eq_zero hlen) hne
        · have hfl : flatAll (r'.sub std k n).elems = ((flatAll r'.elems).drop (k * sz)).take (n * sz) := by
            rw [Row.sub_std]; unfold sub3
            rw [flatAll_take _ n (fun x hx => h3 x (List.mem_of_mem_drop hx)), flatAll_drop _ k h3]
          refine ⟨((cur.toList.take (r'.elems.length * sz)).drop (k * sz)).take (n * sz), ?_, fun c hc => h7 c (List.mem_of_mem_drop (List.mem_of_mem_take hc)), fun j v hj => ?_, by rw [hfl]; exact h6.part _ _, (H.live a i (by rw [ht]; simp)).2⟩
          · rw [hfl]; simp only [List.length_take, List.length_drop, h6.1]
          · rw [List.getElem?_take] at hj
            split at hj
            · rw [List.getElem?_drop] at hj
              have := h8 _ v hj
              rw [add_mk, Nat.zero_add] at this
              rw [add_mk]; exact this
            · cases hj
    · cases hc
  · rename_i a i k off n
    split at hc
    · rename_i e sz r' hb
      split at hc
      · rename_i x hx
        simp only [Option.some.injEq, Prod.mk.injEq, std_and] at hc
        obtain ⟨⟨hk, hon, hsg⟩, hrr⟩ := hc
        have hk : k < r'.elems.length := by rw [Row.len_std] at hk; simpa [std] using hk
        have hon : off + n ≤ x.elems.length := by rw [Row.len_std] at hon; simpa [std] using hon
        have hre : r.elems = sub3 x.elems off n := by rw [← Row.part_std hon, ← hrr, normR_std]
        obtain ⟨ht, h0, h1, h2, h3, cur, h4, h5, h6, h7, h8⟩ := H.rowAt hb
        have hget := Row.get_std hk
        rw [hx] at hget
        have hxl : x.elems.length = sz := by have := h3 _ (List.mem_of_getElem? hget); simpa [AV.flat] using this
        have hlen : r.elems.length = n := by rw [hre]; simp [sub3]; omega
        have hone : ∀ y ∈ r.elems, y.single = true := fun y hy => by rw [hre] at hy; exact Row.sing_std hsg y (List.mem_of_mem_drop (List.mem_of_mem_take hy))
        have hfl := flatAll_single hone
        cases hr with
        | aslc _ _ _ _ _ g o c hn hl =>
          refine ⟨_, _, _, rfl, hlen.symm, hn, fun a' e hne => ?_, (fun e => by cases e), 1, fun y hy => by rw [flat_single (hone y hy)]; rfl⟩
          cases e
          rcases hl.2 _ ht with rfl | ⟨rfl, rfl⟩
          · exact absurd (List.eq_nil_of_length_eq_zero hlen) hne
          · have hsubE : ∀ j, j < sz → (flatAll r'.elems)[k * sz + j]? = x.elems[j]? := fun j hj => by
              have := elem_sub h3 hget j hj; simpa [AV.flat] using this
            have hpart : flatAll r.elems = ((flatAll r'.elems).drop (k * sz + off)).take n := by
              rw [hfl, hre]; unfold sub3
              apply List.ext_getElem?
              intro j
              rw [List.getElem?_take, List.getElem?_take]
              split
              · rw [List.getElem?_drop, List.getElem?_drop, Nat.add_assoc, hsubE _ (by omega)]
              · rfl
            refine ⟨((cur.toList.take (r'.elems.length * sz)).drop (k * sz + off)).take n, ?_, fun c hc => h7 c (List.mem_of_mem_drop (List.mem_of_mem_take hc)), fun j v hj => ?_, by rw [hpart]; exact h6.part _ _, (H.live a i (by rw [ht]; simp)).2⟩
            · rw [hpart]; simp only [List.length_take, List.length_drop, h6.1]
            · rw [List.getElem?_take] at hj
              split at hj
              · rw [List.getElem?_drop] at hj
                have := h8 _ v hj
                rw [add_mk, Nat.zero_add] at this
                rw [add_mk]; exact this
              · cases hj
      · cases hc
    · cases hc
  · split at hc
    · rename_i ad c
      simp only [Option.some.injEq, Prod.mk.injEq, true_and] at hc
      subst hc
      cases hr
      exact ⟨some ad, 0, c, rfl, rfl, Nat.zero_le _, fun a' _ hne => absurd rfl hne, (fun e => by cases e), 0, fun x hx => by cases hx⟩
    · cases hc
  · cases hc

end
end Go.Proofs.Ytjhdnpmojhkbjaa

/- Soundness of the operations that turn no memory. No condition. -/
namespace Go.Proofs.Ytjhdnpmojhkbjaa
open Go.RowKit (Below)

theorem Step.refl (w : World) (ok : Nat → Prop) (h : AHeap) (L : Lay) : Step w ok h L w ok h L := ⟨Nat.le_refl _, fun _ _ h => ⟨h, rfl⟩, fun _ => Nat.le_refl _, fun _ _ _ _ h => ⟨h, rfl, rfl⟩⟩
def Snd (C : Ctx) (h : AHeap) (L : Lay) (w : World) (ev : Operand → Value) (o : Oper) (h' : AHeap) (v : AV) : Prop :=
  ∃ w' L' r, ((execOp ev o).run C.P w = .ok (.value r) w' ∨ ((execOp ev o).run C.P w = .ok .skip w' ∧ o.dst = none)) ∧ Step w (okOf C h L) h L w' (okOf C h' L') h' L' ∧ HRel C h' L' w' ∧ (o.dst ≠ none → RelC C h' L' w' v r)
structure Rho (C : Ctx) (h : AHeap) (L : Lay) (w : World) (ρ : Opd → AV) (ev : Operand → Value) : Prop where
  rel : ∀ x y, mopd x y = true → RelC C h L w (ρ x) (ev y)
  cst : ∀ v, ev (.const v) = v
  fnc : ∀ f, ev (.func f) = .func (.func f) #[] #[]

section
variable {C : Ctx} {o : Oper} {ρ : Opd → AV} {ev : Operand → Value} {h h' : AHeap} {w w' : World} {L : Lay} {v : AV}

theorem Snd.pure (H : HRel C h L w) {r : Value} (hr : (execOp ev o).run C.P w = .ok (.value r) w) (hv : RelC C h L w v r) : Snd C h L w ev o h v :=
  ⟨w, L, r, .inl hr, Step.refl _ _ _ _, H, fun _ => hv⟩

theorem int_of {k n} {r : Value} (hr : RelC C h L w (.int k n) r) : r = .int k n := by cases hr; rfl
theorem bool_of {b} {r : Value} (hr : RelC C h L w (.bool b) r) : r = .bool b := by cases hr; rfl
theorem str_of {b} {r : Value} (hr : RelC C h L w (.str b) r) : r = .string ⟨b.toArray⟩ := by cases hr; rfl
theorem flt_of {k b} {r : Value} (hr : RelC C h L w (.flt k b) r) : r = .float k b := by cases hr; rfl
theorem und_of {r : Value} (hr : RelC C h L w .und r) : r = undef := by cases hr; rfl

theorem wrap_inR {k : IntKind} {n : Int} (h1 : std.inR k n = true) : k.wrap n = n := by
  obtain ⟨h1, h2⟩ : k.min ≤ n ∧ n ≤ k.max := of_decide_eq_true h1
  cases k <;> simp [IntKind.min, IntKind.max, IntKind.signed, IntKind.bits] at h1 h2 <;> simp only [IntKind.wrap, IntKind.bits, IntKind.signed] <;> simp <;> first | omega | (split <;> omega)

variable {P : Program}
theorem eqGuard_int (op : BinOp) (t : TypeId) (x y : Operand) (k k' : IntKind) (a b : Int) (w : World) : (eqGuard op t x y (.int k a) (.int k' b)).run P w = .ok () w := by
  unfold eqGuard; cases op <;> rfl
theorem eqGuard_str (op : BinOp) (t : TypeId) (x y : Operand) (a b : ByteArray) (w : World) : (eqGuard op t x y (.string a) (.string b)).run P w = .ok () w := by
  unfold eqGuard; cases op <;> rfl
theorem eqGuard_flt (op : BinOp) (t : TypeId) (x y : Operand) (k k' : FloatKind) (a b : Nat) (w : World) : (eqGuard op t x y (.float k a) (.float k' b)).run P w = .ok () w := by
  unfold eqGuard; cases op <;> rfl
theorem eqGuard_bool (op : BinOp) (t : TypeId) (x y : Operand) (a b : Bool) (w : World) : (eqGuard op t x y (.bool a) (.bool b)).run P w = .ok () w := by
  unfold eqGuard; cases op <;> rfl
theorem eqGuard_slice (op : BinOp) (t : TypeId) (x y : Operand) (a b : Option Addr) (n c n' c' : Nat) (w : World) : (eqGuard op t x y (.slice a n c) (.slice b n' c')).run P w = .ok () w := by
  unfold eqGuard; cases op <;> rfl

theorem runSt_and {a b : Bool} (h : std.and a b = true) : a = true ∧ b = true := std_and.1 h

theorem sound_intR {op : BinOp} {k : IntKind} {a b : Int} (hv : intR std op k a b = some (true, v)) (t : TypeId) (w : World) :
    ∃ r, (Go.binOp op t (.int k a) (.int k b)).run P w = .ok r w ∧ ∀ w ok h L, Rel w ok h L v r := by
  cases op <;> simp only [intR, Option.some.injEq, Prod.mk.injEq, reduceCtorEq] at hv
  case add => obtain ⟨h1, rfl⟩ := hv; exact ⟨.int k (k.wrap (a + b)), by simp [Go.binOp, Op.intArith], fun _ _ _ _ => by rw [show k.wrap (a + b) = a + b from wrap_inR h1]; exact .int _ _⟩
  case sub => obtain ⟨h1, rfl⟩ := hv; exact ⟨.int k (k.wrap (a - b)), by simp [Go.binOp, Op.intArith], fun _ _ _ _ => by rw [show k.wrap (a - b) = a - b from wrap_inR h1]; exact .int _ _⟩
  case mul => obtain ⟨h1, rfl⟩ := hv; exact ⟨.int k (k.wrap (a * b)), by simp [Go.binOp, Op.intArith], fun _ _ _ _ => by rw [show k.wrap (a * b) = a * b from wrap_inR h1]; exact .int _ _⟩
  case quo =>
    obtain ⟨h1, rfl⟩ := hv
    obtain ⟨h0, h1⟩ := runSt_and h1
    have h0 : b ≠ 0 := by simpa [std] using h0
    exact ⟨_, by simp [Go.binOp, Op.intDiv, h0]; rfl, fun _ _ _ _ => by rw [show k.wrap (a.tdiv b) = a.tdiv b from wrap_inR h1]; exact .int _ _⟩
  case rem =>
    obtain ⟨h0, rfl⟩ := hv
    have h0 : b ≠ 0 := by simpa [std] using h0
    exact ⟨_, by simp [Go.binOp, Op.intDiv, h0]; rfl, fun _ _ _ _ => .int _ _⟩
  case and => obtain ⟨_, rfl⟩ := hv; exact ⟨_, by simp [Go.binOp, Op.intBits]; rfl, fun _ _ _ _ => .int _ _⟩
  case or => obtain ⟨_, rfl⟩ := hv; exact ⟨_, by simp [Go.binOp, Op.intBits]; rfl, fun _ _ _ _ => .int _ _⟩
  case xor => obtain ⟨_, rfl⟩ := hv; exact ⟨_, by simp [Go.binOp, Op.intBits]; rfl, fun _ _ _ _ => .int _ _⟩
  case andNot => obtain ⟨_, rfl⟩ := hv; exact ⟨.int k (std.bits .andNot k a b), by simp only [Go.binOp, Op.intBits, ne_eq, not_true_eq_false, if_false]; rfl, fun _ _ _ _ => .int _ _⟩
  case eql => obtain ⟨_, rfl⟩ := hv; exact ⟨.bool (decide (a = b)), by simp [Go.binOp, Op.intCmp]; rfl, fun _ _ _ _ => .bool _⟩
  case neq => obtain ⟨_, rfl⟩ := hv; exact ⟨.bool (!decide (a = b)), by simp [Go.binOp, Op.intCmp]; rfl, fun _ _ _ _ => .bool _⟩
  case lss => obtain ⟨_, rfl⟩ := hv; exact ⟨.bool (decide (a < b)), by simp [Go.binOp, Op.intCmp], fun _ _ _ _ => .bool _⟩
  case leq => obtain ⟨_, rfl⟩ := hv; exact ⟨.bool (decide (a ≤ b)), by simp [Go.binOp, Op.intCmp], fun _ _ _ _ => .bool _⟩
  case gtr => obtain ⟨_, rfl⟩ := hv; exact ⟨.bool (decide (b < a)), by simp [Go.binOp, Op.intCmp], fun _ _ _ _ => .bool _⟩
  case geq => obtain ⟨_, rfl⟩ := hv; exact ⟨.bool (decide (b ≤ a)), by simp [Go.binOp, Op.intCmp], fun _ _ _ _ => .bool _⟩

theorem sound_strR {op : BinOp} {x y : List UInt8} (hv : strR std op x y = some (true, v)) (t : TypeId) (w : World) :
    ∃ r, (Go.binOp op t (.string ⟨x.toArray⟩) (.string ⟨y.toArray⟩)).run P w = .ok r w ∧ ∀ w ok h L, Rel w ok h L v r := by
  have hb : ∀ op, Go.binOp op t (.string ⟨x.toArray⟩) (.string ⟨y.toArray⟩) = Op.stringOp op ⟨x.toArray⟩ ⟨y.toArray⟩ := fun op => by cases op <;> rfl
  rw [hb]
  cases op <;> simp only [strR, Option.some.injEq, Prod.mk.injEq, reduceCtorEq] at hv
  case add =>
    obtain ⟨h1, rfl⟩ := hv
    have h1 : x.length + y.length ≤ 4294967296 := by simpa [std] using h1
    refine ⟨.string ⟨(x ++ y).toArray⟩, ?_, fun _ _ _ _ => .str _⟩
    have h1 : ¬ ((((⟨x.toArray⟩ : ByteArray).size + (⟨y.toArray⟩ : ByteArray).size : Nat) : Int) > IntKind.i64.max) := by
      have hm : IntKind.i64.max = 9223372036854775807 := by decide
      rw [hm]
      have e1 : (⟨x.toArray⟩ : ByteArray).size = x.length := rfl
      have e2 : (⟨y.toArray⟩ : ByteArray).size = y.length := rfl
      rw [e1, e2]; omega
    have h2 : (⟨x.toArray⟩ ++ ⟨y.toArray⟩ : ByteArray) = ⟨(x ++ y).toArray⟩ := by
      apply ByteArray.ext; simp
    simp only [Op.stringOp, if_neg h1, h2, Sem.run_pure]
  case eql => obtain ⟨_, rfl⟩ := hv; exact ⟨.bool (x == y), by simp [Op.stringOp], fun _ _ _ _ => .bool _⟩
  case neq => obtain ⟨_, rfl⟩ := hv; exact ⟨.bool (!(x == y)), by simp [Op.stringOp], fun _ _ _ _ => .bool _⟩
  case lss => obtain ⟨_, rfl⟩ := hv; exact ⟨.bool (Op.bytesLess x y), by simp [Op.stringOp], fun _ _ _ _ => .bool _⟩

theorem sound_fltR {op : BinOp} {k : FloatKind} {x y : Nat} (hv : fltR std op k x y = some (true, v)) (t : TypeId) (w : World) :
    ∃ r, (Go.binOp op t (.float k x) (.float k y)).run P w = .ok r w ∧ ∀ w ok h L, Rel w ok h L v r := by
  cases op <;> simp only [fltR, Option.some.injEq, Prod.mk.injEq, reduceCtorEq] at hv
  case add =>
    obtain ⟨h1, rfl⟩ := hv
    obtain ⟨r, hr⟩ := Option.isSome_iff_exists.1 h1
    have hr' : k.format.add x y = some r := hr
    exact ⟨.float k r, by simp [Go.binOp, Op.floatArith, hr'], fun _ _ _ _ => by rw [hr]; exact .flt _ _⟩
  case sub =>
    obtain ⟨h1, rfl⟩ := hv
    obtain ⟨r, hr⟩ := Option.isSome_iff_exists.1 h1
    have hr' : k.format.sub x y = some r := hr
    exact ⟨.float k r, by simp [Go.binOp, Op.floatArith, hr'], fun _ _ _ _ => by rw [hr]; exact .flt _ _⟩
  case eql => obtain ⟨_, rfl⟩ := hv; exact ⟨_, by simp [Go.binOp, Op.floatCmp]; rfl, fun _ _ _ _ => .bool _⟩
  case neq => obtain ⟨_, rfl⟩ := hv; exact ⟨_, by simp [Go.binOp, Op.floatCmp]; rfl, fun _ _ _ _ => .bool _⟩
  case lss => obtain ⟨_, rfl⟩ := hv; exact ⟨_, by simp [Go.binOp, Op.floatCmp]; rfl, fun _ _ _ _ => .bool _⟩
  case gtr => obtain ⟨_, rfl⟩ := hv; exact ⟨_, by simp [Go.binOp, Op.floatCmp]; rfl, fun _ _ _ _ => .bool _⟩

theorem sound_bin (H : HRel C h L w) {op : BinOp} {t ty : TypeId} {x y : AV} {x' y' : Operand} (ho : o.op = .binOp op t x' y' ty) (rx : RelC C h L w x (ev x')) (ry : RelC C h L w y (ev y'))
    (hv : binR std op x y = some (true, v)) : Snd C h L w ev o h v := by
  unfold binR at hv
  split at hv
  · rename_i k a k' b
    have key : ∃ r, (Go.binOp op t (.int k a) (.int k' b)).run C.P w = .ok r w ∧ ∀ w ok h L, Rel w ok h L v r := by
      split at hv
      · simp only [Option.some.injEq, Prod.mk.injEq, std_and] at hv
        obtain ⟨⟨⟨h1, h2⟩, h3⟩, rfl⟩ := hv
        have h1 : 0 ≤ b := by simpa [std] using h1
        have h2 : b.toNat < k.bits := by simpa [std] using h2
        refine ⟨.int k (k.wrap (a * 2 ^ b.toNat)), ?_, fun _ _ _ _ => by rw [show k.wrap (a * 2 ^ b.toNat) = a * 2 ^ b.toNat from wrap_inR h3]; exact .int _ _⟩
        simp [Go.binOp, Op.shift, Int.not_lt.2 h1, Nat.min_eq_left (Nat.le_of_lt h2)]
      · simp only [Option.some.injEq, Prod.mk.injEq, std_and] at hv
        obtain ⟨⟨h1, h2⟩, rfl⟩ := hv
        have h1 : 0 ≤ b := by simpa [std] using h1
        have h2 : b.toNat < k.bits := by simpa [std] using h2
        refine ⟨.int k (a.fdiv (2 ^ b.toNat)), ?_, fun _ _ _ _ => .int _ _⟩
        simp [Go.binOp, Op.shift, Int.not_lt.2 h1, Nat.min_eq_left (Nat.le_of_lt h2)]
      · split at hv
        · rename_i hk
          have := of_decide_eq_true hk; subst this
          exact sound_intR hv t w
        · cases hv
    obtain ⟨r, h1, h3⟩ := key
    refine .pure H (r := r) ?_ (h3 _ _ _ _)
    simp [execOp, ho, int_of rx, int_of ry, eqGuard_int, h1]
  · rename_i p q
    obtain ⟨r, h1, h3⟩ := sound_strR hv t w (P := C.P)
    refine .pure H (r := r) ?_ (h3 _ _ _ _)
    simp [execOp, ho, str_of rx, str_of ry, eqGuard_str, h1]
  · split at hv
    · rename_i hk
      have := of_decide_eq_true hk; subst this
      obtain ⟨r, h1, h3⟩ := sound_fltR hv t w (P := C.P)
      refine .pure H (r := r) ?_ (h3 _ _ _ _)
      simp [execOp, ho, flt_of rx, flt_of ry, eqGuard_flt, h1]
    · cases hv
  · cases hv

theorem sound_binw (H : HRel C h L w) {op : BinOp} {t ty : TypeId} {x y : AV} {x' y' : Operand} (ho : o.op = .binOp op t x' y' ty) (rx : RelC C h L w x (ev x')) (ry : RelC C h L w y (ev y'))
    (hv : binwR std op x y = some (true, v)) : Snd C h L w ev o h v := by
  unfold binwR at hv
  split at hv
  · rename_i k a k' b
    split at hv
    · rename_i hk
      have := of_decide_eq_true hk; subst this
      have key : ∃ r, (Go.binOp op t (.int k a) (.int k b)).run C.P w = .ok r w ∧ ∀ w ok h L, Rel w ok h L v r := by
        split at hv
        · simp only [Option.some.injEq, Prod.mk.injEq, true_and] at hv
          exact ⟨.int k (k.wrap (a + b)), by simp [Go.binOp, Op.intArith], fun _ _ _ _ => by rw [← hv]; exact .int _ _⟩
        · simp only [Option.some.injEq, Prod.mk.injEq, true_and] at hv
          exact ⟨.int k (k.wrap (a - b)), by simp [Go.binOp, Op.intArith], fun _ _ _ _ => by rw [← hv]; exact .int _ _⟩
        · simp only [Option.some.injEq, Prod.mk.injEq, true_and] at hv
          exact ⟨.int k (k.wrap (a * b)), by simp [Go.binOp, Op.intArith], fun _ _ _ _ => by rw [← hv]; exact .int _ _⟩
        · cases hv
      obtain ⟨r, h1, h3⟩ := key
      refine .pure H (r := r) ?_ (h3 _ _ _ _)
      simp [execOp, ho, int_of rx, int_of ry, eqGuard_int, h1]
    · cases hv
  · cases hv

theorem sound_beq (H : HRel C h L w) {ne : Bool} {op : BinOp} {t ty : TypeId} {a b : Bool} {x' y' : Operand} (ho : o.op = .binOp op t x' y' ty) (hop : op = if ne then .neq else .eql)
    (ht : C.P.underlying t = some .bool) (rx : RelC C h L w (.bool a) (ev x')) (ry : RelC C h L w (.bool b) (ev y')) :
    Snd C h L w ev o h (.bool (eqB std ne a b)) := by
  have e0 : ∀ d w, (Op.equalIn (d + 1) t (.bool a) (.bool b)).run C.P w = .ok (a == b) w := fun d w => by simp [Op.equalIn, run_underlying ht]
  have e : ∀ w, (Op.equal t (.bool a) (.bool b)).run C.P w = .ok (a == b) w := fun w => e0 9999 w
  refine .pure H (r := .bool (if ne then !(a == b) else a == b)) ?_ (by cases ne <;> exact .bool _)
  subst hop
  cases ne <;> simp [execOp, ho, bool_of rx, bool_of ry, eqGuard_bool, Go.binOp, e]

theorem run_info {t : TypeId} {i : TypeInfo} (hi : P.info? t = some i) (w : World) : (typeInfo t).run P w = .ok i w := by simp [typeInfo, hi]
theorem run_size {t : TypeId} {i : TypeInfo} (hi : P.info? t = some i) (w : World) : (sizeOf t).run P w = .ok i.size w := by simp [sizeOf, typeInfo, hi]
theorem run_und {t : TypeId} {d : TypeDesc} (ht : P.underlying t = some d) (w : World) : (underlying t).run P w = .ok d w := run_underlying ht w
theorem isAgg_run {t : TypeId} {d : TypeDesc} {ag : Bool} (ht : P.underlying t = some d) (hd : isAggD d = ag) (w : World) : (isAgg t).run P w = .ok ag w := by
  unfold isAgg
  rw [Sem.run_bind, run_underlying ht w]
  cases d <;> simp_all [isAggD]

/-- cells at an address, as the model loads them -/
theorem run_load_cells {ad : Addr} {cs : List Value} (hc : ∀ (j : Nat) (v : Value), cs[j]? = some v → w.cell? (ad.add j) = some v) {t : TypeId} {d : TypeDesc} {i : TypeInfo} {ag : Bool} {n off : Nat}
    (hd : P.underlying t = some d) (hag : isAggD d = ag) (hi : P.info? t = some i) (hn : i.size = n) (hoff : off + n ≤ cs.length) (hne : ag = false → n = 1) :
    (loadVar t (ad.add off)).run P w = .ok (if ag then .agg ((cs.drop off).take n).toArray else cs.getD off undef) w := by
  cases ag with
  | true =>
    have hl := run_loadCells_list (P := P) w (ad.add off) ((cs.drop off).take n) (fun j v hv => by
      rw [add_add]
      refine hc _ v ?_
      rw [List.getElem?_take] at hv
      split at hv
      · simpa using hv
      · cases hv)
    have hlen : ((cs.drop off).take n).length = n := by simp; omega
    rw [hlen] at hl
    simp [loadVar, isAgg_run hd hag, sizeOf, typeInfo, hi, hn, hl]
  | false =>
    have h1 := hne rfl
    subst h1
    have hv : cs[off]? = some (cs[off]'(by omega)) := List.getElem?_eq_getElem (by omega)
    have := hc off _ hv
    simp only [loadVar, Sem.run_bind, isAgg_run hd hag, Result.andThen_ok, Bool.false_eq_true, if_false, run_load, this]
    simp [List.getD_eq_getElem?_getD, hv]

theorem agg_of {r : Row} {x : Value} (hr : RelC C h L w (.agg r) x) : ∃ vs : Array Value, x = .agg vs ∧ RelL w (okOf C h L) h L r.elems vs.toList ∧ ∀ c ∈ vs, c.oneCell' = true := by
  cases hr with | agg _ xs hx vs hl h1 hh => subst hx; exact ⟨vs, rfl, ⟨by simpa using hl, fun j u v hu hv => hh j u v hu (by simpa using hv)⟩, h1⟩
theorem eptr_of {x : AV} {off : Nat} {r : Value} (hr : RelC C h L w (.eptr x off) r) : ∃ (ad : Addr) (cs : List Value), r = .pointer (some (ad.add off)) ∧ ad.spot = none ∧ ad.block < w.heap.size ∧ okOf C h L ad.block ∧ cs.length = x.flat.length ∧
    (∀ v ∈ cs, v.oneCell' = true) ∧ (∀ (j : Nat) (v : Value), cs[j]? = some v → w.cell? (ad.add j) = some v) ∧ AV.pureL x.flat = true ∧ RelL w (okOf C h L) h L x.flat cs := by
  cases hr with
  | eptr _ _ ad cs hs hb hok hl h1 hc hp hrr => exact ⟨ad, cs, rfl, hs, hb, hok, hl, h1, hc, hp, hl.symm, hrr⟩

/-- the part of a value's cells -/
theorem cut_rel {ag : Bool} {n off : Nat} {u : AV} {cs : List Value} (hr : RelL w (okOf C h L) h L u.flat cs) (h1 : ∀ v ∈ cs, v.oneCell' = true) (hv : cutE std ag n off u = some (true, v)) (hne : ag = false → n = 1) :
    off + n ≤ cs.length ∧ RelC C h L w v (if ag then .agg ((cs.drop off).take n).toArray else cs.getD off undef) := by
  have one : off < u.flat.length → RelC C h L w (u.flat.getD off .top) (cs.getD off undef) := fun hlt => by
    refine hr.2 off _ _ (by rw [List.getD_eq_getElem?_getD, List.getElem?_eq_getElem hlt]; rfl) (by rw [List.getD_eq_getElem?_getD, List.getElem?_eq_getElem (by rw [← hr.1]; exact hlt)]; rfl)
  have agr : ∀ r : Row, r.elems = (u.flat.drop off).take n → off + n ≤ u.flat.length → RelC C h L w (.agg r) (.agg ((cs.drop off).take n).toArray) := fun r he hle => by
    have hp := hr.part off n
    rw [← he] at hp
    exact .agg r r.elems rfl _ (by simpa using hp.1) (fun c hc => h1 c (List.mem_of_mem_drop (List.mem_of_mem_take (by simpa using hc)))) (fun j u v hu hv => hp.2 j u v hu (by simpa using hv))
  unfold cutE at hv
  split at hv
  · rename_i x
    simp only [Option.some.injEq, Prod.mk.injEq] at hv
    obtain ⟨hle, rfl⟩ := hv
    have hle : off + n ≤ x.elems.length := by rw [Row.len_std] at hle; simpa [std] using hle
    exact ⟨by rw [← hr.1]; exact hle, agr _ (by rw [Row.sub_std]; rfl) hle⟩
  · rename_i hu
    simp only [Option.some.injEq, Prod.mk.injEq, std_and] at hv
    obtain ⟨⟨e1, e2⟩, rfl⟩ := hv
    have e1 : off = 0 := by simpa [std] using e1
    have e2 : n = 1 := by simpa [std] using e2
    subst e1; subst e2
    have hf : u.flat = [u] := flat_single (by cases u <;> first | rfl | exact (hu _ rfl).elim)
    exact ⟨by rw [← hr.1, hf]; simp, agr _ (by rw [hf]; rfl) (by rw [hf]; simp)⟩
  · rename_i x
    simp only [Option.some.injEq, Prod.mk.injEq] at hv
    obtain ⟨hle, rfl⟩ := hv
    have hle : off < x.elems.length := by rw [Row.len_std] at hle; simpa [std] using hle
    have hn := hne rfl
    subst hn
    have h2 := one hle
    rw [show (AV.agg x).flat = x.elems from rfl, List.getD_eq_getElem?_getD, Row.get_std hle] at h2
    exact ⟨by rw [← hr.1]; exact hle, h2⟩
  · rename_i hu
    simp only [Option.some.injEq, Prod.mk.injEq] at hv
    obtain ⟨e1, rfl⟩ := hv
    have e1 : off = 0 := by simpa [std] using e1
    subst e1
    have hn := hne rfl
    subst hn
    have hf : u.flat = [u] := flat_single (by cases u <;> first | rfl | exact (hu _ rfl).elim)
    have h2 := one (by rw [hf]; simp)
    rw [hf] at h2
    exact ⟨by rw [← hr.1, hf]; simp, h2⟩

/-- what a load hands back -/
theorem load_val (H : HRel C h L w) {t : TypeId} {d : TypeDesc} {i : TypeInfo} {ag : Bool} {n : Nat} {p : AV} {pv : Value} (rp : RelC C h L w p pv)
    (hd : C.P.underlying t = some d) (hag : isAggD d = ag) (hi : C.P.info? t = some i) (hn : i.size = n) (hne : ag = false → n = 1)
    (hv : loadR std h ag n p = some (true, v)) : ∃ r ad, pv = .pointer (some ad) ∧ (loadVar t ad).run C.P w = .ok r w ∧ RelC C h L w v r := by
  unfold loadR at hv
  split at hv
  · rename_i a j k off
    split at hv
    · rename_i e sz r hb
      obtain ⟨ht, h0, h1, h2, h3, cur, h4, h5, h6, h7, h8⟩ := H.rowAt hb
      cases rp with
      | ptr _ _ _ _ g oo hl =>
        obtain ⟨rfl, rfl⟩ := hl.2 _ ht
        split at hv
        · rename_i kd m hget
          simp only [Option.some.injEq, Prod.mk.injEq, std_and] at hv
          obtain ⟨⟨⟨e1, e2⟩, e3, _, e4⟩, hrv⟩ := hv
          have e1 : sz = 1 := by simpa [std] using e1
          have e2 : off = 0 := by simpa [std] using e2
          have e3 : k + n ≤ r.elems.length := by rw [Row.len_std] at e3; simpa [std] using e3
          subst e1; subst e2
          have hone := Row.sing_std e4
          have hfl := flatAll_single hone
          have hcs := run_load_cells (P := C.P) (w := w) (ad := ⟨L.loc a j, 0, none⟩) h8 hd hag hi hn (off := k) (by rw [← h6.1, hfl]; exact e3) hne
          rw [hag] at *
          have hp := (h6.part k n)
          rw [hfl] at hp
          refine ⟨.agg (((cur.toList.take (r.elems.length * 1)).drop k).take n).toArray, _, rfl, ?_, ?_⟩
          · rw [add_mk, Nat.zero_add] at hcs
            simpa using hcs
          · have he : ∃ r2 : Row, v = .agg r2 ∧ r2.elems = sub3 r.elems k n := by
              rw [← hrv]
              split
              · rename_i hn1
                have hn1 : n = 1 := by simpa using hn1
                subst hn1
                refine ⟨_, rfl, ?_⟩
                have hg := Row.get_std (r := r) (j := k) (by omega)
                rw [hget] at hg
                unfold sub3
                rw [List.drop_eq_getElem_cons (by omega)]
                rw [List.getElem?_eq_getElem (by omega)] at hg
                simp only [Option.some.injEq] at hg
                rw [hg]; rfl
              · refine ⟨_, rfl, ?_⟩
                rw [normR_std]; exact Row.part_std e3
            obtain ⟨r2, rfl, he⟩ := he
            exact .agg r2 r2.elems rfl _ (by rw [he]; simpa [sub3] using hp.1) (fun c hc => h7 c (List.mem_of_mem_drop (List.mem_of_mem_take (by simpa using hc)))) (fun j u v hu hv => hp.2 j u v (by rw [he] at hu; exact hu) (by simpa using hv))
        · split at hv
          · rename_i b v' hc
            simp only [Option.some.injEq, Prod.mk.injEq, std_and] at hv
            obtain ⟨⟨hk, rfl⟩, rfl⟩ := hv
            have hk : k < r.elems.length := by rw [Row.len_std] at hk; simpa [std] using hk
            have hget := Row.get_std hk
            have hulen := h3 _ (List.mem_of_getElem? hget)
            have hge : k * sz + sz ≤ r.elems.length * sz := by
              have := Nat.mul_le_mul_right sz (Nat.succ_le_of_lt hk)
              rwa [Nat.succ_mul] at this
            have hrel : RelL w (okOf C h L) h L (r.get std k).flat (((cur.toList.take (r.elems.length * sz)).drop (k * sz)).take sz) := by
              have hl6 := h6.1
              rw [flatAll_length h3] at hl6
              refine ⟨by rw [hulen]; simp only [List.length_take, List.length_drop] at hl6 ⊢; omega, fun j u x hu hx => ?_⟩
              rw [List.getElem?_take] at hx
              split at hx
              · rename_i hj
                rw [List.getElem?_drop] at hx
                exact h6.2 (k * sz + j) u x (by rw [elem_sub h3 hget j hj]; exact hu) hx
              · cases hx
            obtain ⟨c1, c2⟩ := cut_rel hrel (fun c hc => h7 c (List.mem_of_mem_drop (List.mem_of_mem_take hc))) hc hne
            have hcs := run_load_cells (P := C.P) (w := w) (ad := ⟨L.loc a j, k * sz, none⟩) (cs := ((cur.toList.take (r.elems.length * sz)).drop (k * sz)).take sz) (fun j v hj => by
              rw [List.getElem?_take] at hj
              split at hj
              · rw [List.getElem?_drop] at hj
                have := h8 _ v hj
                rw [add_mk, Nat.zero_add] at this
                rw [add_mk]; exact this
              · cases hj) hd hag hi hn (off := off) c1 hne
            rw [add_mk] at hcs
            exact ⟨_, _, rfl, hcs, c2⟩
          · cases hv
    · cases hv
  · rename_i u off
    obtain ⟨ad, cs, rfl, hsp, hb, hok, hl, h1, hc, hp, hrr⟩ := eptr_of rp
    obtain ⟨c1, c2⟩ := cut_rel hrr h1 hv hne
    exact ⟨_, _, rfl, run_load_cells (P := C.P) hc hd hag hi hn c1 hne, c2⟩
  · cases hv

theorem okOf_nil {C : Ctx} {h : AHeap} {L L' : Lay} {g : Nat} (ho : okOf C h L g) : okOf C [] L' g := by
  rcases ho with ho | ⟨h1, _⟩
  · exact .inl ho
  · exact .inr ⟨h1, fun a i ht => absurd rfl ht⟩
/-- what is read lies in immutable memory, or in a block of its own -/
theorem contents_ok (H : HRel C h L w) {av : AV} {v : Value} (hr : RelC C h L w av v) {r : Row} (hc : contR std h av = some (true, r)) :
    ∀ a' n c, v = .slice (some a') n c → r.elems ≠ [] → okOf C [] L a'.block := by
  unfold contR at hc
  have tr : ∀ {a i e sz : Nat} {q : Row}, blk h a i = .row e sz q → okOf C [] L (L.loc a i) ∧ (blk h a i).tag = some (sz, q.elems.length) := fun hb =>
    ⟨.inr ⟨(H.live _ _ (by rw [hb]; simp [Blk.tag])).1, fun _ _ ht => absurd rfl ht⟩, by rw [hb]; rfl⟩
  split at hc
  · cases hc
    cases hr with
    | nil _ a c he => exact fun a' n c _ hne => absurd he hne
    | list _ xs hx ad n cap sz cs hb hok hn hcap hsz hl h1 hcl hp hrr => exact fun a' n c e _ => by cases e; exact okOf_nil hok
  · cases hc
    exact fun a' n c _ hne => absurd rfl hne
  · rename_i a i
    split at hc
    · rename_i e sz r' hb
      cases hc
      obtain ⟨t1, t2⟩ := tr hb
      cases hr with
      | row _ _ g o n c hn hl =>
        obtain ⟨rfl, rfl, rfl, rfl⟩ := hl.2 _ t2
        exact fun a' n c e _ => by cases e; exact t1
    · cases hc
  · rename_i a i k n cap
    split at hc
    · rename_i e sz r' hb
      simp only [Option.some.injEq, Prod.mk.injEq] at hc
      obtain ⟨hkn, rfl⟩ := hc
      have hkn : k + n ≤ r'.elems.length := by rw [Row.len_std] at hkn; simpa [std] using hkn
      obtain ⟨t1, t2⟩ := tr hb
      have hlen : (r'.sub std k n).elems.length = n := by rw [Row.sub_std]; simp [sub3]; omega
      cases hr with
      | slc _ _ _ _ _ g o c hn hl =>
        rcases hl.2 _ t2 with ⟨_, rfl⟩ | ⟨rfl, rfl, _⟩
        · exact fun a' n c _ hne => absurd (List.eq_nil_of_length_eq_zero hlen) hne
        · exact fun a' n c e _ => by cases e; exact t1
    · cases hc
  · rename_i a i k off n
    split at hc
    · rename_i e sz r' hb
      split at hc
      · rename_i x hx
        simp only [Option.some.injEq, Prod.mk.injEq, std_and] at hc
        obtain ⟨⟨hk, hon, hsg⟩, hrr⟩ := hc
        have hon : off + n ≤ x.elems.length := by rw [Row.len_std] at hon; simpa [std] using hon
        have hre : r.elems = sub3 x.elems off n := by rw [← Row.part_std hon, ← hrr, normR_std]
        obtain ⟨t1, t2⟩ := tr hb
        have hlen : r.elems.length = n := by rw [hre]; simp [sub3]; omega
        cases hr with
        | aslc _ _ _ _ _ g o c hn hl =>
          rcases hl.2 _ t2 with rfl | ⟨rfl, rfl⟩
          · exact fun a' n c _ hne => absurd (List.eq_nil_of_length_eq_zero hlen) hne
          · exact fun a' n c e _ => by cases e; exact t1
      · cases hc
    · cases hc
  · split at hc
    · cases hc
      exact fun a' n c _ hne => absurd rfl hne
    · cases hc
  · cases hc
end
end Go.Proofs.Ytjhdnpmojhkbjaa
