/- The cells of some types, as they are read. No condition. -/
import Derived.Test.YtjhdnpmojhkbjaaW3
namespace Go.Proofs.Ytjhdnpmojhkbjaa
open Go.ChangeShapes Go.WideShapes in
theorem okWide_ary {P : Program} {w : World} {r : Reach} {base : Nat} {t : TypeId} {v : Value} {n : Nat} {e : TypeId} (ht : P.underlying t = some (.array n e)) (h : Value.okWide P w r base t v) : ∃ cs, v = .agg cs ∧ cs.size = P.cellsOf t := by
  simp only [Value.okWide, ht] at h
  obtain ⟨cs, h1, h2, _⟩ := h
  exact ⟨cs, h1, h2⟩
theorem rel_aggsame {w : World} {ok : Nat → Prop} {h : AHeap} {L : Lay} {r r' : Row} {v : Value} (he : r.elems = r'.elems) (hr : Rel w ok h L (.agg r) v) : Rel w ok h L (.agg r') v := by
  cases hr with
  | agg _ xs hx vs hl h1 hrr => exact .agg r' xs (hx.trans he) vs hl h1 hrr
theorem cf_int {k : IntKind} {u : AV} (h : Cf (.int k) u) : ∃ n, u = .int k n ∧ (Lit.int k n).wf = true := by
  obtain ⟨⟨a, rfl⟩, hw, _⟩ := h
  exact ⟨_, rfl, hw⟩
theorem cf_bool {u : AV} (h : Cf .bool u) : ∃ b, u = .bool b := by
  obtain ⟨⟨a, rfl⟩, hw, _⟩ := h
  exact ⟨_, rfl⟩
theorem cf_str {u : AV} (h : Cf .str u) : ∃ s, u = .str s := by
  obtain ⟨⟨a, rfl⟩, hw, _⟩ := h
  exact ⟨_, rfl⟩
theorem cf_ints {k : IntKind} {u : AV} (h : Cf (.ints k) u) : ∃ l : List Int, u = .list (.ints k l) ∧ ∀ x ∈ l, (Lit.int k x).wf = true := by
  obtain ⟨⟨a, rfl⟩, hw, _⟩ := h
  exact ⟨_, rfl, hw⟩
theorem cf_big {s : Sh} {u : AV} (h : Cf (.big s) u) : ∃ l : List AV, u = .list (.big s l) := by
  obtain ⟨⟨a, rfl⟩, hw, _⟩ := h
  exact ⟨_, rfl⟩
theorem cfs_nil {us : List AV} (h : Cfs [] us) : us = [] := List.eq_nil_of_length_eq_zero h.1
theorem cfs_cons {s : Sh} {ss : List Sh} {us : List AV} (h : Cfs (s :: ss) us) : ∃ u r, us = u :: r ∧ Cf s u ∧ Cfs ss r := by
  cases us with
  | nil => have := h.1; simp at this
  | cons u r => exact ⟨u, r, rfl, h.2 0 s u rfl rfl, by have := h.1; simpa using this, fun j s' u' hs hu => h.2 (j + 1) s' u' (by simpa using hs) (by simpa using hu)⟩
theorem cf_ii {us : List AV} (h : Cfs [.int .i64, .int .i64] us) : ∃ a b, us = [.int .i64 a, .int .i64 b] ∧ (Lit.int .i64 a).wf = true ∧ (Lit.int .i64 b).wf = true := by
  obtain ⟨u, r, rfl, h1, h⟩ := cfs_cons h
  obtain ⟨u2, r, rfl, h2, h⟩ := cfs_cons h
  obtain rfl := cfs_nil h
  obtain ⟨a, rfl, ha⟩ := cf_int h1
  obtain ⟨b, rfl, hb⟩ := cf_int h2
  exact ⟨a, b, rfl, ha, hb⟩
theorem cf_frame {us : List AV} (h : Cfs [.int .i64, .int .i64, .int .i64, .ints .i64] us) : ∃ c n f l, us = [.int .i64 c, .int .i64 n, .int .i64 f, .list (.ints .i64 l)] := by
  obtain ⟨u, r, rfl, h1, h⟩ := cfs_cons h
  obtain ⟨u2, r, rfl, h2, h⟩ := cfs_cons h
  obtain ⟨u3, r, rfl, h3, h⟩ := cfs_cons h
  obtain ⟨u4, r, rfl, h4, h⟩ := cfs_cons h
  obtain rfl := cfs_nil h
  obtain ⟨a, rfl, ha⟩ := cf_int h1
  obtain ⟨b, rfl, hb⟩ := cf_int h2
  obtain ⟨c, rfl, hb⟩ := cf_int h3
  obtain ⟨l, rfl, hb⟩ := cf_ints h4
  exact ⟨a, b, c, l, rfl⟩
end Go.Proofs.Ytjhdnpmojhkbjaa
