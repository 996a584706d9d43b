/- Contracts as a list. No condition. -/
import Derived.Test.YtimmgjppippdiaaSd
namespace Go.Proofs.Ytimmgjppippdiaa
theorem rep122_ok (n : Int) (h : n = 2 ∨ n = 4 ∨ n = 8) : Pure Try.prog 122 [.list (.ints .i64 [100000]), .int .i64 n] (.row 0 0) (some ⟨3, 1, .ints .i64 (List.replicate n.toNat 100000)⟩) := by
  rcases h with rfl | rfl | rfl
  · exact fact_of (n := 100000) (l := []) follows tab_ok trivial (by kernel_rfl)
  · exact fact_of (n := 100000) (l := []) follows tab_ok trivial (by kernel_rfl)
  · exact fact_of (n := 100000) (l := []) follows tab_ok trivial (by kernel_rfl)
def stsB (n : Int) : Bool := decide (n = 2 ∨ n = 4 ∨ n = 8)
def k122 : Ctr := ⟨122, 0, fun _ a => match a with | [.list (.ints .i64 [100000]), .int .i64 n] => some (decide (stsB n = true), .row 0 0, (some ⟨3, 1, .ints .i64 (List.replicate n.toNat 100000)⟩)) | _ => none⟩
theorem k122_ok : k122.OK Try.prog := fun pa args r fr h => by
  simp only [k122] at h
  split at h
  · simp only [Option.some.injEq, Prod.mk.injEq, decide_eq_true_eq] at h
    obtain ⟨h0, rfl, rfl⟩ := h
    exact rep122_ok _ (of_decide_eq_true h0)
  · cases h
def k119 : Ctr := ⟨119, 0, fun _ a => match a with | [.agg (.ints .i64 c), .list (.ints .i64 bs)] => some (decide ((c.length = 3 ∧ convE c = 0) ∧ bs.all bitB = true ∧ bs.length ≤ 300), .row 0 0, (some ⟨3, 1, .ints .i64 (enc c bs)⟩)) | _ => none⟩
theorem k119_ok : k119.OK Try.prog := fun pa args r fr h => by
  simp only [k119] at h
  split at h
  · simp only [Option.some.injEq, Prod.mk.injEq, decide_eq_true_eq] at h
    obtain ⟨h0, rfl, rfl⟩ := h
    exact enc119_ok _ _ h0.1.1 h0.1.2 h0.2.1 h0.2.2
  · cases h
def k59 : Ctr := ⟨59, 0, fun _ a => match a with | [.agg (.ints .i64 c), .list (.ints .i64 bs)] => some (decide ((c.length = 3 ∧ convE c = 0) ∧ bs.all bitB = true ∧ bs.length ≤ 300), .row 0 0, (some ⟨3, 1, .ints .i64 (enc c bs)⟩)) | _ => none⟩
theorem k59_ok : k59.OK Try.prog := fun pa args r fr h => by
  simp only [k59] at h
  split at h
  · simp only [Option.some.injEq, Prod.mk.injEq, decide_eq_true_eq] at h
    obtain ⟨h0, rfl, rfl⟩ := h
    exact enc59_ok _ _ h0.1.1 h0.1.2 h0.2.1 h0.2.2
  · cases h
def H4 : List Ctr := [k122, k119, k59] ++ H2
theorem H4_ok : CtrsOK Try.prog H4 := ⟨k122_ok, ⟨k119_ok, ⟨k59_ok, H2_ok⟩⟩⟩
end Go.Proofs.Ytimmgjppippdiaa
