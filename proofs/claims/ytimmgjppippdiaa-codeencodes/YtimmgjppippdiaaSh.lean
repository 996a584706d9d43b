/- Contracts as a list. No condition. -/
import Derived.Test.YtimmgjppippdiaaSg
namespace Go.Proofs.Ytimmgjppippdiaa

def k46 : Ctr := ⟨46, 0, fun _ a => match a with | [.agg (.ints .i64 c), .list (.ints .i64 bs)] => some (decide (c.length = 3 ∧ bs.length ≤ 1000000), .tup [.list (.ints .i64 (ebL c bs)), .int .i64 (ebF c bs)], none) | _ => none⟩
theorem k46_ok : k46.OK Try.prog := fun pa args r fr h => by
  simp only [k46] at h
  split at h
  · simp only [Option.some.injEq, Prod.mk.injEq, decide_eq_true_eq] at h
    obtain ⟨h0, rfl, rfl⟩ := h
    exact enc46_ok _ _ h0.1 h0.2
  · cases h
def k56 : Ctr := ⟨56, 0, fun _ a => match a with | [.agg (.ints .i64 c), .list (.ints .i64 bs), .list (.ints .i64 so)] => some (decide (c.length = 3 ∧ so.length ≤ 1000000 ∧ bs.length ≤ 1000000), .tup [.int .i64 (if meF c bs so = 0 then metI so 0 (enc c bs) else 0), .int .i64 (meF c bs so)], none) | _ => none⟩
theorem k56_ok : k56.OK Try.prog := fun pa args r fr h => by
  simp only [k56] at h
  split at h
  · simp only [Option.some.injEq, Prod.mk.injEq, decide_eq_true_eq] at h
    obtain ⟨h0, rfl, rfl⟩ := h
    exact met56_ok _ _ _ h0.1 h0.2.1 h0.2.2
  · cases h
def k61 : Ctr := ⟨61, 0, fun _ a => match a with | [.agg (.ints .i64 c), .list (.ints .i64 bs), .list (.ints .i64 so)] => some (decide (c.length = 3 ∧ so.length ≤ 1000000 ∧ meF c bs so = 0), .int .i64 (metI so 0 (enc c bs)), none) | _ => none⟩
theorem k61_ok : k61.OK Try.prog := fun pa args r fr h => by
  simp only [k61] at h
  split at h
  · simp only [Option.some.injEq, Prod.mk.injEq, decide_eq_true_eq] at h
    obtain ⟨h0, rfl, rfl⟩ := h
    exact met61_ok _ _ _ h0.1 h0.2.1 h0.2.2
  · cases h
def k47 : Ctr := ⟨47, 0, fun _ a => match a with | [.agg (.ints .i64 c)] => some (decide (c.length = 3), .tup [.int .i64 (if convE c = 0 then freeS c else 0), .int .i64 (convE c)], none) | _ => none⟩
theorem k47_ok : k47.OK Try.prog := fun pa args r fr h => by
  simp only [k47] at h
  split at h
  · simp only [Option.some.injEq, Prod.mk.injEq, decide_eq_true_eq] at h
    obtain ⟨h0, rfl, rfl⟩ := h
    exact free47_ok _ h0
  · cases h
def k58 : Ctr := ⟨58, 0, fun _ a => match a with | [.agg (.ints .i64 c)] => some (decide (c.length = 3 ∧ convE c = 0), .int .i64 (freeS c), none) | _ => none⟩
theorem k58_ok : k58.OK Try.prog := fun pa args r fr h => by
  simp only [k58] at h
  split at h
  · simp only [Option.some.injEq, Prod.mk.injEq, decide_eq_true_eq] at h
    obtain ⟨h0, rfl, rfl⟩ := h
    exact free58_ok _ h0.1 h0.2
  · cases h
def k59l : Ctr := ⟨59, 0, fun _ a => match a with | [.agg (.ints .i64 c), .list (.ints .i64 bs)] => some (decide ((c.length = 3 ∧ convE c = 0) ∧ bs.all bitB = true ∧ bs.length ≤ 300), .list (.ints .i64 (enc c bs)), newF) | _ => none⟩
theorem k59l_ok : k59l.OK Try.prog := fun pa args r fr h => by
  simp only [k59l] at h
  split at h
  · simp only [Option.some.injEq, Prod.mk.injEq, decide_eq_true_eq] at h
    obtain ⟨h0, rfl, rfl⟩ := h
    exact new_row (enc59_ok _ _ h0.1.1 h0.1.2 h0.2.1 h0.2.2) rfl rfl
  · cases h
def k50 : Ctr := ⟨50, 0, fun _ a => match a with | [.int .i64 n, .int .i64 m] => some (decide (-1000 ≤ m ∧ m ≤ 1000), .bool (few n m), none) | _ => none⟩
theorem k50_ok : k50.OK Try.prog := fun pa args r fr h => by
  simp only [k50] at h
  split at h
  · simp only [Option.some.injEq, Prod.mk.injEq, decide_eq_true_eq] at h
    obtain ⟨h0, rfl, rfl⟩ := h
    exact few_ok _ _ h0
  · cases h
def H5 : List Ctr := [k46, k56, k61, k47, k58, k59l, k50] ++ H2
theorem H5_ok : CtrsOK Try.prog H5 := ⟨k46_ok, ⟨k56_ok, ⟨k61_ok, ⟨k47_ok, ⟨k58_ok, ⟨k59l_ok, ⟨k50_ok, H2_ok⟩⟩⟩⟩⟩⟩⟩
end Go.Proofs.Ytimmgjppippdiaa
