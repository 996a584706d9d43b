/- Contracts as a list. No condition. -/
import Derived.Test.YtimmgjppippdiaaRl
namespace Go.Proofs.Ytimmgjppippdiaa

def k68 : Ctr := ⟨68, 0, fun _ a => match a with | [.agg (.gen [.int .i64 n, .list (.big (.ints .i64) cs)]), .list (.ints .i64 w)] => some (decide (cs.length ≤ 1000000 ∧ cs.all few1 = true ∧ w.length ≤ 1000000), .tup [.list (.ints .i64 (nr68 n (iss cs) w).1), .int .i64 (nr68 n (iss cs) w).2.1, .int .i64 (nr68 n (iss cs) w).2.2], none) | _ => none⟩
theorem k68_ok : k68.OK Try.prog := fun pa args r fr h => by
  simp only [k68] at h
  split at h
  · simp only [Option.some.injEq, Prod.mk.injEq, decide_eq_true_eq] at h
    obtain ⟨h0, rfl, rfl⟩ := h
    exact near68_ok _ _ _ h0.1 h0.2.1 h0.2.2
  · cases h
def k69 : Ctr := ⟨69, 0, fun _ a => match a with | [.agg (.gen [.int .i64 n, .list (.big (.ints .i64) cs)])] => some (decide (cs.length ≤ 1000000 ∧ cs.all few1 = true), .tup [.int .i64 (mw69 n (iss cs)).1, .int .i64 (mw69 n (iss cs)).2], none) | _ => none⟩
theorem k69_ok : k69.OK Try.prog := fun pa args r fr h => by
  simp only [k69] at h
  split at h
  · simp only [Option.some.injEq, Prod.mk.injEq, decide_eq_true_eq] at h
    obtain ⟨h0, rfl, rfl⟩ := h
    exact min69_ok _ _ h0.1 h0.2
  · cases h
def G4 : List Ctr := [k68, k69] ++ G3
theorem G4_ok : CtrsOK Try.prog G4 := ⟨k68_ok, ⟨k69_ok, G3_ok⟩⟩
end Go.Proofs.Ytimmgjppippdiaa
