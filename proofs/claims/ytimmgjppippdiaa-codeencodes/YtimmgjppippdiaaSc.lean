/- Contracts as a list. No condition. -/
import Derived.Test.YtimmgjppippdiaaQj
namespace Go.Proofs.Ytimmgjppippdiaa
/-! ### Copies of empty slices -/
theorem clone_v (v : Value) (ad : Option Addr) (cap : Nat) (hv : v = .slice ad 0 cap) : Pure Try.prog 129 [.val v] (match ad with | some _ => .row 0 0 | none => .nils) (match ad with | some _ => some ⟨3, 1, .gen []⟩ | none => none) := by
  subst hv
  cases ad with
  | none => exact start (f129we_at cap) fun C hC => fin hC E0_ok (f129wp0 std cap) (by simp) rfl rfl
  | some ad => exact start (f129ve_at ad cap) fun C hC => fin hC E0_ok (f129vp0 std ad cap) (by simp) rfl rfl
def k129v : Ctr := ⟨129, 0, fun _ a => match a with
  | [.val v] => (match v with
    | .slice ad n cap => (match n with
      | 0 => (match ad with | some _ => some (true, .row 0 0, some ⟨3, 1, .gen []⟩) | none => some (true, .nils, none))
      | _ + 1 => none)
    | _ => none)
  | _ => none⟩
theorem k129v_ok : k129v.OK Try.prog := fun pa args r fr h => by
  simp only [k129v] at h
  split at h
  · split at h
    · split at h
      · split at h
        · cases h
          exact clone_v _ _ _ rfl
        · cases h
          exact clone_v _ _ _ rfl
      · cases h
    · cases h
  · cases h
def k20x : Ctr := ⟨20, 0, fun _ a => match a with | [.list (.ints .i64 xs)] => some (decide (xs.length ≤ 4294967296), .row 0 0, (some ⟨3, 1, .ints .i64 xs⟩)) | _ => none⟩
theorem k20x_ok : k20x.OK Try.prog := fun pa args r fr h => by
  simp only [k20x] at h
  split at h
  · simp only [Option.some.injEq, Prod.mk.injEq, decide_eq_true_eq] at h
    obtain ⟨h0, rfl, rfl⟩ := h
    exact copy_row _ h0
  · cases h
def H3 : List Ctr := [k129v, k20x] ++ H2
theorem H3_ok : CtrsOK Try.prog H3 := ⟨k129v_ok, k20x_ok, H2_ok⟩
end Go.Proofs.Ytimmgjppippdiaa
