/- Contracts as a list. No condition. -/
import Derived.Test.YtjhdnpmojhkbjaaA4
import Derived.Test.YtjhdnpmojhkbjaaTi
namespace Go.Proofs.Ytjhdnpmojhkbjaa
theorem awake_ok : Pure Try.prog 14 [] (.bool true) none := q254_ok
def k14 : Ctr := ⟨14, 0, fun _ a => match a with | [] => some (true, .bool true, none) | _ => none⟩
theorem k14_ok : k14.OK Try.prog := fun pa args r fr h => by
  simp only [k14] at h
  split at h
  · cases h
    exact awake_ok
  · cases h
def B5 : List Ctr := [k14] ++ B4
theorem B5_ok : CtrsOK Try.prog B5 := ⟨k14_ok, B4_ok⟩
end Go.Proofs.Ytjhdnpmojhkbjaa
