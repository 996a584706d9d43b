/- All of a list of truths. No condition. -/
import Derived.Test.YtimmgjppippdiaaXx
namespace Go.Proofs.Ytimmgjppippdiaa
def AllT : List Bool → Prop
  | [] => True
  | b :: l => b = true ∧ AllT l
theorem AllT.mem : ∀ {l : List Bool}, AllT l → ∀ b ∈ l, b = true
  | _ :: _, ⟨h1, h2⟩, b, hb => by
    rcases List.mem_cons.1 hb with e | e
    · rw [e]; exact h1
    · exact AllT.mem h2 b e
end Go.Proofs.Ytimmgjppippdiaa
