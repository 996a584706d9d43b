/- What holds of the memory in which a law is called, and stays. Here: nothing is asked. No condition. -/
import Derived.Test.YtkeoeooghhjibaaGreatDoorXy
import Derived.Below
namespace Go.Proofs.YtkeoeooghhjibaaGreatDoor
open Go.RowKit (Below)
def GoodW(_:Program)(_:World)(_ _:Nat):Prop:=True
theorem GoodW.at{P:Program}{w0 w:World}{b own:Nat}(_:GoodW P w0 b own)(_:Below b w0 w)(_:∀k,k<w0.heap.size→k≠own→w.heap[k]? =w0.heap[k]?):GoodW P w w.heap.size 0:=trivial
theorem GoodW.mut{P:Program}{w0 w:World}{b own l:Nat}(_:GoodW P w0 b own)(_:Below b w0 w)(_:∀k,k<w0.heap.size→k≠own→w.heap[k]? =w0.heap[k]?)(_:b≤l)(_:w0.heap.size≤l∨l=own):GoodW P w 0 l:=trivial
end Go.Proofs.YtkeoeooghhjibaaGreatDoor
