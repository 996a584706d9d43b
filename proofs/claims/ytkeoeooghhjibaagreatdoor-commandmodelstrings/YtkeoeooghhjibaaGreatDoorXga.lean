/- What holds of the memory in which a law is called, and stays: what the library's variables hold. No condition. -/
import Derived.Test.YtkeoeooghhjibaaGreatDoorXy
import Derived.Below
import Derived.Lib.LaidTab
import Derived.Lib.ItoaNum
namespace Go.Proofs.YtkeoeooghhjibaaGreatDoor
open Go.RowKit (Below)
def Zru(w:World)(g:Nat):Option (Array Value):=match w.heap[g]? with |some (.cells cs _ _)=>some cs |_=>none
structure FactsW (w:World):Prop where
 len:∃m,w.cell? ⟨0,0,none⟩=some (.int .i64 m)
 syn:∃t p,w.cell? ⟨1,0,none⟩=some (.iface t p)
 rng:∃t p,w.cell? ⟨2,0,none⟩=some (.iface t p)
 tab:Zru w 5=some (Lib.pow10Tab.map fun z=>Value.int .u64 z).toArray
theorem FactsW.keep{w w':World}(h:FactsW w)(hk:∀k,k<6→w'.heap[k]? =w.heap[k]?):FactsW w':=by
 have hc:∀k,k<6→w'.cell? ⟨k,0,none⟩=w.cell? ⟨k,0,none⟩:=fun k h6=>by
  unfold World.cell?
  simp only[hk k h6]
 obtain⟨h1,h2,h3,h4⟩:=h
 refine⟨by rw[hc 0 (by decide)];exact h1,by rw[hc 1 (by decide)];exact h2,by rw[hc 2 (by decide)];exact h3,?_⟩
 unfold Zru at h4⊢
 rw[hk 5 (by decide)];exact h4
def GoodW(_:Program)(w:World)(b own:Nat):Prop:=FactsW w∧6≤w.heap.size∧(6≤b∨6≤own)
theorem GoodW.facts{P:Program}{w0 w:World}{b own:Nat}(h:GoodW P w0 b own)(hb:Below b w0 w)(hl:∀k,k<w0.heap.size→k≠own→w.heap[k]? =w0.heap[k]?):FactsW w:=
 h.1.keep fun k hk=>by
  rcases h.2.2 with q |q
  ·exact hb.block k (by omega)
  ·exact hl k (by have:=h.2.1;omega) (by omega)
theorem GoodW.at{P:Program}{w0 w:World}{b own:Nat}(h:GoodW P w0 b own)(hb:Below b w0 w)(hl:∀k,k<w0.heap.size→k≠own→w.heap[k]? =w0.heap[k]?):GoodW P w w.heap.size 0:=
 have h6:6≤w.heap.size:=Nat.le_trans h.2.1 hb.size
 ⟨h.facts hb hl,h6, .inl h6⟩
theorem GoodW.mut{P:Program}{w0 w:World}{b own l:Nat}(h:GoodW P w0 b own)(hb:Below b w0 w)(hl:∀k,k<w0.heap.size→k≠own→w.heap[k]? =w0.heap[k]?)(h1:b≤l)(h2:w0.heap.size≤l∨l=own):GoodW P w 0 l:=
 ⟨h.facts hb hl,Nat.le_trans h.2.1 hb.size, .inr (by
   rcases h.2.2 with q |q
   ·omega
   ·rcases h2 with q2 |q2
    ·have:=h.2.1;omega
    ·omega)⟩
end Go.Proofs.YtkeoeooghhjibaaGreatDoor
