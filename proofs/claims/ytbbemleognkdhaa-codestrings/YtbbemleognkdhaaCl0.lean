/- Contracts of library functions, out of the shelf, at this program. No condition. -/
import Derived.Test.YtbbemleognkdhaaW4
import Derived.Shelf.Strings.Builder1
import Derived.Shelf.Small.Strs
import Derived.Test.YtbbemleognkdhaaProg
import Derived.KernelRfl
namespace Go.Proofs.Ytbbemleognkdhaa
open Go.Shelf
def ZcO:Go.Shelf.Ren:=⟨fun |167=>22 |240=>42 |276=>54 |n=>n,fun |0=>0 |3=>3 |4=>4 |5=>5 |9=>9 |20=>20 |37=>52 |70=>51 |72=>54 |75=>57 |80=>59 |127=>81 |164=>101 |n=>n,fun |n=>n⟩
theorem Zke:Go.Proofs.Lays.n167 Try.prog ZcO:={
 mixed:=by kernel_rfl
 f167:=Try.func22.trans (congrArg some (by kernel_rfl))
 f240:=Try.func42.trans (congrArg some (by kernel_rfl))
 f276:=Try.func54.trans (congrArg some (by kernel_rfl))
 t0:=Try.underlying0
 a0:=Try.isAgg0
 z0:=Try.sizeOf0
 v0:=Try.zeroValue0
 t4:=Try.underlying4
 a4:=Try.isAgg4
 z4:=Try.sizeOf4
 v4:=Try.zeroValue4
 t5:=Try.underlying5
 a5:=Try.isAgg5
 z5:=Try.sizeOf5
 v5:=Try.zeroValue5
 t9:=Try.underlying9
 a9:=Try.isAgg9
 z9:=Try.sizeOf9
 v9:=Try.zeroValue9
 t20:=Try.underlying20
 a20:=Try.isAgg20
 z20:=Try.sizeOf20
 v20:=Try.zeroValue20
 t37:=Try.underlying52
 a37:=Try.isAgg52
 z37:=Try.sizeOf52
 v37:=Try.zeroValue52
 t70:=Try.underlying51
 a70:=Try.isAgg51
 z70:=Try.sizeOf51
 v70:=Try.zeroValue51
 t72:=Try.underlying54
 a72:=Try.isAgg54
 z72:=Try.sizeOf54
 v72:=Try.zeroValue54
 t75:=Try.underlying57
 a75:=Try.isAgg57
 z75:=Try.sizeOf57
 v75:=Try.zeroValue57
 t164:=Try.underlying101
 a164:=Try.isAgg101
 z164:=Try.sizeOf101
 v164:=Try.zeroValue101 }
theorem ZcI:Builder.Extra Try.prog ZcO:={
 sizeBuilder:=by kernel_rfl
 liesBuilder:=by kernel_rfl
 t5:=Try.underlying5
 a5:=Try.isAgg5
 z5:=Try.sizeOf5
 v5:=Try.zeroValue5
 infoByte:=by kernel_rfl
 cellsByte:=by kernel_rfl
 sizeByte:=by kernel_rfl
 neB5:=by decide }
open Go.RowKit in
theorem Zbm(B b:Nat)(bs:List Value)(c:Int)(w:World)(h:Lib.IsBuilder 54 5 B b bs w)(hlen:bs.length+1≤140737488355328)(hBw:B≤w.heap.size):
 Calls Try.prog 22 #[.pointer (some ⟨b,0,none⟩), .int .u8 c] w fun e w'=>e=.returned .nilIface∧(Lib.BuilderAt 54 5 B b (.pointer (some ⟨b,0,none⟩)) (bs++[.int .u8 c]) w'∧Below B w w'):=Any.Builder_WriteByte Zke ZcI B b bs c w h hlen hBw
def ZcJ:Go.Shelf.Ren:=⟨fun |169=>23 |n=>n,fun |70=>51 |9=>9 |0=>0 |72=>54 |37=>52 |127=>81 |3=>3 |5=>5 |n=>n,fun |n=>n⟩
theorem ZkE:Go.Proofs.Lays.n169 Try.prog ZcJ:={
 mixed:=by kernel_rfl
 f169:=Try.func23.trans (congrArg some (by kernel_rfl))
 t0:=Try.underlying0
 a0:=Try.isAgg0
 z0:=Try.sizeOf0
 v0:=Try.zeroValue0
 t3:=Try.underlying3
 a3:=Try.isAgg3
 z3:=Try.sizeOf3
 v3:=Try.zeroValue3
 t9:=Try.underlying9
 a9:=Try.isAgg9
 z9:=Try.sizeOf9
 v9:=Try.zeroValue9
 t37:=Try.underlying52
 a37:=Try.isAgg52
 z37:=Try.sizeOf52
 v37:=Try.zeroValue52
 t70:=Try.underlying51
 a70:=Try.isAgg51
 z70:=Try.sizeOf51
 v70:=Try.zeroValue51
 t72:=Try.underlying54
 a72:=Try.isAgg54
 z72:=Try.sizeOf54
 v72:=Try.zeroValue54
 t127:=Try.underlying81
 a127:=Try.isAgg81
 z127:=Try.sizeOf81
 v127:=Try.zeroValue81 }
theorem ZcG:Builder.Extra Try.prog ZcJ:={
 sizeBuilder:=by kernel_rfl
 liesBuilder:=by kernel_rfl
 t5:=Try.underlying5
 a5:=Try.isAgg5
 z5:=Try.sizeOf5
 v5:=Try.zeroValue5
 infoByte:=by kernel_rfl
 cellsByte:=by kernel_rfl
 sizeByte:=by kernel_rfl
 neB5:=by decide }
open Go.RowKit in
theorem Zbj(B b:Nat)(l:List UInt8)(w:World)(h:Lib.IsBuilder 54 5 B b (Lib.byteCells l) w)(hBw:B≤w.heap.size):
 Calls Try.prog 23 #[.pointer (some ⟨b,0,none⟩)] w fun e w'=>e=.returned (.string ⟨l.toArray⟩)∧Below B w w':=Any.Builder_String_any ZkE ZcG B b l w h hBw
def Zfl:Go.Shelf.Ren:=⟨fun |137=>24 |217=>43 |266=>55 |n=>n,fun |9=>9 |5=>5 |3=>3 |n=>n,fun |n=>n⟩
theorem Zj8:Go.Proofs.Lays.n137 Try.prog Zfl:={
 mixed:=by kernel_rfl
 f137:=Try.func24.trans (congrArg some (by kernel_rfl))
 f217:=Try.func43.trans (congrArg some (by kernel_rfl))
 f266:=Try.func55.trans (congrArg some (by kernel_rfl))
 t3:=Try.underlying3
 a3:=Try.isAgg3
 z3:=Try.sizeOf3
 v3:=Try.zeroValue3
 t5:=Try.underlying5
 a5:=Try.isAgg5
 z5:=Try.sizeOf5
 v5:=Try.zeroValue5
 t9:=Try.underlying9
 a9:=Try.isAgg9
 z9:=Try.sizeOf9
 v9:=Try.zeroValue9 }
open Go.RowKit in
theorem ZcH(s:ByteArray)(c:Int)(w:World):
 Calls Try.prog 24 #[.string s, .int .u8 c] w fun e w'=>e=.returned (.int .i64 (Lib.indexByte s.data.toList c.toNat.toUInt8))∧w'=w:=Any.strings_IndexByte Zj8 s c w
end Go.Proofs.Ytbbemleognkdhaa
/- Paths of functions, printed by the explorer (Gx). No condition. -/
namespace Go.Proofs.Ytbbemleognkdhaa
set_option maxRecDepth 100000
set_option linter.unusedVariables false
def Zrx(xs:List Int):AFrame:={ fn:=36,N:=8,env:=[(0,AV.list (.ints .i64 xs))],todo:=[.code a36.code],defs:=[],rnd:=none,ret:=false,res:=[ARes.tmp 2] }
def Zwk(xs:List Int):List AFrame:=[(Zrx xs)]
theorem Zqs(xs:List Int):ZaG tab 36 [AV.list (.ints .i64 xs)]=some (Zrx xs):=rfl
def Zr1(A:Ar)(K:KT)(F:FT)(xs:List Int):Prop:=rB [Nat.blt 0 (A.len xs)] (rB [Nat.ble (0+A.len xs) 4294967296,List.all [] fun x=>AV.bx x&&Nat.beq (Zas A x) 1] (F (AV.row 0 0) (some { e:=3,sz:=1,r:=.ints .i64 xs })))
theorem ZtL{A:Ar}{K:KT}{F:FT}{M:MT}{xs:List Int} :ZaM A tab E0 36 K F M (.run 10 (.fy (.run 9 (.fn)))) (Zwk xs) []=Zr1 A K F xs:=by kernel_rfl
def Zo9(cap:Nat):AFrame:={ fn:=36,N:=8,env:=[(0,AV.val (Go.Value.slice none 0 cap))],todo:=[.code a36.code],defs:=[],rnd:=none,ret:=false,res:=[ARes.tmp 2] }
def Zvr(cap:Nat):List AFrame:=[(Zo9 cap)]
theorem ZnC(cap:Nat):ZaG tab 36 [AV.val (Go.Value.slice none 0 cap)]=some (Zo9 cap):=rfl
def ZoT(A:Ar)(K:KT)(F:FT)(cap:Nat):Prop:=F (AV.nils) (none)
theorem Zq4{A:Ar}{K:KT}{F:FT}{M:MT}{cap:Nat} :ZaM A tab E0 36 K F M (.run 10 (.ty (.run 5 (.fn)))) (Zvr cap) []=ZoT A K F cap:=by kernel_rfl
def Zpf(ad:Go.Addr)(cap:Nat):AFrame:={ fn:=36,N:=8,env:=[(0,AV.val (Go.Value.slice (some ad) 0 cap))],todo:=[.code a36.code],defs:=[],rnd:=none,ret:=false,res:=[ARes.tmp 2] }
def Zvz(ad:Go.Addr)(cap:Nat):List AFrame:=[(Zpf ad cap)]
theorem ZnS(ad:Go.Addr)(cap:Nat):ZaG tab 36 [AV.val (Go.Value.slice (some ad) 0 cap)]=some (Zpf ad cap):=rfl
def Zpd(A:Ar)(K:KT)(F:FT)(ad:Go.Addr)(cap:Nat):Prop:=rB [List.all [] fun x=>AV.bx x&&Nat.beq (Zas A x) 1] (F (AV.row 0 0) (some { e:=3,sz:=1,r:=Row.gen [] }))
theorem ZrR{A:Ar}{K:KT}{F:FT}{M:MT}{ad:Go.Addr}{cap:Nat} :ZaM A tab E0 36 K F M (.run 10 (.fy (.run 9 (.fn)))) (Zvz ad cap) []=Zpd A K F ad cap:=by kernel_rfl
end Go.Proofs.Ytbbemleognkdhaa
/- Contracts as a list. No condition. -/
namespace Go.Proofs.Ytbbemleognkdhaa
theorem ZjW(xs:List Int)(h:xs.length≤1000000):Zaf Try.prog 36 [.list (.ints .i64 xs)] (.row 0 0) (some ⟨3,1, .ints .i64 xs⟩):=by
 by_cases h0:xs=[]
 ·subst h0
  refine Zkd rfl fun ad cap=>?_
  cases ad with
  |none=>exact ZnP (r0:=.nils) (start (ZnC cap) fun C hC=>tgo hC ZoH Zq4 (by simp[ZoT])) rfl rfl (by omega)
  |some ad=>exact ZoQ (r:=.gen []) (start (ZnS ad cap) fun C hC=>tgo hC ZoH ZrR (by simp[Zpd])) (by omega) rfl
 ·have:=List.length_pos_iff.2 h0
  exact start (Zqs xs) fun C hC=>tgo hC ZoH ZtL (by simp[Zr1];omega)
def N0:List Ctr:=E0
theorem ZtR:ZaX Try.prog N0:=ZoH
end Go.Proofs.Ytbbemleognkdhaa
