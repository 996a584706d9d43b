/- Contracts as a list. No condition. -/
import Derived.Test.YthfcimmcccocmaaGreatDoorCl0
import Derived.Lib.AppendIntMem
import Derived.Lib.AtoiErrMem
import Derived.BigCall
import Derived.KernelRfl
namespace Go.Proofs.YthfcimmcccocmaaGreatDoor
open Go.RowKit (Below)
theorem Zcg{P:Program}{w w':World}{okA:Nat→Prop}{L:Lay}(hb:Below w.heap.size w w')(hG:GoodW P w w.heap.size 0):HRel (Ctx.of P w okA []) [] L w':=
 ⟨hb,fun _ _ ht=>absurd rfl ht.tag,fun _ _=>trivial,fun _ _ _ _ ht=>absurd rfl ht.tag,fun _ _ ht=>absurd rfl ht.tag,fun k hk _=>hb.block k hk,Nat.le_refl _,hG⟩
theorem Zif{w:World}{ok:Nat→Prop}{h:Zac}{L:Lay}{a:AV}{vs:Array Value}(hr:RelL w ok h L [a] vs.toList):∃x,vs= #[x]∧Rel w ok h L a x:=by
 obtain⟨l⟩:=vs
 match l,hr with
 |[],hr=>cases hr.1
 |[x],hr=>exact⟨x,rfl,hr.2 0 a x rfl rfl⟩
 |_::_::_,hr=>have:=hr.1;simp at this
theorem ZkS{w:World}{ok:Nat→Prop}{h:Zac}{L:Lay}{a b:AV}{vs:Array Value}(hr:RelL w ok h L [a,b] vs.toList):∃x y,vs= #[x,y]∧Rel w ok h L a x∧Rel w ok h L b y:=by
 obtain⟨l⟩:=vs
 match l,hr with
 |[],hr=>cases hr.1
 |[_],hr=>have:=hr.1;simp at this
 |[x,y],hr=>exact⟨x,y,rfl,hr.2 0 a x rfl rfl,hr.2 1 b y rfl rfl⟩
 |_::_::_::_,hr=>have:=hr.1;simp at this
theorem ZgE{w:World}{ok:Nat→Prop}{h:Zac}{L:Lay}{s:List UInt8}{x:Value}(hr:Rel w ok h L (.str s) x):x=.string ⟨s.toArray⟩:=by cases hr;rfl
theorem ZsC{w:World}{ok:Nat→Prop}{h:Zac}{L:Lay}{k:IntKind}{n:Int}{x:Value}(hr:Rel w ok h L (.int k n) x):x=.int k n:=by cases hr;rfl
theorem ZuK{P:Program}{n:String}{g:Nat}{k:IntKind}{zs:List Int}{w:World}(hg:P.globalNamed n=some g)(h:ZpC w g=some (zs.map fun z=>Value.int k z).toArray):Lib.TabIs P w n k zs:=by
 unfold Lib.TabIs World.var?
 rw[hg];exact h
theorem ZiI(n:Int)(h: -9223372036854775808≤n∧n≤9223372036854775807)(w:World)(hF:FactsW w):Calls Tryz.prog 62 #[.int .i64 n] w fun e w'=>e=.returned (.string ⟨(Lib.itoa n).toArray⟩)∧Below w.heap.size w w':=by
 refine(Any.strconv_Itoa Zjz n h.1 h.2 w (ZuK (by kernel_rfl) hF.tab)).mono ?_
 rintro e w' ⟨rfl,k,os,rfl⟩
 exact⟨rfl,Lib.below_grow w.heap.size w (Nat.le_refl _) k os⟩
theorem Znh(n:Int)(h: -9223372036854775808≤n∧n≤9223372036854775807):Zae Tryz.prog 62 [.int .i64 n] (.str (Lib.itoa n)) none:=by
 intro w okA L vs hargs _ hG
 obtain⟨x,rfl,hx⟩:=Zif hargs
 obtain rfl:=ZsC hx
 refine(ZiI n h w hG.1).mono ?_
 rintro e w' ⟨rfl,hb⟩
 exact⟨_,L,rfl,hb,Zcg hb hG, .str _⟩
theorem Zox(xs:List AV)(p:List UInt8)(h:xs.length≤1000000∧(Lib.join (xs.map AV.toS) p).length≤1000000):Zae Tryz.prog 63 [.list (.big .str xs), .str p] (.str (Lib.join (xs.map AV.toS) p)) none:=by
 intro w okA L vs hargs _ hG
 obtain⟨x,y,rfl,hx,hy⟩:=ZkS hargs
 obtain rfl:=ZgE hy
 by_cases hne:(Row.big .str xs).elems=[]
 ·have hxs:xs=[]:=by
   have:(Row.big .str xs).elems.length=xs.length:=by simp[Row.elems,Sh.view]
   rw[hne]at this
   exact List.eq_nil_of_length_eq_zero this.symm
  subst hxs
  obtain⟨a,c,rfl⟩:∃a c,x=.slice a 0 c:=by
   cases hx with
   |nil _ a c _=>exact⟨a,c,rfl⟩
   |list _ ys hy ad n cap sz cs hb hok hn=>rw[hne]at hy;subst hy;exact⟨some ad,cap,by rw[hn];rfl⟩
  refine(Zdc a c ⟨p.toArray⟩ w).mono ?_
  rintro e w' ⟨rfl,rfl⟩
  exact⟨_,L,rfl,Below.refl _ _,Zcg (Below.refl _ _) hG, .str _⟩
 ·cases hx with
  |nil _ a c h0=>exact absurd h0 hne
  |list _ ys hys ad n cap sz cs hb hok hn hcap hsz hl h1 hc hp hrr=>
   subst hys
   have hel:(Row.big .str xs).elems=xs.map fun v=>AV.str v.toS:=by simp[Row.elems,Sh.view,Sh.view1]
   have hfl:Zad (Row.big .str xs).elems=xs.map fun v=>AV.str v.toS:=by rw[hel];exact ZaH (fun x hx=>by obtain⟨y,_,rfl⟩:=List.mem_map.1 hx;rfl)
   have hnl:n=xs.length:=by rw[hn,hel,List.length_map]
   subst hnl
   rw[hfl]at hl hrr
   rw[List.length_map]at hl
   have hadz:ad=⟨ad.block,ad.off,none⟩:=by
    have hx0:0<xs.length:=by
     rcases Nat.eq_zero_or_pos xs.length with h0 |h0
     ·have:xs=[]:=List.eq_nil_of_length_eq_zero h0
      subst this;exact absurd rfl hne
     ·exact h0
    obtain⟨v,hv⟩:∃v,cs[0]? =some v:=⟨_,List.getElem?_eq_getElem (by omega)⟩
    have:=ZfO (hc 0 v hv)
    cases ad with
    |mk b0 o0 s0=>
     simp only[Addr.add,if_true]at this
     rw[this]
   have hcs:∀(j:Nat) b,(xs.map fun v=>(⟨v.toS.toArray⟩:ByteArray))[j]? =some b→w.cell? ⟨ad.block,ad.off+j,none⟩=some (.string b):=fun j b hj=>by
    rw[List.getElem?_map]at hj
    cases hq:xs[j]? with
    |none=>rw[hq]at hj;cases hj
    |some q=>
     rw[hq]at hj
     simp only[Option.map_some,Option.some.injEq]at hj
     subst hj
     have hjl:j<xs.length:=(List.getElem?_eq_some_iff.1 hq).1
     obtain⟨v,hv⟩:∃v,cs[j]? =some v:=⟨_,List.getElem?_eq_getElem (by omega)⟩
     have hr:=hrr j (.str q.toS) v (by rw[List.getElem?_map,hq];rfl) hv
     obtain rfl:=ZgE hr
     have:=hc j _ hv
     rw[hadz]at this
     by_cases hj0:j=0
     ·subst hj0;simpa[Addr.add]using this
     ·simpa[Addr.add,hj0]using this
   have hmm:(xs.map fun v=>(⟨v.toS.toArray⟩:ByteArray)).map (fun b=>b.data.toList)=xs.map AV.toS:=by simp[List.map_map,Function.comp_def]
   have c:=ZfK ad.block ad.off cap (xs.map fun v=>(⟨v.toS.toArray⟩:ByteArray)) ⟨p.toArray⟩ w hcs hb (by rw[List.length_map];omega) (by rw[List.length_map];exact hcap) (by rw[hmm];show(Lib.join _ p).length≤_;omega)
   rw[List.length_map,←hadz,hmm]at c
   refine c.mono ?_
   rintro e w' ⟨rfl,hbe⟩
   exact⟨_,L,rfl,hbe,Zcg hbe hG, .str _⟩
def ixS(s p:List UInt8):Int:=Lib.index s p
theorem Zj6(s p:List UInt8)(h:s.length≤1000000):Zae Tryz.prog 112 [.str s, .str p] (.int .i64 (ixS s p)) none:=by
 intro w okA L vs hargs _ hG
 obtain⟨x,y,rfl,hx,hy⟩:=ZkS hargs
 obtain rfl:=ZgE hx
 obtain rfl:=ZgE hy
 obtain⟨m,hm⟩:=hG.1.len
 refine(Zfa ⟨s.toArray⟩ ⟨p.toArray⟩ m w (by show s.toArray.size<_;simp;omega) hm).mono ?_
 rintro e w' ⟨rfl,rfl⟩
 refine⟨_,L,rfl,Below.refl _ _,Zcg (Below.refl _ _) hG,?_⟩
 have:Lib.index (⟨s.toArray⟩:ByteArray).data.toList (⟨p.toArray⟩:ByteArray).data.toList=ixS s p:=by simp[ixS]
 rw[this]
 exact .int _ _
attribute [irreducible] ixS
def ZaZ(s:List UInt8):Int:=match Lib.atoiAll s with | .ok v=>v |Lib.NumEnd.syntax=>0 | .range=>Lib.atoiSat s
def ZdH(s:List UInt8):Bool:=match Lib.atoiAll s with | .ok _=>false |_=>true
theorem Zki{w:World}{ok:Nat→Prop}{h:Zac}{L:Lay}{n:Int}{b:Bool}{v:Value}(hv:Zy5 b v):Rel w ok h L (.tup [.int .i64 n, .err b]) (.tuple #[.int .i64 n,v]):=by
 refine .tup _ _ rfl (fun j u x hu hx=>?_)
 match j with
 |0=>simp at hu hx;subst hu;subst hx;exact .int _ _
 |1=>simp at hu hx;subst hu;subst hx;exact .err _ _ hv
 |j+2=>simp at hu
theorem Zoq(s:List UInt8)(h:s.length≤1000000):Zae Tryz.prog 65 [.str s] (.tup [.int .i64 (ZaZ s), .err (ZdH s)]) none:=by
 intro w okA L vs hargs _ hG
 obtain⟨x,rfl,hx⟩:=Zif hargs
 obtain rfl:=ZgE hx
 have hsz:(⟨s.toArray⟩:ByteArray).size=s.length:=by simp[ByteArray.size]
 cases hc:Lib.atoiAll s with
 |ok v=>
  have e1:ZaZ s=v:=by simp only[ZaZ,hc]
  have e2:ZdH s=false:=by simp only[ZdH,hc]
  rw[e1,e2]
  refine(ZdT ⟨s.toArray⟩ (by omega) v hc w).mono ?_
  rintro e w' ⟨rfl,hw⟩
  have hb:Below w.heap.size w w':=by
   rcases hw with rfl |⟨t,rfl⟩
   ·exact Below.refl _ _
   ·exact Lib.bytesWorld_below _ _ _
  exact⟨_,L,rfl,hb,Zcg hb hG,Zki rfl⟩
 |range=>
  have e1:ZaZ s=Lib.atoiSat s:=by simp only[ZaZ,hc]
  have e2:ZdH s=true:=by simp only[ZdH,hc]
  rw[e1,e2]
  obtain⟨t1,p1,hv1⟩:=hG.1.rng
  refine(Zcn ⟨s.toArray⟩ (by omega) hc _ w hv1 (.inr ⟨t1,p1,rfl⟩)).mono ?_
  rintro e w' ⟨N,rfl,_,_,hb⟩
  exact⟨_,L,rfl,hb,Zcg hb hG,Zki ⟨_,_,rfl⟩⟩
 |_=>
  have e1:ZaZ s=0:=by simp only[ZaZ,hc]
  have e2:ZdH s=true:=by simp only[ZdH,hc]
  rw[e1,e2]
  obtain⟨t1,p1,hv1⟩:=hG.1.syn
  refine(Zcj ⟨s.toArray⟩ (by omega) hc _ w hv1 (.inr ⟨t1,p1,rfl⟩)).mono ?_
  rintro e w' ⟨N,rfl,_,_,hb⟩
  exact⟨_,L,rfl,hb,Zcg hb hG,Zki ⟨_,_,rfl⟩⟩
attribute [irreducible] ZaZ ZdH
def Zdf(n:Int):Bool:=decide (-9223372036854775808≤n∧n≤9223372036854775807)
theorem i64B_iff{n:Int} :Zdf n=true↔ -9223372036854775808≤n∧n≤9223372036854775807:=by simp[Zdf]
def k62:Ctr:=⟨62,0,fun _ a=>match a with |[.int .i64 n]=>some (decide (Zdf n=true), .str (Lib.itoa n),none) |_=>none⟩
theorem Zwe:k62.OK Tryz.prog:=fun pa args r fr h=>by
 simp only[k62]at h
 split at h
 ·simp only[Option.some.injEq,Prod.mk.injEq,decide_eq_true_eq]at h
  obtain⟨h0,rfl,rfl⟩:=h
  exact Znh _ (i64B_iff.1 h0)
 ·cases h
def k63:Ctr:=⟨63,0,fun _ a=>match a with |[.list (.big .str xs), .str p]=>some (decide (xs.length≤1000000∧(Lib.join (xs.map AV.toS) p).length≤1000000), .str (Lib.join (xs.map AV.toS) p),none) |_=>none⟩
theorem Zx5:k63.OK Tryz.prog:=fun pa args r fr h=>by
 simp only[k63]at h
 split at h
 ·simp only[Option.some.injEq,Prod.mk.injEq,decide_eq_true_eq]at h
  obtain⟨h0,rfl,rfl⟩:=h
  exact Zox _ _ h0
 ·cases h
def k112:Ctr:=⟨112,0,fun _ a=>match a with |[.str s, .str p]=>some (decide (s.length≤1000000), .int .i64 (ixS s p),none) |_=>none⟩
theorem Zuh:k112.OK Tryz.prog:=fun pa args r fr h=>by
 simp only[k112]at h
 split at h
 ·simp only[Option.some.injEq,Prod.mk.injEq,decide_eq_true_eq]at h
  obtain⟨h0,rfl,rfl⟩:=h
  exact Zj6 _ _ h0
 ·cases h
def k65:Ctr:=⟨65,0,fun _ a=>match a with |[.str s]=>some (decide (s.length≤1000000), .tup [.int .i64 (ZaZ s), .err (ZdH s)],none) |_=>none⟩
theorem ZxT:k65.OK Tryz.prog:=fun pa args r fr h=>by
 simp only[k65]at h
 split at h
 ·simp only[Option.some.injEq,Prod.mk.injEq,decide_eq_true_eq]at h
  obtain⟨h0,rfl,rfl⟩:=h
  exact Zoq _ h0
 ·cases h
def N1:List Ctr:=[k62,k63,k112,k65]++N0
theorem ZaP:ZaK Tryz.prog N1:=⟨Zwe,⟨Zx5,⟨Zuh,⟨ZxT,ZyQ⟩⟩⟩⟩
end Go.Proofs.YthfcimmcccocmaaGreatDoor
/- Paths of functions, printed by the explorer (Gx). No condition. -/
namespace Go.Proofs.YthfcimmcccocmaaGreatDoor
set_option maxRecDepth 100000
set_option linter.unusedVariables false
def Zx4(s:List UInt8)(c:Int):AFrame:={ fn:=69,N:=34,env:=[(0,AV.str s),(1,AV.int .u8 c)],todo:=[.code a69.code],defs:=[],rnd:=none,ret:=false,res:=[ARes.tmp 4] }
def ZC5(s:List UInt8)(c:Int):List AFrame:=[(Zx4 s c)]
theorem ZtM(s:List UInt8)(c:Int):Zap tab 69 [AV.str s,AV.int .u8 c]=some (Zx4 s c):=rfl
def ZfQ(s:List UInt8)(c n0:Int):List AFrame:=[{ fn:=69,N:=34,env:=[(0,AV.str s),(1,AV.int .u8 c),(5,AV.nils),(6,AV.int .i64 0),(7,AV.int .i64 n0)],todo:=.code (ACode.gh [] ZsT)::ZwB,defs:=[],rnd:=none,ret:=false,res:=[ARes.tmp 4] }]
def Zes(s:List UInt8)(c n0:Int):Zac:=[]
abbrev Zhi(s:List UInt8)(c n0:Int):List AFrame×Zac:=(ZfQ s c n0,Zes s c n0)
def Zgs(s:List UInt8)(c n1 n2:Int)(x3:List AV):List AFrame:=[{ fn:=69,N:=34,env:=[(0,AV.str s),(1,AV.int .u8 c),(5,AV.row 69026 0),(6,AV.int .i64 n1),(7,AV.int .i64 n2)],todo:=.code (ACode.gh [] ZsT)::ZwB,defs:=[],rnd:=none,ret:=false,res:=[ARes.tmp 4] }]
def Zev(s:List UInt8)(c n1 n2:Int)(x3:List AV):Zac:=[(69026,{ base:=0,blks:=[Blk.row 9 1 (Row.big Sh.str x3)] })]
abbrev Zel(s:List UInt8)(c n1 n2:Int)(x3:List AV):List AFrame×Zac:=(Zgs s c n1 n2 x3,Zev s c n1 n2 x3)
def ZuO(A:Ar)(K:KT)(F:FT)(s:List UInt8)(c:Int):Prop:=K (Zhi (s) (c) (0))
theorem ZAl{A:Ar}{K:KT}{F:FT}{M:MT}{s:List UInt8}{c:Int} :Zat A tab N1 69 K F M (.run 20 (.hd)) (ZC5 s c) []=ZuO A K F s c:=by kernel_rfl
def Zc3(A:Ar)(K:KT)(F:FT)(s:List UInt8)(c n0:Int):Prop:=bB (A.lt n0 (A.int (A.lenS s))) (rB [Zah (A.le 0 n0) (Nat.blt (A.nat n0) (A.lenS s))] (bB (A.eq (A.nthS s (A.nat n0)) c) (rB [A.inR .i64 (A.add n0 1),A.inR .i64 (A.add n0 1),Zah (Nat.ble (A.lenA [AV.str (A.subS s (A.nat 0) (A.nat n0-A.nat 0))]) 4294967296) (Nat.blt 0 (A.lenA [AV.str (A.subS s (A.nat 0) (A.nat n0-A.nat 0))])),List.all [AV.str (A.subS s (A.nat 0) (A.nat n0-A.nat 0))] fun x=>AV.bx x&&Nat.beq (Zag A x) 1,Zah (Zah (A.le 0 0) (A.le 0 n0)) (Zah (Nat.ble (A.nat 0) (A.nat n0)) (Nat.ble (A.nat n0) (A.lenS s)))] (K (Zel (s) (c) (A.add n0 1) (A.add n0 1) ([AV.str (A.subS s (A.nat 0) (A.nat n0-A.nat 0))])))) (rB [A.inR .i64 (A.add n0 1)] (K (Zhi (s) (c) (A.add n0 1)))))) (rB [Zah (Nat.ble (A.lenA [AV.str (A.subS s (A.nat 0) (A.lenS s-A.nat 0))]) 4294967296) (Nat.blt 0 (A.lenA [AV.str (A.subS s (A.nat 0) (A.lenS s-A.nat 0))])),List.all [AV.str (A.subS s (A.nat 0) (A.lenS s-A.nat 0))] fun x=>AV.bx x&&Nat.beq (Zag A x) 1,Zah (Zah (A.le 0 0) true) (Zah (Nat.ble (A.nat 0) (A.lenS s)) (Nat.ble (A.lenS s) (A.lenS s)))] (F (AV.row 0 0) (some { e:=9,sz:=1,r:=Row.big .str [AV.str (A.subS s (A.nat 0) (A.lenS s-A.nat 0))] })))
theorem ZgV{A:Ar}{K:KT}{F:FT}{M:MT}{s:List UInt8}{c n0:Int} :Zat A tab N1 69 K F M (.run 9 (.tf (.run 11 (.tf (.run 25 (.hd)) (.run 9 (.hd)))) (.run 13 (.fn)))) (ZfQ s c n0) (Zes s c n0)=Zc3 A K F s c n0:=by kernel_rfl
def Zc8(A:Ar)(K:KT)(F:FT)(s:List UInt8)(c n1 n2:Int)(x3:List AV):Prop:=bB (A.lt n2 (A.int (A.lenS s))) (rB [Zah (A.le 0 n2) (Nat.blt (A.nat n2) (A.lenS s))] (bB (A.eq (A.nthS s (A.nat n2)) c) (rB [A.inR .i64 (A.add n2 1),A.inR .i64 (A.add n2 1),Nat.ble (A.lenA x3+A.lenA [AV.str (A.subS s (A.nat n1) (A.nat n2-A.nat n1))]) 4294967296,List.all [AV.str (A.subS s (A.nat n1) (A.nat n2-A.nat n1))] fun x=>AV.bx x&&Nat.beq (Zag A x) 1,Zah (Zah (A.le 0 n1) (A.le 0 n2)) (Zah (Nat.ble (A.nat n1) (A.nat n2)) (Nat.ble (A.nat n2) (A.lenS s)))] (K (Zel (s) (c) (A.add n2 1) (A.add n2 1) (A.appA x3 [AV.str (A.subS s (A.nat n1) (A.nat n2-A.nat n1))])))) (rB [A.inR .i64 (A.add n2 1)] (K (Zel (s) (c) (n1) (A.add n2 1) (x3)))))) (rB [Nat.ble (A.lenA x3+A.lenA [AV.str (A.subS s (A.nat n1) (A.lenS s-A.nat n1))]) 4294967296,List.all [AV.str (A.subS s (A.nat n1) (A.lenS s-A.nat n1))] fun x=>AV.bx x&&Nat.beq (Zag A x) 1,Zah (Zah (A.le 0 n1) true) (Zah (Nat.ble (A.nat n1) (A.lenS s)) (Nat.ble (A.lenS s) (A.lenS s)))] (F (AV.row 0 0) (some { e:=9,sz:=1,r:=Row.big .str (A.appA x3 [AV.str (A.subS s (A.nat n1) (A.lenS s-A.nat n1))]) })))
theorem ZhL{A:Ar}{K:KT}{F:FT}{M:MT}{s:List UInt8}{c n1 n2:Int}{x3:List AV} :Zat A tab N1 69 K F M (.run 9 (.tf (.run 11 (.tf (.run 25 (.hd)) (.run 9 (.hd)))) (.run 13 (.fn)))) (Zgs s c n1 n2 x3) (Zev s c n1 n2 x3)=Zc8 A K F s c n1 n2 x3:=by kernel_rfl
def ZwM(s:List UInt8)(d:Int):AFrame:={ fn:=70,N:=70,env:=[(0,AV.str s),(1,AV.int .i64 d)],todo:=[.code a70.code],defs:=[],rnd:=none,ret:=false,res:=[ARes.tmp 4,ARes.tmp 5] }
def ZCm(s:List UInt8)(d:Int):List AFrame:=[(ZwM s d)]
theorem Ztu(s:List UInt8)(d:Int):Zap tab 70 [AV.str s,AV.int .i64 d]=some (ZwM s d):=rfl
def Zf2(s:List UInt8)(n0 n1 n2:Int):List AFrame:=[{ fn:=70,N:=70,env:=[(0,AV.str s),(6,AV.int .i64 n0),(7,AV.int .i64 n2),(8,AV.int .i64 n1)],todo:=.code (ACode.gh [] Zvn)::ZyN,defs:=[],rnd:=none,ret:=false,res:=[ARes.tmp 4,ARes.tmp 5] }]
def Zec(s:List UInt8)(n0 n1 n2:Int):Zac:=[]
abbrev Zbe(s:List UInt8)(n0 n1 n2:Int):List AFrame×Zac:=(Zf2 s n0 n1 n2,Zec s n0 n1 n2)
def Zu7(A:Ar)(K:KT)(F:FT)(s:List UInt8)(d:Int):Prop:=bB (A.lt 0 (A.int (A.lenS s))) (rB [Zah (A.le 0 0) (Nat.blt (A.nat 0) (A.lenS s))] (bB (A.eq (A.nthS s (A.nat 0)) 45) (bB (A.eq (A.int (A.lenS s)) 1) (F (AV.tup [AV.int .i64 0,AV.bool false]) (none)) (rB [A.inR .i64 (A.sub (A.int (A.lenS s)) 1)] (bB (A.lt d (A.sub (A.int (A.lenS s)) 1)) (F (AV.tup [AV.int .i64 0,AV.bool false]) (none)) (rB [Zah (A.le 0 1) (Nat.blt (A.nat 1) (A.lenS s))] (bB (A.eq (A.nthS s (A.nat 1)) 48) (bB (A.lt 1 (A.int (A.lenS s))) (F (AV.tup [AV.int .i64 0,AV.bool false]) (none)) (K (Zbe (s) (1) (1) (0)))) (K (Zbe (s) (1) (1) (0)))))))) (bB (A.eq (A.int (A.lenS s)) 0) (F (AV.tup [AV.int .i64 0,AV.bool false]) (none)) (rB [A.inR .i64 (A.sub (A.int (A.lenS s)) 0)] (bB (A.lt d (A.sub (A.int (A.lenS s)) 0)) (F (AV.tup [AV.int .i64 0,AV.bool false]) (none)) (rB [Zah (A.le 0 0) (Nat.blt (A.nat 0) (A.lenS s))] (bB (A.eq (A.nthS s (A.nat 0)) 48) (bB (A.lt 1 (A.int (A.lenS s))) (F (AV.tup [AV.int .i64 0,AV.bool false]) (none)) (K (Zbe (s) (0) (0) (0)))) (K (Zbe (s) (0) (0) (0)))))))))) (bB (A.eq (A.int (A.lenS s)) 0) (F (AV.tup [AV.int .i64 0,AV.bool false]) (none)) (rB [A.inR .i64 (A.sub (A.int (A.lenS s)) 0)] (bB (A.lt d (A.sub (A.int (A.lenS s)) 0)) (F (AV.tup [AV.int .i64 0,AV.bool false]) (none)) (rB [Zah (A.le 0 0) (Nat.blt (A.nat 0) (A.lenS s))] (bB (A.eq (A.nthS s (A.nat 0)) 48) (bB (A.lt 1 (A.int (A.lenS s))) (F (AV.tup [AV.int .i64 0,AV.bool false]) (none)) (K (Zbe (s) (0) (0) (0)))) (K (Zbe (s) (0) (0) (0))))))))
theorem ZAm{A:Ar}{K:KT}{F:FT}{M:MT}{s:List UInt8}{d:Int} :Zat A tab N1 70 K F M (.run 16 (.tf (.ty (.ty (.ty (.run 2 (.tf (.run 11 (.tf (.ty (.ty (.ty (.ty (.ty (.ty (.run 1 (.ty (.ty (.ty (.ty (.ty (.run 3 (.ty (.ty (.run 2 (.ty (.run 6 (.fn))))))))))))))))))) (.fy (.fy (.fy (.fy (.fy (.fy (.run 1 (.tf (.ty (.ty (.ty (.ty (.run 3 (.ty (.ty (.run 2 (.ty (.run 6 (.fn))))))))))) (.fy (.fy (.fy (.fy (.tf (.ty (.ty (.alt [false,true] (.fy (.run 2 (.tf (.run 6 (.fn)) (.run 14 (.hd))))) (.no)))) (.fy (.fy (.alt [false,false] (.fy (.run 2 (.fy (.run 14 (.hd))))) (.no))))))))))))))))))) (.run 9 (.tf (.ty (.ty (.ty (.ty (.ty (.ty (.run 1 (.ty (.ty (.ty (.ty (.ty (.run 3 (.ty (.ty (.run 2 (.ty (.run 6 (.fn))))))))))))))))))) (.fy (.fy (.fy (.fy (.fy (.fy (.run 1 (.tf (.ty (.ty (.ty (.ty (.run 3 (.ty (.ty (.run 2 (.ty (.run 6 (.fn))))))))))) (.fy (.fy (.fy (.fy (.tf (.ty (.ty (.alt [false,true] (.fy (.run 2 (.tf (.run 6 (.fn)) (.run 14 (.hd))))) (.no)))) (.fy (.fy (.alt [false,false] (.fy (.run 2 (.fy (.run 14 (.hd))))) (.no)))))))))))))))))))))))) (.fy (.fy (.fy (.run 2 (.fy (.run 9 (.tf (.ty (.ty (.ty (.ty (.ty (.ty (.run 1 (.ty (.ty (.ty (.ty (.ty (.run 3 (.ty (.ty (.run 2 (.ty (.run 6 (.fn))))))))))))))))))) (.fy (.fy (.fy (.fy (.fy (.fy (.run 1 (.tf (.ty (.ty (.ty (.ty (.run 3 (.ty (.ty (.run 2 (.ty (.run 6 (.fn))))))))))) (.fy (.fy (.fy (.fy (.tf (.ty (.ty (.alt [false,true] (.fy (.run 2 (.tf (.run 6 (.fn)) (.run 14 (.hd))))) (.no)))) (.fy (.fy (.alt [false,false] (.fy (.run 2 (.fy (.run 14 (.hd))))) (.no)))))))))))))))))))))))))) (ZCm s d) []=Zu7 A K F s d:=by kernel_rfl
def Zbw(A:Ar)(K:KT)(F:FT)(s:List UInt8)(n0 n1 n2:Int):Prop:=bB (A.lt n1 (A.int (A.lenS s))) (rB [Zah (A.le 0 n1) (Nat.blt (A.nat n1) (A.lenS s))] (bB (A.lt (A.nthS s (A.nat n1)) 48) (F (AV.tup [AV.int .i64 0,AV.bool false]) (none)) (rB [Zah (A.le 0 n1) (Nat.blt (A.nat n1) (A.lenS s))] (bB (A.lt 57 (A.nthS s (A.nat n1))) (F (AV.tup [AV.int .i64 0,AV.bool false]) (none)) (rB [A.inR .i64 (A.add n1 1),A.inR .i64 (A.add (A.mul 10 n2) (A.sub (A.nthS s (A.nat n1)) 48)),A.inR .i64 (A.sub (A.nthS s (A.nat n1)) 48),A.inR .u8 (A.sub (A.nthS s (A.nat n1)) 48),Zah (A.le 0 n1) (Nat.blt (A.nat n1) (A.lenS s)),A.inR .i64 (A.mul 10 n2)] (K (Zbe (s) (n0) (A.add n1 1) (A.add (A.mul 10 n2) (A.sub (A.nthS s (A.nat n1)) 48))))))))) (bB (A.eq n0 1) (rB [A.inR .i64 (A.neg n2)] (F (AV.tup [AV.int .i64 (A.neg n2),AV.bool true]) (none))) (F (AV.tup [AV.int .i64 n2,AV.bool true]) (none)))
theorem Zhp{A:Ar}{K:KT}{F:FT}{M:MT}{s:List UInt8}{n0 n1 n2:Int} :Zat A tab N1 70 K F M (.run 9 (.tf (.run 11 (.tf (.ty (.ty (.ty (.ty (.run 2 (.ty (.run 6 (.fn)))))))) (.fy (.fy (.fy (.fy (.run 2 (.tf (.run 6 (.fn)) (.run 20 (.hd)))))))))) (.run 7 (.tf (.run 12 (.fn)) (.run 8 (.fn)))))) (Zf2 s n0 n1 n2) (Zec s n0 n1 n2)=Zbw A K F s n0 n1 n2:=by kernel_rfl
def ZwA(n:Int):AFrame:={ fn:=71,N:=27,env:=[(0,AV.int .i64 n)],todo:=[.code a71.code],defs:=[],rnd:=none,ret:=false,res:=[ARes.tmp 2] }
def ZCY(n:Int):List AFrame:=[(ZwA n)]
theorem Zs3(n:Int):Zap tab 71 [AV.int .i64 n]=some (ZwA n):=rfl
def Zgl(l0:List UInt8)(n1:Int)(l2:List UInt8):List AFrame:=[{ fn:=71,N:=27,env:=[(0,AV.int .i64 n1),(3,AV.str l2),(4,AV.str l0)],todo:=.code (ACode.gh [] Zwr)::Zzk,defs:=[],rnd:=none,ret:=false,res:=[ARes.tmp 2] }]
def ZeF(l0:List UInt8)(n1:Int)(l2:List UInt8):Zac:=[]
abbrev ZeI(l0:List UInt8)(n1:Int)(l2:List UInt8):List AFrame×Zac:=(Zgl l0 n1 l2,ZeF l0 n1 l2)
def Zu2(A:Ar)(K:KT)(F:FT)(n:Int):Prop:=bB (A.eq n 0) (F (AV.str [48]) (none)) (bB (A.lt n 0) (K (ZeI ([45]) (n) ([]))) (K (ZeI ([]) (n) ([]))))
theorem ZAI{A:Ar}{K:KT}{F:FT}{M:MT}{n:Int} :Zat A tab N1 71 K F M (.run 10 (.tf (.run 5 (.fn)) (.run 12 (.tf (.run 7 (.hd)) (.run 5 (.hd)))))) (ZCY n) []=Zu2 A K F n:=by kernel_rfl
def ZcZ(A:Ar)(K:KT)(F:FT)(l0:List UInt8)(n1:Int)(l2:List UInt8):Prop:=bB (A.not (A.eq n1 0)) (rB [Zah (A.not (A.eq 10 0)) (A.inR .i64 (A.quo n1 10)),Nat.ble (A.lenS [UInt8.ofNat (A.nat (A.add 48 (A.max (A.rem n1 10) (A.neg (A.rem n1 10)))))]+A.lenS l2) 4294967296,List.all [AV.int .u8 (A.add 48 (A.max (A.rem n1 10) (A.neg (A.rem n1 10))))] fun x=>AV.bx x&&Nat.beq (Zag A x) 1,A.inR .u8 (A.add 48 (A.max (A.rem n1 10) (A.neg (A.rem n1 10)))),A.inR .i64 (A.add 48 (A.max (A.rem n1 10) (A.neg (A.rem n1 10)))),A.inR .i64 (A.neg (A.rem n1 10)),A.not (A.eq 10 0)] (K (ZeI (l0) (A.quo n1 10) (A.appS [UInt8.ofNat (A.nat (A.add 48 (A.max (A.rem n1 10) (A.neg (A.rem n1 10)))))] l2)))) (rB [Nat.ble (A.lenS l0+A.lenS l2) 4294967296] (F (AV.str (A.appS l0 l2)) (none)))
theorem ZgT{A:Ar}{K:KT}{F:FT}{M:MT}{l0:List UInt8}{n1:Int}{l2:List UInt8} :Zat A tab N1 71 K F M (.run 7 (.tf (.run 43 (.hd)) (.run 9 (.fn)))) (Zgl l0 n1 l2) (ZeF l0 n1 l2)=ZcZ A K F l0 n1 l2:=by kernel_rfl
def ZvY(xs ys:List Int):AFrame:={ fn:=61,N:=36,env:=[(0,AV.list (Row.gen [AV.list (.ints .i64 xs),AV.list (.ints .i64 ys)]))],todo:=[.code a61.code],defs:=[],rnd:=none,ret:=false,res:=[ARes.tmp 2] }
def ZB7(xs ys:List Int):List AFrame:=[(ZvY xs ys)]
theorem Zta(xs ys:List Int):Zap tab 61 [AV.list (Row.gen [AV.list (.ints .i64 xs),AV.list (.ints .i64 ys)])]=some (ZvY xs ys):=rfl
def Zct(xs ys:List Int)(n0 n1 n2:Int):List AFrame:=[{ fn:=61,N:=36,env:=[(0,AV.list (Row.gen [AV.list (.ints .i64 xs),AV.list (.ints .i64 ys)])),(3,AV.int .i64 n1),(9,AV.list (Row.gen [AV.list (.ints .i64 xs),AV.list (.ints .i64 ys)])),(10,AV.int .i64 n0),(11,AV.int .i64 n2)],todo:=.code (ACode.gh [] Zwv)::ZyK,defs:=[],rnd:=none,ret:=false,res:=[ARes.tmp 2] }]
def Zb3(xs ys:List Int)(n0 n1 n2:Int):Zac:=[]
abbrev Zd3(xs ys:List Int)(n0 n1 n2:Int):List AFrame×Zac:=(Zct xs ys n0 n1 n2,Zb3 xs ys n0 n1 n2)
def ZcE(xs ys:List Int)(j3:Nat)(n4:Int)(l5:List Int)(n6:Int):List AFrame:=[{ fn:=61,N:=36,env:=[(6,AV.slc 94023 0 0 j3 none),(25,AV.list (Row.gen [AV.list (.ints .i64 xs),AV.list (.ints .i64 ys)])),(26,AV.int .i64 n4),(27,AV.int .i64 n6)],todo:=.code (ACode.gh [] Zup)::Zwi,defs:=[],rnd:=none,ret:=false,res:=[ARes.tmp 2] }]
def ZbW(xs ys:List Int)(j3:Nat)(n4:Int)(l5:List Int)(n6:Int):Zac:=[(94023,{ base:=0,blks:=[Blk.row 3 1 (.ints .i64 l5)] })]
abbrev Zeb(xs ys:List Int)(j3:Nat)(n4:Int)(l5:List Int)(n6:Int):List AFrame×Zac:=(ZcE xs ys j3 n4 l5 n6,ZbW xs ys j3 n4 l5 n6)
def Znq(xs ys:List Int)(n7:Int):List AFrame:=[{ fn:=61,N:=36,env:=[(6,AV.nils),(25,AV.list (Row.gen [AV.list (.ints .i64 xs),AV.list (.ints .i64 ys)])),(26,AV.int .i64 n7),(27,AV.int .i64 0)],todo:=.code (ACode.gh [] Zup)::Zwi,defs:=[],rnd:=none,ret:=false,res:=[ARes.tmp 2] }]
def ZmQ(xs ys:List Int)(n7:Int):Zac:=[]
abbrev ZlY(xs ys:List Int)(n7:Int):List AFrame×Zac:=(Znq xs ys n7,ZmQ xs ys n7)
def ZxW(A:Ar)(K:KT)(F:FT)(xs ys:List Int):Prop:=K (Zd3 (xs) (ys) (A.int 2) (0) (0))
theorem ZyC{A:Ar}{K:KT}{F:FT}{M:MT}{xs ys:List Int} :Zat A tab N1 61 K F M (.run 18 (.hd)) (ZB7 xs ys) []=ZxW A K F xs ys:=by kernel_rfl
def Zc7(A:Ar)(K:KT)(F:FT)(xs ys:List Int)(n0 n1 n2:Int):Prop:=bB (A.lt n2 n0) (qB [A.eq n2 0] (rB [A.inR .i64 (A.add n1 (A.int (A.len xs)))] (bB (A.lt (A.add n1 (A.int (A.len xs))) 0) (False) (rB [A.inR .i64 (A.add 0 1)] (K (Zd3 (xs) (ys) (n0) (A.add n1 (A.int (A.len xs))) (A.add 0 1)))))) (rB [A.eq n2 (Int.ofNat 1)] (rB [A.inR .i64 (A.add n1 (A.int (A.len ys)))] (bB (A.lt (A.add n1 (A.int (A.len ys))) 0) (False) (rB [A.inR .i64 (A.add 1 1)] (K (Zd3 (xs) (ys) (n0) (A.add n1 (A.int (A.len ys))) (A.add 1 1)))))))) (bB (A.lt n1 0) (False) (rB [A.inR .i64 (A.sub n1 (A.sub 0 (A.int 0))),A.inR .i64 (A.sub 0 (A.int 0))] (bB (A.lt 0 (A.sub n1 (A.sub 0 (A.int 0)))) (rB [Zah (A.le 0 (A.int 0)) (Zah (Zah (Nat.ble 0 (A.nat (A.int 0))) (Nat.ble (A.nat (A.int 0)) (A.len (A.rep (A.nat (A.sub n1 (A.sub 0 (A.int 0)))) 0)))) true),Zah (A.lt 0 (A.sub n1 (A.sub 0 (A.int 0)))) (A.le (A.sub n1 (A.sub 0 (A.int 0))) 4294967296),Zah (A.le 0 0) (Zah (Zah (Nat.ble 0 (A.nat 0)) (Nat.ble (A.nat 0) 0)) true)] (K (Zeb (xs) (ys) (A.nat (A.int 0)-0) (A.int 2) (A.rep (A.nat (A.sub n1 (A.sub 0 (A.int 0)))) 0) (0)))) (K (ZlY (xs) (ys) (A.int 2))))))
theorem Zew{A:Ar}{K:KT}{F:FT}{M:MT}{xs ys:List Int}{n0 n1 n2:Int} :Zat A tab N1 61 K F M (.run 6 (.tf (.run 5 (.alt [true] (.run 16 (.tf (.no) (.run 8 (.hd)))) (.alt [false,true] (.run 16 (.tf (.no) (.run 8 (.hd)))) (.no)))) (.run 15 (.tf (.no) (.run 19 (.tf (.run 31 (.hd)) (.run 20 (.hd)))))))) (Zct xs ys n0 n1 n2) (Zb3 xs ys n0 n1 n2)=Zc7 A K F xs ys n0 n1 n2:=by kernel_rfl
def ZcU(A:Ar)(K:KT)(F:FT)(xs ys:List Int)(j3:Nat)(n4:Int)(l5:List Int)(n6:Int):Prop:=bB (A.lt n6 n4) (qB [A.eq n6 0] (rB [A.inR .i64 (A.add 0 1),Zah (Nat.ble (j3+A.len xs) (A.len l5)) (Nat.blt 0 (A.len l5))] (K (Zeb (xs) (ys) (j3+A.len xs) (n4) (A.app (A.app (A.sub3 l5 0 j3) xs) (A.sub3 l5 (j3+A.len xs) (A.len l5))) (A.add 0 1)))) (rB [A.eq n6 (Int.ofNat 1)] (rB [A.inR .i64 (A.add 1 1),Zah (Nat.ble (j3+A.len ys) (A.len l5)) (Nat.blt 0 (A.len l5))] (K (Zeb (xs) (ys) (j3+A.len ys) (n4) (A.app (A.app (A.sub3 l5 0 j3) ys) (A.sub3 l5 (j3+A.len ys) (A.len l5))) (A.add 1 1)))))) (rB [Zah (Nat.beq j3 (A.len l5)) true] (F (AV.row 0 0) (some { e:=3,sz:=1,r:=.ints .i64 l5 })))
theorem ZeM{A:Ar}{K:KT}{F:FT}{M:MT}{xs ys:List Int}{j3:Nat}{n4:Int}{l5:List Int}{n6:Int} :Zat A tab N1 61 K F M (.run 6 (.tf (.run 5 (.alt [true] (.run 16 (.hd)) (.alt [false,true] (.run 16 (.hd)) (.no)))) (.run 7 (.fn)))) (ZcE xs ys j3 n4 l5 n6) (ZbW xs ys j3 n4 l5 n6)=ZcU A K F xs ys j3 n4 l5 n6:=by kernel_rfl
def ZvC(s:List UInt8)(few:Int):AFrame:={ fn:=32,N:=44,env:=[(0,AV.str s),(1,AV.int .i64 few)],todo:=[.code a32.code],defs:=[],rnd:=none,ret:=false,res:=[ARes.cell 4 false 1,ARes.cell 5 false 1] }
def ZC7(s:List UInt8)(few:Int):List AFrame:=[(ZvC s few)]
theorem ZtL(s:List UInt8)(few:Int):Zap tab 32 [AV.str s,AV.int .i64 few]=some (ZvC s few):=rfl
def Zej(s:List UInt8)(few:Int):List AFrame:=[{ fn:=110,N:=52,env:=[(0,AV.yld 32901 1),(1,AV.ptr 99005 0 0 0),(2,AV.ptr 99004 0 0 0),(3,AV.ptr 99006 0 0 0)],todo:=.code (ACode.gh [] Zos)::ZrH,defs:=[],rnd:=none,ret:=false,res:=[] },{ fn:=32,N:=44,env:=[(0,AV.str s),(1,AV.int .i64 few),(4,AV.ptr 32005 0 0 0),(5,AV.ptr 32006 0 0 0),(6,AV.ptr 32007 0 0 0),(10,AV.str s),(11,AV.fn 110 [AV.ptr 99005 0 0 0,AV.ptr 99004 0 0 0,AV.ptr 99006 0 0 0])],todo:=[AItem.inRF 32901 1,AItem.inBlock 0, .code (ACode.seq (ACode.reg (some [(1,5),(2,5),(3,5),(4,5)]) [oN 39 (OpK.load false 1 (Opd.t 6)),oN 40 (OpK.load false 1 (Opd.t 6)),oN 41 (OpK.len (Opd.t 40)),mV 42 1,oN 43 (OpK.bin Go.BinOp.geq (Opd.t 41) (Opd.t 42)),{ d:=none,g:=none,k:=OpK.store 1 (Opd.t 4) (Opd.t 39) },{ d:=none,g:=none,k:=OpK.store 1 (Opd.t 5) (Opd.t 43) }]) ACode.ret)],defs:=[(32901,0)],rnd:=none,ret:=false,res:=[ARes.cell 4 false 1,ARes.cell 5 false 1] }]
def Zdn(s:List UInt8)(few:Int):Zac:=[(32005,{ base:=0,blks:=[Blk.row 22 1 (Row.gen [AV.nils])] }),(32006,{ base:=0,blks:=[Blk.row 4 1 (Row.gen [AV.bool false])] }),(32007,{ base:=0,blks:=[Blk.row 22 1 (Row.gen [AV.nils])] }),(32901,{ base:=0,blks:=[Blk.dfr,Blk.lp { st:=RSt.ready,fn:=32,N:=44,env:=[(0,AV.str s),(1,AV.int .i64 few),(4,AV.ptr 32005 0 0 0),(5,AV.ptr 32006 0 0 0),(6,AV.ptr 32007 0 0 0),(10,AV.str s),(11,AV.fn 110 [AV.ptr 99005 0 0 0,AV.ptr 99004 0 0 0,AV.ptr 99006 0 0 0])],params:=[12],asg:=ACode.reg none [mV 7 12],body:=ACode.block 1 (ACode.seq (ACode.reg none [mV 14 7,oN 15 (OpK.ncall true 32016 65 [Opd.t 14]),mV 13 15,oN 16 (OpK.ext 0 (Opd.t 13)),oN 17 (OpK.ext 1 (Opd.t 13)),mV 8 16,mV 9 17]) (ACode.seq (ACode.seq (ACode.reg none [mV 18 9,oN 19 (OpK.inil true (Opd.t 18)),mV 20 19,{ d:=some 21,g:=some (20,false),k:=OpK.mov (Opd.t 8) },{ d:=some 22,g:=some (20,false),k:=OpK.bin Go.BinOp.lss (Opd.t 21) (cI 0) },oN 23 (OpK.pick (Opd.t 20) (Opd.c (AV.bool true)) (Opd.t 22)),mV 24 23,{ d:=some 25,g:=some (24,false),k:=OpK.mov (Opd.t 8) },{ d:=some 26,g:=some (24,false),k:=OpK.ncall true 0 62 [Opd.t 25] },{ d:=some 27,g:=some (24,false),k:=OpK.mov (Opd.t 7) },{ d:=some 28,g:=some (24,false),k:=OpK.bin Go.BinOp.neq (Opd.t 26) (Opd.t 27) },oN 29 (OpK.pick (Opd.t 24) (Opd.c (AV.bool true)) (Opd.t 28)),mV 30 29,{ d:=some 31,g:=some (30,false),k:=OpK.mov (Opd.t 7) },{ d:=some 32,g:=some (30,false),k:=OpK.slen (Opd.t 31) },{ d:=some 33,g:=some (30,false),k:=OpK.bin Go.BinOp.gtr (Opd.t 32) (cI 3) },oN 34 (OpK.pick (Opd.t 30) (Opd.c (AV.bool true)) (Opd.t 33))]) (ACode.gh [Ghost.keep [1,4,5,6,8,34]] (ACode.cond (Opd.t 34) (ACode.seq (ACode.reg none [{ d:=none,g:=none,k:=OpK.store 1 (Opd.t 4) (Opd.c AV.nils) },{ d:=none,g:=none,k:=OpK.store 1 (Opd.t 5) (Opd.c (AV.bool false)) }]) ACode.ret) ACode.skip))) (ACode.reg none [oN 35 (OpK.load false 1 (Opd.t 6)),mV 36 8,oN 37 (OpK.bslice 32038 3 1 [Opd.t 36]),oN 38 (OpK.append 32039 3 1 (Opd.t 35) (Opd.t 37)),{ d:=none,g:=none,k:=OpK.store 1 (Opd.t 6) (Opd.t 38) }]))) }] }),(99004,{ base:=0,blks:=[Blk.row 9 1 (Row.gen [AV.str s])] }),(99005,{ base:=0,blks:=[Blk.row 9 1 (Row.gen [AV.str [32]])] }),(99006,{ base:=0,blks:=[Blk.row 3 1 (Row.gen [AV.int .i64 0])] })]
abbrev Zkt(s:List UInt8)(few:Int):List AFrame×Zac:=(Zej s few,Zdn s few)
def ZeJ(s:List UInt8)(few:Int)(l0:List Int)(l1:List UInt8):List AFrame:=[{ fn:=110,N:=52,env:=[(0,AV.yld 32901 1),(1,AV.ptr 99005 0 0 0),(2,AV.ptr 99004 0 0 0),(3,AV.ptr 99006 0 0 0)],todo:=.code (ACode.gh [] Zos)::ZrH,defs:=[],rnd:=none,ret:=false,res:=[] },{ fn:=32,N:=44,env:=[(0,AV.str s),(1,AV.int .i64 few),(4,AV.ptr 32005 0 0 0),(5,AV.ptr 32006 0 0 0),(6,AV.ptr 32007 0 0 0),(10,AV.str s),(11,AV.fn 110 [AV.ptr 99005 0 0 0,AV.ptr 99004 0 0 0,AV.ptr 99006 0 0 0])],todo:=[AItem.inRF 32901 1,AItem.inBlock 0, .code (ACode.seq (ACode.reg (some [(1,5),(2,5),(3,5),(4,5)]) [oN 39 (OpK.load false 1 (Opd.t 6)),oN 40 (OpK.load false 1 (Opd.t 6)),oN 41 (OpK.len (Opd.t 40)),mV 42 1,oN 43 (OpK.bin Go.BinOp.geq (Opd.t 41) (Opd.t 42)),{ d:=none,g:=none,k:=OpK.store 1 (Opd.t 4) (Opd.t 39) },{ d:=none,g:=none,k:=OpK.store 1 (Opd.t 5) (Opd.t 43) }]) ACode.ret)],defs:=[(32901,0)],rnd:=none,ret:=false,res:=[ARes.cell 4 false 1,ARes.cell 5 false 1] }]
def Zdo(s:List UInt8)(few:Int)(l0:List Int)(l1:List UInt8):Zac:=[(32005,{ base:=0,blks:=[Blk.row 22 1 (Row.gen [AV.nils])] }),(32006,{ base:=0,blks:=[Blk.row 4 1 (Row.gen [AV.bool false])] }),(32007,{ base:=0,blks:=[Blk.row 22 1 (Row.gen [AV.row 32039 0])] }),(32039,{ base:=0,blks:=[Blk.row 3 1 (.ints .i64 l0)] }),(32901,{ base:=0,blks:=[Blk.dfr,Blk.lp { st:=RSt.ready,fn:=32,N:=44,env:=[(0,AV.str s),(1,AV.int .i64 few),(4,AV.ptr 32005 0 0 0),(5,AV.ptr 32006 0 0 0),(6,AV.ptr 32007 0 0 0),(10,AV.str s),(11,AV.fn 110 [AV.ptr 99005 0 0 0,AV.ptr 99004 0 0 0,AV.ptr 99006 0 0 0])],params:=[12],asg:=ACode.reg none [mV 7 12],body:=ACode.block 1 (ACode.seq (ACode.reg none [mV 14 7,oN 15 (OpK.ncall true 32016 65 [Opd.t 14]),mV 13 15,oN 16 (OpK.ext 0 (Opd.t 13)),oN 17 (OpK.ext 1 (Opd.t 13)),mV 8 16,mV 9 17]) (ACode.seq (ACode.seq (ACode.reg none [mV 18 9,oN 19 (OpK.inil true (Opd.t 18)),mV 20 19,{ d:=some 21,g:=some (20,false),k:=OpK.mov (Opd.t 8) },{ d:=some 22,g:=some (20,false),k:=OpK.bin Go.BinOp.lss (Opd.t 21) (cI 0) },oN 23 (OpK.pick (Opd.t 20) (Opd.c (AV.bool true)) (Opd.t 22)),mV 24 23,{ d:=some 25,g:=some (24,false),k:=OpK.mov (Opd.t 8) },{ d:=some 26,g:=some (24,false),k:=OpK.ncall true 0 62 [Opd.t 25] },{ d:=some 27,g:=some (24,false),k:=OpK.mov (Opd.t 7) },{ d:=some 28,g:=some (24,false),k:=OpK.bin Go.BinOp.neq (Opd.t 26) (Opd.t 27) },oN 29 (OpK.pick (Opd.t 24) (Opd.c (AV.bool true)) (Opd.t 28)),mV 30 29,{ d:=some 31,g:=some (30,false),k:=OpK.mov (Opd.t 7) },{ d:=some 32,g:=some (30,false),k:=OpK.slen (Opd.t 31) },{ d:=some 33,g:=some (30,false),k:=OpK.bin Go.BinOp.gtr (Opd.t 32) (cI 3) },oN 34 (OpK.pick (Opd.t 30) (Opd.c (AV.bool true)) (Opd.t 33))]) (ACode.gh [Ghost.keep [1,4,5,6,8,34]] (ACode.cond (Opd.t 34) (ACode.seq (ACode.reg none [{ d:=none,g:=none,k:=OpK.store 1 (Opd.t 4) (Opd.c AV.nils) },{ d:=none,g:=none,k:=OpK.store 1 (Opd.t 5) (Opd.c (AV.bool false)) }]) ACode.ret) ACode.skip))) (ACode.reg none [oN 35 (OpK.load false 1 (Opd.t 6)),mV 36 8,oN 37 (OpK.bslice 32038 3 1 [Opd.t 36]),oN 38 (OpK.append 32039 3 1 (Opd.t 35) (Opd.t 37)),{ d:=none,g:=none,k:=OpK.store 1 (Opd.t 6) (Opd.t 38) }]))) }] }),(99004,{ base:=0,blks:=[Blk.row 9 1 (Row.gen [AV.str l1])] }),(99005,{ base:=0,blks:=[Blk.row 9 1 (Row.gen [AV.str [32]])] }),(99006,{ base:=0,blks:=[Blk.row 3 1 (Row.gen [AV.int .i64 0])] })]
abbrev Zgk(s:List UInt8)(few:Int)(l0:List Int)(l1:List UInt8):List AFrame×Zac:=(ZeJ s few l0 l1,Zdo s few l0 l1)
def Zu5(A:Ar)(K:KT)(F:FT)(s:List UInt8)(few:Int):Prop:=rB [!A.eq (A.int (A.lenS [32])) 0] (K (Zkt (s) (few)))
theorem ZyA{A:Ar}{K:KT}{F:FT}{M:MT}{s:List UInt8}{few:Int} :Zat A tab N1 32 K F M (.run 51 (.fy (.run 5 (.hd)))) (ZC7 s few) []=Zu5 A K F s few:=by kernel_rfl
def ZaC(A:Ar)(K:KT)(F:FT)(s:List UInt8)(few:Int):Prop:=rB [decide (List.length s≤1000000)] (bB (A.lt (ixS s [32]) 0) (rB [decide (List.length s≤1000000)] (bB (bif true then ZdH s else !ZdH s) (F (AV.tup [AV.nils,AV.bool false]) (none)) (bB (A.lt (ZaZ s) 0) (F (AV.tup [AV.nils,AV.bool false]) (none)) (rB [decide (Zdf (ZaZ s)=true)] (bB (A.not (A.eqS (Go.Lib.itoa (ZaZ s)) s)) (F (AV.tup [AV.nils,AV.bool false]) (none)) (bB (A.lt 3 (A.int (A.lenS s))) (F (AV.tup [AV.nils,AV.bool false]) (none)) (rB [Zah (Nat.ble (A.len [ZaZ s]) 4294967296) (Nat.blt 0 (A.len [ZaZ s])),List.all [AV.int .i64 (ZaZ s)] fun x=>AV.bx x&&Nat.beq (Zag A x) 1] (F (AV.tup [AV.row 0 0,AV.bool (A.le few (A.int (A.len [ZaZ s])))]) (some { e:=3,sz:=1,r:=.ints .i64 [ZaZ s] }))))))))) (rB [decide (List.length (A.subS s 0 (A.nat (A.add (ixS s [32]) 0)-0))≤1000000),Zah (A.le 0 (A.add (ixS s [32]) 0)) (Zah (Nat.ble 0 (A.nat (A.add (ixS s [32]) 0))) (Nat.ble (A.nat (A.add (ixS s [32]) 0)) (A.lenS s))),A.inR .i64 (A.add (ixS s [32]) 0)] (bB (bif true then ZdH (A.subS s 0 (A.nat (A.add (ixS s [32]) 0)-0))else !ZdH (A.subS s 0 (A.nat (A.add (ixS s [32]) 0)-0))) (rB [A.not false] (F (AV.tup [AV.nils,AV.bool false]) (none))) (bB (A.lt (ZaZ (A.subS s 0 (A.nat (A.add (ixS s [32]) 0)-0))) 0) (rB [A.not false] (F (AV.tup [AV.nils,AV.bool false]) (none))) (rB [decide (Zdf (ZaZ (A.subS s 0 (A.nat (A.add (ixS s [32]) 0)-0)))=true)] (bB (A.not (A.eqS (Go.Lib.itoa (ZaZ (A.subS s 0 (A.nat (A.add (ixS s [32]) 0)-0)))) (A.subS s 0 (A.nat (A.add (ixS s [32]) 0)-0)))) (rB [A.not false] (F (AV.tup [AV.nils,AV.bool false]) (none))) (bB (A.lt 3 (A.int (A.lenS (A.subS s 0 (A.nat (A.add (ixS s [32]) 0)-0))))) (rB [A.not false] (F (AV.tup [AV.nils,AV.bool false]) (none))) (rB [Zah (Nat.ble (A.len [ZaZ (A.subS s 0 (A.nat (A.add (ixS s [32]) 0)-0))]) 4294967296) (Nat.blt 0 (A.len [ZaZ (A.subS s 0 (A.nat (A.add (ixS s [32]) 0)-0))])),List.all [AV.int .i64 (ZaZ (A.subS s 0 (A.nat (A.add (ixS s [32]) 0)-0)))] fun x=>AV.bx x&&Nat.beq (Zag A x) 1] (rB [!A.not true] (rB [Zah (Zah (A.le 0 (A.add (ixS s [32]) (A.int (A.lenS [32])))) true) (Zah (Nat.ble (A.nat (A.add (ixS s [32]) (A.int (A.lenS [32])))) (A.lenS s)) (Nat.ble (A.lenS s) (A.lenS s))),A.inR .i64 (A.add (ixS s [32]) (A.int (A.lenS [32])))] (K (Zgk (s) (few) ([ZaZ (A.subS s 0 (A.nat (A.add (ixS s [32]) 0)-0))]) (A.subS s (A.nat (A.add (ixS s [32]) (A.int (A.lenS [32])))) (A.lenS s-A.nat (A.add (ixS s [32]) (A.int (A.lenS [32])))))))))))))))))
theorem Zj2{A:Ar}{K:KT}{F:FT}{M:MT}{s:List UInt8}{few:Int} :Zat A tab N1 32 K F M (.run 15 (.tf (.run 26 (.tf (.ty (.ty (.run 1 (.ty (.ty (.ty (.ty (.ty (.run 1 (.ty (.ty (.ty (.ty (.run 2 (.ty (.run 12 (.fn))))))))))))))))) (.fy (.fy (.run 1 (.tf (.ty (.ty (.ty (.ty (.run 1 (.ty (.ty (.ty (.ty (.run 2 (.ty (.run 12 (.fn))))))))))))) (.fy (.fy (.fy (.fy (.run 1 (.tf (.ty (.ty (.ty (.run 2 (.ty (.run 12 (.fn))))))) (.fy (.fy (.fy (.run 2 (.tf (.run 12 (.fn)) (.run 19 (.fn))))))))))))))))))) (.run 37 (.tf (.ty (.ty (.run 1 (.ty (.ty (.ty (.ty (.ty (.run 1 (.ty (.ty (.ty (.ty (.run 2 (.ty (.run 8 (.ty (.run 5 (.fn))))))))))))))))))) (.fy (.fy (.run 1 (.tf (.ty (.ty (.ty (.ty (.run 1 (.ty (.ty (.ty (.ty (.run 2 (.ty (.run 8 (.ty (.run 5 (.fn))))))))))))))) (.fy (.fy (.fy (.fy (.run 1 (.tf (.ty (.ty (.ty (.run 2 (.ty (.run 8 (.ty (.run 5 (.fn))))))))) (.fy (.fy (.fy (.run 2 (.tf (.run 8 (.ty (.run 5 (.fn)))) (.run 12 (.fy (.run 13 (.hd))))))))))))))))))))))) (Zej s few) (Zdn s few)=ZaC A K F s few:=by kernel_rfl
def ZaA(A:Ar)(K:KT)(F:FT)(s:List UInt8)(few:Int)(l0:List Int)(l1:List UInt8):Prop:=rB [decide (List.length l1≤1000000)] (bB (A.lt (ixS l1 [32]) 0) (rB [decide (List.length l1≤1000000)] (bB (bif true then ZdH l1 else !ZdH l1) (F (AV.tup [AV.nils,AV.bool false]) (none)) (bB (A.lt (ZaZ l1) 0) (F (AV.tup [AV.nils,AV.bool false]) (none)) (rB [decide (Zdf (ZaZ l1)=true)] (bB (A.not (A.eqS (Go.Lib.itoa (ZaZ l1)) l1)) (F (AV.tup [AV.nils,AV.bool false]) (none)) (bB (A.lt 3 (A.int (A.lenS l1))) (F (AV.tup [AV.nils,AV.bool false]) (none)) (rB [Nat.ble (A.len l0+A.len [ZaZ l1]) 4294967296,List.all [AV.int .i64 (ZaZ l1)] fun x=>AV.bx x&&Nat.beq (Zag A x) 1] (F (AV.tup [AV.row 0 0,AV.bool (A.le few (A.int (A.len (A.app l0 [ZaZ l1]))))]) (some { e:=3,sz:=1,r:=.ints .i64 (A.app l0 [ZaZ l1]) }))))))))) (rB [decide (List.length (A.subS l1 0 (A.nat (A.add (ixS l1 [32]) 0)-0))≤1000000),Zah (A.le 0 (A.add (ixS l1 [32]) 0)) (Zah (Nat.ble 0 (A.nat (A.add (ixS l1 [32]) 0))) (Nat.ble (A.nat (A.add (ixS l1 [32]) 0)) (A.lenS l1))),A.inR .i64 (A.add (ixS l1 [32]) 0)] (bB (bif true then ZdH (A.subS l1 0 (A.nat (A.add (ixS l1 [32]) 0)-0))else !ZdH (A.subS l1 0 (A.nat (A.add (ixS l1 [32]) 0)-0))) (rB [A.not false] (F (AV.tup [AV.nils,AV.bool false]) (none))) (bB (A.lt (ZaZ (A.subS l1 0 (A.nat (A.add (ixS l1 [32]) 0)-0))) 0) (rB [A.not false] (F (AV.tup [AV.nils,AV.bool false]) (none))) (rB [decide (Zdf (ZaZ (A.subS l1 0 (A.nat (A.add (ixS l1 [32]) 0)-0)))=true)] (bB (A.not (A.eqS (Go.Lib.itoa (ZaZ (A.subS l1 0 (A.nat (A.add (ixS l1 [32]) 0)-0)))) (A.subS l1 0 (A.nat (A.add (ixS l1 [32]) 0)-0)))) (rB [A.not false] (F (AV.tup [AV.nils,AV.bool false]) (none))) (bB (A.lt 3 (A.int (A.lenS (A.subS l1 0 (A.nat (A.add (ixS l1 [32]) 0)-0))))) (rB [A.not false] (F (AV.tup [AV.nils,AV.bool false]) (none))) (rB [Nat.ble (A.len l0+A.len [ZaZ (A.subS l1 0 (A.nat (A.add (ixS l1 [32]) 0)-0))]) 4294967296,List.all [AV.int .i64 (ZaZ (A.subS l1 0 (A.nat (A.add (ixS l1 [32]) 0)-0)))] fun x=>AV.bx x&&Nat.beq (Zag A x) 1] (rB [!A.not true] (rB [Zah (Zah (A.le 0 (A.add (ixS l1 [32]) (A.int (A.lenS [32])))) true) (Zah (Nat.ble (A.nat (A.add (ixS l1 [32]) (A.int (A.lenS [32])))) (A.lenS l1)) (Nat.ble (A.lenS l1) (A.lenS l1))),A.inR .i64 (A.add (ixS l1 [32]) (A.int (A.lenS [32])))] (K (Zgk (s) (few) (A.app l0 [ZaZ (A.subS l1 0 (A.nat (A.add (ixS l1 [32]) 0)-0))]) (A.subS l1 (A.nat (A.add (ixS l1 [32]) (A.int (A.lenS [32])))) (A.lenS l1-A.nat (A.add (ixS l1 [32]) (A.int (A.lenS [32])))))))))))))))))
theorem Zgw{A:Ar}{K:KT}{F:FT}{M:MT}{s:List UInt8}{few:Int}{l0:List Int}{l1:List UInt8} :Zat A tab N1 32 K F M (.run 15 (.tf (.run 26 (.tf (.ty (.ty (.run 1 (.ty (.ty (.ty (.ty (.ty (.run 1 (.ty (.ty (.ty (.ty (.run 2 (.ty (.run 12 (.fn))))))))))))))))) (.fy (.fy (.run 1 (.tf (.ty (.ty (.ty (.ty (.run 1 (.ty (.ty (.ty (.ty (.run 2 (.ty (.run 12 (.fn))))))))))))) (.fy (.fy (.fy (.fy (.run 1 (.tf (.ty (.ty (.ty (.run 2 (.ty (.run 12 (.fn))))))) (.fy (.fy (.fy (.run 2 (.tf (.run 12 (.fn)) (.run 19 (.fn))))))))))))))))))) (.run 37 (.tf (.ty (.ty (.run 1 (.ty (.ty (.ty (.ty (.ty (.run 1 (.ty (.ty (.ty (.ty (.run 2 (.ty (.run 8 (.ty (.run 5 (.fn))))))))))))))))))) (.fy (.fy (.run 1 (.tf (.ty (.ty (.ty (.ty (.run 1 (.ty (.ty (.ty (.ty (.run 2 (.ty (.run 8 (.ty (.run 5 (.fn))))))))))))))) (.fy (.fy (.fy (.fy (.run 1 (.tf (.ty (.ty (.ty (.run 2 (.ty (.run 8 (.ty (.run 5 (.fn))))))))) (.fy (.fy (.fy (.run 2 (.tf (.run 8 (.ty (.run 5 (.fn)))) (.run 12 (.fy (.run 13 (.hd))))))))))))))))))))))) (ZeJ s few l0 l1) (Zdo s few l0 l1)=ZaA A K F s few l0 l1:=by kernel_rfl
def ZwN(xs ys:List Int):AFrame:={ fn:=28,N:=26,env:=[(0,AV.list (.ints .i64 xs)),(1,AV.list (.ints .i64 ys))],todo:=[.code a28.code],defs:=[],rnd:=none,ret:=false,res:=[ARes.tmp 4] }
def ZBQ(xs ys:List Int):List AFrame:=[(ZwN xs ys)]
theorem ZsR(xs ys:List Int):Zap tab 28 [AV.list (.ints .i64 xs),AV.list (.ints .i64 ys)]=some (ZwN xs ys):=rfl
def Zf1(xs ys:List Int)(n0:Int):List AFrame:=[{ fn:=28,N:=26,env:=[(0,AV.list (.ints .i64 xs)),(1,AV.list (.ints .i64 ys)),(5,AV.int .i64 n0)],todo:=.code (ACode.gh [] Zyb)::Zzb,defs:=[],rnd:=none,ret:=false,res:=[ARes.tmp 4] }]
def ZeE(xs ys:List Int)(n0:Int):Zac:=[]
abbrev ZhI(xs ys:List Int)(n0:Int):List AFrame×Zac:=(Zf1 xs ys n0,ZeE xs ys n0)
def Zsl(A:Ar)(K:KT)(F:FT)(xs ys:List Int):Prop:=bB (A.not (A.eq (A.int (A.len xs)) (A.int (A.len ys)))) (F (AV.bool false) (none)) (K (ZhI (xs) (ys) (0)))
theorem Zzu{A:Ar}{K:KT}{F:FT}{M:MT}{xs ys:List Int} :Zat A tab N1 28 K F M (.run 13 (.tf (.run 5 (.fn)) (.run 9 (.hd)))) (ZBQ xs ys) []=Zsl A K F xs ys:=by kernel_rfl
def ZcX(A:Ar)(K:KT)(F:FT)(xs ys:List Int)(n0:Int):Prop:=bB (A.lt n0 (A.int (A.len xs))) (rB [Zah (Zah (A.le 0 n0) (Nat.blt (A.nat n0) (A.len ys))) true,Zah (Zah (A.le 0 n0) (Nat.blt (A.nat n0) (A.len xs))) true] (bB (A.not (A.eq (A.nth xs (A.nat n0)) (A.nth ys (A.nat n0)))) (F (AV.bool false) (none)) (rB [A.inR .i64 (A.add n0 1)] (K (ZhI (xs) (ys) (A.add n0 1)))))) (F (AV.bool true) (none))
theorem Zhm{A:Ar}{K:KT}{F:FT}{M:MT}{xs ys:List Int}{n0:Int} :Zat A tab N1 28 K F M (.run 9 (.tf (.run 6 (.tf (.run 5 (.fn)) (.run 9 (.hd)))) (.run 6 (.fn)))) (Zf1 xs ys n0) (ZeE xs ys n0)=ZcX A K F xs ys n0:=by kernel_rfl
def Zxq(xs:List Int):AFrame:={ fn:=31,N:=6,env:=[(0,AV.list (.ints .i64 xs))],todo:=[.code a31.code],defs:=[],rnd:=none,ret:=false,res:=[ARes.tmp 2] }
def ZCu(xs:List Int):List AFrame:=[(Zxq xs)]
theorem Zsh(xs:List Int):Zap tab 31 [AV.list (.ints .i64 xs)]=some (Zxq xs):=rfl
def ZvZ(A:Ar)(K:KT)(F:FT)(xs:List Int):Prop:=rB [Nat.ble (0+A.len xs) 4294967296,List.all [] fun x=>AV.bx x&&Nat.beq (Zag A x) 1] (F (AV.row 0 0) (some { e:=3,sz:=1,r:=.ints .i64 xs }))
theorem ZAG{A:Ar}{K:KT}{F:FT}{M:MT}{xs:List Int} :Zat A tab N1 31 K F M (.run 12 (.fn)) (ZCu xs) []=ZvZ A K F xs:=by kernel_rfl
def Zwd(xs:List Int):AFrame:={ fn:=35,N:=5,env:=[(0,AV.list (.ints .i64 xs))],todo:=[.code a35.code],defs:=[],rnd:=none,ret:=false,res:=[ARes.tmp 2] }
def ZCF(xs:List Int):List AFrame:=[(Zwd xs)]
theorem ZsH(xs:List Int):Zap tab 35 [AV.list (.ints .i64 xs)]=some (Zwd xs):=rfl
def ZfX(xs:List Int)(n0 n1:Int):List AFrame:=[{ fn:=66,N:=21,env:=[(1,AV.fn 67 []),(8,AV.list (.ints .i64 xs)),(9,AV.int .i64 n0),(10,AV.int .i64 n1)],todo:=.code (ACode.gh [] Zwx)::Zzs,defs:=[],rnd:=none,ret:=false,res:=[ARes.tmp 4] },{ fn:=35,N:=5,env:=[(0,AV.list (.ints .i64 xs)),(2,AV.int .i64 0),(3,AV.list (.ints .i64 xs))],todo:=[AItem.inReg [oN 4 (OpK.ncall true 0 66 [Opd.t 3,Opd.c (AV.fn 67 [])]),mV 2 4], .code ACode.ret],defs:=[],rnd:=none,ret:=false,res:=[ARes.tmp 2] }]
def Zez(xs:List Int)(n0 n1:Int):Zac:=[]
abbrev Zhz(xs:List Int)(n0 n1:Int):List AFrame×Zac:=(ZfX xs n0 n1,Zez xs n0 n1)
def ZwH(A:Ar)(K:KT)(F:FT)(xs:List Int):Prop:=K (Zhz (xs) (A.int (A.len xs)) (0))
theorem ZAu{A:Ar}{K:KT}{F:FT}{M:MT}{xs:List Int} :Zat A tab N1 35 K F M (.run 22 (.hd)) (ZCF xs) []=ZwH A K F xs:=by kernel_rfl
def Zb0(A:Ar)(K:KT)(F:FT)(xs:List Int)(n0 n1:Int):Prop:=bB (A.lt n1 n0) (rB [Zah (Zah (A.le 0 n1) (Nat.blt (A.nat n1) (A.len xs))) true] (bB (A.le 0 (A.nth xs (A.nat n1))) (bB (A.le (A.nth xs (A.nat n1)) 255) (rB [!A.not (A.eq 0 0)] (rB [A.inR .i64 (A.add n1 1)] (K (Zhz (xs) (n0) (A.add n1 1))))) (rB [A.not (A.eq 2 0)] (F (AV.int .i64 2) (none)))) (rB [A.not (A.eq 2 0)] (F (AV.int .i64 2) (none))))) (F (AV.int .i64 0) (none))
theorem Zg4{A:Ar}{K:KT}{F:FT}{M:MT}{xs:List Int}{n0 n1:Int} :Zat A tab N1 35 K F M (.run 6 (.tf (.run 40 (.tf (.ty (.ty (.ty (.run 19 (.tf (.run 17 (.fy (.run 8 (.hd)))) (.run 19 (.ty (.run 10 (.fn))))))))) (.fy (.fy (.fy (.run 19 (.fy (.run 19 (.ty (.run 10 (.fn))))))))))) (.run 10 (.fn)))) (ZfX xs n0 n1) (Zez xs n0 n1)=Zb0 A K F xs n0 n1:=by kernel_rfl
def Zxt(xs:List Int):AFrame:={ fn:=38,N:=16,env:=[(0,AV.list (.ints .i64 xs))],todo:=[.code a38.code],defs:=[],rnd:=none,ret:=false,res:=[ARes.tmp 2] }
def ZCI(xs:List Int):List AFrame:=[(Zxt xs)]
theorem Zsv(xs:List Int):Zap tab 38 [AV.list (.ints .i64 xs)]=some (Zxt xs):=rfl
def ZgB(xs:List Int)(n0:Int):List AFrame:=[{ fn:=38,N:=16,env:=[(0,AV.list (.ints .i64 xs)),(3,AV.int .i64 n0)],todo:=.code (ACode.gh [] Zx0)::Zyz,defs:=[],rnd:=none,ret:=false,res:=[ARes.tmp 2] }]
def ZeC(xs:List Int)(n0:Int):Zac:=[]
abbrev Zhs(xs:List Int)(n0:Int):List AFrame×Zac:=(ZgB xs n0,ZeC xs n0)
def Zyg(A:Ar)(K:KT)(F:FT)(xs:List Int):Prop:=K (Zhs (xs) (0))
theorem ZyO{A:Ar}{K:KT}{F:FT}{M:MT}{xs:List Int} :Zat A tab N1 38 K F M (.run 12 (.hd)) (ZCI xs) []=Zyg A K F xs:=by kernel_rfl
def ZbV(A:Ar)(K:KT)(F:FT)(xs:List Int)(n0:Int):Prop:=bB (A.lt n0 (A.int (A.len xs))) (rB [Zah (Zah (A.le 0 n0) (Nat.blt (A.nat n0) (A.len xs))) true] (bB (A.le 0 (A.nth xs (A.nat n0))) (bB (A.not (A.le (A.nth xs (A.nat n0)) 255)) (F (AV.int .i64 2) (none)) (rB [A.inR .i64 (A.add n0 1)] (K (Zhs (xs) (A.add n0 1))))) (rB [A.not false] (F (AV.int .i64 2) (none))))) (F (AV.int .i64 0) (none))
theorem ZgS{A:Ar}{K:KT}{F:FT}{M:MT}{xs:List Int}{n0:Int} :Zat A tab N1 38 K F M (.run 9 (.tf (.run 20 (.tf (.ty (.ty (.ty (.run 7 (.tf (.run 5 (.fn)) (.run 9 (.hd))))))) (.fy (.fy (.fy (.run 7 (.ty (.run 5 (.fn))))))))) (.run 6 (.fn)))) (ZgB xs n0) (ZeC xs n0)=ZbV A K F xs n0:=by kernel_rfl
def Zxj(a b c:Int):AFrame:={ fn:=40,N:=15,env:=[(0,AV.int .i64 a),(1,AV.int .i64 b),(2,AV.int .i64 c)],todo:=[.code a40.code],defs:=[],rnd:=none,ret:=false,res:=[ARes.tmp 6] }
def ZCj(a b c:Int):List AFrame:=[(Zxj a b c)]
theorem Zuc(a b c:Int):Zap tab 40 [AV.int .i64 a,AV.int .i64 b,AV.int .i64 c]=some (Zxj a b c):=rfl
def Zwh(A:Ar)(K:KT)(F:FT)(a b c:Int):Prop:=bB (A.le b a) (F (AV.bool (A.le a c)) (none)) (F (AV.bool false) (none))
theorem ZzF{A:Ar}{K:KT}{F:FT}{M:MT}{a b c:Int} :Zat A tab N1 40 K F M (.run 10 (.tf (.ty (.ty (.ty (.run 4 (.fn))))) (.fy (.fy (.fy (.run 4 (.fn))))))) (ZCj a b c) []=Zwh A K F a b c:=by kernel_rfl
def Zxv(b:Bool)(e:Int):AFrame:={ fn:=34,N:=7,env:=[(0,AV.bool b),(1,AV.int .i64 e)],todo:=[.code a34.code],defs:=[],rnd:=none,ret:=false,res:=[ARes.tmp 4] }
def ZC0(b:Bool)(e:Int):List AFrame:=[(Zxv b e)]
theorem Ztc(b:Bool)(e:Int):Zap tab 34 [AV.bool b,AV.int .i64 e]=some (Zxv b e):=rfl
def Zxz(A:Ar)(K:KT)(F:FT)(b:Bool)(e:Int):Prop:=bB (b) (F (AV.int .i64 0) (none)) (F (AV.int .i64 e) (none))
theorem ZzK{A:Ar}{K:KT}{F:FT}{M:MT}{b:Bool}{e:Int} :Zat A tab N1 34 K F M (.run 9 (.tf (.run 5 (.fn)) (.run 7 (.fn)))) (ZC0 b e) []=Zxz A K F b e:=by kernel_rfl
def Zxs(xs:List Int):AFrame:={ fn:=33,N:=15,env:=[(0,AV.list (.ints .i64 xs))],todo:=[.code a33.code],defs:=[],rnd:=none,ret:=false,res:=[ARes.tmp 2] }
def ZC8(xs:List Int):List AFrame:=[(Zxs xs)]
theorem Zsj(xs:List Int):Zap tab 33 [AV.list (.ints .i64 xs)]=some (Zxs xs):=rfl
def ZfG(xs:List Int)(n0 n1:Int):List AFrame:=[{ fn:=33,N:=15,env:=[(5,AV.list (.ints .i64 xs)),(6,AV.int .i64 n0),(7,AV.int .i64 n1)],todo:=.code (ACode.gh [] Zwf)::ZyR,defs:=[],rnd:=none,ret:=false,res:=[ARes.tmp 2] }]
def Zei(xs:List Int)(n0 n1:Int):Zac:=[]
abbrev Zhr(xs:List Int)(n0 n1:Int):List AFrame×Zac:=(ZfG xs n0 n1,Zei xs n0 n1)
def Zwy(A:Ar)(K:KT)(F:FT)(xs:List Int):Prop:=K (Zhr (xs) (A.int (A.len xs)) (0))
theorem Zzm{A:Ar}{K:KT}{F:FT}{M:MT}{xs:List Int} :Zat A tab N1 33 K F M (.run 14 (.hd)) (ZC8 xs) []=Zwy A K F xs:=by kernel_rfl
def ZcV(A:Ar)(K:KT)(F:FT)(xs:List Int)(n0 n1:Int):Prop:=bB (A.lt n1 n0) (rB [Zah (Zah (A.le 0 n1) (Nat.blt (A.nat n1) (A.len xs))) true] (bB (A.not (A.eq (A.nth xs (A.nat n1)) 0)) (F (AV.int .i64 (A.nth xs (A.nat n1))) (none)) (rB [A.inR .i64 (A.add n1 1)] (K (Zhr (xs) (n0) (A.add n1 1)))))) (F (AV.int .i64 0) (none))
theorem ZhA{A:Ar}{K:KT}{F:FT}{M:MT}{xs:List Int}{n0 n1:Int} :Zat A tab N1 33 K F M (.run 6 (.tf (.run 14 (.tf (.run 6 (.fn)) (.run 8 (.hd)))) (.run 6 (.fn)))) (ZfG xs n0 n1) (Zei xs n0 n1)=ZcV A K F xs n0 n1:=by kernel_rfl
end Go.Proofs.YthfcimmcccocmaaGreatDoor
