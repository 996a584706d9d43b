/- Library functions on strings, as contracts. No condition. -/
import Derived.Test.YtkeoeooghhjibaaGreatDoorSh
import Derived.Lib.AppendIntMem
import Derived.Lib.AtoiErrMem
import Derived.BigCall
import Derived.WalkKit
import Derived.KernelRfl
namespace Go.Proofs.YtkeoeooghhjibaaGreatDoor
open Go.RowKit (Below)
theorem ZfO{P:Program}{w w':World}{okA:Nat→Prop}{L:Lay}(hb:Below w.heap.size w w')(hG:GoodW P w w.heap.size 0):HRel (Ctx.of P w okA []) [] L w':=
 ⟨hb,fun _ _ ht=>absurd rfl ht.tag,fun _ _=>trivial,fun _ _ _ _ ht=>absurd rfl ht.tag,fun _ _ ht=>absurd rfl ht.tag,fun k hk _=>hb.block k hk,Nat.le_refl _,hG⟩
theorem ZtE{w:World}{ok:Nat→Prop}{h:Zaa}{L:Lay}{a:AV}{vs:Array Value}(hr:RelL w ok h L [a] vs.toList):∃x,vs= #[x]∧Rel w ok h L a x:=by
 obtain⟨l⟩:=vs
 match l,hr with
 |[],hr=>cases hr.1
 |[x],hr=>exact⟨x,rfl,hr.2 0 a x rfl rfl⟩
 |_::_::_,hr=>have:=hr.1;simp at this
theorem Zid{w:World}{ok:Nat→Prop}{h:Zaa}{L:Lay}{a b:AV}{vs:Array Value}(hr:RelL w ok h L [a,b] vs.toList):∃x y,vs= #[x,y]∧Rel w ok h L a x∧Rel w ok h L b y:=by
 obtain⟨l⟩:=vs
 match l,hr with
 |[],hr=>cases hr.1
 |[_],hr=>have:=hr.1;simp at this
 |[x,y],hr=>exact⟨x,y,rfl,hr.2 0 a x rfl rfl,hr.2 1 b y rfl rfl⟩
 |_::_::_::_,hr=>have:=hr.1;simp at this
theorem Zfx{w:World}{ok:Nat→Prop}{h:Zaa}{L:Lay}{s:List UInt8}{x:Value}(hr:Rel w ok h L (.str s) x):x=.string ⟨s.toArray⟩:=by cases hr;rfl
theorem Zrx{w:World}{ok:Nat→Prop}{h:Zaa}{L:Lay}{k:IntKind}{n:Int}{x:Value}(hr:Rel w ok h L (.int k n) x):x=.int k n:=by cases hr;rfl
theorem ZE1{P:Program}{n:String}{g:Nat}{k:IntKind}{zs:List Int}{w:World}(hg:P.globalNamed n=some g)(h:Zru w g=some (zs.map fun z=>Value.int k z).toArray):Lib.TabIs P w n k zs:=by
 unfold Lib.TabIs World.var?
 rw[hg];exact h
theorem ZfH(n:Int)(h: -9223372036854775808≤n∧n≤9223372036854775807)(w:World)(hF:FactsW w):Calls Tryz.prog 138 #[.int .i64 n] w fun e w'=>e=.returned (.string ⟨(Lib.itoa n).toArray⟩)∧Below w.heap.size w w':=by
 refine(Any.strconv_Itoa Zor n h.1 h.2 w (ZE1 (by kernel_rfl) hF.tab)).mono ?_
 rintro e w' ⟨rfl,k,os,rfl⟩
 exact⟨rfl,Lib.below_grow w.heap.size w (Nat.le_refl _) k os⟩
theorem ZpL(n:Int)(h: -9223372036854775808≤n∧n≤9223372036854775807):Zat Tryz.prog 138 [.int .i64 n] (.str (Lib.itoa n)) none:=by
 intro w okA L vs hargs _ hG
 obtain⟨x,rfl,hx⟩:=ZtE hargs
 obtain rfl:=Zrx hx
 refine(ZfH n h w hG.1).mono ?_
 rintro e w' ⟨rfl,hb⟩
 exact⟨_,L,rfl,hb,ZfO hb hG, .str _⟩
def Zac(s p:List UInt8):List (List UInt8):=(Lib.splitB ⟨p.toArray⟩ 0 (Lib.countB ⟨s.toArray⟩ ⟨p.toArray⟩) ⟨s.toArray⟩).map fun b=>b.data.toList
theorem Zom(s p:List UInt8)(h:s.length≤1000000∧1≤p.length):Zat Tryz.prog 106 [.str s, .str p] (.list (.big .str ((Zac s p).map AV.str))) ZwC:=by
 intro w okA L vs hargs _ hG
 obtain⟨x,y,rfl,hx,hy⟩:=Zid hargs
 obtain rfl:=Zfx hx
 obtain rfl:=Zfx hy
 obtain⟨m,hm⟩:=hG.1.len
 have hlen:=Lib.splitB_all ⟨p.toArray⟩ (by show 1≤p.toArray.size;simpa using h.2) 0 _ ⟨s.toArray⟩ rfl
 refine(Zh8 ⟨s.toArray⟩ ⟨p.toArray⟩ m w (by show s.toArray.size<_;simp;omega) hm (by show 1≤p.toArray.size;simpa using h.2)).mono ?_
 rintro e w' ⟨rfl,rfl⟩
 have hb:Below w.heap.size w (w.alloc (.cells ((Lib.splitB ⟨p.toArray⟩ 0 (Lib.countB ⟨s.toArray⟩ ⟨p.toArray⟩) ⟨s.toArray⟩).map Value.string).toArray 9)):=(Below.refl _ _).alloc (Nat.le_refl _) _
 refine⟨_,L,rfl,hb,?_⟩
 show ZaF (Ctx.of Tryz.prog w (fun _=>False) []) [] L _ (.list (.big .str ((Zac s p).map AV.str))) _
 have hel:(Row.big .str ((Zac s p).map AV.str)).elems=(Zac s p).map AV.str:=by simp[Row.elems,Sh.view,Sh.view1,AV.toS,List.map_map,Function.comp_def]
 have hfl:Zag ((Zac s p).map AV.str)=(Zac s p).map AV.str:=ZaT (fun x hx=>by obtain⟨y,_,rfl⟩:=List.mem_map.1 hx;rfl)
 have hn:(Zac s p).length=Lib.countB ⟨s.toArray⟩ ⟨p.toArray⟩+1:=by unfold Zac;rw[List.length_map,hlen]
 refine .list _ ((Zac s p).map AV.str) hel.symm ⟨w.heap.size,0,none⟩ _ _ 1 ((Lib.splitB ⟨p.toArray⟩ 0 (Lib.countB ⟨s.toArray⟩ ⟨p.toArray⟩) ⟨s.toArray⟩).map Value.string) (by simp) (.inr ⟨Nat.le_refl _,fun a i ht=>absurd rfl ht.tag⟩) (by rw[List.length_map,hn]) (Nat.le_refl _) (fun x hx=>by obtain⟨y,_,rfl⟩:=List.mem_map.1 hx;rfl) (by rw[hfl];simp[Zac]) (fun x hx=>by obtain⟨y,_,rfl⟩:=List.mem_map.1 hx;rfl) (fun j v hj=>?_) ?_ (fun j u v hu hv=>?_)
 ·have hadd:(⟨w.heap.size,0,none⟩:Addr).add j=⟨w.heap.size,j,none⟩:=by
   by_cases hj0:j=0
   ·subst hj0;rfl
   ·simp[Addr.add,hj0]
  rw[hadd,World.cell?_alloc_new]
  simpa using hj
 ·rw[hfl]
  have hall:∀l:List (List UInt8),AV.pureL (l.map AV.str)=true:=fun l=>by
   induction l with
   |nil=>rfl
   |cons b l ih=>simp only[List.map_cons,AV.pureL,AV.pure,ih,Bool.and_self]
  exact hall _
 ·rw[hfl]at hu
  unfold Zac at hu
  rw[List.map_map,List.getElem?_map]at hu
  rw[List.getElem?_map]at hv
  cases hq:(Lib.splitB ⟨p.toArray⟩ 0 (Lib.countB ⟨s.toArray⟩ ⟨p.toArray⟩) ⟨s.toArray⟩)[j]? with
  |none=>rw[hq]at hu;cases hu
  |some b=>
   rw[hq]at hu hv
   simp only[Option.map_some,Option.some.injEq,Function.comp_apply]at hu hv
   subst hu;subst hv
   exact .str b.data.toList
theorem ZpS(xs:List AV)(p:List UInt8)(h:xs.length≤1000000∧(Lib.join (xs.map AV.toS) p).length≤1000000):Zat Tryz.prog 113 [.list (.big .str xs), .str p] (.str (Lib.join (xs.map AV.toS) p)) none:=by
 intro w okA L vs hargs _ hG
 obtain⟨x,y,rfl,hx,hy⟩:=Zid hargs
 obtain rfl:=Zfx hy
 by_cases hne:(Row.big .str xs).elems=[]
 ·have hxs:xs=[]:=by
   have:(Row.big .str xs).elems.length=xs.length:=by simp[Row.elems,Sh.view]
   rw[hne]at this
   exact List.eq_nil_of_length_eq_zero this.symm
  subst hxs
  obtain⟨a,c,rfl⟩:∃a c,x=.slice a 0 c:=by
   cases hx with
   |nil _ a c _=>exact⟨a,c,rfl⟩
   |list _ ys hy ad n cap sz cs hb hok hn=>rw[hne]at hy;subst hy;exact⟨some ad,cap,by rw[hn];rfl⟩
  refine(ZeY a c ⟨p.toArray⟩ w).mono ?_
  rintro e w' ⟨rfl,rfl⟩
  exact⟨_,L,rfl,Below.refl _ _,ZfO (Below.refl _ _) hG, .str _⟩
 ·cases hx with
  |nil _ a c h0=>exact absurd h0 hne
  |list _ ys hys ad n cap sz cs hb hok hn hcap hsz hl h1 hc hp hrr=>
   subst hys
   have hel:(Row.big .str xs).elems=xs.map fun v=>AV.str v.toS:=by simp[Row.elems,Sh.view,Sh.view1]
   have hfl:Zag (Row.big .str xs).elems=xs.map fun v=>AV.str v.toS:=by rw[hel];exact ZaT (fun x hx=>by obtain⟨y,_,rfl⟩:=List.mem_map.1 hx;rfl)
   have hnl:n=xs.length:=by rw[hn,hel,List.length_map]
   subst hnl
   rw[hfl]at hl hrr
   rw[List.length_map]at hl
   have hadz:ad=⟨ad.block,ad.off,none⟩:=by
    have hx0:0<xs.length:=by
     rcases Nat.eq_zero_or_pos xs.length with h0 |h0
     ·have:xs=[]:=List.eq_nil_of_length_eq_zero h0
      subst this;exact absurd rfl hne
     ·exact h0
    obtain⟨v,hv⟩:∃v,cs[0]? =some v:=⟨_,List.getElem?_eq_getElem (by omega)⟩
    have:=Zio (hc 0 v hv)
    cases ad with
    |mk b0 o0 s0=>
     simp only[Addr.add,if_true]at this
     rw[this]
   have hcs:∀(j:Nat) b,(xs.map fun v=>(⟨v.toS.toArray⟩:ByteArray))[j]? =some b→w.cell? ⟨ad.block,ad.off+j,none⟩=some (.string b):=fun j b hj=>by
    rw[List.getElem?_map]at hj
    cases hq:xs[j]? with
    |none=>rw[hq]at hj;cases hj
    |some q=>
     rw[hq]at hj
     simp only[Option.map_some,Option.some.injEq]at hj
     subst hj
     have hjl:j<xs.length:=(List.getElem?_eq_some_iff.1 hq).1
     obtain⟨v,hv⟩:∃v,cs[j]? =some v:=⟨_,List.getElem?_eq_getElem (by omega)⟩
     have hr:=hrr j (.str q.toS) v (by rw[List.getElem?_map,hq];rfl) hv
     obtain rfl:=Zfx hr
     have:=hc j _ hv
     rw[hadz]at this
     by_cases hj0:j=0
     ·subst hj0;simpa[Addr.add]using this
     ·simpa[Addr.add,hj0]using this
   have hmm:(xs.map fun v=>(⟨v.toS.toArray⟩:ByteArray)).map (fun b=>b.data.toList)=xs.map AV.toS:=by simp[List.map_map,Function.comp_def]
   have c:=ZiB ad.block ad.off cap (xs.map fun v=>(⟨v.toS.toArray⟩:ByteArray)) ⟨p.toArray⟩ w hcs hb (by rw[List.length_map];omega) (by rw[List.length_map];exact hcap) (by rw[hmm];show(Lib.join _ p).length≤_;omega)
   rw[List.length_map,←hadz,hmm]at c
   refine c.mono ?_
   rintro e w' ⟨rfl,hbe⟩
   exact⟨_,L,rfl,hbe,ZfO hbe hG, .str _⟩
end Go.Proofs.YtkeoeooghhjibaaGreatDoor
/- The reading of a number, as a contract. No condition. -/
namespace Go.Proofs.YtkeoeooghhjibaaGreatDoor
open Go.RowKit (Below)
def Zbn(s:List UInt8):Int:=match Lib.atoiAll s with | .ok v=>v |Lib.NumEnd.syntax=>0 | .range=>Lib.atoiSat s
def ZdK(s:List UInt8)(d:Int):Bool:=match Lib.atoiAll s with | .ok v=>decide (0≤v)&&(decide (Lib.itoa v=s)&&decide ((s.length:Int)≤d)) |_=>false
theorem ZpU(s:List UInt8)(d:Int)(hs:s.length≤1000000)(w:World)(hF:FactsW w)(h:Lib.atoiAll s=Lib.NumEnd.syntax):Calls Tryz.prog 107 #[.string ⟨s.toArray⟩, .int .i64 d] w fun e w'=>e=.returned (.tuple #[.int .i64 0, .bool false])∧Below w.heap.size w w':=by
 have hsz:(⟨s.toArray⟩:ByteArray).size=s.length:=by simp[ByteArray.size]
 obtain⟨t1,p1,hv1⟩:=hF.syn
 have c:=ZdL ⟨s.toArray⟩ (by omega) h _ w hv1 (.inr ⟨t1,p1,rfl⟩)
 go_enter Tryz.func107,Tryz.ntmps107
 go_wp2_with (go_at_call 142;refine c.mono ?_;rintro e W1 ⟨N,rfl, -, -,hb⟩)
 go_ret2
 exact⟨rfl,hb⟩
theorem Zqw(s:List UInt8)(d:Int)(hs:s.length≤1000000)(w:World)(hF:FactsW w)(h:Lib.atoiAll s=.range):Calls Tryz.prog 107 #[.string ⟨s.toArray⟩, .int .i64 d] w fun e w'=>e=.returned (.tuple #[.int .i64 (Lib.atoiSat s), .bool false])∧Below w.heap.size w w':=by
 have hsz:(⟨s.toArray⟩:ByteArray).size=s.length:=by simp[ByteArray.size]
 obtain⟨t1,p1,hv1⟩:=hF.rng
 have c:=Zet ⟨s.toArray⟩ (by omega) h _ w hv1 (.inr ⟨t1,p1,rfl⟩)
 have hq:Lib.atoiSat (⟨s.toArray⟩:ByteArray).data.toList=Lib.atoiSat s:=rfl
 rw[hq]at c
 generalize Lib.atoiSat s=q at c
 go_enter Tryz.func107,Tryz.ntmps107
 go_wp2_with (go_at_call 142;refine c.mono ?_;rintro e W1 ⟨N,rfl, -, -,hb⟩)
 go_ret2
 exact⟨rfl,hb⟩
theorem ZqT(s:List UInt8)(d:Int)(hs:s.length≤1000000)(w:World)(v:Int)(h:Lib.atoiAll s=.ok v)(h0:v<0):Calls Tryz.prog 107 #[.string ⟨s.toArray⟩, .int .i64 d] w fun e w'=>e=.returned (.tuple #[.int .i64 v, .bool false])∧(w'=w∨∃t,w'=Lib.bytesWorld w 5 t):=by
 have hsz:(⟨s.toArray⟩:ByteArray).size=s.length:=by simp[ByteArray.size]
 have c:=Zc1 ⟨s.toArray⟩ (by omega) v h w
 have h1:¬0≤v:=by omega
 go_enter Tryz.func107,Tryz.ntmps107
 go_wp2_with (go_at_call 142;refine c.mono ?_;rintro e W1 ⟨rfl,hw⟩)
 go_ret2
 exact⟨rfl,hw⟩
theorem Zp3(s:List UInt8)(d:Int)(hs:s.length≤1000000)(w:World)(hF:FactsW w)(h6:6≤w.heap.size)(v:Int)(h:Lib.atoiAll s=.ok v)(h0:0≤v)(b:Bool)(hR:(decide (Lib.itoa v=s)&&decide ((s.length:Int)≤d))=b):Calls Tryz.prog 107 #[.string ⟨s.toArray⟩, .int .i64 d] w fun e w'=>e=.returned (.tuple #[.int .i64 v, .bool b])∧Below w.heap.size w w':=by
 have hsz:(⟨s.toArray⟩:ByteArray).size=s.length:=by simp[ByteArray.size]
 have hbd:=Lib.atoiAll_bounds h
 have c:Calls Tryz.prog 142 #[.string ⟨s.toArray⟩] w fun e w'=>e=.returned (.tuple #[.int .i64 v, .nilIface])∧FactsW w'∧Below w.heap.size w w':=by
  refine(Zc1 ⟨s.toArray⟩ (by omega) v h w).mono ?_
  rintro e W1 ⟨rfl,hw⟩
  have hb:Below w.heap.size w W1:=by
   rcases hw with rfl |⟨t,rfl⟩
   ·exact Below.refl _ _
   ·exact Lib.bytesWorld_below _ _ _
  exact⟨rfl,hF.keep fun k hk=>hb.block k (by omega),hb⟩
 have c2:=fun W hW=>ZfH v hbd W hW
 generalize hq:Lib.itoa v=q at c2 hR
 have heq:((⟨q.toArray⟩:ByteArray)=⟨s.toArray⟩)=(q=s):=by simp
 go_enter Tryz.func107,Tryz.ntmps107
 go_wp2_with (go_at_call 142;refine c.mono ?_;rintro e W1 ⟨rfl,hF1,hb1⟩)
 refine(c2 W1 hF1).mono ?_
 rintro e W2 ⟨rfl,hb2⟩
 have hb3:Below w.heap.size w W2:=hb1.trans (hb2.mono hb1.size)
 by_cases h1:q=s
 ·by_cases h2:(s.length:Int)≤d
  ·obtain rfl:true=b:=by rw[←hR];simp[h1,h2]
   go_wp2
   go_ret2
   exact⟨rfl,hb3⟩
  ·obtain rfl:false=b:=by rw[←hR];simp[h2]
   go_wp2
   go_ret2
   refine⟨?_,hb3⟩
   simp[h2]
 ·obtain rfl:false=b:=by rw[←hR];simp[h1]
  go_wp2
  go_ret2
  exact⟨rfl,hb3⟩
theorem Zm2(s:List UInt8)(d:Int)(hs:s.length≤1000000)(w:World)(hF:FactsW w)(h6:6≤w.heap.size):Calls Tryz.prog 107 #[.string ⟨s.toArray⟩, .int .i64 d] w fun e w'=>e=.returned (.tuple #[.int .i64 (Zbn s), .bool (ZdK s d)])∧Below w.heap.size w w':=by
 cases h:Lib.atoiAll s with
 |ok v=>
  rw[show Zbn s=v by simp only[Zbn,h]]
  have hB:ZdK s d=(decide (0≤v)&&(decide (Lib.itoa v=s)&&decide ((s.length:Int)≤d))):=by simp only[ZdK,h]
  by_cases h0:0≤v
  ·rw[hB,decide_eq_true h0,Bool.true_and]
   exact Zp3 s d hs w hF h6 v h h0 _ rfl
  ·rw[hB,decide_eq_false h0,Bool.false_and]
   refine(ZqT s d hs w v h (by omega)).mono ?_
   rintro e W1 ⟨rfl,hw⟩
   refine⟨rfl,?_⟩
   rcases hw with rfl |⟨t,rfl⟩
   ·exact Below.refl _ _
   ·exact Lib.bytesWorld_below _ _ _
 |range=>
  rw[show Zbn s=Lib.atoiSat s by simp only[Zbn,h],show ZdK s d=false by simp only[ZdK,h]]
  exact Zqw s d hs w hF h
 |_=>
  rw[show Zbn s=0 by simp only[Zbn,h],show ZdK s d=false by simp only[ZdK,h]]
  exact ZpU s d hs w hF h
theorem ZmA(s:List UInt8)(d:Int)(hs:s.length≤1000000):Zat Tryz.prog 107 [.str s, .int .i64 d] (.tup [.int .i64 (Zbn s), .bool (ZdK s d)]) none:=by
 intro w okA L vs hargs _ hG
 obtain⟨x,y,rfl,hx,hy⟩:=Zid hargs
 obtain rfl:=Zfx hx
 obtain rfl:=Zrx hy
 refine(Zm2 s d hs w hG.1 hG.2.1).mono ?_
 rintro e w' ⟨rfl,hb⟩
 refine⟨_,L,rfl,hb,ZfO hb hG,?_⟩
 refine .tup _ _ rfl (fun j u v hu hv=>?_)
 match j with
 |0=>simp at hu hv;subst hu;subst hv;exact .int _ _
 |1=>simp at hu hv;subst hu;subst hv;exact .bool _
 |j+2=>simp at hu
end Go.Proofs.YtkeoeooghhjibaaGreatDoor
/- Paths of functions, printed by the explorer (Gx). No condition. -/
namespace Go.Proofs.YtkeoeooghhjibaaGreatDoor
set_option maxRecDepth 100000
set_option linter.unusedVariables false
def ZAS(n a b:Int):AFrame:={ fn:=41,N:=15,env:=[(0,AV.int .i64 n),(1,AV.int .i64 a),(2,AV.int .i64 b)],todo:=[.code a41.code],defs:=[],rnd:=none,ret:=false,res:=[ARes.tmp 6] }
def ZIF(n a b:Int):List AFrame:=[(ZAS n a b)]
theorem ZwG(n a b:Int):ZaB tab 41 [AV.int .i64 n,AV.int .i64 a,AV.int .i64 b]=some (ZAS n a b):=rfl
theorem ZFo(A:Ar)(n a b:Int):Zbc A tab E0 18 [true,true,true,true] 41 (ZIF n a b) []=
 some (tr [9,5] [A.le a n],
  AV.bool (A.le n b),none):=by kernel_rfl
theorem ZGn(A:Ar)(n a b:Int):Zbc A tab E0 18 [false,false,false,false] 41 (ZIF n a b) []=
 some (tr [9,5] [!A.le a n],
  AV.bool false,none):=by kernel_rfl
def ZCL(n a b:Int):AFrame:={ fn:=82,N:=15,env:=[(0,AV.int .i64 n),(1,AV.int .i64 a),(2,AV.int .i64 b)],todo:=[.code a82.code],defs:=[],rnd:=none,ret:=false,res:=[ARes.tmp 6] }
def ZIC(n a b:Int):List AFrame:=[(ZCL n a b)]
theorem Zyc(n a b:Int):ZaB tab 82 [AV.int .i64 n,AV.int .i64 a,AV.int .i64 b]=some (ZCL n a b):=rfl
theorem ZGk(A:Ar)(n a b:Int):Zbc A tab E0 18 [true,true,true,true] 82 (ZIC n a b) []=
 some (tr [9,5] [A.le a n],
  AV.bool (A.le n b),none):=by kernel_rfl
theorem ZFW(A:Ar)(n a b:Int):Zbc A tab E0 18 [false,false,false,false] 82 (ZIC n a b) []=
 some (tr [9,5] [!A.le a n],
  AV.bool false,none):=by kernel_rfl
def ZCQ(b:Bool)(e:Int):AFrame:={ fn:=68,N:=7,env:=[(0,AV.bool b),(1,AV.int .i64 e)],todo:=[.code a68.code],defs:=[],rnd:=none,ret:=false,res:=[ARes.tmp 4] }
def ZHp(b:Bool)(e:Int):List AFrame:=[(ZCQ b e)]
theorem Zzc(b:Bool)(e:Int):ZaB tab 68 [AV.bool b,AV.int .i64 e]=some (ZCQ b e):=rfl
theorem ZCF(A:Ar)(b:Bool)(e:Int):Zbc A tab E0 15 [true] 68 (ZHp b e) []=
 some (tr [2,2] [b],
  AV.int .i64 0,none):=by kernel_rfl
theorem ZAu(A:Ar)(b:Bool)(e:Int):Zbc A tab E0 17 [false] 68 (ZHp b e) []=
 some (tr [3,2] [!b],
  AV.int .i64 e,none):=by kernel_rfl
def ZDZ(xs:List Int):AFrame:={ fn:=67,N:=15,env:=[(0,AV.list (.ints .i64 xs))],todo:=[.code a67.code],defs:=[],rnd:=none,ret:=false,res:=[ARes.tmp 2] }
def ZJh(xs:List Int):List AFrame:=[(ZDZ xs)]
theorem ZzA(xs:List Int):ZaB tab 67 [AV.list (.ints .i64 xs)]=some (ZDZ xs):=rfl
def Zd4(xs:List Int)(n0 n1:Int):List AFrame:=[{ fn:=67,N:=15,env:=[(5,AV.list (.ints .i64 xs)),(6,AV.int .i64 n0),(7,AV.int .i64 n1)],todo:=.code (ACode.gh [] ZCo)::ZGE,defs:=[],rnd:=none,ret:=false,res:=[ARes.tmp 2] }]
def Zda(xs:List Int)(n0 n1:Int):Zaa:=[]
abbrev ZkP(xs:List Int)(n0 n1:Int):List AFrame×Zaa:=(Zd4 xs n0 n1,Zda xs n0 n1)
theorem ZFO(A:Ar)(xs:List Int):ZaH A tab E0 14 [] (ZJh xs) []=
 some (tr [4] [],
  ZkP (xs) (A.int (A.len xs)) (0)):=by kernel_rfl
theorem ZF7(A:Ar)(xs:List Int)(n0 n1:Int):Zbc A tab E0 28 [true,true] 67 (Zd4 xs n0 n1) (Zda xs n0 n1)=
 some (tr [3,4,0,1] [A.not (A.eq (A.nth xs (A.nat n1)) 0),Zae (Zae (A.le 0 n1) (Nat.blt (A.nat n1) (A.len xs))) true,A.lt n1 n0],
  AV.int .i64 (A.nth xs (A.nat n1)),none):=by kernel_rfl
theorem ZFx(A:Ar)(xs:List Int)(n0 n1:Int):ZaH A tab E0 30 [true,false] (Zd4 xs n0 n1) (Zda xs n0 n1)=
 some (tr [1,0,4,0,1] [A.inR .i64 (A.add n1 1),!A.not (A.eq (A.nth xs (A.nat n1)) 0),Zae (Zae (A.le 0 n1) (Nat.blt (A.nat n1) (A.len xs))) true,A.lt n1 n0],
  ZkP (xs) (n0) (A.add n1 1)):=by kernel_rfl
theorem ZGU(A:Ar)(xs:List Int)(n0 n1:Int):Zbc A tab E0 13 [false] 67 (Zd4 xs n0 n1) (Zda xs n0 n1)=
 some (tr [2,1] [!A.lt n1 n0],
  AV.int .i64 0,none):=by kernel_rfl
def Zu4(xs:List AV)(s:List UInt8):AFrame:={ fn:=151,N:=18,env:=[(0,AV.list (Row.big .str xs)),(1,AV.str s)],todo:=[.code a151.code],defs:=[],rnd:=none,ret:=false,res:=[ARes.tmp 4] }
def ZGI(xs:List AV)(s:List UInt8):List AFrame:=[(Zu4 xs s)]
theorem Zux(xs:List AV)(s:List UInt8):ZaB tab 151 [AV.list (Row.big .str xs),AV.str s]=some (Zu4 xs s):=rfl
def Zcz(xs:List AV)(s:List UInt8)(n0:Int):List AFrame:=[{ fn:=151,N:=18,env:=[(0,AV.list (Row.big .str xs)),(1,AV.str s),(5,AV.int .i64 n0)],todo:=.code (ACode.gh [] ZrY)::Zv6,defs:=[],rnd:=none,ret:=false,res:=[ARes.tmp 4] }]
def Zb8(xs:List AV)(s:List UInt8)(n0:Int):Zaa:=[]
abbrev Zhz(xs:List AV)(s:List UInt8)(n0:Int):List AFrame×Zaa:=(Zcz xs s n0,Zb8 xs s n0)
theorem ZD4(A:Ar)(xs:List AV)(s:List UInt8):ZaH A tab E0 12 [] (ZGI xs s) []=
 some (tr [2] [],
  Zhz (xs) (s) (0)):=by kernel_rfl
theorem ZEP(A:Ar)(xs:List AV)(s:List UInt8)(n0:Int):Zbc A tab E0 28 [true,true] 151 (Zcz xs s n0) (Zb8 xs s n0)=
 some (tr [2,3,2,4] [A.eqS (AV.toS (A.nthA xs (A.nat n0))) s,Zae (Zae (A.le 0 n0) (Nat.blt (A.nat n0) (A.lenA xs))) true,A.lt n0 (A.int (A.lenA xs))],
  AV.bool true,none):=by kernel_rfl
theorem ZEG(A:Ar)(xs:List AV)(s:List UInt8)(n0:Int):ZaH A tab E0 32 [true,false] (Zcz xs s n0) (Zb8 xs s n0)=
 some (tr [1,1,3,2,4] [A.inR .i64 (A.add n0 1),!A.eqS (AV.toS (A.nthA xs (A.nat n0))) s,Zae (Zae (A.le 0 n0) (Nat.blt (A.nat n0) (A.lenA xs))) true,A.lt n0 (A.int (A.lenA xs))],
  Zhz (xs) (s) (A.add n0 1)):=by kernel_rfl
theorem ZCX(A:Ar)(xs:List AV)(s:List UInt8)(n0:Int):Zbc A tab E0 16 [false] 151 (Zcz xs s n0) (Zb8 xs s n0)=
 some (tr [2,4] [!A.lt n0 (A.int (A.lenA xs))],
  AV.bool false,none):=by kernel_rfl
def Zvt(s:List UInt8):AFrame:={ fn:=150,N:=55,env:=[(0,AV.str s)],todo:=[.code a150.code],defs:=[],rnd:=none,ret:=false,res:=[ARes.tmp 2] }
def ZzD(s:List UInt8):List AFrame:=[(Zvt s)]
theorem ZtG(s:List UInt8):ZaB tab 150 [AV.str s]=some (Zvt s):=rfl
def Zaq(s:List UInt8)(n0:Int):List AFrame:=[{ fn:=150,N:=55,env:=[(0,AV.str s),(3,AV.int .i64 n0)],todo:=.code (ACode.gh [] ZvU)::ZB4,defs:=[],rnd:=none,ret:=false,res:=[ARes.tmp 2] }]
def Zam(s:List UInt8)(n0:Int):Zaa:=[]
abbrev ZaO(s:List UInt8)(n0:Int):List AFrame×Zaa:=(Zaq s n0,Zam s n0)
theorem ZDK(A:Ar)(s:List UInt8):Zbc A tab E0 23 [true,true,true,true,true] 150 (ZzD s) []=
 some (tr [10,5] [A.lt (A.int (A.lenS s)) 1],
  AV.bool false,none):=by kernel_rfl
theorem ZAm(A:Ar)(s:List UInt8):Zbc A tab E0 23 [false,false,false,false,true] 150 (ZzD s) []=
 some (tr [2,7,5] [A.lt 12 (A.int (A.lenS s)),!A.lt (A.int (A.lenS s)) 1],
  AV.bool false,none):=by kernel_rfl
theorem ZAU(A:Ar)(s:List UInt8):ZaH A tab E0 27 [false,false,false,false,false] (ZzD s) []=
 some (tr [1,7,5] [!A.lt 12 (A.int (A.lenS s)),!A.lt (A.int (A.lenS s)) 1],
  ZaO (s) (0)):=by kernel_rfl
theorem ZEW(A:Ar)(s:List UInt8)(n0:Int):ZaH A tab E0 71 [true,true,true,true,true,true,true,true,true,false,false,false,false,false,false] (Zaq s n0) (Zam s n0)=
 some (tr [1,21,15,6,4,2,4] [A.inR .i64 (A.add n0 1),!A.not true,A.le (A.nthS s (A.nat n0)) 122,A.le 97 (A.nthS s (A.nat n0)),Zae (A.le 0 n0) (Nat.blt (A.nat n0) (A.lenS s)),A.lt n0 (A.int (A.lenS s))],
  ZaO (s) (A.add n0 1)):=by kernel_rfl
theorem ZEZ(A:Ar)(s:List UInt8)(n0:Int):Zbc A tab E0 67 [true,true,true,true,false,false,false,true,true,false,true,false,true,true,true,true,true,true,true,true,true,true,true] 150 (Zaq s n0) (Zam s n0)=
 some (tr [21,5,12,5,6,4,2,4] [A.eq n0 0,A.not (A.le (A.nthS s (A.nat n0)) 90),A.le 65 (A.nthS s (A.nat n0)),!A.le (A.nthS s (A.nat n0)) 122,A.le 97 (A.nthS s (A.nat n0)),Zae (A.le 0 n0) (Nat.blt (A.nat n0) (A.lenS s)),A.lt n0 (A.int (A.lenS s))],
  AV.bool false,none):=by kernel_rfl
theorem ZBo(A:Ar)(s:List UInt8)(n0:Int):Zbc A tab E0 67 [true,true,true,true,false,false,false,true,true,false,true,false,true,true,true,false,false,false,true,true,true,true,true,true,true,false,true,true,false,true,true] 150 (Zaq s n0) (Zam s n0)=
 some (tr [17,5,5,5,12,5,6,4,2,4] [A.lt (A.nthS s (A.nat n0)) 48,A.not (A.eq (A.nthS s (A.nat n0)) 45),!A.eq n0 0,A.not (A.le (A.nthS s (A.nat n0)) 90),A.le 65 (A.nthS s (A.nat n0)),!A.le (A.nthS s (A.nat n0)) 122,A.le 97 (A.nthS s (A.nat n0)),Zae (A.le 0 n0) (Nat.blt (A.nat n0) (A.lenS s)),A.lt n0 (A.int (A.lenS s))],
  AV.bool false,none):=by kernel_rfl
theorem ZED(A:Ar)(s:List UInt8)(n0:Int):Zbc A tab E0 67 [true,true,true,true,false,false,false,true,true,false,true,false,true,true,true,false,false,false,true,true,true,false,false,true,false,false,true,true,false,true,true] 150 (Zaq s n0) (Zam s n0)=
 some (tr [2,14,5,5,5,12,5,6,4,2,4] [A.lt 57 (A.nthS s (A.nat n0)),!A.lt (A.nthS s (A.nat n0)) 48,A.not (A.eq (A.nthS s (A.nat n0)) 45),!A.eq n0 0,A.not (A.le (A.nthS s (A.nat n0)) 90),A.le 65 (A.nthS s (A.nat n0)),!A.le (A.nthS s (A.nat n0)) 122,A.le 97 (A.nthS s (A.nat n0)),Zae (A.le 0 n0) (Nat.blt (A.nat n0) (A.lenS s)),A.lt n0 (A.int (A.lenS s))],
  AV.bool false,none):=by kernel_rfl
theorem ZCq(A:Ar)(s:List UInt8)(n0:Int):ZaH A tab E0 71 [true,true,true,true,false,false,false,true,true,false,true,false,true,true,true,false,false,false,true,true,true,false,false,true,false,false,true,true,false,true,false] (Zaq s n0) (Zam s n0)=
 some (tr [1,1,14,5,5,5,12,5,6,4,2,4] [A.inR .i64 (A.add n0 1),!A.lt 57 (A.nthS s (A.nat n0)),!A.lt (A.nthS s (A.nat n0)) 48,A.not (A.eq (A.nthS s (A.nat n0)) 45),!A.eq n0 0,A.not (A.le (A.nthS s (A.nat n0)) 90),A.le 65 (A.nthS s (A.nat n0)),!A.le (A.nthS s (A.nat n0)) 122,A.le 97 (A.nthS s (A.nat n0)),Zae (A.le 0 n0) (Nat.blt (A.nat n0) (A.lenS s)),A.lt n0 (A.int (A.lenS s))],
  ZaO (s) (A.add n0 1)):=by kernel_rfl
theorem ZD3(A:Ar)(s:List UInt8)(n0:Int):ZaH A tab E0 71 [true,true,true,true,false,false,false,true,true,false,true,false,true,true,true,false,false,false,false,false,false,false,false,false,true,false,true,false] (Zaq s n0) (Zam s n0)=
 some (tr [1,19,5,5,12,5,6,4,2,4] [A.inR .i64 (A.add n0 1),!A.not (A.eq (A.nthS s (A.nat n0)) 45),!A.eq n0 0,A.not (A.le (A.nthS s (A.nat n0)) 90),A.le 65 (A.nthS s (A.nat n0)),!A.le (A.nthS s (A.nat n0)) 122,A.le 97 (A.nthS s (A.nat n0)),Zae (A.le 0 n0) (Nat.blt (A.nat n0) (A.lenS s)),A.lt n0 (A.int (A.lenS s))],
  ZaO (s) (A.add n0 1)):=by kernel_rfl
theorem ZA5(A:Ar)(s:List UInt8)(n0:Int):ZaH A tab E0 71 [true,true,true,true,false,false,false,true,true,false,true,false,false,false,false,false,false,false] (Zaq s n0) (Zam s n0)=
 some (tr [1,21,12,5,6,4,2,4] [A.inR .i64 (A.add n0 1),!A.not (A.le (A.nthS s (A.nat n0)) 90),A.le 65 (A.nthS s (A.nat n0)),!A.le (A.nthS s (A.nat n0)) 122,A.le 97 (A.nthS s (A.nat n0)),Zae (A.le 0 n0) (Nat.blt (A.nat n0) (A.lenS s)),A.lt n0 (A.int (A.lenS s))],
  ZaO (s) (A.add n0 1)):=by kernel_rfl
theorem ZwX(A:Ar)(s:List UInt8)(n0:Int):Zbc A tab E0 67 [true,true,true,true,false,false,false,false,false,false,false,false,true,true,true,true,true,true,true,true,true,true,true] 150 (Zaq s n0) (Zam s n0)=
 some (tr [21,5,12,5,6,4,2,4] [A.eq n0 0,A.not false,!A.le 65 (A.nthS s (A.nat n0)),!A.le (A.nthS s (A.nat n0)) 122,A.le 97 (A.nthS s (A.nat n0)),Zae (A.le 0 n0) (Nat.blt (A.nat n0) (A.lenS s)),A.lt n0 (A.int (A.lenS s))],
  AV.bool false,none):=by kernel_rfl
theorem ZxN(A:Ar)(s:List UInt8)(n0:Int):Zbc A tab E0 67 [true,true,true,true,false,false,false,false,false,false,false,false,true,true,true,false,false,false,true,true,true,true,true,true,true,false,true,true,false,true,true] 150 (Zaq s n0) (Zam s n0)=
 some (tr [17,5,5,5,12,5,6,4,2,4] [A.lt (A.nthS s (A.nat n0)) 48,A.not (A.eq (A.nthS s (A.nat n0)) 45),!A.eq n0 0,A.not false,!A.le 65 (A.nthS s (A.nat n0)),!A.le (A.nthS s (A.nat n0)) 122,A.le 97 (A.nthS s (A.nat n0)),Zae (A.le 0 n0) (Nat.blt (A.nat n0) (A.lenS s)),A.lt n0 (A.int (A.lenS s))],
  AV.bool false,none):=by kernel_rfl
theorem ZwQ(A:Ar)(s:List UInt8)(n0:Int):Zbc A tab E0 67 [true,true,true,true,false,false,false,false,false,false,false,false,true,true,true,false,false,false,true,true,true,false,false,true,false,false,true,true,false,true,true] 150 (Zaq s n0) (Zam s n0)=
 some (tr [2,14,5,5,5,12,5,6,4,2,4] [A.lt 57 (A.nthS s (A.nat n0)),!A.lt (A.nthS s (A.nat n0)) 48,A.not (A.eq (A.nthS s (A.nat n0)) 45),!A.eq n0 0,A.not false,!A.le 65 (A.nthS s (A.nat n0)),!A.le (A.nthS s (A.nat n0)) 122,A.le 97 (A.nthS s (A.nat n0)),Zae (A.le 0 n0) (Nat.blt (A.nat n0) (A.lenS s)),A.lt n0 (A.int (A.lenS s))],
  AV.bool false,none):=by kernel_rfl
theorem ZzY(A:Ar)(s:List UInt8)(n0:Int):ZaH A tab E0 71 [true,true,true,true,false,false,false,false,false,false,false,false,true,true,true,false,false,false,true,true,true,false,false,true,false,false,true,true,false,true,false] (Zaq s n0) (Zam s n0)=
 some (tr [1,1,14,5,5,5,12,5,6,4,2,4] [A.inR .i64 (A.add n0 1),!A.lt 57 (A.nthS s (A.nat n0)),!A.lt (A.nthS s (A.nat n0)) 48,A.not (A.eq (A.nthS s (A.nat n0)) 45),!A.eq n0 0,A.not false,!A.le 65 (A.nthS s (A.nat n0)),!A.le (A.nthS s (A.nat n0)) 122,A.le 97 (A.nthS s (A.nat n0)),Zae (A.le 0 n0) (Nat.blt (A.nat n0) (A.lenS s)),A.lt n0 (A.int (A.lenS s))],
  ZaO (s) (A.add n0 1)):=by kernel_rfl
theorem Zw9(A:Ar)(s:List UInt8)(n0:Int):ZaH A tab E0 71 [true,true,true,true,false,false,false,false,false,false,false,false,true,true,true,false,false,false,false,false,false,false,false,false,true,false,true,false] (Zaq s n0) (Zam s n0)=
 some (tr [1,19,5,5,12,5,6,4,2,4] [A.inR .i64 (A.add n0 1),!A.not (A.eq (A.nthS s (A.nat n0)) 45),!A.eq n0 0,A.not false,!A.le 65 (A.nthS s (A.nat n0)),!A.le (A.nthS s (A.nat n0)) 122,A.le 97 (A.nthS s (A.nat n0)),Zae (A.le 0 n0) (Nat.blt (A.nat n0) (A.lenS s)),A.lt n0 (A.int (A.lenS s))],
  ZaO (s) (A.add n0 1)):=by kernel_rfl
theorem ZzN(A:Ar)(s:List UInt8)(n0:Int):Zbc A tab E0 67 [true,false,false,false,false,false,false,true,true,false,true,false,true,true,true,true,true,true,true,true,true,true,true] 150 (Zaq s n0) (Zam s n0)=
 some (tr [21,5,12,12,4,2,4] [A.eq n0 0,A.not (A.le (A.nthS s (A.nat n0)) 90),A.le 65 (A.nthS s (A.nat n0)),!A.le 97 (A.nthS s (A.nat n0)),Zae (A.le 0 n0) (Nat.blt (A.nat n0) (A.lenS s)),A.lt n0 (A.int (A.lenS s))],
  AV.bool false,none):=by kernel_rfl
theorem ZwZ(A:Ar)(s:List UInt8)(n0:Int):Zbc A tab E0 67 [true,false,false,false,false,false,false,true,true,false,true,false,true,true,true,false,false,false,true,true,true,true,true,true,true,false,true,true,false,true,true] 150 (Zaq s n0) (Zam s n0)=
 some (tr [17,5,5,5,12,12,4,2,4] [A.lt (A.nthS s (A.nat n0)) 48,A.not (A.eq (A.nthS s (A.nat n0)) 45),!A.eq n0 0,A.not (A.le (A.nthS s (A.nat n0)) 90),A.le 65 (A.nthS s (A.nat n0)),!A.le 97 (A.nthS s (A.nat n0)),Zae (A.le 0 n0) (Nat.blt (A.nat n0) (A.lenS s)),A.lt n0 (A.int (A.lenS s))],
  AV.bool false,none):=by kernel_rfl
theorem Zy5(A:Ar)(s:List UInt8)(n0:Int):Zbc A tab E0 67 [true,false,false,false,false,false,false,true,true,false,true,false,true,true,true,false,false,false,true,true,true,false,false,true,false,false,true,true,false,true,true] 150 (Zaq s n0) (Zam s n0)=
 some (tr [2,14,5,5,5,12,12,4,2,4] [A.lt 57 (A.nthS s (A.nat n0)),!A.lt (A.nthS s (A.nat n0)) 48,A.not (A.eq (A.nthS s (A.nat n0)) 45),!A.eq n0 0,A.not (A.le (A.nthS s (A.nat n0)) 90),A.le 65 (A.nthS s (A.nat n0)),!A.le 97 (A.nthS s (A.nat n0)),Zae (A.le 0 n0) (Nat.blt (A.nat n0) (A.lenS s)),A.lt n0 (A.int (A.lenS s))],
  AV.bool false,none):=by kernel_rfl
theorem Zw2(A:Ar)(s:List UInt8)(n0:Int):ZaH A tab E0 71 [true,false,false,false,false,false,false,true,true,false,true,false,true,true,true,false,false,false,true,true,true,false,false,true,false,false,true,true,false,true,false] (Zaq s n0) (Zam s n0)=
 some (tr [1,1,14,5,5,5,12,12,4,2,4] [A.inR .i64 (A.add n0 1),!A.lt 57 (A.nthS s (A.nat n0)),!A.lt (A.nthS s (A.nat n0)) 48,A.not (A.eq (A.nthS s (A.nat n0)) 45),!A.eq n0 0,A.not (A.le (A.nthS s (A.nat n0)) 90),A.le 65 (A.nthS s (A.nat n0)),!A.le 97 (A.nthS s (A.nat n0)),Zae (A.le 0 n0) (Nat.blt (A.nat n0) (A.lenS s)),A.lt n0 (A.int (A.lenS s))],
  ZaO (s) (A.add n0 1)):=by kernel_rfl
theorem ZxQ(A:Ar)(s:List UInt8)(n0:Int):ZaH A tab E0 71 [true,false,false,false,false,false,false,true,true,false,true,false,true,true,true,false,false,false,false,false,false,false,false,false,true,false,true,false] (Zaq s n0) (Zam s n0)=
 some (tr [1,19,5,5,12,12,4,2,4] [A.inR .i64 (A.add n0 1),!A.not (A.eq (A.nthS s (A.nat n0)) 45),!A.eq n0 0,A.not (A.le (A.nthS s (A.nat n0)) 90),A.le 65 (A.nthS s (A.nat n0)),!A.le 97 (A.nthS s (A.nat n0)),Zae (A.le 0 n0) (Nat.blt (A.nat n0) (A.lenS s)),A.lt n0 (A.int (A.lenS s))],
  ZaO (s) (A.add n0 1)):=by kernel_rfl
theorem ZwF(A:Ar)(s:List UInt8)(n0:Int):ZaH A tab E0 71 [true,false,false,false,false,false,false,true,true,false,true,false,false,false,false,false,false,false] (Zaq s n0) (Zam s n0)=
 some (tr [1,21,12,12,4,2,4] [A.inR .i64 (A.add n0 1),!A.not (A.le (A.nthS s (A.nat n0)) 90),A.le 65 (A.nthS s (A.nat n0)),!A.le 97 (A.nthS s (A.nat n0)),Zae (A.le 0 n0) (Nat.blt (A.nat n0) (A.lenS s)),A.lt n0 (A.int (A.lenS s))],
  ZaO (s) (A.add n0 1)):=by kernel_rfl
theorem ZwI(A:Ar)(s:List UInt8)(n0:Int):Zbc A tab E0 67 [true,false,false,false,false,false,false,false,false,false,false,false,true,true,true,true,true,true,true,true,true,true,true] 150 (Zaq s n0) (Zam s n0)=
 some (tr [21,5,12,12,4,2,4] [A.eq n0 0,A.not false,!A.le 65 (A.nthS s (A.nat n0)),!A.le 97 (A.nthS s (A.nat n0)),Zae (A.le 0 n0) (Nat.blt (A.nat n0) (A.lenS s)),A.lt n0 (A.int (A.lenS s))],
  AV.bool false,none):=by kernel_rfl
theorem Zxz(A:Ar)(s:List UInt8)(n0:Int):Zbc A tab E0 67 [true,false,false,false,false,false,false,false,false,false,false,false,true,true,true,false,false,false,true,true,true,true,true,true,true,false,true,true,false,true,true] 150 (Zaq s n0) (Zam s n0)=
 some (tr [17,5,5,5,12,12,4,2,4] [A.lt (A.nthS s (A.nat n0)) 48,A.not (A.eq (A.nthS s (A.nat n0)) 45),!A.eq n0 0,A.not false,!A.le 65 (A.nthS s (A.nat n0)),!A.le 97 (A.nthS s (A.nat n0)),Zae (A.le 0 n0) (Nat.blt (A.nat n0) (A.lenS s)),A.lt n0 (A.int (A.lenS s))],
  AV.bool false,none):=by kernel_rfl
theorem Zxb(A:Ar)(s:List UInt8)(n0:Int):Zbc A tab E0 67 [true,false,false,false,false,false,false,false,false,false,false,false,true,true,true,false,false,false,true,true,true,false,false,true,false,false,true,true,false,true,true] 150 (Zaq s n0) (Zam s n0)=
 some (tr [2,14,5,5,5,12,12,4,2,4] [A.lt 57 (A.nthS s (A.nat n0)),!A.lt (A.nthS s (A.nat n0)) 48,A.not (A.eq (A.nthS s (A.nat n0)) 45),!A.eq n0 0,A.not false,!A.le 65 (A.nthS s (A.nat n0)),!A.le 97 (A.nthS s (A.nat n0)),Zae (A.le 0 n0) (Nat.blt (A.nat n0) (A.lenS s)),A.lt n0 (A.int (A.lenS s))],
  AV.bool false,none):=by kernel_rfl
theorem ZwY(A:Ar)(s:List UInt8)(n0:Int):ZaH A tab E0 71 [true,false,false,false,false,false,false,false,false,false,false,false,true,true,true,false,false,false,true,true,true,false,false,true,false,false,true,true,false,true,false] (Zaq s n0) (Zam s n0)=
 some (tr [1,1,14,5,5,5,12,12,4,2,4] [A.inR .i64 (A.add n0 1),!A.lt 57 (A.nthS s (A.nat n0)),!A.lt (A.nthS s (A.nat n0)) 48,A.not (A.eq (A.nthS s (A.nat n0)) 45),!A.eq n0 0,A.not false,!A.le 65 (A.nthS s (A.nat n0)),!A.le 97 (A.nthS s (A.nat n0)),Zae (A.le 0 n0) (Nat.blt (A.nat n0) (A.lenS s)),A.lt n0 (A.int (A.lenS s))],
  ZaO (s) (A.add n0 1)):=by kernel_rfl
theorem ZzU(A:Ar)(s:List UInt8)(n0:Int):ZaH A tab E0 71 [true,false,false,false,false,false,false,false,false,false,false,false,true,true,true,false,false,false,false,false,false,false,false,false,true,false,true,false] (Zaq s n0) (Zam s n0)=
 some (tr [1,19,5,5,12,12,4,2,4] [A.inR .i64 (A.add n0 1),!A.not (A.eq (A.nthS s (A.nat n0)) 45),!A.eq n0 0,A.not false,!A.le 65 (A.nthS s (A.nat n0)),!A.le 97 (A.nthS s (A.nat n0)),Zae (A.le 0 n0) (Nat.blt (A.nat n0) (A.lenS s)),A.lt n0 (A.int (A.lenS s))],
  ZaO (s) (A.add n0 1)):=by kernel_rfl
theorem Zyj(A:Ar)(s:List UInt8)(n0:Int):Zbc A tab E0 16 [false] 150 (Zaq s n0) (Zam s n0)=
 some (tr [2,4] [!A.lt n0 (A.int (A.lenS s))],
  AV.bool true,none):=by kernel_rfl
def Zv1(s:List UInt8):AFrame:={ fn:=182,N:=54,env:=[(0,AV.str s)],todo:=[.code a182.code],defs:=[],rnd:=none,ret:=false,res:=[ARes.tmp 2] }
def ZGi(s:List UInt8):List AFrame:=[(Zv1 s)]
theorem ZuQ(s:List UInt8):ZaB tab 182 [AV.str s]=some (Zv1 s):=rfl
def Zap(s:List UInt8)(l0:List Int)(n1 n2:Int):List AFrame:=[{ fn:=182,N:=54,env:=[(0,AV.str s),(7,AV.list (.ints .u8 l0)),(8,AV.int .i64 n1),(9,AV.int .i64 n2)],todo:=.code (ACode.gh [] ZvA)::ZCv,defs:=[],rnd:=none,ret:=false,res:=[ARes.tmp 2] }]
def Zak(s:List UInt8)(l0:List Int)(n1 n2:Int):Zaa:=[]
abbrev ZaN(s:List UInt8)(l0:List Int)(n1 n2:Int):List AFrame×Zaa:=(Zap s l0 n1 n2,Zak s l0 n1 n2)
theorem ZB6(A:Ar)(s:List UInt8):ZaH A tab E0 15 [] (ZGi s) []=
 some (tr [2,2] [Nat.ble (A.lenS s) 4294967296],
  ZaN (s) (A.byt s) (A.int (A.len (A.byt s))) (0)):=by kernel_rfl
theorem ZDx(A:Ar)(s:List UInt8)(l0:List Int)(n1 n2:Int):ZaH A tab E0 68 [true,true,true,true,true,true,true,true,true,false,false,false,false,false,false] (Zap s l0 n1 n2) (Zak s l0 n1 n2)=
 some (tr [1,20,15,6,6,1,1] [A.inR .i64 (A.add n2 1),!A.not true,A.le (A.nth l0 (A.nat n2)) 122,A.le 97 (A.nth l0 (A.nat n2)),Zae (Zae (A.le 0 n2) (Nat.blt (A.nat n2) (A.len l0))) true,A.lt n2 n1],
  ZaN (s) (l0) (n1) (A.add n2 1)):=by kernel_rfl
theorem ZAA(A:Ar)(s:List UInt8)(l0:List Int)(n1 n2:Int):Zbc A tab E0 65 [true,true,true,true,false,false,false,true,true,false,true,false,true,true,true,true,true,true,true,true,true,true,true] 182 (Zap s l0 n1 n2) (Zak s l0 n1 n2)=
 some (tr [21,5,12,5,6,6,1,1] [A.eq n2 0,A.not (A.le (A.nth l0 (A.nat n2)) 90),A.le 65 (A.nth l0 (A.nat n2)),!A.le (A.nth l0 (A.nat n2)) 122,A.le 97 (A.nth l0 (A.nat n2)),Zae (Zae (A.le 0 n2) (Nat.blt (A.nat n2) (A.len l0))) true,A.lt n2 n1],
  AV.bool false,none):=by kernel_rfl
theorem ZDC(A:Ar)(s:List UInt8)(l0:List Int)(n1 n2:Int):Zbc A tab E0 65 [true,true,true,true,false,false,false,true,true,false,true,false,true,true,true,false,false,false,true,true,true,true,true,true,true,false,true,true,false,true,true] 182 (Zap s l0 n1 n2) (Zak s l0 n1 n2)=
 some (tr [17,5,5,5,12,5,6,6,1,1] [A.lt (A.nth l0 (A.nat n2)) 48,A.not (A.eq (A.nth l0 (A.nat n2)) 45),!A.eq n2 0,A.not (A.le (A.nth l0 (A.nat n2)) 90),A.le 65 (A.nth l0 (A.nat n2)),!A.le (A.nth l0 (A.nat n2)) 122,A.le 97 (A.nth l0 (A.nat n2)),Zae (Zae (A.le 0 n2) (Nat.blt (A.nat n2) (A.len l0))) true,A.lt n2 n1],
  AV.bool false,none):=by kernel_rfl
theorem ZAl(A:Ar)(s:List UInt8)(l0:List Int)(n1 n2:Int):Zbc A tab E0 65 [true,true,true,true,false,false,false,true,true,false,true,false,true,true,true,false,false,false,true,true,true,false,false,true,false,false,true,true,false,true,true] 182 (Zap s l0 n1 n2) (Zak s l0 n1 n2)=
 some (tr [2,14,5,5,5,12,5,6,6,1,1] [A.lt 57 (A.nth l0 (A.nat n2)),!A.lt (A.nth l0 (A.nat n2)) 48,A.not (A.eq (A.nth l0 (A.nat n2)) 45),!A.eq n2 0,A.not (A.le (A.nth l0 (A.nat n2)) 90),A.le 65 (A.nth l0 (A.nat n2)),!A.le (A.nth l0 (A.nat n2)) 122,A.le 97 (A.nth l0 (A.nat n2)),Zae (Zae (A.le 0 n2) (Nat.blt (A.nat n2) (A.len l0))) true,A.lt n2 n1],
  AV.bool false,none):=by kernel_rfl
theorem ZDJ(A:Ar)(s:List UInt8)(l0:List Int)(n1 n2:Int):ZaH A tab E0 68 [true,true,true,true,false,false,false,true,true,false,true,false,true,true,true,false,false,false,true,true,true,false,false,true,false,false,true,true,false,true,false] (Zap s l0 n1 n2) (Zak s l0 n1 n2)=
 some (tr [1,0,14,5,5,5,12,5,6,6,1,1] [A.inR .i64 (A.add n2 1),!A.lt 57 (A.nth l0 (A.nat n2)),!A.lt (A.nth l0 (A.nat n2)) 48,A.not (A.eq (A.nth l0 (A.nat n2)) 45),!A.eq n2 0,A.not (A.le (A.nth l0 (A.nat n2)) 90),A.le 65 (A.nth l0 (A.nat n2)),!A.le (A.nth l0 (A.nat n2)) 122,A.le 97 (A.nth l0 (A.nat n2)),Zae (Zae (A.le 0 n2) (Nat.blt (A.nat n2) (A.len l0))) true,A.lt n2 n1],
  ZaN (s) (l0) (n1) (A.add n2 1)):=by kernel_rfl
theorem ZB0(A:Ar)(s:List UInt8)(l0:List Int)(n1 n2:Int):ZaH A tab E0 68 [true,true,true,true,false,false,false,true,true,false,true,false,true,true,true,false,false,false,false,false,false,false,false,false,true,false,true,false] (Zap s l0 n1 n2) (Zak s l0 n1 n2)=
 some (tr [1,18,5,5,12,5,6,6,1,1] [A.inR .i64 (A.add n2 1),!A.not (A.eq (A.nth l0 (A.nat n2)) 45),!A.eq n2 0,A.not (A.le (A.nth l0 (A.nat n2)) 90),A.le 65 (A.nth l0 (A.nat n2)),!A.le (A.nth l0 (A.nat n2)) 122,A.le 97 (A.nth l0 (A.nat n2)),Zae (Zae (A.le 0 n2) (Nat.blt (A.nat n2) (A.len l0))) true,A.lt n2 n1],
  ZaN (s) (l0) (n1) (A.add n2 1)):=by kernel_rfl
theorem ZBu(A:Ar)(s:List UInt8)(l0:List Int)(n1 n2:Int):ZaH A tab E0 68 [true,true,true,true,false,false,false,true,true,false,true,false,false,false,false,false,false,false] (Zap s l0 n1 n2) (Zak s l0 n1 n2)=
 some (tr [1,20,12,5,6,6,1,1] [A.inR .i64 (A.add n2 1),!A.not (A.le (A.nth l0 (A.nat n2)) 90),A.le 65 (A.nth l0 (A.nat n2)),!A.le (A.nth l0 (A.nat n2)) 122,A.le 97 (A.nth l0 (A.nat n2)),Zae (Zae (A.le 0 n2) (Nat.blt (A.nat n2) (A.len l0))) true,A.lt n2 n1],
  ZaN (s) (l0) (n1) (A.add n2 1)):=by kernel_rfl
theorem ZBE(A:Ar)(s:List UInt8)(l0:List Int)(n1 n2:Int):Zbc A tab E0 65 [true,true,true,true,false,false,false,false,false,false,false,false,true,true,true,true,true,true,true,true,true,true,true] 182 (Zap s l0 n1 n2) (Zak s l0 n1 n2)=
 some (tr [21,5,12,5,6,6,1,1] [A.eq n2 0,A.not false,!A.le 65 (A.nth l0 (A.nat n2)),!A.le (A.nth l0 (A.nat n2)) 122,A.le 97 (A.nth l0 (A.nat n2)),Zae (Zae (A.le 0 n2) (Nat.blt (A.nat n2) (A.len l0))) true,A.lt n2 n1],
  AV.bool false,none):=by kernel_rfl
theorem ZEm(A:Ar)(s:List UInt8)(l0:List Int)(n1 n2:Int):Zbc A tab E0 65 [true,true,true,true,false,false,false,false,false,false,false,false,true,true,true,false,false,false,true,true,true,true,true,true,true,false,true,true,false,true,true] 182 (Zap s l0 n1 n2) (Zak s l0 n1 n2)=
 some (tr [17,5,5,5,12,5,6,6,1,1] [A.lt (A.nth l0 (A.nat n2)) 48,A.not (A.eq (A.nth l0 (A.nat n2)) 45),!A.eq n2 0,A.not false,!A.le 65 (A.nth l0 (A.nat n2)),!A.le (A.nth l0 (A.nat n2)) 122,A.le 97 (A.nth l0 (A.nat n2)),Zae (Zae (A.le 0 n2) (Nat.blt (A.nat n2) (A.len l0))) true,A.lt n2 n1],
  AV.bool false,none):=by kernel_rfl
theorem Zwy(A:Ar)(s:List UInt8)(l0:List Int)(n1 n2:Int):Zbc A tab E0 65 [true,true,true,true,false,false,false,false,false,false,false,false,true,true,true,false,false,false,true,true,true,false,false,true,false,false,true,true,false,true,true] 182 (Zap s l0 n1 n2) (Zak s l0 n1 n2)=
 some (tr [2,14,5,5,5,12,5,6,6,1,1] [A.lt 57 (A.nth l0 (A.nat n2)),!A.lt (A.nth l0 (A.nat n2)) 48,A.not (A.eq (A.nth l0 (A.nat n2)) 45),!A.eq n2 0,A.not false,!A.le 65 (A.nth l0 (A.nat n2)),!A.le (A.nth l0 (A.nat n2)) 122,A.le 97 (A.nth l0 (A.nat n2)),Zae (Zae (A.le 0 n2) (Nat.blt (A.nat n2) (A.len l0))) true,A.lt n2 n1],
  AV.bool false,none):=by kernel_rfl
theorem ZwM(A:Ar)(s:List UInt8)(l0:List Int)(n1 n2:Int):ZaH A tab E0 68 [true,true,true,true,false,false,false,false,false,false,false,false,true,true,true,false,false,false,true,true,true,false,false,true,false,false,true,true,false,true,false] (Zap s l0 n1 n2) (Zak s l0 n1 n2)=
 some (tr [1,0,14,5,5,5,12,5,6,6,1,1] [A.inR .i64 (A.add n2 1),!A.lt 57 (A.nth l0 (A.nat n2)),!A.lt (A.nth l0 (A.nat n2)) 48,A.not (A.eq (A.nth l0 (A.nat n2)) 45),!A.eq n2 0,A.not false,!A.le 65 (A.nth l0 (A.nat n2)),!A.le (A.nth l0 (A.nat n2)) 122,A.le 97 (A.nth l0 (A.nat n2)),Zae (Zae (A.le 0 n2) (Nat.blt (A.nat n2) (A.len l0))) true,A.lt n2 n1],
  ZaN (s) (l0) (n1) (A.add n2 1)):=by kernel_rfl
theorem Zyh(A:Ar)(s:List UInt8)(l0:List Int)(n1 n2:Int):ZaH A tab E0 68 [true,true,true,true,false,false,false,false,false,false,false,false,true,true,true,false,false,false,false,false,false,false,false,false,true,false,true,false] (Zap s l0 n1 n2) (Zak s l0 n1 n2)=
 some (tr [1,18,5,5,12,5,6,6,1,1] [A.inR .i64 (A.add n2 1),!A.not (A.eq (A.nth l0 (A.nat n2)) 45),!A.eq n2 0,A.not false,!A.le 65 (A.nth l0 (A.nat n2)),!A.le (A.nth l0 (A.nat n2)) 122,A.le 97 (A.nth l0 (A.nat n2)),Zae (Zae (A.le 0 n2) (Nat.blt (A.nat n2) (A.len l0))) true,A.lt n2 n1],
  ZaN (s) (l0) (n1) (A.add n2 1)):=by kernel_rfl
theorem Zzp(A:Ar)(s:List UInt8)(l0:List Int)(n1 n2:Int):Zbc A tab E0 65 [true,false,false,false,false,false,false,true,true,false,true,false,true,true,true,true,true,true,true,true,true,true,true] 182 (Zap s l0 n1 n2) (Zak s l0 n1 n2)=
 some (tr [21,5,12,12,6,1,1] [A.eq n2 0,A.not (A.le (A.nth l0 (A.nat n2)) 90),A.le 65 (A.nth l0 (A.nat n2)),!A.le 97 (A.nth l0 (A.nat n2)),Zae (Zae (A.le 0 n2) (Nat.blt (A.nat n2) (A.len l0))) true,A.lt n2 n1],
  AV.bool false,none):=by kernel_rfl
theorem ZxC(A:Ar)(s:List UInt8)(l0:List Int)(n1 n2:Int):Zbc A tab E0 65 [true,false,false,false,false,false,false,true,true,false,true,false,true,true,true,false,false,false,true,true,true,true,true,true,true,false,true,true,false,true,true] 182 (Zap s l0 n1 n2) (Zak s l0 n1 n2)=
 some (tr [17,5,5,5,12,12,6,1,1] [A.lt (A.nth l0 (A.nat n2)) 48,A.not (A.eq (A.nth l0 (A.nat n2)) 45),!A.eq n2 0,A.not (A.le (A.nth l0 (A.nat n2)) 90),A.le 65 (A.nth l0 (A.nat n2)),!A.le 97 (A.nth l0 (A.nat n2)),Zae (Zae (A.le 0 n2) (Nat.blt (A.nat n2) (A.len l0))) true,A.lt n2 n1],
  AV.bool false,none):=by kernel_rfl
theorem ZzF(A:Ar)(s:List UInt8)(l0:List Int)(n1 n2:Int):Zbc A tab E0 65 [true,false,false,false,false,false,false,true,true,false,true,false,true,true,true,false,false,false,true,true,true,false,false,true,false,false,true,true,false,true,true] 182 (Zap s l0 n1 n2) (Zak s l0 n1 n2)=
 some (tr [2,14,5,5,5,12,12,6,1,1] [A.lt 57 (A.nth l0 (A.nat n2)),!A.lt (A.nth l0 (A.nat n2)) 48,A.not (A.eq (A.nth l0 (A.nat n2)) 45),!A.eq n2 0,A.not (A.le (A.nth l0 (A.nat n2)) 90),A.le 65 (A.nth l0 (A.nat n2)),!A.le 97 (A.nth l0 (A.nat n2)),Zae (Zae (A.le 0 n2) (Nat.blt (A.nat n2) (A.len l0))) true,A.lt n2 n1],
  AV.bool false,none):=by kernel_rfl
theorem Zxn(A:Ar)(s:List UInt8)(l0:List Int)(n1 n2:Int):ZaH A tab E0 68 [true,false,false,false,false,false,false,true,true,false,true,false,true,true,true,false,false,false,true,true,true,false,false,true,false,false,true,true,false,true,false] (Zap s l0 n1 n2) (Zak s l0 n1 n2)=
 some (tr [1,0,14,5,5,5,12,12,6,1,1] [A.inR .i64 (A.add n2 1),!A.lt 57 (A.nth l0 (A.nat n2)),!A.lt (A.nth l0 (A.nat n2)) 48,A.not (A.eq (A.nth l0 (A.nat n2)) 45),!A.eq n2 0,A.not (A.le (A.nth l0 (A.nat n2)) 90),A.le 65 (A.nth l0 (A.nat n2)),!A.le 97 (A.nth l0 (A.nat n2)),Zae (Zae (A.le 0 n2) (Nat.blt (A.nat n2) (A.len l0))) true,A.lt n2 n1],
  ZaN (s) (l0) (n1) (A.add n2 1)):=by kernel_rfl
theorem Zzo(A:Ar)(s:List UInt8)(l0:List Int)(n1 n2:Int):ZaH A tab E0 68 [true,false,false,false,false,false,false,true,true,false,true,false,true,true,true,false,false,false,false,false,false,false,false,false,true,false,true,false] (Zap s l0 n1 n2) (Zak s l0 n1 n2)=
 some (tr [1,18,5,5,12,12,6,1,1] [A.inR .i64 (A.add n2 1),!A.not (A.eq (A.nth l0 (A.nat n2)) 45),!A.eq n2 0,A.not (A.le (A.nth l0 (A.nat n2)) 90),A.le 65 (A.nth l0 (A.nat n2)),!A.le 97 (A.nth l0 (A.nat n2)),Zae (Zae (A.le 0 n2) (Nat.blt (A.nat n2) (A.len l0))) true,A.lt n2 n1],
  ZaN (s) (l0) (n1) (A.add n2 1)):=by kernel_rfl
theorem ZwE(A:Ar)(s:List UInt8)(l0:List Int)(n1 n2:Int):ZaH A tab E0 68 [true,false,false,false,false,false,false,true,true,false,true,false,false,false,false,false,false,false] (Zap s l0 n1 n2) (Zak s l0 n1 n2)=
 some (tr [1,20,12,12,6,1,1] [A.inR .i64 (A.add n2 1),!A.not (A.le (A.nth l0 (A.nat n2)) 90),A.le 65 (A.nth l0 (A.nat n2)),!A.le 97 (A.nth l0 (A.nat n2)),Zae (Zae (A.le 0 n2) (Nat.blt (A.nat n2) (A.len l0))) true,A.lt n2 n1],
  ZaN (s) (l0) (n1) (A.add n2 1)):=by kernel_rfl
theorem Zxy(A:Ar)(s:List UInt8)(l0:List Int)(n1 n2:Int):Zbc A tab E0 65 [true,false,false,false,false,false,false,false,false,false,false,false,true,true,true,true,true,true,true,true,true,true,true] 182 (Zap s l0 n1 n2) (Zak s l0 n1 n2)=
 some (tr [21,5,12,12,6,1,1] [A.eq n2 0,A.not false,!A.le 65 (A.nth l0 (A.nat n2)),!A.le 97 (A.nth l0 (A.nat n2)),Zae (Zae (A.le 0 n2) (Nat.blt (A.nat n2) (A.len l0))) true,A.lt n2 n1],
  AV.bool false,none):=by kernel_rfl
theorem Zzx(A:Ar)(s:List UInt8)(l0:List Int)(n1 n2:Int):Zbc A tab E0 65 [true,false,false,false,false,false,false,false,false,false,false,false,true,true,true,false,false,false,true,true,true,true,true,true,true,false,true,true,false,true,true] 182 (Zap s l0 n1 n2) (Zak s l0 n1 n2)=
 some (tr [17,5,5,5,12,12,6,1,1] [A.lt (A.nth l0 (A.nat n2)) 48,A.not (A.eq (A.nth l0 (A.nat n2)) 45),!A.eq n2 0,A.not false,!A.le 65 (A.nth l0 (A.nat n2)),!A.le 97 (A.nth l0 (A.nat n2)),Zae (Zae (A.le 0 n2) (Nat.blt (A.nat n2) (A.len l0))) true,A.lt n2 n1],
  AV.bool false,none):=by kernel_rfl
theorem Zyy(A:Ar)(s:List UInt8)(l0:List Int)(n1 n2:Int):Zbc A tab E0 65 [true,false,false,false,false,false,false,false,false,false,false,false,true,true,true,false,false,false,true,true,true,false,false,true,false,false,true,true,false,true,true] 182 (Zap s l0 n1 n2) (Zak s l0 n1 n2)=
 some (tr [2,14,5,5,5,12,12,6,1,1] [A.lt 57 (A.nth l0 (A.nat n2)),!A.lt (A.nth l0 (A.nat n2)) 48,A.not (A.eq (A.nth l0 (A.nat n2)) 45),!A.eq n2 0,A.not false,!A.le 65 (A.nth l0 (A.nat n2)),!A.le 97 (A.nth l0 (A.nat n2)),Zae (Zae (A.le 0 n2) (Nat.blt (A.nat n2) (A.len l0))) true,A.lt n2 n1],
  AV.bool false,none):=by kernel_rfl
theorem Zxl(A:Ar)(s:List UInt8)(l0:List Int)(n1 n2:Int):ZaH A tab E0 68 [true,false,false,false,false,false,false,false,false,false,false,false,true,true,true,false,false,false,true,true,true,false,false,true,false,false,true,true,false,true,false] (Zap s l0 n1 n2) (Zak s l0 n1 n2)=
 some (tr [1,0,14,5,5,5,12,12,6,1,1] [A.inR .i64 (A.add n2 1),!A.lt 57 (A.nth l0 (A.nat n2)),!A.lt (A.nth l0 (A.nat n2)) 48,A.not (A.eq (A.nth l0 (A.nat n2)) 45),!A.eq n2 0,A.not false,!A.le 65 (A.nth l0 (A.nat n2)),!A.le 97 (A.nth l0 (A.nat n2)),Zae (Zae (A.le 0 n2) (Nat.blt (A.nat n2) (A.len l0))) true,A.lt n2 n1],
  ZaN (s) (l0) (n1) (A.add n2 1)):=by kernel_rfl
theorem ZzE(A:Ar)(s:List UInt8)(l0:List Int)(n1 n2:Int):ZaH A tab E0 68 [true,false,false,false,false,false,false,false,false,false,false,false,true,true,true,false,false,false,false,false,false,false,false,false,true,false,true,false] (Zap s l0 n1 n2) (Zak s l0 n1 n2)=
 some (tr [1,18,5,5,12,12,6,1,1] [A.inR .i64 (A.add n2 1),!A.not (A.eq (A.nth l0 (A.nat n2)) 45),!A.eq n2 0,A.not false,!A.le 65 (A.nth l0 (A.nat n2)),!A.le 97 (A.nth l0 (A.nat n2)),Zae (Zae (A.le 0 n2) (Nat.blt (A.nat n2) (A.len l0))) true,A.lt n2 n1],
  ZaN (s) (l0) (n1) (A.add n2 1)):=by kernel_rfl
theorem Zyk(A:Ar)(s:List UInt8)(l0:List Int)(n1 n2:Int):Zbc A tab E0 21 [false,true,true,true,true] 182 (Zap s l0 n1 n2) (Zak s l0 n1 n2)=
 some (tr [9,3,1] [A.not (A.eqS s []),!A.lt n2 n1],
  AV.bool (A.le (A.int (A.lenS s)) 12),none):=by kernel_rfl
theorem Zz0(A:Ar)(s:List UInt8)(l0:List Int)(n1 n2:Int):Zbc A tab E0 21 [false,false,false,false,false] 182 (Zap s l0 n1 n2) (Zak s l0 n1 n2)=
 some (tr [9,3,1] [!A.not (A.eqS s []),!A.lt n2 n1],
  AV.bool false,none):=by kernel_rfl
def Zvi(n:Int):AFrame:={ fn:=161,N:=3,env:=[(0,AV.int .i64 n)],todo:=[.code a161.code],defs:=[],rnd:=none,ret:=false,res:=[ARes.tmp 2] }
def ZGf(n:Int):List AFrame:=[(Zvi n)]
theorem Ztv(n:Int):ZaB tab 161 [AV.int .i64 n]=some (Zvi n):=rfl
theorem ZEO(A:Ar)(n:Int):Zbc A tab E0 9 [] 161 (ZGf n) []=
 some (tr [3] [],
  AV.int .i64 0,none):=by kernel_rfl
end Go.Proofs.YtkeoeooghhjibaaGreatDoor
/- Names, ranges, first errors. No condition. -/
namespace Go.Proofs.YtkeoeooghhjibaaGreatDoor
def Zan(n a b:Int):Bool:=decide (a≤n∧n≤b)
def Zad(b:Bool)(e:Int):Int:=if b=true then 0 else e
def ZyL(k:Nat)(c:Int):Bool:=decide ((97≤c∧c≤122)∨(65≤c∧c≤90)∨(k≠0∧(c=45∨(48≤c∧c≤57))))
def nmR(f:Nat→Int):Nat→Nat→Bool
 |0,_=>true
 |m+1,k=>ZyL k (f k)&&nmR f m (k+1)
def ZaS(s:List UInt8):Bool:=decide (1≤s.length∧s.length≤12)&&nmR (fun k=>((s.getD k 0).toNat:Int)) s.length 0
def Zao:List Int→Int
 |[]=>0
 |x::xs=>if x=0 then Zao xs else x
def ZjP(xs:List AV)(s:List UInt8):Bool:=xs.any fun x=>x.toS==s
theorem ZnN(n a b:Int):Zat Tryz.prog 41 [.int .i64 n, .int .i64 a, .int .i64 b] (.bool (Zan n a b)) none:=
 start (ZwG n a b) fun C hC=>by
  by_cases h:a≤n
  ·exact fin hC ZaE (ZFo std n a b) (by simp[h]) (by simp[Zan,h]) rfl
  ·exact fin hC ZaE (ZGn std n a b) (by simp;omega) (by simp[Zan,h]) rfl
theorem Zof(n a b:Int):Zat Tryz.prog 82 [.int .i64 n, .int .i64 a, .int .i64 b] (.bool (Zan n a b)) none:=
 start (Zyc n a b) fun C hC=>by
  by_cases h:a≤n
  ·exact fin hC ZaE (ZGk std n a b) (by simp[h]) (by simp[Zan,h]) rfl
  ·exact fin hC ZaE (ZFW std n a b) (by simp;omega) (by simp[Zan,h]) rfl
theorem Znz(b:Bool)(e:Int):Zat Tryz.prog 68 [.bool b, .int .i64 e] (.int .i64 (Zad b e)) none:=
 start (Zzc b e) fun C hC=>by
  cases b
  ·first
   |exact fin hC ZaE (ZCF std false e) (by simp) rfl rfl
   |exact fin hC ZaE (ZAu std false e) (by simp) rfl rfl
  ·first
   |exact fin hC ZaE (ZCF std true e) (by simp) rfl rfl
   |exact fin hC ZaE (ZAu std true e) (by simp) rfl rfl
theorem ZrL(n:Int):Zat Tryz.prog 161 [.int .i64 n] (.int .i64 0) none:=start (Ztv n) fun C hC=>fin hC ZaE (ZEO std n) (by simp) rfl rfl
theorem ZiA{C:Ctx}(hC:C.P=Tryz.prog)(s:List UInt8)(hl:s.length≤1000000):∀(m k:Nat),k+m=s.length→Ev C (Zaq s (k:Int)) (Zam s (k:Int)) (ZbH 150 (.bool (nmR (fun k=>((s.getD k 0).toNat:Int)) m k)) none)
 |0,k,hk=>fin hC ZaE (Zyj std s k) (by simp;omega) rfl rfl
 |m+1,k,hk=>by
  have nx:ZyL k (((s.getD k 0).toNat:Int))=true→Ev C (Zaq s ((k:Int)+1)) (Zam s ((k:Int)+1)) (ZbH 150 (.bool (nmR (fun k=>((s.getD k 0).toNat:Int)) (m+1) k)) none):=fun h=>by
   have:=ZiA hC s hl m (k+1) (by omega)
   simp only[nmR,h,Bool.true_and]
   exact this
  have fx:ZyL k (((s.getD k 0).toNat:Int))=false→AV.bool false=AV.bool (nmR (fun k=>((s.getD k 0).toNat:Int)) (m+1) k):=fun h=>by simp only[nmR,h,Bool.false_and]
  by_cases h1:((k:Int)<((s.length:Nat):Int))
  ·by_cases h2:(97≤((s.getD k 0).toNat:Int))
   ·by_cases h3:(((s.getD k 0).toNat:Int)≤122)
    ·exact go hC ZaE (ZEW std s (k:Int)) (by simp[-List.getD_eq_getElem?_getD]<;>omega) (nx (decide_eq_true (by omega)))
    ·by_cases h4:(65≤((s.getD k 0).toNat:Int))
     ·by_cases h5:(((s.getD k 0).toNat:Int)≤90)
      ·exact go hC ZaE (ZA5 std s (k:Int)) (by simp[-List.getD_eq_getElem?_getD]<;>omega) (nx (decide_eq_true (by omega)))
      ·by_cases h6:((k:Int)=0)
       ·exact fin hC ZaE (ZEZ std s (k:Int)) (by simp[-List.getD_eq_getElem?_getD]<;>omega) (fx (decide_eq_false (by omega))) rfl
       ·by_cases h7:(((s.getD k 0).toNat:Int)=45)
        ·exact go hC ZaE (ZD3 std s (k:Int)) (by simp[-List.getD_eq_getElem?_getD]<;>omega) (nx (decide_eq_true (by omega)))
        ·by_cases h8:(((s.getD k 0).toNat:Int)<48)
         ·exact fin hC ZaE (ZBo std s (k:Int)) (by simp[-List.getD_eq_getElem?_getD]<;>omega) (fx (decide_eq_false (by omega))) rfl
         ·by_cases h9:(57<((s.getD k 0).toNat:Int))
          ·exact fin hC ZaE (ZED std s (k:Int)) (by simp[-List.getD_eq_getElem?_getD]<;>omega) (fx (decide_eq_false (by omega))) rfl
          ·exact go hC ZaE (ZCq std s (k:Int)) (by simp[-List.getD_eq_getElem?_getD]<;>omega) (nx (decide_eq_true (by omega)))
     ·by_cases h5:((k:Int)=0)
      ·exact fin hC ZaE (ZwX std s (k:Int)) (by simp[-List.getD_eq_getElem?_getD]<;>omega) (fx (decide_eq_false (by omega))) rfl
      ·by_cases h6:(((s.getD k 0).toNat:Int)=45)
       ·exact go hC ZaE (Zw9 std s (k:Int)) (by simp[-List.getD_eq_getElem?_getD]<;>omega) (nx (decide_eq_true (by omega)))
       ·by_cases h7:(((s.getD k 0).toNat:Int)<48)
        ·exact fin hC ZaE (ZxN std s (k:Int)) (by simp[-List.getD_eq_getElem?_getD]<;>omega) (fx (decide_eq_false (by omega))) rfl
        ·by_cases h8:(57<((s.getD k 0).toNat:Int))
         ·exact fin hC ZaE (ZwQ std s (k:Int)) (by simp[-List.getD_eq_getElem?_getD]<;>omega) (fx (decide_eq_false (by omega))) rfl
         ·exact go hC ZaE (ZzY std s (k:Int)) (by simp[-List.getD_eq_getElem?_getD]<;>omega) (nx (decide_eq_true (by omega)))
   ·by_cases h3:(65≤((s.getD k 0).toNat:Int))
    ·by_cases h4:(((s.getD k 0).toNat:Int)≤90)
     ·exact go hC ZaE (ZwF std s (k:Int)) (by simp[-List.getD_eq_getElem?_getD]<;>omega) (nx (decide_eq_true (by omega)))
     ·by_cases h5:((k:Int)=0)
      ·exact fin hC ZaE (ZzN std s (k:Int)) (by simp[-List.getD_eq_getElem?_getD]<;>omega) (fx (decide_eq_false (by omega))) rfl
      ·by_cases h6:(((s.getD k 0).toNat:Int)=45)
       ·exact go hC ZaE (ZxQ std s (k:Int)) (by simp[-List.getD_eq_getElem?_getD]<;>omega) (nx (decide_eq_true (by omega)))
       ·by_cases h7:(((s.getD k 0).toNat:Int)<48)
        ·exact fin hC ZaE (ZwZ std s (k:Int)) (by simp[-List.getD_eq_getElem?_getD]<;>omega) (fx (decide_eq_false (by omega))) rfl
        ·by_cases h8:(57<((s.getD k 0).toNat:Int))
         ·exact fin hC ZaE (Zy5 std s (k:Int)) (by simp[-List.getD_eq_getElem?_getD]<;>omega) (fx (decide_eq_false (by omega))) rfl
         ·exact go hC ZaE (Zw2 std s (k:Int)) (by simp[-List.getD_eq_getElem?_getD]<;>omega) (nx (decide_eq_true (by omega)))
    ·by_cases h4:((k:Int)=0)
     ·exact fin hC ZaE (ZwI std s (k:Int)) (by simp[-List.getD_eq_getElem?_getD]<;>omega) (fx (decide_eq_false (by omega))) rfl
     ·by_cases h5:(((s.getD k 0).toNat:Int)=45)
      ·exact go hC ZaE (ZzU std s (k:Int)) (by simp[-List.getD_eq_getElem?_getD]<;>omega) (nx (decide_eq_true (by omega)))
      ·by_cases h6:(((s.getD k 0).toNat:Int)<48)
       ·exact fin hC ZaE (Zxz std s (k:Int)) (by simp[-List.getD_eq_getElem?_getD]<;>omega) (fx (decide_eq_false (by omega))) rfl
       ·by_cases h7:(57<((s.getD k 0).toNat:Int))
        ·exact fin hC ZaE (Zxb std s (k:Int)) (by simp[-List.getD_eq_getElem?_getD]<;>omega) (fx (decide_eq_false (by omega))) rfl
        ·exact go hC ZaE (ZwY std s (k:Int)) (by simp[-List.getD_eq_getElem?_getD]<;>omega) (nx (decide_eq_true (by omega)))
  ·omega
theorem Zr4(s:List UInt8)(hl:s.length≤1000000):Zat Tryz.prog 150 [.str s] (.bool (ZaS s)) none:=
 start (ZtG s) fun C hC=>by
  by_cases h1:((s.length:Int)<1)
  ·exact fin hC ZaE (ZDK std s) (by simp;omega) (by simp[ZaS];omega) rfl
  ·by_cases h2:(12<(s.length:Int))
   ·exact fin hC ZaE (ZAm std s) (by simp;omega) (by simp[ZaS];omega) rfl
   ·refine go hC ZaE (ZAU std s) (by simp;omega) ?_
    have:=ZiA hC s hl s.length 0 (by omega)
    have e:decide (1≤s.length∧s.length≤12)=true:=by simp;omega
    simp only[ZaS,e,Bool.true_and]
    exact this
theorem ZiZ{C:Ctx}(hC:C.P=Tryz.prog)(s:List UInt8)(l0:List Int)(hl:l0.length≤4294967296):∀(m k:Nat),k+m=l0.length→Ev C (Zap s l0 (l0.length:Int) (k:Int)) (Zak s l0 (l0.length:Int) (k:Int)) (ZbH 182 (.bool (decide (1≤s.length∧s.length≤12)&&nmR (fun k=>l0.getD k 0) m k)) none)
 |0,k,hk=>by
  by_cases h2:s=[]
  ·exact fin hC ZaE (Zz0 std s l0 l0.length k) (by simp[h2];omega) (by simp[h2]) rfl
  ·have h3:0<s.length:=List.length_pos_iff.2 h2
   exact fin hC ZaE (Zyk std s l0 l0.length k) (by simp[h2];omega) (by simp only[nmR,Bool.and_true];congr 1;rw[Bool.eq_iff_iff];simp;omega) rfl
 |m+1,k,hk=>by
  have nx:ZyL k (l0.getD k 0)=true→Ev C (Zap s l0 (l0.length:Int) ((k:Int)+1)) (Zak s l0 (l0.length:Int) ((k:Int)+1)) (ZbH 182 (.bool (decide (1≤s.length∧s.length≤12)&&nmR (fun k=>l0.getD k 0) (m+1) k)) none):=fun h=>by
   have:=ZiZ hC s l0 hl m (k+1) (by omega)
   simp only[nmR,h,Bool.true_and]
   exact this
  have fx:ZyL k (l0.getD k 0)=false→AV.bool false=AV.bool (decide (1≤s.length∧s.length≤12)&&nmR (fun k=>l0.getD k 0) (m+1) k):=fun h=>by simp only[nmR,h,Bool.false_and,Bool.and_false]
  by_cases h1:((k:Int)<(l0.length:Int))
  ·by_cases h2:(97≤(l0.getD k 0))
   ·by_cases h3:((l0.getD k 0)≤122)
    ·exact go hC ZaE (ZDx std s l0 (l0.length:Int) (k:Int)) (by simp[-List.getD_eq_getElem?_getD]<;>omega) (nx (decide_eq_true (by omega)))
    ·by_cases h4:(65≤(l0.getD k 0))
     ·by_cases h5:((l0.getD k 0)≤90)
      ·exact go hC ZaE (ZBu std s l0 (l0.length:Int) (k:Int)) (by simp[-List.getD_eq_getElem?_getD]<;>omega) (nx (decide_eq_true (by omega)))
      ·by_cases h6:((k:Int)=0)
       ·exact fin hC ZaE (ZAA std s l0 (l0.length:Int) (k:Int)) (by simp[-List.getD_eq_getElem?_getD]<;>omega) (fx (decide_eq_false (by omega))) rfl
       ·by_cases h7:((l0.getD k 0)=45)
        ·exact go hC ZaE (ZB0 std s l0 (l0.length:Int) (k:Int)) (by simp[-List.getD_eq_getElem?_getD]<;>omega) (nx (decide_eq_true (by omega)))
        ·by_cases h8:((l0.getD k 0)<48)
         ·exact fin hC ZaE (ZDC std s l0 (l0.length:Int) (k:Int)) (by simp[-List.getD_eq_getElem?_getD]<;>omega) (fx (decide_eq_false (by omega))) rfl
         ·by_cases h9:(57<(l0.getD k 0))
          ·exact fin hC ZaE (ZAl std s l0 (l0.length:Int) (k:Int)) (by simp[-List.getD_eq_getElem?_getD]<;>omega) (fx (decide_eq_false (by omega))) rfl
          ·exact go hC ZaE (ZDJ std s l0 (l0.length:Int) (k:Int)) (by simp[-List.getD_eq_getElem?_getD]<;>omega) (nx (decide_eq_true (by omega)))
     ·by_cases h5:((k:Int)=0)
      ·exact fin hC ZaE (ZBE std s l0 (l0.length:Int) (k:Int)) (by simp[-List.getD_eq_getElem?_getD]<;>omega) (fx (decide_eq_false (by omega))) rfl
      ·by_cases h6:((l0.getD k 0)=45)
       ·exact go hC ZaE (Zyh std s l0 (l0.length:Int) (k:Int)) (by simp[-List.getD_eq_getElem?_getD]<;>omega) (nx (decide_eq_true (by omega)))
       ·by_cases h7:((l0.getD k 0)<48)
        ·exact fin hC ZaE (ZEm std s l0 (l0.length:Int) (k:Int)) (by simp[-List.getD_eq_getElem?_getD]<;>omega) (fx (decide_eq_false (by omega))) rfl
        ·by_cases h8:(57<(l0.getD k 0))
         ·exact fin hC ZaE (Zwy std s l0 (l0.length:Int) (k:Int)) (by simp[-List.getD_eq_getElem?_getD]<;>omega) (fx (decide_eq_false (by omega))) rfl
         ·exact go hC ZaE (ZwM std s l0 (l0.length:Int) (k:Int)) (by simp[-List.getD_eq_getElem?_getD]<;>omega) (nx (decide_eq_true (by omega)))
   ·by_cases h3:(65≤(l0.getD k 0))
    ·by_cases h4:((l0.getD k 0)≤90)
     ·exact go hC ZaE (ZwE std s l0 (l0.length:Int) (k:Int)) (by simp[-List.getD_eq_getElem?_getD]<;>omega) (nx (decide_eq_true (by omega)))
     ·by_cases h5:((k:Int)=0)
      ·exact fin hC ZaE (Zzp std s l0 (l0.length:Int) (k:Int)) (by simp[-List.getD_eq_getElem?_getD]<;>omega) (fx (decide_eq_false (by omega))) rfl
      ·by_cases h6:((l0.getD k 0)=45)
       ·exact go hC ZaE (Zzo std s l0 (l0.length:Int) (k:Int)) (by simp[-List.getD_eq_getElem?_getD]<;>omega) (nx (decide_eq_true (by omega)))
       ·by_cases h7:((l0.getD k 0)<48)
        ·exact fin hC ZaE (ZxC std s l0 (l0.length:Int) (k:Int)) (by simp[-List.getD_eq_getElem?_getD]<;>omega) (fx (decide_eq_false (by omega))) rfl
        ·by_cases h8:(57<(l0.getD k 0))
         ·exact fin hC ZaE (ZzF std s l0 (l0.length:Int) (k:Int)) (by simp[-List.getD_eq_getElem?_getD]<;>omega) (fx (decide_eq_false (by omega))) rfl
         ·exact go hC ZaE (Zxn std s l0 (l0.length:Int) (k:Int)) (by simp[-List.getD_eq_getElem?_getD]<;>omega) (nx (decide_eq_true (by omega)))
    ·by_cases h4:((k:Int)=0)
     ·exact fin hC ZaE (Zxy std s l0 (l0.length:Int) (k:Int)) (by simp[-List.getD_eq_getElem?_getD]<;>omega) (fx (decide_eq_false (by omega))) rfl
     ·by_cases h5:((l0.getD k 0)=45)
      ·exact go hC ZaE (ZzE std s l0 (l0.length:Int) (k:Int)) (by simp[-List.getD_eq_getElem?_getD]<;>omega) (nx (decide_eq_true (by omega)))
      ·by_cases h6:((l0.getD k 0)<48)
       ·exact fin hC ZaE (Zzx std s l0 (l0.length:Int) (k:Int)) (by simp[-List.getD_eq_getElem?_getD]<;>omega) (fx (decide_eq_false (by omega))) rfl
       ·by_cases h7:(57<(l0.getD k 0))
        ·exact fin hC ZaE (Zyy std s l0 (l0.length:Int) (k:Int)) (by simp[-List.getD_eq_getElem?_getD]<;>omega) (fx (decide_eq_false (by omega))) rfl
        ·exact go hC ZaE (Zxl std s l0 (l0.length:Int) (k:Int)) (by simp[-List.getD_eq_getElem?_getD]<;>omega) (nx (decide_eq_true (by omega)))
  ·by_cases h2:(s=[])
   ·omega
   ·omega
theorem Zrg(s:List UInt8)(hl:s.length≤1000000):Zat Tryz.prog 182 [.str s] (.bool (ZaS s)) none:=
 start (ZuQ s) fun C hC=>by
  refine go hC ZaE (ZB6 std s) (by simp;omega) ?_
  have:=ZiZ hC s (s.map fun b=>(b.toNat:Int)) (by simp;omega) (s.map fun b=>(b.toNat:Int)).length 0 (by simp)
  have e:(fun k=>(s.map fun b=>(b.toNat:Int)).getD k 0)=fun k=>((s.getD k 0).toNat:Int):=by
   funext k
   simp only[List.getD_eq_getElem?_getD,List.getElem?_map]
   cases s[k]?<;>rfl
  have q:(decide (1≤s.length∧s.length≤12)&&nmR (fun k=>(s.map fun b=>(b.toNat:Int)).getD k 0) (s.map fun b=>(b.toNat:Int)).length 0)=ZaS s:=by rw[e,List.length_map];rfl
  rw[q]at this
  exact this
@[simp] theorem ZkD (l:List AV):std.lenA l=l.length:=rfl
@[simp] theorem ZIp (l:List AV) (j:Nat):std.nthA l j=l.getD j .top:=rfl
theorem Zkr{C:Ctx}(hC:C.P=Tryz.prog)(xs:List AV)(s:List UInt8)(hl:xs.length≤1000000):∀(m k:Nat),k+m=xs.length→Ev C (Zcz xs s (k:Int)) (Zb8 xs s (k:Int)) (ZbH 151 (.bool (ZjP (xs.drop k) s)) none)
 |0,k,hk=>fin hC ZaE (ZCX std xs s k) (by simp;omega) (by rw[List.drop_of_length_le (by omega)];rfl) rfl
 |m+1,k,hk=>by
  have hd:xs.drop k=xs[k]'(by omega)::xs.drop (k+1):=List.drop_eq_getElem_cons (by omega)
  have hg:xs.getD k .top=xs[k]'(by omega):=by simp[List.getD_eq_getElem?_getD,List.getElem?_eq_getElem (show k<xs.length by omega)]
  by_cases h:(xs.getD k .top).toS=s
  ·exact fin hC ZaE (ZEP std xs s k) (by simp[-List.getD_eq_getElem?_getD,h]<;>omega) (by rw[hd,←hg];simp[-List.getD_eq_getElem?_getD,ZjP,h]) rfl
  ·refine go hC ZaE (ZEG std xs s k) (by simp[-List.getD_eq_getElem?_getD,h]<;>omega) ?_
   have:=Zkr hC xs s hl m (k+1) (by omega)
   rw[hd,←hg]
   have e:ZjP (xs.getD k .top::xs.drop (k+1)) s=ZjP (xs.drop (k+1)) s:=by simp[-List.getD_eq_getElem?_getD,ZjP,h]
   rw[e]
   exact this
theorem ZuC(xs:List AV)(s:List UInt8)(hl:xs.length≤1000000):Zat Tryz.prog 151 [.list (.big .str xs), .str s] (.bool (ZjP xs s)) none:=
 start (Zux xs s) fun C hC=>go hC ZaE (ZD4 std xs s) (by simp) (Zkr hC xs s hl xs.length 0 (by omega))
theorem ZhW{C:Ctx}(hC:C.P=Tryz.prog)(xs:List Int)(hl:xs.length≤1000000):∀(m k:Nat),k+m=xs.length→Ev C (Zd4 xs (xs.length:Int) (k:Int)) (Zda xs (xs.length:Int) (k:Int)) (ZbH 67 (.int .i64 (Zao (xs.drop k))) none)
 |0,k,hk=>fin hC ZaE (ZGU std xs xs.length k) (by simp;omega) (by rw[List.drop_of_length_le (by omega)];rfl) rfl
 |m+1,k,hk=>by
  have hd:xs.drop k=xs[k]'(by omega)::xs.drop (k+1):=List.drop_eq_getElem_cons (by omega)
  have hg:xs.getD k 0=xs[k]'(by omega):=by simp[List.getD_eq_getElem?_getD,List.getElem?_eq_getElem (show k<xs.length by omega)]
  by_cases h:xs.getD k 0=0
  ·refine go hC ZaE (ZFx std xs xs.length k) (by simp[-List.getD_eq_getElem?_getD,h]<;>omega) ?_
   have:=ZhW hC xs hl m (k+1) (by omega)
   rw[hd,←hg,Zao,if_pos h]
   exact this
  ·exact fin hC ZaE (ZF7 std xs xs.length k) (by simp[-List.getD_eq_getElem?_getD,h]<;>omega) (by rw[hd,←hg,Zao,if_neg h];rfl) rfl
theorem ZqP(xs:List Int)(hl:xs.length≤1000000):Zat Tryz.prog 67 [.list (.ints .i64 xs)] (.int .i64 (Zao xs)) none:=
 start (ZzA xs) fun C hC=>go hC ZaE (ZFO std xs) (by simp) (ZhW hC xs hl xs.length 0 (by omega))
end Go.Proofs.YtkeoeooghhjibaaGreatDoor
/- Contracts as a list. No condition. -/
namespace Go.Proofs.YtkeoeooghhjibaaGreatDoor
def k41:Ctr:=⟨41,0,fun _ a=>match a with |[.int .i64 n, .int .i64 a, .int .i64 b]=>some (true, .bool (Zan n a b),none) |_=>none⟩
theorem ZC7:k41.OK Tryz.prog:=fun pa args r fr h=>by
 simp only[k41]at h
 split at h
 ·cases h
  exact ZnN _ _ _
 ·cases h
def k82:Ctr:=⟨82,0,fun _ a=>match a with |[.int .i64 n, .int .i64 a, .int .i64 b]=>some (true, .bool (Zan n a b),none) |_=>none⟩
theorem ZEi:k82.OK Tryz.prog:=fun pa args r fr h=>by
 simp only[k82]at h
 split at h
 ·cases h
  exact Zof _ _ _
 ·cases h
def k68:Ctr:=⟨68,0,fun _ a=>match a with |[.bool b, .int .i64 e]=>some (true, .int .i64 (Zad b e),none) |_=>none⟩
theorem ZC2:k68.OK Tryz.prog:=fun pa args r fr h=>by
 simp only[k68]at h
 split at h
 ·cases h
  exact Znz _ _
 ·cases h
def k161:Ctr:=⟨161,0,fun _ a=>match a with |[.int .i64 _]=>some (true, .int .i64 0,none) |_=>none⟩
theorem Zxk:k161.OK Tryz.prog:=fun pa args r fr h=>by
 simp only[k161]at h
 split at h
 ·cases h
  exact ZrL _
 ·cases h
def k150:Ctr:=⟨150,0,fun _ a=>match a with |[.str s]=>some (decide (s.length≤1000000), .bool (ZaS s),none) |_=>none⟩
theorem Zx3:k150.OK Tryz.prog:=fun pa args r fr h=>by
 simp only[k150]at h
 split at h
 ·simp only[Option.some.injEq,Prod.mk.injEq,decide_eq_true_eq]at h
  obtain⟨h0,rfl,rfl⟩:=h
  exact Zr4 _ h0
 ·cases h
def k182:Ctr:=⟨182,0,fun _ a=>match a with |[.str s]=>some (decide (s.length≤1000000), .bool (ZaS s),none) |_=>none⟩
theorem Zzh:k182.OK Tryz.prog:=fun pa args r fr h=>by
 simp only[k182]at h
 split at h
 ·simp only[Option.some.injEq,Prod.mk.injEq,decide_eq_true_eq]at h
  obtain⟨h0,rfl,rfl⟩:=h
  exact Zrg _ h0
 ·cases h
def k151:Ctr:=⟨151,0,fun _ a=>match a with |[.list (.big .str xs), .str s]=>some (decide (xs.length≤1000000), .bool (ZjP xs s),none) |_=>none⟩
theorem ZzO:k151.OK Tryz.prog:=fun pa args r fr h=>by
 simp only[k151]at h
 split at h
 ·simp only[Option.some.injEq,Prod.mk.injEq,decide_eq_true_eq]at h
  obtain⟨h0,rfl,rfl⟩:=h
  exact ZuC _ _ h0
 ·cases h
def k67:Ctr:=⟨67,0,fun _ a=>match a with |[.list (.ints .i64 xs)]=>some (decide (xs.length≤1000000), .int .i64 (Zao xs),none) |_=>none⟩
theorem ZAw:k67.OK Tryz.prog:=fun pa args r fr h=>by
 simp only[k67]at h
 split at h
 ·simp only[Option.some.injEq,Prod.mk.injEq,decide_eq_true_eq]at h
  obtain⟨h0,rfl,rfl⟩:=h
  exact ZqP _ h0
 ·cases h
def B1:List Ctr:=[k41,k82,k68,k161,k150,k182,k151,k67]
theorem ZnL:Zaw Tryz.prog B1:=⟨ZC7,⟨ZEi,⟨ZC2,⟨Zxk,⟨Zx3,⟨Zzh,⟨ZzO,⟨ZAw,trivial⟩⟩⟩⟩⟩⟩⟩⟩
end Go.Proofs.YtkeoeooghhjibaaGreatDoor
/- Paths of functions, printed by the explorer (Gx). No condition. -/
namespace Go.Proofs.YtkeoeooghhjibaaGreatDoor
set_option maxRecDepth 100000
set_option linter.unusedVariables false
def Zvs(n m:Int):AFrame:={ fn:=158,N:=13,env:=[(0,AV.int .i64 n),(1,AV.int .i64 m)],todo:=[.code a158.code],defs:=[],rnd:=none,ret:=false,res:=[ARes.tmp 4] }
def ZB7(n m:Int):List AFrame:=[(Zvs n m)]
theorem ZtO(n m:Int):ZaB tab 158 [AV.int .i64 n,AV.int .i64 m]=some (Zvs n m):=rfl
theorem ZBF(A:Ar)(n m:Int):Zbc A tab B1 18 [true,true,true,true,true] 158 (ZB7 n m) []=
 some (tr [11,4] [A.eq n (-1)],
  AV.bool true,none):=by kernel_rfl
theorem ZAy(A:Ar)(n m:Int):Zbc A tab B1 18 [false,false,false,false,false] 158 (ZB7 n m) []=
 some (tr [6,4,4] [A.inR .i64 (A.sub m 1),!A.eq n (-1)],
  AV.bool (Zan n 0 (A.sub m 1)),none):=by kernel_rfl
def ZvF(ms ks rs:List AV)(i:Int):AFrame:={ fn:=160,N:=9,env:=[(0,AV.int .i64 i),(1,AV.eptr (AV.agg (Row.gen [.list (Row.big .str ms), .list (Row.big (.agg [.str, .int .i64]) ks), .list (Row.big (.agg [.str, .int .i64, .int .i64, .int .i64, .int .i64]) rs)])) 0)],todo:=[.code a160.code],defs:=[],rnd:=none,ret:=false,res:=[ARes.tmp 3] }
def ZGM(ms ks rs:List AV)(i:Int):List AFrame:=[(ZvF ms ks rs i)]
theorem Zuj(ms ks rs:List AV)(i:Int):ZaB tab 160 [AV.int .i64 i,AV.eptr (AV.agg (Row.gen [.list (Row.big .str ms), .list (Row.big (.agg [.str, .int .i64]) ks), .list (Row.big (.agg [.str, .int .i64, .int .i64, .int .i64, .int .i64]) rs)])) 0]=some (ZvF ms ks rs i):=rfl
theorem ZAP(A:Ar)(ms ks rs:List AV)(i:Int):Zbc A tab B1 14 [] 160 (ZGM ms ks rs i) []=
 some (tr [3,4] [Zae (Zae (A.le 0 i) (Nat.blt (A.nat i) (A.lenA ms))) true],
  AV.str (AV.toS (A.nthA ms (A.nat i))),none):=by kernel_rfl
def ZvP(ms ks rs:List AV)(i:Int):AFrame:={ fn:=162,N:=10,env:=[(0,AV.int .i64 i),(1,AV.eptr (AV.agg (Row.gen [.list (Row.big .str ms), .list (Row.big (.agg [.str, .int .i64]) ks), .list (Row.big (.agg [.str, .int .i64, .int .i64, .int .i64, .int .i64]) rs)])) 0)],todo:=[.code a162.code],defs:=[],rnd:=none,ret:=false,res:=[ARes.tmp 3] }
def ZGo(ms ks rs:List AV)(i:Int):List AFrame:=[(ZvP ms ks rs i)]
theorem Zur(ms ks rs:List AV)(i:Int):ZaB tab 162 [AV.int .i64 i,AV.eptr (AV.agg (Row.gen [.list (Row.big .str ms), .list (Row.big (.agg [.str, .int .i64]) ks), .list (Row.big (.agg [.str, .int .i64, .int .i64, .int .i64, .int .i64]) rs)])) 0]=some (ZvP ms ks rs i):=rfl
theorem ZDv(A:Ar)(ms ks rs:List AV)(i:Int):Zbc A tab B1 16 [] 162 (ZGo ms ks rs i) []=
 some (tr [4,4] [Zae (Zae (A.le 0 i) (Nat.blt (A.nat i) (A.lenA ks))) true],
  AV.str ((A.nthA ks (A.nat i)).cellAt 0).toS,none):=by kernel_rfl
def ZvO(ms ks rs:List AV)(i:Int):AFrame:={ fn:=164,N:=10,env:=[(0,AV.int .i64 i),(1,AV.eptr (AV.agg (Row.gen [.list (Row.big .str ms), .list (Row.big (.agg [.str, .int .i64]) ks), .list (Row.big (.agg [.str, .int .i64, .int .i64, .int .i64, .int .i64]) rs)])) 0)],todo:=[.code a164.code],defs:=[],rnd:=none,ret:=false,res:=[ARes.tmp 3] }
def ZFD(ms ks rs:List AV)(i:Int):List AFrame:=[(ZvO ms ks rs i)]
theorem Zt5(ms ks rs:List AV)(i:Int):ZaB tab 164 [AV.int .i64 i,AV.eptr (AV.agg (Row.gen [.list (Row.big .str ms), .list (Row.big (.agg [.str, .int .i64]) ks), .list (Row.big (.agg [.str, .int .i64, .int .i64, .int .i64, .int .i64]) rs)])) 0]=some (ZvO ms ks rs i):=rfl
theorem ZCS(A:Ar)(ms ks rs:List AV)(i:Int):Zbc A tab B1 16 [] 164 (ZFD ms ks rs i) []=
 some (tr [4,4] [Zae (Zae (A.le 0 i) (Nat.blt (A.nat i) (A.lenA rs))) true],
  AV.str ((A.nthA rs (A.nat i)).cellAt 0).toS,none):=by kernel_rfl
def ZAf(xs:List AV):AFrame:={ fn:=75,N:=6,env:=[(0,AV.list (Row.big .str xs))],todo:=[.code a75.code],defs:=[],rnd:=none,ret:=false,res:=[ARes.tmp 2] }
def ZKi(xs:List AV):List AFrame:=[(ZAf xs)]
theorem ZzX(xs:List AV):ZaB tab 75 [AV.list (Row.big .str xs)]=some (ZAf xs):=rfl
theorem ZF9(A:Ar)(xs:List AV):Zbc A tab B1 12 [] 75 (ZKi xs) []=
 some (tr [2,3] [Nat.ble (A.lenA xs) 4294967296],
  AV.list (Row.big .str xs),none):=by kernel_rfl
end Go.Proofs.YtkeoeooghhjibaaGreatDoor
/- Contracts as a list. No condition. -/
namespace Go.Proofs.YtkeoeooghhjibaaGreatDoor
def ZjO(n m:Int):Bool:=if n= -1 then true else Zan n 0 (m-1)
def Za2(ms:List AV)(i:Int):List UInt8:=(ms.getD i.toNat .top).toS
def Zax(ks:List AV)(i:Int):List UInt8:=((ks.getD i.toNat .top).cellAt 0).toS
theorem ZtU(n m:Int)(h: -1000000≤m∧m≤1000000):Zat Tryz.prog 158 [.int .i64 n, .int .i64 m] (.bool (ZjO n m)) none:=
 start (ZtO n m) fun C hC=>by
  by_cases h1:n= -1
  ·exact fin hC ZnL (ZBF std n m) (by simp[h1]) (by simp[ZjO,h1]) rfl
  ·exact fin hC ZnL (ZAy std n m) (by simp[h1];omega) (by simp[ZjO,h1]) rfl
theorem Zsw(ms ks rs:List AV)(i:Int)(h:0≤i∧i<ms.length):Zat Tryz.prog 160 [.int .i64 i, .eptr (.agg (.gen [.list (.big .str ms), .list (.big (.agg [.str, .int .i64]) ks), .list (.big (.agg [.str, .int .i64, .int .i64, .int .i64, .int .i64]) rs)])) 0] (.str (Za2 ms i)) none:=
 start (Zuj ms ks rs i) fun C hC=>fin hC ZnL (ZAP std ms ks rs i) (by simp;omega) rfl rfl
theorem ZsJ(ms ks rs:List AV)(i:Int)(h:0≤i∧i<ks.length):Zat Tryz.prog 162 [.int .i64 i, .eptr (.agg (.gen [.list (.big .str ms), .list (.big (.agg [.str, .int .i64]) ks), .list (.big (.agg [.str, .int .i64, .int .i64, .int .i64, .int .i64]) rs)])) 0] (.str (Zax ks i)) none:=
 start (Zur ms ks rs i) fun C hC=>fin hC ZnL (ZDv std ms ks rs i) (by simp;omega) rfl rfl
theorem Ztb(ms ks rs:List AV)(i:Int)(h:0≤i∧i<rs.length):Zat Tryz.prog 164 [.int .i64 i, .eptr (.agg (.gen [.list (.big .str ms), .list (.big (.agg [.str, .int .i64]) ks), .list (.big (.agg [.str, .int .i64, .int .i64, .int .i64, .int .i64]) rs)])) 0] (.str (Zax rs i)) none:=
 start (Zt5 ms ks rs i) fun C hC=>fin hC ZnL (ZCS std ms ks rs i) (by simp;omega) rfl rfl
theorem Zs7(xs:List AV)(h:xs.length≤1000000):Zat Tryz.prog 75 [.list (.big .str xs)] (.list (.big .str xs)) none:=
 start (ZzX xs) fun C hC=>fin hC ZnL (ZF9 std xs) (by simp;omega) rfl rfl
def k158:Ctr:=⟨158,0,fun _ a=>match a with |[.int .i64 n, .int .i64 m]=>some (decide (-1000000≤m∧m≤1000000), .bool (ZjO n m),none) |_=>none⟩
theorem ZyE:k158.OK Tryz.prog:=fun pa args r fr h=>by
 simp only[k158]at h
 split at h
 ·simp only[Option.some.injEq,Prod.mk.injEq,decide_eq_true_eq]at h
  obtain⟨h0,rfl,rfl⟩:=h
  exact ZtU _ _ h0
 ·cases h
def k160:Ctr:=⟨160,0,fun _ a=>match a with |[.int .i64 i, .eptr (.agg (.gen [.list (.big .str ms), .list (.big (.agg [.str, .int .i64]) ks), .list (.big (.agg [.str, .int .i64, .int .i64, .int .i64, .int .i64]) rs)])) 0]=>some (decide (0≤i∧i<ms.length), .str (Za2 ms i),none) |_=>none⟩
theorem ZxG:k160.OK Tryz.prog:=fun pa args r fr h=>by
 simp only[k160]at h
 split at h
 ·simp only[Option.some.injEq,Prod.mk.injEq,decide_eq_true_eq]at h
  obtain⟨h0,rfl,rfl⟩:=h
  exact Zsw _ _ _ _ h0
 ·cases h
def k162:Ctr:=⟨162,0,fun _ a=>match a with |[.int .i64 i, .eptr (.agg (.gen [.list (.big .str ms), .list (.big (.agg [.str, .int .i64]) ks), .list (.big (.agg [.str, .int .i64, .int .i64, .int .i64, .int .i64]) rs)])) 0]=>some (decide (0≤i∧i<ks.length), .str (Zax ks i),none) |_=>none⟩
theorem Zzi:k162.OK Tryz.prog:=fun pa args r fr h=>by
 simp only[k162]at h
 split at h
 ·simp only[Option.some.injEq,Prod.mk.injEq,decide_eq_true_eq]at h
  obtain⟨h0,rfl,rfl⟩:=h
  exact ZsJ _ _ _ _ h0
 ·cases h
def k164:Ctr:=⟨164,0,fun _ a=>match a with |[.int .i64 i, .eptr (.agg (.gen [.list (.big .str ms), .list (.big (.agg [.str, .int .i64]) ks), .list (.big (.agg [.str, .int .i64, .int .i64, .int .i64, .int .i64]) rs)])) 0]=>some (decide (0≤i∧i<rs.length), .str (Zax rs i),none) |_=>none⟩
theorem Zys:k164.OK Tryz.prog:=fun pa args r fr h=>by
 simp only[k164]at h
 split at h
 ·simp only[Option.some.injEq,Prod.mk.injEq,decide_eq_true_eq]at h
  obtain⟨h0,rfl,rfl⟩:=h
  exact Ztb _ _ _ _ h0
 ·cases h
def k75:Ctr:=⟨75,0,fun _ a=>match a with |[.list (.big .str xs)]=>some (decide (xs.length≤1000000), .list (.big .str xs),none) |_=>none⟩
theorem ZAQ:k75.OK Tryz.prog:=fun pa args r fr h=>by
 simp only[k75]at h
 split at h
 ·simp only[Option.some.injEq,Prod.mk.injEq,decide_eq_true_eq]at h
  obtain⟨h0,rfl,rfl⟩:=h
  exact Zs7 _ h0
 ·cases h
def B2:List Ctr:=[k158,k160,k162,k164,k75]++B1
theorem Zll:Zaw Tryz.prog B2:=⟨ZyE,⟨ZxG,⟨Zzi,⟨Zys,⟨ZAQ,ZnL⟩⟩⟩⟩⟩
end Go.Proofs.YtkeoeooghhjibaaGreatDoor
