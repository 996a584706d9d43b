/- Library functions on strings, as contracts. No condition. -/
import Derived.Test.YtkeoeooghhjibaaGreatDoorSh
import Derived.Lib.AppendIntMem
import Derived.Lib.AtoiErrMem
import Derived.BigCall
import Derived.WalkKit
import Derived.KernelRfl
namespace Go.Proofs.YtkeoeooghhjibaaGreatDoor
open Go.RowKit (Below)
theorem ZdL{P:Program}{w w':World}{okA:Nat→Prop}{L:Lay}(hb:Below w.heap.size w w')(hG:GoodW P w w.heap.size 0):HRel (Ctx.of P w okA []) [] L w':=
 ⟨hb,fun _ _ ht=>absurd rfl ht.tag,fun _ _=>trivial,fun _ _ _ _ ht=>absurd rfl ht.tag,fun _ _ ht=>absurd rfl ht.tag,fun k hk _=>hb.block k hk,Nat.le_refl _,hG⟩
theorem Zpj{w:World}{ok:Nat→Prop}{h:Zaa}{L:Lay}{a:AV}{vs:Array Value}(hr:RelL w ok h L [a] vs.toList):∃x,vs= #[x]∧Rel w ok h L a x:=by
 obtain⟨l⟩:=vs
 match l,hr with
 |[],hr=>cases hr.1
 |[x],hr=>exact⟨x,rfl,hr.2 0 a x rfl rfl⟩
 |_::_::_,hr=>have:=hr.1;simp at this
theorem Zfp{w:World}{ok:Nat→Prop}{h:Zaa}{L:Lay}{a b:AV}{vs:Array Value}(hr:RelL w ok h L [a,b] vs.toList):∃x y,vs= #[x,y]∧Rel w ok h L a x∧Rel w ok h L b y:=by
 obtain⟨l⟩:=vs
 match l,hr with
 |[],hr=>cases hr.1
 |[_],hr=>have:=hr.1;simp at this
 |[x,y],hr=>exact⟨x,y,rfl,hr.2 0 a x rfl rfl,hr.2 1 b y rfl rfl⟩
 |_::_::_::_,hr=>have:=hr.1;simp at this
theorem Zdw{w:World}{ok:Nat→Prop}{h:Zaa}{L:Lay}{s:List UInt8}{x:Value}(hr:Rel w ok h L (.str s) x):x=.string ⟨s.toArray⟩:=by cases hr;rfl
theorem ZmI{w:World}{ok:Nat→Prop}{h:Zaa}{L:Lay}{k:IntKind}{n:Int}{x:Value}(hr:Rel w ok h L (.int k n) x):x=.int k n:=by cases hr;rfl
theorem ZtO{P:Program}{n:String}{g:Nat}{k:IntKind}{zs:List Int}{w:World}(hg:P.globalNamed n=some g)(h:ZmA w g=some (zs.map fun z=>Value.int k z).toArray):Lib.TabIs P w n k zs:=by
 unfold Lib.TabIs World.var?
 rw[hg];exact h
theorem ZdQ(n:Int)(h: -9223372036854775808≤n∧n≤9223372036854775807)(w:World)(hF:FactsW w):Calls Tryz.prog 138 #[.int .i64 n] w fun e w'=>e=.returned (.string ⟨(Lib.itoa n).toArray⟩)∧Below w.heap.size w w':=by
 refine(Any.strconv_Itoa Zjr n h.1 h.2 w (ZtO (by kernel_rfl) hF.tab)).mono ?_
 rintro e w' ⟨rfl,k,os,rfl⟩
 exact⟨rfl,Lib.below_grow w.heap.size w (Nat.le_refl _) k os⟩
theorem Zl0(n:Int)(h: -9223372036854775808≤n∧n≤9223372036854775807):Zan Tryz.prog 138 [.int .i64 n] (.str (Lib.itoa n)) none:=by
 intro w okA L vs hargs _ hG
 obtain⟨x,rfl,hx⟩:=Zpj hargs
 obtain rfl:=ZmI hx
 refine(ZdQ n h w hG.1).mono ?_
 rintro e w' ⟨rfl,hb⟩
 exact⟨_,L,rfl,hb,ZdL hb hG, .str _⟩
theorem Zm8(s p:List UInt8)(h:s.length≤1000000):Zan Tryz.prog 108 [.str s, .str p] (.tup [.str (Lib.cut s p).1, .str (Lib.cut s p).2.1, .bool (Lib.cut s p).2.2]) none:=by
 intro w okA L vs hargs _ hG
 obtain⟨x,y,rfl,hx,hy⟩:=Zfp hargs
 obtain rfl:=Zdw hx
 obtain rfl:=Zdw hy
 obtain⟨m,hm⟩:=hG.1.len
 refine(ZgF ⟨s.toArray⟩ ⟨p.toArray⟩ m w (by show s.toArray.size<_;simp;omega) hm).mono ?_
 rintro e w' ⟨rfl,n,rfl⟩
 have hb:Below w.heap.size w (w.drewN n):=⟨rfl,rfl,rfl,Nat.le_refl _,fun _ _=>rfl⟩
 refine⟨_,L,rfl,hb,ZdL hb hG,?_⟩
 refine .tup _ _ rfl (fun j u v hu hv=>?_)
 match j with
 |0=>simp at hu hv;subst hu;subst hv;exact .str _
 |1=>simp at hu hv;subst hu;subst hv;exact .str _
 |2=>simp at hu hv;subst hu;subst hv;exact .bool _
 |j+3=>simp at hu
def ZaY(s p:List UInt8):List (List UInt8):=(Lib.splitB ⟨p.toArray⟩ 0 (Lib.countB ⟨s.toArray⟩ ⟨p.toArray⟩) ⟨s.toArray⟩).map fun b=>b.data.toList
theorem Zka(s p:List UInt8)(h:s.length≤1000000∧1≤p.length):Zan Tryz.prog 106 [.str s, .str p] (.list (.big .str ((ZaY s p).map AV.str))) ZyL:=by
 intro w okA L vs hargs _ hG
 obtain⟨x,y,rfl,hx,hy⟩:=Zfp hargs
 obtain rfl:=Zdw hx
 obtain rfl:=Zdw hy
 obtain⟨m,hm⟩:=hG.1.len
 have hlen:=Lib.splitB_all ⟨p.toArray⟩ (by show 1≤p.toArray.size;simpa using h.2) 0 _ ⟨s.toArray⟩ rfl
 refine(Zfd ⟨s.toArray⟩ ⟨p.toArray⟩ m w (by show s.toArray.size<_;simp;omega) hm (by show 1≤p.toArray.size;simpa using h.2)).mono ?_
 rintro e w' ⟨rfl,rfl⟩
 have hb:Below w.heap.size w (w.alloc (.cells ((Lib.splitB ⟨p.toArray⟩ 0 (Lib.countB ⟨s.toArray⟩ ⟨p.toArray⟩) ⟨s.toArray⟩).map Value.string).toArray 9)):=(Below.refl _ _).alloc (Nat.le_refl _) _
 refine⟨_,L,rfl,hb,?_⟩
 show Zas (Ctx.of Tryz.prog w (fun _=>False) []) [] L _ (.list (.big .str ((ZaY s p).map AV.str))) _
 have hel:(Row.big .str ((ZaY s p).map AV.str)).elems=(ZaY s p).map AV.str:=by simp[Row.elems,Sh.view,Sh.view1,AV.toS,List.map_map,Function.comp_def]
 have hfl:Zac ((ZaY s p).map AV.str)=(ZaY s p).map AV.str:=ZaC (fun x hx=>by obtain⟨y,_,rfl⟩:=List.mem_map.1 hx;rfl)
 have hn:(ZaY s p).length=Lib.countB ⟨s.toArray⟩ ⟨p.toArray⟩+1:=by unfold ZaY;rw[List.length_map,hlen]
 refine .list _ ((ZaY s p).map AV.str) hel.symm ⟨w.heap.size,0,none⟩ _ _ 1 ((Lib.splitB ⟨p.toArray⟩ 0 (Lib.countB ⟨s.toArray⟩ ⟨p.toArray⟩) ⟨s.toArray⟩).map Value.string) (by simp) (.inr ⟨Nat.le_refl _,fun a i ht=>absurd rfl ht.tag⟩) (by rw[List.length_map,hn]) (Nat.le_refl _) (fun x hx=>by obtain⟨y,_,rfl⟩:=List.mem_map.1 hx;rfl) (by rw[hfl];simp[ZaY]) (fun x hx=>by obtain⟨y,_,rfl⟩:=List.mem_map.1 hx;rfl) (fun j v hj=>?_) ?_ (fun j u v hu hv=>?_)
 ·have hadd:(⟨w.heap.size,0,none⟩:Addr).add j=⟨w.heap.size,j,none⟩:=by
   by_cases hj0:j=0
   ·subst hj0;rfl
   ·simp[Addr.add,hj0]
  rw[hadd,World.cell?_alloc_new]
  simpa using hj
 ·rw[hfl]
  have hall:∀l:List (List UInt8),AV.pureL (l.map AV.str)=true:=fun l=>by
   induction l with
   |nil=>rfl
   |cons b l ih=>simp only[List.map_cons,AV.pureL,AV.pure,ih,Bool.and_self]
  exact hall _
 ·rw[hfl]at hu
  unfold ZaY at hu
  rw[List.map_map,List.getElem?_map]at hu
  rw[List.getElem?_map]at hv
  cases hq:(Lib.splitB ⟨p.toArray⟩ 0 (Lib.countB ⟨s.toArray⟩ ⟨p.toArray⟩) ⟨s.toArray⟩)[j]? with
  |none=>rw[hq]at hu;cases hu
  |some b=>
   rw[hq]at hu hv
   simp only[Option.map_some,Option.some.injEq,Function.comp_apply]at hu hv
   subst hu;subst hv
   exact .str b.data.toList
theorem Zlo(xs:List AV)(p:List UInt8)(h:xs.length≤1000000∧(Lib.join (xs.map AV.toS) p).length≤1000000):Zan Tryz.prog 113 [.list (.big .str xs), .str p] (.str (Lib.join (xs.map AV.toS) p)) none:=by
 intro w okA L vs hargs _ hG
 obtain⟨x,y,rfl,hx,hy⟩:=Zfp hargs
 obtain rfl:=Zdw hy
 by_cases hne:(Row.big .str xs).elems=[]
 ·have hxs:xs=[]:=by
   have:(Row.big .str xs).elems.length=xs.length:=by simp[Row.elems,Sh.view]
   rw[hne]at this
   exact List.eq_nil_of_length_eq_zero this.symm
  subst hxs
  obtain⟨a,c,rfl⟩:∃a c,x=.slice a 0 c:=by
   cases hx with
   |nil _ a c _=>exact⟨a,c,rfl⟩
   |list _ ys hy ad n cap sz cs hb hok hn=>rw[hne]at hy;subst hy;exact⟨some ad,cap,by rw[hn];rfl⟩
  refine(Zdh a c ⟨p.toArray⟩ w).mono ?_
  rintro e w' ⟨rfl,rfl⟩
  exact⟨_,L,rfl,Below.refl _ _,ZdL (Below.refl _ _) hG, .str _⟩
 ·cases hx with
  |nil _ a c h0=>exact absurd h0 hne
  |list _ ys hys ad n cap sz cs hb hok hn hcap hsz hl h1 hc hp hrr=>
   subst hys
   have hel:(Row.big .str xs).elems=xs.map fun v=>AV.str v.toS:=by simp[Row.elems,Sh.view,Sh.view1]
   have hfl:Zac (Row.big .str xs).elems=xs.map fun v=>AV.str v.toS:=by rw[hel];exact ZaC (fun x hx=>by obtain⟨y,_,rfl⟩:=List.mem_map.1 hx;rfl)
   have hnl:n=xs.length:=by rw[hn,hel,List.length_map]
   subst hnl
   rw[hfl]at hl hrr
   rw[List.length_map]at hl
   have hadz:ad=⟨ad.block,ad.off,none⟩:=by
    have hx0:0<xs.length:=by
     rcases Nat.eq_zero_or_pos xs.length with h0 |h0
     ·have:xs=[]:=List.eq_nil_of_length_eq_zero h0
      subst this;exact absurd rfl hne
     ·exact h0
    obtain⟨v,hv⟩:∃v,cs[0]? =some v:=⟨_,List.getElem?_eq_getElem (by omega)⟩
    have:=Zgh (hc 0 v hv)
    cases ad with
    |mk b0 o0 s0=>
     simp only[Addr.add,if_true]at this
     rw[this]
   have hcs:∀(j:Nat) b,(xs.map fun v=>(⟨v.toS.toArray⟩:ByteArray))[j]? =some b→w.cell? ⟨ad.block,ad.off+j,none⟩=some (.string b):=fun j b hj=>by
    rw[List.getElem?_map]at hj
    cases hq:xs[j]? with
    |none=>rw[hq]at hj;cases hj
    |some q=>
     rw[hq]at hj
     simp only[Option.map_some,Option.some.injEq]at hj
     subst hj
     have hjl:j<xs.length:=(List.getElem?_eq_some_iff.1 hq).1
     obtain⟨v,hv⟩:∃v,cs[j]? =some v:=⟨_,List.getElem?_eq_getElem (by omega)⟩
     have hr:=hrr j (.str q.toS) v (by rw[List.getElem?_map,hq];rfl) hv
     obtain rfl:=Zdw hr
     have:=hc j _ hv
     rw[hadz]at this
     by_cases hj0:j=0
     ·subst hj0;simpa[Addr.add]using this
     ·simpa[Addr.add,hj0]using this
   have hmm:(xs.map fun v=>(⟨v.toS.toArray⟩:ByteArray)).map (fun b=>b.data.toList)=xs.map AV.toS:=by simp[List.map_map,Function.comp_def]
   have c:=Zf1 ad.block ad.off cap (xs.map fun v=>(⟨v.toS.toArray⟩:ByteArray)) ⟨p.toArray⟩ w hcs hb (by rw[List.length_map];omega) (by rw[List.length_map];exact hcap) (by rw[hmm];show(Lib.join _ p).length≤_;omega)
   rw[List.length_map,←hadz,hmm]at c
   refine c.mono ?_
   rintro e w' ⟨rfl,hbe⟩
   exact⟨_,L,rfl,hbe,ZdL hbe hG, .str _⟩
end Go.Proofs.YtkeoeooghhjibaaGreatDoor
/- The reading of a number, as a contract. No condition. -/
namespace Go.Proofs.YtkeoeooghhjibaaGreatDoor
open Go.RowKit (Below)
def ZbK(s:List UInt8):Int:=match Lib.atoiAll s with | .ok v=>v | Lib.NumEnd.syntax =>0 | .range=>Lib.atoiSat s
def Zch(s:List UInt8)(d:Int):Bool:=match Lib.atoiAll s with | .ok v=>decide (0≤v)&&(decide (Lib.itoa v=s)&&decide ((s.length:Int)≤d)) |_=>false
theorem ZlS(s:List UInt8)(d:Int)(hs:s.length≤1000000)(w:World)(hF:FactsW w)(h:Lib.atoiAll s=Lib.NumEnd.syntax):Calls Tryz.prog 107 #[.string ⟨s.toArray⟩, .int .i64 d] w fun e w'=>e=.returned (.tuple #[.int .i64 0, .bool false])∧Below w.heap.size w w':=by
 have hsz:(⟨s.toArray⟩:ByteArray).size=s.length:=by simp[ByteArray.size]
 obtain⟨t1,p1,hv1⟩:=hF.syn
 have c:=Zcq ⟨s.toArray⟩ (by omega) h _ w hv1 (.inr ⟨t1,p1,rfl⟩)
 go_enter Tryz.func107,Tryz.ntmps107
 go_wp2_with (go_at_call 142;refine c.mono ?_;rintro e W1 ⟨N,rfl, -, -,hb⟩)
 go_ret2
 exact⟨rfl,hb⟩
theorem Zmk(s:List UInt8)(d:Int)(hs:s.length≤1000000)(w:World)(hF:FactsW w)(h:Lib.atoiAll s=.range):Calls Tryz.prog 107 #[.string ⟨s.toArray⟩, .int .i64 d] w fun e w'=>e=.returned (.tuple #[.int .i64 (Lib.atoiSat s), .bool false])∧Below w.heap.size w w':=by
 have hsz:(⟨s.toArray⟩:ByteArray).size=s.length:=by simp[ByteArray.size]
 obtain⟨t1,p1,hv1⟩:=hF.rng
 have c:=ZcB ⟨s.toArray⟩ (by omega) h _ w hv1 (.inr ⟨t1,p1,rfl⟩)
 have hq:Lib.atoiSat (⟨s.toArray⟩:ByteArray).data.toList=Lib.atoiSat s:=rfl
 rw[hq]at c
 generalize Lib.atoiSat s=q at c
 go_enter Tryz.func107,Tryz.ntmps107
 go_wp2_with (go_at_call 142;refine c.mono ?_;rintro e W1 ⟨N,rfl, -, -,hb⟩)
 go_ret2
 exact⟨rfl,hb⟩
theorem ZlX(s:List UInt8)(d:Int)(hs:s.length≤1000000)(w:World)(v:Int)(h:Lib.atoiAll s=.ok v)(h0:v<0):Calls Tryz.prog 107 #[.string ⟨s.toArray⟩, .int .i64 d] w fun e w'=>e=.returned (.tuple #[.int .i64 v, .bool false])∧(w'=w∨∃t,w'=Lib.bytesWorld w 5 t):=by
 have hsz:(⟨s.toArray⟩:ByteArray).size=s.length:=by simp[ByteArray.size]
 have c:=ZbR ⟨s.toArray⟩ (by omega) v h w
 have h1:¬0≤v:=by omega
 go_enter Tryz.func107,Tryz.ntmps107
 go_wp2_with (go_at_call 142;refine c.mono ?_;rintro e W1 ⟨rfl,hw⟩)
 go_ret2
 exact⟨rfl,hw⟩
theorem Zlq(s:List UInt8)(d:Int)(hs:s.length≤1000000)(w:World)(hF:FactsW w)(h6:6≤w.heap.size)(v:Int)(h:Lib.atoiAll s=.ok v)(h0:0≤v)(b:Bool)(hR:(decide (Lib.itoa v=s)&&decide ((s.length:Int)≤d))=b):Calls Tryz.prog 107 #[.string ⟨s.toArray⟩, .int .i64 d] w fun e w'=>e=.returned (.tuple #[.int .i64 v, .bool b])∧Below w.heap.size w w':=by
 have hsz:(⟨s.toArray⟩:ByteArray).size=s.length:=by simp[ByteArray.size]
 have hbd:=Lib.atoiAll_bounds h
 have c:Calls Tryz.prog 142 #[.string ⟨s.toArray⟩] w fun e w'=>e=.returned (.tuple #[.int .i64 v, .nilIface])∧FactsW w'∧Below w.heap.size w w':=by
  refine(ZbR ⟨s.toArray⟩ (by omega) v h w).mono ?_
  rintro e W1 ⟨rfl,hw⟩
  have hb:Below w.heap.size w W1:=by
   rcases hw with rfl |⟨t,rfl⟩
   ·exact Below.refl _ _
   ·exact Lib.bytesWorld_below _ _ _
  exact⟨rfl,hF.keep fun k hk=>hb.block k (by omega),hb⟩
 have c2:=fun W hW=>ZdQ v hbd W hW
 generalize hq:Lib.itoa v=q at c2 hR
 have heq:((⟨q.toArray⟩:ByteArray)=⟨s.toArray⟩)=(q=s):=by simp
 go_enter Tryz.func107,Tryz.ntmps107
 go_wp2_with (go_at_call 142;refine c.mono ?_;rintro e W1 ⟨rfl,hF1,hb1⟩)
 refine(c2 W1 hF1).mono ?_
 rintro e W2 ⟨rfl,hb2⟩
 have hb3:Below w.heap.size w W2:=hb1.trans (hb2.mono hb1.size)
 by_cases h1:q=s
 ·by_cases h2:(s.length:Int)≤d
  ·obtain rfl:true=b:=by rw[←hR];simp[h1,h2]
   go_wp2
   go_ret2
   exact⟨rfl,hb3⟩
  ·obtain rfl:false=b:=by rw[←hR];simp[h2]
   go_wp2
   go_ret2
   refine⟨?_,hb3⟩
   simp[h2]
 ·obtain rfl:false=b:=by rw[←hR];simp[h1]
  go_wp2
  go_ret2
  exact⟨rfl,hb3⟩
theorem Zim(s:List UInt8)(d:Int)(hs:s.length≤1000000)(w:World)(hF:FactsW w)(h6:6≤w.heap.size):Calls Tryz.prog 107 #[.string ⟨s.toArray⟩, .int .i64 d] w fun e w'=>e=.returned (.tuple #[.int .i64 (ZbK s), .bool (Zch s d)])∧Below w.heap.size w w':=by
 cases h:Lib.atoiAll s with
 |ok v=>
  rw[show ZbK s=v by simp only[ZbK,h]]
  have hB:Zch s d=(decide (0≤v)&&(decide (Lib.itoa v=s)&&decide ((s.length:Int)≤d))):=by simp only[Zch,h]
  by_cases h0:0≤v
  ·rw[hB,decide_eq_true h0,Bool.true_and]
   exact Zlq s d hs w hF h6 v h h0 _ rfl
  ·rw[hB,decide_eq_false h0,Bool.false_and]
   refine(ZlX s d hs w v h (by omega)).mono ?_
   rintro e W1 ⟨rfl,hw⟩
   refine⟨rfl,?_⟩
   rcases hw with rfl |⟨t,rfl⟩
   ·exact Below.refl _ _
   ·exact Lib.bytesWorld_below _ _ _
 |range=>
  rw[show ZbK s=Lib.atoiSat s by simp only[ZbK,h],show Zch s d=false by simp only[Zch,h]]
  exact Zmk s d hs w hF h
 | _ =>
   rw[show ZbK s=0 by simp only[ZbK,h],show Zch s d=false by simp only[Zch,h]]
   exact ZlS s d hs w hF h
theorem ZiC(s:List UInt8)(d:Int)(hs:s.length≤1000000):Zan Tryz.prog 107 [.str s, .int .i64 d] (.tup [.int .i64 (ZbK s), .bool (Zch s d)]) none:=by
 intro w okA L vs hargs _ hG
 obtain⟨x,y,rfl,hx,hy⟩:=Zfp hargs
 obtain rfl:=Zdw hx
 obtain rfl:=ZmI hy
 refine(Zim s d hs w hG.1 hG.2.1).mono ?_
 rintro e w' ⟨rfl,hb⟩
 refine⟨_,L,rfl,hb,ZdL hb hG,?_⟩
 refine .tup _ _ rfl (fun j u v hu hv=>?_)
 match j with
 |0=>simp at hu hv;subst hu;subst hv;exact .int _ _
 |1=>simp at hu hv;subst hu;subst hv;exact .bool _
 |j+2=>simp at hu
end Go.Proofs.YtkeoeooghhjibaaGreatDoor
/- Paths of functions, printed by the explorer (Gx). No condition. -/
namespace Go.Proofs.YtkeoeooghhjibaaGreatDoor
set_option maxRecDepth 100000
set_option linter.unusedVariables false
def Ztw(n a b:Int):AFrame:={ fn:=41,N:=15,env:=[(0,AV.int .i64 n),(1,AV.int .i64 a),(2,AV.int .i64 b)],todo:=[.code a41.code],defs:=[],rnd:=none,ret:=false,res:=[ARes.tmp 6] }
def Zza(n a b:Int):List AFrame:=[(Ztw n a b)]
theorem ZrK(n a b:Int):Zaz tab 41 [AV.int .i64 n,AV.int .i64 a,AV.int .i64 b]=some (Ztw n a b):=rfl
theorem ZxB(A:Ar)(n a b:Int):ZnG A tab E0 18 [true,true,true,true] 41 (Zza n a b) []=
 some (tr [9,5] [A.le a n],
  AV.bool (A.le n b),none):=by kernel_rfl
theorem ZwN(A:Ar)(n a b:Int):ZnG A tab E0 18 [false,false,false,false] 41 (Zza n a b) []=
 some (tr [9,5] [!A.le a n],
  AV.bool false,none):=by kernel_rfl
def Zv7(n a b:Int):AFrame:={ fn:=82,N:=15,env:=[(0,AV.int .i64 n),(1,AV.int .i64 a),(2,AV.int .i64 b)],todo:=[.code a82.code],defs:=[],rnd:=none,ret:=false,res:=[ARes.tmp 6] }
def ZzP(n a b:Int):List AFrame:=[(Zv7 n a b)]
theorem Zr4(n a b:Int):Zaz tab 82 [AV.int .i64 n,AV.int .i64 a,AV.int .i64 b]=some (Zv7 n a b):=rfl
theorem ZwO(A:Ar)(n a b:Int):ZnG A tab E0 18 [true,true,true,true] 82 (ZzP n a b) []=
 some (tr [9,5] [A.le a n],
  AV.bool (A.le n b),none):=by kernel_rfl
theorem Zyf(A:Ar)(n a b:Int):ZnG A tab E0 18 [false,false,false,false] 82 (ZzP n a b) []=
 some (tr [9,5] [!A.le a n],
  AV.bool false,none):=by kernel_rfl
def Ztq(b:Bool)(e:Int):AFrame:={ fn:=68,N:=7,env:=[(0,AV.bool b),(1,AV.int .i64 e)],todo:=[.code a68.code],defs:=[],rnd:=none,ret:=false,res:=[ARes.tmp 4] }
def ZzU(b:Bool)(e:Int):List AFrame:=[(Ztq b e)]
theorem Zsx(b:Bool)(e:Int):Zaz tab 68 [AV.bool b,AV.int .i64 e]=some (Ztq b e):=rfl
theorem ZtE(A:Ar)(b:Bool)(e:Int):ZnG A tab E0 15 [true] 68 (ZzU b e) []=
 some (tr [2,2] [b],
  AV.int .i64 0,none):=by kernel_rfl
theorem Zv2(A:Ar)(b:Bool)(e:Int):ZnG A tab E0 17 [false] 68 (ZzU b e) []=
 some (tr [3,2] [!b],
  AV.int .i64 e,none):=by kernel_rfl
def ZvO(xs:List Int):AFrame:={ fn:=67,N:=15,env:=[(0,AV.list (.ints .i64 xs))],todo:=[.code a67.code],defs:=[],rnd:=none,ret:=false,res:=[ARes.tmp 2] }
def ZAx(xs:List Int):List AFrame:=[(ZvO xs)]
theorem Zqk(xs:List Int):Zaz tab 67 [AV.list (.ints .i64 xs)]=some (ZvO xs):=rfl
def Zcv(xs:List Int)(n0 n1:Int):List AFrame:=[{ fn:=67,N:=15,env:=[(5,AV.list (.ints .i64 xs)),(6,AV.int .i64 n0),(7,AV.int .i64 n1)],todo:=.code (ACode.gh [] ZtC)::Zx8,defs:=[],rnd:=none,ret:=false,res:=[ARes.tmp 2] }]
def Zb9(xs:List Int)(n0 n1:Int):Zaa:=[]
abbrev ZgM(xs:List Int)(n0 n1:Int):List AFrame×Zaa:=(Zcv xs n0 n1,Zb9 xs n0 n1)
theorem ZwZ(A:Ar)(xs:List Int):ZiI A tab E0 14 [] (ZAx xs) []=
 some (tr [4] [],
  ZgM (xs) (A.int (A.len xs)) (0)):=by kernel_rfl
theorem Zxr(A:Ar)(xs:List Int)(n0 n1:Int):ZnG A tab E0 28 [true,true] 67 (Zcv xs n0 n1) (Zb9 xs n0 n1)=
 some (tr [3,4,0,1] [A.not (A.eq (A.nth xs (A.nat n1)) 0),Zah (Zah (A.le 0 n1) (Nat.blt (A.nat n1) (A.len xs))) true,A.lt n1 n0],
  AV.int .i64 (A.nth xs (A.nat n1)),none):=by kernel_rfl
theorem ZxX(A:Ar)(xs:List Int)(n0 n1:Int):ZiI A tab E0 30 [true,false] (Zcv xs n0 n1) (Zb9 xs n0 n1)=
 some (tr [1,0,4,0,1] [A.inR .i64 (A.add n1 1),!A.not (A.eq (A.nth xs (A.nat n1)) 0),Zah (Zah (A.le 0 n1) (Nat.blt (A.nat n1) (A.len xs))) true,A.lt n1 n0],
  ZgM (xs) (n0) (A.add n1 1)):=by kernel_rfl
theorem Zw7(A:Ar)(xs:List Int)(n0 n1:Int):ZnG A tab E0 13 [false] 67 (Zcv xs n0 n1) (Zb9 xs n0 n1)=
 some (tr [2,1] [!A.lt n1 n0],
  AV.int .i64 0,none):=by kernel_rfl
end Go.Proofs.YtkeoeooghhjibaaGreatDoor
/- Names, ranges, first errors. No condition. -/
namespace Go.Proofs.YtkeoeooghhjibaaGreatDoor
def Zae(n a b:Int):Bool:=decide (a≤n∧n≤b)
def Zat(b:Bool)(e:Int):Int:=if b=true then 0 else e
def ZBl(k:Nat)(c:Int):Bool:=decide ((97≤c∧c≤122)∨(65≤c∧c≤90)∨(k≠0∧(c=45∨(48≤c∧c≤57))))
def nmR(f:Nat→Int):Nat→Nat→Bool
 |0,_=>true
 |m+1,k=>ZBl k (f k)&&nmR f m (k+1)
def Zsj(s:List UInt8):Bool:=decide (1≤s.length∧s.length≤12)&&nmR (fun k=>((s.getD k 0).toNat:Int)) s.length 0
def Zd7:List Int→Int
 |[]=>0
 |x::xs=>if x=0 then Zd7 xs else x
theorem ZjY(n a b:Int):Zan Tryz.prog 41 [.int .i64 n, .int .i64 a, .int .i64 b] (.bool (Zae n a b)) none:=
 start (ZrK n a b) fun C hC=>by
  by_cases h:a≤n
  ·exact fin hC Zfa (ZxB std n a b) (by simp[h]) (by simp[Zae,h]) rfl
  ·exact fin hC Zfa (ZwN std n a b) (by simp;omega) (by simp[Zae,h]) rfl
theorem Zjz(n a b:Int):Zan Tryz.prog 82 [.int .i64 n, .int .i64 a, .int .i64 b] (.bool (Zae n a b)) none:=
 start (Zr4 n a b) fun C hC=>by
  by_cases h:a≤n
  ·exact fin hC Zfa (ZwO std n a b) (by simp[h]) (by simp[Zae,h]) rfl
  ·exact fin hC Zfa (Zyf std n a b) (by simp;omega) (by simp[Zae,h]) rfl
theorem Zkd(b:Bool)(e:Int):Zan Tryz.prog 68 [.bool b, .int .i64 e] (.int .i64 (Zat b e)) none:=
 start (Zsx b e) fun C hC=>by
  cases b
  ·first
   |exact fin hC Zfa (ZtE std false e) (by simp) rfl rfl
   |exact fin hC Zfa (Zv2 std false e) (by simp) rfl rfl
  ·first
   |exact fin hC Zfa (ZtE std true e) (by simp) rfl rfl
   |exact fin hC Zfa (Zv2 std true e) (by simp) rfl rfl
@[simp] theorem Zzx (l:List AV):std.lenA l=l.length:=rfl
@[simp] theorem Zzf (l:List AV) (j:Nat):std.nthA l j=l.getD j .top:=rfl
theorem ZeO{C:Ctx}(hC:C.P=Tryz.prog)(xs:List Int)(hl:xs.length≤1000000):∀(m k:Nat),k+m=xs.length→Ev C (Zcv xs (xs.length:Int) (k:Int)) (Zb9 xs (xs.length:Int) (k:Int)) (Zew 67 (.int .i64 (Zd7 (xs.drop k))) none)
 |0,k,hk=>fin hC Zfa (Zw7 std xs xs.length k) (by simp;omega) (by rw[List.drop_of_length_le (by omega)];rfl) rfl
 |m+1,k,hk=>by
  have hd:xs.drop k=xs[k]'(by omega)::xs.drop (k+1):=List.drop_eq_getElem_cons (by omega)
  have hg:xs.getD k 0=xs[k]'(by omega):=by simp[List.getD_eq_getElem?_getD,List.getElem?_eq_getElem (show k<xs.length by omega)]
  by_cases h:xs.getD k 0=0
  ·refine go hC Zfa (ZxX std xs xs.length k) (by simp[-List.getD_eq_getElem?_getD,h]<;>omega) ?_
   have:=ZeO hC xs hl m (k+1) (by omega)
   rw[hd,←hg,Zd7,if_pos h]
   exact this
  ·exact fin hC Zfa (Zxr std xs xs.length k) (by simp[-List.getD_eq_getElem?_getD,h]<;>omega) (by rw[hd,←hg,Zd7,if_neg h];rfl) rfl
theorem ZlZ(xs:List Int)(hl:xs.length≤1000000):Zan Tryz.prog 67 [.list (.ints .i64 xs)] (.int .i64 (Zd7 xs)) none:=
 start (Zqk xs) fun C hC=>go hC Zfa (ZwZ std xs) (by simp) (ZeO hC xs hl xs.length 0 (by omega))
end Go.Proofs.YtkeoeooghhjibaaGreatDoor
/- Contracts as a list. No condition. -/
namespace Go.Proofs.YtkeoeooghhjibaaGreatDoor
def k41:Ctr:=⟨41,0,fun _ a=>match a with |[.int .i64 n, .int .i64 a, .int .i64 b]=>some (true, .bool (Zae n a b),none) |_=>none⟩
theorem Zuh:k41.OK Tryz.prog:=fun pa args r fr h=>by
 simp only[k41]at h
 split at h
 ·cases h
  exact ZjY _ _ _
 ·cases h
def k82:Ctr:=⟨82,0,fun _ a=>match a with |[.int .i64 n, .int .i64 a, .int .i64 b]=>some (true, .bool (Zae n a b),none) |_=>none⟩
theorem Zuf:k82.OK Tryz.prog:=fun pa args r fr h=>by
 simp only[k82]at h
 split at h
 ·cases h
  exact Zjz _ _ _
 ·cases h
def k68:Ctr:=⟨68,0,fun _ a=>match a with |[.bool b, .int .i64 e]=>some (true, .int .i64 (Zat b e),none) |_=>none⟩
theorem ZuV:k68.OK Tryz.prog:=fun pa args r fr h=>by
 simp only[k68]at h
 split at h
 ·cases h
  exact Zkd _ _
 ·cases h
def k67:Ctr:=⟨67,0,fun _ a=>match a with |[.list (.ints .i64 xs)]=>some (decide (xs.length≤1000000), .int .i64 (Zd7 xs),none) |_=>none⟩
theorem ZtB:k67.OK Tryz.prog:=fun pa args r fr h=>by
 simp only[k67]at h
 split at h
 ·simp only[Option.some.injEq,Prod.mk.injEq,decide_eq_true_eq]at h
  obtain⟨h0,rfl,rfl⟩:=h
  exact ZlZ _ h0
 ·cases h
def B1:List Ctr:=[k41,k82,k68,k67]
theorem ZwY:Zaq Tryz.prog B1:=⟨Zuh,⟨Zuf,⟨ZuV,⟨ZtB,trivial⟩⟩⟩⟩
end Go.Proofs.YtkeoeooghhjibaaGreatDoor
/- Contracts as a list. No condition. -/
namespace Go.Proofs.YtkeoeooghhjibaaGreatDoor
def ZwX(n m:Int):Bool:=if n= -1 then true else Zae n 0 (m-1)
def Zyu(ms:List AV)(i:Int):List UInt8:=(ms.getD i.toNat .top).toS
def ZhL(ks:List AV)(i:Int):List UInt8:=((ks.getD i.toNat .top).cellAt 0).toS
def B2:List Ctr:=B1
theorem ZxP:Zaq Tryz.prog B2:=ZwY
end Go.Proofs.YtkeoeooghhjibaaGreatDoor
/- Contracts as a list. No condition. -/
namespace Go.Proofs.YtkeoeooghhjibaaGreatDoor
def ZaZ(xs:List AV)(i:Int)(j:Nat):Int:=((xs.getD i.toNat .top).cellAt j).toI
def Zw3(ks:List AV)(i k:Int):Int:=Zat (ZwX (ZaZ ks i 1) k) 6
def ZwT(rs:List AV)(i n m:Int):Int:=Zd7 [Zat (Zae (ZaZ rs i 1) 0 (n-1)&&ZwX (ZaZ rs i 2) m&&ZwX (ZaZ rs i 3) n) 6,Zat (Zae (ZaZ rs i 4) 1 1000000) 2,Zat (decide (ZaZ rs i 3≠ -1∨ZaZ rs i 4=1)) 3]
def B3:List Ctr:=B2
theorem Zyv:Zaq Tryz.prog B3:=ZxP
end Go.Proofs.YtkeoeooghhjibaaGreatDoor
/- CheckModel of the program. No condition. -/
namespace Go.Proofs.YtkeoeooghhjibaaGreatDoor
def ZjB(p i e:Int):AV:=.tup [.agg (.gen [.int .i64 p, .int .i64 i]), .int .i64 e]
def Zv8(nm:List UInt8)(ex:Int)(xs:List AV):Int:=Zd7 [Zat (Zsj nm) 4,Zat (!std.hasS xs nm) 5,ex]
def Zlw(a b:Bool):Int:=Zd7 [Zat a 10,Zat b 8]
def ZoG(nm:Nat→List UInt8)(ex:Nat→Int):Nat→Nat→List AV→Option (Nat×Int)
 |0,_,_=>none
 |m+1,k,xs=>if Zv8 (nm k) (ex k) xs=0 then ZoG nm ex m (k+1) (xs++[.str (nm k)])else some (k,Zv8 (nm k) (ex k) xs)
def ZsR(p:Int)(o:Option (Nat×Int))(d:AV):AV:=match o with |some (k,e)=>ZjB p k e |none=>d
def Zyc(ms ks rs:List AV):AV:=ZsR 3 (ZoG (fun k=>ZhL rs k) (fun k=>ZwT rs k ks.length ms.length) rs.length 0 []) (ZjB 0 0 0)
def ZyD(ms ks rs:List AV):AV:=ZsR 2 (ZoG (fun k=>ZhL ks k) (fun k=>Zw3 ks k ms.length) ks.length 0 []) (if Zlw (decide (0≤(rs.length:Int))) (decide ((rs.length:Int)≤10))=0 then Zyc ms ks rs else ZjB 3 0 (Zlw (decide (0≤(rs.length:Int))) (decide ((rs.length:Int)≤10))))
def ZwH(ms ks rs:List AV):AV:=ZsR 1 (ZoG (fun k=>Zyu ms k) (fun _=>0) ms.length 0 []) (if Zlw (decide (1≤(ks.length:Int))) (decide ((ks.length:Int)≤8))=0 then ZyD ms ks rs else ZjB 2 0 (Zlw (decide (1≤(ks.length:Int))) (decide ((ks.length:Int)≤8))))
def Zu3(ms ks rs:List AV):AV:=if Zlw (decide (1≤(ms.length:Int))) (decide ((ms.length:Int)≤6))=0 then ZwH ms ks rs else ZjB 1 0 (Zlw (decide (1≤(ms.length:Int))) (decide ((ms.length:Int)≤6)))
def ZtV(ms ks rs:List AV):Bool:=(ms.all fun x=>decide (x.toS.length≤1000000))&&(ks.all fun x=>decide ((x.cellAt 0).toS.length≤1000000))&&(rs.all fun x=>decide ((x.cellAt 0).toS.length≤1000000))&&decide (ms.length≤1000000∧ks.length≤1000000∧rs.length≤1000000)
section
variable {C:Ctx}(hC:C.P=Tryz.prog)(ms ks rs:List AV)(hs:ZtV ms ks rs=true)
include hC hs
end
end Go.Proofs.YtkeoeooghhjibaaGreatDoor
/- Contracts as a list. No condition. -/
namespace Go.Proofs.YtkeoeooghhjibaaGreatDoor
def mP:AV→Int
 | .tup [.agg (.gen [.int _ p,_]),_]=>p
 |_=>0
def mI:AV→Int
 | .tup [.agg (.gen [_, .int _ i]),_]=>i
 |_=>0
def mE:AV→Int
 | .tup [_, .int _ e]=>e
 |_=>0
def isM(v:AV):Prop:=∃p i e,v=ZjB p i e
theorem isM.eq{v:AV}(h:isM v):v=ZjB (mP v) (mI v) (mE v):=by
 obtain⟨p,i,e,rfl⟩:=h
 rfl
def ZtR(ms ks rs:List AV):Int:=mE (Zu3 ms ks rs)
def B4:List Ctr:=B3
theorem Zx6:Zaq Tryz.prog B4:=Zyv
end Go.Proofs.YtkeoeooghhjibaaGreatDoor
/- Contracts as a list. No condition. -/
namespace Go.Proofs.YtkeoeooghhjibaaGreatDoor
def B5:List Ctr:=B4
theorem ZxE:Zaq Tryz.prog B5:=Zx6
end Go.Proofs.YtkeoeooghhjibaaGreatDoor
/- CheckFile of the program. No condition. -/
namespace Go.Proofs.YtkeoeooghhjibaaGreatDoor
def Zvt(i e:Int):AV:=.tup [.int .i64 i, .int .i64 e]
end Go.Proofs.YtkeoeooghhjibaaGreatDoor
/- Contracts as a list. No condition. -/
namespace Go.Proofs.YtkeoeooghhjibaaGreatDoor
def B6:List Ctr:=B5
theorem Zxx:Zaq Tryz.prog B6:=ZxE
end Go.Proofs.YtkeoeooghhjibaaGreatDoor
/- ForbiddenBy of both packages. No condition. -/
namespace Go.Proofs.YtkeoeooghhjibaaGreatDoor
def Zst(rs:List AV)(a b:Int)(xs:List Int)(k:Int)(i:Nat):Bool:=decide (ZaZ rs i 1=k∧(ZaZ rs i 2= -1∨ZaZ rs i 2=a)∧(ZaZ rs i 3= -1∨(xs.getD (ZaZ rs i 3).toNat 0≠ -1∧b-xs.getD (ZaZ rs i 3).toNat 0<ZaZ rs i 4)))
def Zdf(rs:List AV)(b:Int)(xs:List Int):Bool:=((List.range rs.length).all fun i=>decide (-1≤ZaZ rs i 3∧ZaZ rs i 3<xs.length))&&(xs.all fun x=>decide (-1≤x∧x≤b))&&decide (0≤b∧b≤1000000000000∧rs.length≤1000000)
theorem ZoD{rs:List AV}{b:Int}{xs:List Int}(h:Zdf rs b xs=true){k:Nat}(hk:k<rs.length):(-1≤ZaZ rs k 3∧ZaZ rs k 3<xs.length)∧(ZaZ rs k 3≠ -1→ -1≤xs.getD (ZaZ rs k 3).toNat 0∧xs.getD (ZaZ rs k 3).toNat 0≤b)∧0≤b∧b≤1000000000000∧rs.length≤1000000:=by
 simp only[Zdf,Bool.and_eq_true,List.all_eq_true,decide_eq_true_eq,List.mem_range]at h
 obtain⟨⟨h1,h2⟩,h3⟩:=h
 refine⟨h1 k hk,fun h4=>?_,h3⟩
 have h5:=h1 k hk
 have h6:(ZaZ rs k 3).toNat<xs.length:=by omega
 refine h2 _ ?_
 rw[List.getD_eq_getElem?_getD,List.getElem?_eq_getElem h6];exact List.getElem_mem h6
theorem within_iff{n a b:Int} :Zae n a b=true↔a≤n∧n≤b:=by simp[Zae]
end Go.Proofs.YtkeoeooghhjibaaGreatDoor
/- Contracts as a list. No condition. -/
namespace Go.Proofs.YtkeoeooghhjibaaGreatDoor
def B7:List Ctr:=B6
theorem Zxd:Zaq Tryz.prog B7:=Zxx
end Go.Proofs.YtkeoeooghhjibaaGreatDoor
