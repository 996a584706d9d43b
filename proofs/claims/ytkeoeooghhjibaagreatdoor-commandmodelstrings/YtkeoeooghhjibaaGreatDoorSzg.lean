/- A valid model is read back from its string (closing): plain. No condition. -/
import Derived.Test.YtkeoeooghhjibaaGreatDoorSzb
import Derived.KernelRfl
namespace Go.Proofs.YtkeoeooghhjibaaGreatDoor
def kP(x y:AV):Prop:=(x.cellAt 0).toS=(y.cellAt 0).toS∧(x.cellAt 1).toI=(y.cellAt 1).toI
def rP(x y:AV):Prop:=(x.cellAt 0).toS=(y.cellAt 0).toS∧(x.cellAt 1).toI=(y.cellAt 1).toI∧(x.cellAt 2).toI=(y.cellAt 2).toI∧(x.cellAt 3).toI=(y.cellAt 3).toI∧(x.cellAt 4).toI=(y.cellAt 4).toI
structure MZ (ms ks rs:List AV):Prop where
 ml:1≤ms.length
 kl:1≤ks.length
 m:∀x∈ms,ZnA x.toS∧x.toS≠[]
 k:∀x∈ks,(ZnA (x.cellAt 0).toS∧(x.cellAt 0).toS≠[])∧(-1≤(x.cellAt 1).toI∧(x.cellAt 1).toI≤1000000)
 r:∀x∈rs,(ZnA (x.cellAt 0).toS∧(x.cellAt 0).toS≠[])∧∀v∈[(x.cellAt 1).toI,(x.cellAt 2).toI,(x.cellAt 3).toI,(x.cellAt 4).toI], -1≤v∧v≤1000000
theorem Zr8{xs:List AV}{x:AV}(h:x∈xs):∃i,i<xs.length∧xs.getD i .top=x:=by
 obtain⟨i,hi,rfl⟩:=List.getElem_of_mem h
 exact⟨i,hi,by rw[List.getD_eq_getElem?_getD,List.getElem?_eq_getElem hi];rfl⟩
theorem ZHg{ms ks rs:List AV}(h:Zaj ms ks rs=0):MZ ms ks rs:=by
 obtain⟨h1,h2,h3,h4,h5,h6⟩:=Zqm h
 refine⟨h1.1,h2.1,fun x hx=>?_,fun x hx=>?_,fun x hx=>?_⟩
 ·obtain⟨i,hi,rfl⟩:=Zr8 hx
  exact ZgA (h4 i hi)
 ·obtain⟨i,hi,rfl⟩:=Zr8 hx
  obtain⟨a,b⟩:=h5 i hi
  refine⟨ZgA a,?_⟩
  have hb:=ZhG b (by decide)
  have e:ZaS ks i 1=((ks.getD i .top).cellAt 1).toI:=rfl
  rw[e]at hb
  unfold ZjO at hb
  split at hb
  ·rename_i hq;rw[hq];decide
  ·have:=within_iff.1 hb;omega
 ·obtain⟨i,hi,rfl⟩:=Zr8 hx
  obtain⟨a,b⟩:=h6 i hi
  refine⟨ZgA a,?_⟩
  obtain⟨c1,c2,c3,c4,_⟩:=Zsk b
  have e:∀j,ZaS rs i j=((rs.getD i .top).cellAt j).toI:=fun _=>rfl
  rw[e]at c1 c2 c3 c4
  intro v hv
  simp only[List.mem_cons,List.not_mem_nil,or_false]at hv
  rcases hv with rfl |rfl |rfl |rfl<;>omega
theorem ZoP(y:AV):kwS y=Lib.join ((y.cellAt 0).toS::[(y.cellAt 1).toI].map Lib.itoa) [32]:=by
 rw[ZsM];simp[Lib.join_cons,Lib.joinTail]
theorem Zln(y:AV):rwS y=Lib.join ((y.cellAt 0).toS::[(y.cellAt 1).toI,(y.cellAt 2).toI,(y.cellAt 3).toI,(y.cellAt 4).toI].map Lib.itoa) [32]:=Zmd y
theorem Zoy{c:UInt8}(hc:c=44∨c=59){nm:List UInt8}{vs:List Int}(hn:ZnA nm)(hv:∀v∈vs, -1≤v∧v≤1000000):c∉Lib.join (nm::vs.map Lib.itoa) [32]:=
 ZlC (by rcases hc with rfl |rfl<;>decide) _ fun x hx=>by
  rcases List.mem_cons.1 hx with rfl |hx
  ·rcases hc with rfl |rfl
   ·exact hn.2.1
   ·exact hn.2.2
  ·obtain⟨v,hv2,rfl⟩:=List.mem_map.1 hx
   have:=Zj5 (hv v hv2).1
   rcases hc with rfl |rfl
   ·exact this.2.1
   ·exact this.2.2
theorem Zla{xs ys:List AV}{g:AV→List UInt8}{q:AV→Bool}(hm:xs.map AV.toS=ys.map g)(hq:∀x y,y∈ys→x.toS=g y→q x=true):xs.all q=true:=List.all_eq_true.2 fun x hx=>by
 have:x.toS∈ys.map g:=by rw[←hm];exact List.mem_map_of_mem hx
 obtain⟨y,hy,e⟩:=List.mem_map.1 this
 exact hq x y hy e.symm
section
variable {ms ks rs:List AV}(z:MZ ms ks rs)
include z
theorem ZBW{c:UInt8}(hc:c=44∨c=59):∀x∈ks.map kwS,c∉x:=fun x hx=>by
 obtain⟨y,hy,rfl⟩:=List.mem_map.1 hx
 rw[ZoP]
 exact Zoy hc (z.k y hy).1.1 fun v hv=>by rw[List.mem_singleton]at hv;rw[hv];exact(z.k y hy).2
theorem ZA2{c:UInt8}(hc:c=44∨c=59):∀x∈rs.map rwS,c∉x:=fun x hx=>by
 obtain⟨y,hy,rfl⟩:=List.mem_map.1 hx
 rw[Zln]
 exact Zoy hc (z.r y hy).1.1 (z.r y hy).2
theorem ZeW:(pmP (Zbg ms ks rs)).map AV.toS=[Lib.join (ms.map AV.toS) [32],Lib.join (ks.map kwS) [44],Lib.join (rs.map rwS) [44]]:=by
 have h2:=ZcN (Zbg ms ks rs) 59
 rw[show (((59:UInt8).toNat:Nat):Int)=59 from rfl]at h2
 unfold pmP
 rw[h2]
 refine Zdi 59 _ (by simp) fun x hx=>?_
 simp only[List.mem_cons,List.not_mem_nil,or_false]at hx
 rcases hx with rfl |rfl |rfl
 ·exact ZlC (by decide) _ fun x hx=>by
   obtain⟨y,hy,rfl⟩:=List.mem_map.1 hx
   exact(z.m y hy).1.2.2
 ·exact ZlC (by decide) _ (ZBW z (.inr rfl))
 ·exact ZlC (by decide) _ (ZA2 z (.inr rfl))
theorem Zr9:(Zb9 (pmP (Zbg ms ks rs))).map AV.toS=ms.map AV.toS:=by
 have hp:=ZeW z
 unfold Zb9
 have h2:=ZcN ((pmP (Zbg ms ks rs)).getD 0 .top).toS 32
 rw[show (((32:UInt8).toNat:Nat):Int)=32 from rfl]at h2
 rw[h2,ZjM,hp]
 refine Zdi 32 _ (by intro e;have h1:=congrArg List.length e;have h3:=z.ml;rw[List.length_map,List.length_nil]at h1;omega) fun x hx=>?_
 obtain⟨y,hy,rfl⟩:=List.mem_map.1 hx
 exact(z.m y hy).1.1
theorem Zs5:(ZcL (pmP (Zbg ms ks rs))).map AV.toS=ks.map kwS:=by
 have hp:=ZeW z
 unfold ZcL
 have h2:=ZcN ((pmP (Zbg ms ks rs)).getD 1 .top).toS 44
 rw[show (((44:UInt8).toNat:Nat):Int)=44 from rfl]at h2
 rw[h2,ZjM,hp]
 exact Zdi 44 _ (by intro e;have h1:=congrArg List.length e;have h3:=z.kl;rw[List.length_map,List.length_nil]at h1;omega) (ZBW z (.inl rfl))
theorem Zta:(Zdq (pmP (Zbg ms ks rs))).map AV.toS=rs.map rwS:=by
 have hp:=ZeW z
 unfold Zdq
 have e2:((pmP (Zbg ms ks rs)).getD 2 .top).toS=Lib.join (rs.map rwS) [44]:=by rw[ZjM,hp];rfl
 rw[e2]
 cases rs with
 |nil=>rw[if_pos (by rfl)];rfl
 |cons y r=>
  have hne:rwS y≠[]:=by rw[Zln];exact Zrh (z.r y List.mem_cons_self).1.2
  rw[if_neg (by rw[List.map_cons];exact Zrh hne)]
  have h2:=ZcN (Lib.join ((y::r).map rwS) [44]) 44
  rw[show (((44:UInt8).toNat:Nat):Int)=44 from rfl]at h2
  rw[h2]
  exact Zdi 44 _ (by simp) (ZA2 z (.inl rfl))
theorem ZoR(x y:AV)(hy:y∈ks)(h:x.toS=kwS y):kP (kOf x) y∧kGd x=true:=by
 obtain⟨a,b,c⟩:=ZjW (y.cellAt 0).toS [(y.cellAt 1).toI] (z.k y hy).1 (fun v hv=>by rw[List.mem_singleton]at hv;rw[hv];exact(z.k y hy).2) (h.trans (ZoP y))
 have e:(([(y.cellAt 1).toI]:List Int).length:Int)+1=2:=rfl
 rw[e]at a b c
 refine⟨⟨?_,?_⟩,a⟩
 ·show wdS (Zay x.toS 32) 2=_;exact b
 ·show(wdI (Zay x.toS 32) 2).getD 0 0=_;rw[c];rfl
theorem Zo0(x y:AV)(hy:y∈rs)(h:x.toS=rwS y):rP (rOf x) y∧rGd x=true:=by
 obtain⟨a,b,c⟩:=ZjW (y.cellAt 0).toS [(y.cellAt 1).toI,(y.cellAt 2).toI,(y.cellAt 3).toI,(y.cellAt 4).toI] (z.r y hy).1 (z.r y hy).2 (h.trans (Zln y))
 have e:(([(y.cellAt 1).toI,(y.cellAt 2).toI,(y.cellAt 3).toI,(y.cellAt 4).toI]:List Int).length:Int)+1=5:=rfl
 rw[e]at a b c
 refine⟨⟨?_,?_,?_,?_,?_⟩,a⟩
 ·show wdS (Zay x.toS 32) 5=_;exact b
 ·show(wdI (Zay x.toS 32) 5).getD 0 0=_;rw[c];rfl
 ·show(wdI (Zay x.toS 32) 5).getD 1 0=_;rw[c];rfl
 ·show(wdI (Zay x.toS 32) 5).getD 2 0=_;rw[c];rfl
 ·show(wdI (Zay x.toS 32) 5).getD 3 0=_;rw[c];rfl
theorem ZDM:Ztk (pmP (Zbg ms ks rs))=true:=by
 unfold Ztk
 rw[Zla (Zr9 z) (q:=mGd) (fun x y hy e=>by unfold mGd;rw[e];exact decide_eq_true (z.m y hy).2),Zla (Zs5 z) (q:=kGd) (fun x y hy e=>(ZoR z x y hy e).2),Zla (Zta z) (q:=rGd) (fun x y hy e=>(Zo0 z x y hy e).2)]
 rfl
theorem Zuh:ZgE (Zb9 (pmP (Zbg ms ks rs))) ((ZcL (pmP (Zbg ms ks rs))).map kOf) ((Zdq (pmP (Zbg ms ks rs))).map rOf) ms ks rs=true∧Zaj (Zb9 (pmP (Zbg ms ks rs))) ((ZcL (pmP (Zbg ms ks rs))).map kOf) ((Zdq (pmP (Zbg ms ks rs))).map rOf)=Zaj ms ks rs:=by
 have a:=Zr9 z
 obtain⟨b1,b2⟩:=Zpu (f:=kOf) (P:=kP) (Zs5 z) (fun x y hy e=>(ZoR z x y hy e).1)
 obtain⟨c1,c2⟩:=Zpu (f:=rOf) (P:=rP) (Zta z) (fun x y hy e=>(Zo0 z x y hy e).1)
 generalize Zb9 (pmP (Zbg ms ks rs))=ms' at*
 generalize (ZcL (pmP (Zbg ms ks rs))).map kOf=ks' at*
 generalize (Zdq (pmP (Zbg ms ks rs))).map rOf=rs' at*
 have a1:ms'.length=ms.length:=by have:=congrArg List.length a;simpa using this
 have a2:∀j,(ms'.getD j .top).toS=(ms.getD j .top).toS:=fun j=>by rw[ZjM,ZjM,a]
 have b3:∀j,kP (ks'.getD j .top) (ks.getD j .top):=fun j=>by
  by_cases hj:j<ks.length
  ·exact b2 j hj
  ·rw[Zij (by omega),Zij hj];exact⟨rfl,rfl⟩
 have c3:∀j,rP (rs'.getD j .top) (rs.getD j .top):=fun j=>by
  by_cases hj:j<rs.length
  ·exact c2 j hj
  ·rw[Zij (by omega),Zij hj];exact⟨rfl,rfl,rfl,rfl,rfl⟩
 constructor
 ·unfold ZgE
  rw[Bool.and_eq_true,Bool.and_eq_true]
  exact⟨ZdB a1 fun j _=>decide_eq_true (a2 j),ZdB b1 fun j _=>decide_eq_true (b3 j),ZdB c1 fun j _=>decide_eq_true (c3 j)⟩
 ·exact Zmh a1 b1 c1 (fun i=>a2 _) (fun i=>(b3 _).1) (fun i=>(b3 _).2) (fun i=>(c3 _).1) (fun i=>(c3 _).2.1) (fun i=>(c3 _).2.2.1) (fun i=>(c3 _).2.2.2.1) (fun i=>(c3 _).2.2.2.2)
end
theorem Ztu{ms ks rs:List AV}(h:Zaj ms ks rs=0)(hl:(Zbg ms ks rs).length≤60000):pmE (Zbg ms ks rs)=0∧ZgE (Zb9 (pmP (Zbg ms ks rs))) ((ZcL (pmP (Zbg ms ks rs))).map kOf) ((Zdq (pmP (Zbg ms ks rs))).map rOf) ms ks rs=true:=by
 have z:=ZHg h
 obtain⟨a,b⟩:=Zuh z
 have hp:=congrArg List.length (ZeW z)
 rw[List.length_map]at hp
 refine⟨?_,a⟩
 unfold pmE
 rw[if_pos hl,if_pos (by rw[hp];rfl),if_pos (ZDM z),b,h]
end Go.Proofs.YtkeoeooghhjibaaGreatDoor
/- Items of a model, as read. No condition. -/
namespace Go.Proofs.YtkeoeooghhjibaaGreatDoor
theorem ZdZ(c:UInt8):∀s:List UInt8,(c∉s∧Lib.index s [c]= -1)∨∃x t,s=x++c::t∧c∉x∧Lib.index s [c]=x.length
 |[]=>.inl ⟨by simp,by simp[Lib.index]⟩
 |x::s=>by
  by_cases h:x=c
  ·subst h
   exact .inr ⟨[],s,rfl,by simp,by simp[Lib.index]⟩
  ·have hi:Lib.index (x::s) [c]=if Lib.index s [c]== -1 then -1 else Lib.index s [c]+1:=by
    rw[Lib.index]
    simp[Ne.symm h]
   rcases ZdZ c s with⟨h1,h2⟩ |⟨y,t,h1,h2,h3⟩
   ·left
    refine⟨by simp[h1,Ne.symm h],?_⟩
    rw[hi,h2];rfl
   ·right
    refine⟨x::y,t,by rw[h1];rfl,by simp[h2,Ne.symm h],?_⟩
    rw[hi,h3,if_neg (by simp)]
    simp
theorem ZlP{x t:List UInt8}{c:UInt8} :((x++c::t).drop 0).take (x.length-0)=x∧((x++c::t).drop (x.length+1)).take ((x++c::t).length-(x.length+1))=t:=by
 refine⟨by simp,?_⟩
 have e:(x++c::t).drop (x.length+1)=t:=by
  rw[←List.drop_drop,List.drop_left];rfl
 rw[e]
 exact List.take_of_length_le (by simp;omega)
theorem Zlx(s:List UInt8)(c:Int):∀(m i f:Nat),∀x∈Zl4 s c m i f,x=.str x.toS
 |0,i,f,x,h=>by
  rw[Zl4]at h
  obtain rfl:=List.mem_singleton.1 h
  rfl
 |m+1,i,f,x,h=>by
  rw[Zl4]at h
  split at h
  ·rcases List.mem_cons.1 h with rfl |h
   ·rfl
   ·exact Zlx s c m (i+1) (i+1) x h
  ·exact Zlx s c m (i+1) f x h
theorem ZlA(s:List UInt8)(c:UInt8):Zay s (c.toNat:Int)=(Zbb c s).map .str:=by
 rw[←ZcN,List.map_map]
 refine(List.map_id' _).symm.trans (List.map_congr_left fun x hx=>?_)
 exact Zlx s _ _ _ _ x (by unfold Zay at hx;exact hx)
theorem Zph(s:List UInt8)(c:UInt8):(Zac s [c]).map AV.str=Zay s (c.toNat:Int):=by rw[ZkD,ZlA]
theorem ZfN(s:List UInt8):(Zac s [32]).map AV.str=Zay s 32:=Zph s 32
theorem ZsC(s:List UInt8):(Zac s [59]).map AV.str=Zay s 59:=Zph s 59
theorem ZmT(x:List UInt8):nmB (.str x)=itB x:=(Zm5 x).1.symm
theorem ZmZ{x:List UInt8}(h:itB x=true):nmV (.str x)=itV x:=((Zm5 x).2 h).symm
theorem ZDZ{ww:List UInt8}{l:List (List UInt8)}(h:Zac ww [32]=l):Zay ww 32=l.map .str:=by rw[←ZfN,h]
theorem ZGp{ww a b:List UInt8}(h:Zac ww [32]=[a,b]):kGd (.str ww)=(decide (a≠[])&&itB b)∧((decide (a≠[])&&itB b)=true→kOf (.str ww)=.agg (.gen [.str a, .int .i64 (itV b)])):=by
 have e:=ZDZ h
 have e1:kGd (.str ww)=(decide (a≠[])&&itB b):=by
  show wdB (Zay ww 32) 2=_
  rw[e,←ZmT]
  simp[wdB]
  rfl
 refine⟨e1,fun hg=>?_⟩
 have hg':wdB (Zay ww 32) 2=true:=e1.trans hg
 show AV.agg (.gen [.str (wdS (Zay ww 32) 2), .int .i64 ((wdI (Zay ww 32) 2).getD 0 0)])=_
 unfold wdS wdI
 rw[hg',e]
 simp only[cond_true,←ZmZ (Bool.and_eq_true_iff.1 hg).2]
 rfl
theorem ZCm{ww a b c d e':List UInt8}(h:Zac ww [32]=[a,b,c,d,e']):rGd (.str ww)=(decide (a≠[])&&(itB b&&(itB c&&(itB d&&itB e'))))∧((decide (a≠[])&&(itB b&&(itB c&&(itB d&&itB e'))))=true→rOf (.str ww)=.agg (.gen [.str a, .int .i64 (itV b), .int .i64 (itV c), .int .i64 (itV d), .int .i64 (itV e')])):=by
 have e:=ZDZ h
 have e1:rGd (.str ww)=(decide (a≠[])&&(itB b&&(itB c&&(itB d&&itB e')))):=by
  show wdB (Zay ww 32) 5=_
  rw[e,←ZmT,←ZmT,←ZmT,←ZmT]
  simp[wdB]
  rfl
 refine⟨e1,fun hg=>?_⟩
 have hg':wdB (Zay ww 32) 5=true:=e1.trans hg
 show AV.agg (.gen [.str (wdS (Zay ww 32) 5), .int .i64 ((wdI (Zay ww 32) 5).getD 0 0), .int .i64 ((wdI (Zay ww 32) 5).getD 1 0), .int .i64 ((wdI (Zay ww 32) 5).getD 2 0), .int .i64 ((wdI (Zay ww 32) 5).getD 3 0)])=_
 unfold wdS wdI
 rw[hg',e]
 simp only[Bool.and_eq_true]at hg
 simp only[cond_true,←ZmZ hg.2.1,←ZmZ hg.2.2.1,←ZmZ hg.2.2.2.1,←ZmZ hg.2.2.2.2]
 rfl
theorem ZxX{ww:List UInt8}(h:kGd (.str ww)=true):((Zac ww [32]).length:Int)=2:=by
 have:=(Zgm (w:=Zay ww 32) h).2
 rw[←ZfN,List.length_map]at this
 exact this
theorem ZzV{ww:List UInt8}(h:rGd (.str ww)=true):((Zac ww [32]).length:Int)=5:=by
 have:=(Zgm (w:=Zay ww 32) h).2
 rw[←ZfN,List.length_map]at this
 exact this
theorem itB_min:itB [45,49]=true∧itV [45,49]= -1:=⟨by simp[itB],by simp[itV]⟩
theorem Zib:Lib.itoa (-1)=[45,49]:=by decide +kernel
theorem ZpG{x:List UInt8}(h:x≠[45,49]):itB x=ZdK x 7∧itV x=Zbn x:=⟨by simp[itB,h],by simp[itV,h]⟩
theorem Zfx{ww x:List UInt8}{l:List (List UInt8)}(h:Zac ww [32]=l)(hx:x∈l):x.length≤ww.length:=by
 rw[ZkD]at h
 exact Zlh 32 ww x (by rw[h];exact hx)
theorem ZxH{α:Type}{l:List α}(h:l.length=2):∃a b,l=[a,b]:=by
 match l,h with
 |[a,b],_=>exact⟨a,b,rfl⟩
theorem ZtP{α:Type}{l:List α}(h:l.length=5):∃a b c d e,l=[a,b,c,d,e]:=by
 match l,h with
 |[a,b,c,d,e],_=>exact⟨a,b,c,d,e,rfl⟩
theorem Zgo(a:List UInt8):(AV.str a).toS=a:=rfl
theorem Zf0{ww:List UInt8}{good bad:AV→Prop}(hl:ww.length≤60000)(hg:kGd (.str ww)=true→good (kOf (.str ww)))(hb:kGd (.str ww)=false→∀(l:List UInt8) (n:Int),l.length≤60000→bad (.agg (.gen [.str l, .int .i64 n]))):ZjQ std ww good bad:=by
 have hl2:ww.length≤1000000:=by omega
 by_cases h2:((Zac ww [32]).length:Int)=2
 ·obtain⟨a,b,h⟩:=ZxH (show (Zac ww [32]).length=2 by omega)
  obtain⟨e1,e2⟩:=ZGp h
  have ha:=Zfx (x:=a) h (by simp)
  have hbl:=Zfx (x:=b) h (by simp)
  have hb2:b.length≤1000000:=by omega
  rw[e1]at hg hb
  by_cases h3:a=[]
  ·subst h3
   simp[ZjQ,h,hl2,AV.bx,Zab,Zgo]
   exact hb (by simp) _ _ (by simp)
  ·by_cases h4:b=[45,49]
   ·subst h4
    have hgg:(decide (a≠[])&&itB [45,49])=true:=by simp[h3,itB_min.1]
    have:=hg hgg
    rw[e2 hgg,itB_min.2]at this
    simp[ZjQ,h,hl2,AV.bx,Zab,h3,Zib,Zgo]
    exact this
   ·obtain⟨i1,i2⟩:=ZpG h4
    cases hn:ZdK b 7 with
    |true=>
     have hgg:(decide (a≠[])&&itB b)=true:=by simp[h3,i1,hn]
     have:=hg hgg
     rw[e2 hgg,i2]at this
     simp[ZjQ,h,hl2,hb2,AV.bx,Zab,h3,Zib,h4,hn,Zgo]
     exact this
    |false=>
     have:=hb (by simp[h3,i1,hn]) a 0 (by omega)
     simp[ZjQ,h,hl2,hb2,AV.bx,Zab,h3,Zib,h4,hn,Zgo]
     exact this
 ·have:=hb (by
   cases hk:kGd (.str ww)with
   |true=>exact absurd (ZxX hk) h2
   |false=>rfl) [] 0 (by simp)
  simp[ZjQ,hl2,AV.bx,Zab,h2]
  exact this
theorem it3(x:List UInt8):(x=[45,49]∧x=[45,49]∧itB x=true∧itV x= -1)∨(x≠[45,49]∧ZdK x 7=true∧itB x=true∧itV x=Zbn x)∨(x≠[45,49]∧ZdK x 7=false∧itB x=false∧True):=by
 by_cases h:x=[45,49]
 ·subst h;exact .inl ⟨rfl,rfl,itB_min.1,itB_min.2⟩
 ·obtain⟨i1,i2⟩:=ZpG h
  cases hn:ZdK x 7 with
  |true=>exact .inr (.inl ⟨h,rfl,by rw[i1,hn],i2⟩)
  |false=>exact .inr (.inr ⟨h,rfl,by rw[i1,hn],trivial⟩)
theorem ZfQ{ww:List UInt8}{good bad:AV→Prop}(hl:ww.length≤60000)(hg:rGd (.str ww)=true→good (rOf (.str ww)))(hb:rGd (.str ww)=false→∀(l:List UInt8) (n m o q:Int),l.length≤60000→bad (.agg (.gen [.str l, .int .i64 n, .int .i64 m, .int .i64 o, .int .i64 q]))):Zms std ww good bad:=by
 have hl2:ww.length≤1000000:=by omega
 by_cases h2:((Zac ww [32]).length:Int)=5
 ·obtain⟨a,b,c,d,f,h⟩:=ZtP (show (Zac ww [32]).length=5 by omega)
  obtain⟨e1,e2⟩:=ZCm h
  have ha:=Zfx (x:=a) h (by simp)
  have hb2:b.length≤1000000:=Nat.le_trans (Zfx (x:=b) h (by simp)) hl2
  have hc2:c.length≤1000000:=Nat.le_trans (Zfx (x:=c) h (by simp)) hl2
  have hd2:d.length≤1000000:=Nat.le_trans (Zfx (x:=d) h (by simp)) hl2
  have hf2:f.length≤1000000:=Nat.le_trans (Zfx (x:=f) h (by simp)) hl2
  rw[e1]at hg hb
  by_cases h3:a=[]
  ·subst h3
   simp[Zms,h,hl2,AV.bx,Zab,Zgo]
   exact hb (by simp) _ _ _ _ _ (by simp)
  ·have hb':(itB b&&(itB c&&(itB d&&itB f)))=false→∀(l:List UInt8) (n m o q:Int),l.length≤60000→bad (.agg (.gen [.str l, .int .i64 n, .int .i64 m, .int .i64 o, .int .i64 q])):=fun hq=>hb (by rw[hq,Bool.and_false])
   have hg':itB b=true→itB c=true→itB d=true→itB f=true→good (.agg (.gen [.str a, .int .i64 (itV b), .int .i64 (itV c), .int .i64 (itV d), .int .i64 (itV f)])):=fun q1 q2 q3 q4=>by
    have hgg:(decide (a≠[])&&(itB b&&(itB c&&(itB d&&itB f))))=true:=by simp[h3,q1,q2,q3,q4]
    have:=hg hgg
    rwa[e2 hgg]at this
   have hal:a.length≤60000:=by omega
   simp[Zms,h,hl2,h3,AV.bx,Zab,Zgo,Zib,hb2,hc2,hd2,hf2]
   clear hg hb e1 e2 h
   rcases it3 b with⟨b0,b1,b2,b3⟩ |⟨b0,b1,b2,b3⟩ |⟨b0,b1,b2,b3⟩
   ·simp[b0,b1]
    rcases it3 c with⟨c0,c1,c2,c3⟩ |⟨c0,c1,c2,c3⟩ |⟨c0,c1,c2,c3⟩
    ·simp[c0,c1]
     rcases it3 d with⟨d0,d1,d2,d3⟩ |⟨d0,d1,d2,d3⟩ |⟨d0,d1,d2,d3⟩
     ·simp[d0,d1]
      rcases it3 f with⟨f0,f1,f2,f3⟩ |⟨f0,f1,f2,f3⟩ |⟨f0,f1,f2,f3⟩
      ·simp[f0,f1]
       have:=hg' b2 c2 d2 f2
       rw[b3,c3,d3,f3]at this
       exact this
      ·simp[f0,f1]
       have:=hg' b2 c2 d2 f2
       rw[b3,c3,d3,f3]at this
       exact this
      ·simp[f0,f1]
       exact hb' (by simp[b2,c2,d2,f2]) _ _ _ _ _ (by omega)
     ·simp[d0,d1]
      rcases it3 f with⟨f0,f1,f2,f3⟩ |⟨f0,f1,f2,f3⟩ |⟨f0,f1,f2,f3⟩
      ·simp[f0,f1]
       have:=hg' b2 c2 d2 f2
       rw[b3,c3,d3,f3]at this
       exact this
      ·simp[f0,f1]
       have:=hg' b2 c2 d2 f2
       rw[b3,c3,d3,f3]at this
       exact this
      ·simp[f0,f1]
       exact hb' (by simp[b2,c2,d2,f2]) _ _ _ _ _ (by omega)
     ·simp[d0,d1]
      exact hb' (by simp[b2,c2,d2]) _ _ _ _ _ (by omega)
    ·simp[c0,c1]
     rcases it3 d with⟨d0,d1,d2,d3⟩ |⟨d0,d1,d2,d3⟩ |⟨d0,d1,d2,d3⟩
     ·simp[d0,d1]
      rcases it3 f with⟨f0,f1,f2,f3⟩ |⟨f0,f1,f2,f3⟩ |⟨f0,f1,f2,f3⟩
      ·simp[f0,f1]
       have:=hg' b2 c2 d2 f2
       rw[b3,c3,d3,f3]at this
       exact this
      ·simp[f0,f1]
       have:=hg' b2 c2 d2 f2
       rw[b3,c3,d3,f3]at this
       exact this
      ·simp[f0,f1]
       exact hb' (by simp[b2,c2,d2,f2]) _ _ _ _ _ (by omega)
     ·simp[d0,d1]
      rcases it3 f with⟨f0,f1,f2,f3⟩ |⟨f0,f1,f2,f3⟩ |⟨f0,f1,f2,f3⟩
      ·simp[f0,f1]
       have:=hg' b2 c2 d2 f2
       rw[b3,c3,d3,f3]at this
       exact this
      ·simp[f0,f1]
       have:=hg' b2 c2 d2 f2
       rw[b3,c3,d3,f3]at this
       exact this
      ·simp[f0,f1]
       exact hb' (by simp[b2,c2,d2,f2]) _ _ _ _ _ (by omega)
     ·simp[d0,d1]
      exact hb' (by simp[b2,c2,d2]) _ _ _ _ _ (by omega)
    ·simp[c0,c1]
     exact hb' (by simp[b2,c2]) _ _ _ _ _ (by omega)
   ·simp[b0,b1]
    rcases it3 c with⟨c0,c1,c2,c3⟩ |⟨c0,c1,c2,c3⟩ |⟨c0,c1,c2,c3⟩
    ·simp[c0,c1]
     rcases it3 d with⟨d0,d1,d2,d3⟩ |⟨d0,d1,d2,d3⟩ |⟨d0,d1,d2,d3⟩
     ·simp[d0,d1]
      rcases it3 f with⟨f0,f1,f2,f3⟩ |⟨f0,f1,f2,f3⟩ |⟨f0,f1,f2,f3⟩
      ·simp[f0,f1]
       have:=hg' b2 c2 d2 f2
       rw[b3,c3,d3,f3]at this
       exact this
      ·simp[f0,f1]
       have:=hg' b2 c2 d2 f2
       rw[b3,c3,d3,f3]at this
       exact this
      ·simp[f0,f1]
       exact hb' (by simp[b2,c2,d2,f2]) _ _ _ _ _ (by omega)
     ·simp[d0,d1]
      rcases it3 f with⟨f0,f1,f2,f3⟩ |⟨f0,f1,f2,f3⟩ |⟨f0,f1,f2,f3⟩
      ·simp[f0,f1]
       have:=hg' b2 c2 d2 f2
       rw[b3,c3,d3,f3]at this
       exact this
      ·simp[f0,f1]
       have:=hg' b2 c2 d2 f2
       rw[b3,c3,d3,f3]at this
       exact this
      ·simp[f0,f1]
       exact hb' (by simp[b2,c2,d2,f2]) _ _ _ _ _ (by omega)
     ·simp[d0,d1]
      exact hb' (by simp[b2,c2,d2]) _ _ _ _ _ (by omega)
    ·simp[c0,c1]
     rcases it3 d with⟨d0,d1,d2,d3⟩ |⟨d0,d1,d2,d3⟩ |⟨d0,d1,d2,d3⟩
     ·simp[d0,d1]
      rcases it3 f with⟨f0,f1,f2,f3⟩ |⟨f0,f1,f2,f3⟩ |⟨f0,f1,f2,f3⟩
      ·simp[f0,f1]
       have:=hg' b2 c2 d2 f2
       rw[b3,c3,d3,f3]at this
       exact this
      ·simp[f0,f1]
       have:=hg' b2 c2 d2 f2
       rw[b3,c3,d3,f3]at this
       exact this
      ·simp[f0,f1]
       exact hb' (by simp[b2,c2,d2,f2]) _ _ _ _ _ (by omega)
     ·simp[d0,d1]
      rcases it3 f with⟨f0,f1,f2,f3⟩ |⟨f0,f1,f2,f3⟩ |⟨f0,f1,f2,f3⟩
      ·simp[f0,f1]
       have:=hg' b2 c2 d2 f2
       rw[b3,c3,d3,f3]at this
       exact this
      ·simp[f0,f1]
       have:=hg' b2 c2 d2 f2
       rw[b3,c3,d3,f3]at this
       exact this
      ·simp[f0,f1]
       exact hb' (by simp[b2,c2,d2,f2]) _ _ _ _ _ (by omega)
     ·simp[d0,d1]
      exact hb' (by simp[b2,c2,d2]) _ _ _ _ _ (by omega)
    ·simp[c0,c1]
     exact hb' (by simp[b2,c2]) _ _ _ _ _ (by omega)
   ·simp[b0,b1]
    exact hb' (by simp[b2]) _ _ _ _ _ (by omega)
 ·have:=hb (by
   cases hk:rGd (.str ww)with
   |true=>exact absurd (ZzV hk) h2
   |false=>rfl) [] 0 0 0 0 (by simp)
  simp[Zms,hl2,AV.bx,Zab,h2]
  exact this
end Go.Proofs.YtkeoeooghhjibaaGreatDoor
/- Leaves of a tree. No condition. -/
namespace Go.Proofs.YtkeoeooghhjibaaGreatDoor
abbrev K61(C:Ctx)(R:AV):KT:=fun p=>Ev C p.1 p.2 (Zga 61 R none)
abbrev F61(R:AV):FT:=fun r' fr'=>Wk r' R∧fr'=none
structure Sh3 (ms ks rs:List AV):Prop where
 m:∀x∈ms,x.toS.length≤60000
 k:∀x∈ks,(x.cellAt 0).toS.length≤60000
 r:∀x∈rs,(x.cellAt 0).toS.length≤60000
 ml:ms.length≤60001
 kl:ks.length≤60001
 rl:rs.length≤60001
theorem Sh3.short{ms ks rs:List AV}(h:Sh3 ms ks rs):ZaH ms ks rs=true:=
 Zjm (fun x hx=>Nat.le_trans (h.m x hx) (by decide)) (fun x hx=>Nat.le_trans (h.k x hx) (by decide)) (fun x hx=>Nat.le_trans (h.r x hx) (by decide)) ⟨Nat.le_trans h.ml (by decide),Nat.le_trans h.kl (by decide),Nat.le_trans h.rl (by decide)⟩
def Zc8(ok:Bool)(ms ks rs:List AV):AV:=Zpd (if ok=true then Zaj ms ks rs else 7) ms ks rs
theorem Zrd(ms ks rs ms' ks' rs':List AV):Zc8 false ms ks rs=Zc8 false ms' ks' rs':=by simp[Zc8,Zpd]
theorem ZhR{R:AV}{ms ks rs:List AV}(h:R=Zc8 false ms ks rs):Wk (.tup [.agg (.gen [.nils, .nils, .nils]), .int .i64 7]) R:=by
 subst h;exact ZqG _ _ _ rfl (by decide)
theorem Zr7{R:AV}{ms ks rs:List AV}(h:R=Zc8 true ms ks rs)(h0:Zaj ms ks rs=0):Wk (.tup [.agg (.gen [.list (.big .str ms), .list (.big (.agg [.str, .int .i64]) ks), .list (.big (.agg [.str, .int .i64, .int .i64, .int .i64, .int .i64]) rs)]), .int .i64 0]) R:=by
 subst h;unfold Zc8;rw[if_pos rfl,okM _ _ _ h0];exact .same _
theorem Zo4{R:AV}{ms ks:List AV}(h:R=Zc8 true ms ks [])(h0:Zaj ms ks []=0):Wk (.tup [.agg (.gen [.list (.big .str ms), .list (.big (.agg [.str, .int .i64]) ks), .nils]), .int .i64 0]) R:=by
 subst h;unfold Zc8;rw[if_pos rfl];exact ZIS _ _ h0
theorem Zlv{R:AV}{ms ks rs:List AV}(h:R=Zc8 true ms ks rs)(h0:Zaj ms ks rs≠0):Wk (.tup [.agg (.gen [.nils, .nils, .nils]), .int .i64 (Zaj ms ks rs)]) R:=by
 subst h;unfold Zc8;rw[if_pos rfl];exact ZqG _ _ _ rfl h0
section
variable {C:Ctx}{R:AV}
theorem ZoY{x0 x1:List AV}{n2:Int}{x3:List AV}{n4:Int}{b6:Bool}{l7 l8 l13 l14:List UInt8}{b15:Bool}{l16 l17 l18 l19:List UInt8}{b20:Bool}{l21 l22:List UInt8}{x25:List AV}{l26 l30:List UInt8}{b31:Bool}{x32:List AV}{l:List UInt8}{a b c d:Int}(h:Sh3 x3 x25 (x32++[.agg (.gen [.str l, .int .i64 a, .int .i64 b, .int .i64 c, .int .i64 d])])){ms ks rs:List AV}(hR:R=Zc8 false ms ks rs):ZcM std (K61 C R) (F61 R) x0 x1 n2 x3 n4 b6 l7 l8 l13 l14 b15 l16 l17 l18 l19 b20 l21 l22 x25 l26 l30 b31 x32 (.agg (.gen [.str l, .int .i64 a, .int .i64 b, .int .i64 c, .int .i64 d])):=by
 have hs:=h.short
 have hl:=h.rl
 simp[ZcM,hs,Zao,AV.bx,Zab,ZeY]
 simp at hl
 first |exact⟨by omega,ZhR hR,rfl⟩ |exact⟨ZhR hR,rfl⟩
theorem Zwn{x0 x1:List AV}{n2:Int}{x3:List AV}{n4:Int}{b6:Bool}{l7 l8 l13 l14:List UInt8}{b15:Bool}{l16 l17 l18 l19:List UInt8}{b20:Bool}{l21 l22:List UInt8}{x25:List AV}{l26 l30:List UInt8}{b31:Bool}{x32:List AV}{l:List UInt8}{a b c d:Int}(h:Sh3 x3 x25 (x32++[.agg (.gen [.str l, .int .i64 a, .int .i64 b, .int .i64 c, .int .i64 d])]))(hR:R=Zc8 true x3 x25 (x32++[.agg (.gen [.str l, .int .i64 a, .int .i64 b, .int .i64 c, .int .i64 d])])):ZcG std (K61 C R) (F61 R) x0 x1 n2 x3 n4 b6 l7 l8 l13 l14 b15 l16 l17 l18 l19 b20 l21 l22 x25 l26 l30 b31 x32 (.agg (.gen [.str l, .int .i64 a, .int .i64 b, .int .i64 c, .int .i64 d])):=by
 have hs:=h.short
 have hl:=h.rl
 simp at hl
 by_cases h0:Zaj x3 x25 (x32++[.agg (.gen [.str l, .int .i64 a, .int .i64 b, .int .i64 c, .int .i64 d])])=0
 ·have:=Zr7 hR h0
  simp[ZcG,hs,Zao,AV.bx,Zab,ZeY,h0]
  first |exact⟨by omega,this,rfl⟩ |exact⟨this,rfl⟩
 ·have:=Zlv hR h0
  simp[ZcG,hs,Zao,AV.bx,Zab,ZeY,h0]
  first |exact⟨by omega,this,rfl⟩ |exact⟨this,rfl⟩
theorem ZvZ{x0 x1:List AV}{n2:Int}{x3:List AV}{n4:Int}{b6:Bool}{l7 l8 l13 l14:List UInt8}{b15:Bool}{l16 l17 l18 l19:List UInt8}{b20:Bool}{l21 l22 l23:List UInt8}{b24:Bool}{x25:List AV}{l26:List UInt8}{l:List UInt8}{a b c d:Int}(h:Sh3 x3 x25 ([.agg (.gen [.str l, .int .i64 a, .int .i64 b, .int .i64 c, .int .i64 d])])){ms ks rs:List AV}(hR:R=Zc8 false ms ks rs):ZcP std (K61 C R) (F61 R) x0 x1 n2 x3 n4 b6 l7 l8 l13 l14 b15 l16 l17 l18 l19 b20 l21 l22 l23 b24 x25 l26 (.agg (.gen [.str l, .int .i64 a, .int .i64 b, .int .i64 c, .int .i64 d])):=by
 have hs:=h.short
 have hl:=h.rl
 simp[ZcP,hs,Zao,AV.bx,Zab,ZeY]
 simp at hl
 first |exact⟨by omega,ZhR hR,rfl⟩ |exact⟨ZhR hR,rfl⟩
theorem ZD0{x0 x1:List AV}{n2:Int}{x3:List AV}{n4:Int}{b6:Bool}{l7 l8 l13 l14:List UInt8}{b15:Bool}{l16 l17 l18 l19:List UInt8}{b20:Bool}{l21 l22 l23:List UInt8}{b24:Bool}{x25:List AV}{l26:List UInt8}{l:List UInt8}{a b c d:Int}(h:Sh3 x3 x25 ([.agg (.gen [.str l, .int .i64 a, .int .i64 b, .int .i64 c, .int .i64 d])]))(hR:R=Zc8 true x3 x25 ([.agg (.gen [.str l, .int .i64 a, .int .i64 b, .int .i64 c, .int .i64 d])])):Zc1 std (K61 C R) (F61 R) x0 x1 n2 x3 n4 b6 l7 l8 l13 l14 b15 l16 l17 l18 l19 b20 l21 l22 l23 b24 x25 l26 (.agg (.gen [.str l, .int .i64 a, .int .i64 b, .int .i64 c, .int .i64 d])):=by
 have hs:=h.short
 have hl:=h.rl
 simp at hl
 by_cases h0:Zaj x3 x25 ([.agg (.gen [.str l, .int .i64 a, .int .i64 b, .int .i64 c, .int .i64 d])])=0
 ·have:=Zr7 hR h0
  simp[Zc1,hs,Zao,AV.bx,Zab,ZeY,h0]
  first |exact⟨by omega,this,rfl⟩ |exact⟨this,rfl⟩
 ·have:=Zlv hR h0
  simp[Zc1,hs,Zao,AV.bx,Zab,ZeY,h0]
  first |exact⟨by omega,this,rfl⟩ |exact⟨this,rfl⟩
theorem ZvH{x0 x1:List AV}{n2:Int}{x3:List AV}{n4:Int}{b6:Bool}{l7 l8 l13 l14:List UInt8}{b15:Bool}{l16 l17 l18 l19:List UInt8}{b20:Bool}{l21 l22:List UInt8}{x25:List AV}{l26 l30:List UInt8}{b31:Bool}{x32:List AV}{x t l:List UInt8}{a b c d:Int}(hi:ixS l30 [44]=x.length)(hl:l30.length=x.length+1+t.length)(hm:l30.length≤60000)(t2:sub3 l30 (x.length+1) (l30.length-(x.length+1))=t)(hx:x32.length≤60001)(ih:Ev C (ZbQ x0 x1 n2 x3 n4 b6 l7 l8 l13 l14 b15 l16 l17 l18 l19 b20 l21 l22 x25 l26 (t) (false) (x32++[.agg (.gen [.str l, .int .i64 a, .int .i64 b, .int .i64 c, .int .i64 d])])) (Zbv x0 x1 n2 x3 n4 b6 l7 l8 l13 l14 b15 l16 l17 l18 l19 b20 l21 l22 x25 l26 (t) (false) (x32++[.agg (.gen [.str l, .int .i64 a, .int .i64 b, .int .i64 c, .int .i64 d])])) (Zga 61 R none)):ZcE std (K61 C R) (F61 R) x0 x1 n2 x3 n4 b6 l7 l8 l13 l14 b15 l16 l17 l18 l19 b20 l21 l22 x25 l26 l30 b31 x32 (.agg (.gen [.str l, .int .i64 a, .int .i64 b, .int .i64 c, .int .i64 d])):=by
 have e2:((x.length:Int)+1).toNat=x.length+1:=by omega
 simp[ZcE,hi,AV.bx,Zab,ZeY,Zda,e2,t2]
 repeat refine⟨by omega,?_⟩
 simpa using ih
theorem ZAp{x0 x1:List AV}{n2:Int}{x3:List AV}{n4:Int}{b6:Bool}{l7 l8 l13 l14:List UInt8}{b15:Bool}{l16 l17 l18 l19:List UInt8}{b20:Bool}{l21 l22:List UInt8}{x25:List AV}{l26 l30:List UInt8}{b31:Bool}{x32:List AV}{x t l:List UInt8}{a b c d:Int}(hi:ixS l30 [44]=x.length)(hl:l30.length=x.length+1+t.length)(hm:l30.length≤60000)(t2:sub3 l30 (x.length+1) (l30.length-(x.length+1))=t)(hx:x32.length≤60001)(ih:Ev C (ZbQ x0 x1 n2 x3 n4 b6 l7 l8 l13 l14 b15 l16 l17 l18 l19 b20 l21 l22 x25 l26 (t) (true) (x32++[.agg (.gen [.str l, .int .i64 a, .int .i64 b, .int .i64 c, .int .i64 d])])) (Zbv x0 x1 n2 x3 n4 b6 l7 l8 l13 l14 b15 l16 l17 l18 l19 b20 l21 l22 x25 l26 (t) (true) (x32++[.agg (.gen [.str l, .int .i64 a, .int .i64 b, .int .i64 c, .int .i64 d])])) (Zga 61 R none)):ZdR std (K61 C R) (F61 R) x0 x1 n2 x3 n4 b6 l7 l8 l13 l14 b15 l16 l17 l18 l19 b20 l21 l22 x25 l26 l30 b31 x32 (.agg (.gen [.str l, .int .i64 a, .int .i64 b, .int .i64 c, .int .i64 d])):=by
 have e2:((x.length:Int)+1).toNat=x.length+1:=by omega
 simp[ZdR,hi,AV.bx,Zab,ZeY,Zda,e2,t2]
 repeat refine⟨by omega,?_⟩
 simpa using ih
theorem ZvJ{x0 x1:List AV}{n2:Int}{x3:List AV}{n4:Int}{b6:Bool}{l7 l8 l13 l14:List UInt8}{b15:Bool}{l16 l17 l18 l19:List UInt8}{b20:Bool}{l21 l22 l23:List UInt8}{b24:Bool}{x25:List AV}{l26:List UInt8}{x t l:List UInt8}{a b c d:Int}(hi:ixS l23 [44]=x.length)(hl:l23.length=x.length+1+t.length)(hm:l23.length≤60000)(t2:sub3 l23 (x.length+1) (l23.length-(x.length+1))=t)(ih:Ev C (ZbQ x0 x1 n2 x3 n4 b6 l7 l8 l13 l14 b15 l16 l17 l18 l19 b20 l21 l22 x25 l26 (t) (false) ([.agg (.gen [.str l, .int .i64 a, .int .i64 b, .int .i64 c, .int .i64 d])])) (Zbv x0 x1 n2 x3 n4 b6 l7 l8 l13 l14 b15 l16 l17 l18 l19 b20 l21 l22 x25 l26 (t) (false) ([.agg (.gen [.str l, .int .i64 a, .int .i64 b, .int .i64 c, .int .i64 d])])) (Zga 61 R none)):ZcQ std (K61 C R) (F61 R) x0 x1 n2 x3 n4 b6 l7 l8 l13 l14 b15 l16 l17 l18 l19 b20 l21 l22 l23 b24 x25 l26 (.agg (.gen [.str l, .int .i64 a, .int .i64 b, .int .i64 c, .int .i64 d])):=by
 have e2:((x.length:Int)+1).toNat=x.length+1:=by omega
 simp[ZcQ,hi,AV.bx,Zab,ZeY,Zda,e2,t2]
 repeat refine⟨by omega,?_⟩
 simpa using ih
theorem ZB4{x0 x1:List AV}{n2:Int}{x3:List AV}{n4:Int}{b6:Bool}{l7 l8 l13 l14:List UInt8}{b15:Bool}{l16 l17 l18 l19:List UInt8}{b20:Bool}{l21 l22 l23:List UInt8}{b24:Bool}{x25:List AV}{l26:List UInt8}{x t l:List UInt8}{a b c d:Int}(hi:ixS l23 [44]=x.length)(hl:l23.length=x.length+1+t.length)(hm:l23.length≤60000)(t2:sub3 l23 (x.length+1) (l23.length-(x.length+1))=t)(ih:Ev C (ZbQ x0 x1 n2 x3 n4 b6 l7 l8 l13 l14 b15 l16 l17 l18 l19 b20 l21 l22 x25 l26 (t) (true) ([.agg (.gen [.str l, .int .i64 a, .int .i64 b, .int .i64 c, .int .i64 d])])) (Zbv x0 x1 n2 x3 n4 b6 l7 l8 l13 l14 b15 l16 l17 l18 l19 b20 l21 l22 x25 l26 (t) (true) ([.agg (.gen [.str l, .int .i64 a, .int .i64 b, .int .i64 c, .int .i64 d])])) (Zga 61 R none)):Zel std (K61 C R) (F61 R) x0 x1 n2 x3 n4 b6 l7 l8 l13 l14 b15 l16 l17 l18 l19 b20 l21 l22 l23 b24 x25 l26 (.agg (.gen [.str l, .int .i64 a, .int .i64 b, .int .i64 c, .int .i64 d])):=by
 have e2:((x.length:Int)+1).toNat=x.length+1:=by omega
 simp[Zel,hi,AV.bx,Zab,ZeY,Zda,e2,t2]
 repeat refine⟨by omega,?_⟩
 simpa using ih
theorem ZvW{x0 x1:List AV}{n2:Int}{x3:List AV}{n4:Int}{b6:Bool}{l7 l8:List UInt8}{b9:Bool}{l10 l11 l27:List UInt8}{b28:Bool}{x29:List AV}{x t l:List UInt8}{a:Int}(hi:ixS l27 [44]=x.length)(hl:l27.length=x.length+1+t.length)(hm:l27.length≤60000)(t2:sub3 l27 (x.length+1) (l27.length-(x.length+1))=t)(hx:x29.length≤60001)(ih:Ev C (ZbN x0 x1 n2 x3 n4 b6 l7 l8 b9 l10 l11 (t) (false) (x29++[.agg (.gen [.str l, .int .i64 a])])) (Zbw x0 x1 n2 x3 n4 b6 l7 l8 b9 l10 l11 (t) (false) (x29++[.agg (.gen [.str l, .int .i64 a])])) (Zga 61 R none)):ZcW std (K61 C R) (F61 R) x0 x1 n2 x3 n4 b6 l7 l8 b9 l10 l11 l27 b28 x29 (.agg (.gen [.str l, .int .i64 a])):=by
 have e2:((x.length:Int)+1).toNat=x.length+1:=by omega
 simp[ZcW,hi,AV.bx,Zab,ZeY,Zda,e2,t2]
 repeat refine⟨by omega,?_⟩
 simpa using ih
theorem ZAY{x0 x1:List AV}{n2:Int}{x3:List AV}{n4:Int}{b6:Bool}{l7 l8:List UInt8}{b9:Bool}{l10 l11 l27:List UInt8}{b28:Bool}{x29:List AV}{x t l:List UInt8}{a:Int}(hi:ixS l27 [44]=x.length)(hl:l27.length=x.length+1+t.length)(hm:l27.length≤60000)(t2:sub3 l27 (x.length+1) (l27.length-(x.length+1))=t)(hx:x29.length≤60001)(ih:Ev C (ZbN x0 x1 n2 x3 n4 b6 l7 l8 b9 l10 l11 (t) (true) (x29++[.agg (.gen [.str l, .int .i64 a])])) (Zbw x0 x1 n2 x3 n4 b6 l7 l8 b9 l10 l11 (t) (true) (x29++[.agg (.gen [.str l, .int .i64 a])])) (Zga 61 R none)):Zev std (K61 C R) (F61 R) x0 x1 n2 x3 n4 b6 l7 l8 b9 l10 l11 l27 b28 x29 (.agg (.gen [.str l, .int .i64 a])):=by
 have e2:((x.length:Int)+1).toNat=x.length+1:=by omega
 simp[Zev,hi,AV.bx,Zab,ZeY,Zda,e2,t2]
 repeat refine⟨by omega,?_⟩
 simpa using ih
theorem Zwm{x0 x1:List AV}{n2:Int}{x3:List AV}{n4:Int}{b5 b6:Bool}{l7 l8:List UInt8}{b9:Bool}{l10 l11 l12:List UInt8}{x t l:List UInt8}{a:Int}(hi:ixS l12 [44]=x.length)(hl:l12.length=x.length+1+t.length)(hm:l12.length≤60000)(t2:sub3 l12 (x.length+1) (l12.length-(x.length+1))=t)(ih:Ev C (ZbN x0 x1 n2 x3 n4 b6 l7 l8 b9 l10 l11 (t) (false) ([.agg (.gen [.str l, .int .i64 a])])) (Zbw x0 x1 n2 x3 n4 b6 l7 l8 b9 l10 l11 (t) (false) ([.agg (.gen [.str l, .int .i64 a])])) (Zga 61 R none)):Zc2 std (K61 C R) (F61 R) x0 x1 n2 x3 n4 b5 b6 l7 l8 b9 l10 l11 l12 (.agg (.gen [.str l, .int .i64 a])):=by
 have e2:((x.length:Int)+1).toNat=x.length+1:=by omega
 simp[Zc2,hi,AV.bx,Zab,ZeY,Zda,e2,t2]
 repeat refine⟨by omega,?_⟩
 simpa using ih
theorem ZAX{x0 x1:List AV}{n2:Int}{x3:List AV}{n4:Int}{b5 b6:Bool}{l7 l8:List UInt8}{b9:Bool}{l10 l11 l12:List UInt8}{x t l:List UInt8}{a:Int}(hi:ixS l12 [44]=x.length)(hl:l12.length=x.length+1+t.length)(hm:l12.length≤60000)(t2:sub3 l12 (x.length+1) (l12.length-(x.length+1))=t)(ih:Ev C (ZbN x0 x1 n2 x3 n4 b6 l7 l8 b9 l10 l11 (t) (true) ([.agg (.gen [.str l, .int .i64 a])])) (Zbw x0 x1 n2 x3 n4 b6 l7 l8 b9 l10 l11 (t) (true) ([.agg (.gen [.str l, .int .i64 a])])) (Zga 61 R none)):Zd3 std (K61 C R) (F61 R) x0 x1 n2 x3 n4 b5 b6 l7 l8 b9 l10 l11 l12 (.agg (.gen [.str l, .int .i64 a])):=by
 have e2:((x.length:Int)+1).toNat=x.length+1:=by omega
 simp[Zd3,hi,AV.bx,Zab,ZeY,Zda,e2,t2]
 repeat refine⟨by omega,?_⟩
 simpa using ih
theorem ZoH{x0 x1:List AV}{n2:Int}{x3:List AV}{n4:Int}{b6:Bool}{l7 l8:List UInt8}{b9:Bool}{l10 l11 l27:List UInt8}{b28:Bool}{x29:List AV}{l:List UInt8}{a:Int}(h:Sh3 x3 (x29++[.agg (.gen [.str l, .int .i64 a])]) [])(hp:2<x0.length){ms ks rs:List AV}(hR:((x0.getD 2 .top).toS)=[]→R=Zc8 false ms ks rs)(ih:((x0.getD 2 .top).toS)≠[]→∀q15 q20:Bool,Ev C (Zbz (x0) (x1) (n2) (x3) (n4) (b6) (l7) (l8) ((x0.getD 2 .top).toS) ((x0.getD 2 .top).toS) q15 ((x0.getD 2 .top).toS) ((x0.getD 2 .top).toS) ((x0.getD 2 .top).toS) ((x0.getD 2 .top).toS) q20 ((x0.getD 2 .top).toS) ((x0.getD 2 .top).toS) ((x0.getD 2 .top).toS) (false) (x29++[.agg (.gen [.str l, .int .i64 a])]) (l27)) (Zbe (x0) (x1) (n2) (x3) (n4) (b6) (l7) (l8) ((x0.getD 2 .top).toS) ((x0.getD 2 .top).toS) q15 ((x0.getD 2 .top).toS) ((x0.getD 2 .top).toS) ((x0.getD 2 .top).toS) ((x0.getD 2 .top).toS) q20 ((x0.getD 2 .top).toS) ((x0.getD 2 .top).toS) ((x0.getD 2 .top).toS) (false) (x29++[.agg (.gen [.str l, .int .i64 a])]) (l27)) (Zga 61 R none)):Zb0 std (K61 C R) (F61 R) x0 x1 n2 x3 n4 b6 l7 l8 b9 l10 l11 l27 b28 x29 (.agg (.gen [.str l, .int .i64 a])):=by
 have hs:=h.short
 have hl:=h.kl
 simp at hl
 by_cases hq:((x0.getD 2 .top).toS)=[]
 ·have hR:=hR hq
  simp[-List.getD_eq_getElem?_getD,Zb0,hs,Zao,AV.bx,Zab,Zda,hp,hq]
  first |exact⟨by omega,ZhR hR,rfl⟩ |exact⟨ZhR hR,rfl⟩
 ·have ih:=ih hq
  simp[-List.getD_eq_getElem?_getD,Zb0,hs,Zao,AV.bx,Zab,Zda,hp,hq]
  first |exact⟨by omega,ih _ _⟩ |exact ih _ _
theorem Zwl{x0 x1:List AV}{n2:Int}{x3:List AV}{n4:Int}{b6:Bool}{l7 l8:List UInt8}{b9:Bool}{l10 l11 l27:List UInt8}{b28:Bool}{x29:List AV}{l:List UInt8}{a:Int}(h:Sh3 x3 (x29++[.agg (.gen [.str l, .int .i64 a])]) [])(hp:2<x0.length)(hR:((x0.getD 2 .top).toS)=[]→R=Zc8 true x3 (x29++[.agg (.gen [.str l, .int .i64 a])]) [])(ih:((x0.getD 2 .top).toS)≠[]→∀q15 q20:Bool,Ev C (Zbz (x0) (x1) (n2) (x3) (n4) (b6) (l7) (l8) ((x0.getD 2 .top).toS) ((x0.getD 2 .top).toS) q15 ((x0.getD 2 .top).toS) ((x0.getD 2 .top).toS) ((x0.getD 2 .top).toS) ((x0.getD 2 .top).toS) q20 ((x0.getD 2 .top).toS) ((x0.getD 2 .top).toS) ((x0.getD 2 .top).toS) (true) (x29++[.agg (.gen [.str l, .int .i64 a])]) (l27)) (Zbe (x0) (x1) (n2) (x3) (n4) (b6) (l7) (l8) ((x0.getD 2 .top).toS) ((x0.getD 2 .top).toS) q15 ((x0.getD 2 .top).toS) ((x0.getD 2 .top).toS) ((x0.getD 2 .top).toS) ((x0.getD 2 .top).toS) q20 ((x0.getD 2 .top).toS) ((x0.getD 2 .top).toS) ((x0.getD 2 .top).toS) (true) (x29++[.agg (.gen [.str l, .int .i64 a])]) (l27)) (Zga 61 R none)):Zb8 std (K61 C R) (F61 R) x0 x1 n2 x3 n4 b6 l7 l8 b9 l10 l11 l27 b28 x29 (.agg (.gen [.str l, .int .i64 a])):=by
 have hs:=h.short
 have hl:=h.kl
 simp at hl
 by_cases hq:((x0.getD 2 .top).toS)=[]
 ·have hR:=hR hq
  by_cases h0:Zaj x3 (x29++[.agg (.gen [.str l, .int .i64 a])]) []=0
  ·have:=Zo4 hR h0
   simp[-List.getD_eq_getElem?_getD,Zb8,hs,Zao,AV.bx,Zab,Zda,hp,hq,h0]
   first |exact⟨by omega,this,rfl⟩ |exact⟨this,rfl⟩
  ·have:=Zlv hR h0
   simp[-List.getD_eq_getElem?_getD,Zb8,hs,Zao,AV.bx,Zab,Zda,hp,hq,h0]
   first |exact⟨by omega,this,rfl⟩ |exact⟨this,rfl⟩
 ·have ih:=ih hq
  simp[-List.getD_eq_getElem?_getD,Zb8,hs,Zao,AV.bx,Zab,Zda,hp,hq]
  first |exact⟨by omega,ih _ _⟩ |exact ih _ _
theorem ZvB{x0 x1:List AV}{n2:Int}{x3:List AV}{n4:Int}{b5 b6:Bool}{l7 l8:List UInt8}{b9:Bool}{l10 l11 l12:List UInt8}{l:List UInt8}{a:Int}(h:Sh3 x3 ([.agg (.gen [.str l, .int .i64 a])]) [])(hp:2<x0.length){ms ks rs:List AV}(hR:((x0.getD 2 .top).toS)=[]→R=Zc8 false ms ks rs)(ih:((x0.getD 2 .top).toS)≠[]→∀q15 q20:Bool,Ev C (Zbz (x0) (x1) (n2) (x3) (n4) (b6) (l7) (l8) ((x0.getD 2 .top).toS) ((x0.getD 2 .top).toS) q15 ((x0.getD 2 .top).toS) ((x0.getD 2 .top).toS) ((x0.getD 2 .top).toS) ((x0.getD 2 .top).toS) q20 ((x0.getD 2 .top).toS) ((x0.getD 2 .top).toS) ((x0.getD 2 .top).toS) (false) ([.agg (.gen [.str l, .int .i64 a])]) (l12)) (Zbe (x0) (x1) (n2) (x3) (n4) (b6) (l7) (l8) ((x0.getD 2 .top).toS) ((x0.getD 2 .top).toS) q15 ((x0.getD 2 .top).toS) ((x0.getD 2 .top).toS) ((x0.getD 2 .top).toS) ((x0.getD 2 .top).toS) q20 ((x0.getD 2 .top).toS) ((x0.getD 2 .top).toS) ((x0.getD 2 .top).toS) (false) ([.agg (.gen [.str l, .int .i64 a])]) (l12)) (Zga 61 R none)):Zb3 std (K61 C R) (F61 R) x0 x1 n2 x3 n4 b5 b6 l7 l8 b9 l10 l11 l12 (.agg (.gen [.str l, .int .i64 a])):=by
 have hs:=h.short
 have hl:=h.kl
 simp at hl
 by_cases hq:((x0.getD 2 .top).toS)=[]
 ·have hR:=hR hq
  simp[-List.getD_eq_getElem?_getD,Zb3,hs,Zao,AV.bx,Zab,Zda,hp,hq]
  first |exact⟨by omega,ZhR hR,rfl⟩ |exact⟨ZhR hR,rfl⟩
 ·have ih:=ih hq
  simp[-List.getD_eq_getElem?_getD,Zb3,hs,Zao,AV.bx,Zab,Zda,hp,hq]
  first |exact⟨by omega,ih _ _⟩ |exact ih _ _
theorem ZEJ{x0 x1:List AV}{n2:Int}{x3:List AV}{n4:Int}{b5 b6:Bool}{l7 l8:List UInt8}{b9:Bool}{l10 l11 l12:List UInt8}{l:List UInt8}{a:Int}(h:Sh3 x3 ([.agg (.gen [.str l, .int .i64 a])]) [])(hp:2<x0.length)(hR:((x0.getD 2 .top).toS)=[]→R=Zc8 true x3 ([.agg (.gen [.str l, .int .i64 a])]) [])(ih:((x0.getD 2 .top).toS)≠[]→∀q15 q20:Bool,Ev C (Zbz (x0) (x1) (n2) (x3) (n4) (b6) (l7) (l8) ((x0.getD 2 .top).toS) ((x0.getD 2 .top).toS) q15 ((x0.getD 2 .top).toS) ((x0.getD 2 .top).toS) ((x0.getD 2 .top).toS) ((x0.getD 2 .top).toS) q20 ((x0.getD 2 .top).toS) ((x0.getD 2 .top).toS) ((x0.getD 2 .top).toS) (true) ([.agg (.gen [.str l, .int .i64 a])]) (l12)) (Zbe (x0) (x1) (n2) (x3) (n4) (b6) (l7) (l8) ((x0.getD 2 .top).toS) ((x0.getD 2 .top).toS) q15 ((x0.getD 2 .top).toS) ((x0.getD 2 .top).toS) ((x0.getD 2 .top).toS) ((x0.getD 2 .top).toS) q20 ((x0.getD 2 .top).toS) ((x0.getD 2 .top).toS) ((x0.getD 2 .top).toS) (true) ([.agg (.gen [.str l, .int .i64 a])]) (l12)) (Zga 61 R none)):ZbX std (K61 C R) (F61 R) x0 x1 n2 x3 n4 b5 b6 l7 l8 b9 l10 l11 l12 (.agg (.gen [.str l, .int .i64 a])):=by
 have hs:=h.short
 have hl:=h.kl
 simp at hl
 by_cases hq:((x0.getD 2 .top).toS)=[]
 ·have hR:=hR hq
  by_cases h0:Zaj x3 ([.agg (.gen [.str l, .int .i64 a])]) []=0
  ·have:=Zo4 hR h0
   simp[-List.getD_eq_getElem?_getD,ZbX,hs,Zao,AV.bx,Zab,Zda,hp,hq,h0]
   first |exact⟨by omega,this,rfl⟩ |exact⟨this,rfl⟩
  ·have:=Zlv hR h0
   simp[-List.getD_eq_getElem?_getD,ZbX,hs,Zao,AV.bx,Zab,Zda,hp,hq,h0]
   first |exact⟨by omega,this,rfl⟩ |exact⟨this,rfl⟩
 ·have ih:=ih hq
  simp[-List.getD_eq_getElem?_getD,ZbX,hs,Zao,AV.bx,Zab,Zda,hp,hq]
  first |exact⟨by omega,ih _ _⟩ |exact ih _ _
end
end Go.Proofs.YtkeoeooghhjibaaGreatDoor
/- Contracts as a list. No condition. -/
namespace Go.Proofs.YtkeoeooghhjibaaGreatDoor
def kW(w:List UInt8):AV:=kOf (.str w)
def rW(w:List UInt8):AV:=rOf (.str w)
def kg(w:List UInt8):Bool:=kGd (.str w)
def rg(w:List UInt8):Bool:=rGd (.str w)
def rlW(p:List AV):List (List UInt8):=if(p.getD 2 .top).toS=[]then []else Zbb 44 (p.getD 2 .top).toS
theorem Zb4{R:AV}{ok:Bool}{a b c:List AV}(hR:R=Zc8 ok a b c)(h:ok=false):R=Zc8 false [] [] []:=by
 rw[hR,h];exact Zrd ..
theorem ZfR{R:AV}(h:R=Zc8 false [] [] []){ok:Bool}(hk:ok=false)(a b c:List AV):R=Zc8 ok a b c:=by
 rw[h,hk];exact Zrd ..
theorem ZhN{w:List UInt8}(h:w.length≤60000):((kW w).cellAt 0).toS.length≤60000:=ZsI (x:=.str w) h
theorem ZmJ{w:List UInt8}(h:w.length≤60000):((rW w).cellAt 0).toS.length≤60000:=ZrI (x:=.str w) h
theorem Sh3.addR{ms ks rs:List AV}{x:AV}(h:Sh3 ms ks rs)(hl:rs.length≤60000)(hx:(x.cellAt 0).toS.length≤60000):Sh3 ms ks (rs++[x]):=
 ⟨h.m,h.k,fun y hy=>by
   rcases List.mem_append.1 hy with hy |hy
   ·exact h.r y hy
   ·obtain rfl:=List.mem_singleton.1 hy;exact hx,h.ml,h.kl,by simp;omega⟩
theorem Sh3.addK{ms ks rs:List AV}{x:AV}(h:Sh3 ms ks rs)(hl:ks.length≤60000)(hx:(x.cellAt 0).toS.length≤60000):Sh3 ms (ks++[x]) rs:=
 ⟨h.m,fun y hy=>by
   rcases List.mem_append.1 hy with hy |hy
   ·exact h.k y hy
   ·obtain rfl:=List.mem_singleton.1 hy;exact hx,h.r,h.ml,by simp;omega,h.rl⟩
section
variable {C:Ctx}(hC:C.P=Tryz.prog){R:AV}
include hC
theorem r_d{x0 x1:List AV}{n2:Int}{x3:List AV}{n4:Int}{b6:Bool}{l7 l8 l13 l14:List UInt8}{b15:Bool}{l16 l17 l18 l19:List UInt8}{b20:Bool}{l21 l22:List UInt8}{x25:List AV}{l26:List UInt8} :∀(n:Nat) (l30:List UInt8) (b31:Bool) (x32:List AV),l30.length≤n→Sh3 x3 x25 x32→x32.length+l30.length≤60000→R=Zc8 (b31&&(Zbb 44 l30).all rg) x3 x25 (x32++(Zbb 44 l30).map rW)→Ev C (ZbQ x0 x1 n2 x3 n4 b6 l7 l8 l13 l14 b15 l16 l17 l18 l19 b20 l21 l22 x25 l26 l30 b31 x32) (Zbv x0 x1 n2 x3 n4 b6 l7 l8 l13 l14 b15 l16 l17 l18 l19 b20 l21 l22 x25 l26 l30 b31 x32) (Zga 61 R none):=by
 intro n
 induction n with
 |zero=>
  intro l30 b31 x32 hn h3 hl hR
  obtain rfl:l30=[]:=List.eq_nil_of_length_eq_zero (by omega)
  refine Zl3 hC Ze7 Zjc ?_
  have h1:(44:UInt8)∉([]:List UInt8):=by simp
  have hi:ixS [] [44]= -1:=by unfold ixS;simp[Lib.index]
  have hl6:([]:List UInt8).length≤1000000:=by simp
  have hw:([]:List UInt8).length≤60000:=by simp
  have hlx:x32.length≤60000:=by omega
  rw[ZcJ 44 [] h1]at hR
  cases b31 with
  |false=>
   simp[Zbx,hi,hl6]
   exact ZoY (h3.addR hlx (by simp[AV.cellAt,AV.flat,AV.toS])) (Zb4 hR (by simp))
  |true=>
   simp[Zbx,hi,hl6]
   refine ZfQ hw (fun hg=>?_) (fun hg l n m o q hql=>?_)
   ·exact Zwn (h3.addR hlx (ZmJ hw)) (by rw[hR];simp[rg,hg]:R=Zc8 true x3 x25 (x32++[rW []]))
   ·exact ZoY (h3.addR hlx (hql)) (Zb4 hR (by simp[rg,hg]))
 |succ n ih=>
  intro l30 b31 x32 hn h3 hl hR
  refine Zl3 hC Ze7 Zjc ?_
  have hl6:l30.length≤1000000:=by omega
  have hw:l30.length≤60000:=by omega
  have hlx:(x32:List AV).length≤60000:=by first |omega |simp
  rcases ZdZ 44 l30 with⟨h1,h2⟩ |⟨x,t,h1,h2,h3'⟩
  ·have hi:ixS l30 [44]= -1:=by unfold ixS;exact h2
   rw[ZcJ 44 l30 h1]at hR
   cases b31 with
   |false=>
    simp[Zbx,hi,hl6]
    exact ZoY (h3.addR hlx (by simp[AV.cellAt,AV.flat,AV.toS])) (Zb4 hR (by simp))
   |true=>
    simp[Zbx,hi,hl6]
    refine ZfQ hw (fun hg=>?_) (fun hg l n m o q hql=>?_)
    ·exact Zwn (h3.addR hlx (ZmJ hw)) (by rw[hR];simp[rg,hg]:R=Zc8 true x3 x25 (x32++[rW l30]))
    ·exact ZoY (h3.addR hlx (hql)) (Zb4 hR (by simp[rg,hg]))
  ·have hi:ixS l30 [44]=x.length:=by unfold ixS;exact h3'
   obtain⟨s1,s2⟩:=ZlP (x:=x) (t:=t) (c:=44)
   have hlx2:l30.length=x.length+1+t.length:=by rw[h1];simp;omega
   have hcut:Zbb 44 l30=x::Zbb 44 t:=by rw[h1];exact ZeQ 44 x t h2
   rw[hcut,List.all_cons,List.map_cons]at hR
   rw[←h1]at s1 s2
   rw[Nat.sub_zero]at s1
   have t1:sub3 l30 0 x.length=x:=s1
   have t2:sub3 l30 (x.length+1) (l30.length-(x.length+1))=t:=s2
   have n0:¬(x.length:Int)<0:=by omega
   have hx6:x.length≤60000:=by omega
   have hlx1:(x32:List AV).length≤60001:=by omega
   cases b31 with
   |false=>
    simp[Zbx,hi,hl6,n0,t1]
    repeat refine⟨by omega,?_⟩
    exact ZvH hi hlx2 hw t2 hlx1 (ih t _ _ (by omega) (h3.addR hlx (by simp[AV.cellAt,AV.flat,AV.toS])) (by simp;omega) (ZfR (Zb4 hR (by simp)) (by simp) _ _ _))
   |true=>
    simp[Zbx,hi,hl6,n0,t1]
    repeat refine⟨by omega,?_⟩
    refine ZfQ hx6 (fun hg=>?_) (fun hg l n m o q hql=>?_)
    ·exact ZAp hi hlx2 hw t2 hlx1 (ih t _ _ (by omega) (h3.addR hlx (ZmJ hx6)) (by simp;omega) (by rw[hR];simp[rg,hg]:R=Zc8 (true&&(Zbb 44 t).all rg) x3 x25 ((x32++[rW x])++(Zbb 44 t).map rW)))
    ·exact ZvH hi hlx2 hw t2 hlx1 (ih t _ _ (by omega) (h3.addR hlx (hql)) (by simp;omega) (ZfR (Zb4 hR (by simp[rg,hg])) (by simp) _ _ _))
theorem r_b{x0 x1:List AV}{n2:Int}{x3:List AV}{n4:Int}{b6:Bool}{l7 l8 l13 l14:List UInt8}{b15:Bool}{l16 l17 l18 l19:List UInt8}{b20:Bool}{l21 l22 l23:List UInt8}{b24:Bool}{x25:List AV}{l26:List UInt8}(h3:Sh3 x3 x25 [])(hl:l23.length≤60000)(hR:R=Zc8 (b24&&(Zbb 44 l23).all rg) x3 x25 ((Zbb 44 l23).map rW)):Ev C (Zbz x0 x1 n2 x3 n4 b6 l7 l8 l13 l14 b15 l16 l17 l18 l19 b20 l21 l22 l23 b24 x25 l26) (Zbe x0 x1 n2 x3 n4 b6 l7 l8 l13 l14 b15 l16 l17 l18 l19 b20 l21 l22 l23 b24 x25 l26) (Zga 61 R none):=by
 refine Zl3 hC Ze7 Zn9 ?_
 have hl6:l23.length≤1000000:=by omega
 have hw:l23.length≤60000:=by omega
 have hlx:([]:List AV).length≤60000:=by first |omega |simp
 rcases ZdZ 44 l23 with⟨h1,h2⟩ |⟨x,t,h1,h2,h3'⟩
 ·have hi:ixS l23 [44]= -1:=by unfold ixS;exact h2
  rw[ZcJ 44 l23 h1]at hR
  cases b24 with
  |false=>
   simp[Zcr,hi,hl6]
   exact ZvZ (h3.addR hlx (by simp[AV.cellAt,AV.flat,AV.toS])) (Zb4 hR (by simp))
  |true=>
   simp[Zcr,hi,hl6]
   refine ZfQ hw (fun hg=>?_) (fun hg l n m o q hql=>?_)
   ·exact ZD0 (h3.addR hlx (ZmJ hw)) (by rw[hR];simp[rg,hg]:R=Zc8 true x3 x25 ([rW l23]))
   ·exact ZvZ (h3.addR hlx (hql)) (Zb4 hR (by simp[rg,hg]))
 ·have hi:ixS l23 [44]=x.length:=by unfold ixS;exact h3'
  obtain⟨s1,s2⟩:=ZlP (x:=x) (t:=t) (c:=44)
  have hlx2:l23.length=x.length+1+t.length:=by rw[h1];simp;omega
  have hcut:Zbb 44 l23=x::Zbb 44 t:=by rw[h1];exact ZeQ 44 x t h2
  rw[hcut,List.all_cons,List.map_cons]at hR
  rw[←h1]at s1 s2
  rw[Nat.sub_zero]at s1
  have t1:sub3 l23 0 x.length=x:=s1
  have t2:sub3 l23 (x.length+1) (l23.length-(x.length+1))=t:=s2
  have n0:¬(x.length:Int)<0:=by omega
  have hx6:x.length≤60000:=by omega
  have hlx1:([]:List AV).length≤60001:=by omega
  cases b24 with
  |false=>
   simp[Zcr,hi,hl6,n0,t1]
   repeat refine⟨by omega,?_⟩
   exact ZvJ hi hlx2 hw t2 (r_d hC t.length t _ _ (Nat.le_refl _) (h3.addR hlx (by simp[AV.cellAt,AV.flat,AV.toS])) (by simp;omega) (ZfR (Zb4 hR (by simp)) (by simp) _ _ _))
  |true=>
   simp[Zcr,hi,hl6,n0,t1]
   repeat refine⟨by omega,?_⟩
   refine ZfQ hx6 (fun hg=>?_) (fun hg l n m o q hql=>?_)
   ·exact ZB4 hi hlx2 hw t2 (r_d hC t.length t _ _ (Nat.le_refl _) (h3.addR hlx (ZmJ hx6)) (by simp;omega) (by rw[hR];simp[rg,hg]:R=Zc8 (true&&(Zbb 44 t).all rg) x3 x25 (([rW x])++(Zbb 44 t).map rW)))
   ·exact ZvJ hi hlx2 hw t2 (r_d hC t.length t _ _ (Nat.le_refl _) (h3.addR hlx (hql)) (by simp;omega) (ZfR (Zb4 hR (by simp[rg,hg])) (by simp) _ _ _))
theorem rbx{x0 x1:List AV}{n2:Int}{x3:List AV}{n4:Int}{b6:Bool}{l7 l8 l13 l14:List UInt8}{b15:Bool}{l16 l17 l18 l19:List UInt8}{b20:Bool}{l21 l22 l23:List UInt8}{b24:Bool}{x25:List AV}{l26:List UInt8}(h3:Sh3 x3 x25 [])(hl:l23.length≤60000)(hR:R=Zc8 (b24&&(Zbb 44 l23).all rg) x3 x25 ((Zbb 44 l23).map rW)):Ev C (Zbz x0 x1 n2 x3 n4 b6 l7 l8 l13 l14 b15 l16 l17 l18 l19 b20 l21 l22 l23 b24 x25 l26) (Zbe x0 x1 n2 x3 n4 b6 l7 l8 l13 l14 b15 l16 l17 l18 l19 b20 l21 l22 l23 b24 x25 l26) (Zga 61 R none):=r_b hC h3 hl hR
theorem k_c{x0 x1:List AV}{n2:Int}{x3:List AV}{n4:Int}{b6:Bool}{l7 l8:List UInt8}{b9:Bool}{l10 l11:List UInt8}(hp:2<x0.length)(hp2:(x0.getD 2 .top).toS.length≤60000):∀(n:Nat) (l27:List UInt8) (b28:Bool) (x29:List AV),l27.length≤n→Sh3 x3 x29 []→x29.length+l27.length≤60000→R=Zc8 ((b28&&(Zbb 44 l27).all kg)&&(rlW x0).all rg) x3 (x29++(Zbb 44 l27).map kW) ((rlW x0).map rW)→Ev C (ZbN x0 x1 n2 x3 n4 b6 l7 l8 b9 l10 l11 l27 b28 x29) (Zbw x0 x1 n2 x3 n4 b6 l7 l8 b9 l10 l11 l27 b28 x29) (Zga 61 R none):=by
 intro n
 induction n with
 |zero=>
  intro l27 b28 x29 hn h3 hl hR
  obtain rfl:l27=[]:=List.eq_nil_of_length_eq_zero (by omega)
  refine Zl3 hC Ze7 Zi5 ?_
  have h1:(44:UInt8)∉([]:List UInt8):=by simp
  have hi:ixS [] [44]= -1:=by unfold ixS;simp[Lib.index]
  have hl6:([]:List UInt8).length≤1000000:=by simp
  have hw:([]:List UInt8).length≤60000:=by simp
  have hlx:x29.length≤60000:=by omega
  rw[ZcJ 44 [] h1]at hR
  cases b28 with
  |false=>
   simp[Zbu,hi,hl6]
   exact ZoH (h3.addK hlx (by simp[AV.cellAt,AV.flat,AV.toS])) hp (fun _=>Zb4 hR (by simp)) (fun hq _ _=>rbx hC (h3.addK hlx (by simp[AV.cellAt,AV.flat,AV.toS])) hp2 (ZfR (Zb4 hR (by simp)) rfl _ _ _))
  |true=>
   simp[Zbu,hi,hl6]
   refine Zf0 hw (fun hg=>?_) (fun hg l n hql=>?_)
   ·refine Zwl (h3.addK hlx (ZhN hw)) hp (fun hq=>?_) (fun hq _ _=>rbx hC (h3.addK hlx (ZhN hw)) hp2 ?_)
    ·have hz:rlW x0=[]:=by unfold rlW;rw[if_pos hq]
     exact(by rw[hR,hz];simp[kg,hg]:R=Zc8 true x3 (x29++[kW []]) [])
    ·have hz:rlW x0=Zbb 44 (x0.getD 2 .top).toS:=by unfold rlW;rw[if_neg hq]
     exact(by rw[hR,hz];simp[kg,hg]:R=Zc8 (true&&(Zbb 44 (x0.getD 2 .top).toS).all rg) x3 (x29++[kW []]) ((Zbb 44 (x0.getD 2 .top).toS).map rW))
   ·exact ZoH (h3.addK hlx (hql)) hp (fun _=>Zb4 hR (by simp[kg,hg])) (fun hq _ _=>rbx hC (h3.addK hlx (hql)) hp2 (ZfR (Zb4 hR (by simp[kg,hg])) rfl _ _ _))
 |succ n ih=>
  intro l27 b28 x29 hn h3 hl hR
  refine Zl3 hC Ze7 Zi5 ?_
  have hl6:l27.length≤1000000:=by omega
  have hw:l27.length≤60000:=by omega
  have hlx:(x29:List AV).length≤60000:=by first |omega |simp
  rcases ZdZ 44 l27 with⟨h1,h2⟩ |⟨x,t,h1,h2,h3'⟩
  ·have hi:ixS l27 [44]= -1:=by unfold ixS;exact h2
   rw[ZcJ 44 l27 h1]at hR
   cases b28 with
   |false=>
    simp[Zbu,hi,hl6]
    exact ZoH (h3.addK hlx (by simp[AV.cellAt,AV.flat,AV.toS])) hp (fun _=>Zb4 hR (by simp)) (fun hq _ _=>rbx hC (h3.addK hlx (by simp[AV.cellAt,AV.flat,AV.toS])) hp2 (ZfR (Zb4 hR (by simp)) rfl _ _ _))
   |true=>
    simp[Zbu,hi,hl6]
    refine Zf0 hw (fun hg=>?_) (fun hg l n hql=>?_)
    ·refine Zwl (h3.addK hlx (ZhN hw)) hp (fun hq=>?_) (fun hq _ _=>rbx hC (h3.addK hlx (ZhN hw)) hp2 ?_)
     ·have hz:rlW x0=[]:=by unfold rlW;rw[if_pos hq]
      exact(by rw[hR,hz];simp[kg,hg]:R=Zc8 true x3 (x29++[kW l27]) [])
     ·have hz:rlW x0=Zbb 44 (x0.getD 2 .top).toS:=by unfold rlW;rw[if_neg hq]
      exact(by rw[hR,hz];simp[kg,hg]:R=Zc8 (true&&(Zbb 44 (x0.getD 2 .top).toS).all rg) x3 (x29++[kW l27]) ((Zbb 44 (x0.getD 2 .top).toS).map rW))
    ·exact ZoH (h3.addK hlx (hql)) hp (fun _=>Zb4 hR (by simp[kg,hg])) (fun hq _ _=>rbx hC (h3.addK hlx (hql)) hp2 (ZfR (Zb4 hR (by simp[kg,hg])) rfl _ _ _))
  ·have hi:ixS l27 [44]=x.length:=by unfold ixS;exact h3'
   obtain⟨s1,s2⟩:=ZlP (x:=x) (t:=t) (c:=44)
   have hlx2:l27.length=x.length+1+t.length:=by rw[h1];simp;omega
   have hcut:Zbb 44 l27=x::Zbb 44 t:=by rw[h1];exact ZeQ 44 x t h2
   rw[hcut,List.all_cons,List.map_cons]at hR
   rw[←h1]at s1 s2
   rw[Nat.sub_zero]at s1
   have t1:sub3 l27 0 x.length=x:=s1
   have t2:sub3 l27 (x.length+1) (l27.length-(x.length+1))=t:=s2
   have n0:¬(x.length:Int)<0:=by omega
   have hx6:x.length≤60000:=by omega
   have hlx1:(x29:List AV).length≤60001:=by omega
   cases b28 with
   |false=>
    simp[Zbu,hi,hl6,n0,t1]
    repeat refine⟨by omega,?_⟩
    exact ZvW hi hlx2 hw t2 hlx1 (ih t _ _ (by omega) (h3.addK hlx (by simp[AV.cellAt,AV.flat,AV.toS])) (by simp;omega) (ZfR (Zb4 hR (by simp)) (by simp) _ _ _))
   |true=>
    simp[Zbu,hi,hl6,n0,t1]
    repeat refine⟨by omega,?_⟩
    refine Zf0 hx6 (fun hg=>?_) (fun hg l n hql=>?_)
    ·exact ZAY hi hlx2 hw t2 hlx1 (ih t _ _ (by omega) (h3.addK hlx (ZhN hx6)) (by simp;omega) (by rw[hR];simp[kg,hg]:R=Zc8 ((true&&(Zbb 44 t).all kg)&&(rlW x0).all rg) x3 ((x29++[kW x])++(Zbb 44 t).map kW) ((rlW x0).map rW)))
    ·exact ZvW hi hlx2 hw t2 hlx1 (ih t _ _ (by omega) (h3.addK hlx (hql)) (by simp;omega) (ZfR (Zb4 hR (by simp[kg,hg])) (by simp) _ _ _))
theorem k_a{x0 x1:List AV}{n2:Int}{x3:List AV}{n4:Int}{b5 b6:Bool}{l7 l8:List UInt8}{b9:Bool}{l10 l11 l12:List UInt8}(hp:2<x0.length)(hp2:(x0.getD 2 .top).toS.length≤60000)(h3:Sh3 x3 [] [])(hl:l12.length≤60000)(hR:R=Zc8 ((b5&&(Zbb 44 l12).all kg)&&(rlW x0).all rg) x3 ((Zbb 44 l12).map kW) ((rlW x0).map rW)):Ev C (Zgn x0 x1 n2 x3 n4 b5 b6 l7 l8 b9 l10 l11 l12) (ZfA x0 x1 n2 x3 n4 b5 b6 l7 l8 b9 l10 l11 l12) (Zga 61 R none):=by
 refine Zl3 hC Ze7 Zn6 ?_
 have hl6:l12.length≤1000000:=by omega
 have hw:l12.length≤60000:=by omega
 have hlx:([]:List AV).length≤60000:=by first |omega |simp
 rcases ZdZ 44 l12 with⟨h1,h2⟩ |⟨x,t,h1,h2,h3'⟩
 ·have hi:ixS l12 [44]= -1:=by unfold ixS;exact h2
  rw[ZcJ 44 l12 h1]at hR
  cases b5 with
  |false=>
   simp[Zcs,hi,hl6]
   exact ZvB (h3.addK hlx (by simp[AV.cellAt,AV.flat,AV.toS])) hp (fun _=>Zb4 hR (by simp)) (fun hq _ _=>rbx hC (h3.addK hlx (by simp[AV.cellAt,AV.flat,AV.toS])) hp2 (ZfR (Zb4 hR (by simp)) rfl _ _ _))
  |true=>
   simp[Zcs,hi,hl6]
   refine Zf0 hw (fun hg=>?_) (fun hg l n hql=>?_)
   ·refine ZEJ (h3.addK hlx (ZhN hw)) hp (fun hq=>?_) (fun hq _ _=>rbx hC (h3.addK hlx (ZhN hw)) hp2 ?_)
    ·have hz:rlW x0=[]:=by unfold rlW;rw[if_pos hq]
     exact(by rw[hR,hz];simp[kg,hg]:R=Zc8 true x3 ([kW l12]) [])
    ·have hz:rlW x0=Zbb 44 (x0.getD 2 .top).toS:=by unfold rlW;rw[if_neg hq]
     exact(by rw[hR,hz];simp[kg,hg]:R=Zc8 (true&&(Zbb 44 (x0.getD 2 .top).toS).all rg) x3 ([kW l12]) ((Zbb 44 (x0.getD 2 .top).toS).map rW))
   ·exact ZvB (h3.addK hlx (hql)) hp (fun _=>Zb4 hR (by simp[kg,hg])) (fun hq _ _=>rbx hC (h3.addK hlx (hql)) hp2 (ZfR (Zb4 hR (by simp[kg,hg])) rfl _ _ _))
 ·have hi:ixS l12 [44]=x.length:=by unfold ixS;exact h3'
  obtain⟨s1,s2⟩:=ZlP (x:=x) (t:=t) (c:=44)
  have hlx2:l12.length=x.length+1+t.length:=by rw[h1];simp;omega
  have hcut:Zbb 44 l12=x::Zbb 44 t:=by rw[h1];exact ZeQ 44 x t h2
  rw[hcut,List.all_cons,List.map_cons]at hR
  rw[←h1]at s1 s2
  rw[Nat.sub_zero]at s1
  have t1:sub3 l12 0 x.length=x:=s1
  have t2:sub3 l12 (x.length+1) (l12.length-(x.length+1))=t:=s2
  have n0:¬(x.length:Int)<0:=by omega
  have hx6:x.length≤60000:=by omega
  have hlx1:([]:List AV).length≤60001:=by omega
  cases b5 with
  |false=>
   simp[Zcs,hi,hl6,n0,t1]
   repeat refine⟨by omega,?_⟩
   exact Zwm hi hlx2 hw t2 (k_c hC hp hp2 t.length t _ _ (Nat.le_refl _) (h3.addK hlx (by simp[AV.cellAt,AV.flat,AV.toS])) (by simp;omega) (ZfR (Zb4 hR (by simp)) (by simp) _ _ _))
  |true=>
   simp[Zcs,hi,hl6,n0,t1]
   repeat refine⟨by omega,?_⟩
   refine Zf0 hx6 (fun hg=>?_) (fun hg l n hql=>?_)
   ·exact ZAX hi hlx2 hw t2 (k_c hC hp hp2 t.length t _ _ (Nat.le_refl _) (h3.addK hlx (ZhN hx6)) (by simp;omega) (by rw[hR];simp[kg,hg]:R=Zc8 ((true&&(Zbb 44 t).all kg)&&(rlW x0).all rg) x3 (([kW x])++(Zbb 44 t).map kW) ((rlW x0).map rW)))
   ·exact Zwm hi hlx2 hw t2 (k_c hC hp hp2 t.length t _ _ (Nat.le_refl _) (h3.addK hlx (hql)) (by simp;omega) (ZfR (Zb4 hR (by simp[kg,hg])) (by simp) _ _ _))
theorem m_a{x0 ms:List AV}(hp:2<x0.length)(hp1:(x0.getD 1 .top).toS.length≤60000)(hp2:(x0.getD 2 .top).toS.length≤60000)(h3:Sh3 ms [] []):∀(m k:Nat) (b5:Bool),k+m=ms.length→R=Zc8 (((b5&&(ms.drop k).all mGd)&&(Zbb 44 (x0.getD 1 .top).toS).all kg)&&(rlW x0).all rg) ms ((Zbb 44 (x0.getD 1 .top).toS).map kW) ((rlW x0).map rW)→Ev C (ZiK x0 ms ms.length ms k b5) (Zg5 x0 ms ms.length ms k b5) (Zga 61 R none)
 |0,k,b5,hk,hR=>Zl3 hC Ze7 ZkJ (by
  obtain rfl:k=ms.length:=by omega
  have h1:1<x0.length:=by omega
  simp[-List.getD_eq_getElem?_getD,ZeF,h1]
  refine k_a hC hp hp2 h3 hp1 ?_
  simpa using hR)
 |m+1,k,b5,hk,hR=>by
  have hlt:(k:Int)<ms.length:=by omega
  have hlt2:k<ms.length:=by omega
  have hms:=h3.ml
  refine Zl3 hC Ze7 ZkJ ?_
  have hd:ms.drop k=ms.getD k .top::ms.drop (k+1):=by
   rw[List.getD_eq_getElem?_getD,List.getElem?_eq_getElem hlt2]
   exact List.drop_eq_getElem_cons hlt2
  rw[hd,List.all_cons]at hR
  cases b5 with
  |true=>
   have ih:=m_a hp hp1 hp2 h3 m (k+1) (!(ms.getD k .top).toS.isEmpty) (by omega) (by
    rw[hR]
    have hz:(!(ms.getD k .top).toS.isEmpty)=mGd (ms.getD k .top):=by unfold mGd;cases (ms.getD k .top).toS<;>simp
    rw[hz,Bool.true_and])
   simp[-List.getD_eq_getElem?_getD,ZeF,hlt,hlt2]
   exact⟨by omega,by simpa[-List.getD_eq_getElem?_getD]using ih⟩
  |false=>
   have ih:=m_a hp hp1 hp2 h3 m (k+1) false (by omega) (by rw[hR];simp)
   simp[-List.getD_eq_getElem?_getD,ZeF,hlt,hlt2]
   exact⟨by omega,by simpa[-List.getD_eq_getElem?_getD]using ih⟩
end
theorem ZkL(s:List UInt8):Zat Tryz.prog 61 [.str s] (pmR s) none:=
 Zvz (ZyV s) fun C hC=>Zl3 hC Ze7 ZGT (by
  by_cases h1:s.length≤60000
  ·have h1n:¬(60000:Int)<s.length:=by omega
   have h5:s.length≤1000000:=by omega
   have hc:=ZaZ s h1 59
   rw[show ((59:UInt8).toNat:Int)=59 from rfl]at hc
   have hpm:(Zac s [59]).map AV.str=pmP s:=ZsC s
   simp only[ZyP,hpm]
   by_cases h2:((pmP s).length:Int)=3
   ·have hp:PF (pmP s):=⟨h2,ZlU hc.2⟩
    have hE:pmE s=if Ztk (pmP s)=true then Zaj (Zb9 (pmP s)) ((ZcL (pmP s)).map kOf) ((Zdq (pmP s)).map rOf)else 7:=by unfold pmE;rw[if_pos h1,if_pos h2]
    unfold pmR
    generalize pmP s=p at*
    have hpl:2<p.length:=by omega
    have hm:=ZaZ _ (hp.l 0) 32
    rw[show ((32:UInt8).toNat:Int)=32 from rfl]at hm
    have hms:(Zac (p.getD 0 .top).toS [32]).map AV.str=Zb9 p:=ZfN _
    have hkl:ZcL p=(Zbb 44 (p.getD 1 .top).toS).map .str:=ZlA _ 44
    have hrl:Zdq p=(rlW p).map .str:=by
     unfold Zdq rlW
     split
     ·rfl
     ·exact ZlA _ 44
    have h3:Sh3 (Zb9 p) [] []:=⟨hm.2,fun x hx=>(by cases hx),fun x hx=>(by cases hx),hm.1.1,by simp,by simp⟩
    have hR:Zpd (pmE s) (Zb9 p) ((ZcL p).map kOf) ((Zdq p).map rOf)=Zc8 (((true&&((Zb9 p).drop 0).all mGd)&&(Zbb 44 (p.getD 1 .top).toS).all kg)&&(rlW p).all rg) (Zb9 p) ((Zbb 44 (p.getD 1 .top).toS).map kW) ((rlW p).map rW):=by
     have hok:Ztk p=(((true&&((Zb9 p).drop 0).all mGd)&&(Zbb 44 (p.getD 1 .top).toS).all kg)&&(rlW p).all rg):=by
      unfold Ztk
      rw[hkl,hrl,List.all_map,List.all_map,List.drop_zero,Bool.true_and,Bool.and_assoc]
      rfl
     rw[hE,hok,hkl,hrl,List.map_map,List.map_map]
     rfl
    have:=m_a hC (R:=Zpd (pmE s) (Zb9 p) ((ZcL p).map kOf) ((Zdq p).map rOf)) hpl (hp.l 1) (hp.l 2) h3 (Zb9 p).length 0 true (by omega) hR
    have h0:0<p.length:=by omega
    have h4:(p.getD 0 .top).toS.length≤1000000:=Nat.le_trans (hp.l 0) (by decide)
    simp[-List.getD_eq_getElem?_getD,h1n,h5,h0,h2,h4,hms]
    simpa[-List.getD_eq_getElem?_getD]using this
   ·have hE:pmE s=7:=by unfold pmE;rw[if_pos h1,if_neg h2]
    simp[-List.getD_eq_getElem?_getD,h1n,h5,h2]
    unfold pmR
    exact ZqG _ _ _ hE (by decide)
  ·have hE:pmE s=8:=by unfold pmE;rw[if_neg h1]
   simp[ZyP,show(60000:Int)<s.length by omega]
   unfold pmR
   exact ZqG _ _ _ hE (by decide))
def k61:Ctr:=⟨61,0,fun _ a=>match a with |[.str s]=>some (true,pmR s,none) |_=>none⟩
theorem ZEr:k61.OK Tryz.prog:=fun pa args r fr h=>by
 simp only[k61]at h
 split at h
 ·cases h
  exact ZkL _
 ·cases h
def Lt9:List Ctr:=[k61]++Lt8
theorem ZEG:Zaw Tryz.prog Lt9:=⟨ZEr,ZBg⟩
end Go.Proofs.YtkeoeooghhjibaaGreatDoor
/- Contracts as a list. No condition. -/
namespace Go.Proofs.YtkeoeooghhjibaaGreatDoor
def pmA(s:List UInt8):List AV:=if pmE s=0 then Zb9 (pmP s)else []
def pmB(s:List UInt8):List AV:=if pmE s=0 then(ZcL (pmP s)).map kOf else []
def pmC(s:List UInt8):List AV:=if pmE s=0 then(Zdq (pmP s)).map rOf else []
theorem Zss(s:List UInt8):Zat Tryz.prog 61 [.str s] (.tup [.agg (.gen [.list (.big .str (pmA s)), .list (.big (.agg [.str, .int .i64]) (pmB s)), .list (.big (.agg [.str, .int .i64, .int .i64, .int .i64, .int .i64]) (pmC s))]), .int .i64 (pmE s)]) none:=ZkL s
theorem ZrW(s:List UInt8):Zat Tryz.prog 62 [.str s] (.tup [.agg (.gen [.list (.big .str (pmA s)), .list (.big (.agg [.str, .int .i64]) (pmB s)), .list (.big (.agg [.str, .int .i64, .int .i64, .int .i64, .int .i64]) (pmC s))]), .int .i64 (pmE s)]) none:=Zj3 s
theorem ZwK(s:List UInt8):((pmA s).length≤60001∧(pmB s).length≤60001)∧(pmC s).length≤60001:=by
 unfold pmA pmB pmC
 by_cases h:pmE s=0
 ·rw[if_pos h,if_pos h,if_pos h,List.length_map,List.length_map]
  have hl:s.length≤60000:=by
   unfold pmE at h
   split at h
   ·assumption
   ·cases h
  have hc:=ZaZ s hl 59
  rw[show ((59:UInt8).toNat:Int)=59 from rfl]at hc
  have hp:∀j,((pmP s).getD j .top).toS.length≤60000:=ZlU hc.2
  have a:=ZaZ _ (hp 0) 32
  have b:=ZaZ _ (hp 1) 44
  have c:=ZaZ _ (hp 2) 44
  refine⟨⟨a.1.1,b.1.1⟩,?_⟩
  unfold Zdq
  split
  ·simp
  ·exact c.1.1
 ·rw[if_neg h,if_neg h,if_neg h];simp
attribute [local irreducible] pmE
attribute [irreducible] pmA pmB pmC
def k61v:Ctr:=⟨61,0,fun _ a=>match a with |[.str s]=>some (true, .tup [.agg (.gen [.list (.big .str (pmA s)), .list (.big (.agg [.str, .int .i64]) (pmB s)), .list (.big (.agg [.str, .int .i64, .int .i64, .int .i64, .int .i64]) (pmC s))]), .int .i64 (pmE s)],none) |_=>none⟩
theorem Zx5:k61v.OK Tryz.prog:=fun pa args r fr h=>by
 simp only[k61v]at h
 split at h
 ·cases h
  exact Zss _
 ·cases h
def k62v:Ctr:=⟨62,0,fun _ a=>match a with |[.str s]=>some (true, .tup [.agg (.gen [.list (.big .str (pmA s)), .list (.big (.agg [.str, .int .i64]) (pmB s)), .list (.big (.agg [.str, .int .i64, .int .i64, .int .i64, .int .i64]) (pmC s))]), .int .i64 (pmE s)],none) |_=>none⟩
theorem Zya:k62v.OK Tryz.prog:=fun pa args r fr h=>by
 simp only[k62v]at h
 split at h
 ·cases h
  exact ZrW _
 ·cases h
def Lta:List Ctr:=[k61v,k62v]++Lt9
theorem ZA0:Zaw Tryz.prog Lta:=⟨Zx5,⟨Zya,ZEG⟩⟩
end Go.Proofs.YtkeoeooghhjibaaGreatDoor
/- Paths of functions, printed by the explorer (Gx). No condition. -/
namespace Go.Proofs.YtkeoeooghhjibaaGreatDoor
set_option maxRecDepth 100000
set_option linter.unusedVariables false
def ZEB(ms ks rs:List AV)(s:List UInt8):AFrame:={ fn:=12,N:=75,env:=[(0,AV.agg (Row.gen [.list (Row.big .str ms), .list (Row.big (.agg [.str, .int .i64]) ks), .list (Row.big (.agg [.str, .int .i64, .int .i64, .int .i64, .int .i64]) rs)])),(1,AV.str s)],todo:=[.code a12.code],defs:=[],rnd:=none,ret:=false,res:=[ARes.tmp 4] }
def ZJX(ms ks rs:List AV)(s:List UInt8):List AFrame:=[(ZEB ms ks rs s)]
theorem Zzc(ms ks rs:List AV)(s:List UInt8):ZaA tab 12 [AV.agg (Row.gen [.list (Row.big .str ms), .list (Row.big (.agg [.str, .int .i64]) ks), .list (Row.big (.agg [.str, .int .i64, .int .i64, .int .i64, .int .i64]) rs)]),AV.str s]=some (ZEB ms ks rs s):=rfl
def ZCD(A:Ar)(K:KT)(F:FT)(ms ks rs:List AV)(s:List UInt8):Prop:=rB [!A.not true] (bB (A.not (Zti ms ks rs)) (F (AV.bool true) (none)) (bB (A.lt 300 (A.int (A.lenS s))) (bB (A.le (A.int (A.lenS s)) 60000) (F (AV.bool true) (none)) (bB (A.lt 60010 (A.int (A.lenS s))) (F (AV.bool true) (none)) (rB [decide (fmG ms ks rs=true),decide (fmG ms ks rs=true),decide (List.length ms≤1000000∧List.length ks≤1000000∧List.length rs≤1000000)] (bB (A.not (A.eqS (Zbg ms ks rs) (Zbg ms ks rs))) (F (AV.bool false) (none)) (bB (A.not (A.eq (pmE s) (pmE s))) (F (AV.bool false) (none)) (rB [decide (mG (pmA s) (pmB s) (pmC s)=true)] (bB (A.not (ZgE (pmA s) (pmB s) (pmC s) (pmA s) (pmB s) (pmC s))) (F (AV.bool false) (none)) (rB [decide (ZaH ms ks rs=true)] (bB (A.not (A.eq (Zaj ms ks rs) 0)) (F (AV.bool true) (none)) (bB (A.eq (pmE (Zbg ms ks rs)) 0) (rB [decide (mG (pmA (Zbg ms ks rs)) (pmB (Zbg ms ks rs)) (pmC (Zbg ms ks rs))=true)] (F (AV.bool (ZgE (pmA (Zbg ms ks rs)) (pmB (Zbg ms ks rs)) (pmC (Zbg ms ks rs)) ms ks rs)) (none))) (F (AV.bool false) (none)))))))))))) (bB (A.lt 60010 (A.int (A.lenS s))) (F (AV.bool true) (none)) (rB [decide (fmG ms ks rs=true),decide (fmG ms ks rs=true),decide (List.length ms≤1000000∧List.length ks≤1000000∧List.length rs≤1000000)] (bB (A.not (A.eqS (Zbg ms ks rs) (Zbg ms ks rs))) (F (AV.bool false) (none)) (bB (A.not (A.eq (pmE s) (pmE s))) (F (AV.bool false) (none)) (rB [decide (mG (pmA s) (pmB s) (pmC s)=true)] (bB (A.not (ZgE (pmA s) (pmB s) (pmC s) (pmA s) (pmB s) (pmC s))) (F (AV.bool false) (none)) (rB [decide (ZaH ms ks rs=true)] (bB (A.not (A.eq (Zaj ms ks rs) 0)) (F (AV.bool true) (none)) (bB (A.eq (pmE (Zbg ms ks rs)) 0) (rB [decide (mG (pmA (Zbg ms ks rs)) (pmB (Zbg ms ks rs)) (pmC (Zbg ms ks rs))=true)] (F (AV.bool (ZgE (pmA (Zbg ms ks rs)) (pmB (Zbg ms ks rs)) (pmC (Zbg ms ks rs)) ms ks rs)) (none))) (F (AV.bool false) (none)))))))))))))
theorem ZF5{A:Ar}{K:KT}{F:FT}{M:MT}{ms ks rs:List AV}{s:List UInt8} :ZaG A tab Lta 12 K F M (.run 11 (.fy (.run 8 (.tf (.ty (.ty (.ty (.run 3 (.ty (.ty (.run 1 (.ty (.ty (.ty (.ty (.run 2 (.ty (.run 5 (.fn))))))))))))))) (.fy (.fy (.fy (.tf (.ty (.ty (.alt [false,true] (.fy (.run 1 (.tf (.ty (.ty (.ty (.run 2 (.ty (.run 5 (.fn))))))) (.fy (.fy (.fy (.run 2 (.tf (.run 5 (.fn)) (.run 38 (.tf (.ty (.ty (.ty (.run 1 (.ty (.ty (.ty (.ty (.ty (.run 2 (.ty (.run 5 (.fn))))))))))))) (.fy (.fy (.fy (.run 1 (.tf (.ty (.ty (.ty (.ty (.run 2 (.ty (.run 5 (.fn)))))))) (.fy (.fy (.fy (.fy (.run 2 (.tf (.run 5 (.fn)) (.run 8 (.tf (.run 5 (.fn)) (.run 17 (.tf (.ty (.ty (.ty (.run 4 (.fn))))) (.fy (.fy (.fy (.run 4 (.fn)))))))))))))))))))))))))))))) (.no)))) (.fy (.fy (.alt [false,false] (.fy (.run 1 (.fy (.fy (.fy (.fy (.run 2 (.tf (.run 5 (.fn)) (.run 38 (.tf (.ty (.ty (.ty (.run 1 (.ty (.ty (.ty (.ty (.ty (.run 2 (.ty (.run 5 (.fn))))))))))))) (.fy (.fy (.fy (.run 1 (.tf (.ty (.ty (.ty (.ty (.run 2 (.ty (.run 5 (.fn)))))))) (.fy (.fy (.fy (.fy (.run 2 (.tf (.run 5 (.fn)) (.run 8 (.tf (.run 5 (.fn)) (.run 17 (.tf (.ty (.ty (.ty (.run 4 (.fn))))) (.fy (.fy (.fy (.run 4 (.fn)))))))))))))))))))))))))))))) (.no)))))))))))) (ZJX ms ks rs s) []=ZCD A K F ms ks rs s:=by kernel_rfl
end Go.Proofs.YtkeoeooghhjibaaGreatDoor
/- The law, walked. No condition. -/
namespace Go.Proofs.YtkeoeooghhjibaaGreatDoor
theorem ZpT(ms ks rs:List AV):ZgE ms ks rs ms ks rs=true:=by
 unfold ZgE
 rw[Bool.and_eq_true,Bool.and_eq_true]
 exact⟨ZdB rfl fun j _=>Zut _,ZdB rfl fun j _=>ZuR _,ZdB rfl fun j _=>Zse _⟩
theorem Zzr{ms ks rs:List AV}(h:FmG ms ks rs):(Zbg ms ks rs).length≤60000:=by
 have e1:=ZfY (p:=[32]) rfl h.m h.n.1
 have e2:=ZfY (f:=kwS) (p:=[44]) rfl (fun x hx=>Zsf (h.k x hx) (h.ki x hx)) h.n.2.1
 have e3:=ZfY (f:=rwS) (p:=[44]) rfl (fun x hx=>Zsq (h.r x hx) (h.ri x hx)) h.n.2.2
 unfold Zbg
 simp[Lib.join_cons,Lib.joinTail];omega
theorem ZH0(s:List UInt8):mG (pmA s) (pmB s) (pmC s)=true:=by
 have:=ZwK s
 unfold mG
 exact decide_eq_true ⟨by omega,by omega,by omega⟩
theorem ZqY(ms ks rs:List AV)(s:List UInt8)(hk:∀x∈ks,ZCk x=true)(hr:∀x∈rs,ZDB x=true):
 Zat Tryz.prog 12 [.agg (.gen [.list (.big .str ms), .list (.big (.agg [.str, .int .i64]) ks), .list (.big (.agg [.str, .int .i64, .int .i64, .int .i64, .int .i64]) rs)]), .str s] (.bool true) none:=
 start (Zzc ms ks rs s) fun C hC=>tgo hC ZA0 ZF5 (by
  simp only[ZCD]
  cases hf:Zti ms ks rs with
  |false=>simp
  |true=>
   have hg:fmG ms ks rs=true:=by unfold fmG;rw[hf,List.all_eq_true.2 hk,List.all_eq_true.2 hr];rfl
   have G:=Zoo hg
   have hn:=G.n
   have hl:(Zbg ms ks rs).length≤60000:=Zzr G
   have hs:ZaH ms ks rs=true:=Zjm (fun x hx=>Nat.le_trans (G.m x hx) (by decide)) (fun x hx=>Nat.le_trans (G.k x hx) (by decide)) (fun x hx=>Nat.le_trans (G.r x hx) (by decide)) (by omega)
   have hl3:ms.length≤1000000∧ks.length≤1000000∧rs.length≤1000000:=by omega
   have p1:=ZH0 s
   have p2:=ZH0 (Zbg ms ks rs)
   have r1:=ZpT (pmA s) (pmB s) (pmC s)
   have fin:Zaj ms ks rs=0→pmE (Zbg ms ks rs)=0∧ZgE (pmA (Zbg ms ks rs)) (pmB (Zbg ms ks rs)) (pmC (Zbg ms ks rs)) ms ks rs=true:=fun h0=>by
    obtain⟨a,b⟩:=Ztu h0 hl
    refine⟨a,?_⟩
    unfold pmA pmB pmC
    rw[if_pos a,if_pos a,if_pos a]
    exact b
   by_cases h0:Zaj ms ks rs=0
   ·obtain⟨f1,f2⟩:=fin h0
    simp[hg,hl3,p1,p2,r1,hs,h0,f1,f2]
   ·simp[hg,hl3,p1,p2,r1,hs,h0])
end Go.Proofs.YtkeoeooghhjibaaGreatDoor
