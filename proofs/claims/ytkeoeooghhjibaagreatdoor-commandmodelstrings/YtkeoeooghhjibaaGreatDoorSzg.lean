/- A valid model is read back from its string (closing): plain. No condition. -/
import Derived.Test.YtkeoeooghhjibaaGreatDoorSzb
import Derived.KernelRfl
namespace Go.Proofs.YtkeoeooghhjibaaGreatDoor
def kP(x y:AV):Prop:=(x.cellAt 0).toS=(y.cellAt 0).toS∧(x.cellAt 1).toI=(y.cellAt 1).toI
def rP(x y:AV):Prop:=(x.cellAt 0).toS=(y.cellAt 0).toS∧(x.cellAt 1).toI=(y.cellAt 1).toI∧(x.cellAt 2).toI=(y.cellAt 2).toI∧(x.cellAt 3).toI=(y.cellAt 3).toI∧(x.cellAt 4).toI=(y.cellAt 4).toI
structure MZ (ms ks rs:List AV):Prop where
 ml:1≤ms.length
 kl:1≤ks.length
 m:∀x∈ms,ZnO x.toS∧x.toS≠[]
 k:∀x∈ks,(ZnO (x.cellAt 0).toS∧(x.cellAt 0).toS≠[])∧(-1≤(x.cellAt 1).toI∧(x.cellAt 1).toI≤1000000)
 r:∀x∈rs,(ZnO (x.cellAt 0).toS∧(x.cellAt 0).toS≠[])∧∀v∈[(x.cellAt 1).toI,(x.cellAt 2).toI,(x.cellAt 3).toI,(x.cellAt 4).toI], -1≤v∧v≤1000000
theorem Zsx{xs:List AV}{x:AV}(h:x∈xs):∃i,i<xs.length∧xs.getD i .top=x:=by
 obtain⟨i,hi,rfl⟩:=List.getElem_of_mem h
 exact⟨i,hi,by rw[List.getD_eq_getElem?_getD,List.getElem?_eq_getElem hi];rfl⟩
theorem ZFJ{ms ks rs:List AV}(h:Zaj ms ks rs=0):MZ ms ks rs:=by
 obtain⟨h1,h2,h3,h4,h5,h6⟩:=Zp1 h
 refine⟨h1.1,h2.1,fun x hx=>?_,fun x hx=>?_,fun x hx=>?_⟩
 ·obtain⟨i,hi,rfl⟩:=Zsx hx
  exact ZgF (h4 i hi)
 ·obtain⟨i,hi,rfl⟩:=Zsx hx
  obtain⟨a,b⟩:=h5 i hi
  refine⟨ZgF a,?_⟩
  have hb:=ZhN b (by decide)
  have e:ZaR ks i 1=((ks.getD i .top).cellAt 1).toI:=rfl
  rw[e]at hb
  unfold ZjO at hb
  split at hb
  ·rename_i hq;rw[hq];decide
  ·have:=within_iff.1 hb;omega
 ·obtain⟨i,hi,rfl⟩:=Zsx hx
  obtain⟨a,b⟩:=h6 i hi
  refine⟨ZgF a,?_⟩
  obtain⟨c1,c2,c3,c4,_⟩:=ZsS b
  have e:∀j,ZaR rs i j=((rs.getD i .top).cellAt j).toI:=fun _=>rfl
  rw[e]at c1 c2 c3 c4
  intro v hv
  simp only[List.mem_cons,List.not_mem_nil,or_false]at hv
  rcases hv with rfl |rfl |rfl |rfl<;>omega
theorem ZoA(y:AV):kwS y=Lib.join ((y.cellAt 0).toS::[(y.cellAt 1).toI].map Lib.itoa) [32]:=by
 rw[Ztd];simp[Lib.join_cons,Lib.joinTail]
theorem Zl0(y:AV):rwS y=Lib.join ((y.cellAt 0).toS::[(y.cellAt 1).toI,(y.cellAt 2).toI,(y.cellAt 3).toI,(y.cellAt 4).toI].map Lib.itoa) [32]:=Zni y
theorem ZoP{c:UInt8}(hc:c=44∨c=59){nm:List UInt8}{vs:List Int}(hn:ZnO nm)(hv:∀v∈vs, -1≤v∧v≤1000000):c∉Lib.join (nm::vs.map Lib.itoa) [32]:=
 Zlj (by rcases hc with rfl |rfl<;>decide) _ fun x hx=>by
  rcases List.mem_cons.1 hx with rfl |hx
  ·rcases hc with rfl |rfl
   ·exact hn.2.1
   ·exact hn.2.2
  ·obtain⟨v,hv2,rfl⟩:=List.mem_map.1 hx
   have:=Zj3 (hv v hv2).1
   rcases hc with rfl |rfl
   ·exact this.2.1
   ·exact this.2.2
theorem ZlL{xs ys:List AV}{g:AV→List UInt8}{q:AV→Bool}(hm:xs.map AV.toS=ys.map g)(hq:∀x y,y∈ys→x.toS=g y→q x=true):xs.all q=true:=List.all_eq_true.2 fun x hx=>by
 have:x.toS∈ys.map g:=by rw[←hm];exact List.mem_map_of_mem hx
 obtain⟨y,hy,e⟩:=List.mem_map.1 this
 exact hq x y hy e.symm
section
variable {ms ks rs:List AV}(z:MZ ms ks rs)
include z
theorem ZDP{c:UInt8}(hc:c=44∨c=59):∀x∈ks.map kwS,c∉x:=fun x hx=>by
 obtain⟨y,hy,rfl⟩:=List.mem_map.1 hx
 rw[ZoA]
 exact ZoP hc (z.k y hy).1.1 fun v hv=>by rw[List.mem_singleton]at hv;rw[hv];exact(z.k y hy).2
theorem ZAh{c:UInt8}(hc:c=44∨c=59):∀x∈rs.map rwS,c∉x:=fun x hx=>by
 obtain⟨y,hy,rfl⟩:=List.mem_map.1 hx
 rw[Zl0]
 exact ZoP hc (z.r y hy).1.1 (z.r y hy).2
theorem ZeJ:(pmP (Zbe ms ks rs)).map AV.toS=[Lib.join (ms.map AV.toS) [32],Lib.join (ks.map kwS) [44],Lib.join (rs.map rwS) [44]]:=by
 have h2:=ZcY (Zbe ms ks rs) 59
 rw[show (((59:UInt8).toNat:Nat):Int)=59 from rfl]at h2
 unfold pmP
 rw[h2]
 refine Zdg 59 _ (by simp) fun x hx=>?_
 simp only[List.mem_cons,List.not_mem_nil,or_false]at hx
 rcases hx with rfl |rfl |rfl
 ·exact Zlj (by decide) _ fun x hx=>by
   obtain⟨y,hy,rfl⟩:=List.mem_map.1 hx
   exact(z.m y hy).1.2.2
 ·exact Zlj (by decide) _ (ZDP z (.inr rfl))
 ·exact Zlj (by decide) _ (ZAh z (.inr rfl))
theorem Zrs:(Zb9 (pmP (Zbe ms ks rs))).map AV.toS=ms.map AV.toS:=by
 have hp:=ZeJ z
 unfold Zb9
 have h2:=ZcY ((pmP (Zbe ms ks rs)).getD 0 .top).toS 32
 rw[show (((32:UInt8).toNat:Nat):Int)=32 from rfl]at h2
 rw[h2,ZjK,hp]
 refine Zdg 32 _ (by intro e;have h1:=congrArg List.length e;have h3:=z.ml;rw[List.length_map,List.length_nil]at h1;omega) fun x hx=>?_
 obtain⟨y,hy,rfl⟩:=List.mem_map.1 hx
 exact(z.m y hy).1.1
theorem ZsR:(Zc0 (pmP (Zbe ms ks rs))).map AV.toS=ks.map kwS:=by
 have hp:=ZeJ z
 unfold Zc0
 have h2:=ZcY ((pmP (Zbe ms ks rs)).getD 1 .top).toS 44
 rw[show (((44:UInt8).toNat:Nat):Int)=44 from rfl]at h2
 rw[h2,ZjK,hp]
 exact Zdg 44 _ (by intro e;have h1:=congrArg List.length e;have h3:=z.kl;rw[List.length_map,List.length_nil]at h1;omega) (ZDP z (.inl rfl))
theorem Zr2:(Zdq (pmP (Zbe ms ks rs))).map AV.toS=rs.map rwS:=by
 have hp:=ZeJ z
 unfold Zdq
 have e2:((pmP (Zbe ms ks rs)).getD 2 .top).toS=Lib.join (rs.map rwS) [44]:=by rw[ZjK,hp];rfl
 rw[e2]
 cases rs with
 |nil=>rw[if_pos (by rfl)];rfl
 |cons y r=>
  have hne:rwS y≠[]:=by rw[Zl0];exact Zr7 (z.r y List.mem_cons_self).1.2
  rw[if_neg (by rw[List.map_cons];exact Zr7 hne)]
  have h2:=ZcY (Lib.join ((y::r).map rwS) [44]) 44
  rw[show (((44:UInt8).toNat:Nat):Int)=44 from rfl]at h2
  rw[h2]
  exact Zdg 44 _ (by simp) (ZAh z (.inl rfl))
theorem ZpE(x y:AV)(hy:y∈ks)(h:x.toS=kwS y):kP (kOf x) y∧kGd x=true:=by
 obtain⟨a,b,c⟩:=Zk4 (y.cellAt 0).toS [(y.cellAt 1).toI] (z.k y hy).1 (fun v hv=>by rw[List.mem_singleton]at hv;rw[hv];exact(z.k y hy).2) (h.trans (ZoA y))
 have e:(([(y.cellAt 1).toI]:List Int).length:Int)+1=2:=rfl
 rw[e]at a b c
 refine⟨⟨?_,?_⟩,a⟩
 ·show wdS (Zay x.toS 32) 2=_;exact b
 ·show(wdI (Zay x.toS 32) 2).getD 0 0=_;rw[c];rfl
theorem Zpe(x y:AV)(hy:y∈rs)(h:x.toS=rwS y):rP (rOf x) y∧rGd x=true:=by
 obtain⟨a,b,c⟩:=Zk4 (y.cellAt 0).toS [(y.cellAt 1).toI,(y.cellAt 2).toI,(y.cellAt 3).toI,(y.cellAt 4).toI] (z.r y hy).1 (z.r y hy).2 (h.trans (Zl0 y))
 have e:(([(y.cellAt 1).toI,(y.cellAt 2).toI,(y.cellAt 3).toI,(y.cellAt 4).toI]:List Int).length:Int)+1=5:=rfl
 rw[e]at a b c
 refine⟨⟨?_,?_,?_,?_,?_⟩,a⟩
 ·show wdS (Zay x.toS 32) 5=_;exact b
 ·show(wdI (Zay x.toS 32) 5).getD 0 0=_;rw[c];rfl
 ·show(wdI (Zay x.toS 32) 5).getD 1 0=_;rw[c];rfl
 ·show(wdI (Zay x.toS 32) 5).getD 2 0=_;rw[c];rfl
 ·show(wdI (Zay x.toS 32) 5).getD 3 0=_;rw[c];rfl
theorem ZAc:Zth (pmP (Zbe ms ks rs))=true:=by
 unfold Zth
 rw[ZlL (Zrs z) (q:=mGd) (fun x y hy e=>by unfold mGd;rw[e];exact decide_eq_true (z.m y hy).2),ZlL (ZsR z) (q:=kGd) (fun x y hy e=>(ZpE z x y hy e).2),ZlL (Zr2 z) (q:=rGd) (fun x y hy e=>(Zpe z x y hy e).2)]
 rfl
theorem ZuH:Zhg (Zb9 (pmP (Zbe ms ks rs))) ((Zc0 (pmP (Zbe ms ks rs))).map kOf) ((Zdq (pmP (Zbe ms ks rs))).map rOf) ms ks rs=true∧Zaj (Zb9 (pmP (Zbe ms ks rs))) ((Zc0 (pmP (Zbe ms ks rs))).map kOf) ((Zdq (pmP (Zbe ms ks rs))).map rOf)=Zaj ms ks rs:=by
 have a:=Zrs z
 obtain⟨b1,b2⟩:=ZoE (f:=kOf) (P:=kP) (ZsR z) (fun x y hy e=>(ZpE z x y hy e).1)
 obtain⟨c1,c2⟩:=ZoE (f:=rOf) (P:=rP) (Zr2 z) (fun x y hy e=>(Zpe z x y hy e).1)
 generalize Zb9 (pmP (Zbe ms ks rs))=ms' at*
 generalize (Zc0 (pmP (Zbe ms ks rs))).map kOf=ks' at*
 generalize (Zdq (pmP (Zbe ms ks rs))).map rOf=rs' at*
 have a1:ms'.length=ms.length:=by have:=congrArg List.length a;simpa using this
 have a2:∀j,(ms'.getD j .top).toS=(ms.getD j .top).toS:=fun j=>by rw[ZjK,ZjK,a]
 have b3:∀j,kP (ks'.getD j .top) (ks.getD j .top):=fun j=>by
  by_cases hj:j<ks.length
  ·exact b2 j hj
  ·rw[Zik (by omega),Zik hj];exact⟨rfl,rfl⟩
 have c3:∀j,rP (rs'.getD j .top) (rs.getD j .top):=fun j=>by
  by_cases hj:j<rs.length
  ·exact c2 j hj
  ·rw[Zik (by omega),Zik hj];exact⟨rfl,rfl,rfl,rfl,rfl⟩
 constructor
 ·unfold Zhg
  rw[Bool.and_eq_true,Bool.and_eq_true]
  exact⟨Zdz a1 fun j _=>decide_eq_true (a2 j),Zdz b1 fun j _=>decide_eq_true (b3 j),Zdz c1 fun j _=>decide_eq_true (c3 j)⟩
 ·exact Zm6 a1 b1 c1 (fun i=>a2 _) (fun i=>(b3 _).1) (fun i=>(b3 _).2) (fun i=>(c3 _).1) (fun i=>(c3 _).2.1) (fun i=>(c3 _).2.2.1) (fun i=>(c3 _).2.2.2.1) (fun i=>(c3 _).2.2.2.2)
end
theorem ZtK{ms ks rs:List AV}(h:Zaj ms ks rs=0)(hl:(Zbe ms ks rs).length≤60000):pmE (Zbe ms ks rs)=0∧Zhg (Zb9 (pmP (Zbe ms ks rs))) ((Zc0 (pmP (Zbe ms ks rs))).map kOf) ((Zdq (pmP (Zbe ms ks rs))).map rOf) ms ks rs=true:=by
 have z:=ZFJ h
 obtain⟨a,b⟩:=ZuH z
 have hp:=congrArg List.length (ZeJ z)
 rw[List.length_map]at hp
 refine⟨?_,a⟩
 unfold pmE
 rw[if_pos hl,if_pos (by rw[hp];rfl),if_pos (ZAc z),b,h]
end Go.Proofs.YtkeoeooghhjibaaGreatDoor
/- Items of a model, as read. No condition. -/
namespace Go.Proofs.YtkeoeooghhjibaaGreatDoor
theorem Zec(c:UInt8):∀s:List UInt8,(c∉s∧Lib.index s [c]= -1)∨∃x t,s=x++c::t∧c∉x∧Lib.index s [c]=x.length
 |[]=>.inl ⟨by simp,by simp[Lib.index]⟩
 |x::s=>by
  by_cases h:x=c
  ·subst h
   exact .inr ⟨[],s,rfl,by simp,by simp[Lib.index]⟩
  ·have hi:Lib.index (x::s) [c]=if Lib.index s [c]== -1 then -1 else Lib.index s [c]+1:=by
    rw[Lib.index]
    simp[Ne.symm h]
   rcases Zec c s with⟨h1,h2⟩ |⟨y,t,h1,h2,h3⟩
   ·left
    refine⟨by simp[h1,Ne.symm h],?_⟩
    rw[hi,h2];rfl
   ·right
    refine⟨x::y,t,by rw[h1];rfl,by simp[h2,Ne.symm h],?_⟩
    rw[hi,h3,if_neg (by simp)]
    simp
theorem Zlb{x t:List UInt8}{c:UInt8} :((x++c::t).drop 0).take (x.length-0)=x∧((x++c::t).drop (x.length+1)).take ((x++c::t).length-(x.length+1))=t:=by
 refine⟨by simp,?_⟩
 have e:(x++c::t).drop (x.length+1)=t:=by
  rw[←List.drop_drop,List.drop_left];rfl
 rw[e]
 exact List.take_of_length_le (by simp;omega)
theorem Zlx(s:List UInt8)(c:Int):∀(m i f:Nat),∀x∈Zl4 s c m i f,x=.str x.toS
 |0,i,f,x,h=>by
  rw[Zl4]at h
  obtain rfl:=List.mem_singleton.1 h
  rfl
 |m+1,i,f,x,h=>by
  rw[Zl4]at h
  split at h
  ·rcases List.mem_cons.1 h with rfl |h
   ·rfl
   ·exact Zlx s c m (i+1) (i+1) x h
  ·exact Zlx s c m (i+1) f x h
theorem Zlz(s:List UInt8)(c:UInt8):Zay s (c.toNat:Int)=(Zba c s).map .str:=by
 rw[←ZcY,List.map_map]
 refine(List.map_id' _).symm.trans (List.map_congr_left fun x hx=>?_)
 exact Zlx s _ _ _ _ x (by unfold Zay at hx;exact hx)
theorem Zpb(s:List UInt8)(c:UInt8):(Zac s [c]).map AV.str=Zay s (c.toNat:Int):=by rw[Zk8,Zlz]
theorem ZfW(s:List UInt8):(Zac s [32]).map AV.str=Zay s 32:=Zpb s 32
theorem Zrr(s:List UInt8):(Zac s [59]).map AV.str=Zay s 59:=Zpb s 59
theorem Zma(x:List UInt8):nmB (.str x)=itB x:=(ZmE x).1.symm
theorem Zmx{x:List UInt8}(h:itB x=true):nmV (.str x)=itV x:=((ZmE x).2 h).symm
theorem ZCt{ww:List UInt8}{l:List (List UInt8)}(h:Zac ww [32]=l):Zay ww 32=l.map .str:=by rw[←ZfW,h]
theorem ZGS{ww a b:List UInt8}(h:Zac ww [32]=[a,b]):kGd (.str ww)=(decide (a≠[])&&itB b)∧((decide (a≠[])&&itB b)=true→kOf (.str ww)=.agg (.gen [.str a, .int .i64 (itV b)])):=by
 have e:=ZCt h
 have e1:kGd (.str ww)=(decide (a≠[])&&itB b):=by
  show wdB (Zay ww 32) 2=_
  rw[e,←Zma]
  simp[wdB]
  rfl
 refine⟨e1,fun hg=>?_⟩
 have hg':wdB (Zay ww 32) 2=true:=e1.trans hg
 show AV.agg (.gen [.str (wdS (Zay ww 32) 2), .int .i64 ((wdI (Zay ww 32) 2).getD 0 0)])=_
 unfold wdS wdI
 rw[hg',e]
 simp only[cond_true,←Zmx (Bool.and_eq_true_iff.1 hg).2]
 rfl
theorem ZCJ{ww a b c d e':List UInt8}(h:Zac ww [32]=[a,b,c,d,e']):rGd (.str ww)=(decide (a≠[])&&(itB b&&(itB c&&(itB d&&itB e'))))∧((decide (a≠[])&&(itB b&&(itB c&&(itB d&&itB e'))))=true→rOf (.str ww)=.agg (.gen [.str a, .int .i64 (itV b), .int .i64 (itV c), .int .i64 (itV d), .int .i64 (itV e')])):=by
 have e:=ZCt h
 have e1:rGd (.str ww)=(decide (a≠[])&&(itB b&&(itB c&&(itB d&&itB e')))):=by
  show wdB (Zay ww 32) 5=_
  rw[e,←Zma,←Zma,←Zma,←Zma]
  simp[wdB]
  rfl
 refine⟨e1,fun hg=>?_⟩
 have hg':wdB (Zay ww 32) 5=true:=e1.trans hg
 show AV.agg (.gen [.str (wdS (Zay ww 32) 5), .int .i64 ((wdI (Zay ww 32) 5).getD 0 0), .int .i64 ((wdI (Zay ww 32) 5).getD 1 0), .int .i64 ((wdI (Zay ww 32) 5).getD 2 0), .int .i64 ((wdI (Zay ww 32) 5).getD 3 0)])=_
 unfold wdS wdI
 rw[hg',e]
 simp only[Bool.and_eq_true]at hg
 simp only[cond_true,←Zmx hg.2.1,←Zmx hg.2.2.1,←Zmx hg.2.2.2.1,←Zmx hg.2.2.2.2]
 rfl
theorem ZyI{ww:List UInt8}(h:kGd (.str ww)=true):((Zac ww [32]).length:Int)=2:=by
 have:=(Zgp (w:=Zay ww 32) h).2
 rw[←ZfW,List.length_map]at this
 exact this
theorem ZyY{ww:List UInt8}(h:rGd (.str ww)=true):((Zac ww [32]).length:Int)=5:=by
 have:=(Zgp (w:=Zay ww 32) h).2
 rw[←ZfW,List.length_map]at this
 exact this
theorem itB_min:itB [45,49]=true∧itV [45,49]= -1:=⟨by simp[itB],by simp[itV]⟩
theorem Zie:Lib.itoa (-1)=[45,49]:=by decide +kernel
theorem Zoy{x:List UInt8}(h:x≠[45,49]):itB x=ZdK x 7∧itV x=Zbn x:=⟨by simp[itB,h],by simp[itV,h]⟩
theorem ZfC{ww x:List UInt8}{l:List (List UInt8)}(h:Zac ww [32]=l)(hx:x∈l):x.length≤ww.length:=by
 rw[Zk8]at h
 exact ZlN 32 ww x (by rw[h];exact hx)
theorem ZyK{α:Type}{l:List α}(h:l.length=2):∃a b,l=[a,b]:=by
 match l,h with
 |[a,b],_=>exact⟨a,b,rfl⟩
theorem Ztt{α:Type}{l:List α}(h:l.length=5):∃a b c d e,l=[a,b,c,d,e]:=by
 match l,h with
 |[a,b,c,d,e],_=>exact⟨a,b,c,d,e,rfl⟩
theorem ZgJ(a:List UInt8):(AV.str a).toS=a:=rfl
theorem Zf9{ww:List UInt8}{good bad:AV→Prop}(hl:ww.length≤60000)(hg:kGd (.str ww)=true→good (kOf (.str ww)))(hb:kGd (.str ww)=false→∀(l:List UInt8) (n:Int),l.length≤60000→bad (.agg (.gen [.str l, .int .i64 n]))):ZjS std ww good bad:=by
 have hl2:ww.length≤1000000:=by omega
 by_cases h2:((Zac ww [32]).length:Int)=2
 ·obtain⟨a,b,h⟩:=ZyK (show (Zac ww [32]).length=2 by omega)
  obtain⟨e1,e2⟩:=ZGS h
  have ha:=ZfC (x:=a) h (by simp)
  have hbl:=ZfC (x:=b) h (by simp)
  have hb2:b.length≤1000000:=by omega
  rw[e1]at hg hb
  by_cases h3:a=[]
  ·subst h3
   simp[ZjS,h,hl2,AV.bx,Zab,ZgJ]
   exact hb (by simp) _ _ (by simp)
  ·by_cases h4:b=[45,49]
   ·subst h4
    have hgg:(decide (a≠[])&&itB [45,49])=true:=by simp[h3,itB_min.1]
    have:=hg hgg
    rw[e2 hgg,itB_min.2]at this
    simp[ZjS,h,hl2,AV.bx,Zab,h3,Zie,ZgJ]
    exact this
   ·obtain⟨i1,i2⟩:=Zoy h4
    cases hn:ZdK b 7 with
    |true=>
     have hgg:(decide (a≠[])&&itB b)=true:=by simp[h3,i1,hn]
     have:=hg hgg
     rw[e2 hgg,i2]at this
     simp[ZjS,h,hl2,hb2,AV.bx,Zab,h3,Zie,h4,hn,ZgJ]
     exact this
    |false=>
     have:=hb (by simp[h3,i1,hn]) a 0 (by omega)
     simp[ZjS,h,hl2,hb2,AV.bx,Zab,h3,Zie,h4,hn,ZgJ]
     exact this
 ·have:=hb (by
   cases hk:kGd (.str ww)with
   |true=>exact absurd (ZyI hk) h2
   |false=>rfl) [] 0 (by simp)
  simp[ZjS,hl2,AV.bx,Zab,h2]
  exact this
theorem it3(x:List UInt8):(x=[45,49]∧x=[45,49]∧itB x=true∧itV x= -1)∨(x≠[45,49]∧ZdK x 7=true∧itB x=true∧itV x=Zbn x)∨(x≠[45,49]∧ZdK x 7=false∧itB x=false∧True):=by
 by_cases h:x=[45,49]
 ·subst h;exact .inl ⟨rfl,rfl,itB_min.1,itB_min.2⟩
 ·obtain⟨i1,i2⟩:=Zoy h
  cases hn:ZdK x 7 with
  |true=>exact .inr (.inl ⟨h,rfl,by rw[i1,hn],i2⟩)
  |false=>exact .inr (.inr ⟨h,rfl,by rw[i1,hn],trivial⟩)
theorem ZfZ{ww:List UInt8}{good bad:AV→Prop}(hl:ww.length≤60000)(hg:rGd (.str ww)=true→good (rOf (.str ww)))(hb:rGd (.str ww)=false→∀(l:List UInt8) (n m o q:Int),l.length≤60000→bad (.agg (.gen [.str l, .int .i64 n, .int .i64 m, .int .i64 o, .int .i64 q]))):Zmr std ww good bad:=by
 have hl2:ww.length≤1000000:=by omega
 by_cases h2:((Zac ww [32]).length:Int)=5
 ·obtain⟨a,b,c,d,f,h⟩:=Ztt (show (Zac ww [32]).length=5 by omega)
  obtain⟨e1,e2⟩:=ZCJ h
  have ha:=ZfC (x:=a) h (by simp)
  have hb2:b.length≤1000000:=Nat.le_trans (ZfC (x:=b) h (by simp)) hl2
  have hc2:c.length≤1000000:=Nat.le_trans (ZfC (x:=c) h (by simp)) hl2
  have hd2:d.length≤1000000:=Nat.le_trans (ZfC (x:=d) h (by simp)) hl2
  have hf2:f.length≤1000000:=Nat.le_trans (ZfC (x:=f) h (by simp)) hl2
  rw[e1]at hg hb
  by_cases h3:a=[]
  ·subst h3
   simp[Zmr,h,hl2,AV.bx,Zab,ZgJ]
   exact hb (by simp) _ _ _ _ _ (by simp)
  ·have hb':(itB b&&(itB c&&(itB d&&itB f)))=false→∀(l:List UInt8) (n m o q:Int),l.length≤60000→bad (.agg (.gen [.str l, .int .i64 n, .int .i64 m, .int .i64 o, .int .i64 q])):=fun hq=>hb (by rw[hq,Bool.and_false])
   have hg':itB b=true→itB c=true→itB d=true→itB f=true→good (.agg (.gen [.str a, .int .i64 (itV b), .int .i64 (itV c), .int .i64 (itV d), .int .i64 (itV f)])):=fun q1 q2 q3 q4=>by
    have hgg:(decide (a≠[])&&(itB b&&(itB c&&(itB d&&itB f))))=true:=by simp[h3,q1,q2,q3,q4]
    have:=hg hgg
    rwa[e2 hgg]at this
   have hal:a.length≤60000:=by omega
   simp[Zmr,h,hl2,h3,AV.bx,Zab,ZgJ,Zie,hb2,hc2,hd2,hf2]
   clear hg hb e1 e2 h
   rcases it3 b with⟨b0,b1,b2,b3⟩ |⟨b0,b1,b2,b3⟩ |⟨b0,b1,b2,b3⟩
   ·simp[b0,b1]
    rcases it3 c with⟨c0,c1,c2,c3⟩ |⟨c0,c1,c2,c3⟩ |⟨c0,c1,c2,c3⟩
    ·simp[c0,c1]
     rcases it3 d with⟨d0,d1,d2,d3⟩ |⟨d0,d1,d2,d3⟩ |⟨d0,d1,d2,d3⟩
     ·simp[d0,d1]
      rcases it3 f with⟨f0,f1,f2,f3⟩ |⟨f0,f1,f2,f3⟩ |⟨f0,f1,f2,f3⟩
      ·simp[f0,f1]
       have:=hg' b2 c2 d2 f2
       rw[b3,c3,d3,f3]at this
       exact this
      ·simp[f0,f1]
       have:=hg' b2 c2 d2 f2
       rw[b3,c3,d3,f3]at this
       exact this
      ·simp[f0,f1]
       exact hb' (by simp[b2,c2,d2,f2]) _ _ _ _ _ (by omega)
     ·simp[d0,d1]
      rcases it3 f with⟨f0,f1,f2,f3⟩ |⟨f0,f1,f2,f3⟩ |⟨f0,f1,f2,f3⟩
      ·simp[f0,f1]
       have:=hg' b2 c2 d2 f2
       rw[b3,c3,d3,f3]at this
       exact this
      ·simp[f0,f1]
       have:=hg' b2 c2 d2 f2
       rw[b3,c3,d3,f3]at this
       exact this
      ·simp[f0,f1]
       exact hb' (by simp[b2,c2,d2,f2]) _ _ _ _ _ (by omega)
     ·simp[d0,d1]
      exact hb' (by simp[b2,c2,d2]) _ _ _ _ _ (by omega)
    ·simp[c0,c1]
     rcases it3 d with⟨d0,d1,d2,d3⟩ |⟨d0,d1,d2,d3⟩ |⟨d0,d1,d2,d3⟩
     ·simp[d0,d1]
      rcases it3 f with⟨f0,f1,f2,f3⟩ |⟨f0,f1,f2,f3⟩ |⟨f0,f1,f2,f3⟩
      ·simp[f0,f1]
       have:=hg' b2 c2 d2 f2
       rw[b3,c3,d3,f3]at this
       exact this
      ·simp[f0,f1]
       have:=hg' b2 c2 d2 f2
       rw[b3,c3,d3,f3]at this
       exact this
      ·simp[f0,f1]
       exact hb' (by simp[b2,c2,d2,f2]) _ _ _ _ _ (by omega)
     ·simp[d0,d1]
      rcases it3 f with⟨f0,f1,f2,f3⟩ |⟨f0,f1,f2,f3⟩ |⟨f0,f1,f2,f3⟩
      ·simp[f0,f1]
       have:=hg' b2 c2 d2 f2
       rw[b3,c3,d3,f3]at this
       exact this
      ·simp[f0,f1]
       have:=hg' b2 c2 d2 f2
       rw[b3,c3,d3,f3]at this
       exact this
      ·simp[f0,f1]
       exact hb' (by simp[b2,c2,d2,f2]) _ _ _ _ _ (by omega)
     ·simp[d0,d1]
      exact hb' (by simp[b2,c2,d2]) _ _ _ _ _ (by omega)
    ·simp[c0,c1]
     exact hb' (by simp[b2,c2]) _ _ _ _ _ (by omega)
   ·simp[b0,b1]
    rcases it3 c with⟨c0,c1,c2,c3⟩ |⟨c0,c1,c2,c3⟩ |⟨c0,c1,c2,c3⟩
    ·simp[c0,c1]
     rcases it3 d with⟨d0,d1,d2,d3⟩ |⟨d0,d1,d2,d3⟩ |⟨d0,d1,d2,d3⟩
     ·simp[d0,d1]
      rcases it3 f with⟨f0,f1,f2,f3⟩ |⟨f0,f1,f2,f3⟩ |⟨f0,f1,f2,f3⟩
      ·simp[f0,f1]
       have:=hg' b2 c2 d2 f2
       rw[b3,c3,d3,f3]at this
       exact this
      ·simp[f0,f1]
       have:=hg' b2 c2 d2 f2
       rw[b3,c3,d3,f3]at this
       exact this
      ·simp[f0,f1]
       exact hb' (by simp[b2,c2,d2,f2]) _ _ _ _ _ (by omega)
     ·simp[d0,d1]
      rcases it3 f with⟨f0,f1,f2,f3⟩ |⟨f0,f1,f2,f3⟩ |⟨f0,f1,f2,f3⟩
      ·simp[f0,f1]
       have:=hg' b2 c2 d2 f2
       rw[b3,c3,d3,f3]at this
       exact this
      ·simp[f0,f1]
       have:=hg' b2 c2 d2 f2
       rw[b3,c3,d3,f3]at this
       exact this
      ·simp[f0,f1]
       exact hb' (by simp[b2,c2,d2,f2]) _ _ _ _ _ (by omega)
     ·simp[d0,d1]
      exact hb' (by simp[b2,c2,d2]) _ _ _ _ _ (by omega)
    ·simp[c0,c1]
     rcases it3 d with⟨d0,d1,d2,d3⟩ |⟨d0,d1,d2,d3⟩ |⟨d0,d1,d2,d3⟩
     ·simp[d0,d1]
      rcases it3 f with⟨f0,f1,f2,f3⟩ |⟨f0,f1,f2,f3⟩ |⟨f0,f1,f2,f3⟩
      ·simp[f0,f1]
       have:=hg' b2 c2 d2 f2
       rw[b3,c3,d3,f3]at this
       exact this
      ·simp[f0,f1]
       have:=hg' b2 c2 d2 f2
       rw[b3,c3,d3,f3]at this
       exact this
      ·simp[f0,f1]
       exact hb' (by simp[b2,c2,d2,f2]) _ _ _ _ _ (by omega)
     ·simp[d0,d1]
      rcases it3 f with⟨f0,f1,f2,f3⟩ |⟨f0,f1,f2,f3⟩ |⟨f0,f1,f2,f3⟩
      ·simp[f0,f1]
       have:=hg' b2 c2 d2 f2
       rw[b3,c3,d3,f3]at this
       exact this
      ·simp[f0,f1]
       have:=hg' b2 c2 d2 f2
       rw[b3,c3,d3,f3]at this
       exact this
      ·simp[f0,f1]
       exact hb' (by simp[b2,c2,d2,f2]) _ _ _ _ _ (by omega)
     ·simp[d0,d1]
      exact hb' (by simp[b2,c2,d2]) _ _ _ _ _ (by omega)
    ·simp[c0,c1]
     exact hb' (by simp[b2,c2]) _ _ _ _ _ (by omega)
   ·simp[b0,b1]
    exact hb' (by simp[b2]) _ _ _ _ _ (by omega)
 ·have:=hb (by
   cases hk:rGd (.str ww)with
   |true=>exact absurd (ZyY hk) h2
   |false=>rfl) [] 0 0 0 0 (by simp)
  simp[Zmr,hl2,AV.bx,Zab,h2]
  exact this
end Go.Proofs.YtkeoeooghhjibaaGreatDoor
/- Leaves of a tree. No condition. -/
namespace Go.Proofs.YtkeoeooghhjibaaGreatDoor
abbrev K61(C:Ctx)(R:AV):KT:=fun p=>Ev C p.1 p.2 (ZfQ 61 R none)
abbrev F61(R:AV):FT:=fun r' fr'=>Wk r' R∧fr'=none
structure Sh3 (ms ks rs:List AV):Prop where
 m:∀x∈ms,x.toS.length≤60000
 k:∀x∈ks,(x.cellAt 0).toS.length≤60000
 r:∀x∈rs,(x.cellAt 0).toS.length≤60000
 ml:ms.length≤60001
 kl:ks.length≤60001
 rl:rs.length≤60001
theorem Sh3.short{ms ks rs:List AV}(h:Sh3 ms ks rs):ZaI ms ks rs=true:=
 Zip (fun x hx=>Nat.le_trans (h.m x hx) (by decide)) (fun x hx=>Nat.le_trans (h.k x hx) (by decide)) (fun x hx=>Nat.le_trans (h.r x hx) (by decide)) ⟨Nat.le_trans h.ml (by decide),Nat.le_trans h.kl (by decide),Nat.le_trans h.rl (by decide)⟩
def Zc8(ok:Bool)(ms ks rs:List AV):AV:=ZpB (if ok=true then Zaj ms ks rs else 7) ms ks rs
theorem ZrC(ms ks rs ms' ks' rs':List AV):Zc8 false ms ks rs=Zc8 false ms' ks' rs':=by simp[Zc8,ZpB]
theorem Zhs{R:AV}{ms ks rs:List AV}(h:R=Zc8 false ms ks rs):Wk (.tup [.agg (.gen [.nils, .nils, .nils]), .int .i64 7]) R:=by
 subst h;exact ZqV _ _ _ rfl (by decide)
theorem ZsC{R:AV}{ms ks rs:List AV}(h:R=Zc8 true ms ks rs)(h0:Zaj ms ks rs=0):Wk (.tup [.agg (.gen [.list (.big .str ms), .list (.big (.agg [.str, .int .i64]) ks), .list (.big (.agg [.str, .int .i64, .int .i64, .int .i64, .int .i64]) rs)]), .int .i64 0]) R:=by
 subst h;unfold Zc8;rw[if_pos rfl,okM _ _ _ h0];exact .same _
theorem ZoU{R:AV}{ms ks:List AV}(h:R=Zc8 true ms ks [])(h0:Zaj ms ks []=0):Wk (.tup [.agg (.gen [.list (.big .str ms), .list (.big (.agg [.str, .int .i64]) ks), .nils]), .int .i64 0]) R:=by
 subst h;unfold Zc8;rw[if_pos rfl];exact ZHN _ _ h0
theorem Zlm{R:AV}{ms ks rs:List AV}(h:R=Zc8 true ms ks rs)(h0:Zaj ms ks rs≠0):Wk (.tup [.agg (.gen [.nils, .nils, .nils]), .int .i64 (Zaj ms ks rs)]) R:=by
 subst h;unfold Zc8;rw[if_pos rfl];exact ZqV _ _ _ rfl h0
section
variable {C:Ctx}{R:AV}
theorem Zpg{x0 x1:List AV}{n2:Int}{x3:List AV}{n4:Int}{b6:Bool}{l7 l8 l13 l14:List UInt8}{b15:Bool}{l16 l17 l18 l19:List UInt8}{b20:Bool}{l21 l22:List UInt8}{x25:List AV}{l26 l30:List UInt8}{b31:Bool}{x32:List AV}{l:List UInt8}{a b c d:Int}(h:Sh3 x3 x25 (x32++[.agg (.gen [.str l, .int .i64 a, .int .i64 b, .int .i64 c, .int .i64 d])])){ms ks rs:List AV}(hR:R=Zc8 false ms ks rs):ZcX std (K61 C R) (F61 R) x0 x1 n2 x3 n4 b6 l7 l8 l13 l14 b15 l16 l17 l18 l19 b20 l21 l22 x25 l26 l30 b31 x32 (.agg (.gen [.str l, .int .i64 a, .int .i64 b, .int .i64 c, .int .i64 d])):=by
 have hs:=h.short
 have hl:=h.rl
 simp[ZcX,hs,Zao,AV.bx,Zab,ZeZ]
 simp at hl
 first |exact⟨by omega,Zhs hR,rfl⟩ |exact⟨Zhs hR,rfl⟩
theorem Zv9{x0 x1:List AV}{n2:Int}{x3:List AV}{n4:Int}{b6:Bool}{l7 l8 l13 l14:List UInt8}{b15:Bool}{l16 l17 l18 l19:List UInt8}{b20:Bool}{l21 l22:List UInt8}{x25:List AV}{l26 l30:List UInt8}{b31:Bool}{x32:List AV}{l:List UInt8}{a b c d:Int}(h:Sh3 x3 x25 (x32++[.agg (.gen [.str l, .int .i64 a, .int .i64 b, .int .i64 c, .int .i64 d])]))(hR:R=Zc8 true x3 x25 (x32++[.agg (.gen [.str l, .int .i64 a, .int .i64 b, .int .i64 c, .int .i64 d])])):ZcD std (K61 C R) (F61 R) x0 x1 n2 x3 n4 b6 l7 l8 l13 l14 b15 l16 l17 l18 l19 b20 l21 l22 x25 l26 l30 b31 x32 (.agg (.gen [.str l, .int .i64 a, .int .i64 b, .int .i64 c, .int .i64 d])):=by
 have hs:=h.short
 have hl:=h.rl
 simp at hl
 by_cases h0:Zaj x3 x25 (x32++[.agg (.gen [.str l, .int .i64 a, .int .i64 b, .int .i64 c, .int .i64 d])])=0
 ·have:=ZsC hR h0
  simp[ZcD,hs,Zao,AV.bx,Zab,ZeZ,h0]
  first |exact⟨by omega,this,rfl⟩ |exact⟨this,rfl⟩
 ·have:=Zlm hR h0
  simp[ZcD,hs,Zao,AV.bx,Zab,ZeZ,h0]
  first |exact⟨by omega,this,rfl⟩ |exact⟨this,rfl⟩
theorem Zwi{x0 x1:List AV}{n2:Int}{x3:List AV}{n4:Int}{b6:Bool}{l7 l8 l13 l14:List UInt8}{b15:Bool}{l16 l17 l18 l19:List UInt8}{b20:Bool}{l21 l22 l23:List UInt8}{b24:Bool}{x25:List AV}{l26:List UInt8}{l:List UInt8}{a b c d:Int}(h:Sh3 x3 x25 ([.agg (.gen [.str l, .int .i64 a, .int .i64 b, .int .i64 c, .int .i64 d])])){ms ks rs:List AV}(hR:R=Zc8 false ms ks rs):ZcW std (K61 C R) (F61 R) x0 x1 n2 x3 n4 b6 l7 l8 l13 l14 b15 l16 l17 l18 l19 b20 l21 l22 l23 b24 x25 l26 (.agg (.gen [.str l, .int .i64 a, .int .i64 b, .int .i64 c, .int .i64 d])):=by
 have hs:=h.short
 have hl:=h.rl
 simp[ZcW,hs,Zao,AV.bx,Zab,ZeZ]
 simp at hl
 first |exact⟨by omega,Zhs hR,rfl⟩ |exact⟨Zhs hR,rfl⟩
theorem ZC3{x0 x1:List AV}{n2:Int}{x3:List AV}{n4:Int}{b6:Bool}{l7 l8 l13 l14:List UInt8}{b15:Bool}{l16 l17 l18 l19:List UInt8}{b20:Bool}{l21 l22 l23:List UInt8}{b24:Bool}{x25:List AV}{l26:List UInt8}{l:List UInt8}{a b c d:Int}(h:Sh3 x3 x25 ([.agg (.gen [.str l, .int .i64 a, .int .i64 b, .int .i64 c, .int .i64 d])]))(hR:R=Zc8 true x3 x25 ([.agg (.gen [.str l, .int .i64 a, .int .i64 b, .int .i64 c, .int .i64 d])])):ZcO std (K61 C R) (F61 R) x0 x1 n2 x3 n4 b6 l7 l8 l13 l14 b15 l16 l17 l18 l19 b20 l21 l22 l23 b24 x25 l26 (.agg (.gen [.str l, .int .i64 a, .int .i64 b, .int .i64 c, .int .i64 d])):=by
 have hs:=h.short
 have hl:=h.rl
 simp at hl
 by_cases h0:Zaj x3 x25 ([.agg (.gen [.str l, .int .i64 a, .int .i64 b, .int .i64 c, .int .i64 d])])=0
 ·have:=ZsC hR h0
  simp[ZcO,hs,Zao,AV.bx,Zab,ZeZ,h0]
  first |exact⟨by omega,this,rfl⟩ |exact⟨this,rfl⟩
 ·have:=Zlm hR h0
  simp[ZcO,hs,Zao,AV.bx,Zab,ZeZ,h0]
  first |exact⟨by omega,this,rfl⟩ |exact⟨this,rfl⟩
theorem Zvl{x0 x1:List AV}{n2:Int}{x3:List AV}{n4:Int}{b6:Bool}{l7 l8 l13 l14:List UInt8}{b15:Bool}{l16 l17 l18 l19:List UInt8}{b20:Bool}{l21 l22:List UInt8}{x25:List AV}{l26 l30:List UInt8}{b31:Bool}{x32:List AV}{x t l:List UInt8}{a b c d:Int}(hi:ixS l30 [44]=x.length)(hl:l30.length=x.length+1+t.length)(hm:l30.length≤60000)(t2:sub3 l30 (x.length+1) (l30.length-(x.length+1))=t)(hx:x32.length≤60001)(ih:Ev C (ZbQ x0 x1 n2 x3 n4 b6 l7 l8 l13 l14 b15 l16 l17 l18 l19 b20 l21 l22 x25 l26 (t) (false) (x32++[.agg (.gen [.str l, .int .i64 a, .int .i64 b, .int .i64 c, .int .i64 d])])) (Zbw x0 x1 n2 x3 n4 b6 l7 l8 l13 l14 b15 l16 l17 l18 l19 b20 l21 l22 x25 l26 (t) (false) (x32++[.agg (.gen [.str l, .int .i64 a, .int .i64 b, .int .i64 c, .int .i64 d])])) (ZfQ 61 R none)):ZcQ std (K61 C R) (F61 R) x0 x1 n2 x3 n4 b6 l7 l8 l13 l14 b15 l16 l17 l18 l19 b20 l21 l22 x25 l26 l30 b31 x32 (.agg (.gen [.str l, .int .i64 a, .int .i64 b, .int .i64 c, .int .i64 d])):=by
 have e2:((x.length:Int)+1).toNat=x.length+1:=by omega
 simp[ZcQ,hi,AV.bx,Zab,ZeZ,Zdi,e2,t2]
 repeat refine⟨by omega,?_⟩
 simpa using ih
theorem ZBy{x0 x1:List AV}{n2:Int}{x3:List AV}{n4:Int}{b6:Bool}{l7 l8 l13 l14:List UInt8}{b15:Bool}{l16 l17 l18 l19:List UInt8}{b20:Bool}{l21 l22:List UInt8}{x25:List AV}{l26 l30:List UInt8}{b31:Bool}{x32:List AV}{x t l:List UInt8}{a b c d:Int}(hi:ixS l30 [44]=x.length)(hl:l30.length=x.length+1+t.length)(hm:l30.length≤60000)(t2:sub3 l30 (x.length+1) (l30.length-(x.length+1))=t)(hx:x32.length≤60001)(ih:Ev C (ZbQ x0 x1 n2 x3 n4 b6 l7 l8 l13 l14 b15 l16 l17 l18 l19 b20 l21 l22 x25 l26 (t) (true) (x32++[.agg (.gen [.str l, .int .i64 a, .int .i64 b, .int .i64 c, .int .i64 d])])) (Zbw x0 x1 n2 x3 n4 b6 l7 l8 l13 l14 b15 l16 l17 l18 l19 b20 l21 l22 x25 l26 (t) (true) (x32++[.agg (.gen [.str l, .int .i64 a, .int .i64 b, .int .i64 c, .int .i64 d])])) (ZfQ 61 R none)):Zej std (K61 C R) (F61 R) x0 x1 n2 x3 n4 b6 l7 l8 l13 l14 b15 l16 l17 l18 l19 b20 l21 l22 x25 l26 l30 b31 x32 (.agg (.gen [.str l, .int .i64 a, .int .i64 b, .int .i64 c, .int .i64 d])):=by
 have e2:((x.length:Int)+1).toNat=x.length+1:=by omega
 simp[Zej,hi,AV.bx,Zab,ZeZ,Zdi,e2,t2]
 repeat refine⟨by omega,?_⟩
 simpa using ih
theorem ZvT{x0 x1:List AV}{n2:Int}{x3:List AV}{n4:Int}{b6:Bool}{l7 l8 l13 l14:List UInt8}{b15:Bool}{l16 l17 l18 l19:List UInt8}{b20:Bool}{l21 l22 l23:List UInt8}{b24:Bool}{x25:List AV}{l26:List UInt8}{x t l:List UInt8}{a b c d:Int}(hi:ixS l23 [44]=x.length)(hl:l23.length=x.length+1+t.length)(hm:l23.length≤60000)(t2:sub3 l23 (x.length+1) (l23.length-(x.length+1))=t)(ih:Ev C (ZbQ x0 x1 n2 x3 n4 b6 l7 l8 l13 l14 b15 l16 l17 l18 l19 b20 l21 l22 x25 l26 (t) (false) ([.agg (.gen [.str l, .int .i64 a, .int .i64 b, .int .i64 c, .int .i64 d])])) (Zbw x0 x1 n2 x3 n4 b6 l7 l8 l13 l14 b15 l16 l17 l18 l19 b20 l21 l22 x25 l26 (t) (false) ([.agg (.gen [.str l, .int .i64 a, .int .i64 b, .int .i64 c, .int .i64 d])])) (ZfQ 61 R none)):ZcR std (K61 C R) (F61 R) x0 x1 n2 x3 n4 b6 l7 l8 l13 l14 b15 l16 l17 l18 l19 b20 l21 l22 l23 b24 x25 l26 (.agg (.gen [.str l, .int .i64 a, .int .i64 b, .int .i64 c, .int .i64 d])):=by
 have e2:((x.length:Int)+1).toNat=x.length+1:=by omega
 simp[ZcR,hi,AV.bx,Zab,ZeZ,Zdi,e2,t2]
 repeat refine⟨by omega,?_⟩
 simpa using ih
theorem ZBS{x0 x1:List AV}{n2:Int}{x3:List AV}{n4:Int}{b6:Bool}{l7 l8 l13 l14:List UInt8}{b15:Bool}{l16 l17 l18 l19:List UInt8}{b20:Bool}{l21 l22 l23:List UInt8}{b24:Bool}{x25:List AV}{l26:List UInt8}{x t l:List UInt8}{a b c d:Int}(hi:ixS l23 [44]=x.length)(hl:l23.length=x.length+1+t.length)(hm:l23.length≤60000)(t2:sub3 l23 (x.length+1) (l23.length-(x.length+1))=t)(ih:Ev C (ZbQ x0 x1 n2 x3 n4 b6 l7 l8 l13 l14 b15 l16 l17 l18 l19 b20 l21 l22 x25 l26 (t) (true) ([.agg (.gen [.str l, .int .i64 a, .int .i64 b, .int .i64 c, .int .i64 d])])) (Zbw x0 x1 n2 x3 n4 b6 l7 l8 l13 l14 b15 l16 l17 l18 l19 b20 l21 l22 x25 l26 (t) (true) ([.agg (.gen [.str l, .int .i64 a, .int .i64 b, .int .i64 c, .int .i64 d])])) (ZfQ 61 R none)):Zeu std (K61 C R) (F61 R) x0 x1 n2 x3 n4 b6 l7 l8 l13 l14 b15 l16 l17 l18 l19 b20 l21 l22 l23 b24 x25 l26 (.agg (.gen [.str l, .int .i64 a, .int .i64 b, .int .i64 c, .int .i64 d])):=by
 have e2:((x.length:Int)+1).toNat=x.length+1:=by omega
 simp[Zeu,hi,AV.bx,Zab,ZeZ,Zdi,e2,t2]
 repeat refine⟨by omega,?_⟩
 simpa using ih
theorem ZvE{x0 x1:List AV}{n2:Int}{x3:List AV}{n4:Int}{b6:Bool}{l7 l8:List UInt8}{b9:Bool}{l10 l11 l27:List UInt8}{b28:Bool}{x29:List AV}{x t l:List UInt8}{a:Int}(hi:ixS l27 [44]=x.length)(hl:l27.length=x.length+1+t.length)(hm:l27.length≤60000)(t2:sub3 l27 (x.length+1) (l27.length-(x.length+1))=t)(hx:x29.length≤60001)(ih:Ev C (ZbK x0 x1 n2 x3 n4 b6 l7 l8 b9 l10 l11 (t) (false) (x29++[.agg (.gen [.str l, .int .i64 a])])) (Zbt x0 x1 n2 x3 n4 b6 l7 l8 b9 l10 l11 (t) (false) (x29++[.agg (.gen [.str l, .int .i64 a])])) (ZfQ 61 R none)):ZcK std (K61 C R) (F61 R) x0 x1 n2 x3 n4 b6 l7 l8 b9 l10 l11 l27 b28 x29 (.agg (.gen [.str l, .int .i64 a])):=by
 have e2:((x.length:Int)+1).toNat=x.length+1:=by omega
 simp[ZcK,hi,AV.bx,Zab,ZeZ,Zdi,e2,t2]
 repeat refine⟨by omega,?_⟩
 simpa using ih
theorem ZBb{x0 x1:List AV}{n2:Int}{x3:List AV}{n4:Int}{b6:Bool}{l7 l8:List UInt8}{b9:Bool}{l10 l11 l27:List UInt8}{b28:Bool}{x29:List AV}{x t l:List UInt8}{a:Int}(hi:ixS l27 [44]=x.length)(hl:l27.length=x.length+1+t.length)(hm:l27.length≤60000)(t2:sub3 l27 (x.length+1) (l27.length-(x.length+1))=t)(hx:x29.length≤60001)(ih:Ev C (ZbK x0 x1 n2 x3 n4 b6 l7 l8 b9 l10 l11 (t) (true) (x29++[.agg (.gen [.str l, .int .i64 a])])) (Zbt x0 x1 n2 x3 n4 b6 l7 l8 b9 l10 l11 (t) (true) (x29++[.agg (.gen [.str l, .int .i64 a])])) (ZfQ 61 R none)):Zeh std (K61 C R) (F61 R) x0 x1 n2 x3 n4 b6 l7 l8 b9 l10 l11 l27 b28 x29 (.agg (.gen [.str l, .int .i64 a])):=by
 have e2:((x.length:Int)+1).toNat=x.length+1:=by omega
 simp[Zeh,hi,AV.bx,Zab,ZeZ,Zdi,e2,t2]
 repeat refine⟨by omega,?_⟩
 simpa using ih
theorem Zvx{x0 x1:List AV}{n2:Int}{x3:List AV}{n4:Int}{b5 b6:Bool}{l7 l8:List UInt8}{b9:Bool}{l10 l11 l12:List UInt8}{x t l:List UInt8}{a:Int}(hi:ixS l12 [44]=x.length)(hl:l12.length=x.length+1+t.length)(hm:l12.length≤60000)(t2:sub3 l12 (x.length+1) (l12.length-(x.length+1))=t)(ih:Ev C (ZbK x0 x1 n2 x3 n4 b6 l7 l8 b9 l10 l11 (t) (false) ([.agg (.gen [.str l, .int .i64 a])])) (Zbt x0 x1 n2 x3 n4 b6 l7 l8 b9 l10 l11 (t) (false) ([.agg (.gen [.str l, .int .i64 a])])) (ZfQ 61 R none)):ZcJ std (K61 C R) (F61 R) x0 x1 n2 x3 n4 b5 b6 l7 l8 b9 l10 l11 l12 (.agg (.gen [.str l, .int .i64 a])):=by
 have e2:((x.length:Int)+1).toNat=x.length+1:=by omega
 simp[ZcJ,hi,AV.bx,Zab,ZeZ,Zdi,e2,t2]
 repeat refine⟨by omega,?_⟩
 simpa using ih
theorem ZCn{x0 x1:List AV}{n2:Int}{x3:List AV}{n4:Int}{b5 b6:Bool}{l7 l8:List UInt8}{b9:Bool}{l10 l11 l12:List UInt8}{x t l:List UInt8}{a:Int}(hi:ixS l12 [44]=x.length)(hl:l12.length=x.length+1+t.length)(hm:l12.length≤60000)(t2:sub3 l12 (x.length+1) (l12.length-(x.length+1))=t)(ih:Ev C (ZbK x0 x1 n2 x3 n4 b6 l7 l8 b9 l10 l11 (t) (true) ([.agg (.gen [.str l, .int .i64 a])])) (Zbt x0 x1 n2 x3 n4 b6 l7 l8 b9 l10 l11 (t) (true) ([.agg (.gen [.str l, .int .i64 a])])) (ZfQ 61 R none)):Zew std (K61 C R) (F61 R) x0 x1 n2 x3 n4 b5 b6 l7 l8 b9 l10 l11 l12 (.agg (.gen [.str l, .int .i64 a])):=by
 have e2:((x.length:Int)+1).toNat=x.length+1:=by omega
 simp[Zew,hi,AV.bx,Zab,ZeZ,Zdi,e2,t2]
 repeat refine⟨by omega,?_⟩
 simpa using ih
theorem Zpw{x0 x1:List AV}{n2:Int}{x3:List AV}{n4:Int}{b6:Bool}{l7 l8:List UInt8}{b9:Bool}{l10 l11 l27:List UInt8}{b28:Bool}{x29:List AV}{l:List UInt8}{a:Int}(h:Sh3 x3 (x29++[.agg (.gen [.str l, .int .i64 a])]) [])(hp:2<x0.length){ms ks rs:List AV}(hR:((x0.getD 2 .top).toS)=[]→R=Zc8 false ms ks rs)(ih:((x0.getD 2 .top).toS)≠[]→∀q15 q20:Bool,Ev C (ZbB (x0) (x1) (n2) (x3) (n4) (b6) (l7) (l8) ((x0.getD 2 .top).toS) ((x0.getD 2 .top).toS) q15 ((x0.getD 2 .top).toS) ((x0.getD 2 .top).toS) ((x0.getD 2 .top).toS) ((x0.getD 2 .top).toS) q20 ((x0.getD 2 .top).toS) ((x0.getD 2 .top).toS) ((x0.getD 2 .top).toS) (false) (x29++[.agg (.gen [.str l, .int .i64 a])]) (l27)) (Zbf (x0) (x1) (n2) (x3) (n4) (b6) (l7) (l8) ((x0.getD 2 .top).toS) ((x0.getD 2 .top).toS) q15 ((x0.getD 2 .top).toS) ((x0.getD 2 .top).toS) ((x0.getD 2 .top).toS) ((x0.getD 2 .top).toS) q20 ((x0.getD 2 .top).toS) ((x0.getD 2 .top).toS) ((x0.getD 2 .top).toS) (false) (x29++[.agg (.gen [.str l, .int .i64 a])]) (l27)) (ZfQ 61 R none)):Zb5 std (K61 C R) (F61 R) x0 x1 n2 x3 n4 b6 l7 l8 b9 l10 l11 l27 b28 x29 (.agg (.gen [.str l, .int .i64 a])):=by
 have hs:=h.short
 have hl:=h.kl
 simp at hl
 by_cases hq:((x0.getD 2 .top).toS)=[]
 ·have hR:=hR hq
  simp[-List.getD_eq_getElem?_getD,Zb5,hs,Zao,AV.bx,Zab,Zdi,hp,hq]
  first |exact⟨by omega,Zhs hR,rfl⟩ |exact⟨Zhs hR,rfl⟩
 ·have ih:=ih hq
  simp[-List.getD_eq_getElem?_getD,Zb5,hs,Zao,AV.bx,Zab,Zdi,hp,hq]
  first |exact⟨by omega,ih _ _⟩ |exact ih _ _
theorem ZvJ{x0 x1:List AV}{n2:Int}{x3:List AV}{n4:Int}{b6:Bool}{l7 l8:List UInt8}{b9:Bool}{l10 l11 l27:List UInt8}{b28:Bool}{x29:List AV}{l:List UInt8}{a:Int}(h:Sh3 x3 (x29++[.agg (.gen [.str l, .int .i64 a])]) [])(hp:2<x0.length)(hR:((x0.getD 2 .top).toS)=[]→R=Zc8 true x3 (x29++[.agg (.gen [.str l, .int .i64 a])]) [])(ih:((x0.getD 2 .top).toS)≠[]→∀q15 q20:Bool,Ev C (ZbB (x0) (x1) (n2) (x3) (n4) (b6) (l7) (l8) ((x0.getD 2 .top).toS) ((x0.getD 2 .top).toS) q15 ((x0.getD 2 .top).toS) ((x0.getD 2 .top).toS) ((x0.getD 2 .top).toS) ((x0.getD 2 .top).toS) q20 ((x0.getD 2 .top).toS) ((x0.getD 2 .top).toS) ((x0.getD 2 .top).toS) (true) (x29++[.agg (.gen [.str l, .int .i64 a])]) (l27)) (Zbf (x0) (x1) (n2) (x3) (n4) (b6) (l7) (l8) ((x0.getD 2 .top).toS) ((x0.getD 2 .top).toS) q15 ((x0.getD 2 .top).toS) ((x0.getD 2 .top).toS) ((x0.getD 2 .top).toS) ((x0.getD 2 .top).toS) q20 ((x0.getD 2 .top).toS) ((x0.getD 2 .top).toS) ((x0.getD 2 .top).toS) (true) (x29++[.agg (.gen [.str l, .int .i64 a])]) (l27)) (ZfQ 61 R none)):Zb1 std (K61 C R) (F61 R) x0 x1 n2 x3 n4 b6 l7 l8 b9 l10 l11 l27 b28 x29 (.agg (.gen [.str l, .int .i64 a])):=by
 have hs:=h.short
 have hl:=h.kl
 simp at hl
 by_cases hq:((x0.getD 2 .top).toS)=[]
 ·have hR:=hR hq
  by_cases h0:Zaj x3 (x29++[.agg (.gen [.str l, .int .i64 a])]) []=0
  ·have:=ZoU hR h0
   simp[-List.getD_eq_getElem?_getD,Zb1,hs,Zao,AV.bx,Zab,Zdi,hp,hq,h0]
   first |exact⟨by omega,this,rfl⟩ |exact⟨this,rfl⟩
  ·have:=Zlm hR h0
   simp[-List.getD_eq_getElem?_getD,Zb1,hs,Zao,AV.bx,Zab,Zdi,hp,hq,h0]
   first |exact⟨by omega,this,rfl⟩ |exact⟨this,rfl⟩
 ·have ih:=ih hq
  simp[-List.getD_eq_getElem?_getD,Zb1,hs,Zao,AV.bx,Zab,Zdi,hp,hq]
  first |exact⟨by omega,ih _ _⟩ |exact ih _ _
theorem Zwg{x0 x1:List AV}{n2:Int}{x3:List AV}{n4:Int}{b5 b6:Bool}{l7 l8:List UInt8}{b9:Bool}{l10 l11 l12:List UInt8}{l:List UInt8}{a:Int}(h:Sh3 x3 ([.agg (.gen [.str l, .int .i64 a])]) [])(hp:2<x0.length){ms ks rs:List AV}(hR:((x0.getD 2 .top).toS)=[]→R=Zc8 false ms ks rs)(ih:((x0.getD 2 .top).toS)≠[]→∀q15 q20:Bool,Ev C (ZbB (x0) (x1) (n2) (x3) (n4) (b6) (l7) (l8) ((x0.getD 2 .top).toS) ((x0.getD 2 .top).toS) q15 ((x0.getD 2 .top).toS) ((x0.getD 2 .top).toS) ((x0.getD 2 .top).toS) ((x0.getD 2 .top).toS) q20 ((x0.getD 2 .top).toS) ((x0.getD 2 .top).toS) ((x0.getD 2 .top).toS) (false) ([.agg (.gen [.str l, .int .i64 a])]) (l12)) (Zbf (x0) (x1) (n2) (x3) (n4) (b6) (l7) (l8) ((x0.getD 2 .top).toS) ((x0.getD 2 .top).toS) q15 ((x0.getD 2 .top).toS) ((x0.getD 2 .top).toS) ((x0.getD 2 .top).toS) ((x0.getD 2 .top).toS) q20 ((x0.getD 2 .top).toS) ((x0.getD 2 .top).toS) ((x0.getD 2 .top).toS) (false) ([.agg (.gen [.str l, .int .i64 a])]) (l12)) (ZfQ 61 R none)):Zb6 std (K61 C R) (F61 R) x0 x1 n2 x3 n4 b5 b6 l7 l8 b9 l10 l11 l12 (.agg (.gen [.str l, .int .i64 a])):=by
 have hs:=h.short
 have hl:=h.kl
 simp at hl
 by_cases hq:((x0.getD 2 .top).toS)=[]
 ·have hR:=hR hq
  simp[-List.getD_eq_getElem?_getD,Zb6,hs,Zao,AV.bx,Zab,Zdi,hp,hq]
  first |exact⟨by omega,Zhs hR,rfl⟩ |exact⟨Zhs hR,rfl⟩
 ·have ih:=ih hq
  simp[-List.getD_eq_getElem?_getD,Zb6,hs,Zao,AV.bx,Zab,Zdi,hp,hq]
  first |exact⟨by omega,ih _ _⟩ |exact ih _ _
theorem ZAO{x0 x1:List AV}{n2:Int}{x3:List AV}{n4:Int}{b5 b6:Bool}{l7 l8:List UInt8}{b9:Bool}{l10 l11 l12:List UInt8}{l:List UInt8}{a:Int}(h:Sh3 x3 ([.agg (.gen [.str l, .int .i64 a])]) [])(hp:2<x0.length)(hR:((x0.getD 2 .top).toS)=[]→R=Zc8 true x3 ([.agg (.gen [.str l, .int .i64 a])]) [])(ih:((x0.getD 2 .top).toS)≠[]→∀q15 q20:Bool,Ev C (ZbB (x0) (x1) (n2) (x3) (n4) (b6) (l7) (l8) ((x0.getD 2 .top).toS) ((x0.getD 2 .top).toS) q15 ((x0.getD 2 .top).toS) ((x0.getD 2 .top).toS) ((x0.getD 2 .top).toS) ((x0.getD 2 .top).toS) q20 ((x0.getD 2 .top).toS) ((x0.getD 2 .top).toS) ((x0.getD 2 .top).toS) (true) ([.agg (.gen [.str l, .int .i64 a])]) (l12)) (Zbf (x0) (x1) (n2) (x3) (n4) (b6) (l7) (l8) ((x0.getD 2 .top).toS) ((x0.getD 2 .top).toS) q15 ((x0.getD 2 .top).toS) ((x0.getD 2 .top).toS) ((x0.getD 2 .top).toS) ((x0.getD 2 .top).toS) q20 ((x0.getD 2 .top).toS) ((x0.getD 2 .top).toS) ((x0.getD 2 .top).toS) (true) ([.agg (.gen [.str l, .int .i64 a])]) (l12)) (ZfQ 61 R none)):ZbZ std (K61 C R) (F61 R) x0 x1 n2 x3 n4 b5 b6 l7 l8 b9 l10 l11 l12 (.agg (.gen [.str l, .int .i64 a])):=by
 have hs:=h.short
 have hl:=h.kl
 simp at hl
 by_cases hq:((x0.getD 2 .top).toS)=[]
 ·have hR:=hR hq
  by_cases h0:Zaj x3 ([.agg (.gen [.str l, .int .i64 a])]) []=0
  ·have:=ZoU hR h0
   simp[-List.getD_eq_getElem?_getD,ZbZ,hs,Zao,AV.bx,Zab,Zdi,hp,hq,h0]
   first |exact⟨by omega,this,rfl⟩ |exact⟨this,rfl⟩
  ·have:=Zlm hR h0
   simp[-List.getD_eq_getElem?_getD,ZbZ,hs,Zao,AV.bx,Zab,Zdi,hp,hq,h0]
   first |exact⟨by omega,this,rfl⟩ |exact⟨this,rfl⟩
 ·have ih:=ih hq
  simp[-List.getD_eq_getElem?_getD,ZbZ,hs,Zao,AV.bx,Zab,Zdi,hp,hq]
  first |exact⟨by omega,ih _ _⟩ |exact ih _ _
end
end Go.Proofs.YtkeoeooghhjibaaGreatDoor
/- Contracts as a list. No condition. -/
namespace Go.Proofs.YtkeoeooghhjibaaGreatDoor
def kW(w:List UInt8):AV:=kOf (.str w)
def rW(w:List UInt8):AV:=rOf (.str w)
def kg(w:List UInt8):Bool:=kGd (.str w)
def rg(w:List UInt8):Bool:=rGd (.str w)
def rlW(p:List AV):List (List UInt8):=if(p.getD 2 .top).toS=[]then []else Zba 44 (p.getD 2 .top).toS
theorem ZbX{R:AV}{ok:Bool}{a b c:List AV}(hR:R=Zc8 ok a b c)(h:ok=false):R=Zc8 false [] [] []:=by
 rw[hR,h];exact ZrC ..
theorem ZfU{R:AV}(h:R=Zc8 false [] [] []){ok:Bool}(hk:ok=false)(a b c:List AV):R=Zc8 ok a b c:=by
 rw[h,hk];exact ZrC ..
theorem ZhT{w:List UInt8}(h:w.length≤60000):((kW w).cellAt 0).toS.length≤60000:=Zs4 (x:=.str w) h
theorem Zl7{w:List UInt8}(h:w.length≤60000):((rW w).cellAt 0).toS.length≤60000:=ZrP (x:=.str w) h
theorem Sh3.addR{ms ks rs:List AV}{x:AV}(h:Sh3 ms ks rs)(hl:rs.length≤60000)(hx:(x.cellAt 0).toS.length≤60000):Sh3 ms ks (rs++[x]):=
 ⟨h.m,h.k,fun y hy=>by
   rcases List.mem_append.1 hy with hy |hy
   ·exact h.r y hy
   ·obtain rfl:=List.mem_singleton.1 hy;exact hx,h.ml,h.kl,by simp;omega⟩
theorem Sh3.addK{ms ks rs:List AV}{x:AV}(h:Sh3 ms ks rs)(hl:ks.length≤60000)(hx:(x.cellAt 0).toS.length≤60000):Sh3 ms (ks++[x]) rs:=
 ⟨h.m,fun y hy=>by
   rcases List.mem_append.1 hy with hy |hy
   ·exact h.k y hy
   ·obtain rfl:=List.mem_singleton.1 hy;exact hx,h.r,h.ml,by simp;omega,h.rl⟩
section
variable {C:Ctx}(hC:C.P=Tryz.prog){R:AV}
include hC
theorem r_d{x0 x1:List AV}{n2:Int}{x3:List AV}{n4:Int}{b6:Bool}{l7 l8 l13 l14:List UInt8}{b15:Bool}{l16 l17 l18 l19:List UInt8}{b20:Bool}{l21 l22:List UInt8}{x25:List AV}{l26:List UInt8} :∀(n:Nat) (l30:List UInt8) (b31:Bool) (x32:List AV),l30.length≤n→Sh3 x3 x25 x32→x32.length+l30.length≤60000→R=Zc8 (b31&&(Zba 44 l30).all rg) x3 x25 (x32++(Zba 44 l30).map rW)→Ev C (ZbQ x0 x1 n2 x3 n4 b6 l7 l8 l13 l14 b15 l16 l17 l18 l19 b20 l21 l22 x25 l26 l30 b31 x32) (Zbw x0 x1 n2 x3 n4 b6 l7 l8 l13 l14 b15 l16 l17 l18 l19 b20 l21 l22 x25 l26 l30 b31 x32) (ZfQ 61 R none):=by
 intro n
 induction n with
 |zero=>
  intro l30 b31 x32 hn h3 hl hR
  obtain rfl:l30=[]:=List.eq_nil_of_length_eq_zero (by omega)
  refine Zl2 hC Ze2 ZjN ?_
  have h1:(44:UInt8)∉([]:List UInt8):=by simp
  have hi:ixS [] [44]= -1:=by unfold ixS;simp[Lib.index]
  have hl6:([]:List UInt8).length≤1000000:=by simp
  have hw:([]:List UInt8).length≤60000:=by simp
  have hlx:x32.length≤60000:=by omega
  rw[ZcS 44 [] h1]at hR
  cases b31 with
  |false=>
   simp[Zbv,hi,hl6]
   exact Zpg (h3.addR hlx (by simp[AV.cellAt,AV.flat,AV.toS])) (ZbX hR (by simp))
  |true=>
   simp[Zbv,hi,hl6]
   refine ZfZ hw (fun hg=>?_) (fun hg l n m o q hql=>?_)
   ·exact Zv9 (h3.addR hlx (Zl7 hw)) (by rw[hR];simp[rg,hg]:R=Zc8 true x3 x25 (x32++[rW []]))
   ·exact Zpg (h3.addR hlx (hql)) (ZbX hR (by simp[rg,hg]))
 |succ n ih=>
  intro l30 b31 x32 hn h3 hl hR
  refine Zl2 hC Ze2 ZjN ?_
  have hl6:l30.length≤1000000:=by omega
  have hw:l30.length≤60000:=by omega
  have hlx:(x32:List AV).length≤60000:=by first |omega |simp
  rcases Zec 44 l30 with⟨h1,h2⟩ |⟨x,t,h1,h2,h3'⟩
  ·have hi:ixS l30 [44]= -1:=by unfold ixS;exact h2
   rw[ZcS 44 l30 h1]at hR
   cases b31 with
   |false=>
    simp[Zbv,hi,hl6]
    exact Zpg (h3.addR hlx (by simp[AV.cellAt,AV.flat,AV.toS])) (ZbX hR (by simp))
   |true=>
    simp[Zbv,hi,hl6]
    refine ZfZ hw (fun hg=>?_) (fun hg l n m o q hql=>?_)
    ·exact Zv9 (h3.addR hlx (Zl7 hw)) (by rw[hR];simp[rg,hg]:R=Zc8 true x3 x25 (x32++[rW l30]))
    ·exact Zpg (h3.addR hlx (hql)) (ZbX hR (by simp[rg,hg]))
  ·have hi:ixS l30 [44]=x.length:=by unfold ixS;exact h3'
   obtain⟨s1,s2⟩:=Zlb (x:=x) (t:=t) (c:=44)
   have hlx2:l30.length=x.length+1+t.length:=by rw[h1];simp;omega
   have hcut:Zba 44 l30=x::Zba 44 t:=by rw[h1];exact ZeW 44 x t h2
   rw[hcut,List.all_cons,List.map_cons]at hR
   rw[←h1]at s1 s2
   rw[Nat.sub_zero]at s1
   have t1:sub3 l30 0 x.length=x:=s1
   have t2:sub3 l30 (x.length+1) (l30.length-(x.length+1))=t:=s2
   have n0:¬(x.length:Int)<0:=by omega
   have hx6:x.length≤60000:=by omega
   have hlx1:(x32:List AV).length≤60001:=by omega
   cases b31 with
   |false=>
    simp[Zbv,hi,hl6,n0,t1]
    repeat refine⟨by omega,?_⟩
    exact Zvl hi hlx2 hw t2 hlx1 (ih t _ _ (by omega) (h3.addR hlx (by simp[AV.cellAt,AV.flat,AV.toS])) (by simp;omega) (ZfU (ZbX hR (by simp)) (by simp) _ _ _))
   |true=>
    simp[Zbv,hi,hl6,n0,t1]
    repeat refine⟨by omega,?_⟩
    refine ZfZ hx6 (fun hg=>?_) (fun hg l n m o q hql=>?_)
    ·exact ZBy hi hlx2 hw t2 hlx1 (ih t _ _ (by omega) (h3.addR hlx (Zl7 hx6)) (by simp;omega) (by rw[hR];simp[rg,hg]:R=Zc8 (true&&(Zba 44 t).all rg) x3 x25 ((x32++[rW x])++(Zba 44 t).map rW)))
    ·exact Zvl hi hlx2 hw t2 hlx1 (ih t _ _ (by omega) (h3.addR hlx (hql)) (by simp;omega) (ZfU (ZbX hR (by simp[rg,hg])) (by simp) _ _ _))
theorem r_b{x0 x1:List AV}{n2:Int}{x3:List AV}{n4:Int}{b6:Bool}{l7 l8 l13 l14:List UInt8}{b15:Bool}{l16 l17 l18 l19:List UInt8}{b20:Bool}{l21 l22 l23:List UInt8}{b24:Bool}{x25:List AV}{l26:List UInt8}(h3:Sh3 x3 x25 [])(hl:l23.length≤60000)(hR:R=Zc8 (b24&&(Zba 44 l23).all rg) x3 x25 ((Zba 44 l23).map rW)):Ev C (ZbB x0 x1 n2 x3 n4 b6 l7 l8 l13 l14 b15 l16 l17 l18 l19 b20 l21 l22 l23 b24 x25 l26) (Zbf x0 x1 n2 x3 n4 b6 l7 l8 l13 l14 b15 l16 l17 l18 l19 b20 l21 l22 l23 b24 x25 l26) (ZfQ 61 R none):=by
 refine Zl2 hC Ze2 Zop ?_
 have hl6:l23.length≤1000000:=by omega
 have hw:l23.length≤60000:=by omega
 have hlx:([]:List AV).length≤60000:=by first |omega |simp
 rcases Zec 44 l23 with⟨h1,h2⟩ |⟨x,t,h1,h2,h3'⟩
 ·have hi:ixS l23 [44]= -1:=by unfold ixS;exact h2
  rw[ZcS 44 l23 h1]at hR
  cases b24 with
  |false=>
   simp[Zco,hi,hl6]
   exact Zwi (h3.addR hlx (by simp[AV.cellAt,AV.flat,AV.toS])) (ZbX hR (by simp))
  |true=>
   simp[Zco,hi,hl6]
   refine ZfZ hw (fun hg=>?_) (fun hg l n m o q hql=>?_)
   ·exact ZC3 (h3.addR hlx (Zl7 hw)) (by rw[hR];simp[rg,hg]:R=Zc8 true x3 x25 ([rW l23]))
   ·exact Zwi (h3.addR hlx (hql)) (ZbX hR (by simp[rg,hg]))
 ·have hi:ixS l23 [44]=x.length:=by unfold ixS;exact h3'
  obtain⟨s1,s2⟩:=Zlb (x:=x) (t:=t) (c:=44)
  have hlx2:l23.length=x.length+1+t.length:=by rw[h1];simp;omega
  have hcut:Zba 44 l23=x::Zba 44 t:=by rw[h1];exact ZeW 44 x t h2
  rw[hcut,List.all_cons,List.map_cons]at hR
  rw[←h1]at s1 s2
  rw[Nat.sub_zero]at s1
  have t1:sub3 l23 0 x.length=x:=s1
  have t2:sub3 l23 (x.length+1) (l23.length-(x.length+1))=t:=s2
  have n0:¬(x.length:Int)<0:=by omega
  have hx6:x.length≤60000:=by omega
  have hlx1:([]:List AV).length≤60001:=by omega
  cases b24 with
  |false=>
   simp[Zco,hi,hl6,n0,t1]
   repeat refine⟨by omega,?_⟩
   exact ZvT hi hlx2 hw t2 (r_d hC t.length t _ _ (Nat.le_refl _) (h3.addR hlx (by simp[AV.cellAt,AV.flat,AV.toS])) (by simp;omega) (ZfU (ZbX hR (by simp)) (by simp) _ _ _))
  |true=>
   simp[Zco,hi,hl6,n0,t1]
   repeat refine⟨by omega,?_⟩
   refine ZfZ hx6 (fun hg=>?_) (fun hg l n m o q hql=>?_)
   ·exact ZBS hi hlx2 hw t2 (r_d hC t.length t _ _ (Nat.le_refl _) (h3.addR hlx (Zl7 hx6)) (by simp;omega) (by rw[hR];simp[rg,hg]:R=Zc8 (true&&(Zba 44 t).all rg) x3 x25 (([rW x])++(Zba 44 t).map rW)))
   ·exact ZvT hi hlx2 hw t2 (r_d hC t.length t _ _ (Nat.le_refl _) (h3.addR hlx (hql)) (by simp;omega) (ZfU (ZbX hR (by simp[rg,hg])) (by simp) _ _ _))
theorem rbx{x0 x1:List AV}{n2:Int}{x3:List AV}{n4:Int}{b6:Bool}{l7 l8 l13 l14:List UInt8}{b15:Bool}{l16 l17 l18 l19:List UInt8}{b20:Bool}{l21 l22 l23:List UInt8}{b24:Bool}{x25:List AV}{l26:List UInt8}(h3:Sh3 x3 x25 [])(hl:l23.length≤60000)(hR:R=Zc8 (b24&&(Zba 44 l23).all rg) x3 x25 ((Zba 44 l23).map rW)):Ev C (ZbB x0 x1 n2 x3 n4 b6 l7 l8 l13 l14 b15 l16 l17 l18 l19 b20 l21 l22 l23 b24 x25 l26) (Zbf x0 x1 n2 x3 n4 b6 l7 l8 l13 l14 b15 l16 l17 l18 l19 b20 l21 l22 l23 b24 x25 l26) (ZfQ 61 R none):=r_b hC h3 hl hR
theorem k_c{x0 x1:List AV}{n2:Int}{x3:List AV}{n4:Int}{b6:Bool}{l7 l8:List UInt8}{b9:Bool}{l10 l11:List UInt8}(hp:2<x0.length)(hp2:(x0.getD 2 .top).toS.length≤60000):∀(n:Nat) (l27:List UInt8) (b28:Bool) (x29:List AV),l27.length≤n→Sh3 x3 x29 []→x29.length+l27.length≤60000→R=Zc8 ((b28&&(Zba 44 l27).all kg)&&(rlW x0).all rg) x3 (x29++(Zba 44 l27).map kW) ((rlW x0).map rW)→Ev C (ZbK x0 x1 n2 x3 n4 b6 l7 l8 b9 l10 l11 l27 b28 x29) (Zbt x0 x1 n2 x3 n4 b6 l7 l8 b9 l10 l11 l27 b28 x29) (ZfQ 61 R none):=by
 intro n
 induction n with
 |zero=>
  intro l27 b28 x29 hn h3 hl hR
  obtain rfl:l27=[]:=List.eq_nil_of_length_eq_zero (by omega)
  refine Zl2 hC Ze2 ZiW ?_
  have h1:(44:UInt8)∉([]:List UInt8):=by simp
  have hi:ixS [] [44]= -1:=by unfold ixS;simp[Lib.index]
  have hl6:([]:List UInt8).length≤1000000:=by simp
  have hw:([]:List UInt8).length≤60000:=by simp
  have hlx:x29.length≤60000:=by omega
  rw[ZcS 44 [] h1]at hR
  cases b28 with
  |false=>
   simp[Zbx,hi,hl6]
   exact Zpw (h3.addK hlx (by simp[AV.cellAt,AV.flat,AV.toS])) hp (fun _=>ZbX hR (by simp)) (fun hq _ _=>rbx hC (h3.addK hlx (by simp[AV.cellAt,AV.flat,AV.toS])) hp2 (ZfU (ZbX hR (by simp)) rfl _ _ _))
  |true=>
   simp[Zbx,hi,hl6]
   refine Zf9 hw (fun hg=>?_) (fun hg l n hql=>?_)
   ·refine ZvJ (h3.addK hlx (ZhT hw)) hp (fun hq=>?_) (fun hq _ _=>rbx hC (h3.addK hlx (ZhT hw)) hp2 ?_)
    ·have hz:rlW x0=[]:=by unfold rlW;rw[if_pos hq]
     exact(by rw[hR,hz];simp[kg,hg]:R=Zc8 true x3 (x29++[kW []]) [])
    ·have hz:rlW x0=Zba 44 (x0.getD 2 .top).toS:=by unfold rlW;rw[if_neg hq]
     exact(by rw[hR,hz];simp[kg,hg]:R=Zc8 (true&&(Zba 44 (x0.getD 2 .top).toS).all rg) x3 (x29++[kW []]) ((Zba 44 (x0.getD 2 .top).toS).map rW))
   ·exact Zpw (h3.addK hlx (hql)) hp (fun _=>ZbX hR (by simp[kg,hg])) (fun hq _ _=>rbx hC (h3.addK hlx (hql)) hp2 (ZfU (ZbX hR (by simp[kg,hg])) rfl _ _ _))
 |succ n ih=>
  intro l27 b28 x29 hn h3 hl hR
  refine Zl2 hC Ze2 ZiW ?_
  have hl6:l27.length≤1000000:=by omega
  have hw:l27.length≤60000:=by omega
  have hlx:(x29:List AV).length≤60000:=by first |omega |simp
  rcases Zec 44 l27 with⟨h1,h2⟩ |⟨x,t,h1,h2,h3'⟩
  ·have hi:ixS l27 [44]= -1:=by unfold ixS;exact h2
   rw[ZcS 44 l27 h1]at hR
   cases b28 with
   |false=>
    simp[Zbx,hi,hl6]
    exact Zpw (h3.addK hlx (by simp[AV.cellAt,AV.flat,AV.toS])) hp (fun _=>ZbX hR (by simp)) (fun hq _ _=>rbx hC (h3.addK hlx (by simp[AV.cellAt,AV.flat,AV.toS])) hp2 (ZfU (ZbX hR (by simp)) rfl _ _ _))
   |true=>
    simp[Zbx,hi,hl6]
    refine Zf9 hw (fun hg=>?_) (fun hg l n hql=>?_)
    ·refine ZvJ (h3.addK hlx (ZhT hw)) hp (fun hq=>?_) (fun hq _ _=>rbx hC (h3.addK hlx (ZhT hw)) hp2 ?_)
     ·have hz:rlW x0=[]:=by unfold rlW;rw[if_pos hq]
      exact(by rw[hR,hz];simp[kg,hg]:R=Zc8 true x3 (x29++[kW l27]) [])
     ·have hz:rlW x0=Zba 44 (x0.getD 2 .top).toS:=by unfold rlW;rw[if_neg hq]
      exact(by rw[hR,hz];simp[kg,hg]:R=Zc8 (true&&(Zba 44 (x0.getD 2 .top).toS).all rg) x3 (x29++[kW l27]) ((Zba 44 (x0.getD 2 .top).toS).map rW))
    ·exact Zpw (h3.addK hlx (hql)) hp (fun _=>ZbX hR (by simp[kg,hg])) (fun hq _ _=>rbx hC (h3.addK hlx (hql)) hp2 (ZfU (ZbX hR (by simp[kg,hg])) rfl _ _ _))
  ·have hi:ixS l27 [44]=x.length:=by unfold ixS;exact h3'
   obtain⟨s1,s2⟩:=Zlb (x:=x) (t:=t) (c:=44)
   have hlx2:l27.length=x.length+1+t.length:=by rw[h1];simp;omega
   have hcut:Zba 44 l27=x::Zba 44 t:=by rw[h1];exact ZeW 44 x t h2
   rw[hcut,List.all_cons,List.map_cons]at hR
   rw[←h1]at s1 s2
   rw[Nat.sub_zero]at s1
   have t1:sub3 l27 0 x.length=x:=s1
   have t2:sub3 l27 (x.length+1) (l27.length-(x.length+1))=t:=s2
   have n0:¬(x.length:Int)<0:=by omega
   have hx6:x.length≤60000:=by omega
   have hlx1:(x29:List AV).length≤60001:=by omega
   cases b28 with
   |false=>
    simp[Zbx,hi,hl6,n0,t1]
    repeat refine⟨by omega,?_⟩
    exact ZvE hi hlx2 hw t2 hlx1 (ih t _ _ (by omega) (h3.addK hlx (by simp[AV.cellAt,AV.flat,AV.toS])) (by simp;omega) (ZfU (ZbX hR (by simp)) (by simp) _ _ _))
   |true=>
    simp[Zbx,hi,hl6,n0,t1]
    repeat refine⟨by omega,?_⟩
    refine Zf9 hx6 (fun hg=>?_) (fun hg l n hql=>?_)
    ·exact ZBb hi hlx2 hw t2 hlx1 (ih t _ _ (by omega) (h3.addK hlx (ZhT hx6)) (by simp;omega) (by rw[hR];simp[kg,hg]:R=Zc8 ((true&&(Zba 44 t).all kg)&&(rlW x0).all rg) x3 ((x29++[kW x])++(Zba 44 t).map kW) ((rlW x0).map rW)))
    ·exact ZvE hi hlx2 hw t2 hlx1 (ih t _ _ (by omega) (h3.addK hlx (hql)) (by simp;omega) (ZfU (ZbX hR (by simp[kg,hg])) (by simp) _ _ _))
theorem k_a{x0 x1:List AV}{n2:Int}{x3:List AV}{n4:Int}{b5 b6:Bool}{l7 l8:List UInt8}{b9:Bool}{l10 l11 l12:List UInt8}(hp:2<x0.length)(hp2:(x0.getD 2 .top).toS.length≤60000)(h3:Sh3 x3 [] [])(hl:l12.length≤60000)(hR:R=Zc8 ((b5&&(Zba 44 l12).all kg)&&(rlW x0).all rg) x3 ((Zba 44 l12).map kW) ((rlW x0).map rW)):Ev C (Zgs x0 x1 n2 x3 n4 b5 b6 l7 l8 b9 l10 l11 l12) (Zfo x0 x1 n2 x3 n4 b5 b6 l7 l8 b9 l10 l11 l12) (ZfQ 61 R none):=by
 refine Zl2 hC Ze2 Zol ?_
 have hl6:l12.length≤1000000:=by omega
 have hw:l12.length≤60000:=by omega
 have hlx:([]:List AV).length≤60000:=by first |omega |simp
 rcases Zec 44 l12 with⟨h1,h2⟩ |⟨x,t,h1,h2,h3'⟩
 ·have hi:ixS l12 [44]= -1:=by unfold ixS;exact h2
  rw[ZcS 44 l12 h1]at hR
  cases b5 with
  |false=>
   simp[Zcw,hi,hl6]
   exact Zwg (h3.addK hlx (by simp[AV.cellAt,AV.flat,AV.toS])) hp (fun _=>ZbX hR (by simp)) (fun hq _ _=>rbx hC (h3.addK hlx (by simp[AV.cellAt,AV.flat,AV.toS])) hp2 (ZfU (ZbX hR (by simp)) rfl _ _ _))
  |true=>
   simp[Zcw,hi,hl6]
   refine Zf9 hw (fun hg=>?_) (fun hg l n hql=>?_)
   ·refine ZAO (h3.addK hlx (ZhT hw)) hp (fun hq=>?_) (fun hq _ _=>rbx hC (h3.addK hlx (ZhT hw)) hp2 ?_)
    ·have hz:rlW x0=[]:=by unfold rlW;rw[if_pos hq]
     exact(by rw[hR,hz];simp[kg,hg]:R=Zc8 true x3 ([kW l12]) [])
    ·have hz:rlW x0=Zba 44 (x0.getD 2 .top).toS:=by unfold rlW;rw[if_neg hq]
     exact(by rw[hR,hz];simp[kg,hg]:R=Zc8 (true&&(Zba 44 (x0.getD 2 .top).toS).all rg) x3 ([kW l12]) ((Zba 44 (x0.getD 2 .top).toS).map rW))
   ·exact Zwg (h3.addK hlx (hql)) hp (fun _=>ZbX hR (by simp[kg,hg])) (fun hq _ _=>rbx hC (h3.addK hlx (hql)) hp2 (ZfU (ZbX hR (by simp[kg,hg])) rfl _ _ _))
 ·have hi:ixS l12 [44]=x.length:=by unfold ixS;exact h3'
  obtain⟨s1,s2⟩:=Zlb (x:=x) (t:=t) (c:=44)
  have hlx2:l12.length=x.length+1+t.length:=by rw[h1];simp;omega
  have hcut:Zba 44 l12=x::Zba 44 t:=by rw[h1];exact ZeW 44 x t h2
  rw[hcut,List.all_cons,List.map_cons]at hR
  rw[←h1]at s1 s2
  rw[Nat.sub_zero]at s1
  have t1:sub3 l12 0 x.length=x:=s1
  have t2:sub3 l12 (x.length+1) (l12.length-(x.length+1))=t:=s2
  have n0:¬(x.length:Int)<0:=by omega
  have hx6:x.length≤60000:=by omega
  have hlx1:([]:List AV).length≤60001:=by omega
  cases b5 with
  |false=>
   simp[Zcw,hi,hl6,n0,t1]
   repeat refine⟨by omega,?_⟩
   exact Zvx hi hlx2 hw t2 (k_c hC hp hp2 t.length t _ _ (Nat.le_refl _) (h3.addK hlx (by simp[AV.cellAt,AV.flat,AV.toS])) (by simp;omega) (ZfU (ZbX hR (by simp)) (by simp) _ _ _))
  |true=>
   simp[Zcw,hi,hl6,n0,t1]
   repeat refine⟨by omega,?_⟩
   refine Zf9 hx6 (fun hg=>?_) (fun hg l n hql=>?_)
   ·exact ZCn hi hlx2 hw t2 (k_c hC hp hp2 t.length t _ _ (Nat.le_refl _) (h3.addK hlx (ZhT hx6)) (by simp;omega) (by rw[hR];simp[kg,hg]:R=Zc8 ((true&&(Zba 44 t).all kg)&&(rlW x0).all rg) x3 (([kW x])++(Zba 44 t).map kW) ((rlW x0).map rW)))
   ·exact Zvx hi hlx2 hw t2 (k_c hC hp hp2 t.length t _ _ (Nat.le_refl _) (h3.addK hlx (hql)) (by simp;omega) (ZfU (ZbX hR (by simp[kg,hg])) (by simp) _ _ _))
theorem m_a{x0 ms:List AV}(hp:2<x0.length)(hp1:(x0.getD 1 .top).toS.length≤60000)(hp2:(x0.getD 2 .top).toS.length≤60000)(h3:Sh3 ms [] []):∀(m k:Nat) (b5:Bool),k+m=ms.length→R=Zc8 (((b5&&(ms.drop k).all mGd)&&(Zba 44 (x0.getD 1 .top).toS).all kg)&&(rlW x0).all rg) ms ((Zba 44 (x0.getD 1 .top).toS).map kW) ((rlW x0).map rW)→Ev C (Zjg x0 ms ms.length ms k b5) (ZgX x0 ms ms.length ms k b5) (ZfQ 61 R none)
 |0,k,b5,hk,hR=>Zl2 hC Ze2 Zkd (by
  obtain rfl:k=ms.length:=by omega
  have h1:1<x0.length:=by omega
  simp[-List.getD_eq_getElem?_getD,ZeE,h1]
  refine k_a hC hp hp2 h3 hp1 ?_
  simpa using hR)
 |m+1,k,b5,hk,hR=>by
  have hlt:(k:Int)<ms.length:=by omega
  have hlt2:k<ms.length:=by omega
  have hms:=h3.ml
  refine Zl2 hC Ze2 Zkd ?_
  have hd:ms.drop k=ms.getD k .top::ms.drop (k+1):=by
   rw[List.getD_eq_getElem?_getD,List.getElem?_eq_getElem hlt2]
   exact List.drop_eq_getElem_cons hlt2
  rw[hd,List.all_cons]at hR
  cases b5 with
  |true=>
   have ih:=m_a hp hp1 hp2 h3 m (k+1) (!(ms.getD k .top).toS.isEmpty) (by omega) (by
    rw[hR]
    have hz:(!(ms.getD k .top).toS.isEmpty)=mGd (ms.getD k .top):=by unfold mGd;cases (ms.getD k .top).toS<;>simp
    rw[hz,Bool.true_and])
   simp[-List.getD_eq_getElem?_getD,ZeE,hlt,hlt2]
   exact⟨by omega,by simpa[-List.getD_eq_getElem?_getD]using ih⟩
  |false=>
   have ih:=m_a hp hp1 hp2 h3 m (k+1) false (by omega) (by rw[hR];simp)
   simp[-List.getD_eq_getElem?_getD,ZeE,hlt,hlt2]
   exact⟨by omega,by simpa[-List.getD_eq_getElem?_getD]using ih⟩
end
theorem Zj4(s:List UInt8):Zat Tryz.prog 61 [.str s] (pmR s) none:=
 ZvC (Zwt s) fun C hC=>Zl2 hC Ze2 ZF0 (by
  by_cases h1:s.length≤60000
  ·have h1n:¬(60000:Int)<s.length:=by omega
   have h5:s.length≤1000000:=by omega
   have hc:=ZaW s h1 59
   rw[show ((59:UInt8).toNat:Int)=59 from rfl]at hc
   have hpm:(Zac s [59]).map AV.str=pmP s:=Zrr s
   simp only[Zy9,hpm]
   by_cases h2:((pmP s).length:Int)=3
   ·have hp:PF (pmP s):=⟨h2,ZlW hc.2⟩
    have hE:pmE s=if Zth (pmP s)=true then Zaj (Zb9 (pmP s)) ((Zc0 (pmP s)).map kOf) ((Zdq (pmP s)).map rOf)else 7:=by unfold pmE;rw[if_pos h1,if_pos h2]
    unfold pmR
    generalize pmP s=p at*
    have hpl:2<p.length:=by omega
    have hm:=ZaW _ (hp.l 0) 32
    rw[show ((32:UInt8).toNat:Int)=32 from rfl]at hm
    have hms:(Zac (p.getD 0 .top).toS [32]).map AV.str=Zb9 p:=ZfW _
    have hkl:Zc0 p=(Zba 44 (p.getD 1 .top).toS).map .str:=Zlz _ 44
    have hrl:Zdq p=(rlW p).map .str:=by
     unfold Zdq rlW
     split
     ·rfl
     ·exact Zlz _ 44
    have h3:Sh3 (Zb9 p) [] []:=⟨hm.2,fun x hx=>(by cases hx),fun x hx=>(by cases hx),hm.1.1,by simp,by simp⟩
    have hR:ZpB (pmE s) (Zb9 p) ((Zc0 p).map kOf) ((Zdq p).map rOf)=Zc8 (((true&&((Zb9 p).drop 0).all mGd)&&(Zba 44 (p.getD 1 .top).toS).all kg)&&(rlW p).all rg) (Zb9 p) ((Zba 44 (p.getD 1 .top).toS).map kW) ((rlW p).map rW):=by
     have hok:Zth p=(((true&&((Zb9 p).drop 0).all mGd)&&(Zba 44 (p.getD 1 .top).toS).all kg)&&(rlW p).all rg):=by
      unfold Zth
      rw[hkl,hrl,List.all_map,List.all_map,List.drop_zero,Bool.true_and,Bool.and_assoc]
      rfl
     rw[hE,hok,hkl,hrl,List.map_map,List.map_map]
     rfl
    have:=m_a hC (R:=ZpB (pmE s) (Zb9 p) ((Zc0 p).map kOf) ((Zdq p).map rOf)) hpl (hp.l 1) (hp.l 2) h3 (Zb9 p).length 0 true (by omega) hR
    have h0:0<p.length:=by omega
    have h4:(p.getD 0 .top).toS.length≤1000000:=Nat.le_trans (hp.l 0) (by decide)
    simp[-List.getD_eq_getElem?_getD,h1n,h5,h0,h2,h4,hms]
    simpa[-List.getD_eq_getElem?_getD]using this
   ·have hE:pmE s=7:=by unfold pmE;rw[if_pos h1,if_neg h2]
    simp[-List.getD_eq_getElem?_getD,h1n,h5,h2]
    unfold pmR
    exact ZqV _ _ _ hE (by decide)
  ·have hE:pmE s=8:=by unfold pmE;rw[if_neg h1]
   simp[Zy9,show(60000:Int)<s.length by omega]
   unfold pmR
   exact ZqV _ _ _ hE (by decide))
def k61:Ctr:=⟨61,0,fun _ a=>match a with |[.str s]=>some (true,pmR s,none) |_=>none⟩
theorem ZAR:k61.OK Tryz.prog:=fun pa args r fr h=>by
 simp only[k61]at h
 split at h
 ·cases h
  exact Zj4 _
 ·cases h
def Lt9:List Ctr:=[k61]++Lt8
theorem ZEz:Zaw Tryz.prog Lt9:=⟨ZAR,ZEv⟩
end Go.Proofs.YtkeoeooghhjibaaGreatDoor
/- Contracts as a list. No condition. -/
namespace Go.Proofs.YtkeoeooghhjibaaGreatDoor
def pmA(s:List UInt8):List AV:=if pmE s=0 then Zb9 (pmP s)else []
def pmB(s:List UInt8):List AV:=if pmE s=0 then(Zc0 (pmP s)).map kOf else []
def pmC(s:List UInt8):List AV:=if pmE s=0 then(Zdq (pmP s)).map rOf else []
theorem Zsg(s:List UInt8):Zat Tryz.prog 61 [.str s] (.tup [.agg (.gen [.list (.big .str (pmA s)), .list (.big (.agg [.str, .int .i64]) (pmB s)), .list (.big (.agg [.str, .int .i64, .int .i64, .int .i64, .int .i64]) (pmC s))]), .int .i64 (pmE s)]) none:=Zj4 s
theorem Zri(s:List UInt8):Zat Tryz.prog 62 [.str s] (.tup [.agg (.gen [.list (.big .str (pmA s)), .list (.big (.agg [.str, .int .i64]) (pmB s)), .list (.big (.agg [.str, .int .i64, .int .i64, .int .i64, .int .i64]) (pmC s))]), .int .i64 (pmE s)]) none:=Zkv s
theorem Zyt(s:List UInt8):((pmA s).length≤60001∧(pmB s).length≤60001)∧(pmC s).length≤60001:=by
 unfold pmA pmB pmC
 by_cases h:pmE s=0
 ·rw[if_pos h,if_pos h,if_pos h,List.length_map,List.length_map]
  have hl:s.length≤60000:=by
   unfold pmE at h
   split at h
   ·assumption
   ·cases h
  have hc:=ZaW s hl 59
  rw[show ((59:UInt8).toNat:Int)=59 from rfl]at hc
  have hp:∀j,((pmP s).getD j .top).toS.length≤60000:=ZlW hc.2
  have a:=ZaW _ (hp 0) 32
  have b:=ZaW _ (hp 1) 44
  have c:=ZaW _ (hp 2) 44
  refine⟨⟨a.1.1,b.1.1⟩,?_⟩
  unfold Zdq
  split
  ·simp
  ·exact c.1.1
 ·rw[if_neg h,if_neg h,if_neg h];simp
attribute [local irreducible] pmE
attribute [irreducible] pmA pmB pmC
def k61v:Ctr:=⟨61,0,fun _ a=>match a with |[.str s]=>some (true, .tup [.agg (.gen [.list (.big .str (pmA s)), .list (.big (.agg [.str, .int .i64]) (pmB s)), .list (.big (.agg [.str, .int .i64, .int .i64, .int .i64, .int .i64]) (pmC s))]), .int .i64 (pmE s)],none) |_=>none⟩
theorem Zyr:k61v.OK Tryz.prog:=fun pa args r fr h=>by
 simp only[k61v]at h
 split at h
 ·cases h
  exact Zsg _
 ·cases h
def k62v:Ctr:=⟨62,0,fun _ a=>match a with |[.str s]=>some (true, .tup [.agg (.gen [.list (.big .str (pmA s)), .list (.big (.agg [.str, .int .i64]) (pmB s)), .list (.big (.agg [.str, .int .i64, .int .i64, .int .i64, .int .i64]) (pmC s))]), .int .i64 (pmE s)],none) |_=>none⟩
theorem ZyB:k62v.OK Tryz.prog:=fun pa args r fr h=>by
 simp only[k62v]at h
 split at h
 ·cases h
  exact Zri _
 ·cases h
def Lta:List Ctr:=[k61v,k62v]++Lt9
theorem ZC0:Zaw Tryz.prog Lta:=⟨Zyr,⟨ZyB,ZEz⟩⟩
end Go.Proofs.YtkeoeooghhjibaaGreatDoor
/- Paths of functions, printed by the explorer (Gx). No condition. -/
namespace Go.Proofs.YtkeoeooghhjibaaGreatDoor
set_option maxRecDepth 100000
set_option linter.unusedVariables false
def ZD0(ms ks rs:List AV)(s:List UInt8):AFrame:={ fn:=12,N:=75,env:=[(0,AV.agg (Row.gen [.list (Row.big .str ms), .list (Row.big (.agg [.str, .int .i64]) ks), .list (Row.big (.agg [.str, .int .i64, .int .i64, .int .i64, .int .i64]) rs)])),(1,AV.str s)],todo:=[.code a12.code],defs:=[],rnd:=none,ret:=false,res:=[ARes.tmp 4] }
def ZLf(ms ks rs:List AV)(s:List UInt8):List AFrame:=[(ZD0 ms ks rs s)]
theorem ZyJ(ms ks rs:List AV)(s:List UInt8):ZaB tab 12 [AV.agg (Row.gen [.list (Row.big .str ms), .list (Row.big (.agg [.str, .int .i64]) ks), .list (Row.big (.agg [.str, .int .i64, .int .i64, .int .i64, .int .i64]) rs)]),AV.str s]=some (ZD0 ms ks rs s):=rfl
def ZBl(A:Ar)(K:KT)(F:FT)(ms ks rs:List AV)(s:List UInt8):Prop:=rB [!A.not true] (bB (A.not (Ztk ms ks rs)) (F (AV.bool true) (none)) (bB (A.lt 300 (A.int (A.lenS s))) (bB (A.le (A.int (A.lenS s)) 60000) (F (AV.bool true) (none)) (bB (A.lt 60010 (A.int (A.lenS s))) (F (AV.bool true) (none)) (rB [decide (fmG ms ks rs=true),decide (fmG ms ks rs=true),decide (List.length ms≤1000000∧List.length ks≤1000000∧List.length rs≤1000000)] (bB (A.not (A.eqS (Zbe ms ks rs) (Zbe ms ks rs))) (F (AV.bool false) (none)) (bB (A.not (A.eq (pmE s) (pmE s))) (F (AV.bool false) (none)) (rB [decide (mG (pmA s) (pmB s) (pmC s)=true)] (bB (A.not (Zhg (pmA s) (pmB s) (pmC s) (pmA s) (pmB s) (pmC s))) (F (AV.bool false) (none)) (rB [decide (ZaI ms ks rs=true)] (bB (A.not (A.eq (Zaj ms ks rs) 0)) (F (AV.bool true) (none)) (bB (A.eq (pmE (Zbe ms ks rs)) 0) (rB [decide (mG (pmA (Zbe ms ks rs)) (pmB (Zbe ms ks rs)) (pmC (Zbe ms ks rs))=true)] (F (AV.bool (Zhg (pmA (Zbe ms ks rs)) (pmB (Zbe ms ks rs)) (pmC (Zbe ms ks rs)) ms ks rs)) (none))) (F (AV.bool false) (none)))))))))))) (bB (A.lt 60010 (A.int (A.lenS s))) (F (AV.bool true) (none)) (rB [decide (fmG ms ks rs=true),decide (fmG ms ks rs=true),decide (List.length ms≤1000000∧List.length ks≤1000000∧List.length rs≤1000000)] (bB (A.not (A.eqS (Zbe ms ks rs) (Zbe ms ks rs))) (F (AV.bool false) (none)) (bB (A.not (A.eq (pmE s) (pmE s))) (F (AV.bool false) (none)) (rB [decide (mG (pmA s) (pmB s) (pmC s)=true)] (bB (A.not (Zhg (pmA s) (pmB s) (pmC s) (pmA s) (pmB s) (pmC s))) (F (AV.bool false) (none)) (rB [decide (ZaI ms ks rs=true)] (bB (A.not (A.eq (Zaj ms ks rs) 0)) (F (AV.bool true) (none)) (bB (A.eq (pmE (Zbe ms ks rs)) 0) (rB [decide (mG (pmA (Zbe ms ks rs)) (pmB (Zbe ms ks rs)) (pmC (Zbe ms ks rs))=true)] (F (AV.bool (Zhg (pmA (Zbe ms ks rs)) (pmB (Zbe ms ks rs)) (pmC (Zbe ms ks rs)) ms ks rs)) (none))) (F (AV.bool false) (none)))))))))))))
theorem ZG6{A:Ar}{K:KT}{F:FT}{M:MT}{ms ks rs:List AV}{s:List UInt8} :ZaG A tab Lta 12 K F M (.run 11 (.fy (.run 8 (.tf (.ty (.ty (.ty (.run 3 (.ty (.ty (.run 1 (.ty (.ty (.ty (.ty (.run 2 (.ty (.run 5 (.fn))))))))))))))) (.fy (.fy (.fy (.tf (.ty (.ty (.alt [false,true] (.fy (.run 1 (.tf (.ty (.ty (.ty (.run 2 (.ty (.run 5 (.fn))))))) (.fy (.fy (.fy (.run 2 (.tf (.run 5 (.fn)) (.run 38 (.tf (.ty (.ty (.ty (.run 1 (.ty (.ty (.ty (.ty (.ty (.run 2 (.ty (.run 5 (.fn))))))))))))) (.fy (.fy (.fy (.run 1 (.tf (.ty (.ty (.ty (.ty (.run 2 (.ty (.run 5 (.fn)))))))) (.fy (.fy (.fy (.fy (.run 2 (.tf (.run 5 (.fn)) (.run 8 (.tf (.run 5 (.fn)) (.run 17 (.tf (.ty (.ty (.ty (.run 4 (.fn))))) (.fy (.fy (.fy (.run 4 (.fn)))))))))))))))))))))))))))))) (.no)))) (.fy (.fy (.alt [false,false] (.fy (.run 1 (.fy (.fy (.fy (.fy (.run 2 (.tf (.run 5 (.fn)) (.run 38 (.tf (.ty (.ty (.ty (.run 1 (.ty (.ty (.ty (.ty (.ty (.run 2 (.ty (.run 5 (.fn))))))))))))) (.fy (.fy (.fy (.run 1 (.tf (.ty (.ty (.ty (.ty (.run 2 (.ty (.run 5 (.fn)))))))) (.fy (.fy (.fy (.fy (.run 2 (.tf (.run 5 (.fn)) (.run 8 (.tf (.run 5 (.fn)) (.run 17 (.tf (.ty (.ty (.ty (.run 4 (.fn))))) (.fy (.fy (.fy (.run 4 (.fn)))))))))))))))))))))))))))))) (.no)))))))))))) (ZLf ms ks rs s) []=ZBl A K F ms ks rs s:=by kernel_rfl
end Go.Proofs.YtkeoeooghhjibaaGreatDoor
/- The law, walked. No condition. -/
namespace Go.Proofs.YtkeoeooghhjibaaGreatDoor
theorem Zq1(ms ks rs:List AV):Zhg ms ks rs ms ks rs=true:=by
 unfold Zhg
 rw[Bool.and_eq_true,Bool.and_eq_true]
 exact⟨Zdz rfl fun j _=>ZtJ _,Zdz rfl fun j _=>Zuu _,Zdz rfl fun j _=>Zr1 _⟩
theorem ZxL{ms ks rs:List AV}(h:FmG ms ks rs):(Zbe ms ks rs).length≤60000:=by
 have e1:=ZfP (p:=[32]) rfl h.m h.n.1
 have e2:=ZfP (f:=kwS) (p:=[44]) rfl (fun x hx=>ZrS (h.k x hx) (h.ki x hx)) h.n.2.1
 have e3:=ZfP (f:=rwS) (p:=[44]) rfl (fun x hx=>Zrq (h.r x hx) (h.ri x hx)) h.n.2.2
 unfold Zbe
 simp[Lib.join_cons,Lib.joinTail];omega
theorem ZHl(s:List UInt8):mG (pmA s) (pmB s) (pmC s)=true:=by
 have:=Zyt s
 unfold mG
 exact decide_eq_true ⟨by omega,by omega,by omega⟩
theorem Zp2(ms ks rs:List AV)(s:List UInt8)(hk:∀x∈ks,ZC1 x=true)(hr:∀x∈rs,ZBc x=true):
 Zat Tryz.prog 12 [.agg (.gen [.list (.big .str ms), .list (.big (.agg [.str, .int .i64]) ks), .list (.big (.agg [.str, .int .i64, .int .i64, .int .i64, .int .i64]) rs)]), .str s] (.bool true) none:=
 start (ZyJ ms ks rs s) fun C hC=>tgo hC ZC0 ZG6 (by
  simp only[ZBl]
  cases hf:Ztk ms ks rs with
  |false=>simp
  |true=>
   have hg:fmG ms ks rs=true:=by unfold fmG;rw[hf,List.all_eq_true.2 hk,List.all_eq_true.2 hr];rfl
   have G:=Zoj hg
   have hn:=G.n
   have hl:(Zbe ms ks rs).length≤60000:=ZxL G
   have hs:ZaI ms ks rs=true:=Zip (fun x hx=>Nat.le_trans (G.m x hx) (by decide)) (fun x hx=>Nat.le_trans (G.k x hx) (by decide)) (fun x hx=>Nat.le_trans (G.r x hx) (by decide)) (by omega)
   have hl3:ms.length≤1000000∧ks.length≤1000000∧rs.length≤1000000:=by omega
   have p1:=ZHl s
   have p2:=ZHl (Zbe ms ks rs)
   have r1:=Zq1 (pmA s) (pmB s) (pmC s)
   have fin:Zaj ms ks rs=0→pmE (Zbe ms ks rs)=0∧Zhg (pmA (Zbe ms ks rs)) (pmB (Zbe ms ks rs)) (pmC (Zbe ms ks rs)) ms ks rs=true:=fun h0=>by
    obtain⟨a,b⟩:=ZtK h0 hl
    refine⟨a,?_⟩
    unfold pmA pmB pmC
    rw[if_pos a,if_pos a,if_pos a]
    exact b
   by_cases h0:Zaj ms ks rs=0
   ·obtain⟨f1,f2⟩:=fin h0
    simp[hg,hl3,p1,p2,r1,hs,h0,f1,f2]
   ·simp[hg,hl3,p1,p2,r1,hs,h0])
end Go.Proofs.YtkeoeooghhjibaaGreatDoor
