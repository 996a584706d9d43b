/- What fills a word: the same word whoever fills it. No condition. -/
import Derived.Test.YtjhldefnjghcdaaGreatGt
import Derived.KernelRfl
namespace Go.Proofs.YtjhldefnjghcdaaGreat
theorem Zxq(r y:Nat→Nat):∀n,dt r y (n+1)=Zav (r 0) (y 0) ^^^ dt (fun k=>r (k+1)) (fun k=>y (k+1)) n
 |0=>by rw[dt,dt,dt,Nat.zero_xor,Nat.xor_zero]
 |n+1=>by rw[dt,Zxq r y n,dt,Nat.xor_assoc]
theorem ZBU{w:zI}(p:Nat)(v:Int)(hp:p<w.length):wfn (w.set p v)=upd (wfn w) p v.toNat:=by
 funext i
 unfold wfn upd
 rw[Zbz]
 by_cases h:i=p
 ·subst h;rw[if_pos ⟨rfl,hp⟩,if_pos rfl]
 ·rw[if_neg (fun a=>h a.1.symm),if_neg h]
def ZEI(e:zI):Prop:=∀x∈e,0≤x∧x≤14
theorem Zju{e:zI}(h:ZEz e):ZEI e:=fun x hx=>by
 obtain⟨k,hk,rfl⟩:=List.mem_iff_getElem.1 hx
 have:=h k hk
 simpa[List.getD_eq_getElem?_getD,hk]using this
theorem Zpj{e:zI}{p:Int}(h:erP p e=0):e.Nodup:=by
 refine List.pairwise_iff_getElem.2 fun i j hi hj hij=>?_
 have:=ZnP h i j hij hj
 rw[List.getD_eq_getElem?_getD,List.getElem?_eq_getElem hi,List.getD_eq_getElem?_getD,List.getElem?_eq_getElem hj]at this
 exact Int.ne_of_lt this
theorem Zwu:∀(e vs w:zI) (p:Nat),ZEI e→(∀x∈e,x≠(p:Int))→(wrL w e vs).getD p 0=w.getD p 0
 |[],_,_,_,_,_=>by unfold wrL;rfl
 |_::_,[],_,_,_,_=>by unfold wrL;rfl
 |x::e,v::vs,w,p,h1,h2=>by
  rw[wrL,Zwu e vs _ p (fun y hy=>h1 y (List.mem_cons_of_mem _ hy)) (fun y hy=>h2 y (List.mem_cons_of_mem _ hy)),Zbz,if_neg]
  intro a
  have b:=h1 x List.mem_cons_self
  have c:=h2 x List.mem_cons_self
  omega
theorem Zkm:∀(e w:zI) (p:Nat),ZEI e→(zrL w e).getD p 0=if(p:Int)∈e then 0 else w.getD p 0
 |[],_,_,_=>by simp[zrL]
 |x::e,w,p,h1=>by
  have b:=h1 x List.mem_cons_self
  rw[zrL,Zkm e _ p (fun y hy=>h1 y (List.mem_cons_of_mem _ hy)),Zbz]
  by_cases hp:(p:Int)∈e
  ·rw[if_pos hp,if_pos (List.mem_cons_of_mem _ hp)]
  ·rw[if_neg hp]
   by_cases hx:x=(p:Int)
   ·subst hx
    rw[if_pos List.mem_cons_self]
    by_cases hl:p<w.length
    ·rw[if_pos ⟨by omega,hl⟩]
    ·rw[if_neg (fun a=>hl a.2),List.getD_eq_getElem?_getD,List.getElem?_eq_none (by omega)];rfl
   ·rw[if_neg (fun a=>hx (by omega)),if_neg (fun a=>(List.mem_cons.1 a).elim (fun a=>hx a.symm) hp)]
theorem ZzQ(j:Nat):∀(e vs w:zI),w.length=15→ZaF w 0 15=0→ZEI e→e.Nodup→vs.length=e.length→(∀i,elB (vs.getD i 0)=true)→(∀x∈e,w.getD x.toNat 0=0)→Zqg j (wfn (wrL w e vs))=Zqg j (wfn w) ^^^ dt (fun i=>Zbt (j*(14-(e.getD i 0).toNat))) (fun i=>(vs.getD i 0).toNat) e.length
 |[],vs,w,_,_,_,_,_,_,_=>by unfold wrL;rw[List.length_nil,dt,Nat.xor_zero]
 |x::e,[],_,_,_,_,_,h,_,_=>by cases h
 |x::e,v::vs,w,hl,hr,hp,hd,hv,he,hz=>by
  have b:=hp x List.mem_cons_self
  have v0:elB v=true:=he 0
  have v1:=of_decide_eq_true v0
  have hx:=(List.nodup_cons.1 hd).1
  rw[wrL,ZzQ j e vs (w.set x.toNat v) (by rw[List.length_set,hl]) (Zql hr _ v0) (fun y hy=>hp y (List.mem_cons_of_mem _ hy)) (List.nodup_cons.1 hd).2 (by simpa using hv) (fun i=>he (i+1)) (fun y hy=>by
   have b2:=hp y (List.mem_cons_of_mem _ hy)
   rw[Zbz,if_neg (fun a=>hx (by have e0:x=y:=(by omega);exact e0▸hy))]
   exact hz y (List.mem_cons_of_mem _ hy))]
  have w0:wfn w x.toNat=0:=by unfold wfn;rw[hz x List.mem_cons_self];rfl
  unfold Zqg
  rw[ZBU _ _ (by omega),Zwn w0 (Zdx hr) (Zh4 j) (by omega),if_pos (show x.toNat<15 by omega),List.length_cons,Zxq _ _ e.length,Nat.xor_assoc]
  congr 2
  exact Zbc (a:=v.toNat) (show v.toNat<16 by omega) (ZbV _)
theorem ZJV:∀(e c:zI),c.length=15→ZEI e→e.Nodup→∀w:zI,w.length=15→(∀p:Nat,p<15→(p:Int)∉e→w.getD p 0=c.getD p 0)→wrL w e (e.map fun x=>c.getD x.toNat 0)=c
 |[],c,hc,_,_,w,hw,h=>by
  unfold wrL
  refine List.ext_getElem (by omega) fun i h1 h2=>?_
  have:=h i (by omega) (by simp)
  rwa[List.getD_eq_getElem?_getD,List.getElem?_eq_getElem h1,List.getD_eq_getElem?_getD,List.getElem?_eq_getElem h2]at this
 |x::e,c,hc,hp,hd,w,hw,h=>by
  have b:=hp x List.mem_cons_self
  rw[List.map_cons,wrL]
  refine ZJV e c hc (fun y hy=>hp y (List.mem_cons_of_mem _ hy)) (List.nodup_cons.1 hd).2 _ (by rw[List.length_set,hw]) fun p h1 h2=>?_
  rw[Zbz]
  by_cases hx:x.toNat=p
  ·subst hx;rw[if_pos ⟨rfl,by omega⟩]
  ·rw[if_neg (fun a=>hx a.1)]
   exact h p h1 (fun a=>(List.mem_cons.1 a).elim (fun a=>by omega) h2)
theorem ZJA{l e:zI}(hl:ZaF l 0 15=0)(h15:l.length=15)(j:Nat){y:Nat→Nat}(h1:y e.length=1):dt (fiM l e j) y (e.length+1)=dt (fun i=>Zbt ((j+1)*(14-(e.getD i 0).toNat))) y e.length ^^^ Zqg (j+1) (wfn l):=by
 have e1:fiM l e j e.length=Zqg (j+1) (wfn l):=by
  unfold fiM
  rw[if_neg (Nat.lt_irrefl _),if_pos rfl]
  have:=ZiV h15 (j+1)
  unfold syI at this
  omega
 rw[dt,h1,e1,ZiH (show Zqg (j+1) (wfn l)<16 from Zn8 (Zdx hl) (Zh4 _) 15)]
 congr 1
 refine ZaL _ (fun i hi=>?_) (fun _ _=>rfl)
 unfold fiM
 rw[if_pos hi]
theorem ZPe{h:Int}{w e vs:zI}(hg:fiG w h e=true)(hv:vs.length=e.length)(he:∀i,elB (vs.getD i 0)=true):ZA (fiM (zrL w e) e) (2*h.toNat) e.length (fun j=>if j<e.length then(vs.getD j 0).toNat else 1)↔isW h (wrL (zrL w e) e vs)=true:=by
 obtain⟨g1,g2,g3,g4,g5⟩:=ZiC hg
 obtain⟨z2,z3⟩:=okw_iff.1 (ZlG e g1)
 rw[Zxd (by rw[Zkw,z2])]
 refine forall_congr' fun j=>imp_congr_right fun _=>?_
 rw[ZJA z3 z2 j (if_neg (Nat.lt_irrefl _)),ZzQ (j+1) e vs _ z2 z3 (Zju g4) (Zpj g5) hv he (fun x hx=>by
  have:=Zju g4 x hx
  rw[Zkm e w x.toNat (Zju g4),if_pos]
  rwa[Int.toNat_of_nonneg this.1]),Nat.xor_comm,ZaL (s:=fun i=>Zbt ((j+1)*(14-(e.getD i 0).toNat))) e.length (fun _ _=>rfl) (fun i hi=>if_pos hi)]
theorem Zrq{h:Int}{w e:zI}(hg:fiG w h e=true):fiO h w e=isW h (fiW h w e):=by
 obtain⟨B,hB⟩:=ZoA hg
 obtain⟨b1,b2,b3,b4⟩:=ZwX hg hB
 have q:=ZPe hg (Zds B e.length e.length) (fun i=>Zq2 b1 _ _ i)
 have hy:El (fun j=>if j<e.length then(((ZcD B e.length e.length).getD j 0)).toNat else 1):=fun j=>by
  have:=of_decide_eq_true (Zq2 b1 e.length e.length j)
  show(if j<e.length then((ZcD B e.length e.length).getD j 0).toNat else 1)<16
  split<;>omega
 rw[←b4 _ hy,Zor b1 b2 b3 hy (if_neg (Nat.lt_irrefl _))]at q
 have s0:∀j,j<e.length→(if j<e.length then((ZcD B e.length e.length).getD j 0).toNat else 1)=B j e.length:=fun j hj=>by
  rw[if_pos hj]
  unfold ZcD
  rw[List.getD_eq_getElem?_getD,List.getElem?_map,List.getElem?_range hj];rfl
 have z:fiZ (2*h.toNat) e.length B=true↔∀i,e.length≤i→i<2*h.toNat→B i e.length=0:=by
  unfold fiZ
  rw[List.all_eq_true]
  constructor
  ·intro a i h1 h2
   have:=a i (List.mem_range.2 h2)
   rw[Bool.or_eq_true,decide_eq_true_eq,decide_eq_true_eq]at this
   rcases this with t |t
   ·omega
   ·exact t
  ·intro a i hi
   rw[Bool.or_eq_true,decide_eq_true_eq,decide_eq_true_eq]
   by_cases h1:i<e.length
   ·exact Or.inl h1
   ·exact Or.inr (a i (by omega) (List.mem_range.1 hi))
 unfold fiO fiW
 rw[hB]
 show fiZ _ _ B=isW h (wrL (zrL w e) e (ZcD B e.length e.length))
 rw[Bool.eq_iff_iff,z,←q]
 exact⟨fun a=>⟨s0,a⟩,fun a=>a.2⟩
theorem ZQm{h:Int}{w e:zI}(ho:fiO h w e=true):fiV h w e=fiW h w e:=by
 unfold fiO at ho
 unfold fiV fiW
 cases hB:fiB h w e with
 |none=>rw[hB]at ho;cases ho
 |some B=>rw[hB]at ho;exact if_pos ho
theorem ZDa{h:Int}{w e c:zI}(hg:fiG w h e=true)(hc:okw c=true)(hw:isW h c=true)(ha:∀p:Nat,p<15→(p:Int)∉e→w.getD p 0=c.getD p 0):fiW h w e=c:=by
 obtain⟨g1,g2,g3,g4,g5⟩:=ZiC hg
 obtain⟨z2,z3⟩:=okw_iff.1 (ZlG e g1)
 obtain⟨c2,c3⟩:=okw_iff.1 hc
 obtain⟨B,hB⟩:=ZoA hg
 obtain⟨b1,b2,b3,b4⟩:=ZwX hg hB
 have hx:=ZJV e c c2 (Zju g4) (Zpj g5) (zrL w e) z2 (fun p h1 h2=>by rw[Zkm e w p (Zju g4),if_neg h2];exact ha p h1 h2)
 have hel:∀i,elB ((e.map fun x=>c.getD x.toNat 0).getD i 0)=true:=fun i=>by
  rw[List.getD_eq_getElem?_getD,List.getElem?_map]
  cases hi:e[i]? with
  |none=>rfl
  |some x=>exact Zfy c3 x.toNat
 have q:=(ZPe hg (List.length_map _) hel).2 (by rw[hx];exact hw)
 have hy:El (fun j=>if j<e.length then((e.map fun x=>c.getD x.toNat 0).getD j 0).toNat else 1):=fun j=>by
  have:=of_decide_eq_true (hel j)
  show(if j<e.length then((e.map fun x=>c.getD x.toNat 0).getD j 0).toNat else 1)<16
  split<;>omega
 rw[←b4 _ hy,Zor b1 b2 b3 hy (if_neg (Nat.lt_irrefl _))]at q
 have hs:ZcD B e.length e.length=e.map fun x=>c.getD x.toNat 0:=by
  refine List.ext_getElem (by rw[Zds,List.length_map]) fun i h1 h2=>?_
  have hi:i<e.length:=by rwa[List.length_map]at h2
  have a:=q.1 i hi
  rw[if_pos hi]at a
  have b:=of_decide_eq_true (hel i)
  rw[List.getD_eq_getElem?_getD,List.getElem?_eq_getElem h2]at a b
  have s:(ZcD B e.length e.length)[i]=((B i e.length:Nat):Int):=by simp[ZcD]
  rw[s,←a]
  exact Int.toNat_of_nonneg b.1
 unfold fiW
 rw[hB]
 show wrL (zrL w e) e (ZcD B e.length e.length)=c
 rw[hs,hx]
end Go.Proofs.YtjhldefnjghcdaaGreat
namespace Go.Proofs.YtjhldefnjghcdaaGreat
def hn(q:Nat→Nat)(x:Nat):Nat→Nat
 |0=>0
 |n+1=>Zav (hn q x n) x ^^^ q n
theorem Zk3{q:Nat→Nat}(hq:El q){x:Nat}(hx:x<16):∀n,hn q x n<16
 |0=>by rw[hn];decide
 |n+1=>Zb4 (Zbx (Zk3 hq hx n) hx) (hq n)
theorem Zz5{q:Nat→Nat}(hq:El q){x a:Nat}(hx:x<16)(ha:a<16):∀n,hn q x (n+1) ^^^ hn q a (n+1)=Zav (hn (fun i=>hn q a (i+1)) x n) (x ^^^ a)
 |0=>by rw[hn,hn,hn,hn,hn,ZdB hx,ZdB ha,ZdB (Zb4 hx ha),Nat.xor_self]
 |n+1=>by
  have ih:=Zz5 hq hx ha n
  have hq':El (fun i=>hn q a (i+1)):=fun i=>Zk3 hq ha (i+1)
  have l1:=Zk3 hq hx (n+1)
  have l2:=Zk3 hq ha (n+1)
  have l3:=Zk3 hq' hx n
  have e1:hn (fun i=>hn q a (i+1)) x (n+1)=Zav (hn (fun i=>hn q a (i+1)) x n) x ^^^ hn q a (n+1):=rfl
  have e2:hn q x (n+1)=hn q a (n+1) ^^^ Zav (hn (fun i=>hn q a (i+1)) x n) (x ^^^ a):=by
   rw[←ih,Nat.xor_comm (hn q x (n+1)),←Nat.xor_assoc,Nat.xor_self,Nat.zero_xor]
  have e3:∀k,hn q k (n+1+1)=Zav (hn q k (n+1)) k ^^^ q (n+1):=fun k=>rfl
  rw[e3,e3,e1,ZoF,Nat.xor_self,Nat.xor_zero,ZcB (Zbx l3 hx) l2 (Zb4 hx ha),e2]
  generalize hn (fun i=>hn q a (i+1)) x n=P at*
  clear e2 e3 e1 ih l1
  generalize hn q a (n+1)=Q at*
  rw[ZcB l2 (Zbx l3 (Zb4 hx ha)) hx,ZEf hx ha l2,ZaH l3 (Zb4 hx ha) hx,ZaH l3 hx (Zb4 hx ha),Zbc (Zb4 hx ha) hx]
  generalize Zav P _=PP
  rw[Nat.xor_assoc,Nat.xor_comm PP (Zav Q a),←Nat.xor_assoc,Nat.xor_comm]
theorem ZgV:∀(n:Nat) (q X:Nat→Nat),El q→El X→(∀i j,i<n→j<n→X i=X j→i=j)→(∀k,k<n→hn q (X k) n=0)→∀i,i<n→q i=0
 |0,_,_,_,_,_,_,i,hi=>by omega
 |n+1,q,X,hq,hX,hd,hz,i,hi=>by
  have z:=hz n (by omega)
  have ih:=ZgV n (fun i=>hn q (X n) (i+1)) X (fun i=>Zk3 hq (hX n) (i+1)) hX (fun i j hi hj=>hd i j (by omega) (by omega)) (fun k hk=>by
   have s:=Zz5 hq (hX k) (hX n) n
   rw[z,hz k (by omega),Nat.xor_self]at s
   rcases ZbN (Zk3 (q:=fun i=>hn q (X n) (i+1)) (fun i=>Zk3 hq (hX n) (i+1)) (hX k) n) (Zb4 (hX k) (hX n)) s.symm with h |h
   ·exact h
   ·have:=hd k n (by omega) (by omega) (ZoH h);omega)
  have a:∀j,j≤n+1→hn q (X n) j=0:=fun j hj=>by
   cases j with
   |zero=>rfl
   |succ j=>
    by_cases h:j<n
    ·exact ih j h
    ·have:j=n:=by omega
     subst this;exact z
  have b:=a (i+1) (by omega)
  rw[hn,a i (by omega),ZdB (hX n),Nat.zero_xor]at b
  exact b
theorem Zw4{x:Nat}(hx:x<16)(a:Nat):∀b,pw x (a+b)=Zav (pw x a) (pw x b)
 |0=>by rw[Nat.add_zero,pw,ZiH (Zbl hx a)]
 |b+1=>by
  rw[←Nat.add_assoc,pw,Zw4 hx a b,pw,ZaH (Zbl hx a) (Zbl hx b) hx]
theorem ZvG{E y:Nat→Nat}{f:Nat→Nat→Nat}(hE:El E)(hy:El y)(hf:∀k,El (f k))(t:Nat):∀n,dt (fun i=>dt E (fun k=>f k i) t) y n=dt E (fun k=>dt (f k) y n) t
 |0=>by
  rw[dt]
  exact(ZpR hE t (fun k _=>by rw[dt])).symm
 |n+1=>by
  rw[dt,ZvG hE hy hf t n]
  have hl:El (fun k=>dt (f k) y n):=fun k=>Zn8 (hf k) hy n
  have hr:El (fun k=>f k n):=fun k=>hf k n
  have hr2:El (fun k=>Zav (f k n) (y n)):=fun k=>Zbx (hf k n) (hy n)
  have s:=Zft hr hE (hy n) t
  rw[ZjY hE hl t,ZjY hE hr t,←s,←ZsK hl hr2 hE t,ZjY (fun k=>Zb4 (hl k) (hr2 k)) hE t]
  exact ZaL _ (fun _ _=>rfl) (fun k _=>by rw[dt])
end Go.Proofs.YtjhldefnjghcdaaGreat
namespace Go.Proofs.YtjhldefnjghcdaaGreat
theorem Zvk{a b c d:Nat→Nat} :∀n,(∀k,k<n→Zav (a k) (b k)=Zav (c k) (d k))→dt a b n=dt c d n
 |0,_=>rfl
 |n+1,h=>by rw[dt,dt,Zvk n (fun k hk=>h k (by omega)),h n (by omega)]
theorem ZIZ{y:Nat→Nat}(hy:El y){x:Nat}(hx:x<16):∀n,dt (fun i=>pw x (n-1-i)) y n=hn y x n
 |0=>rfl
 |n+1=>by
  have ih:=ZIZ hy hx n
  rw[dt,hn,←ih,←Zft (fun i=>Zbl hx _) hy hx]
  have e:Zav (pw x (n+1-1-n)) (y n)=y n:=by rw[show n+1-1-n=0 by omega,pw,ZoQ (hy n)]
  rw[e]
  congr 1
  refine ZaL n (fun i hi=>?_) (fun _ _=>rfl)
  rw[show n+1-1-i=n-1-i+1 by omega,pw]
theorem ZrW{q:Nat→Nat}(hq:El q){x:Nat}(hx:x<16):∀n,hn q x (n+1)=Zav (pw x n) (q 0) ^^^ hn (fun i=>q (i+1)) x n
 |0=>by rw[hn,hn,hn,ZdB hx,pw,ZoQ (hq 0),Nat.zero_xor,Nat.xor_zero]
 |n+1=>by
  have hq':El fun i=>q (i+1):=fun i=>hq (i+1)
  rw[hn,ZrW hq hx n]
  show _=_ ^^^ (Zav (hn (fun i=>q (i+1)) x n) x ^^^ q (n+1))
  rw[ZcB (Zbx (Zbl hx n) (hq 0)) (Zk3 hq' hx n) hx,pw,ZaH (Zbl hx n) (hq 0) hx,ZaH (Zbl hx n) hx (hq 0),Zbc (hq 0) hx,Nat.xor_assoc]
def gK(x u i:Nat):Nat:=if i<u then pw x (u-1-i)else pw x u
theorem ZxG{x:Nat}(hx:x<16)(u:Nat):El (gK x u):=fun i=>by unfold gK;split<;>exact Zbl hx _
def WK(x u:Nat)(y:Nat→Nat):Nat:=dt (gK x u) y (u+1)
theorem ZEi{y:Nat→Nat}(hy:El y){x:Nat}(hx:x<16)(u:Nat):WK x u y=hn y x u ^^^ Zav (pw x u) (y u):=by
 unfold WK
 rw[dt,←ZIZ hy hx u]
 congr 1
 ·exact ZaL u (fun i hi=>by rw[gK,if_pos hi]) (fun _ _=>rfl)
 ·rw[gK,if_neg (Nat.lt_irrefl _)]
section
variable {E X:Nat→Nat}{t:Nat}{s:zI}(hE:El E)(hX:El X)(h0:∀k,k<t→E k≠0)(hx0:∀k,k<t→X k≠0)(hd:∀i j,i<t→j<t→X i=X j→i=j)
 (hs:∀m,m<s.length→s.getD m 0=((dt E (fun k=>pw (X k) (m+1)) t:Nat):Int))
include hE hX hs
theorem Zxn(u:Nat){y:Nat→Nat}(hy:El y){j:Nat}(hj:j+u<s.length):dt (poM s u j) y (u+1)=dt (fun k=>Zav (E k) (WK (X k) u y)) (fun k=>pw (X k) (j+1)) t:=by
 have hf:∀k,El fun i=>Zav (gK (X k) u i) (pw (X k) (j+1)):=fun k i=>Zbx (ZxG (hX k) u i) (Zbl (hX k) _)
 have e1:dt (poM s u j) y (u+1)=dt (fun i=>dt E (fun k=>Zav (gK (X k) u i) (pw (X k) (j+1))) t) y (u+1):=by
  refine ZaL _ (fun i hi=>?_) (fun _ _=>rfl)
  unfold poM
  by_cases h:i<u
  ·rw[if_pos h,hs _ (by omega),Int.toNat_natCast]
   refine ZaL t (fun _ _=>rfl) (fun k _=>?_)
   rw[gK,if_pos h,←Zw4 (hX k)]
   congr 1;omega
  ·rw[if_neg h,if_pos (by omega),hs _ (by omega),Int.toNat_natCast]
   refine ZaL t (fun _ _=>rfl) (fun k _=>?_)
   rw[gK,if_neg h,←Zw4 (hX k)]
   congr 1;omega
 rw[e1,ZvG hE hy hf]
 refine Zvk t fun k _=>?_
 rw[Zft (ZxG (hX k) u) hy (Zbl (hX k) _),←ZaH (hE k) (Zn8 (ZxG (hX k) u) hy _) (Zbl (hX k) _)]
 rfl
include h0 hx0 hd
theorem Zsh{y:Nat→Nat}(hy:El y)(h2:2*t≤s.length)(hz:∀j,j<t→dt (poM s t j) y (t+1)=0):∀k,k<t→WK (X k) t y=0:=fun k hk=>by
 have hW:El fun k=>WK (X k) t y:=fun k=>Zn8 (ZxG (hX k) t) hy _
 have:=ZLa t (fun k=>Zav (E k) (WK (X k) t y)) X 1 (fun k=>Zbx (hE k) (hW k)) hX hx0 hd (fun j hj=>by
  rw[←hz j hj,Zxn hE hX hs t hy (by omega),Nat.add_comm 1 j]) k hk
 rcases ZbN (hE k) (hW k) this with h |h
 ·exact absurd h (h0 k hk)
 ·exact h
theorem ZCw{y:Nat→Nat}(hy:El y)(h2:2*t≤s.length)(hz:∀j,j<t→dt (poM s t j) y (t+1)=0)(h1:y t=0):∀k,k<t→y k=0:=
 ZgV t y X hy hX hd fun k hk=>by
  have:=Zsh hE hX h0 hx0 hd hs hy h2 hz k hk
  rw[ZEi hy (hX k),h1,Zb1 (Zbl (hX k) _),Nat.xor_zero]at this
  exact this
theorem ZGo(hel:s.all elB=true)(h2:2*t≤s.length):∃B,poC s t=some (cN B t)∧ElM B∧∀k,k<t→WK (X k) t (fun j=>if j<t then B j t else 1)=0:=by
 have hA:=ZsN hel t
 have none_no:∀R,t≤R→elA R t 0 (poM s t)≠none:=fun R hR hn=>by
  obtain⟨y,y1,y2,y3,j,j1,j2⟩:=ZrL (u:=t) t 0 _ hA (Zcv _ _) (by omega) hn
  exact j2 (ZCw hE hX h0 hx0 hd hs y1 h2 (fun j hj=>y2 j (by omega)) y3 j j1)
 obtain⟨B,hB⟩:=Option.ne_none_iff_exists'.1 (none_no (s.length-t) (by omega))
 obtain⟨B',hB'⟩:=Option.ne_none_iff_exists'.1 (none_no t (Nat.le_refl _))
 obtain⟨b1,b2,b3,b4⟩:=Zfn (u:=t) t 0 _ B hA (Zcv _ _) (by omega) (fun _=>Nat.zero_le _) hB
 obtain⟨c1,c2,c3,c4⟩:=Zfn (u:=t) t 0 _ B' hA (Zcv _ _) (by omega) (fun _=>Nat.zero_le _) hB'
 have hy:El (fun j=>if j<t then B' j t else 1):=fun j=>by
  show(if j<t then B' j t else 1)<16
  split
  ·exact c1 j t
  ·decide
 have hW:=Zsh hE hX h0 hx0 hd hs hy h2 ((c4 _ hy).1 ((Zor c1 c2 c3 hy (if_neg (Nat.lt_irrefl _))).2 ⟨fun j hj=>if_pos hj,fun i h1 h2=>by omega⟩))
 have hZ:ZA (poM s t) (s.length-t) t (fun j=>if j<t then B' j t else 1):=fun j hj=>by
  rw[Zxn hE hX hs t hy (by omega)]
  exact ZoB (fun k=>Zbl (hX k) _) t (fun k hk=>by rw[hW k hk,Zb1 (hE k)])
 obtain⟨q1,q2⟩:=(Zor b1 b2 b3 hy (if_neg (Nat.lt_irrefl _))).1 ((b4 _ hy).2 hZ)
 refine⟨B,?_,b1,?_⟩
 ·unfold poC poB
  rw[hB]
  refine if_pos ?_
  unfold fiZ
  rw[List.all_eq_true]
  intro i hi
  rw[Bool.or_eq_true,decide_eq_true_eq,decide_eq_true_eq]
  by_cases h1:i<t
  ·exact Or.inl h1
  ·exact Or.inr (q2 i (by omega) (List.mem_range.1 hi))
 ·have e:(fun j=>if j<t then B j t else 1)=fun j=>if j<t then B' j t else 1:=by
   funext j
   by_cases hj:j<t
   ·have:=q1 j hj
    rw[if_pos hj]at this
    rw[if_pos hj,if_pos hj,this]
   ·rw[if_neg hj,if_neg hj]
  rw[e];exact hW
end
end Go.Proofs.YtjhldefnjghcdaaGreat
namespace Go.Proofs.YtjhldefnjghcdaaGreat
theorem ZzU{x z:Nat}(hx:x<16)(hz:z<16)(h:Zav x z=1):∀n,Zav (pw x n) (pw z n)=1
 |0=>by rw[pw,pw];rfl
 |n+1=>by
  have a:=Zbl hx n
  have b:=Zbl hz n
  rw[pw,pw,Zbc b hz,ZaH a hx (Zbx hz b),←ZaH hx hz b,h,ZoQ b,ZzU hx hz h n]
theorem ZNf{z:Nat}(hz:z<16)(n:Nat):Zav z (pw z n)=pw z (n+1):=by rw[pw,Zbc hz (Zbl hz n)]
theorem Zte{z:Nat}(hz:z<16)(a:Nat):∀(l:List Nat) (m t:Nat),t<16→evP z m t (l++[a])=evP z m t l ^^^ Zav a (Zav t (pw z (l.length+1)))
 |[],m,t,_=>by rw[List.nil_append,evP,evP,evP,List.length_nil,pw,pw,ZoQ hz]
 |b::l,m,t,ht=>by
  rw[List.cons_append,evP,evP,Zte hz a l _ _ (Zbx ht hz),ZaH ht hz (Zbl hz _),ZNf hz,List.length_cons]
theorem Zwb{z:Nat}(hz:z<16):∀(l:List Nat) (m t:Nat),m<16→t<16→(∀a∈l,a<16)→evP z m t l<16
 |[],_,_,h,_,_=>h
 |a::l,m,t,hm,ht,hl=>by
  rw[evP]
  exact Zwb hz l _ _ (Zb4 hm (Zbx (hl a List.mem_cons_self) (Zbx ht hz))) (Zbx ht hz) (fun b hb=>hl b (List.mem_cons_of_mem _ hb))
theorem ZAf{x z:Nat}(hx:x<16)(hz:z<16)(h:Zav x z=1){y:Nat→Nat}(hy:El y):∀n,Zav (pw x n) (evP z 1 1 ((List.range n).map y))=pw x n ^^^ hn y x n
 |0=>by rw[pw,hn,List.range_zero,List.map_nil,evP];rfl
 |n+1=>by
  have a:=Zbl hx n
  have l:=Zwb hz ((List.range n).map y) 1 1 (by decide) (by decide) (fun b hb=>by obtain⟨i,_,rfl⟩:=List.mem_map.1 hb;exact hy i)
  have k:=Zbl hz (n+1)
  have a1:=Zbl hx (n+1)
  rw[List.range_succ,List.map_append,List.map_cons,List.map_nil,Zte hz (y n) _ _ _ (by decide),List.length_map,List.length_range,ZoQ k,ZEf l (Zbx (hy n) k) a1,Zbc (hy n) k,←ZaH a1 k (hy n),ZzU hx hz h,ZoQ (hy n),hn,pw,ZaH a hx l,Zbc hx l,←ZaH a l hx,ZAf hx hz h hy n,ZcB a (Zk3 hy hx n) hx,Nat.xor_assoc]
section
variable {E X:Nat→Nat}{t:Nat}{s:zI}{D:List Nat}(hE:El E)(h0:∀k,k<t→E k≠0)(hD:D.Nodup)(hl:D.length=t)(hp:∀p∈D,p<15)
 (hs:∀m,m<s.length→s.getD m 0=((dt E (fun k=>pw (Zbt (14-D.getD k 0)) (m+1)) t:Nat):Int))
include hE h0 hD hl hp hs
theorem ZBD(hel:s.all elB=true)(h2:2*t≤s.length):poO s t=true∧Zk1 s t=((List.range 15).filter fun i=>decide (i∈D)).map fun i:Nat=>(i:Int):=by
 have hX:El fun k=>Zbt (14-D.getD k 0):=fun _=>ZbV _
 have nodup:∀i j,i<t→j<t→D.getD i 0=D.getD j 0→i=j:=fun i j hi hj he=>by
  rw[List.getD_eq_getElem?_getD,List.getElem?_eq_getElem (by omega),List.getD_eq_getElem?_getD,List.getElem?_eq_getElem (by omega)]at he
  exact(List.getElem_inj hD).1 he
 have hd:∀i j,i<t→j<t→Zbt (14-D.getD i 0)=Zbt (14-D.getD j 0)→i=j:=fun i j hi hj he=>by
  have a:=hp _ (ZbC (xs:=D) (d:=0) (by omega:i<D.length))
  have b:=hp _ (ZbC (xs:=D) (d:=0) (by omega:j<D.length))
  have:=Zs4 (by omega) (by omega) he
  exact nodup i j hi hj (by omega)
 obtain⟨B,q1,q2,q3⟩:=ZGo hE hX h0 (fun k _=>ZtW _) hd hs hel h2
 have hy:El (fun j=>if j<t then B j t else 1):=fun j=>by
  show(if j<t then B j t else 1)<16
  split
  ·exact q2 j t
  ·decide
 have hc:cN B t=(List.range t).map fun j=>if j<t then B j t else 1:=by
  unfold cN
  exact List.map_congr_left fun j hj=>by rw[if_pos (List.mem_range.1 hj)]
 have root:∀i,i<15→((evP (zN i) 1 1 (cN B t)==0)=true↔WK (Zbt (14-i)) t (fun j=>if j<t then B j t else 1)=0):=fun i hi=>by
  obtain⟨z1,z2⟩:=ZyN (ZbV (14-i)) (ZtW (14-i))
  have e:=ZAf (ZbV (14-i)) z1 z2 hy t
  have l:=Zwb z1 ((List.range t).map fun j=>if j<t then B j t else 1) 1 1 (by decide) (by decide) (fun b hb=>by obtain⟨i,_,rfl⟩:=List.mem_map.1 hb;exact hy i)
  have w:=ZEi hy (ZbV (14-i)) t
  rw[if_neg (Nat.lt_irrefl _),ZiH (Zbl (ZbV _) _),Nat.xor_comm]at w
  rw[w,←e,hc,beq_iff_eq]
  constructor
  ·intro a
   unfold zN at a
   rw[a,Zb1 (Zbl (ZbV _) _)]
  ·intro a
   rcases ZbN (Zbl (ZbV _) _) l a with a |a
   ·exact absurd a (ZDB (ZbV _) (ZtW _) _)
   ·exact a
 have mem:∀i,i<15→(WK (Zbt (14-i)) t (fun j=>if j<t then B j t else 1)=0↔i∈D):=fun i hi=>by
  constructor
  ·intro a
   by_cases hm:i∈D
   ·exact hm
   ·exfalso
    have hq:El (fun n=>if n=0 then 1 else if n-1<t then B (n-1) t else 1):=fun n=>by
     show(if n=0 then 1 else if n-1<t then B (n-1) t else 1)<16
     split
     ·decide
     ·exact hy (n-1)
    have hX':El (fun k=>if k<t then Zbt (14-D.getD k 0)else Zbt (14-i)):=fun k=>by
     show(if k<t then Zbt (14-D.getD k 0)else Zbt (14-i))<16
     split<;>exact ZbV _
    have wq:∀x,x<16→hn (fun n=>if n=0 then 1 else if n-1<t then B (n-1) t else 1) x (t+1)=WK x t (fun j=>if j<t then B j t else 1):=fun x hx=>by
     rw[ZrW hq hx,ZEi hy hx,if_neg (Nat.lt_irrefl _),Nat.xor_comm]
     rfl
    have ne:∀k,k<t→Zbt (14-D.getD k 0)≠Zbt (14-i):=fun k hk he=>by
     have b:=ZbC (xs:=D) (d:=0) (by omega:k<D.length)
     have:=Zs4 (by omega) (by omega) he
     have c:=hp _ b
     exact hm ((show i=D.getD k 0 by omega)▸b)
    have:=ZgV (t+1) _ _ hq hX' (fun k j hk hj he=>by
     by_cases h1:k<t
     ·by_cases h2:j<t
      ·rw[if_pos h1,if_pos h2]at he;exact hd k j h1 h2 he
      ·rw[if_pos h1,if_neg h2]at he;exact absurd he (ne k h1)
     ·by_cases h2:j<t
      ·rw[if_neg h1,if_pos h2]at he;exact absurd he.symm (ne j h2)
      ·omega) (fun k hk=>by
     rw[wq _ (hX' k)]
     show WK (if k<t then Zbt (14-D.getD k 0)else Zbt (14-i)) t _=0
     by_cases h1:k<t
     ·rw[if_pos h1];exact q3 k h1
     ·rw[if_neg h1];exact a) 0 (by omega)
    rw[if_pos rfl]at this
    exact absurd this (by decide)
  ·intro a
   obtain⟨k,hk,e⟩:=List.mem_iff_getElem.1 a
   have:=q3 k (by omega)
   rwa[List.getD_eq_getElem?_getD,List.getElem?_eq_getElem hk,Option.getD_some,e]at this
 have hX2:poX (cN B t) 15=((List.range 15).filter fun i=>decide (i∈D)).map fun i:Nat=>(i:Int):=by
  unfold poX
  congr 1
  refine List.filter_congr fun i hi=>?_
  have hi:=List.mem_range.1 hi
  rw[Bool.eq_iff_iff,root i hi,mem i hi,decide_eq_true_eq]
 constructor
 ·unfold poO
  rw[q1]
  refine decide_eq_true ?_
  rw[hX2,List.length_map,←hl]
  refine List.Perm.length_eq ?_
  refine(List.perm_ext_iff_of_nodup (List.nodup_range.sublist List.filter_sublist) hD).2 fun i=>?_
  rw[List.mem_filter,List.mem_range,decide_eq_true_eq]
  exact⟨fun a=>a.2,fun a=>⟨hp i a,a⟩⟩
 ·unfold Zk1
  rw[q1]
  exact hX2
end
end Go.Proofs.YtjhldefnjghcdaaGreat
namespace Go.Proofs.YtjhldefnjghcdaaGreat
def dfL(w c:zI):List Nat:=(List.range 15).filter fun i=>decide (w.getD i 0≠c.getD i 0)
theorem ZjR:∀xs ys:zI,xs.length=ys.length→Za9 xs ys=(((List.range xs.length).filter fun i=>decide (xs.getD i 0≠ys.getD i 0)).length:Int)
 |[],[],_=>by simp[Za9]
 |[],_::_,h=>by cases h
 |_::_,[],h=>by cases h
 |x::xs,y::ys,h=>by
  have ih:=ZjR xs ys (by simpa using h)
  rw[Za9,ih,List.length_cons,List.range_succ_eq_map,List.filter_cons,List.filter_map]
  by_cases hq:x=y
  ·simp[hq,Function.comp_def]
  ·simp[hq,Function.comp_def];omega
theorem Zjq{w c:zI}(hw:w.length=15)(hc:c.length=15):Za9 w c=((dfL w c).length:Int):=by
 have:=ZjR w c (by omega)
 rwa[hw]at this
theorem df_mem{w c:zI}{i:Nat} :i∈dfL w c↔i<15∧w.getD i 0≠c.getD i 0:=by
 unfold dfL;rw[List.mem_filter,List.mem_range,decide_eq_true_eq]
theorem ZiR(w c:zI):(dfL w c).Nodup:=List.nodup_range.sublist List.filter_sublist
theorem ZJ4{w c:zI}{l:List Nat}(h:∀i,i<15→w.getD i 0≠c.getD i 0→i∈l):(dfL w c).length≤l.length:=
 (ZiR w c).length_le_of_subset fun i hi=>h i (df_mem.1 hi).1 (df_mem.1 hi).2
theorem Zs1{w c:zI}(hw:ZaF w 0 15=0)(hc:ZaF c 0 15=0)(i:Nat):wfn w i=wfn c i↔w.getD i 0=c.getD i 0:=by
 have a:=of_decide_eq_true (Zfy hw i)
 have b:=of_decide_eq_true (Zfy hc i)
 unfold wfn;omega
theorem ZxB{h:Int}{c:zI}(hc:c.length=15)(hi:isW h c=true){j:Nat}(hj:j<2*h.toNat):Zqg (j+1) (wfn c)=0:=(Zxd hc).1 hi j hj
theorem Zvp{h:Int}{w c d:zI}(hw:okw w=true)(hc:okw c=true)(hd:okw d=true)(ic:isW h c=true)(id:isW h d=true)(dc:Za9 w c≤h)(dd:Za9 w d≤h):c=d:=by
 obtain⟨w1,w2⟩:=okw_iff.1 hw
 obtain⟨c1,c2⟩:=okw_iff.1 hc
 obtain⟨d1,d2⟩:=okw_iff.1 hd
 rw[Zjq w1 c1]at dc
 rw[Zjq w1 d1]at dd
 have hl:(dfL c d).length≤2*h.toNat:=by
  have:=ZJ4 (w:=c) (c:=d) (l:=dfL w c++dfL w d) (fun i hi hne=>by
   rw[List.mem_append,df_mem,df_mem]
   by_cases q:w.getD i 0=c.getD i 0
   ·exact Or.inr ⟨hi,fun a=>hne (q.symm.trans a)⟩
   ·exact Or.inl ⟨hi,q⟩)
  rw[List.length_append]at this
  omega
 have z:=ZuL (m:=2*h.toNat) (c:=fun i=>wfn c i ^^^ wfn d i) (fun i=>Zb4 (Zdx c2 i) (Zdx d2 i)) (dfL c d) (fun p hp=>(df_mem.1 hp).1) (ZiR c d) hl (fun i hi hn=>by
  have:c.getD i 0=d.getD i 0:=Decidable.byContradiction fun a=>hn (df_mem.2 ⟨hi,a⟩)
  show wfn c i ^^^ wfn d i=0
  rw[(Zs1 c2 d2 i).2 this,Nat.xor_self]) (fun j hj=>by
  unfold Zqg
  rw[ZsK (Zdx c2) (Zdx d2) (Zh4 _)]
  have a:=ZxB c1 ic hj
  have b:=ZxB d1 id hj
  unfold Zqg at a b
  rw[a,b,Nat.xor_self])
 refine List.ext_getElem (by omega) fun i h1 h2=>?_
 have:=(Zs1 c2 d2 i).1 (ZoH (z i (by omega)))
 rwa[List.getD_eq_getElem?_getD,List.getElem?_eq_getElem h1,List.getD_eq_getElem?_getD,List.getElem?_eq_getElem h2]at this
theorem ZEe{h:Int}{w e:zI}(hg:fiG w h e=true):Za9 w (fiW h w e)≤e.length:=by
 obtain⟨g1,g2,g3,g4,g5⟩:=ZiC hg
 obtain⟨w1,w2⟩:=okw_iff.1 g1
 obtain⟨f1,f2⟩:=okw_iff.1 (ZrZ hg)
 rw[Zjq w1 f1]
 have hp:=Zju g4
 have:=ZJ4 (w:=w) (c:=fiW h w e) (l:=e.map Int.toNat) (fun i hi hne=>by
  by_cases hm:(i:Int)∈e
  ·exact List.mem_map.2 ⟨_,hm,rfl⟩
  ·exfalso
   apply hne
   have hx:∀x∈e,x≠(i:Int):=fun x hx a=>hm (a▸hx)
   unfold fiW
   split
   ·rw[Zkm e w i hp,if_neg hm]
   ·rw[Zwu e _ _ i hp hx,Zkm e w i hp,if_neg hm])
 rw[List.length_map]at this
 omega
def dfI(w c:zI):zI:=(dfL w c).map fun i:Nat=>(i:Int)
theorem ZB5{h:Int}{w c:zI}(hw:okw w=true)(hc:okw c=true)(ic:isW h c=true)(dc:Za9 w c≤h):poO (syL w (2*h.toNat)) (dfL w c).length=true∧Zk1 (syL w (2*h.toNat)) (dfL w c).length=dfI w c:=by
 obtain⟨w1,w2⟩:=okw_iff.1 hw
 obtain⟨c1,c2⟩:=okw_iff.1 hc
 rw[Zjq w1 c1]at dc
 have hE:El fun k=>wfn w ((dfL w c).getD k 0) ^^^ wfn c ((dfL w c).getD k 0):=fun k=>Zb4 (Zdx w2 _) (Zdx c2 _)
 have hx:El fun i=>wfn w i ^^^ wfn c i:=fun k=>Zb4 (Zdx w2 _) (Zdx c2 _)
 have hl:=ZkD w (2*h.toNat)
 have r:=ZBD (s:=syL w (2*h.toNat)) (t:=(dfL w c).length) hE (fun k hk a=>by
  have m:=df_mem.1 (ZbC (xs:=dfL w c) (d:=0) hk)
  exact m.2 ((Zs1 w2 c2 _).1 (ZoH a))) (ZiR w c) rfl (fun p hp=>(df_mem.1 hp).1) (fun m hm=>by
  rw[hl]at hm
  have e:(syL w (2*h.toNat)).getD m 0=syI w (m+1):=by
   unfold syL
   rw[List.getD_eq_getElem?_getD,List.getElem?_map,List.getElem?_range hm];rfl
  rw[e,ZiV w1]
  congr 1
  have a:=ZxB c1 ic hm
  have b:=ZsK (Zdx w2) (Zdx c2) (Zh4 (m+1)) 15
  unfold Zqg at a
  rw[a,Nat.xor_zero]at b
  unfold Zqg
  rw[←b,Zpl _ (Zh4 (m+1)) (dfL w c) (fun p hp=>(df_mem.1 hp).1) (ZiR w c) _ hx (fun i hi hn=>by
   have:w.getD i 0=c.getD i 0:=Decidable.byContradiction fun a=>hn (df_mem.2 ⟨hi,a⟩)
   show wfn w i ^^^ wfn c i=0
   rw[(Zs1 w2 c2 i).2 this,Nat.xor_self])]
  exact ZaL _ (fun _ _=>rfl) (fun k _=>by rw[Zsj])) (Zz1 w2 _) (by omega)
 refine⟨r.1,r.2.trans ?_⟩
 unfold dfI
 congr 1
 unfold dfL
 refine List.filter_congr fun i hi=>?_
 rw[Bool.eq_iff_iff,decide_eq_true_eq,decide_eq_true_eq]
 exact df_mem.trans ⟨fun a=>a.2,fun a=>⟨List.mem_range.1 hi,a⟩⟩
theorem ZDr{w c:zI} :∀p:Nat,p<15→(p:Int)∉dfI w c→w.getD p 0=c.getD p 0:=fun p hp hn=>
 Decidable.byContradiction fun a=>hn (List.mem_map.2 ⟨p,df_mem.2 ⟨hp,a⟩,rfl⟩)
theorem ZoG{h:Int}{w:zI}(hw:okw w=true)(hh:hfB h=true):∀(k u:Nat) (x:zI),u+k≤h.toNat+1→deR h w k u=some x→okw x=true∧isW h x=true∧Za9 w x≤h
 |0,_,_,_,e=>by cases e
 |k+1,u,x,hk,e=>by
  have h2:=of_decide_eq_true hh
  rw[deR]at e
  split at e
  ·rename_i hc
   have hg:=ZAQ (u:=u) hw hh (by omega) hc.1
   have hv:=ZQm hc.2
   rw[hv]at e
   cases e
   have n:=ZEe hg
   have hl:(Zk1 (syL w (2*h.toNat)) u).length=u:=by
    have o:=hc.1
    unfold poO at o
    unfold Zk1
    cases hq:poC (syL w (2*h.toNat)) u with
    |none=>rw[hq]at o;cases o
    |some c=>rw[hq]at o;exact of_decide_eq_true o
   refine⟨ZrZ hg,(Zrq hg).symm.trans hc.2,?_⟩
   rw[hl]at n
   omega
  ·exact ZoG hw hh k (u+1) x (by omega) e
theorem ZwT{h:Int}{w c:zI}(hw:okw w=true)(hh:hfB h=true)(hc:okw c=true)(ic:isW h c=true)(dc:Za9 w c≤h):∀(k u:Nat),u≤(dfL w c).length→(dfL w c).length<u+k→deR h w k u≠none
 |0,u,h1,h2,_=>by omega
 |k+1,u,h1,h2,e=>by
  rw[deR]at e
  split at e
  ·cases e
  ·rename_i hn
   by_cases hu:u=(dfL w c).length
   ·subst hu
    obtain⟨p1,p2⟩:=ZB5 hw hc ic dc
    have h3:=of_decide_eq_true hh
    have hd:=Zjq (okw_iff.1 hw).1 (okw_iff.1 hc).1
    have hg:=ZAQ hw hh (by omega) p1
    refine hn ⟨p1,?_⟩
    rw[Zrq hg,p2]
    rw[p2]at hg
    rw[ZDa hg hc ic ZDr]
    exact ic
   ·exact ZwT hw hh hc ic dc k (u+1) (by omega) (by omega) e
theorem ZAa{h:Int}{w:zI}(hw:okw w=true)(hh:hfB h=true)(x:zI):deO h w=some x↔okw x=true∧isW h x=true∧Za9 w x≤h:=by
 unfold deO
 constructor
 ·exact ZoG hw hh _ _ x (by omega)
 ·rintro⟨a,b,c⟩
  have h3:=of_decide_eq_true hh
  have hd:=Zjq (okw_iff.1 hw).1 (okw_iff.1 a).1
  obtain⟨y,hy⟩:=Option.ne_none_iff_exists'.1 (ZwT hw hh a b c (h.toNat+1) 0 (by omega) (by omega))
  obtain⟨y1,y2,y3⟩:=ZoG hw hh _ _ y (by omega) hy
  have:=Zvp hw a y1 b y2 c y3
  subst this
  exact hy
end Go.Proofs.YtjhldefnjghcdaaGreat
namespace Go.Proofs.YtjhldefnjghcdaaGreat
theorem ZJZ{h:Int}{w e:zI}(hp:ZEI e){i:Nat}(hm:(i:Int)∉e):(fiW h w e).getD i 0=w.getD i 0:=by
 have hx:∀x∈e,x≠(i:Int):=fun x hx a=>hm (a▸hx)
 unfold fiW
 split
 ·rw[Zkm e w i hp,if_neg hm]
 ·rw[Zwu e _ _ i hp hx,Zkm e w i hp,if_neg hm]
theorem ZvV{h:Int}{d:zI}(g:daB h d=true):okw (enW h d)=true∧isW h (enW h d)=true:=by
 have hg:=Zpn g
 refine⟨ZrZ hg,?_⟩
 have:=Zrq hg
 rw[(ZAw g).2]at this
 exact this.symm
theorem ZBS{h:Int}{w c:zI}(hw:okw w=true)(hh:hfB h=true)(hc:okw c=true)(ic:isW h c=true)(dc:Za9 w c≤h):(deO h w).isSome=true∧deV h w=c:=by
 have:=(ZAa hw hh c).2 ⟨hc,ic,dc⟩
 unfold deV
 rw[this]
 exact⟨rfl,rfl⟩
theorem ZxA{h:Int}{w:zI}(hw:okw w=true)(hh:hfB h=true)(hs:(deO h w).isSome=true):okw (deV h w)=true∧isW h (deV h w)=true∧deN h w=Za9 w (deV h w)∧deN h w≤h:=by
 obtain⟨x,hx⟩:=Option.isSome_iff_exists.1 hs
 obtain⟨a,b,c⟩:=(ZAa hw hh x).1 hx
 unfold deV deN
 rw[hx]
 exact⟨a,b,rfl,c⟩
end Go.Proofs.YtjhldefnjghcdaaGreat
namespace Go.Proofs.YtjhldefnjghcdaaGreat
theorem ZqH{m p q:Int}{so:zI} :∀(j t:Nat) (s:Int),(tbR m p q so j t s).length=j∧Zas (tbR m p q so j t s)=true
 |0,_,_=>⟨rfl,rfl⟩
 |j+1,t,s=>by
  rw[tbR]
  split
  ·have:=ZqH (m:=m) (p:=p) (q:=q) (so:=so) j (t+1) (nxS m s 0)
   exact⟨by rw[List.length_cons,this.1],Zdv (a:=[0]) rfl this.2⟩
  ·have:=ZqH (m:=m) (p:=p) (q:=q) (so:=so) j (t+1) (nxS m s 1)
   exact⟨by rw[List.length_cons,this.1],Zdv (a:=[1]) rfl this.2⟩
def neL(bs:zI)(k:Nat):zI:=(List.range k).map fun i=>nbI (paL 4 bs i) 0
theorem Zd5(bs:zI)(k:Nat):(neL bs k).length=k:=by simp[neL]
theorem ZDZ(bs:zI)(k:Nat):neL bs (k+1)=neL bs k++[nbI (paL 4 bs k) 0]:=by simp[neL,List.range_succ]
theorem ZNz:∀l:zI,l.length=4→Zas l=true→0≤nbI l 0∧nbI l 0≤15
 |[a,b,c,e],_,hb=>by
  have h0:a=0∨a=1:=ZbG hb 0
  have h1:b=0∨b=1:=ZbG hb 1
  have h2:c=0∨c=1:=ZbG hb 2
  have h3:e=0∨e=1:=ZbG hb 3
  simp only[nbI]
  omega
theorem Zth{l:zI}(h:∀j,j<l.length→l.getD j 0=0∨l.getD j 0=1):Zas l=true:=List.all_eq_true.2 fun x hx=>by
 obtain⟨j,hj,rfl⟩:=List.mem_iff_getElem.1 hx
 have:=h j hj
 rw[List.getD_eq_getElem?_getD,List.getElem?_eq_getElem hj]at this
 exact decide_eq_true this
theorem Zow{n:Nat}{l:zI}(h:Zas l=true)(i:Nat):Zas (paL n l i)=true:=Zth fun j hj=>by
 have hj2:j<n:=by unfold paL at hj;rw[List.length_take]at hj;omega
 rw[Zrw hj2]
 exact ZbG h _
theorem ZzI{bs:zI}{k:Nat}(hb:Zas bs=true)(hl:bs.length=k*4):ZaF (neL bs k) 0 15=0:=Ze9 fun j hj=>by
 rw[Zd5]at hj
 have:=ZNz _ (Zcz hl hj) (Zow hb j)
 have e:(neL bs k).getD j 0=nbI (paL 4 bs j) 0:=by simp[neL,hj]
 rw[e]
 exact decide_eq_true this
def dlR(h:Int)(al:zI)(n:Nat):Nat→Nat→zI→Int→Option (zI×Int)
 |0,_,out,c=>some (out,c)
 |k+1,i,out,c=>if(deO h (paL 15 al i)).isSome=true then dlR h al n k (i+1) (out++(deV h (paL 15 al i)).take n) (c+deN h (paL 15 al i))else none
def alL(m p q:Int)(so:zI)(d:Nat):zI:=tS (neL (blI m p q so) (15*d)) 15
@[irreducible] def dlO (m p q h D:Int) (so:zI):Option (zI×Int):=dlR h (alL m p q so D.toNat) (15-2*h).toNat D.toNat 0 [] 0
@[irreducible] def dlV (m p q h D:Int) (so:zI):zI:=match dlO m p q h D so with |none=>[] |some (x,_)=>x
@[irreducible] def dlN (m p q h D:Int) (so:zI):Int:=match dlO m p q h D so with |none=>0 |some (_,z)=>z
def Zx3(m p q h D:Int)(so:zI):Bool:=decide (lkE m p q h D=0)&&(decide ((so.length:Int)=2*(4*D*15+m))&&decide (ZaF so (-7) 7=0))
structure RcK (m p q h D:Int) (so:zI) (n d:Nat):Prop where
 hb:hfB h=true
 hd:D=d
 d1:1≤d∧d≤4
 hn:(n:Int)=15-2*h
 n1:9≤n∧n≤13
 ok:okI m p q so=true
 bl:(blI m p q so).length=60*d
 bb:Zas (blI m p q so)=true
 sl:so.length≤1000
theorem ZzJ{m p q h D:Int}{so:zI}(g:Zx3 m p q h D so=true):∃n d,RcK m p q h D so n d:=by
 unfold Zx3 at g
 rw[Bool.and_eq_true,Bool.and_eq_true]at g
 obtain⟨g1,g2,g3⟩:=g
 have g1:=of_decide_eq_true g1
 have g2:=of_decide_eq_true g2
 have g3:=of_decide_eq_true g3
 obtain⟨e1,e2,h1,h2,h3,h4⟩:=ZfY g1
 have hm:=(Zan e1).1
 obtain⟨d,rfl⟩:=Int.eq_ofNat_of_zero_le (show 0≤D by omega)
 obtain⟨n,hn⟩:=Int.eq_ofNat_of_zero_le (show 0≤15-2*h by omega)
 have e3:sfE m so=0:=by
  unfold sfE
  rw[if_neg (by omega),if_neg (by omega)];exact g3
 obtain⟨t1,t2⟩:=ZqH (m:=m) (p:=p) (q:=q) (so:=so) (ZbQ m so) 0 0
 refine⟨n,d,e2,rfl,by omega,by omega,by omega,by unfold okI;rw[e1,e3];rfl,?_,t2,by omega⟩
 show(tbR m p q so (ZbQ m so) 0 0).length=_
 rw[t1];unfold ZbQ;omega
section
variable {m p q h D:Int}{so:zI}{n d:Nat}(K:RcK m p q h D so n d)
include K
theorem RcK.ne:ZaF (neL (blI m p q so) (15*d)) 0 15=0:=ZzI K.bb (by rw[K.bl];omega)
theorem RcK.al:(alL m p q so d).length=d*15∧ZaF (alL m p q so d) 0 15=0:=⟨by rw[alL,Zdz,Zd5];omega,Zxl K.ne⟩
theorem RcK.wd{i:Nat}(hi:i<d):okw (paL 15 (alL m p q so d) i)=true:=okw_iff.2 ⟨Zcz K.al.1 hi,ZrS K.al.2 i⟩
theorem RcK.de{i:Nat}(hi:i<d)(hs:(deO h (paL 15 (alL m p q so d) i)).isSome=true):(deV h (paL 15 (alL m p q so d) i)).length=15∧0≤deN h (paL 15 (alL m p q so d) i)∧deN h (paL 15 (alL m p q so d) i)≤3:=by
 obtain⟨a,_,b,c⟩:=ZxA (K.wd hi) K.hb hs
 have q:=of_decide_eq_true K.hb
 refine⟨(okw_iff.1 a).1,?_,by omega⟩
 rw[b]
 exact(ZsY _ _).1
theorem RcK.rc:rcB (neL (blI m p q so) (15*d)) D=true:=by
 have h1:=K.d1
 refine decide_eq_true ?_
 rw[K.hd,Zd5,Int.toNat_natCast,Nat.mul_div_cancel _ (by omega)]
 exact⟨by omega,by omega,by omega,by omega,rfl⟩
theorem RcK.dl:dlO m p q h D so=dlR h (alL m p q so d) n d 0 [] 0:=by
 unfold dlO
 rw[←K.hn,K.hd,Int.toNat_natCast,Int.toNat_natCast]
end
section
variable {C:Ctx}(hC:C.P=Tryz.prog)(m p q h D:Int)(so:zI)(n d:Nat)(K:RcK m p q h D so n d)
include hC K
end
theorem ZFS{a b:Int}(h:0≤a∧a≤7)(hb:b=0∨b=1):std.bits .or .i64 (std.shl a 1) b=2*a+b:=by
 obtain⟨k,rfl⟩:=Int.eq_ofNat_of_zero_le h.1
 have:=(by decide:∀x:Fin 8,std.bits .or .i64 (std.shl (x.val:Int) 1) 0=2*(x.val:Int)+0∧std.bits .or .i64 (std.shl (x.val:Int) 1) 1=2*(x.val:Int)+1) ⟨k,by omega⟩
 rcases hb with rfl |rfl
 ·exact this.1
 ·exact this.2
theorem ZsW{l:zI}{n i:Nat}(h:i*n+n≤l.length):std.add ((i*n:Nat):Int) (std.min (n:Int) (std.int (std.len (std.sub3 l (i*n) (std.len l-i*n)))))=((i*n+n:Nat):Int):=by
 have t0:(std.sub3 l (i*n) (l.length-i*n)).length=l.length-i*n:=by
  show((l.drop (i*n)).take _).length=_
  rw[List.length_take,List.length_drop];omega
 simp only[Zbw,Ze0,t0,Zho]
 show _+min _ _=_
 omega
section
variable {C:Ctx}(hC:C.P=Tryz.prog)(m p q h D:Int)
include hC
theorem ZPv(r:AV)(l0 l1 l2 l3 l4:zI)(n5:Int)(l6 l7:zI)(n9 n10 n11 n12 n13:Int)(l14:zI)(hl:l7.length=4)(hb:Zas l7=true)(h5:0≤n5∧n5≤1000)(h6:l6.length≤1000)
 (hn:Ev C (ZfL m p q h D l0 l1 l2 l3 l4 (n5+4) (l6++[nbI l7 0])) (ZeR m p q h D l0 l1 l2 l3 l4 (n5+4) (l6++[nbI l7 0])) (Zk2 22 r)):∀(k j:Nat) (a:Int),j+k=4→0≤a→a<2^j→nbI (l7.drop j) a=nbI l7 0→
 Ev C (Zj2 m p q h D l0 l1 l2 l3 l4 n5 l6 l7 4 n9 n10 n11 n12 n13 l14 a j) (Zgl m p q h D l0 l1 l2 l3 l4 n5 l6 l7 4 n9 n10 n11 n12 n13 l14 a j) (Zk2 22 r):=by
 intro k
 induction k with
 |zero=>
  intro j a hj h0 h1 e
  rw[List.drop_of_length_le (by omega),nbI]at e
  subst e
  refine Zfo hC Zdt Znz ?_
  simp[ZgF,show ¬(j:Int)<4 by omega,AV.bx,Zad]at hn⊢
  exact⟨by omega,by omega,hn⟩
 |succ k ih=>
  intro j a hj h0 h1 e
  have hlt:j<l7.length:=by omega
  have hbj:=ZbG hb j
  rw[ZdE hlt,nbI]at e
  have hp:(2:Int)^(j+1)=2*2^j:=by rw[Int.pow_succ];omega
  have hq:(2:Int)^j≤8:=by
   have:(2:Nat)^j≤2^3:=Nat.pow_le_pow_right (by decide) (by omega)
   exact_mod_cast this
  have i0:=ih (j+1) (2*a+l7.getD j 0) (by omega) (by omega) (by omega) e
  have o:=ZFS (a:=a) ⟨h0,by omega⟩ hbj
  have hs:std.shl a 1=2*a:=by show a*2^(1:Int).toNat=2*a;have:(2:Int)^(1:Int).toNat=2:=rfl;rw[this];omega
  rw[hs]at o
  refine Zfo hC Zdt Znz ?_
  simp only[ZgF,hs,Zba,ZaT,Int.toNat_natCast,o]
  simp[-List.getD_eq_getElem?_getD,show(j:Int)<4 by omega,hl,show j<4 by omega]at i0⊢
  exact⟨by omega,i0⟩
variable (so:zI)(n d:Nat)(K:RcK m p q h D so n d)
include K
theorem ZQj:∀(k i:Nat) (c:Int) (out:zI),i+k=d→0≤c→c≤3*i→out.length≤13*i→Ev C (ZkR m p q h D (alL m p q so d) ((i*15:Nat):Int) c out) (ZhU m p q h D (alL m p q so d) ((i*15:Nat):Int) c out) (Zk2 22 (match dlR h (alL m p q so d) n k i out c with |none=>.tup [.list (.ints .i64 []), .int .i64 0, .int .i64 27] |some (x,z)=>.tup [.list (.ints .i64 x), .int .i64 z, .int .i64 0])):=by
 have hd:=K.d1
 have hn:=K.hn
 have hn1:=K.n1
 have hb:=K.hb
 have hl:=K.al.1
 have qh:=of_decide_eq_true hb
 intro k
 induction k with
 |zero=>
  intro i c out hi h0 h1 ho
  have t3:¬((i*15:Nat):Int)<(d*15:Nat):=by omega
  refine Zfo hC Zdt Zgm ?_
  simp only[ZeN,ZEB,Ze0,Zbw,hl,decide_eq_false t3]
  simp[dlR]
  exact⟨_, .same _, .tup ⟨.row _ rfl rfl rfl, .same _ rfl rfl, .same _ rfl rfl,trivial⟩,rfl⟩
 |succ k ih=>
  intro i c out hi h0 h1 ho
  have hid:i<d:=by omega
  have hle:i*15+15≤(alL m p q so d).length:=by rw[hl];omega
  have es:std.sub3 (alL m p q so d) (i*15) 15=paL 15 (alL m p q so d) i:=rfl
  have hch:std.add ((i*15:Nat):Int) (std.min 15 (std.int (std.len (std.sub3 (alL m p q so d) (i*15) (std.len (alL m p q so d)-i*15)))))=((i*15+15:Nat):Int):=ZsW (n:=15) hle
  have hw:=K.wd hid
  have t3:((i*15:Nat):Int)<((alL m p q so d).length:Int):=by omega
  rw[dlR]
  cases hs:(deO h (paL 15 (alL m p q so d) i)).isSome
  ·refine Zfo hC Zdt Zgm ?_
   have hdl:(deV h (paL 15 (alL m p q so d) i)).length=15:=by
    have:deO h (paL 15 (alL m p q so d) i)=none:=by simpa using hs
    unfold deV;rw[this];rfl
   generalize i*15=j at*
   simp only[ZeN,hch,ZaT,Int.toNat_natCast,es,hw,hs]
   simp[t3,hb,hdl]
   exact⟨by omega,_, .same _, .tup ⟨.nil _ rfl, .same _ rfl rfl, .same _ rfl rfl,trivial⟩,rfl⟩
  ·obtain⟨w1,w2,w3⟩:=K.de hid hs
   have i0:=ih (i+1) (c+deN h (paL 15 (alL m p q so d) i)) (out++(deV h (paL 15 (alL m p q so d) i)).take n) (by omega) (by omega) (by omega) (by rw[List.length_append,List.length_take];omega)
   have t5:(15-2*h).toNat=n:=by omega
   have e3:std.sub3 (deV h (paL 15 (alL m p q so d) i)) 0 (n-0)=(deV h (paL 15 (alL m p q so d) i)).take n:=rfl
   have t6:(((i+1)*15:Nat):Int)=((i*15:Nat):Int)+15:=by omega
   have hj:i*15≤60:=by omega
   rw[t6]at i0
   refine Zfo hC Zdt Zgm ?_
   generalize i*15=j at*
   simp only[ZeN,hch,ZaT,Zk8,Zzc,Int.toNat_natCast,es,hw,hs,t5,e3]
   simp[t3,hb,w1]at i0⊢
   exact⟨by omega,by omega,by omega,i0⟩
theorem ZQq(l0 l1 l2 l3:zI):∀(k i:Nat),i+k=15*d→Ev C (ZfL m p q h D l0 l1 l2 l3 (blI m p q so) ((i*4:Nat):Int) (neL (blI m p q so) i)) (ZeR m p q h D l0 l1 l2 l3 (blI m p q so) ((i*4:Nat):Int) (neL (blI m p q so) i)) (Zk2 22 (match dlO m p q h D so with |none=>.tup [.list (.ints .i64 []), .int .i64 0, .int .i64 27] |some (x,z)=>.tup [.list (.ints .i64 x), .int .i64 z, .int .i64 0])):=by
 have hd:=K.d1
 have hD:=K.hd
 have hl:=K.bl
 intro k
 induction k with
 |zero=>
  intro i hi
  have:i=15*d:=by omega
  subst this
  have i0:=ZQj hC m p q h D so n d K d 0 0 [] (by omega) (by omega) (by omega) (by simp)
  have e1:((15*d:Nat):Int).tdiv (d:Int)=15:=by
   have:((15*d:Nat):Int).tdiv (d:Int)=((15*d/d:Nat):Int):=rfl
   rw[this,Nat.mul_div_cancel _ (by omega)];rfl
  have rc:rcB (neL (blI m p q so) (15*d)) 15=true:=by
   refine decide_eq_true ?_
   rw[Zd5]
   show _∧_∧_∧_∧15*d/15*15=_
   omega
  have t3:¬((15*d*4:Nat):Int)<(60*d:Nat):=by omega
  rw[K.dl]
  rw[hD]at i0
  refine Zfo hC Zdt Zmr ?_
  simp only[ZgG,ZEB,Ze0,Zbw,hl,decide_eq_false t3,Zd5,ZvZ,hD,e1,rc]
  simp[alL]at i0⊢
  exact⟨by omega,i0⟩
 |succ k ih=>
  intro i hi
  have i0:=ih (i+1) (by omega)
  have es:std.sub3 (blI m p q so) (i*4) (i*4+4-i*4)=paL 4 (blI m p q so) i:=Zwc _ rfl rfl
  have hpl:(paL 4 (blI m p q so) i).length=4:=Zcz (D:=15*d) (by rw[hl];omega) (by omega)
  have hpb:=Zow (n:=4) K.bb i
  have hle:i*4+4≤(blI m p q so).length:=by omega
  have hch:std.add ((i*4:Nat):Int) (std.min 4 (std.int (std.len (std.sub3 (blI m p q so) (i*4) (std.len (blI m p q so)-i*4)))))=((i*4+4:Nat):Int):=ZsW (n:=4) hle
  have t3:((i*4:Nat):Int)<((blI m p q so).length:Int):=by omega
  have t4:(((i+1)*4:Nat):Int)=((i*4:Nat):Int)+4:=by omega
  rw[ZDZ,t4]at i0
  have nl:=Zd5 (blI m p q so) i
  have i1:=fun n9 n10 n11 n12 n13 l14=>ZPv hC m p q h D _ l0 l1 l2 l3 (blI m p q so) ((i*4:Nat):Int) (neL (blI m p q so) i) (paL 4 (blI m p q so) i) n9 n10 n11 n12 n13 l14 hpl hpb (by omega) (by omega) i0 4 0 0 (by omega) (by omega) (by decide) (by rw[List.drop_zero])
  refine Zfo hC Zdt Zmr ?_
  generalize i*4=j at*
  simp only[ZgG,hch,ZaT,Int.toNat_natCast,es]
  simp only[Zbw,hpl,Ze0]
  simp[t3]at i1⊢
  refine⟨by omega,?_⟩
  exact i1 _ _ _ _ _ _
end
def reE(m p q h D:Int)(so:zI):Int:=Zaj [lkE m p q h D,Zae (decide ((so.length:Int)=2*(4*D*15+m))) 10,ZaF so (-7) 7,if(dlO m p q h D so).isSome=true then 0 else 27]
@[irreducible] def reV (m p q h D:Int) (so:zI):zI:=if reE m p q h D so=0 then dlV m p q h D so else []
@[irreducible] def reN (m p q h D:Int) (so:zI):Int:=if reE m p q h D so=0 then dlN m p q h D so else 0
theorem Zx8(m p q h D:Int)(so:zI)(hl:so.length≤1000000):ZaK Tryz.prog 22 [.agg (.gen [.int .i64 m, .int .i64 p, .int .i64 q, .int .i64 h, .int .i64 D]), .list (.ints .i64 so)] (.tup [.list (.ints .i64 (reV m p q h D so)), .int .i64 (reN m p q h D so), .int .i64 (reE m p q h D so)]) Zk4:=by
 refine ZpE (ZCT m p q h D so) fun C hC=>Zfo hC Zdt ZNe ?_
 by_cases h1:lkE m p q h D=0
 ·obtain⟨hv,hb,q1,q2,q3,q4⟩:=ZfY h1
  have hm:=(Zan hv).1
  by_cases h2:(so.length:Int)=2*(D*15*4+m)
  ·have h2':(so.length:Int)=2*(4*D*15+m):=by omega
   by_cases h3:ZaF so (-7) 7=0
   ·obtain⟨n,d,K⟩:=ZzJ (m:=m) (p:=p) (q:=q) (h:=h) (D:=D) (so:=so) (by unfold Zx3;simp[h1,h2',h3])
    have i:=ZQq hC m p q h D so n d K (blI m p q so) (blI m p q so) (blI m p q so) (blI m p q so) (15*d) 0 (by omega)
    have ok:=K.ok
    have ev:(AV.tup [.list (.ints .i64 (reV m p q h D so)), .int .i64 (reN m p q h D so), .int .i64 (reE m p q h D so)])=(match dlO m p q h D so with |none=>.tup [.list (.ints .i64 []), .int .i64 0, .int .i64 27] |some (x,z)=>.tup [.list (.ints .i64 x), .int .i64 z, .int .i64 0]):=by
     unfold reV reN dlV dlN reE
     cases dlO m p q h D so with
     |none=>simp[Zaj,Zae,h1,h2',h3]
     |some x=>simp[Zaj,Zae,h1,h2',h3]
    rw[ev]
    simp[ZwB,h1,h2,h3,Zae,Zaj,hl,ok,neL,AV.bx,Zad]at i⊢
    exact⟨by omega,i⟩
   ·have e0:reE m p q h D so=ZaF so (-7) 7:=by simp[reE,Zaj,Zae,h1,h2',h3]
    have ev:reV m p q h D so=[]:=by unfold reV;rw[if_neg (by rw[e0];exact h3)]
    have en:reN m p q h D so=0:=by unfold reN;rw[if_neg (by rw[e0];exact h3)]
    simp[ZwB,h1,h2,h3,Zae,Zaj,hl,ev,en,e0,AV.bx,Zad]
    exact⟨by omega,_, .same _, .tup ⟨.nil _ rfl, .same _ rfl rfl, .same _ rfl rfl,trivial⟩,rfl⟩
  ·have h2':¬(so.length:Int)=2*(4*D*15+m):=by omega
   have e0:reE m p q h D so=10:=by simp[reE,Zaj,Zae,h1,h2']
   have ev:reV m p q h D so=[]:=by unfold reV;rw[if_neg (by rw[e0];decide)]
   have en:reN m p q h D so=0:=by unfold reN;rw[if_neg (by rw[e0];decide)]
   simp[ZwB,h1,h2,Zae,Zaj,hl,ev,en,e0,AV.bx,Zad]
   exact⟨by omega,_, .same _, .tup ⟨.nil _ rfl, .same _ rfl rfl, .same _ rfl rfl,trivial⟩,rfl⟩
 ·have e0:reE m p q h D so=lkE m p q h D:=by simp[reE,Zaj,h1]
  have ev:reV m p q h D so=[]:=by unfold reV;rw[if_neg (by rw[e0];exact h1)]
  have en:reN m p q h D so=0:=by unfold reN;rw[if_neg (by rw[e0];exact h1)]
  simp[ZwB,h1,ev,en,e0]
  exact⟨_, .same _, .tup ⟨.nil _ rfl, .same _ rfl rfl, .same _ rfl rfl,trivial⟩,rfl⟩
def k49:Ctr:=⟨22,0,fun _ a=>match a with |[.agg (.gen [.int .i64 m, .int .i64 p, .int .i64 q, .int .i64 h, .int .i64 D]), .list (.ints .i64 so)]=>some (decide (so.length≤1000000), .tup [.list (.ints .i64 (reV m p q h D so)), .int .i64 (reN m p q h D so), .int .i64 (reE m p q h D so)],Zk4) |_=>none⟩
theorem ZKn:k49.OK Tryz.prog:=fun pa args r fr h=>by
 simp only[k49]at h
 split at h
 ·simp only[Option.some.injEq,Prod.mk.injEq,decide_eq_true_eq]at h
  obtain⟨h0,rfl,rfl⟩:=h
  exact Zx8 _ _ _ _ _ _ h0
 ·cases h
def Kq:List Ctr:=[k49]++Kp
theorem Zdq:Zar Tryz.prog Kq:=⟨ZKn,ZLT⟩
end Go.Proofs.YtjhldefnjghcdaaGreat
namespace Go.Proofs.YtjhldefnjghcdaaGreat
set_option maxRecDepth 100000
set_option linter.unusedVariables false
def ZK3(n lo hi:Int):AFrame:=vF 60 15 [vI 0 n,vI 1 lo,vI 2 hi] [.code a60.code] [.tmp 6]
def ZPC(n lo hi:Int):List AFrame:=[(ZK3 n lo hi)]
theorem ZCm(n lo hi:Int):Zak tab 60 [AV.int .i64 n,AV.int .i64 lo,AV.int .i64 hi]=some (ZK3 n lo hi):=rfl
def ZGC(A:Ar)(K:KT)(F:FT)(n lo hi:Int):Prop:=bB (A.le lo n) (F (AV.bool (A.le n hi)) none) (F (AV.bool false) none)
theorem ZNS{A:Ar}{K:KT}{F:FT}{M:MT}{n lo hi:Int} :Zah A tab Kq 60 K F M (.run 10 (.tf (.ty (.ty (.ty (.run 4 (.fn))))) (.fy (.fy (.fy (.run 4 (.fn))))))) (ZPC n lo hi) []=ZGC A K F n lo hi:=by kernel_rfl
def ZFM(b:Bool)(e:Int):AFrame:=vF 62 7 [vB 0 b,vI 1 e] [.code a62.code] [.tmp 4]
def ZQb(b:Bool)(e:Int):List AFrame:=[(ZFM b e)]
theorem ZB4(b:Bool)(e:Int):Zak tab 62 [AV.bool b,AV.int .i64 e]=some (ZFM b e):=rfl
def ZFb(A:Ar)(K:KT)(F:FT)(b:Bool)(e:Int):Prop:=bB b (F (AV.int .i64 0) none) (F (AV.int .i64 e) none)
theorem ZNr{A:Ar}{K:KT}{F:FT}{M:MT}{b:Bool}{e:Int} :Zah A tab Kq 62 K F M (.run 9 (.tf (.run 5 (.fn)) (.run 7 (.fn)))) (ZQb b e) []=ZFb A K F b e:=by kernel_rfl
def ZEV(l:zI):AFrame:=vF 38 15 [vL 0 l] [.code a38.code] [.tmp 2]
def ZPK(l:zI):List AFrame:=[(ZEV l)]
theorem ZBg(l:zI):Zak tab 38 [AV.list (.ints .i64 l)]=some (ZEV l):=rfl
def Zj4(l:zI)(n0 n1:Int):List AFrame:=[vF 38 15 [vL 5 l,vI 6 n0,vI 7 n1] (vC ZIJ ZLn) [.tmp 2]]
def ZgQ(l:zI)(n0 n1:Int):Zaa:=[]
abbrev Zlk(l:zI)(n0 n1:Int):List AFrame×Zaa:=(Zj4 l n0 n1,ZgQ l n0 n1)
def ZIp(A:Ar)(K:KT)(F:FT)(l:zI):Prop:=K (Zlk l (A.int (A.len l)) 0)
theorem ZMC{A:Ar}{K:KT}{F:FT}{M:MT}{l:zI} :Zah A tab Kq 38 K F M (.run 14 (.hd)) (ZPK l) []=ZIp A K F l:=by kernel_rfl
def ZeS(A:Ar)(K:KT)(F:FT)(l:zI)(n0 n1:Int):Prop:=let u0:=A.nat n1;bB (A.lt n1 n0) (rB [Zac (Zac (A.le 0 n1) (Nat.blt u0 (A.len l))) true] (bB (A.not (A.eq (A.nth l u0) 0)) (F (AV.int .i64 (A.nth l u0)) none) (rB [A.inR .i64 (A.add n1 1)] (K (Zlk l n0 (A.add n1 1)))))) (F (AV.int .i64 0) none)
theorem ZlI{A:Ar}{K:KT}{F:FT}{M:MT}{l:zI}{n0 n1:Int} :Zah A tab Kq 38 K F M (.run 6 (.tf (.run 14 (.tf (.run 6 (.fn)) (.run 8 (.hd)))) (.run 6 (.fn)))) (Zj4 l n0 n1) (ZgQ l n0 n1)=ZeS A K F l n0 n1:=by kernel_rfl
def ZHq(n g t s:Int):AFrame:=vF 61 10 [vI 0 n,(1,AV.eptr (AV.agg (Row.gen [.int .i64 g, .int .i64 t, .int .i64 s])) 0)] [.code a61.code] [.tmp 3]
def ZPJ(n g t s:Int):List AFrame:=[(ZHq n g t s)]
theorem ZCu(n g t s:Int):Zak tab 61 [AV.int .i64 n,AV.eptr (AV.agg (Row.gen [.int .i64 g, .int .i64 t, .int .i64 s])) 0]=some (ZHq n g t s):=rfl
def ZE1(A:Ar)(K:KT)(F:FT)(n g t s:Int):Prop:=let u0:=A.sub (A.shl 1 g) 1;rB [A.inR .i64 u0,Zac (Zac (A.le 0 g) (Nat.blt (A.nat g) 64)) (A.inR .i64 (A.shl 1 g))] (bB (A.le 1 n) (F (AV.bool (A.le n u0)) none) (F (AV.bool false) none))
theorem ZMy{A:Ar}{K:KT}{F:FT}{M:MT}{n g t s:Int} :Zah A tab Kq 61 K F M (.run 22 (.tf (.ty (.ty (.ty (.run 9 (.fn))))) (.fy (.fy (.fy (.run 9 (.fn))))))) (ZPJ n g t s) []=ZE1 A K F n g t s:=by kernel_rfl
def ZI0(n:Int):AFrame:=vF 86 9 [vI 0 n] [.code a86.code] [.tmp 2]
def ZQy(n:Int):List AFrame:=[(ZI0 n)]
theorem ZCo(n:Int):Zak tab 86 [AV.int .i64 n]=some (ZI0 n):=rfl
def ZEM(A:Ar)(K:KT)(F:FT)(n:Int):Prop:=bB (A.lt 0 n) (F (AV.int .i64 0) none) (bB (A.lt n 0) (F (AV.int .i64 1) none) (F (AV.int .i64 (-1)) none))
theorem ZLI{A:Ar}{K:KT}{F:FT}{M:MT}{n:Int} :Zah A tab Kq 86 K F M (.run 12 (.tf (.run 5 (.fn)) (.run 6 (.tf (.run 5 (.fn)) (.run 7 (.fn)))))) (ZQy n) []=ZEM A K F n:=by kernel_rfl
def ZFV(l:zI):AFrame:=vF 16 19 [vL 0 l] [.code a16.code] [.tmp 2]
def ZQo(l:zI):List AFrame:=[(ZFV l)]
theorem ZCy(l:zI):Zak tab 16 [AV.list (.ints .i64 l)]=some (ZFV l):=rfl
def Zkv(l:zI)(n0:Int):List AFrame:=[vF 16 19 [vL 0 l,vI 3 n0] (vC ZIy ZNV) [.tmp 2]]
def ZhV(l:zI)(n0:Int):Zaa:=[]
abbrev ZlE(l:zI)(n0:Int):List AFrame×Zaa:=(Zkv l n0,ZhV l n0)
def ZCM(A:Ar)(K:KT)(F:FT)(l:zI):Prop:=bB (A.lt 600 (A.int (A.len l))) (F (AV.int .i64 8) none) (K (ZlE l 0))
theorem ZMX{A:Ar}{K:KT}{F:FT}{M:MT}{l:zI} :Zah A tab Kq 16 K F M (.run 11 (.tf (.run 5 (.fn)) (.run 9 (.hd)))) (ZQo l) []=ZCM A K F l:=by kernel_rfl
def Zeg(A:Ar)(K:KT)(F:FT)(l:zI)(n0:Int):Prop:=bB (A.lt n0 (A.int (A.len l))) (rB [Zac (Zac (A.le 0 n0) (Nat.blt (A.nat n0) (A.len l))) true] (bB (A.not (Zaf (A.nth l (A.nat n0)) (-7) 7)) (F (AV.int .i64 2) none) (rB [A.inR .i64 (A.add n0 1)] (K (ZlE l (A.add n0 1)))))) (F (AV.int .i64 0) none)
theorem ZlZ{A:Ar}{K:KT}{F:FT}{M:MT}{l:zI}{n0:Int} :Zah A tab Kq 16 K F M (.run 9 (.tf (.run 12 (.tf (.run 5 (.fn)) (.run 9 (.hd)))) (.run 6 (.fn)))) (Zkv l n0) (ZhV l n0)=Zeg A K F l n0:=by kernel_rfl
def ZIs(l:zI):AFrame:=vF 29 22 [vL 0 l] [.code a29.code] [.tmp 2]
def ZQT(l:zI):List AFrame:=[(ZIs l)]
theorem ZDG(l:zI):Zak tab 29 [AV.list (.ints .i64 l)]=some (ZIs l):=rfl
def ZkU(l:zI)(n0:Int):List AFrame:=[vF 29 22 [vL 0 l,vI 3 n0] (vC ZKo ZMV) [.tmp 2]]
def Zgj(l:zI)(n0:Int):Zaa:=[]
abbrev Zmw(l:zI)(n0:Int):List AFrame×Zaa:=(ZkU l n0,Zgj l n0)
def Zzo(A:Ar)(K:KT)(F:FT)(l:zI):Prop:=bB (A.eq (A.int (A.len l)) 0) (F (AV.int .i64 10) none) (bB (A.lt 32 (A.int (A.len l))) (F (AV.int .i64 8) none) (K (Zmw l 0)))
theorem ZNY{A:Ar}{K:KT}{F:FT}{M:MT}{l:zI} :Zah A tab Kq 29 K F M (.run 11 (.tf (.run 5 (.fn)) (.run 8 (.tf (.run 5 (.fn)) (.run 9 (.hd)))))) (ZQT l) []=Zzo A K F l:=by kernel_rfl
def ZeO(A:Ar)(K:KT)(F:FT)(l:zI)(n0:Int):Prop:=bB (A.lt n0 (A.int (A.len l))) (rB [Zac (Zac (A.le 0 n0) (Nat.blt (A.nat n0) (A.len l))) true] (bB (A.not (Zaf (A.nth l (A.nat n0)) 0 1)) (F (AV.int .i64 2) none) (rB [A.inR .i64 (A.add n0 1)] (K (Zmw l (A.add n0 1)))))) (F (AV.int .i64 0) none)
theorem Zlc{A:Ar}{K:KT}{F:FT}{M:MT}{l:zI}{n0:Int} :Zah A tab Kq 29 K F M (.run 9 (.tf (.run 12 (.tf (.run 5 (.fn)) (.run 9 (.hd)))) (.run 6 (.fn)))) (ZkU l n0) (Zgj l n0)=ZeO A K F l n0:=by kernel_rfl
def ZIA(l:zI):AFrame:=vF 15 21 [vL 0 l] [.code a15.code] [.tmp 2]
def ZQ1(l:zI):List AFrame:=[(ZIA l)]
theorem ZDN(l:zI):Zak tab 15 [AV.list (.ints .i64 l)]=some (ZIA l):=rfl
def ZkO(l:zI):List AFrame:=[vF 15 21 [vL 0 l,(3,AV.nils),vI 4 0] (vC ZD8 ZKu) [.tmp 2]]
def ZhE(l:zI):Zaa:=[]
abbrev Ztn(l:zI):List AFrame×Zaa:=(ZkO l,ZhE l)
def Zko(l:zI)(n0:Int)(l1:zI):List AFrame:=[vF 15 21 [vL 0 l,vR 3 15020,vI 4 n0] (vC ZD8 ZKu) [.tmp 2]]
def ZgI(l:zI)(n0:Int)(l1:zI):Zaa:=[vK 15020 l1]
abbrev Zmt(l:zI)(n0:Int)(l1:zI):List AFrame×Zaa:=(Zko l n0 l1,ZgI l n0 l1)
def ZFs(A:Ar)(K:KT)(F:FT)(l:zI):Prop:=K (Ztn l)
theorem ZMw{A:Ar}{K:KT}{F:FT}{M:MT}{l:zI} :Zah A tab Kq 15 K F M (.run 16 (.hd)) (ZQ1 l) []=ZFs A K F l:=by kernel_rfl
def Zgq(A:Ar)(K:KT)(F:FT)(l:zI):Prop:=bB (A.lt 0 (A.int (A.len l))) (rB [A.inR .i64 (A.add 0 1),Zac (Nat.ble (A.len [A.sub 1 (A.mul 2 (A.nth l (A.nat 0)))]) 4294967296) (Nat.blt 0 (A.len [A.sub 1 (A.mul 2 (A.nth l (A.nat 0)))])),List.all [AV.int .i64 (A.sub 1 (A.mul 2 (A.nth l (A.nat 0))))] fun x=>AV.bx x&&Nat.beq (Zad A x) 1,A.inR .i64 (A.sub 1 (A.mul 2 (A.nth l (A.nat 0)))),A.inR .i64 (A.mul 2 (A.nth l (A.nat 0))),Zac (Zac (A.le 0 0) (Nat.blt (A.nat 0) (A.len l))) true] (K (Zmt l (A.add 0 1) ([A.sub 1 (A.mul 2 (A.nth l (A.nat 0)))])))) (F (AV.nils) none)
theorem Zut{A:Ar}{K:KT}{F:FT}{M:MT}{l:zI} :Zah A tab Kq 15 K F M (.run 9 (.tf (.run 23 (.hd)) (.run 7 (.fn)))) (ZkO l) (ZhE l)=Zgq A K F l:=by kernel_rfl
def Zgw(A:Ar)(K:KT)(F:FT)(l:zI)(n0:Int)(l1:zI):Prop:=let u0:=A.nat n0;bB (A.lt n0 (A.int (A.len l))) (rB [A.inR .i64 (A.add n0 1),Nat.ble (A.len l1+A.len [A.sub 1 (A.mul 2 (A.nth l u0))]) 4294967296,List.all [AV.int .i64 (A.sub 1 (A.mul 2 (A.nth l u0)))] fun x=>AV.bx x&&Nat.beq (Zad A x) 1,A.inR .i64 (A.sub 1 (A.mul 2 (A.nth l u0))),A.inR .i64 (A.mul 2 (A.nth l u0)),Zac (Zac (A.le 0 n0) (Nat.blt u0 (A.len l))) true] (K (Zmt l (A.add n0 1) (A.app l1 [A.sub 1 (A.mul 2 (A.nth l u0))])))) (F (AV.row 0 0) (some { e:=3,sz:=1,r:=.ints .i64 l1 }))
theorem ZlP{A:Ar}{K:KT}{F:FT}{M:MT}{l:zI}{n0:Int}{l1:zI} :Zah A tab Kq 15 K F M (.run 9 (.tf (.run 23 (.hd)) (.run 7 (.fn)))) (Zko l n0 l1) (ZgI l n0 l1)=Zgw A K F l n0 l1:=by kernel_rfl
def ZPa(g t s:Int):AFrame:=vF 7 31 [(0,AV.agg (Row.gen [.int .i64 g, .int .i64 t, .int .i64 s]))] [.code a7.code] [.tmp 2]
def f7e(g t s:Int):List AFrame:=[(ZPa g t s)]
theorem ZIP(g t s:Int):Zak tab 7 [AV.agg (Row.gen [.int .i64 g, .int .i64 t, .int .i64 s])]=some (ZPa g t s):=rfl
def ZLq(A:Ar)(K:KT)(F:FT)(g t s:Int):Prop:=let u1:=A.shl 1 g;let u0:=A.sub u1 1;qB [A.not (Zaf g 1 8)] (F (AV.int .i64 2) none) (qB [A.not (Zaf t 1 u0),A.inR .i64 u0,Zac (Zac (A.le 0 g) (Nat.blt (A.nat g) 64)) (A.inR .i64 u1),!A.not (Zaf g 1 8)] (F (AV.int .i64 2) none) (rB [A.inR .i64 u0,Zac (Zac (A.le 0 g) (Nat.blt (A.nat g) 64)) (A.inR .i64 u1),!A.not (Zaf t 1 u0),A.inR .i64 u0,Zac (Zac (A.le 0 g) (Nat.blt (A.nat g) 64)) (A.inR .i64 u1),!A.not (Zaf g 1 8)] (bB (A.not (Zaf s 1 u0)) (F (AV.int .i64 2) none) (rB [A.not (A.eq 2 0)] (bB (A.eq (A.rem t 2) 0) (F (AV.int .i64 3) none) (F (AV.int .i64 0) none))))))
theorem ZQZ{A:Ar}{K:KT}{F:FT}{M:MT}{g t s:Int} :Zah A tab Kq 7 K F M (.run 7 (.alt [true,true] (.run 1 (.ty (.run 5 (.fn)))) (.alt [false,true] (.run 1 (.ty (.run 5 (.fn)))) (.alt [false,false] (.run 1 (.tf (.run 5 (.fn)) (.run 9 (.tf (.run 5 (.fn)) (.run 6 (.fn)))))) (.no))))) (f7e g t s) []=ZLq A K F g t s:=by kernel_rfl
end Go.Proofs.YtjhldefnjghcdaaGreat
namespace Go.Proofs.YtjhldefnjghcdaaGreat
section
variable {C:Ctx}(hC:C.P=Tryz.prog)
include hC
theorem Ziy(xs:zI)(hl:xs.length≤1000000):∀m k:Nat,k+m=xs.length→Ev C (Zj4 xs xs.length k) (ZgQ xs xs.length k) (ZaD 38 (.int .i64 (Zaj (xs.drop k))) none)
 |0,k,hk=>tgo hC Zdq ZlI (by
  rw[List.drop_of_length_le (by omega)]
  simp[ZeS,show ¬(k:Int)<xs.length by omega,Zaj])
 |m+1,k,hk=>by
  have ih:=Ziy xs hl m (k+1) (by omega)
  have hlt:(k:Int)<xs.length:=by omega
  have hlt2:k<xs.length:=by omega
  rw[ZdE hlt2,Zaj]
  refine tgo hC Zdq ZlI ?_
  by_cases h:xs.getD k 0=0
  ·simp[-List.getD_eq_getElem?_getD,ZeS,hlt,hlt2,h]
   exact⟨by omega,by simpa using ih⟩
  ·simp[-List.getD_eq_getElem?_getD,ZeS,hlt,hlt2,h]
theorem Zjd(xs:zI)(hl:xs.length≤1000000):∀m k:Nat,k+m=xs.length→Ev C (Zkv xs k) (ZhV xs k) (ZaD 16 (.int .i64 (ZaF (xs.drop k) (-7) 7)) none)
 |0,k,hk=>tgo hC Zdq ZlZ (by
  rw[List.drop_of_length_le (by omega)]
  simp[Zeg,show ¬(k:Int)<xs.length by omega,ZaF])
 |m+1,k,hk=>by
  have ih:=Zjd xs hl m (k+1) (by omega)
  have hlt:(k:Int)<xs.length:=by omega
  have hlt2:k<xs.length:=by omega
  rw[ZcM (-7) 7 hlt2]
  refine tgo hC Zdq ZlZ ?_
  cases h:Zaf (xs.getD k 0) (-7) 7
  ·simp[-List.getD_eq_getElem?_getD,Zeg,hlt,hlt2,h]
  ·simp[-List.getD_eq_getElem?_getD,Zeg,hlt,hlt2,h]
   exact⟨by omega,by simpa using ih⟩
theorem ZkY(xs:zI)(hl:xs.length≤1000000):∀m k:Nat,k+m=xs.length→Ev C (ZkU xs k) (Zgj xs k) (ZaD 29 (.int .i64 (ZaF (xs.drop k) 0 1)) none)
 |0,k,hk=>tgo hC Zdq Zlc (by
  rw[List.drop_of_length_le (by omega)]
  simp[ZeO,show ¬(k:Int)<xs.length by omega,ZaF])
 |m+1,k,hk=>by
  have ih:=ZkY xs hl m (k+1) (by omega)
  have hlt:(k:Int)<xs.length:=by omega
  have hlt2:k<xs.length:=by omega
  rw[ZcM 0 1 hlt2]
  refine tgo hC Zdq Zlc ?_
  cases h:Zaf (xs.getD k 0) 0 1
  ·simp[-List.getD_eq_getElem?_getD,ZeO,hlt,hlt2,h]
  ·simp[-List.getD_eq_getElem?_getD,ZeO,hlt,hlt2,h]
   exact⟨by omega,by simpa using ih⟩
theorem Zis(xs:zI)(hb:Zas xs=true)(hl:xs.length≤1000000):∀m k:Nat,k+m=xs.length→Ev C (Zko xs k ((xs.take k).map fun x=>1-2*x)) (ZgI xs k ((xs.take k).map fun x=>1-2*x)) (Zk2 15 (.list (.ints .i64 (xs.map fun x=>1-2*x))))
 |0,k,hk=>by
  rw[List.take_of_length_le (by omega)]
  refine Zfo hC Zdq ZlP ?_
  simp[Zgw,show ¬(k:Int)<xs.length by omega]
  exact⟨_, .same _, .one (.row _ rfl rfl rfl),rfl⟩
 |m+1,k,hk=>by
  have ih:=Zis xs hb hl m (k+1) (by omega)
  have hlt:(k:Int)<xs.length:=by omega
  have hlt2:k<xs.length:=by omega
  have hx:=ZbG hb k
  rw[ZpY (d:=0) hlt2,List.map_append]at ih
  refine Zfo hC Zdq ZlP ?_
  simp[-List.getD_eq_getElem?_getD,Zgw,hlt,hlt2,AV.bx,Zad]at ih⊢
  exact⟨by omega,ih⟩
end
theorem ZqK(a b c:Int):ZaK Tryz.prog 60 [.int .i64 a, .int .i64 b, .int .i64 c] (.bool (Zaf a b c)) none:=
 start (ZCm a b c) fun C hC=>tgo hC Zdq ZNS (by by_cases h:b≤a<;>simp[ZGC,h,Zaf])
theorem Zrz(b:Bool)(e:Int):ZaK Tryz.prog 62 [.bool b, .int .i64 e] (.int .i64 (Zae b e)) none:=
 start (ZB4 b e) fun C hC=>tgo hC Zdq ZNr (by cases b<;>simp[ZFb,Zae])
theorem ZtU(xs:zI)(hl:xs.length≤1000000):ZaK Tryz.prog 38 [.list (.ints .i64 xs)] (.int .i64 (Zaj xs)) none:=
 start (ZBg xs) fun C hC=>tgo hC Zdq ZMC (by
  have:=Ziy hC xs hl xs.length 0 (by omega)
  simp[ZIp]
  simpa using this)
@[irreducible] def sfF (l:zI):Int:=if 600<l.length then 8 else ZaF l (-7) 7
theorem ZwD(l:zI):ZaK Tryz.prog 16 [.list (.ints .i64 l)] (.int .i64 (sfF l)) none:=
 start (ZCy l) fun C hC=>tgo hC Zdq ZMX (by
  by_cases h:600<l.length
  ·simp[ZCM,sfF,h,show(600:Int)<l.length by omega]
  ·have:=Zjd hC l (by omega) l.length 0 (by omega)
   simp[ZCM,sfF,h,show ¬(600:Int)<l.length by omega]
   simpa using this)
@[irreducible] def mkE (l:zI):Int:=if l.length=0 then 10 else if 32<l.length then 8 else ZaF l 0 1
theorem Zv8(l:zI):ZaK Tryz.prog 29 [.list (.ints .i64 l)] (.int .i64 (mkE l)) none:=
 start (ZDG l) fun C hC=>tgo hC Zdq ZNY (by
  by_cases h0:l.length=0
  ·simp[Zzo,mkE,h0]
  ·by_cases h:32<l.length
   ·simp[Zzo,mkE,h0,h,show(32:Int)<l.length by omega]
   ·have:=ZkY hC l (by omega) l.length 0 (by omega)
    simp[Zzo,mkE,h0,h,show ¬(32:Int)<l.length by omega]
    simpa using this)
theorem Zts(l:zI)(hb:Zas l=true)(hl:l.length≤1000000):ZaK Tryz.prog 15 [.list (.ints .i64 l)] (.list (.ints .i64 (l.map fun x=>1-2*x))) Zk4:=by
 refine ZpE (ZDN l) fun C hC=>Zfo hC Zdq ZMw ?_
 have i:Ev C (ZkO l) (ZhE l) (Zk2 15 (.list (.ints .i64 (l.map fun x=>1-2*x)))):=by
  refine Zfo hC Zdq Zut ?_
  by_cases h0:l.length=0
  ·have:l=[]:=List.eq_nil_of_length_eq_zero h0
   subst this
   simp[Zgq]
   exact⟨_, .same _, .one (.nil _ rfl),rfl⟩
  ·have i0:=Zis hC l hb hl (l.length-1) 1 (by omega)
   have hx:=ZbG hb 0
   rw[ZpY (d:=0) (by omega)]at i0
   simp[-List.getD_eq_getElem?_getD,Zgq,show 0<l.length by omega,AV.bx,Zad]at i0⊢
   exact⟨by omega,i0⟩
 simp[ZFs]at i⊢
 exact i
def hdI(n:Int):Int:=if 0<n then 0 else if n<0 then 1 else -1
theorem Zve(n:Int):ZaK Tryz.prog 86 [.int .i64 n] (.int .i64 (hdI n)) none:=
 start (ZCo n) fun C hC=>tgo hC Zdq ZLI (by by_cases h:0<n<;>by_cases h2:n<0<;>simp[ZEM,hdI,h,h2])
def mxG(g:Int):Int:=2^g.toNat-1
theorem Zr8{g:Int}(h:1≤g∧g≤8):1≤mxG g∧mxG g≤255∧std.shl 1 g=mxG g+1:=by
 obtain⟨k,rfl⟩:=Int.eq_ofNat_of_zero_le (show 0≤g by omega)
 have:=(by decide:∀a:Fin 9,1≤a.val→1≤mxG (a.val:Int)∧mxG (a.val:Int)≤255∧std.shl 1 (a.val:Int)=mxG (a.val:Int)+1) ⟨k,by omega⟩
 exact this (by simp only;omega)
def rdE(g t s:Int):Int:=if Zaf g 1 8=true then(if Zaf t 1 (mxG g)=true∧Zaf s 1 (mxG g)=true then(if t.tmod 2=0 then 3 else 0)else 2)else 2
theorem Zzf(g t s:Int):ZaK Tryz.prog 7 [.agg (.gen [.int .i64 g, .int .i64 t, .int .i64 s])] (.int .i64 (rdE g t s)) none:=by
 refine start (ZIP g t s) fun C hC=>tgo hC Zdq ZQZ ?_
 cases hg:Zaf g 1 8
 ·simp[ZLq,rdE,hg]
 ·have q:=of_decide_eq_true hg
  obtain⟨m1,m2,m3⟩:=Zr8 q
  have e:mxG g+1-1=mxG g:=by omega
  simp only[ZLq,m3,Zk8,e]
  cases ht:Zaf t 1 (mxG g)
  ·simp[rdE,hg,ht];omega
  ·cases hs:Zaf s 1 (mxG g)
   ·simp[rdE,hg,ht,hs];omega
   ·by_cases h2:t.tmod 2=0<;>simp[rdE,hg,ht,hs,h2]<;>omega
theorem ZuR(n g t s:Int)(h:Zaf g 1 8=true):ZaK Tryz.prog 61 [.int .i64 n, .eptr (.agg (.gen [.int .i64 g, .int .i64 t, .int .i64 s])) 0] (.bool (Zaf n 1 (mxG g))) none:=by
 have q:=of_decide_eq_true h
 obtain⟨m1,m2,m3⟩:=Zr8 q
 have e:mxG g+1-1=mxG g:=by omega
 refine start (ZCu n g t s) fun C hC=>tgo hC Zdq ZMy ?_
 simp only[ZE1,m3,Zk8,e]
 by_cases h1:1≤n<;>simp[h1,Zaf]<;>omega
def k60s:Ctr:=⟨60,0,fun _ a=>match a with |[.int .i64 a, .int .i64 b, .int .i64 c]=>some (true, .bool (Zaf a b c),none) |_=>none⟩
theorem ZDe:k60s.OK Tryz.prog:=fun pa args r fr h=>by
 simp only[k60s]at h
 split at h
 ·cases h
  exact ZqK _ _ _
 ·cases h
def k62s:Ctr:=⟨62,0,fun _ a=>match a with |[.bool b, .int .i64 e]=>some (true, .int .i64 (Zae b e),none) |_=>none⟩
theorem ZBx:k62s.OK Tryz.prog:=fun pa args r fr h=>by
 simp only[k62s]at h
 split at h
 ·cases h
  exact Zrz _ _
 ·cases h
def k38s:Ctr:=⟨38,0,fun _ a=>match a with |[.list (.ints .i64 xs)]=>some (decide (xs.length≤1000000), .int .i64 (Zaj xs),none) |_=>none⟩
theorem ZEd:k38s.OK Tryz.prog:=fun pa args r fr h=>by
 simp only[k38s]at h
 split at h
 ·simp only[Option.some.injEq,Prod.mk.injEq,decide_eq_true_eq]at h
  obtain⟨h0,rfl,rfl⟩:=h
  exact ZtU _ h0
 ·cases h
def k16s:Ctr:=⟨16,0,fun _ a=>match a with |[.list (.ints .i64 l)]=>some (true, .int .i64 (sfF l),none) |_=>none⟩
theorem ZDQ:k16s.OK Tryz.prog:=fun pa args r fr h=>by
 simp only[k16s]at h
 split at h
 ·cases h
  exact ZwD _
 ·cases h
def k29s:Ctr:=⟨29,0,fun _ a=>match a with |[.list (.ints .i64 l)]=>some (true, .int .i64 (mkE l),none) |_=>none⟩
theorem ZBl:k29s.OK Tryz.prog:=fun pa args r fr h=>by
 simp only[k29s]at h
 split at h
 ·cases h
  exact Zv8 _
 ·cases h
def k15s:Ctr:=⟨15,0,fun _ a=>match a with |[.list (.ints .i64 l)]=>some (decide (Zas l=true∧l.length≤1000000), .list (.ints .i64 (l.map fun x=>1-2*x)),Zk4) |_=>none⟩
theorem ZCq:k15s.OK Tryz.prog:=fun pa args r fr h=>by
 simp only[k15s]at h
 split at h
 ·simp only[Option.some.injEq,Prod.mk.injEq,decide_eq_true_eq]at h
  obtain⟨h0,rfl,rfl⟩:=h
  exact Zts _ h0.1 h0.2
 ·cases h
def k86s:Ctr:=⟨86,0,fun _ a=>match a with |[.int .i64 n]=>some (true, .int .i64 (hdI n),none) |_=>none⟩
theorem ZBy:k86s.OK Tryz.prog:=fun pa args r fr h=>by
 simp only[k86s]at h
 split at h
 ·cases h
  exact Zve _
 ·cases h
def k7s:Ctr:=⟨7,0,fun _ a=>match a with |[.agg (.gen [.int .i64 g, .int .i64 t, .int .i64 s])]=>some (true, .int .i64 (rdE g t s),none) |_=>none⟩
theorem ZIC:k7s.OK Tryz.prog:=fun pa args r fr h=>by
 simp only[k7s]at h
 split at h
 ·cases h
  exact Zzf _ _ _
 ·cases h
def k61s:Ctr:=⟨61,0,fun _ a=>match a with |[.int .i64 n, .eptr (.agg (.gen [.int .i64 g, .int .i64 _, .int .i64 _])) 0]=>some (decide (Zaf g 1 8=true), .bool (Zaf n 1 (mxG g)),none) |_=>none⟩
theorem ZCf:k61s.OK Tryz.prog:=fun pa args r fr h=>by
 simp only[k61s]at h
 split at h
 ·simp only[Option.some.injEq,Prod.mk.injEq,decide_eq_true_eq]at h
  obtain⟨h0,rfl,rfl⟩:=h
  exact ZuR _ _ _ _ h0
 ·cases h
def Va:List Ctr:=[k60s,k62s,k38s,k16s,k29s,k15s,k86s,k7s,k61s]++Kq
theorem Zk9:Zar Tryz.prog Va:=⟨ZDe,⟨ZBx,⟨ZEd,⟨ZDQ,⟨ZBl,⟨ZCq,⟨ZBy,⟨ZIC,⟨ZCf,Zdq⟩⟩⟩⟩⟩⟩⟩⟩⟩
end Go.Proofs.YtjhldefnjghcdaaGreat
