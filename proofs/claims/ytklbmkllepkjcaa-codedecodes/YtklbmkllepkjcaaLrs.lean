/- The places that the syndromes determine are the places of the errors. No condition. -/
import Derived.Test.YtklbmkllepkjcaaGu3
namespace Go.Proofs.Ytklbmkllepkjcaa
theorem Zxx{x z:Nat}(hx:x<16)(hz:z<16)(h:Zar x z=1):∀n,Zar (pw x n) (pw z n)=1
 |0=>by rw[pw,pw];rfl
 |n+1=>by
  have a:=Zbm hx n
  have b:=Zbm hz n
  rw[pw,pw,Za7 b hz,ZaI a hx (Zbl hz b),←ZaI hx hz b,h,Zm8 b,Zxx hx hz h n]
theorem ZH1{z:Nat}(hz:z<16)(n:Nat):Zar z (pw z n)=pw z (n+1):=by rw[pw,Za7 hz (Zbm hz n)]
theorem ZpA{z:Nat}(hz:z<16)(a:Nat):∀(l:List Nat) (m t:Nat),t<16→evP z m t (l++[a])=evP z m t l ^^^ Zar a (Zar t (pw z (l.length+1)))
 |[],m,t,_=>by rw[List.nil_append,evP,evP,evP,List.length_nil,pw,pw,Zm8 hz]
 |b::l,m,t,ht=>by
  rw[List.cons_append,evP,evP,ZpA hz a l _ _ (Zbl ht hz),ZaI ht hz (Zbm hz _),ZH1 hz,List.length_cons]
theorem Zr2{z:Nat}(hz:z<16):∀(l:List Nat) (m t:Nat),m<16→t<16→(∀a∈l,a<16)→evP z m t l<16
 |[],_,_,h,_,_=>h
 |a::l,m,t,hm,ht,hl=>by
  rw[evP]
  exact Zr2 hz l _ _ (ZbZ hm (Zbl (hl a List.mem_cons_self) (Zbl ht hz))) (Zbl ht hz) (fun b hb=>hl b (List.mem_cons_of_mem _ hb))
theorem Zw0{x z:Nat}(hx:x<16)(hz:z<16)(h:Zar x z=1){y:Nat→Nat}(hy:El y):∀n,Zar (pw x n) (evP z 1 1 ((List.range n).map y))=pw x n ^^^ hn y x n
 |0=>by rw[pw,hn,List.range_zero,List.map_nil,evP];rfl
 |n+1=>by
  have a:=Zbm hx n
  have l:=Zr2 hz ((List.range n).map y) 1 1 (by decide) (by decide) (fun b hb=>by obtain⟨i,_,rfl⟩:=List.mem_map.1 hb;exact hy i)
  have k:=Zbm hz (n+1)
  have a1:=Zbm hx (n+1)
  rw[List.range_succ,List.map_append,List.map_cons,List.map_nil,ZpA hz (y n) _ _ _ (by decide),List.length_map,List.length_range,Zm8 k,ZxY l (Zbl (hy n) k) a1,Za7 (hy n) k,←ZaI a1 k (hy n),Zxx hx hz h,Zm8 (hy n),hn,pw,ZaI a hx l,Za7 hx l,←ZaI a l hx,Zw0 hx hz h hy n,ZcL a (Zjy hy hx n) hx,Nat.xor_assoc]
section
variable {E X:Nat→Nat}{t:Nat}{s:List Int}{D:List Nat}(hE:El E)(h0:∀k,k<t→E k≠0)(hD:D.Nodup)(hl:D.length=t)(hp:∀p∈D,p<15)
 (hs:∀m,m<s.length→s.getD m 0=((dt E (fun k=>pw (Zbe (14-D.getD k 0)) (m+1)) t:Nat):Int))
include hE h0 hD hl hp hs
theorem Zy3(hel:s.all elB=true)(h2:2*t≤s.length):poO s t=true∧Zjv s t=((List.range 15).filter fun i=>decide (i∈D)).map fun i:Nat=>(i:Int):=by
 have hX:El fun k=>Zbe (14-D.getD k 0):=fun _=>ZbD _
 have nodup:∀i j,i<t→j<t→D.getD i 0=D.getD j 0→i=j:=fun i j hi hj he=>by
  rw[List.getD_eq_getElem?_getD,List.getElem?_eq_getElem (by omega),List.getD_eq_getElem?_getD,List.getElem?_eq_getElem (by omega)]at he
  exact(List.getElem_inj hD).1 he
 have hd:∀i j,i<t→j<t→Zbe (14-D.getD i 0)=Zbe (14-D.getD j 0)→i=j:=fun i j hi hj he=>by
  have a:=hp _ (ZbC (xs:=D) (d:=0) (by omega:i<D.length))
  have b:=hp _ (ZbC (xs:=D) (d:=0) (by omega:j<D.length))
  have:=Zo7 (by omega) (by omega) he
  exact nodup i j hi hj (by omega)
 obtain⟨B,q1,q2,q3⟩:=ZFr hE hX h0 (fun k _=>ZqB _) hd hs hel h2
 have hy:El (fun j=>if j<t then B j t else 1):=fun j=>by
  show(if j<t then B j t else 1)<16
  split
  ·exact q2 j t
  ·decide
 have hc:cN B t=(List.range t).map fun j=>if j<t then B j t else 1:=by
  unfold cN
  exact List.map_congr_left fun j hj=>by rw[if_pos (List.mem_range.1 hj)]
 have root:∀i,i<15→((evP (zN i) 1 1 (cN B t)==0)=true↔WK (Zbe (14-i)) t (fun j=>if j<t then B j t else 1)=0):=fun i hi=>by
  obtain⟨z1,z2⟩:=Zvy (ZbD (14-i)) (ZqB (14-i))
  have e:=Zw0 (ZbD (14-i)) z1 z2 hy t
  have l:=Zr2 z1 ((List.range t).map fun j=>if j<t then B j t else 1) 1 1 (by decide) (by decide) (fun b hb=>by obtain⟨i,_,rfl⟩:=List.mem_map.1 hb;exact hy i)
  have w:=ZyH hy (ZbD (14-i)) t
  rw[if_neg (Nat.lt_irrefl _),Zhf (Zbm (ZbD _) _),Nat.xor_comm]at w
  rw[w,←e,hc,beq_iff_eq]
  constructor
  ·intro a
   unfold zN at a
   rw[a,ZbK (Zbm (ZbD _) _)]
  ·intro a
   rcases ZbL (Zbm (ZbD _) _) l a with a |a
   ·exact absurd a (Zzl (ZbD _) (ZqB _) _)
   ·exact a
 have mem:∀i,i<15→(WK (Zbe (14-i)) t (fun j=>if j<t then B j t else 1)=0↔i∈D):=fun i hi=>by
  constructor
  ·intro a
   by_cases hm:i∈D
   ·exact hm
   ·exfalso
    have hq:El (fun n=>if n=0 then 1 else if n-1<t then B (n-1) t else 1):=fun n=>by
     show(if n=0 then 1 else if n-1<t then B (n-1) t else 1)<16
     split
     ·decide
     ·exact hy (n-1)
    have hX':El (fun k=>if k<t then Zbe (14-D.getD k 0)else Zbe (14-i)):=fun k=>by
     show(if k<t then Zbe (14-D.getD k 0)else Zbe (14-i))<16
     split<;>exact ZbD _
    have wq:∀x,x<16→hn (fun n=>if n=0 then 1 else if n-1<t then B (n-1) t else 1) x (t+1)=WK x t (fun j=>if j<t then B j t else 1):=fun x hx=>by
     rw[Zpa hq hx,ZyH hy hx,if_neg (Nat.lt_irrefl _),Nat.xor_comm]
     rfl
    have ne:∀k,k<t→Zbe (14-D.getD k 0)≠Zbe (14-i):=fun k hk he=>by
     have b:=ZbC (xs:=D) (d:=0) (by omega:k<D.length)
     have:=Zo7 (by omega) (by omega) he
     have c:=hp _ b
     exact hm ((show i=D.getD k 0 by omega)▸b)
    have:=Zgw (t+1) _ _ hq hX' (fun k j hk hj he=>by
     by_cases h1:k<t
     ·by_cases h2:j<t
      ·rw[if_pos h1,if_pos h2]at he;exact hd k j h1 h2 he
      ·rw[if_pos h1,if_neg h2]at he;exact absurd he (ne k h1)
     ·by_cases h2:j<t
      ·rw[if_neg h1,if_pos h2]at he;exact absurd he.symm (ne j h2)
      ·omega) (fun k hk=>by
     rw[wq _ (hX' k)]
     show WK (if k<t then Zbe (14-D.getD k 0)else Zbe (14-i)) t _=0
     by_cases h1:k<t
     ·rw[if_pos h1];exact q3 k h1
     ·rw[if_neg h1];exact a) 0 (by omega)
    rw[if_pos rfl]at this
    exact absurd this (by decide)
  ·intro a
   obtain⟨k,hk,e⟩:=List.mem_iff_getElem.1 a
   have:=q3 k (by omega)
   rwa[List.getD_eq_getElem?_getD,List.getElem?_eq_getElem hk,Option.getD_some,e]at this
 have hX2:poX (cN B t) 15=((List.range 15).filter fun i=>decide (i∈D)).map fun i:Nat=>(i:Int):=by
  unfold poX
  congr 1
  refine List.filter_congr fun i hi=>?_
  have hi:=List.mem_range.1 hi
  rw[Bool.eq_iff_iff,root i hi,mem i hi,decide_eq_true_eq]
 constructor
 ·unfold poO
  rw[q1]
  refine decide_eq_true ?_
  rw[hX2,List.length_map,←hl]
  refine List.Perm.length_eq ?_
  refine(List.perm_ext_iff_of_nodup (List.nodup_range.sublist List.filter_sublist) hD).2 fun i=>?_
  rw[List.mem_filter,List.mem_range,decide_eq_true_eq]
  exact⟨fun a=>a.2,fun a=>⟨hp i a,a⟩⟩
 ·unfold Zjv
  rw[q1]
  exact hX2
end
end Go.Proofs.Ytklbmkllepkjcaa
/- The program's decoding and the reference's find the same word. No condition. -/
namespace Go.Proofs.Ytklbmkllepkjcaa
def dfL(w c:List Int):List Nat:=(List.range 15).filter fun i=>decide (w.getD i 0≠c.getD i 0)
theorem Zh4:∀xs ys:List Int,xs.length=ys.length→Zbq xs ys=(((List.range xs.length).filter fun i=>decide (xs.getD i 0≠ys.getD i 0)).length:Int)
 |[],[],_=>by simp[Zbq]
 |[],_::_,h=>by cases h
 |_::_,[],h=>by cases h
 |x::xs,y::ys,h=>by
  have ih:=Zh4 xs ys (by simpa using h)
  rw[Zbq,ih,List.length_cons,List.range_succ_eq_map,List.filter_cons,List.filter_map]
  by_cases hq:x=y
  ·simp[hq,Function.comp_def]
  ·simp[hq,Function.comp_def];omega
theorem ZiW{w c:List Int}(hw:w.length=15)(hc:c.length=15):Zbq w c=((dfL w c).length:Int):=by
 have:=Zh4 w c (by omega)
 rwa[hw]at this
theorem df_mem{w c:List Int}{i:Nat} :i∈dfL w c↔i<15∧w.getD i 0≠c.getD i 0:=by
 unfold dfL;rw[List.mem_filter,List.mem_range,decide_eq_true_eq]
theorem ZhW(w c:List Int):(dfL w c).Nodup:=List.nodup_range.sublist List.filter_sublist
theorem ZAZ{w c:List Int}{l:List Nat}(h:∀i,i<15→w.getD i 0≠c.getD i 0→i∈l):(dfL w c).length≤l.length:=
 (ZhW w c).length_le_of_subset fun i hi=>h i (df_mem.1 hi).1 (df_mem.1 hi).2
theorem ZpF{w c:List Int}(hw:Zcs w 0 15=0)(hc:Zcs c 0 15=0)(i:Nat):wfn w i=wfn c i↔w.getD i 0=c.getD i 0:=by
 have a:=of_decide_eq_true (Zot hw i)
 have b:=of_decide_eq_true (Zot hc i)
 unfold wfn;omega
theorem Zsc{h:Int}{c:List Int}(hc:c.length=15)(hi:isW h c=true){j:Nat}(hj:j<2*h.toNat):Zno (j+1) (wfn c)=0:=(ZtL hc).1 hi j hj
theorem Znm{h:Int}{w c d:List Int}(hw:okw w=true)(hc:okw c=true)(hd:okw d=true)(ic:isW h c=true)(id:isW h d=true)(dc:Zbq w c≤h)(dd:Zbq w d≤h):c=d:=by
 obtain⟨w1,w2⟩:=okw_iff.1 hw
 obtain⟨c1,c2⟩:=okw_iff.1 hc
 obtain⟨d1,d2⟩:=okw_iff.1 hd
 rw[ZiW w1 c1]at dc
 rw[ZiW w1 d1]at dd
 have hl:(dfL c d).length≤2*h.toNat:=by
  have:=ZAZ (w:=c) (c:=d) (l:=dfL w c++dfL w d) (fun i hi hne=>by
   rw[List.mem_append,df_mem,df_mem]
   by_cases q:w.getD i 0=c.getD i 0
   ·exact Or.inr ⟨hi,fun a=>hne (q.symm.trans a)⟩
   ·exact Or.inl ⟨hi,q⟩)
  rw[List.length_append]at this
  omega
 have z:=Zrt (m:=2*h.toNat) (c:=fun i=>wfn c i ^^^ wfn d i) (fun i=>ZbZ (Zds c2 i) (Zds d2 i)) (dfL c d) (fun p hp=>(df_mem.1 hp).1) (ZhW c d) hl (fun i hi hn=>by
  have:c.getD i 0=d.getD i 0:=Decidable.byContradiction fun a=>hn (df_mem.2 ⟨hi,a⟩)
  show wfn c i ^^^ wfn d i=0
  rw[(ZpF c2 d2 i).2 this,Nat.xor_self]) (fun j hj=>by
  unfold Zno
  rw[ZpU (Zds c2) (Zds d2) (ZfT _)]
  have a:=Zsc c1 ic hj
  have b:=Zsc d1 id hj
  unfold Zno at a b
  rw[a,b,Nat.xor_self])
 refine List.ext_getElem (by omega) fun i h1 h2=>?_
 have:=(ZpF c2 d2 i).1 (Zlo (z i (by omega)))
 rwa[List.getD_eq_getElem?_getD,List.getElem?_eq_getElem h1,List.getD_eq_getElem?_getD,List.getElem?_eq_getElem h2]at this
theorem ZtF{h:Int}{w e:List Int}(hg:fiG w h e=true):Zbq w (fiW h w e)≤e.length:=by
 obtain⟨g1,g2,g3,g4,g5⟩:=ZhA hg
 obtain⟨w1,w2⟩:=okw_iff.1 g1
 obtain⟨f1,f2⟩:=okw_iff.1 (Zj8 hg)
 rw[ZiW w1 f1]
 have hp:=Zka g4
 have:=ZAZ (w:=w) (c:=fiW h w e) (l:=e.map Int.toNat) (fun i hi hne=>by
  by_cases hm:(i:Int)∈e
  ·exact List.mem_map.2 ⟨_,hm,rfl⟩
  ·exfalso
   apply hne
   have hx:∀x∈e,x≠(i:Int):=fun x hx a=>hm (a▸hx)
   unfold fiW
   split
   ·rw[Zna e w i hp,if_neg hm]
   ·rw[ZwL e _ _ i hp hx,Zna e w i hp,if_neg hm])
 rw[List.length_map]at this
 omega
def dfI(w c:List Int):List Int:=(dfL w c).map fun i:Nat=>(i:Int)
theorem ZAn{h:Int}{w c:List Int}(hw:okw w=true)(hc:okw c=true)(ic:isW h c=true)(dc:Zbq w c≤h):poO (syL w (2*h.toNat)) (dfL w c).length=true∧Zjv (syL w (2*h.toNat)) (dfL w c).length=dfI w c:=by
 obtain⟨w1,w2⟩:=okw_iff.1 hw
 obtain⟨c1,c2⟩:=okw_iff.1 hc
 rw[ZiW w1 c1]at dc
 have hE:El fun k=>wfn w ((dfL w c).getD k 0) ^^^ wfn c ((dfL w c).getD k 0):=fun k=>ZbZ (Zds w2 _) (Zds c2 _)
 have hx:El fun i=>wfn w i ^^^ wfn c i:=fun k=>ZbZ (Zds w2 _) (Zds c2 _)
 have hl:=Zd7 w (2*h.toNat)
 have r:=Zy3 (s:=syL w (2*h.toNat)) (t:=(dfL w c).length) hE (fun k hk a=>by
  have m:=df_mem.1 (ZbC (xs:=dfL w c) (d:=0) hk)
  exact m.2 ((ZpF w2 c2 _).1 (Zlo a))) (ZhW w c) rfl (fun p hp=>(df_mem.1 hp).1) (fun m hm=>by
  rw[hl]at hm
  have e:(syL w (2*h.toNat)).getD m 0=syI w (m+1):=by
   unfold syL
   rw[List.getD_eq_getElem?_getD,List.getElem?_map,List.getElem?_range hm];rfl
  rw[e,ZhZ w1]
  congr 1
  have a:=Zsc c1 ic hm
  have b:=ZpU (Zds w2) (Zds c2) (ZfT (m+1)) 15
  unfold Zno at a
  rw[a,Nat.xor_zero]at b
  unfold Zno
  rw[←b,Zl5 _ (ZfT (m+1)) (dfL w c) (fun p hp=>(df_mem.1 hp).1) (ZhW w c) _ hx (fun i hi hn=>by
   have:w.getD i 0=c.getD i 0:=Decidable.byContradiction fun a=>hn (df_mem.2 ⟨hi,a⟩)
   show wfn w i ^^^ wfn c i=0
   rw[(ZpF w2 c2 i).2 this,Nat.xor_self])]
  exact ZaM _ (fun _ _=>rfl) (fun k _=>by rw[ZpB])) (Zxj w2 _) (by omega)
 refine⟨r.1,r.2.trans ?_⟩
 unfold dfI
 congr 1
 unfold dfL
 refine List.filter_congr fun i hi=>?_
 rw[Bool.eq_iff_iff,decide_eq_true_eq,decide_eq_true_eq]
 exact df_mem.trans ⟨fun a=>a.2,fun a=>⟨List.mem_range.1 hi,a⟩⟩
theorem Zr3{w c:List Int} :∀p:Nat,p<15→(p:Int)∉dfI w c→w.getD p 0=c.getD p 0:=fun p hp hn=>
 Decidable.byContradiction fun a=>hn (List.mem_map.2 ⟨p,df_mem.2 ⟨hp,a⟩,rfl⟩)
theorem Zlm{h:Int}{w:List Int}(hw:okw w=true)(hh:hfB h=true):∀(k u:Nat) (x:List Int),u+k≤h.toNat+1→deR h w k u=some x→okw x=true∧isW h x=true∧Zbq w x≤h
 |0,_,_,_,e=>by cases e
 |k+1,u,x,hk,e=>by
  have h2:=of_decide_eq_true hh
  rw[deR]at e
  split at e
  ·rename_i hc
   have hg:=Zz2 (u:=u) hw hh (by omega) hc.1
   have hv:=ZIO hc.2
   rw[hv]at e
   cases e
   have n:=ZtF hg
   have hl:(Zjv (syL w (2*h.toNat)) u).length=u:=by
    have o:=hc.1
    unfold poO at o
    unfold Zjv
    cases hq:poC (syL w (2*h.toNat)) u with
    |none=>rw[hq]at o;cases o
    |some c=>rw[hq]at o;exact of_decide_eq_true o
   refine⟨Zj8 hg,(Zod hg).symm.trans hc.2,?_⟩
   rw[hl]at n
   omega
  ·exact Zlm hw hh k (u+1) x (by omega) e
theorem ZrG{h:Int}{w c:List Int}(hw:okw w=true)(hh:hfB h=true)(hc:okw c=true)(ic:isW h c=true)(dc:Zbq w c≤h):∀(k u:Nat),u≤(dfL w c).length→(dfL w c).length<u+k→deR h w k u≠none
 |0,u,h1,h2,_=>by omega
 |k+1,u,h1,h2,e=>by
  rw[deR]at e
  split at e
  ·cases e
  ·rename_i hn
   by_cases hu:u=(dfL w c).length
   ·subst hu
    obtain⟨p1,p2⟩:=ZAn hw hc ic dc
    have h3:=of_decide_eq_true hh
    have hd:=ZiW (okw_iff.1 hw).1 (okw_iff.1 hc).1
    have hg:=Zz2 hw hh (by omega) p1
    refine hn ⟨p1,?_⟩
    rw[Zod hg,p2]
    rw[p2]at hg
    rw[ZtG hg hc ic Zr3]
    exact ic
   ·exact ZrG hw hh hc ic dc k (u+1) (by omega) (by omega) e
theorem Zs4{h:Int}{w:List Int}(hw:okw w=true)(hh:hfB h=true)(x:List Int):deO h w=some x↔okw x=true∧isW h x=true∧Zbq w x≤h:=by
 unfold deO
 constructor
 ·exact Zlm hw hh _ _ x (by omega)
 ·rintro⟨a,b,c⟩
  have h3:=of_decide_eq_true hh
  have hd:=ZiW (okw_iff.1 hw).1 (okw_iff.1 a).1
  obtain⟨y,hy⟩:=Option.ne_none_iff_exists'.1 (ZrG hw hh a b c (h.toNat+1) 0 (by omega) (by omega))
  obtain⟨y1,y2,y3⟩:=Zlm hw hh _ _ y (by omega) hy
  have:=Znm hw a y1 b y2 c y3
  subst this
  exact hy
end Go.Proofs.Ytklbmkllepkjcaa
/- The reference's decoding finds what the program's finds. No condition. -/
namespace Go.Proofs.Ytklbmkllepkjcaa
theorem ZpZ:∀(l:List Nat) (f:Nat),l.Pairwise (· < ·)→(∀i∈l,f≤i∧i<15)→(l.map fun i:Nat=>(i:Int))∈ZaD l.length f
 |[],f,_,_=>by rw[List.map_nil,List.length_nil,ZaD];exact List.mem_cons_self
 |x::l,f,hp,hb=>by
  have b:=hb x List.mem_cons_self
  have hp':=List.pairwise_cons.1 hp
  have ih:=ZpZ l (x+1) hp'.2 (fun i hi=>⟨hp'.1 i hi,(hb i (List.mem_cons_of_mem _ hi)).2⟩)
  rw[List.map_cons,List.length_cons,ZaD]
  refine List.mem_flatMap.2 ⟨x-f,List.mem_range.2 (by omega),List.mem_map.2 ⟨l.map fun i:Nat=>(i:Int),?_,?_⟩⟩
  ·rw[show f+(x-f)+1=x+1 by omega];exact ih
  ·rw[show f+(x-f)=x by omega]
theorem Zur(w c:List Int):dfI w c∈ZaD (dfL w c).length 0:=
 ZpZ _ 0 (List.pairwise_lt_range.sublist List.filter_sublist) (fun _ hi=>⟨Nat.zero_le _,(df_mem.1 hi).1⟩)
theorem ZoM{h:Int}{w:List Int} :∀ {ls:List (List Int)} {x:List Int},rd1 h w ls=some x→∃l∈ls,x=fiW h w l∧isW h x=true
 |[],_,e=>by cases e
 |l::ls,x,e=>by
  rw[rd1]at e
  split at e
  ·rename_i hq
   cases e
   exact⟨l,List.mem_cons_self,rfl,hq⟩
  ·obtain⟨a,b,c⟩:=ZoM e
   exact⟨a,List.mem_cons_of_mem _ b,c⟩
theorem ZpQ{h:Int}{w:List Int} :∀ {ls:List (List Int)},rd1 h w ls=none→∀l∈ls,isW h (fiW h w l)=false
 |[],_,l,hl=>by cases hl
 |a::ls,e,l,hl=>by
  rw[rd1]at e
  split at e
  ·cases e
  ·rename_i hq
   rcases List.mem_cons.1 hl with q |q
   ·subst q;exact Bool.eq_false_iff.2 hq
   ·exact ZpQ e l q
theorem ZlJ{h:Int}{w:List Int}(hw:okw w=true)(hh:hfB h=true):∀(k u:Nat) (x:List Int) (z:Nat),u+k≤h.toNat+1→rdR h w k u=some (x,z)→okw x=true∧isW h x=true∧Zbq w x≤z∧u≤z∧(z:Int)≤h
 |0,_,_,_,_,e=>by cases e
 |k+1,u,x,z,hk,e=>by
  have h2:=of_decide_eq_true hh
  rw[rdR]at e
  split at e
  ·rename_i y hy
   cases e
   obtain⟨l,l1,rfl,l3⟩:=ZoM hy
   have hg:=ZnN hw hh (show u≤2*h.toNat by omega) l1
   have n:=ZtF hg
   rw[(Zg7 u 0).2 l l1]at n
   exact⟨Zj8 hg,l3,n,Nat.le_refl _,by omega⟩
  ·have:=ZlJ hw hh k (u+1) x z (by omega) e
   exact⟨this.1,this.2.1,this.2.2.1,by omega,this.2.2.2.2⟩
theorem ZrB{h:Int}{w c:List Int}(hw:okw w=true)(hh:hfB h=true)(hc:okw c=true)(ic:isW h c=true)(dc:Zbq w c≤h):∀(k u:Nat),u+k≤h.toNat+1→u≤(dfL w c).length→(dfL w c).length<u+k→∃x z,rdR h w k u=some (x,z)∧z≤(dfL w c).length
 |0,u,_,h1,h2=>by omega
 |k+1,u,h0,h1,h2=>by
  have h3:=of_decide_eq_true hh
  rw[rdR]
  cases hq:rd1 h w (ZaD u 0)with
  |some x=>exact⟨x,u,rfl,h1⟩
  |none=>
   by_cases hu:u=(dfL w c).length
   ·exfalso
    subst hu
    have m:=Zur w c
    have hg:=ZnN hw hh (show (dfL w c).length≤2*h.toNat by omega) m
    have:=ZpQ hq _ m
    rw[ZtG hg hc ic Zr3,ic]at this
    cases this
   ·exact ZrB hw hh hc ic dc k (u+1) (by omega) (by omega) (by omega)
theorem ZB2{h:Int}{w:List Int}(hw:okw w=true)(hh:hfB h=true):rdO h w=(deO h w).map fun x=>(x,(Zbq w x).toNat):=by
 have h3:=of_decide_eq_true hh
 cases hd:deO h w with
 |none=>
  cases hr:rdO h w with
  |none=>rfl
  |some p=>
   obtain⟨x,z⟩:=p
   unfold rdO at hr
   have s:=ZlJ hw hh _ _ x z (by omega) hr
   rw[(Zs4 hw hh x).2 ⟨s.1,s.2.1,by omega⟩]at hd
   cases hd
 |some c=>
  obtain⟨c1,c2,c3⟩:=(Zs4 hw hh c).1 hd
  have hl:=ZiW (okw_iff.1 hw).1 (okw_iff.1 c1).1
  obtain⟨x,z,r1,r2⟩:=ZrB hw hh c1 c2 c3 (h.toNat+1) 0 (by omega) (by omega) (by omega)
  have s:=ZlJ hw hh _ _ x z (by omega) r1
  have:=Znm hw c1 s.1 c2 s.2.1 c3 (by omega)
  subst this
  have hr:rdO h w=some (c,z):=by unfold rdO;exact r1
  rw[hr]
  show some (c,z)=some (c,(Zbq w c).toNat)
  rw[show (Zbq w c).toNat=z by omega]
theorem ZAv{h:Int}{w:List Int}(hw:okw w=true)(hh:hfB h=true):(rdO h w).isSome=(deO h w).isSome:=by rw[ZB2 hw hh,Option.isSome_map]
theorem ZFl{h:Int}{w:List Int}(hw:okw w=true)(hh:hfB h=true)(hs:(deO h w).isSome=true):rdV h w=deV h w∧rdN h w=deN h w:=by
 obtain⟨x,hx⟩:=Option.isSome_iff_exists.1 hs
 have hr:=ZB2 hw hh
 rw[hx]at hr
 have d:=(ZpE w x).1
 unfold rdV rdN deV deN
 rw[hr,hx]
 exact⟨rfl,by show((Zbq w x).toNat:Int)=Zbq w x;omega⟩
theorem Ztk{h:Int}{w e:List Int}(hg:fiG w h e=true):fiO h w e=isW h (fiW h w e)∧(fiO h w e=true→fiV h w e=fiW h w e):=⟨Zod hg,ZIO⟩
end Go.Proofs.Ytklbmkllepkjcaa
/- The law of the word that is near: the walk. No condition. -/
namespace Go.Proofs.Ytklbmkllepkjcaa
section
variable {C:Ctx}(hC:C.P=Try.prog)(h:Int)(w e:List Int)(hh:hfB h=true)(hw:okw w=true)(z1:hfE h=0)(z2:elE w 15=0)(hl:(e.length:Int)≤2*h)
include hC hh hw z1 z2 hl
theorem D8a(hr:(rdO h w).isSome=false):∀(c i:Nat) (p:Int),i+c=e.length→erE h e=erP p (e.drop i)→Ev C (ZlB h w e e.length 27 p i) (Zh5 h w e e.length 27 p i) (ZaL 8 (.bool true) none):=by
 obtain⟨a1,a2⟩:=okw_iff.1 hw
 have q:=of_decide_eq_true hh
 have e0:=Zc6 a1
 have vl:=ZoA (h:=h) (e:=e) a1
 have hz:(9:Int)≠0∧(6:Int)≠0:=by decide
 intro c
 induction c with
 |zero=>
  intro i p hc he
  rw[List.drop_of_length_le (by omega),erP]at he
  have hg:fiG w h e=true:=by
   unfold fiG
   rw[hw,hh,he];rfl
  obtain⟨o1,o2⟩:=Ztk hg
  have o3:=okw_iff.1 (Zj8 hg)
  have e1:=Zc6 o3.1
  refine tgo hC ZrF ZmA ?_
  cases hI:isW h (fiW h w e)
  ·rw[hI]at o1
   simp only[ZcW,e0,o1]
   simp[-List.getD_eq_getElem?_getD,show ¬(i:Int)<(e.length:Int) by omega,z1,z2,hh,hw,hr,he,hg,hI,a1,vl]
  ·rw[hI]at o1
   have o2:=o2 o1
   simp only[ZcW,e0,o1,o2,e1]
   simp[-List.getD_eq_getElem?_getD,show ¬(i:Int)<(e.length:Int) by omega,z1,z2,hh,hw,hr,he,hg,hI,a1,o3.1]
 |succ c ih=>
  intro i p hc he
  have hi:i<e.length:=by omega
  have hi2:(i:Int)<(e.length:Int):=by omega
  rw[ZeF hi,erP]at he
  refine tgo hC ZrF ZmA ?_
  cases w2:Zao (e.getD i 0) 0 14
  ·rw[if_neg (by rw[w2];decide)]at he
   simp[-List.getD_eq_getElem?_getD,ZcW,hi,hi2,w2,Zaf,Zak,z1,z2,hh,hw,hr,he,AV.bx,Zag]
  ·rw[if_pos w2]at he
   by_cases w3:p<e.getD i 0
   ·rw[if_pos w3]at he
    have i0:=ih (i+1) (e.getD i 0) (by omega) he
    simp[-List.getD_eq_getElem?_getD,ZcW,hi,hi2,w2,w3,Zaf,Zak,AV.bx,Zag]at i0⊢
    exact⟨by omega,i0⟩
   ·rw[if_neg w3]at he
    simp[-List.getD_eq_getElem?_getD,ZcW,hi,hi2,w2,w3,Zaf,Zak,z1,z2,hh,hw,hr,he,AV.bx,Zag]
theorem D8b(hr:(rdO h w).isSome=true)(hv:(rdV h w).length=15):∀(c i:Nat) (p:Int),i+c=e.length→erE h e=erP p (e.drop i)→Ev C (Zl0 h w e e.length (rdN h w) (rdV h w) p i) (ZiO h w e e.length (rdN h w) (rdV h w) p i) (ZaL 8 (.bool true) none):=by
 obtain⟨a1,a2⟩:=okw_iff.1 hw
 have q:=of_decide_eq_true hh
 have e0:=Zc6 a1
 have e2:=Zc6 hv
 have vl:=ZoA (h:=h) (e:=e) a1
 have hz:(9:Int)≠0∧(6:Int)≠0:=by decide
 intro c
 induction c with
 |zero=>
  intro i p hc he
  rw[List.drop_of_length_le (by omega),erP]at he
  have hg:fiG w h e=true:=by
   unfold fiG
   rw[hw,hh,he];rfl
  obtain⟨o1,o2⟩:=Ztk hg
  have o3:=okw_iff.1 (Zj8 hg)
  have e1:=Zc6 o3.1
  refine tgo hC ZrF Zng ?_
  cases hI:isW h (fiW h w e)
  ·rw[hI]at o1
   simp only[ZcQ,e0,o1,e2]
   simp[-List.getD_eq_getElem?_getD,show ¬(i:Int)<(e.length:Int) by omega,z1,z2,hh,hw,hr,he,hg,hI,a1,hv,vl]
  ·rw[hI]at o1
   have o2:=o2 o1
   simp only[ZcQ,e0,o1,o2,e1,e2]
   simp[-List.getD_eq_getElem?_getD,show ¬(i:Int)<(e.length:Int) by omega,z1,z2,hh,hw,hr,he,hg,hI,a1,o3.1,hv]
 |succ c ih=>
  intro i p hc he
  have hi:i<e.length:=by omega
  have hi2:(i:Int)<(e.length:Int):=by omega
  rw[ZeF hi,erP]at he
  refine tgo hC ZrF Zng ?_
  cases w2:Zao (e.getD i 0) 0 14
  ·rw[if_neg (by rw[w2];decide)]at he
   simp only[ZcQ,e2]
   simp[-List.getD_eq_getElem?_getD,hi,hi2,w2,Zaf,Zak,z1,z2,hh,hw,hr,he,hv,AV.bx,Zag]
  ·rw[if_pos w2]at he
   by_cases w3:p<e.getD i 0
   ·rw[if_pos w3]at he
    have i0:=ih (i+1) (e.getD i 0) (by omega) he
    simp only[ZcQ,e2]
    simp[-List.getD_eq_getElem?_getD,hi,hi2,w2,w3,Zaf,Zak,AV.bx,Zag]at i0⊢
    exact⟨by omega,i0⟩
   ·rw[if_neg w3]at he
    simp only[ZcQ,e2]
    simp[-List.getD_eq_getElem?_getD,hi,hi2,w2,w3,Zaf,Zak,z1,z2,hh,hw,hr,he,hv,AV.bx,Zag]
end
theorem Zn4(h:Int)(w e:List Int):Zai Try.prog 8 [.int .i64 h, .list (.ints .i64 w), .list (.ints .i64 e)] (.bool true) none:=by
 refine start (ZEU h w e) fun C hC=>tgo hC ZrF ZJs ?_
 by_cases l1:(20:Int)<w.length
 ·simp[ZvM,l1]
 by_cases l2:(10:Int)<e.length
 ·simp[ZvM,l1,l2]
 have l3:w.length≤1000000:=by omega
 have l4:e.length≤1000000:=by omega
 by_cases z1:hfE h=0
 ·have q:=ZFj z1
  have hh:hfB h=true:=decide_eq_true q
  have w1:IntKind.i64.wrap (2*h)=2*h:=by rw[IntKind.wrap_i64];omega
  by_cases z2:elE w 15=0
  ·have hw:okw w=true:=by
    obtain⟨a,b⟩:=ZE4 z2
    exact okw_iff.2 ⟨by omega,b⟩
   obtain⟨a1,a2⟩:=okw_iff.1 hw
   have e0:=Zc6 a1
   have hn:=ZAv hw hh
   have f2:∀n,Zak [0,n]=n:=fun n=>by by_cases hn:n=0<;>simp[Zak,hn]
   have f3:Zak [0,0,Zaf (decide ((e.length:Int)≤2*h)) 8]=if(e.length:Int)≤2*h then 0 else 8:=by
    by_cases hb:(e.length:Int)≤2*h<;>simp[Zak,Zaf,hb]
   have f4:(e.length:Int)≤2*h→erE h e=erP (-1) (e.drop 0):=fun hb=>by unfold erE;rw[if_neg (by omega)];rfl
   have f5:¬(e.length:Int)≤2*h→erE h e=8:=fun hb=>by unfold erE;rw[if_pos (by omega)]
   have hz:(8:Int)≠0:=by decide
   cases hr:(deO h w).isSome
   ·rw[hr]at hn
    have dl:(deV h w).length=15:=by
     have:deO h w=none:=by simpa using hr
     unfold deV;rw[this];rfl
    by_cases hb:(e.length:Int)≤2*h
    ·have i0:=D8a hC h w e hh hw z1 z2 hb hn e.length 0 (-1) (by omega) (f4 hb)
     simp only[ZvM,e0]
     simp[-List.getD_eq_getElem?_getD,l2,l4,z1,z2,w1,hb,hr,hh,hw,a1,dl,Zak,Zaf,AV.bx,Zag]at i0⊢
     exact i0
    ·simp only[ZvM,e0]
     simp[-List.getD_eq_getElem?_getD,l2,l4,z1,z2,w1,hb,hr,hh,hw,a1,dl,hn,f5 hb,Zak,Zaf,AV.bx,Zag]
   ·rw[hr]at hn
    obtain⟨r1,r2⟩:=ZFl hw hh hr
    obtain⟨x,hx⟩:=Option.isSome_iff_exists.1 hr
    have hd:=(Zs4 hw hh x).1 hx
    have r3:deV h w=x:=by unfold deV;rw[hx];rfl
    have hv:(rdV h w).length=15:=by rw[r1,r3];exact(okw_iff.1 hd.1).1
    have e2:=Zc6 hv
    have r4:=r1.symm
    have r5:=r2.symm
    by_cases hb:(e.length:Int)≤2*h
    ·have i0:=D8b hC h w e hh hw z1 z2 hb hn hv e.length 0 (-1) (by omega) (f4 hb)
     simp only[ZvM,e0,r4,r5,e2]
     simp[-List.getD_eq_getElem?_getD,l2,l4,z1,z2,w1,hb,hr,hh,hw,a1,hv,Zak,Zaf,AV.bx,Zag]at i0⊢
     exact i0
    ·simp only[ZvM,e0,r4,r5,e2]
     simp[-List.getD_eq_getElem?_getD,l2,l4,z1,z2,w1,hb,hr,hh,hw,a1,hn,hv,f5 hb,Zak,Zaf,AV.bx,Zag]
  ·have f1:∀l,Zak (0::elE w 15::l)=elE w 15:=fun l=>by simp[Zak,z2]
   simp[-List.getD_eq_getElem?_getD,ZvM,l1,l2,l3,l4,z1,f1,z2,AV.bx,Zag]
 ·have f1:∀l,Zak (hfE h::l)=hfE h:=fun l=>by simp[Zak,z1]
  simp[-List.getD_eq_getElem?_getD,ZvM,l1,l2,l3,l4,f1,z1,AV.bx,Zag]
end Go.Proofs.Ytklbmkllepkjcaa
/- CodeDecodes: for every input it returns true, and the arguments read as they did. No condition. -/
namespace Go.Proofs.Ytklbmkllepkjcaa
open Go.ChangeShapes Go.WideShapes Go.ChangeAt Go.RowKit
theorem sh8_0:Zxg Try.prog 8 3=some [.int .i64]:=by kernel_rfl
theorem sh8_1:Zxg Try.prog 8 25=some [.ints .i64]:=by kernel_rfl
theorem sh8_2:Zxg Try.prog 8 25=some [.ints .i64]:=by kernel_rfl
set_option maxRecDepth 100000 in
theorem law8(os:Os)(started:os.Started)(H:Type)(enc:TypeId×Value→H):
 ReturnsInHanded {} Try.checked os 8 .any (Rows.codeDecodesSpec.pre6 enc Try.prog Try.f8 Rows.codeDecodesRow.domain false) (Rows.codeDecodesSpec.post enc Try.prog Try.f8 false true false false):=by
 refine returnsInHanded_of_change (C:=Try.checked) own started (by kernel_rfl) Try.func8
  (ChangeSpec.witness6 (enc:=enc) (C:=Try.checked) false ⟨#[], #[.int .i64 0, .slice none 0 0, .slice none 0 0],[]⟩ 8 (by kernel_rfl) (by kernel_rfl) (by kernel_rfl) (by kernel_rfl)) ?_
 intro W base args ds gs before hval0 hW _ _
 have hval:∀(j:Nat) t v,Try.f8.params[j]? =some t→args[j]? =some v→Value.okWide Try.prog W .any base t v:=hval0
 have hW':=hW
 obtain⟨p,q,hA0,hV,rfl,_,_⟩:=hW
 have hA:DataW.TrodAll enc Try.prog W 0 (fun _=>true) true Try.f8.params.toList args.toList ds p:=hA0
 rw[Try.params8]at hA hval
 obtain⟨v0,v1,v2,d0,d1,d2,p0,p1,p2,rfl,rfl,rfl,h0,h1,h2⟩:=trodAll_three hA
 obtain⟨rfl,rfl⟩:=trodVars_none hV
 have hlt:∀x∈p0++(p1++p2),x.block<W.heap.size:=fun x hx=>by simpa using hW'.lt x (by simpa using hx)
 obtain⟨u0,r0,c0⟩:=Zrk (L:=⟨fun _ _=>0,fun _ _=>0⟩) sh8_0 (by obtain⟨x,rfl⟩:=okWide_int Try.underlying3 (hval 0 3 v0 rfl rfl);rfl) h0
 obtain⟨hf,rfl,_⟩:=ZE2 c0
 obtain⟨u1,r1,c1⟩:=Zrk (L:=⟨fun _ _=>0,fun _ _=>0⟩) sh8_1 (by obtain⟨a,l,c,rfl⟩:=okWide_slice Try.underlying25 (hval 1 25 v1 rfl rfl);rfl) h1
 obtain⟨d,rfl,_⟩:=ZsW c1
 obtain⟨u2,r2,c2⟩:=Zrk (L:=⟨fun _ _=>0,fun _ _=>0⟩) sh8_2 (by obtain⟨a,l,c,rfl⟩:=okWide_slice Try.underlying25 (hval 2 25 v2 rfl rfl);rfl) h2
 obtain⟨c,rfl,_⟩:=ZsW c2
 refine(Zvp trivial (Zn4 hf d c) (RelL.cons ( r0) (RelL.cons ( r1) (RelL.cons ( r2) RelL.nil)))).mono fun e W' ⟨he,hb⟩=>?_
 subst he
 refine⟨_,rfl,_,_,_,[],p0++(p1++p2),[],hW',trodAll_mk1 (shut_bool Try.underlying4 true),?_,rfl,hb.frame _,fun h=>by cases h⟩
 exact trodAll_mk3 (Below.trod ZnS (by kernel_rfl) (of_decide_eq_true (by kernel_rfl)) h0 hb (fun x hx=>hlt x (List.mem_append_left _ hx))) (Below.trod ZnS (by kernel_rfl) (of_decide_eq_true (by kernel_rfl)) h1 hb (fun x hx=>hlt x (List.mem_append_right _ (List.mem_append_left _ hx)))) (Below.trod ZnS (by kernel_rfl) (of_decide_eq_true (by kernel_rfl)) h2 hb (fun x hx=>hlt x (List.mem_append_right _ (List.mem_append_right _ hx))))
theorem n8 : Try.checked.prog.funcNamed "cassegrain/cassegrainlaw05.CodeDecodes" = some 8 := by kernel_rfl
theorem j8:joinedFacts Try.checked.prog 8 Try.f8 Rows.codeDecodesSpec Rows.codeDecodesRow=true:=by kernel_rfl
theorem i8:Try.f8.isInstance Try.checked.prog Rows.codeDecodesRow.origin Rows.codeDecodesRow.targs:=of_decide_eq_true (by kernel_rfl)
theorem w8:Try.f8.isWrapper Try.checked.prog Rows.codeDecodesRow.wrapper Rows.codeDecodesRow.mainSum:=by
 unfold Func.isWrapper
 first |(rw [if_pos (by decide +kernel)];kernel_rfl) |(rw [if_neg (by decide +kernel)];exact⟨rfl,rfl⟩)
theorem CodeDecodes_holds:Rows.CodeDecodesSaid:=
 OpenClaim.holds_of_wide 8 Try.f8 rfl rfl rfl rfl rfl rfl rfl ⟨rfl,rfl,rfl,rfl,rfl⟩ rfl rfl rfl rfl rfl n8 Try.func8 j8 i8 w8 (fun os started H enc _=>law8 os started H enc)
#print axioms CodeDecodes_holds
end Go.Proofs.Ytklbmkllepkjcaa
