/- The locator polynomial: its equations have one solution, its roots are the places of the errors. No condition. -/
import Derived.Test.YtklbmkllepkjcaaGu2
namespace Go.Proofs.Ytklbmkllepkjcaa
theorem ZqY{a b c d:Nat→Nat} :∀n,(∀k,k<n→Zat (a k) (b k)=Zat (c k) (d k))→dt a b n=dt c d n
 |0,_=>rfl
 |n+1,h=>by rw[dt,dt,ZqY n (fun k hk=>h k (by omega)),h n (by omega)]
theorem ZB8{y:Nat→Nat}(hy:El y){x:Nat}(hx:x<16):∀n,dt (fun i=>pw x (n-1-i)) y n=hn y x n
 |0=>rfl
 |n+1=>by
  have ih:=ZB8 hy hx n
  rw[dt,hn,←ih,←Ze9 (fun i=>Zbh hx _) hy hx]
  have e:Zat (pw x (n+1-1-n)) (y n)=y n:=by rw[show n+1-1-n=0 by omega,pw,ZlR (hy n)]
  rw[e]
  congr 1
  refine ZaG n (fun i hi=>?_) (fun _ _=>rfl)
  rw[show n+1-1-i=n-1-i+1 by omega,pw]
theorem ZnD{q:Nat→Nat}(hq:El q){x:Nat}(hx:x<16):∀n,hn q x (n+1)=Zat (pw x n) (q 0) ^^^ hn (fun i=>q (i+1)) x n
 |0=>by rw[hn,hn,hn,Zdn hx,pw,ZlR (hq 0),Nat.zero_xor,Nat.xor_zero]
 |n+1=>by
  have hq':El fun i=>q (i+1):=fun i=>hq (i+1)
  rw[hn,ZnD hq hx n]
  show _=_ ^^^ (Zat (hn (fun i=>q (i+1)) x n) x ^^^ q (n+1))
  rw[ZcH (Zbt (Zbh hx n) (hq 0)) (ZiN hq' hx n) hx,pw,ZaD (Zbh hx n) (hq 0) hx,ZaD (Zbh hx n) hx (hq 0),Za8 (hq 0) hx,Nat.xor_assoc]
def gK(x u i:Nat):Nat:=if i<u then pw x (u-1-i)else pw x u
theorem ZtG{x:Nat}(hx:x<16)(u:Nat):El (gK x u):=fun i=>by unfold gK;split<;>exact Zbh hx _
def WK(x u:Nat)(y:Nat→Nat):Nat:=dt (gK x u) y (u+1)
theorem Zxm{y:Nat→Nat}(hy:El y){x:Nat}(hx:x<16)(u:Nat):WK x u y=hn y x u ^^^ Zat (pw x u) (y u):=by
 unfold WK
 rw[dt,←ZB8 hy hx u]
 congr 1
 ·exact ZaG u (fun i hi=>by rw[gK,if_pos hi]) (fun _ _=>rfl)
 ·rw[gK,if_neg (Nat.lt_irrefl _)]
section
variable {E X:Nat→Nat}{t:Nat}{s:List Int}(hE:El E)(hX:El X)(h0:∀k,k<t→E k≠0)(hx0:∀k,k<t→X k≠0)(hd:∀i j,i<t→j<t→X i=X j→i=j)
 (hs:∀m,m<s.length→s.getD m 0=((dt E (fun k=>pw (X k) (m+1)) t:Nat):Int))
include hE hX hs
theorem Zr6(u:Nat){y:Nat→Nat}(hy:El y){j:Nat}(hj:j+u<s.length):dt (poM s u j) y (u+1)=dt (fun k=>Zat (E k) (WK (X k) u y)) (fun k=>pw (X k) (j+1)) t:=by
 have hf:∀k,El fun i=>Zat (gK (X k) u i) (pw (X k) (j+1)):=fun k i=>Zbt (ZtG (hX k) u i) (Zbh (hX k) _)
 have e1:dt (poM s u j) y (u+1)=dt (fun i=>dt E (fun k=>Zat (gK (X k) u i) (pw (X k) (j+1))) t) y (u+1):=by
  refine ZaG _ (fun i hi=>?_) (fun _ _=>rfl)
  unfold poM
  by_cases h:i<u
  ·rw[if_pos h,hs _ (by omega),Int.toNat_natCast]
   refine ZaG t (fun _ _=>rfl) (fun k _=>?_)
   rw[gK,if_pos h,←Zrh (hX k)]
   congr 1;omega
  ·rw[if_neg h,if_pos (by omega),hs _ (by omega),Int.toNat_natCast]
   refine ZaG t (fun _ _=>rfl) (fun k _=>?_)
   rw[gK,if_neg h,←Zrh (hX k)]
   congr 1;omega
 rw[e1,Zqc hE hy hf]
 refine ZqY t fun k _=>?_
 rw[Ze9 (ZtG (hX k) u) hy (Zbh (hX k) _),←ZaD (hE k) (Zj7 (ZtG (hX k) u) hy _) (Zbh (hX k) _)]
 rfl
include h0 hx0 hd
theorem ZnL{y:Nat→Nat}(hy:El y)(h2:2*t≤s.length)(hz:∀j,j<t→dt (poM s t j) y (t+1)=0):∀k,k<t→WK (X k) t y=0:=fun k hk=>by
 have hW:El fun k=>WK (X k) t y:=fun k=>Zj7 (ZtG (hX k) t) hy _
 have:=ZDr t (fun k=>Zat (E k) (WK (X k) t y)) X 1 (fun k=>Zbt (hE k) (hW k)) hX hx0 hd (fun j hj=>by
  rw[←hz j hj,Zr6 hE hX hs t hy (by omega),Nat.add_comm 1 j]) k hk
 rcases ZbJ (hE k) (hW k) this with h |h
 ·exact absurd h (h0 k hk)
 ·exact h
theorem Zw9{y:Nat→Nat}(hy:El y)(h2:2*t≤s.length)(hz:∀j,j<t→dt (poM s t j) y (t+1)=0)(h1:y t=0):∀k,k<t→y k=0:=
 Zfy t y X hy hX hd fun k hk=>by
  have:=ZnL hE hX h0 hx0 hd hs hy h2 hz k hk
  rw[Zxm hy (hX k),h1,Zb2 (Zbh (hX k) _),Nat.xor_zero]at this
  exact this
theorem ZCA(hel:s.all elB=true)(h2:2*t≤s.length):∃B,poC s t=some (cN B t)∧ElM B∧∀k,k<t→WK (X k) t (fun j=>if j<t then B j t else 1)=0:=by
 have hA:=ZnP hel t
 have none_no:∀R,t≤R→elA R t 0 (poM s t)≠none:=fun R hR hn=>by
  obtain⟨y,y1,y2,y3,j,j1,j2⟩:=Znd (u:=t) t 0 _ hA (ZcA _ _) (by omega) hn
  exact j2 (Zw9 hE hX h0 hx0 hd hs y1 h2 (fun j hj=>y2 j (by omega)) y3 j j1)
 obtain⟨B,hB⟩:=Option.ne_none_iff_exists'.1 (none_no (s.length-t) (by omega))
 obtain⟨B',hB'⟩:=Option.ne_none_iff_exists'.1 (none_no t (Nat.le_refl _))
 obtain⟨b1,b2,b3,b4⟩:=Zey (u:=t) t 0 _ B hA (ZcA _ _) (by omega) (fun _=>Nat.zero_le _) hB
 obtain⟨c1,c2,c3,c4⟩:=Zey (u:=t) t 0 _ B' hA (ZcA _ _) (by omega) (fun _=>Nat.zero_le _) hB'
 have hy:El (fun j=>if j<t then B' j t else 1):=fun j=>by
  show(if j<t then B' j t else 1)<16
  split
  ·exact c1 j t
  ·decide
 have hW:=ZnL hE hX h0 hx0 hd hs hy h2 ((c4 _ hy).1 ((Zku c1 c2 c3 hy (if_neg (Nat.lt_irrefl _))).2 ⟨fun j hj=>if_pos hj,fun i h1 h2=>by omega⟩))
 have hZ:ZA (poM s t) (s.length-t) t (fun j=>if j<t then B' j t else 1):=fun j hj=>by
  rw[Zr6 hE hX hs t hy (by omega)]
  exact ZjZ (fun k=>Zbh (hX k) _) t (fun k hk=>by rw[hW k hk,Zb2 (hE k)])
 obtain⟨q1,q2⟩:=(Zku b1 b2 b3 hy (if_neg (Nat.lt_irrefl _))).1 ((b4 _ hy).2 hZ)
 refine⟨B,?_,b1,?_⟩
 ·unfold poC poB
  rw[hB]
  refine if_pos ?_
  unfold fiZ
  rw[List.all_eq_true]
  intro i hi
  rw[Bool.or_eq_true,decide_eq_true_eq,decide_eq_true_eq]
  by_cases h1:i<t
  ·exact Or.inl h1
  ·exact Or.inr (q2 i (by omega) (List.mem_range.1 hi))
 ·have e:(fun j=>if j<t then B j t else 1)=fun j=>if j<t then B' j t else 1:=by
   funext j
   by_cases hj:j<t
   ·have:=q1 j hj
    rw[if_pos hj]at this
    rw[if_pos hj,if_pos hj,this]
   ·rw[if_neg hj,if_neg hj]
  rw[e];exact hW
end
end Go.Proofs.Ytklbmkllepkjcaa
/- The places that the syndromes determine are the places of the errors. No condition. -/
namespace Go.Proofs.Ytklbmkllepkjcaa
theorem Zv6{x z:Nat}(hx:x<16)(hz:z<16)(h:Zat x z=1):∀n,Zat (pw x n) (pw z n)=1
 |0=>by rw[pw,pw];rfl
 |n+1=>by
  have a:=Zbh hx n
  have b:=Zbh hz n
  rw[pw,pw,Za8 b hz,ZaD a hx (Zbt hz b),←ZaD hx hz b,h,ZlR b,Zv6 hx hz h n]
theorem ZEa{z:Nat}(hz:z<16)(n:Nat):Zat z (pw z n)=pw z (n+1):=by rw[pw,Za8 hz (Zbh hz n)]
theorem ZnW{z:Nat}(hz:z<16)(a:Nat):∀(l:List Nat) (m t:Nat),t<16→evP z m t (l++[a])=evP z m t l ^^^ Zat a (Zat t (pw z (l.length+1)))
 |[],m,t,_=>by rw[List.nil_append,evP,evP,evP,List.length_nil,pw,pw,ZlR hz]
 |b::l,m,t,ht=>by
  rw[List.cons_append,evP,evP,ZnW hz a l _ _ (Zbt ht hz),ZaD ht hz (Zbh hz _),ZEa hz,List.length_cons]
theorem Zq6{z:Nat}(hz:z<16):∀(l:List Nat) (m t:Nat),m<16→t<16→(∀a∈l,a<16)→evP z m t l<16
 |[],_,_,h,_,_=>h
 |a::l,m,t,hm,ht,hl=>by
  rw[evP]
  exact Zq6 hz l _ _ (ZbW hm (Zbt (hl a List.mem_cons_self) (Zbt ht hz))) (Zbt ht hz) (fun b hb=>hl b (List.mem_cons_of_mem _ hb))
theorem Zvb{x z:Nat}(hx:x<16)(hz:z<16)(h:Zat x z=1){y:Nat→Nat}(hy:El y):∀n,Zat (pw x n) (evP z 1 1 ((List.range n).map y))=pw x n ^^^ hn y x n
 |0=>by rw[pw,hn,List.range_zero,List.map_nil,evP];rfl
 |n+1=>by
  have a:=Zbh hx n
  have l:=Zq6 hz ((List.range n).map y) 1 1 (by decide) (by decide) (fun b hb=>by obtain⟨i,_,rfl⟩:=List.mem_map.1 hb;exact hy i)
  have k:=Zbh hz (n+1)
  have a1:=Zbh hx (n+1)
  rw[List.range_succ,List.map_append,List.map_cons,List.map_nil,ZnW hz (y n) _ _ _ (by decide),List.length_map,List.length_range,ZlR k,Zxn l (Zbt (hy n) k) a1,Za8 (hy n) k,←ZaD a1 k (hy n),Zv6 hx hz h,ZlR (hy n),hn,pw,ZaD a hx l,Za8 hx l,←ZaD a l hx,Zvb hx hz h hy n,ZcH a (ZiN hy hx n) hx,Nat.xor_assoc]
section
variable {E X:Nat→Nat}{t:Nat}{s:List Int}{D:List Nat}(hE:El E)(h0:∀k,k<t→E k≠0)(hD:D.Nodup)(hl:D.length=t)(hp:∀p∈D,p<15)
 (hs:∀m,m<s.length→s.getD m 0=((dt E (fun k=>pw (Zbp (14-D.getD k 0)) (m+1)) t:Nat):Int))
include hE h0 hD hl hp hs
theorem ZwG(hel:s.all elB=true)(h2:2*t≤s.length):poO s t=true∧ZiK s t=((List.range 15).filter fun i=>decide (i∈D)).map fun i:Nat=>(i:Int):=by
 have hX:El fun k=>Zbp (14-D.getD k 0):=fun _=>ZbU _
 have nodup:∀i j,i<t→j<t→D.getD i 0=D.getD j 0→i=j:=fun i j hi hj he=>by
  rw[List.getD_eq_getElem?_getD,List.getElem?_eq_getElem (by omega),List.getD_eq_getElem?_getD,List.getElem?_eq_getElem (by omega)]at he
  exact(List.getElem_inj hD).1 he
 have hd:∀i j,i<t→j<t→Zbp (14-D.getD i 0)=Zbp (14-D.getD j 0)→i=j:=fun i j hi hj he=>by
  have a:=hp _ (ZbA (xs:=D) (d:=0) (by omega:i<D.length))
  have b:=hp _ (ZbA (xs:=D) (d:=0) (by omega:j<D.length))
  have:=ZoB (by omega) (by omega) he
  exact nodup i j hi hj (by omega)
 obtain⟨B,q1,q2,q3⟩:=ZCA hE hX h0 (fun k _=>Zpl _) hd hs hel h2
 have hy:El (fun j=>if j<t then B j t else 1):=fun j=>by
  show(if j<t then B j t else 1)<16
  split
  ·exact q2 j t
  ·decide
 have hc:cN B t=(List.range t).map fun j=>if j<t then B j t else 1:=by
  unfold cN
  exact List.map_congr_left fun j hj=>by rw[if_pos (List.mem_range.1 hj)]
 have root:∀i,i<15→((evP (zN i) 1 1 (cN B t)==0)=true↔WK (Zbp (14-i)) t (fun j=>if j<t then B j t else 1)=0):=fun i hi=>by
  obtain⟨z1,z2⟩:=ZsK (ZbU (14-i)) (Zpl (14-i))
  have e:=Zvb (ZbU (14-i)) z1 z2 hy t
  have l:=Zq6 z1 ((List.range t).map fun j=>if j<t then B j t else 1) 1 1 (by decide) (by decide) (fun b hb=>by obtain⟨i,_,rfl⟩:=List.mem_map.1 hb;exact hy i)
  have w:=Zxm hy (ZbU (14-i)) t
  rw[if_neg (Nat.lt_irrefl _),ZgK (Zbh (ZbU _) _),Nat.xor_comm]at w
  rw[w,←e,hc,beq_iff_eq]
  constructor
  ·intro a
   unfold zN at a
   rw[a,Zb2 (Zbh (ZbU _) _)]
  ·intro a
   rcases ZbJ (Zbh (ZbU _) _) l a with a |a
   ·exact absurd a (ZwB (ZbU _) (Zpl _) _)
   ·exact a
 have mem:∀i,i<15→(WK (Zbp (14-i)) t (fun j=>if j<t then B j t else 1)=0↔i∈D):=fun i hi=>by
  constructor
  ·intro a
   by_cases hm:i∈D
   ·exact hm
   ·exfalso
    have hq:El (fun n=>if n=0 then 1 else if n-1<t then B (n-1) t else 1):=fun n=>by
     show(if n=0 then 1 else if n-1<t then B (n-1) t else 1)<16
     split
     ·decide
     ·exact hy (n-1)
    have hX':El (fun k=>if k<t then Zbp (14-D.getD k 0)else Zbp (14-i)):=fun k=>by
     show(if k<t then Zbp (14-D.getD k 0)else Zbp (14-i))<16
     split<;>exact ZbU _
    have wq:∀x,x<16→hn (fun n=>if n=0 then 1 else if n-1<t then B (n-1) t else 1) x (t+1)=WK x t (fun j=>if j<t then B j t else 1):=fun x hx=>by
     rw[ZnD hq hx,Zxm hy hx,if_neg (Nat.lt_irrefl _),Nat.xor_comm]
     rfl
    have ne:∀k,k<t→Zbp (14-D.getD k 0)≠Zbp (14-i):=fun k hk he=>by
     have b:=ZbA (xs:=D) (d:=0) (by omega:k<D.length)
     have:=ZoB (by omega) (by omega) he
     have c:=hp _ b
     exact hm ((show i=D.getD k 0 by omega)▸b)
    have:=Zfy (t+1) _ _ hq hX' (fun k j hk hj he=>by
     by_cases h1:k<t
     ·by_cases h2:j<t
      ·rw[if_pos h1,if_pos h2]at he;exact hd k j h1 h2 he
      ·rw[if_pos h1,if_neg h2]at he;exact absurd he (ne k h1)
     ·by_cases h2:j<t
      ·rw[if_neg h1,if_pos h2]at he;exact absurd he.symm (ne j h2)
      ·omega) (fun k hk=>by
     rw[wq _ (hX' k)]
     show WK (if k<t then Zbp (14-D.getD k 0)else Zbp (14-i)) t _=0
     by_cases h1:k<t
     ·rw[if_pos h1];exact q3 k h1
     ·rw[if_neg h1];exact a) 0 (by omega)
    rw[if_pos rfl]at this
    exact absurd this (by decide)
  ·intro a
   obtain⟨k,hk,e⟩:=List.mem_iff_getElem.1 a
   have:=q3 k (by omega)
   rwa[List.getD_eq_getElem?_getD,List.getElem?_eq_getElem hk,Option.getD_some,e]at this
 have hX2:poX (cN B t) 15=((List.range 15).filter fun i=>decide (i∈D)).map fun i:Nat=>(i:Int):=by
  unfold poX
  congr 1
  refine List.filter_congr fun i hi=>?_
  have hi:=List.mem_range.1 hi
  rw[Bool.eq_iff_iff,root i hi,mem i hi,decide_eq_true_eq]
 constructor
 ·unfold poO
  rw[q1]
  refine decide_eq_true ?_
  rw[hX2,List.length_map,←hl]
  refine List.Perm.length_eq ?_
  refine(List.perm_ext_iff_of_nodup (List.nodup_range.sublist List.filter_sublist) hD).2 fun i=>?_
  rw[List.mem_filter,List.mem_range,decide_eq_true_eq]
  exact⟨fun a=>a.2,fun a=>⟨hp i a,a⟩⟩
 ·unfold ZiK
  rw[q1]
  exact hX2
end
end Go.Proofs.Ytklbmkllepkjcaa
/- The program's decoding and the reference's find the same word. No condition. -/
namespace Go.Proofs.Ytklbmkllepkjcaa
def dfL(w c:List Int):List Nat:=(List.range 15).filter fun i=>decide (w.getD i 0≠c.getD i 0)
theorem Zho:∀xs ys:List Int,xs.length=ys.length→Zbe xs ys=(((List.range xs.length).filter fun i=>decide (xs.getD i 0≠ys.getD i 0)).length:Int)
 |[],[],_=>by simp[Zbe]
 |[],_::_,h=>by cases h
 |_::_,[],h=>by cases h
 |x::xs,y::ys,h=>by
  have ih:=Zho xs ys (by simpa using h)
  rw[Zbe,ih,List.length_cons,List.range_succ_eq_map,List.filter_cons,List.filter_map]
  by_cases hq:x=y
  ·simp[hq,Function.comp_def]
  ·simp[hq,Function.comp_def];omega
theorem Zik{w c:List Int}(hw:w.length=15)(hc:c.length=15):Zbe w c=((dfL w c).length:Int):=by
 have:=Zho w c (by omega)
 rwa[hw]at this
theorem df_mem{w c:List Int}{i:Nat} :i∈dfL w c↔i<15∧w.getD i 0≠c.getD i 0:=by
 unfold dfL;rw[List.mem_filter,List.mem_range,decide_eq_true_eq]
theorem Zhj(w c:List Int):(dfL w c).Nodup:=List.nodup_range.sublist List.filter_sublist
theorem ZBO{w c:List Int}{l:List Nat}(h:∀i,i<15→w.getD i 0≠c.getD i 0→i∈l):(dfL w c).length≤l.length:=
 (Zhj w c).length_le_of_subset fun i hi=>h i (df_mem.1 hi).1 (df_mem.1 hi).2
theorem ZnY{w c:List Int}(hw:Zbu w 0 15=0)(hc:Zbu c 0 15=0)(i:Nat):wfn w i=wfn c i↔w.getD i 0=c.getD i 0:=by
 have a:=of_decide_eq_true (ZiH hw i)
 have b:=of_decide_eq_true (ZiH hc i)
 unfold wfn;omega
theorem Zr4{h:Int}{c:List Int}(hc:c.length=15)(hi:isW h c=true){j:Nat}(hj:j<2*h.toNat):Zl8 (j+1) (wfn c)=0:=(ZpT hc).1 hi j hj
theorem Zq1{h:Int}{w c d:List Int}(hw:okw w=true)(hc:okw c=true)(hd:okw d=true)(ic:isW h c=true)(id:isW h d=true)(dc:Zbe w c≤h)(dd:Zbe w d≤h):c=d:=by
 obtain⟨w1,w2⟩:=okw_iff.1 hw
 obtain⟨c1,c2⟩:=okw_iff.1 hc
 obtain⟨d1,d2⟩:=okw_iff.1 hd
 rw[Zik w1 c1]at dc
 rw[Zik w1 d1]at dd
 have hl:(dfL c d).length≤2*h.toNat:=by
  have:=ZBO (w:=c) (c:=d) (l:=dfL w c++dfL w d) (fun i hi hne=>by
   rw[List.mem_append,df_mem,df_mem]
   by_cases q:w.getD i 0=c.getD i 0
   ·exact Or.inr ⟨hi,fun a=>hne (q.symm.trans a)⟩
   ·exact Or.inl ⟨hi,q⟩)
  rw[List.length_append]at this
  omega
 have z:=ZqL (m:=2*h.toNat) (c:=fun i=>wfn c i ^^^ wfn d i) (fun i=>ZbW (ZcC c2 i) (ZcC d2 i)) (dfL c d) (fun p hp=>(df_mem.1 hp).1) (Zhj c d) hl (fun i hi hn=>by
  have:c.getD i 0=d.getD i 0:=Decidable.byContradiction fun a=>hn (df_mem.2 ⟨hi,a⟩)
  show wfn c i ^^^ wfn d i=0
  rw[(ZnY c2 d2 i).2 this,Nat.xor_self]) (fun j hj=>by
  unfold Zl8
  rw[Zol (ZcC c2) (ZcC d2) (ZfV _)]
  have a:=Zr4 c1 ic hj
  have b:=Zr4 d1 id hj
  unfold Zl8 at a b
  rw[a,b,Nat.xor_self])
 refine List.ext_getElem (by omega) fun i h1 h2=>?_
 have:=(ZnY c2 d2 i).1 (Zka (z i (by omega)))
 rwa[List.getD_eq_getElem?_getD,List.getElem?_eq_getElem h1,List.getD_eq_getElem?_getD,List.getElem?_eq_getElem h2]at this
theorem ZyE{h:Int}{w e:List Int}(hg:fiG w h e=true):Zbe w (fiW h w e)≤e.length:=by
 obtain⟨g1,g2,g3,g4,g5⟩:=Zer hg
 obtain⟨w1,w2⟩:=okw_iff.1 g1
 obtain⟨f1,f2⟩:=okw_iff.1 (ZqS hg)
 rw[Zik w1 f1]
 have hp:=Zif g4
 have:=ZBO (w:=w) (c:=fiW h w e) (l:=e.map Int.toNat) (fun i hi hne=>by
  by_cases hm:(i:Int)∈e
  ·exact List.mem_map.2 ⟨_,hm,rfl⟩
  ·exfalso
   apply hne
   have hx:∀x∈e,x≠(i:Int):=fun x hx a=>hm (a▸hx)
   unfold fiW
   split
   ·rw[ZiI e w i hp,if_neg hm]
   ·rw[ZrF e _ _ i hp hx,ZiI e w i hp,if_neg hm])
 rw[List.length_map]at this
 omega
def dfI(w c:List Int):List Int:=(dfL w c).map fun i:Nat=>(i:Int)
theorem Zx5{h:Int}{w c:List Int}(hw:okw w=true)(hc:okw c=true)(ic:isW h c=true)(dc:Zbe w c≤h):poO (syL w (2*h.toNat)) (dfL w c).length=true∧ZiK (syL w (2*h.toNat)) (dfL w c).length=dfI w c:=by
 obtain⟨w1,w2⟩:=okw_iff.1 hw
 obtain⟨c1,c2⟩:=okw_iff.1 hc
 rw[Zik w1 c1]at dc
 have hE:El fun k=>wfn w ((dfL w c).getD k 0) ^^^ wfn c ((dfL w c).getD k 0):=fun k=>ZbW (ZcC w2 _) (ZcC c2 _)
 have hx:El fun i=>wfn w i ^^^ wfn c i:=fun k=>ZbW (ZcC w2 _) (ZcC c2 _)
 have hl:=ZeA w (2*h.toNat)
 have r:=ZwG (s:=syL w (2*h.toNat)) (t:=(dfL w c).length) hE (fun k hk a=>by
  have m:=df_mem.1 (ZbA (xs:=dfL w c) (d:=0) hk)
  exact m.2 ((ZnY w2 c2 _).1 (Zka a))) (Zhj w c) rfl (fun p hp=>(df_mem.1 hp).1) (fun m hm=>by
  rw[hl]at hm
  have e:(syL w (2*h.toNat)).getD m 0=syI w (m+1):=by
   unfold syL
   rw[List.getD_eq_getElem?_getD,List.getElem?_map,List.getElem?_range hm];rfl
  rw[e,Zhe w1]
  congr 1
  have a:=Zr4 c1 ic hm
  have b:=Zol (ZcC w2) (ZcC c2) (ZfV (m+1)) 15
  unfold Zl8 at a
  rw[a,Nat.xor_zero]at b
  unfold Zl8
  rw[←b,ZlA _ (ZfV (m+1)) (dfL w c) (fun p hp=>(df_mem.1 hp).1) (Zhj w c) _ hx (fun i hi hn=>by
   have:w.getD i 0=c.getD i 0:=Decidable.byContradiction fun a=>hn (df_mem.2 ⟨hi,a⟩)
   show wfn w i ^^^ wfn c i=0
   rw[(ZnY w2 c2 i).2 this,Nat.xor_self])]
  exact ZaG _ (fun _ _=>rfl) (fun k _=>by rw[ZoI])) (Zvg w2 _) (by omega)
 refine⟨r.1,r.2.trans ?_⟩
 unfold dfI
 congr 1
 unfold dfL
 refine List.filter_congr fun i hi=>?_
 rw[Bool.eq_iff_iff,decide_eq_true_eq,decide_eq_true_eq]
 exact df_mem.trans ⟨fun a=>a.2,fun a=>⟨List.mem_range.1 hi,a⟩⟩
theorem Zyf{w c:List Int} :∀p:Nat,p<15→(p:Int)∉dfI w c→w.getD p 0=c.getD p 0:=fun p hp hn=>
 Decidable.byContradiction fun a=>hn (List.mem_map.2 ⟨p,df_mem.2 ⟨hp,a⟩,rfl⟩)
theorem Zkl{h:Int}{w:List Int}(hw:okw w=true)(hh:hfB h=true):∀(k u:Nat) (x:List Int),u+k≤h.toNat+1→deR h w k u=some x→okw x=true∧isW h x=true∧Zbe w x≤h
 |0,_,_,_,e=>by cases e
 |k+1,u,x,hk,e=>by
  have h2:=of_decide_eq_true hh
  rw[deR]at e
  split at e
  ·rename_i hc
   have hg:=Zx2 (u:=u) hw hh (by omega) hc.1
   have hv:=ZFk hc.2
   rw[hv]at e
   cases e
   have n:=ZyE hg
   have hl:(ZiK (syL w (2*h.toNat)) u).length=u:=by
    have o:=hc.1
    unfold poO at o
    unfold ZiK
    cases hq:poC (syL w (2*h.toNat)) u with
    |none=>rw[hq]at o;cases o
    |some c=>rw[hq]at o;exact of_decide_eq_true o
   refine⟨ZqS hg,(ZhM hg).symm.trans hc.2,?_⟩
   rw[hl]at n
   omega
  ·exact Zkl hw hh k (u+1) x (by omega) e
theorem Zrj{h:Int}{w c:List Int}(hw:okw w=true)(hh:hfB h=true)(hc:okw c=true)(ic:isW h c=true)(dc:Zbe w c≤h):∀(k u:Nat),u≤(dfL w c).length→(dfL w c).length<u+k→deR h w k u≠none
 |0,u,h1,h2,_=>by omega
 |k+1,u,h1,h2,e=>by
  rw[deR]at e
  split at e
  ·cases e
  ·rename_i hn
   by_cases hu:u=(dfL w c).length
   ·subst hu
    obtain⟨p1,p2⟩:=Zx5 hw hc ic dc
    have h3:=of_decide_eq_true hh
    have hd:=Zik (okw_iff.1 hw).1 (okw_iff.1 hc).1
    have hg:=Zx2 hw hh (by omega) p1
    refine hn ⟨p1,?_⟩
    rw[ZhM hg,p2]
    rw[p2]at hg
    rw[Znk hg hc ic Zyf]
    exact ic
   ·exact Zrj hw hh hc ic dc k (u+1) (by omega) (by omega) e
theorem Zvs{h:Int}{w:List Int}(hw:okw w=true)(hh:hfB h=true)(x:List Int):deO h w=some x↔okw x=true∧isW h x=true∧Zbe w x≤h:=by
 unfold deO
 constructor
 ·exact Zkl hw hh _ _ x (by omega)
 ·rintro⟨a,b,c⟩
  have h3:=of_decide_eq_true hh
  have hd:=Zik (okw_iff.1 hw).1 (okw_iff.1 a).1
  obtain⟨y,hy⟩:=Option.ne_none_iff_exists'.1 (Zrj hw hh a b c (h.toNat+1) 0 (by omega) (by omega))
  obtain⟨y1,y2,y3⟩:=Zkl hw hh _ _ y (by omega) hy
  have:=Zq1 hw a y1 b y2 c y3
  subst this
  exact hy
end Go.Proofs.Ytklbmkllepkjcaa
/- The reference's decoding finds what the program's finds. No condition. -/
namespace Go.Proofs.Ytklbmkllepkjcaa
theorem Znv:∀(l:List Nat) (f:Nat),l.Pairwise (· < ·)→(∀i∈l,f≤i∧i<15)→(l.map fun i:Nat=>(i:Int))∈ZaQ l.length f
 |[],f,_,_=>by rw[List.map_nil,List.length_nil,ZaQ];exact List.mem_cons_self
 |x::l,f,hp,hb=>by
  have b:=hb x List.mem_cons_self
  have hp':=List.pairwise_cons.1 hp
  have ih:=Znv l (x+1) hp'.2 (fun i hi=>⟨hp'.1 i hi,(hb i (List.mem_cons_of_mem _ hi)).2⟩)
  rw[List.map_cons,List.length_cons,ZaQ]
  refine List.mem_flatMap.2 ⟨x-f,List.mem_range.2 (by omega),List.mem_map.2 ⟨l.map fun i:Nat=>(i:Int),?_,?_⟩⟩
  ·rw[show f+(x-f)+1=x+1 by omega];exact ih
  ·rw[show f+(x-f)=x by omega]
end Go.Proofs.Ytklbmkllepkjcaa
/- The encoded word: a word of the code, the data in front. No condition. -/
namespace Go.Proofs.Ytklbmkllepkjcaa
theorem Zz3{h:Int}{w e:List Int}(hp:Zzg e){i:Nat}(hm:(i:Int)∉e):(fiW h w e).getD i 0=w.getD i 0:=by
 have hx:∀x∈e,x≠(i:Int):=fun x hx a=>hm (a▸hx)
 unfold fiW
 split
 ·rw[ZiI e w i hp,if_neg hm]
 ·rw[ZrF e _ _ i hp hx,ZiI e w i hp,if_neg hm]
theorem ZqI{h:Int}{d:List Int}(g:daB h d=true):okw (enW h d)=true∧isW h (enW h d)=true:=by
 have hg:=Zns g
 refine⟨ZqS hg,?_⟩
 have:=ZhM hg
 rw[(ZvC g).2]at this
 exact this.symm
theorem ZqF{h:Int}{w c:List Int}(hw:okw w=true)(hh:hfB h=true)(hc:okw c=true)(ic:isW h c=true)(dc:Zbe w c≤h):(deO h w).isSome=true∧deV h w=c:=by
 have:=(Zvs hw hh c).2 ⟨hc,ic,dc⟩
 unfold deV
 rw[this]
 exact⟨rfl,rfl⟩
theorem ZwN{h:Int}{w:List Int}(hw:okw w=true)(hh:hfB h=true)(hs:(deO h w).isSome=true):okw (deV h w)=true∧isW h (deV h w)=true∧deN h w=Zbe w (deV h w)∧deN h w≤h:=by
 obtain⟨x,hx⟩:=Option.isSome_iff_exists.1 hs
 obtain⟨a,b,c⟩:=(Zvs hw hh x).1 hx
 unfold deV deN
 rw[hx]
 exact⟨a,b,rfl,c⟩
theorem Zln:∀a b:List Int,Zbe a b=Zbe b a
 |[],[]=>rfl
 |[],_::_=>rfl
 |_::_,[]=>rfl
 |x::a,y::b=>by
  rw[Zbe,Zbe,Zln a b]
  by_cases h:x=y
  ·rw[if_pos h,if_pos h.symm]
  ·rw[if_neg h,if_neg (fun q=>h q.symm)]
end Go.Proofs.Ytklbmkllepkjcaa
/- The law of the sent word: the walk. No condition. -/
namespace Go.Proofs.Ytklbmkllepkjcaa
section
variable {C:Ctx}(hC:C.P=Try.prog)(h:Int)(l0 l2 l3:List Int)(k0:okw l0=true)(k2:okw l2=true)(iw:isW h l0=true)(hg:fiG l2 h l3=true)(ha:∀p:Nat,p<15→(p:Int)∉l3→l2.getD p 0=l0.getD p 0)
include hC k0 k2 iw hg ha
theorem ZHK(n5:Int)(b6:Bool)(n7:Int)(b8:Bool)(n9 n10:Int)(b11:Bool):∀(c i:Nat) (n12:Int),i+c=l3.length→(∀k,i≤k→k<l3.length→n12<l3.getD k 0)→Ev C (Zke h l0 l2 l3 l3.length n5 b6 n7 b8 n9 n10 b11 n12 i) (ZhS h l0 l2 l3 l3.length n5 b6 n7 b8 n9 n10 b11 n12 i) (ZaZ 9 (.bool true) none):=by
 obtain⟨a1,a2⟩:=okw_iff.1 k0
 obtain⟨c1,c2⟩:=okw_iff.1 k2
 obtain⟨g1,g2,g3,g4,g5⟩:=Zer hg
 have hu:=Znk hg k0 iw ha
 have ho:fiO h l2 l3=true:=by rw[ZhM hg,hu];exact iw
 have hv:fiV h l2 l3=l0:=(ZFk ho).trans hu
 have e0:=Zby a1
 have e2:=Zby c1
 intro c
 induction c with
 |zero=>
  intro i n12 hc hn
  refine tgo hC Zkz ZlB ?_
  simp only[Zh4,e2,ho,hv,e0]
  simp[-List.getD_eq_getElem?_getD,show ¬(i:Int)<(l3.length:Int) by omega,hg,a1,c1]
 |succ c ih=>
  intro i n12 hc hn
  have hi:i<l3.length:=by omega
  have w1:=g4 i hi
  have i0:=ih (i+1) (l3.getD i 0) (by omega) (fun k h1 h2=>Zgn g5 i k (by omega) h2)
  have w2:Zaq (l3.getD i 0) 0 14=true:=decide_eq_true w1
  have w3:=hn i (Nat.le_refl _) hi
  refine tgo hC Zkz ZlB ?_
  simp[-List.getD_eq_getElem?_getD,Zh4,show(i:Int)<(l3.length:Int) by omega,hi,w2,w3,Zaj,Zar,AV.bx,Zaf]at i0⊢
  exact⟨by omega,i0⟩
theorem ZHr(l14:List Int)(n15 n17:Int)(b18:Bool)(n19 n20:Int)(b21:Bool):∀(c i:Nat) (n12:Int),i+c=l3.length→(∀k,i≤k→k<l3.length→n12<l3.getD k 0)→Ev C (Zkd h l0 l2 l3 l14 n15 l3.length n17 b18 n19 n20 b21 n12 i) (ZhY h l0 l2 l3 l14 n15 l3.length n17 b18 n19 n20 b21 n12 i) (ZaZ 9 (.bool true) none):=by
 obtain⟨a1,a2⟩:=okw_iff.1 k0
 obtain⟨c1,c2⟩:=okw_iff.1 k2
 obtain⟨g1,g2,g3,g4,g5⟩:=Zer hg
 have hu:=Znk hg k0 iw ha
 have ho:fiO h l2 l3=true:=by rw[ZhM hg,hu];exact iw
 have hv:fiV h l2 l3=l0:=(ZFk ho).trans hu
 have e0:=Zby a1
 have e2:=Zby c1
 intro c
 induction c with
 |zero=>
  intro i n12 hc hn
  refine tgo hC Zkz Zlw ?_
  simp only[Zih,e2,ho,hv,e0]
  simp[-List.getD_eq_getElem?_getD,show ¬(i:Int)<(l3.length:Int) by omega,hg,a1,c1]
 |succ c ih=>
  intro i n12 hc hn
  have hi:i<l3.length:=by omega
  have w1:=g4 i hi
  have i0:=ih (i+1) (l3.getD i 0) (by omega) (fun k h1 h2=>Zgn g5 i k (by omega) h2)
  have w2:Zaq (l3.getD i 0) 0 14=true:=decide_eq_true w1
  have w3:=hn i (Nat.le_refl _) hi
  refine tgo hC Zkz Zlw ?_
  simp[-List.getD_eq_getElem?_getD,Zih,show(i:Int)<(l3.length:Int) by omega,hi,w2,w3,Zaj,Zar,AV.bx,Zaf]at i0⊢
  exact⟨by omega,i0⟩
end
theorem Zxh{h:Int}(hh:hfB h=true):hfE h=0:=by
 have:=of_decide_eq_true hh
 unfold hfE Zaj
 rw[if_pos]
 exact decide_eq_true (by omega)
theorem ZwQ{w:List Int}(hw:okw w=true):elE w 15=0:=by
 obtain⟨a,b⟩:=okw_iff.1 hw
 simp[elE,Zaj,a,b,Zar]
theorem ZG3{C:Ctx}(hC:C.P=Try.prog)(h:Int)(l0 l2 l3:List Int)(k0:okw l0=true)(k2:okw l2=true)(iw:isW h l0=true)(hh:hfB h=true)(h3:erP (-1) l3=0)(ha:∀p:Nat,p<15→(p:Int)∉l3→l2.getD p 0=l0.getD p 0)(l14:List Int)(hz:∀i,i<l14.length→l14.getD i 0=0)(hl:l14.length≤100)(hl3:l3.length≤100):∀(c i:Nat),i+c=l14.length→Ev C (Zms h l0 l2 l3 l14 i) (ZkG h l0 l2 l3 l14 i) (ZaZ 9 (.bool true) none):=by
 have q:=of_decide_eq_true hh
 obtain⟨c1,c2⟩:=okw_iff.1 k2
 have w1:IntKind.i64.wrap (2*h)=2*h:=by rw[IntKind.wrap_i64];omega
 have z1:=Zxh hh
 have z2:=ZwQ k2
 intro c
 induction c with
 |zero=>
  intro i hc
  refine tgo hC Zkz Zoh ?_
  by_cases hb:2*h<(l3.length:Int)
  ·simp[-List.getD_eq_getElem?_getD,Zhk,show ¬(i:Int)<(l14.length:Int) by omega,w1,hb]
   omega
  ·have hg:fiG l2 h l3=true:=by
    unfold fiG
    rw[k2,hh]
    have:erE h l3=0:=by
     unfold erE
     rw[if_neg (by omega)]
     exact h3
    simp[this]
   have i0:=ZHr hC h l0 l2 l3 k0 k2 iw hg ha l14 i l14.length (decide ((i:Int)<l14.length)) l3.length (2*h) (decide (2*h<(l3.length:Int))) l3.length 0 (-1) (by omega) (fun k _ hk=>ZnA h3 k hk)
   simp[-List.getD_eq_getElem?_getD,Zhk,show ¬(i:Int)<(l14.length:Int) by omega,w1,hb,z1,z2,show(l3.length:Int)≤2*h by omega,Zaj,Zar,AV.bx,Zaf,c1]at i0⊢
   exact⟨by omega,by omega,i0⟩
 |succ c ih=>
  intro i hc
  have i0:=ih (i+1) (by omega)
  have e:=hz i (by omega)
  refine tgo hC Zkz Zoh ?_
  simp[-List.getD_eq_getElem?_getD,Zhk,show(i:Int)<(l14.length:Int) by omega,show i<l14.length by omega,e]at i0⊢
  exact⟨by omega,i0⟩
end Go.Proofs.Ytklbmkllepkjcaa
/- A word that is changed, and where. No condition. -/
namespace Go.Proofs.Ytklbmkllepkjcaa
def ZkL(l c:List Int)(n:Nat):List Int:=(List.range n).map fun i=>(((l.getD i 0).toNat ^^^ (c.getD i 0).toNat:Nat):Int)
def chL(c:List Int)(n:Nat):List Int:=((List.range n).filter fun i=>decide (c.getD i 0≠0)).map fun i:Nat=>(i:Int)
theorem Zhc(l c:List Int)(n:Nat):(ZkL l c n).length=n:=by simp[ZkL]
theorem ZrZ(l c:List Int)(n:Nat):ZkL l c (n+1)=ZkL l c n++[(((l.getD n 0).toNat ^^^ (c.getD n 0).toNat:Nat):Int)]:=by unfold ZkL;rw[List.range_succ,List.map_append];rfl
theorem ZsD(c:List Int)(n:Nat):chL c (n+1)=if c.getD n 0≠0 then chL c n++[(n:Int)]else chL c n:=by
 unfold chL
 rw[List.range_succ,List.filter_append,List.map_append]
 by_cases h:c.getD n 0=0
 ·simp[-List.getD_eq_getElem?_getD,h]
 ·simp[-List.getD_eq_getElem?_getD,h]
theorem ZrL(c:List Int)(n:Nat):(chL c n).length≤n:=by
 unfold chL
 rw[List.length_map]
 exact Nat.le_trans (List.length_filter_le _ _) (by rw[List.length_range];exact Nat.le_refl _)
theorem Znw(l c:List Int){n i:Nat}(hi:i<n):(ZkL l c n).getD i 0=(((l.getD i 0).toNat ^^^ (c.getD i 0).toNat:Nat):Int):=by
 unfold ZkL
 rw[List.getD_eq_getElem?_getD,List.getElem?_map,List.getElem?_range hi];rfl
theorem Zw7{l c:List Int}(hl:Zbu l 0 15=0)(hc:Zbu c 0 15=0):okw (ZkL l c 15)=true:=by
 refine okw_iff.2 ⟨Zhc l c 15,ZmA fun j hj=>?_⟩
 rw[Zhc]at hj
 rw[Znw l c hj]
 have:=ZbW (ZcC hl j) (ZcC hc j)
 unfold wfn at this
 exact decide_eq_true (by omega)
theorem Zow{l c:List Int}(hl:Zbu l 0 15=0)(hc:Zbu c 0 15=0):∀p:Nat,p<15→((ZkL l c 15).getD p 0=l.getD p 0↔c.getD p 0=0):=fun p hp=>by
 have a:=of_decide_eq_true (ZiH hl p)
 have b:=of_decide_eq_true (ZiH hc p)
 rw[Znw l c hp]
 constructor
 ·intro h
  have e:(l.getD p 0).toNat ^^^ (c.getD p 0).toNat=(l.getD p 0).toNat:=by omega
  have e2:(l.getD p 0).toNat ^^^ ((l.getD p 0).toNat ^^^ (c.getD p 0).toNat)=0:=by rw[e,Nat.xor_self]
  rw[←Nat.xor_assoc,Nat.xor_self,Nat.zero_xor]at e2
  omega
 ·intro h
  rw[h]
  show((((l.getD p 0).toNat ^^^ 0:Nat)):Int)=_
  rw[Nat.xor_zero];omega
theorem Zp0{l c:List Int}(h15:l.length=15)(hl:Zbu l 0 15=0)(hc:Zbu c 0 15=0):Zbe (ZkL l c 15) l=((chL c 15).length:Int):=by
 rw[Zik (Zhc l c 15) h15]
 unfold dfL chL
 rw[List.length_map]
 congr 2
 refine List.filter_congr fun i hi=>?_
 rw[Bool.eq_iff_iff,decide_eq_true_eq,decide_eq_true_eq]
 exact not_congr (Zow hl hc i (List.mem_range.1 hi))
theorem ZCl(c:List Int):erP (-1) (chL c 15)=0:=by
 have m:=Znv ((List.range 15).filter fun i=>decide (c.getD i 0≠0)) 0 (List.pairwise_lt_range.sublist List.filter_sublist) (fun _ hi=>⟨Nat.zero_le _,List.mem_range.1 (List.mem_filter.1 hi).1⟩)
 exact Zqs _ 0 _ m (-1) (by decide)
theorem ZwK{l c:List Int}(hl:Zbu l 0 15=0)(hc:Zbu c 0 15=0):∀p:Nat,p<15→(p:Int)∉chL c 15→(ZkL l c 15).getD p 0=l.getD p 0:=fun p hp hn=>
 (Zow hl hc p hp).2 (Decidable.byContradiction fun a=>hn (List.mem_map.2 ⟨p,List.mem_filter.2 ⟨List.mem_range.2 hp,decide_eq_true a⟩,rfl⟩))
end Go.Proofs.Ytklbmkllepkjcaa
/- The law of the sent word: its first loop. No condition. -/
namespace Go.Proofs.Ytklbmkllepkjcaa
theorem ZER{C:Ctx}(hC:C.P=Try.prog)(h:Int)(c l0:List Int)(k0:okw l0=true)(kc:c.length=15)(rc:Zbu c 0 15=0)
 (he:Ev C (ZiE h c l0 ((15:Nat):Int) (ZkL l0 c 15) (chL c 15)) (Zfi h c l0 ((15:Nat):Int) (ZkL l0 c 15) (chL c 15)) (ZaZ 9 (.bool true) none)):
 ∀(d n:Nat),n+d=15→Ev C (ZiE h c l0 n (ZkL l0 c n) (chL c n)) (Zfi h c l0 n (ZkL l0 c n) (chL c n)) (ZaZ 9 (.bool true) none):=by
 obtain⟨a1,a2⟩:=okw_iff.1 k0
 have e0:=Zby a1
 intro d
 induction d with
 |zero=>intro n hn;have:n=15:=by omega
        subst this;exact he
 |succ d ih=>
  intro n hn
  have i0:=ih (n+1) (by omega)
  have b0:=of_decide_eq_true (ZiH a2 n)
  have bc:=of_decide_eq_true (ZiH rc n)
  have hx:std.bits .xor .i64 (l0.getD n 0) (c.getD n 0)=(((l0.getD n 0).toNat ^^^ (c.getD n 0).toNat:Nat):Int):=by
   rw[←Zc1 (r:=(l0.getD n 0).toNat) (k:=(c.getD n 0).toNat) (by omega) (by omega)]
   congr 1<;>omega
  have q1:=Zhc l0 c n
  have q2:=ZrL c n
  rw[ZrZ,ZsD]at i0
  refine tgo hC Zkz Zn7 ?_
  by_cases hz:c.getD n 0=0
  ·rw[if_neg (by simp[-List.getD_eq_getElem?_getD,hz])]at i0
   simp[-List.getD_eq_getElem?_getD,Zc0,a1,kc,e0,show(n:Int)<15 by omega,show n<15 by omega,hx,q1,hz,AV.bx,Zaf]at i0 hx⊢
   simp[-List.getD_eq_getElem?_getD,hx]
   exact⟨by omega,by omega,i0⟩
  ·rw[if_pos hz]at i0
   simp[-List.getD_eq_getElem?_getD,Zc0,a1,kc,e0,show(n:Int)<15 by omega,show n<15 by omega,hx,q1,hz,AV.bx,Zaf]at i0⊢
   exact⟨by omega,by omega,i0⟩
theorem ZuL{h:Int}{x:List Int}(hx:okw x=true)(hh:hfB h=true)(ix:isW h x=true):Zpp h x=0∧ZvF h x=syL x (2*h.toNat)∧(syL x (2*h.toNat)).length=2*h.toNat∧∀i,i<(syL x (2*h.toNat)).length→(syL x (2*h.toNat)).getD i 0=0:=by
 have e:Zpp h x=0:=by
  have a:=Zxh hh
  have b:=ZwQ hx
  unfold Zpp
  simp[a,b,Zar]
 refine⟨e,by unfold ZvF;rw[if_pos e],ZeA _ _,fun i hi=>?_⟩
 unfold isW at ix
 exact of_decide_eq_true (List.all_eq_true.1 ix _ (ZbA hi))
theorem ZES{C:Ctx}(hC:C.P=Try.prog)(h:Int)(c l0:List Int)(k0:okw l0=true)(iw:isW h l0=true)(hh:hfB h=true)(rc:Zbu c 0 15=0):Ev C (ZiE h c l0 ((15:Nat):Int) (ZkL l0 c 15) (chL c 15)) (Zfi h c l0 ((15:Nat):Int) (ZkL l0 c 15) (chL c 15)) (ZaZ 9 (.bool true) none):=by
 obtain⟨a1,a2⟩:=okw_iff.1 k0
 have q:=of_decide_eq_true hh
 have e0:=Zby a1
 have kw:=Zw7 a2 rc
 have dw:=Zp0 a1 a2 rc
 have er:=ZCl c
 have off:=ZwK a2 rc
 have cl:=ZrL c 15
 generalize ZkL l0 c 15=w at*
 generalize chL c 15=e at*
 obtain⟨w1,w2⟩:=okw_iff.1 kw
 have ew:=Zby w1
 have z1:=Zxh hh
 have z2:=ZwQ kw
 have y1:IntKind.i64.wrap (2*h)=2*h:=by rw[IntKind.wrap_i64];omega
 refine tgo hC Zkz Zn7 ?_
 cases ho:(deO h w).isSome with
 |false=>
  have hn:¬(e.length:Int)≤h:=fun a=>by
   have:=(ZqF kw hh k0 iw (by omega)).1
   rw[ho]at this;cases this
  have vl:(deV h w).length=15:=by
   unfold deV
   cases hq:deO h w with
   |none=>exact List.length_replicate
   |some x=>rw[hq]at ho;cases ho
  by_cases hb:2*h<(e.length:Int)
  ·simp only[Zc0,ew,e0,ho]
   simp[-List.getD_eq_getElem?_getD,a1,w1,z1,z2,y1,Zar,hn,hb,vl,AV.bx,Zaf,kw,hh]
   try omega
  ·have hg:fiG w h e=true:=by
    unfold fiG
    rw[kw,hh]
    have:erE h e=0:=by
     unfold erE
     rw[if_neg (by omega)]
     exact er
    simp[this]
   have i0:=ZHK hC h l0 w e k0 kw iw hg off 27 (decide ((e.length:Int)≤h)) 27 (decide ((27:Int)=0)) e.length (2*h) (decide (2*h<(e.length:Int))) e.length 0 (-1) (by omega) (fun k _ hk=>ZnA er k hk)
   simp only[Zc0,ew,e0,ho]
   simp[-List.getD_eq_getElem?_getD,a1,w1,z1,z2,y1,Zar,hn,hb,vl,AV.bx,Zaf,kw,hh,Zaj,show(e.length:Int)≤2*h by omega]at i0⊢
   exact⟨by omega,by omega,i0⟩
 |true=>
  obtain⟨x1,x2,x3,x4⟩:=ZwN kw hh ho
  obtain⟨s1,s2,s3,s4⟩:=ZuL x1 hh x2
  have xe:=Zby (okw_iff.1 x1).1
  have xl:=(okw_iff.1 x1).1
  have nl:¬h<deN h w:=by omega
  have xd:Zbe (deV h w) w=deN h w:=by rw[Zln,x3]
  have i0:=ZG3 hC h l0 w e k0 kw iw hh er off (syL (deV h w) (2*h.toNat)) s4 (by omega) (by omega) (2*h.toNat) 0 (by omega)
  by_cases hn:(e.length:Int)≤h
  ·have xv:=(ZqF kw hh k0 iw (by omega)).2
   rw[xv]at s1 s2 xd xe xl i0
   simp only[Zc0,ew,e0,ho,xv]
   simp[-List.getD_eq_getElem?_getD,a1,w1,z1,z2,y1,Zar,hn,AV.bx,Zaf,kw,hh,xv,s1,s2,xd,nl]at i0⊢
   exact i0
  ·simp only[Zc0,ew,e0,ho,xe]
   simp[-List.getD_eq_getElem?_getD,a1,w1,z1,z2,y1,Zar,hn,AV.bx,Zaf,kw,hh,xe,xl,s1,s2,xd,nl]at i0⊢
   exact i0
end Go.Proofs.Ytklbmkllepkjcaa
/- The law of the sent word. No condition. -/
namespace Go.Proofs.Ytklbmkllepkjcaa
theorem ZmZ{h:Int}{d:List Int}(g:daB h d=true):(enW h d).take d.length=d:=by
 obtain⟨g1,g2,g3⟩:=ZlF g
 have hl:=(okw_iff.1 (ZqI g).1).1
 have hp:=Zif (Zer (Zns g)).2.2.2.1
 refine List.ext_getElem (by rw[List.length_take,hl];omega) fun i h1 h2=>?_
 have e:=Zz3 (h:=h) (w:=Zl9 d) hp (i:=i) (fun a=>by
  unfold erT at a
  obtain⟨k,_,hk⟩:=List.mem_map.1 a
  omega)
 have e2:(enW h d).getD i 0=(Zl9 d).getD i 0:=e
 have hi:i<(enW h d).length:=by omega
 unfold Zl9 at e2
 rw[List.getD_eq_getElem?_getD,List.getElem?_eq_getElem hi,List.getD_eq_getElem?_getD,List.getElem?_append_left h2,List.getElem?_eq_getElem h2]at e2
 rw[List.getElem_take]
 exact e2
theorem Zud(h:Int)(d c:List Int):Zah Try.prog 9 [.int .i64 h, .list (.ints .i64 d), .list (.ints .i64 c)] (.bool true) none:=by
 refine start (ZB9 h d c) fun C hC=>tgo hC Zkz ZGD ?_
 by_cases hh0:hfE h=0
 ·have h3:=Zva hh0
  have hh:hfB h=true:=decide_eq_true h3
  have w1:IntKind.i64.wrap (2*h)=2*h:=by rw[IntKind.wrap_i64];omega
  have w2:IntKind.i64.wrap (15-2*h)=15-2*h:=by rw[IntKind.wrap_i64];omega
  by_cases hd:(d.length:Int)=15-2*h
  ·by_cases rd:Zbu d 0 15=0
   ·by_cases hc:c.length=15
    ·by_cases rc:Zbu c 0 15=0
     ·have ed:elE d (15-2*h)=0:=by
       simp[elE,Zaj,hd,rd,Zar]
      have g:daB h d=true:=by unfold daB;rw[hh,ed];rfl
      obtain⟨k0,iw⟩:=ZqI g
      obtain⟨a1,a2⟩:=okw_iff.1 k0
      have e0:=Zby a1
      have et:std.sub3 (enW h d) 0 (d.length-0)=d:=ZmZ g
      have i0:=ZER hC h c (enW h d) k0 hc rc (ZES hC h c (enW h d) k0 iw hh rc) 15 0 rfl
      simp only[ZxA,e0]
      simp[-List.getD_eq_getElem?_getD,hh0,w1,w2,hd,rd,hc,rc,ed,Zar,AV.bx,Zaf,g,a1,a2,ZmZ g,ZkL,chL]at i0 et⊢
      refine⟨by omega,by omega,by omega,by omega,?_⟩
      exact⟨⟨by omega,by omega⟩,by rw[show (15-2*h).toNat=d.length by omega];exact ZmZ g,i0⟩
     ·simp[-List.getD_eq_getElem?_getD,ZxA,hh0,w1,w2,hd,rd,hc,rc]
      omega
    ·simp[-List.getD_eq_getElem?_getD,ZxA,hh0,w1,w2,hd,rd,show ¬(c.length:Int)=15 by omega]
     omega
   ·simp[-List.getD_eq_getElem?_getD,ZxA,hh0,w1,w2,hd,rd]
    omega
  ·simp[-List.getD_eq_getElem?_getD,ZxA,hh0,w1,w2,hd]
   omega
 ·simp[-List.getD_eq_getElem?_getD,ZxA,hh0]
end Go.Proofs.Ytklbmkllepkjcaa
/- CodeSentOne: for every input it returns true, and the arguments read as they did. No condition. -/
namespace Go.Proofs.Ytklbmkllepkjcaa
open Go.ChangeShapes Go.WideShapes Go.ChangeAt Go.RowKit
theorem sh9_0:Zv0 Try.prog 8 3=some [.int .i64]:=by kernel_rfl
theorem sh9_1:Zv0 Try.prog 8 25=some [.ints .i64]:=by kernel_rfl
theorem sh9_2:Zv0 Try.prog 8 25=some [.ints .i64]:=by kernel_rfl
set_option maxRecDepth 100000 in
theorem law9(os:Os)(started:os.Started)(H:Type)(enc:TypeId×Value→H):
 ReturnsInHanded {} Try.checked os 9 .any (Rows.codeSentOneSpec.pre6 enc Try.prog Try.f9 Rows.codeSentOneRow.domain false) (Rows.codeSentOneSpec.post enc Try.prog Try.f9 false true false false):=by
 refine returnsInHanded_of_change (C:=Try.checked) own started (by kernel_rfl) Try.func9
  (ChangeSpec.witness6 (enc:=enc) (C:=Try.checked) false ⟨#[], #[.int .i64 0, .slice none 0 0, .slice none 0 0],[]⟩ 8 (by kernel_rfl) (by kernel_rfl) (by kernel_rfl) (by kernel_rfl)) ?_
 intro W base args ds gs before hval0 hW _ _
 have hval:∀(j:Nat) t v,Try.f9.params[j]? =some t→args[j]? =some v→Value.okWide Try.prog W .any base t v:=hval0
 have hW':=hW
 obtain⟨p,q,hA0,hV,rfl,_,_⟩:=hW
 have hA:DataW.TrodAll enc Try.prog W 0 (fun _=>true) true Try.f9.params.toList args.toList ds p:=hA0
 rw[Try.params9]at hA hval
 obtain⟨v0,v1,v2,d0,d1,d2,p0,p1,p2,rfl,rfl,rfl,h0,h1,h2⟩:=trodAll_three hA
 obtain⟨rfl,rfl⟩:=trodVars_none hV
 have hlt:∀x∈p0++(p1++p2),x.block<W.heap.size:=fun x hx=>by simpa using hW'.lt x (by simpa using hx)
 obtain⟨u0,r0,c0⟩:=ZrJ (L:=⟨fun _ _=>0,fun _ _=>0⟩) sh9_0 (by obtain⟨x,rfl⟩:=okWide_int Try.underlying3 (hval 0 3 v0 rfl rfl);rfl) h0
 obtain⟨hf,rfl,_⟩:=ZBw c0
 obtain⟨u1,r1,c1⟩:=ZrJ (L:=⟨fun _ _=>0,fun _ _=>0⟩) sh9_1 (by obtain⟨a,l,c,rfl⟩:=okWide_slice Try.underlying25 (hval 1 25 v1 rfl rfl);rfl) h1
 obtain⟨d,rfl,_⟩:=Zr5 c1
 obtain⟨u2,r2,c2⟩:=ZrJ (L:=⟨fun _ _=>0,fun _ _=>0⟩) sh9_2 (by obtain⟨a,l,c,rfl⟩:=okWide_slice Try.underlying25 (hval 2 25 v2 rfl rfl);rfl) h2
 obtain⟨c,rfl,_⟩:=Zr5 c2
 refine(ZtU trivial (Zud hf d c) (RelL.cons ( r0) (RelL.cons ( r1) (RelL.cons ( r2) RelL.nil)))).mono fun e W' ⟨he,hb⟩=>?_
 subst he
 refine⟨_,rfl,_,_,_,[],p0++(p1++p2),[],hW',trodAll_mk1 (shut_bool Try.underlying4 true),?_,rfl,hb.frame _,fun h=>by cases h⟩
 exact trodAll_mk3 (Below.trod ZmD (by kernel_rfl) (of_decide_eq_true (by kernel_rfl)) h0 hb (fun x hx=>hlt x (List.mem_append_left _ hx))) (Below.trod ZmD (by kernel_rfl) (of_decide_eq_true (by kernel_rfl)) h1 hb (fun x hx=>hlt x (List.mem_append_right _ (List.mem_append_left _ hx)))) (Below.trod ZmD (by kernel_rfl) (of_decide_eq_true (by kernel_rfl)) h2 hb (fun x hx=>hlt x (List.mem_append_right _ (List.mem_append_right _ hx))))
theorem n9 : Try.checked.prog.funcNamed "cassegrain/cassegrainlaw05.CodeSentOne" = some 9 := by kernel_rfl
theorem j9:joinedFacts Try.checked.prog 9 Try.f9 Rows.codeSentOneSpec Rows.codeSentOneRow=true:=by kernel_rfl
theorem i9:Try.f9.isInstance Try.checked.prog Rows.codeSentOneRow.origin Rows.codeSentOneRow.targs:=of_decide_eq_true (by kernel_rfl)
theorem w9:Try.f9.isWrapper Try.checked.prog Rows.codeSentOneRow.wrapper Rows.codeSentOneRow.mainSum:=by
 unfold Func.isWrapper
 first |(rw [if_pos (by decide +kernel)];kernel_rfl) |(rw [if_neg (by decide +kernel)];exact⟨rfl,rfl⟩)
theorem CodeSentOne_holds:Rows.CodeSentOneSaid:=
 OpenClaim.holds_of_wide 9 Try.f9 rfl rfl rfl rfl rfl rfl rfl ⟨rfl,rfl,rfl,rfl,rfl⟩ rfl rfl rfl rfl rfl n9 Try.func9 j9 i9 w9 (fun os started H enc _=>law9 os started H enc)
#print axioms CodeSentOne_holds
end Go.Proofs.Ytklbmkllepkjcaa
