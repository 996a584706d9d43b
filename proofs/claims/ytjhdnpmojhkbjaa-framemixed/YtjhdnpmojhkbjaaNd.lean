/- Contracts as a list. No condition. -/
import Derived.Test.YtjhdnpmojhkbjaaPM
import Derived.KernelRfl
namespace Go.Proofs.Ytjhdnpmojhkbjaa
theorem Zmc:∀ps:List AV,(Zag ps).length=ZaF ps
 |[]=>rfl
 |p::ps=>by rw[Zag,ZaF,List.length_append,Zgu,Zmc ps];omega
theorem ZeE:∀ps qs:List AV,ZaF (ps++qs)=ZaF ps+ZaF qs
 |[],qs=>by simp[ZaF]
 |p::ps,qs=>by rw[List.cons_append,ZaF,ZaF,ZeE ps qs];omega
theorem Ze0{k:Int}(h:0≤k):((ZaF [Zf7 k]:Nat):Int)=3+k:=by
 have:kD (Zf7 k)=List.replicate k.toNat 0:=rfl
 simp only[ZaF,this,List.length_replicate]
 omega
theorem ZtR{n:Int}(ps:List AV)(hn:3<n):∃K:Nat,((ZaF (Za1 n ps):Nat):Int)=K*n∧((ZaF (Za1 n ps):Nat):Int)≤ZaF ps+2*n:=by
 have h1:=Int.tmod_nonneg n (show 0≤(ZaF ps:Int) by omega)
 have h2:=Int.tmod_lt_of_pos (ZaF ps:Int) (show 0<n by omega)
 have h3:=Int.mul_tdiv_add_tmod (ZaF ps:Int) n
 have h4:0≤(ZaF ps:Int).tdiv n:=Int.tdiv_nonneg (by omega) (by omega)
 obtain⟨q,hq⟩:∃q:Nat,(ZaF ps:Int).tdiv n=q:=⟨_,(Int.toNat_of_nonneg h4).symm⟩
 rw[hq]at h3
 unfold Za1
 generalize (ZaF ps:Int).tmod n=R at*
 have hm:n*(q:Int)=(q:Int)*n:=Int.mul_comm _ _
 split
 ·exact⟨q,by omega,by omega⟩
 ·split
  ·refine⟨q+2,?_,?_⟩
   ·rw[ZeE,Int.natCast_add,Ze0 (by omega),Int.natCast_add,Int.add_mul];omega
   ·rw[ZeE,Int.natCast_add,Ze0 (by omega)];omega
  ·refine⟨q+1,?_,?_⟩
   ·rw[ZeE,Int.natCast_add,Ze0 (by omega),Int.natCast_add,Int.add_mul];omega
   ·rw[ZeE,Int.natCast_add,Ze0 (by omega)];omega
def ZbG(n:Int)(ps:List AV):Int:=((Zag (Za1 n ps)).length:Int).tdiv n
theorem Zin{a b:Int}(h:Zat a b=0):4≤a∧a≤24∧1≤b∧b≤8:=by
 unfold Zat ZbX at h
 split at h
 ·rename_i h1
  simp only[Bool.and_eq_true,decide_eq_true_eq]at h1
  omega
 ·omega
theorem Zmq{n:Int}{ps:List AV}(hn:4≤n∧n≤24)(hf:ZbW ps=true):∃N K:Nat,n=N∧(Zag (Za1 n ps)).length=K*N∧K*N≤1100∧ZbG n ps=K∧K≤1100:=by
 obtain⟨hlen,hk⟩:=Zfp hf
 have hsz:=Zfc hk
 obtain⟨K,hK,hb⟩:=ZtR ps (show 3<n by omega)
 obtain⟨N,rfl⟩:∃N:Nat,n=N:=⟨n.toNat,by omega⟩
 have hl:=Zmc (Za1 N ps)
 have e:ZaF (Za1 N ps)=K*N:=by
  have:((ZaF (Za1 N ps):Nat):Int)=((K*N:Nat):Int):=by rw[hK,Int.natCast_mul]
  exact Int.ofNat_inj.1 this
 have hKN:K≤K*N:=Nat.le_mul_of_pos_right K (by omega)
 refine⟨N,K,rfl,by rw[hl,e],by omega,?_,by omega⟩
 rw[ZbG,hl,hK]
 exact Int.mul_tdiv_cancel _ (by omega)
theorem ZIO(a b:Int):Zau [a,b]=if a=0 then b else a:=by
 simp only[Zau]
 by_cases h:b=0<;>simp[h]
theorem ZtS(a b:Int)(ps:List AV)(h:(4≤a∧a≤24)∧ZbW ps=true):ZaH Try.prog 37 [.agg (.gen [.int .i64 a, .int .i64 b]), .list (.big (.agg [.int .i64, .int .i64, .ints .i64]) ps)] (.int .i64 (ZbG a ps)) none:=
 start (Zxt a b ps) fun C hC=>by
  obtain⟨N,K,e1,e2,e3,e4,e6⟩:=Zmq h.1 h.2
  have hg:(3<a∧a≤500)∧ZbW ps=true:=⟨by omega,h.2⟩
  refine fin hC Zeb (ZMu std a b ps) ?_ ?_ rfl
  ·simp only[ZbG]at e4
   simp[hg,e4];omega
  ·simp[ZbG]
def Zg6(S:List Int)(x N:Int):Int:=if loS S x<S.length∧S.getD (loS S x) 0<x+N then S.getD (loS S x) 0-x else 255
theorem Zir:∀(n:Nat) (ps:List AV),(Zah n ps).length=ps.length
 |_,[]=>rfl
 |n,p::ps=>by simp[Zah,Zir _ ps]
theorem Zgs:∀(n:Nat) (ps:List AV),∀x∈Zah n ps,(n:Int)≤x
 |n,[],x,h=>by simp[Zah]at h
 |n,p::ps,x,h=>by
  rw[Zah,List.mem_cons]at h
  rcases h with rfl |h
  ·omega
  ·have:=Zgs _ ps x h;omega
theorem Zip:∀(n:Nat) (ps:List AV),(Zah n ps).Pairwise (· < ·)
 |n,[]=>by simp[Zah]
 |n,p::ps=>by
  rw[Zah,List.pairwise_cons]
  refine⟨fun x hx=>?_,Zip _ ps⟩
  have:=Zgs _ ps x hx
  rw[Zgu]at this
  omega
theorem ZqE(S:List Int)(x:Int):(∀y∈S.take (loS S x),y<x)∧(∀h:loS S x<S.length,x≤S[loS S x]):=by
 induction S with
 |nil=>simp[loS]
 |cons y ys ih=>
  unfold loS at ih⊢
  rw[List.takeWhile_cons]
  by_cases h:y<x
  ·rw[if_pos (by simpa using h),List.length_cons]
   refine⟨fun z hz=>?_,fun hl=>?_⟩
   ·rw[List.take_succ_cons,List.mem_cons]at hz
    rcases hz with rfl |hz
    ·exact h
    ·exact ih.1 z hz
   ·simpa using ih.2 (by simpa using hl)
  ·rw[if_neg (by simpa using h)]
   exact⟨fun z hz=>by simp at hz,fun hl=>by simpa using h⟩
def Zdd(c d:Int)(N:Nat)(B S:List Int)(i:Nat):AV:=.agg (.gen [.int .i64 c, .int .i64 ((d+i).tmod 64), .int .i64 (Zg6 S ((i*N:Nat):Int) N), .list (.ints .i64 ((B.drop (i*N)).take N))])
def Zge(c d:Int)(N:Nat)(B S:List Int)(K:Nat):List AV:=(List.range K).map (Zdd c d N B S)
theorem Zlh(c d:Int)(N:Nat)(B S:List Int)(K:Nat):Zge c d N B S (K+1)=Zge c d N B S K++[Zdd c d N B S K]:=by simp[Zge,List.range_succ]
theorem Zj8(c d:Int)(N:Nat)(B S:List Int)(K:Nat):(Zge c d N B S K).length=K:=by simp[Zge]
def FRr(l:List AV):Row:=.big (.agg [.int .i64, .int .i64, .int .i64, .ints .i64]) l
theorem ZPW{C:Ctx}(hC:C.P=Try.prog)(N i M:Nat)(b c d:Int)(B S l0 l2 l4 l6:List Int)(b1 b5:Bool)(hN:4≤N∧N≤24)(hM:M=i*N)(hMB:M+N≤B.length)(hBl:B.length≤2000)(hd:0≤d∧d≤63)(hi:i≤1000)(hS:Zmz S=true)(hS2:∀x∈S,0≤x∧x≤100000)(X:List AV)(hX:X.length=i)(R:List AFrame→Zaa→Prop)
 (hn:Ev C (Zbo N b c d l0 b1 l2 S l4 b5 l6 B ((M+N:Nat):Int) (X++[Zdd c d N B S i])) (Za7 N b c d l0 b1 l2 S l4 b5 l6 B ((M+N:Nat):Int) (X++[Zdd c d N B S i])) R):
 Ev C (Zbo N b c d l0 b1 l2 S l4 b5 l6 B M X) (Za7 N b c d l0 b1 l2 S l4 b5 l6 B M X) R:=by
 have hm:std.min (N:Int) ((std.len (std.sub3 B M ((std.len B)-M)):Nat):Int)=N:=by simp;omega
 have hmm:std.mul (i:Int) (N:Int)=(M:Int):=by rw[hM];simp
 have hx2:std.lenA X=i:=hX
 rw[Zdd,←hM,Zg6]at hn
 have hl1:loS S (M:Int)<S.length→0≤S.getD (loS S M) 0∧S.getD (loS S M) 0≤100000:=fun h=>by
  rw[List.getD_eq_getElem?_getD,List.getElem?_eq_getElem h,Option.getD_some];exact hS2 _ (List.getElem_mem h)
 have hnth:∀k:Nat,std.nth S k=S.getD k 0:=fun _=>rfl
 have hnat:∀k:Nat,std.nat (k:Int)=k:=fun _=>rfl
 have e1:((M:Int)+N).toNat-M=N:=by omega
 have e2:((M+N:Nat):Int)=(M:Int)+N:=by simp
 rw[e2]at hn
 by_cases c1:loS S (M:Int)<S.length
 ·have hl2:=hl1 c1
  generalize hv:S.getD (loS S M) 0=v at*
  by_cases c2:v<(M:Int)+N
  ·rw[if_pos ⟨c1,c2⟩]at hn
   refine go hC Zeb (ZMj std N b c d l0 b1 l2 S l4 b5 l6 B M X) ?_ (by simp only[hmm,hm,hnth,hnat,hv,hx2,ZcZ];simpa[e1]using hn)
   simp only[hmm,hm,hnth,hnat,hv,hx2,ZcZ]
   simp[hS,c1,c2,AV.bx,Zac,Row.len,e1]
   omega
  ·rw[if_neg (fun h=>c2 h.2)]at hn
   refine go hC Zeb (ZKo std N b c d l0 b1 l2 S l4 b5 l6 B M X) ?_ (by simp only[hmm,hm,hnth,hnat,hv,hx2,ZcZ];simpa[e1]using hn)
   simp only[hmm,hm,hnth,hnat,hv,hx2,ZcZ]
   simp[hS,c1,AV.bx,Zac,Row.len,e1]
   omega
 ·rw[if_neg (fun h=>c1 h.1)]at hn
  refine go hC Zeb (ZMS std N b c d l0 b1 l2 S l4 b5 l6 B M X) ?_ (by simp only[hmm,hm,hnth,hnat,hx2,ZcZ];simpa[e1]using hn)
  simp only[hmm,hm,hnth,hnat,hx2,ZcZ]
  simp[hS,AV.bx,Zac,Row.len,e1]
  omega
theorem ZPo{C:Ctx}(hC:C.P=Try.prog)(N:Nat)(b c d:Int)(B S l0 l2 l4 l6:List Int)(b1 b5:Bool)(hN:4≤N∧N≤24)(hMB:N≤B.length)(hBl:B.length≤2000)(hd:0≤d∧d≤63)(hS:Zmz S=true)(hS2:∀x∈S,0≤x∧x≤100000)(R:List AFrame→Zaa→Prop)
 (hn:Ev C (Zbo N b c d l0 b1 l2 S l4 b5 l6 B ((N:Nat):Int) [Zdd c d N B S 0]) (Za7 N b c d l0 b1 l2 S l4 b5 l6 B ((N:Nat):Int) [Zdd c d N B S 0]) R):
 Ev C (ZbR N b c d l0 b1 l2 S l4 b5 l6 B) (Zbm N b c d l0 b1 l2 S l4 b5 l6 B) R:=by
 have hm:std.min (N:Int) ((std.len (std.sub3 B 0 ((std.len B)-0)):Nat):Int)=N:=by simp;omega
 have hmm:std.mul ((0:Nat):Int) (N:Int)=0:=by simp
 have hf:Zdd c d N B S 0=.agg (.gen [.int .i64 c, .int .i64 (d.tmod 64), .int .i64 (Zg6 S 0 N), .list (.ints .i64 (B.take N))]):=by simp[Zdd]
 rw[hf,Zg6]at hn
 have hl1:loS S 0<S.length→0≤S.getD (loS S 0) 0∧S.getD (loS S 0) 0≤100000:=fun h=>by
  rw[List.getD_eq_getElem?_getD,List.getElem?_eq_getElem h,Option.getD_some];exact hS2 _ (List.getElem_mem h)
 have hnth:∀k:Nat,std.nth S k=S.getD k 0:=fun _=>rfl
 have hnat:∀k:Nat,std.nat (k:Int)=k:=fun _=>rfl
 have hnat0:std.nat 0=0:=rfl
 have e1:((N:Int)).toNat=N:=by omega
 by_cases c1:loS S 0<S.length
 ·have hl2:=hl1 c1
  generalize hv:S.getD (loS S 0) 0=v at*
  by_cases c2:v<0+(N:Int)
  ·rw[if_pos ⟨c1,c2⟩]at hn
   refine go hC Zeb (ZKu std N b c d l0 b1 l2 S l4 b5 l6 B) ?_ (by simp only[hmm,hm,hnth,hnat,hnat0,hv,ZcZ];simpa[e1]using hn)
   simp only[hmm,hm,hnth,hnat,hnat0,hv,ZcZ]
   simp[hS,c1,AV.bx,Zac,Row.len,e1]
   omega
  ·rw[if_neg (fun h=>c2 h.2)]at hn
   refine go hC Zeb (ZNc std N b c d l0 b1 l2 S l4 b5 l6 B) ?_ (by simp only[hmm,hm,hnth,hnat,hnat0,hv,ZcZ];simpa[e1]using hn)
   simp only[hmm,hm,hnth,hnat,hnat0,hv,ZcZ]
   simp[hS,c1,AV.bx,Zac,Row.len,e1]
   omega
 ·rw[if_neg (fun h=>c1 h.1)]at hn
  refine go hC Zeb (ZK7 std N b c d l0 b1 l2 S l4 b5 l6 B) ?_ (by simp only[hmm,hm,hnth,hnat,hnat0,ZcZ];simpa[e1]using hn)
  simp only[hmm,hm,hnth,hnat,hnat0,ZcZ]
  simp[hS,AV.bx,Zac,Row.len,e1]
  omega
theorem l35{C:Ctx}(hC:C.P=Try.prog)(N K:Nat)(b c d:Int)(B S l0 l2 l4 l6:List Int)(b1 b5:Bool)(hN:4≤N∧N≤24)(hB:B.length=K*N)(hBl:B.length≤2000)(hd:0≤d∧d≤63)(hK:K≤1000)(hS:Zmz S=true)(hS2:∀x∈S,0≤x∧x≤100000):∀(t i:Nat),i+t=K→
 Ev C (Zbo N b c d l0 b1 l2 S l4 b5 l6 B ((i*N:Nat):Int) (Zge c d N B S i)) (Za7 N b c d l0 b1 l2 S l4 b5 l6 B ((i*N:Nat):Int) (Zge c d N B S i)) (ZdV 35 (.tup [.row 0 0, .int .i64 0]) (some ⟨74,4,FRr (Zge c d N B S K)⟩)):=by
 intro t
 induction t with
 |zero=>
  intro i hi
  have:i=K:=by omega
  subst this
  rw[←hB]
  exact fin hC Zeb (ZFU std N b c d l0 b1 l2 S l4 b5 l6 B _ _) (by simp) rfl rfl
 |succ t ih=>
  intro i hi
  have h1:(i+1)*N≤K*N:=Nat.mul_le_mul_right N (by omega)
  have h2:(i+1)*N=i*N+N:=by rw[Nat.add_mul,Nat.one_mul]
  have ih':=ih (i+1) (by omega)
  rw[Zlh,h2]at ih'
  exact ZPW hC N i (i*N) b c d B S l0 l2 l4 l6 b1 b5 hN rfl (by omega) hBl hd (by omega) hS hS2 _ (Zj8 _ _ _ _ _ _) _ ih'
theorem s35{C:Ctx}(hC:C.P=Try.prog)(N K:Nat)(b c d:Int)(B S l0 l2 l4 l6:List Int)(b1 b5:Bool)(hN:4≤N∧N≤24)(hB:B.length=(K+1)*N)(hBl:B.length≤2000)(hd:0≤d∧d≤63)(hK:K+1≤1000)(hS:Zmz S=true)(hS2:∀x∈S,0≤x∧x≤100000):
 Ev C (ZbR N b c d l0 b1 l2 S l4 b5 l6 B) (Zbm N b c d l0 b1 l2 S l4 b5 l6 B) (ZdV 35 (.tup [.row 0 0, .int .i64 0]) (some ⟨74,4,FRr (Zge c d N B S (K+1))⟩)):=by
 have h1:1*N≤(K+1)*N:=Nat.mul_le_mul_right N (by omega)
 have h:=l35 hC N (K+1) b c d B S l0 l2 l4 l6 b1 b5 hN hB hBl hd hK hS hS2 K 1 (by omega)
 rw[Zlh,Nat.one_mul]at h
 exact ZPo hC N b c d B S l0 l2 l4 l6 b1 b5 hN (by omega) hBl hd hS hS2 _ h
theorem Zjo:∀(n:Nat) (ps:List AV),∀x∈Zah n ps,x≤n+(Zag ps).length
 |n,[],x,h=>by simp[Zah]at h
 |n,p::ps,x,h=>by
  rw[Zah,List.mem_cons]at h
  rcases h with rfl |h
  ·omega
  ·have:=Zjo _ ps x h
   rw[Zag,List.length_append];omega
def ZAk(a c d:Int)(ps:List AV):List AV:=Zge c d a.toNat (Zag (Za1 a ps)) (Zah 0 (Za1 a ps)) (ZbG a ps).toNat
def Zkq(a b c d:Int)(ps:List AV):Int:=Zau [Zau [Zat a b,ZaQ b c],Zal (decide (0≤d∧d≤63)) 2,ZbV ps]
def Zor(a b c d:Int)(ps:List AV):Int:=if Zkq a b c d ps=0 then(if 40<ZbG a ps then 8 else 0)else Zkq a b c d ps
def Zi2(a b c d:Int)(ps:List AV):List AV:=if Zor a b c d ps=0 then ZAk a c d ps else []
theorem ZGE(a b c:Int):Zau [a,b,c]=if a=0 then(if b=0 then c else b)else a:=by
 simp only[Zau]
 by_cases h:c=0<;>simp[h]
theorem Ztb{a b c d:Int}{ps:List AV}(h:Zkq a b c d ps=0):Zat a b=0∧ZaQ b c=0∧(0≤d∧d≤63)∧ZbV ps=0:=by
 rw[Zkq,ZGE,ZIO]at h
 by_cases h1:Zat a b=0
 ·rw[if_pos h1]at h
  by_cases h2:ZaQ b c=0
  ·rw[if_pos h2]at h
   by_cases h3:0≤d∧d≤63
   ·rw[decide_eq_true h3,ZdN,if_pos rfl]at h
    exact⟨h1,h2,h3,h⟩
   ·rw[decide_eq_false h3,Zil,if_neg (by omega)]at h;omega
  ·rw[if_neg h2]at h;exact absurd h h2
 ·rw[if_neg h1,if_neg h1]at h;exact absurd h h1
theorem ZsA(a b c d:Int)(ps:List AV)(hf:ZbW ps=true):ZaH Try.prog 35 [.agg (.gen [.int .i64 a, .int .i64 b]), .agg (.gen [.int .i64 c, .int .i64 d]), .list (.big (.agg [.int .i64, .int .i64, .ints .i64]) ps)] (.tup [.list (FRr (Zi2 a b c d ps)), .int .i64 (Zor a b c d ps)]) none:=by
 by_cases h0:Zkq a b c d ps=0
 ·obtain⟨r1,r2,r3,r4⟩:=Ztb h0
  obtain⟨q1,q2,q3,q4⟩:=Zin r1
  obtain⟨N,K,rfl,h2,h3,h4,h5⟩:=Zmq ⟨q1,q2⟩ hf
  have hg:(3<(N:Int)∧(N:Int)≤1000)∧ZbW ps=true:=⟨by omega,hf⟩
  have hG:=ZJa (n:=(N:Int)) (ps:=ps) (by omega) hf
  have h0':Zau [Zau [Zat N b,ZaQ b c],Zal (decide (0≤d∧d≤63)) 2,ZbV ps]=0:=h0
  have hq:std.quo (std.int (std.len (Zag (Za1 N ps)))) N=K:=h4
  by_cases h40:40<K
  ·have e1:Zor N b c d ps=8:=by rw[Zor,if_pos h0,h4,if_pos (by omega)]
   have e2:Zi2 N b c d ps=[]:=by rw[Zi2,e1];rfl
   rw[e1,e2]
   refine ZlH (xs:=[.nils, .int .i64 8]) (start (Zkz N b c d ps) fun C hC=>fin hC Zeb (ZNe std N b c d ps) ?_ rfl rfl) ⟨.nil _ rfl, .same _,trivial⟩
   simp only[h0',hq]
   simp[hf,hG,hg,AV.bx,Zac]
   omega
  ·have e1:Zor N b c d ps=0:=by rw[Zor,if_pos h0,h4,if_neg (by omega)]
   have e2:Zi2 N b c d ps=Zge c d N (Zag (Za1 N ps)) (Zah 0 (Za1 N ps)) K:=by rw[Zi2,if_pos e1,ZAk,h4];rfl
   rw[e1,e2]
   have hs:=Zip 0 (Za1 N ps)
   have hsl:=Zir 0 (Za1 N ps)
   have hfl:=(ZkF (N:Int) ps).2
   have hlen:=(Zfp hf).1
   have hS2:∀x∈Zah 0 (Za1 N ps),0≤x∧x≤100000:=fun x hx=>by
    have h6:=Zgs 0 _ x hx
    have h7:=Zjo 0 _ x hx
    omega
   have hS:Zmz (Zah 0 (Za1 N ps))=true:=by rw[Zmz,Bool.and_eq_true];exact⟨decide_eq_true hs,decide_eq_true (by omega)⟩
   have hbeg:∀C:Ctx,C.P=Try.prog→∀ {R:List AFrame→Zaa→Prop},(∀(b1 b5:Bool),Ev C (ZbR N b c d (Zag (Za1 N ps)) b1 (Zag (Za1 N ps)) (Zah 0 (Za1 N ps)) (Zag (Za1 N ps)) b5 (Zag (Za1 N ps)) (Zag (Za1 N ps))) (Zbm N b c d (Zag (Za1 N ps)) b1 (Zag (Za1 N ps)) (Zah 0 (Za1 N ps)) (Zag (Za1 N ps)) b5 (Zag (Za1 N ps)) (Zag (Za1 N ps))) R)→Ev C (ZJC N b c d ps) [] R:=fun C hC R hh=>by
    refine go hC Zeb (ZKy std N b c d ps) ?_ (hh _ _)
    simp only[h0',hq]
    simp[hf,hG,hg,AV.bx,Zac]
    omega
   generalize Zah 0 (Za1 N ps)=S at*
   cases K with
   |zero=>
    rw[Nat.zero_mul]at h2
    have hB:Zag (Za1 N ps)=[]:=List.length_eq_zero_iff.1 h2
    exact ZlH (xs:=[.nils, .int .i64 0]) (start (Zkz N b c d ps) fun C hC=>hbeg C hC fun b1 b5=>fin hC Zeb (ZLO std N b c d _ _ _ _ _ _ _ _) (by rw[hB];simp) rfl rfl) ⟨.nil _ rfl, .same _,trivial⟩
   |succ K=>
    exact ZkP (e:=74) (sz:=3) (start (Zkz N b c d ps) fun C hC=>hbeg C hC fun b1 b5=>s35 hC N K b c d _ S _ _ _ _ b1 b5 ⟨by omega,by omega⟩ h2 (by omega) r3 (by omega) hS hS2) rfl ⟨.row, .same _ rfl,trivial⟩
 ·have e1:Zor a b c d ps=Zkq a b c d ps:=by rw[Zor,if_neg h0]
  have e2:Zi2 a b c d ps=[]:=by rw[Zi2,e1,if_neg h0]
  rw[e1,e2]
  refine ZlH (xs:=[.nils, .int .i64 (Zkq a b c d ps)]) (start (Zkz a b c d ps) fun C hC=>fin hC Zeb (ZM1 std a b c d ps) ?_ rfl rfl) ⟨.nil _ rfl, .same _,trivial⟩
  have h0':¬Zau [Zau [Zat a b,ZaQ b c],Zal (decide (0≤d∧d≤63)) 2,ZbV ps]=0:=h0
  simp[hf,AV.bx,Zac]
  simpa using h0'
def k37:Ctr:=⟨37,0,fun _ a=>match a with |[.agg (.gen [.int .i64 a, .int .i64 b]), .list (.big (.agg [.int .i64, .int .i64, .ints .i64]) ps)]=>some (decide ((4≤a∧a≤24)∧ZbW ps=true), .int .i64 (ZbG a ps),none) |_=>none⟩
theorem ZDN:k37.OK Try.prog:=fun pa args r fr h=>by
 simp only[k37]at h
 split at h
 ·simp only[Option.some.injEq,Prod.mk.injEq,decide_eq_true_eq]at h
  obtain⟨h0,rfl,rfl⟩:=h
  exact ZtS _ _ _ h0
 ·cases h
def k35:Ctr:=⟨35,0,fun _ a=>match a with |[.agg (.gen [.int .i64 a, .int .i64 b]), .agg (.gen [.int .i64 c, .int .i64 d]), .list (.big (.agg [.int .i64, .int .i64, .ints .i64]) ps)]=>some (decide (ZbW ps=true), .tup [.list (.big (.agg [.int .i64, .int .i64, .int .i64, .ints .i64]) (Zi2 a b c d ps)), .int .i64 (Zor a b c d ps)],none) |_=>none⟩
theorem ZDI:k35.OK Try.prog:=fun pa args r fr h=>by
 simp only[k35]at h
 split at h
 ·simp only[Option.some.injEq,Prod.mk.injEq,decide_eq_true_eq]at h
  obtain⟨h0,rfl,rfl⟩:=h
  exact ZsA _ _ _ _ _ h0
 ·cases h
end Go.Proofs.Ytjhdnpmojhkbjaa
/- The contracts of frames that are compared, too. No condition. -/
namespace Go.Proofs.Ytjhdnpmojhkbjaa
def BOn:List Ctr:=[k38]++BOm
theorem ZnD:Zap Try.prog BOn:=⟨Zvu,ZGc⟩
end Go.Proofs.Ytjhdnpmojhkbjaa
/- FrameOrders: the law returns true. No condition. -/
namespace Go.Proofs.Ytjhdnpmojhkbjaa
set_option maxRecDepth 20000
theorem ZqW{a b:Int}(h:Zat a b=0):ZbX a b=true∧(4≤a∧a≤24)∧1≤b∧b≤8:=by
 unfold Zat at h
 by_cases hb:ZbX a b=true
 ·refine⟨hb,?_⟩
  unfold ZbX at hb
  simp at hb
  omega
 ·rw[if_neg hb]at h;cases h
theorem Zjw{b c:Int}(h1:1≤b)(h2:b≤8):ZaQ b c=Zbn b c:=by
 have:wr (b-1)=b-1:=by unfold wr;unfold IntKind.wrap;simp[IntKind.bits];omega
 rw[ZaQ,Zbn,this]
theorem Zmj{a b:Int}(h:ZbX a b=true):∀fs:List AV,ZfC a b fs=ZkM a b fs
 |[]=>rfl
 |f::fs=>by
  unfold ZfC ZkM
  have:frW a b f=frE a b f:=by unfold frW frE;exact ZhR h _ _ _ _
  rw[this,Zmj h fs]
theorem ZkQ{a b c:Int}(fs:List AV)(h:Zat a b=0):ZaI a b c fs=if Zbn b c=0 then Zqc a b fs else Zbn b c:=by
 obtain⟨h1,h2,h3,h4⟩:=ZqW h
 unfold ZaI Zqc
 rw[Zmj h1,Zjw h3 h4,h]
 by_cases hc:Zbn b c=0
 ·by_cases hl:40<fs.length
  ·have:¬(fs.length:Int)≤40:=by omega
   simp[Zau,hc,hl,this,Zal]
  ·have:(fs.length:Int)≤40:=by omega
   simp[Zau,hc,hl,this]
   by_cases he:ZkM a b fs=0<;>simp[he]
 ·simp[Zau,hc]
theorem ZHX{a b c:Int}{fs:List AV}(h:Zaw fs=true):Zw8 (ZkV a b c fs)=true:=by
 obtain⟨h1,h2⟩:=Ze7 h
 have hl:=ZdZ c fs
 rw[Znd]
 unfold Zw8
 rw[Bool.and_eq_true,decide_eq_true_eq,List.all_eq_true]
 split
 ·refine⟨by rw[List.length_map];omega,fun f hf=>decide_eq_true ?_⟩
  obtain⟨x,hx,rfl⟩:=List.mem_map.1 hf
  exact Zgp h2 x (ZhL hx)
 ·exact⟨by simp,by simp⟩
end Go.Proofs.Ytjhdnpmojhkbjaa
/- Paths of functions, printed by the explorer (Gx). No condition. -/
namespace Go.Proofs.Ytjhdnpmojhkbjaa
set_option maxRecDepth 100000
set_option linter.unusedVariables false
def ZEy(a:Int)(b:Int)(a2:Int)(b2:Int)(ds:List Int)(es:List Int):AFrame:={ fn:=81,N:=24,env:=[(0,AV.agg (Row.gen [AV.int .i64 a,AV.int .i64 b,AV.list (.ints .i64 ds)])),(1,AV.agg (Row.gen [AV.int .i64 a2,AV.int .i64 b2,AV.list (.ints .i64 es)]))],todo:=[.code a81.code],defs:=[],rnd:=none,ret:=false,res:=[ARes.tmp 4] }
def ZLu(a:Int)(b:Int)(a2:Int)(b2:Int)(ds:List Int)(es:List Int):List AFrame:=[(ZEy a b a2 b2 ds es)]
theorem ZAo(a:Int)(b:Int)(a2:Int)(b2:Int)(ds:List Int)(es:List Int):Zak tab 81 [AV.agg (Row.gen [AV.int .i64 a,AV.int .i64 b,AV.list (.ints .i64 ds)]),AV.agg (Row.gen [AV.int .i64 a2,AV.int .i64 b2,AV.list (.ints .i64 es)])]=some (ZEy a b a2 b2 ds es):=rfl
theorem ZJV(A:Ar)(a b a2 b2:Int)(ds es:List Int):Zaz A tab BOn 31 [true,true,true,true,true,true,true,true,true,true,true,true] 81 (ZLu a b a2 b2 ds es) []=
 some (tr [4,8,12,9] [decide (List.length ds≤1000000),A.eq b b2,A.eq a a2],
  AV.bool (decide (ds=es)),none):=by kernel_rfl
theorem ZMU(A:Ar)(a b a2 b2:Int)(ds es:List Int):Zaz A tab BOn 31 [true,true,true,true,true,true,false,false,false,false,false,false] 81 (ZLu a b a2 b2 ds es) []=
 some (tr [13,12,9] [!A.eq b b2,A.eq a a2],
  AV.bool false,none):=by kernel_rfl
theorem ZL0(A:Ar)(a b a2 b2:Int)(ds es:List Int):Zaz A tab BOn 31 [false,false,false,false,false,false,false,false,false,false,false,false] 81 (ZLu a b a2 b2 ds es) []=
 some (tr [26,9] [!A.eq a a2],
  AV.bool false,none):=by kernel_rfl
end Go.Proofs.Ytjhdnpmojhkbjaa
/- Contracts as a list. No condition. -/
namespace Go.Proofs.Ytjhdnpmojhkbjaa
theorem Zy8{w:World}{ok:Nat→Prop}{h:Zaa}{L:Lay}{r:Row}{v:Value}(hr:Rel w ok h L (.list (.gen [.nils, .list r])) v):Rel w ok h L (.list (.gen [.list (.ints .i64 []), .list r])) v:=by
 cases hr with
 |nil _ a c h0=>simp[Row.elems]at h0
 |list _ xs hx ad n cap sz cs hb hok hn hcap hsz hl h1 hc hp hrr=>
  simp only[Row.elems]at hx
  subst hx
  refine .list _ _ rfl ad n cap sz cs hb hok hn hcap ?_ hl h1 hc ?_ (fun j u v hu hv=>?_)
  ·intro x hx
   simp only[Row.elems,List.mem_cons,List.not_mem_nil,or_false]at hx
   rcases hx with rfl |rfl
   ·exact hsz .nils (by simp)
   ·exact hsz (.list r) (by simp)
  ·simp[Zae,AV.flat,AV.pureL,AV.pure,Row.elems]
  ·have hu':([AV.list (.ints .i64 []),AV.list r])[j]? =some u:=by simpa[Zae,AV.flat,Row.elems]using hu
   match j,hu' with
   |0,hu'=>
    simp at hu'
    subst hu'
    have:=hrr 0 .nils v (by simp[Zae,AV.flat]) hv
    cases this
    exact .nil _ none 0 rfl
   |1,hu'=>
    simp at hu'
    subst hu'
    exact hrr 1 _ v (by simp[Zae,AV.flat]) hv
   |j+2,hu'=>simp at hu'
theorem Zp0(b:List Int)(h:0<b.length∧b.length≤1000000):ZaH Try.prog 113 [.list (.gen [.nils, .list (.ints .i64 b)])] (.list (.ints .i64 b)) Zn2:=by
 intro w okA L vs hargs hok
 refine ZhY [] b (by simpa using h) w okA L vs ⟨by have:=hargs.1;simpa using this,fun j u v hu hv=>?_⟩ hok
 cases j with
 |zero=>
  simp at hu
  subst hu
  exact Zy8 (hargs.2 0 _ v rfl hv)
 |succ j=>simp at hu
theorem ZoP(a b:List Int)(h:0<a.length+b.length∧a.length+b.length≤1000000):ZaH Try.prog 113 [.list (.big (.ints .i64) [.list (.ints .i64 a), .list (.ints .i64 b)])] (.list (.ints .i64 (a++b))) Zn2:=
 ZhF (xs:=[]) (ys:=[]) (ZhY a b h) rfl
theorem ZCh(a b a2 b2:Int)(ds es:List Int)(h:ds.length≤1000000):ZaH Try.prog 81 [.agg (.gen [.int .i64 a, .int .i64 b, .list (.ints .i64 ds)]), .agg (.gen [.int .i64 a2, .int .i64 b2, .list (.ints .i64 es)])] (.bool (decide (a=a2∧b=b2∧ds=es))) none:=
 start (ZAo a b a2 b2 ds es) fun C hC=>by
  by_cases h1:a=a2
  ·by_cases h2:b=b2
   ·exact fin hC ZnD (ZJV std a b a2 b2 ds es) (by simp[h1,h2,h]) (by simp[h1,h2]) rfl
   ·exact fin hC ZnD (ZMU std a b a2 b2 ds es) (by simp[h1,h2]) (by simp[h1,h2]) rfl
  ·exact fin hC ZnD (ZL0 std a b a2 b2 ds es) (by simp[h1]) (by simp[h1]) rfl
def k81:Ctr:=⟨81,0,fun _ a=>match a with |[.agg (.gen [.int .i64 a, .int .i64 b, .list (.ints .i64 ds)]), .agg (.gen [.int .i64 a2, .int .i64 b2, .list (.ints .i64 es)])]=>some (decide (ds.length≤1000000), .bool (decide (a=a2∧b=b2∧ds=es)),none) |_=>none⟩
theorem ZIo:k81.OK Try.prog:=fun pa args r fr h=>by
 simp only[k81]at h
 split at h
 ·simp only[Option.some.injEq,Prod.mk.injEq,decide_eq_true_eq]at h
  obtain⟨h0,rfl,rfl⟩:=h
  exact ZCh _ _ _ _ _ _ h0
 ·cases h
def k113n:Ctr:=⟨113,0,fun _ a=>match a with |[.list (.gen [.nils, .list (.ints .i64 b)])]=>some (decide (0<b.length∧b.length≤1000000), .list (.ints .i64 b),Zn2) |_=>none⟩
theorem ZuK:k113n.OK Try.prog:=fun pa args r fr h=>by
 simp only[k113n]at h
 split at h
 ·simp only[Option.some.injEq,Prod.mk.injEq,decide_eq_true_eq]at h
  obtain⟨h0,rfl,rfl⟩:=h
  exact Zp0 _ h0
 ·cases h
def k113g:Ctr:=⟨113,0,fun _ a=>match a with |[.list (.big (.ints .i64) [.list (.ints .i64 a), .list (.ints .i64 b)])]=>some (decide (0<a.length+b.length∧a.length+b.length≤1000000), .list (.ints .i64 (a++b)),Zn2) |_=>none⟩
theorem Zud:k113g.OK Try.prog:=fun pa args r fr h=>by
 simp only[k113g]at h
 split at h
 ·simp only[Option.some.injEq,Prod.mk.injEq,decide_eq_true_eq]at h
  obtain⟨h0,rfl,rfl⟩:=h
  exact ZoP _ _ h0
 ·cases h
def BOo:List Ctr:=[k81,k113n,k113g]++BOn
theorem ZfJ:Zap Try.prog BOo:=⟨ZIo,⟨ZuK,⟨Zud,ZnD⟩⟩⟩
end Go.Proofs.Ytjhdnpmojhkbjaa
/- Paths of functions, printed by the explorer (Gx). No condition. -/
namespace Go.Proofs.Ytjhdnpmojhkbjaa
set_option maxRecDepth 100000
set_option linter.unusedVariables false
def Zv5(o:Bool)(p:List Int)(ds:List Int)(c:Int)(n:Int)(f:Int)(q:AV):AFrame:={ fn:=123,N:=37,env:=[(0,AV.eptr (AV.agg (Row.gen [AV.bool o,AV.list (.ints .i64 p),q])) 0),(1,AV.agg (Row.gen [AV.int .i64 c,AV.int .i64 n,AV.int .i64 f,AV.list (.ints .i64 ds)]))],todo:=[.code a123.code],defs:=[],rnd:=none,ret:=false,res:=[ARes.tmp 4] }
def ZxH(o:Bool)(p:List Int)(ds:List Int)(c:Int)(n:Int)(f:Int)(q:AV):List AFrame:=[(Zv5 o p ds c n f q)]
theorem Zts(o:Bool)(p:List Int)(ds:List Int)(c:Int)(n:Int)(f:Int)(q:AV):Zak tab 123 [AV.eptr (AV.agg (Row.gen [AV.bool o,AV.list (.ints .i64 p),q])) 0,AV.agg (Row.gen [AV.int .i64 c,AV.int .i64 n,AV.int .i64 f,AV.list (.ints .i64 ds)])]=some (Zv5 o p ds c n f q):=rfl
theorem ZCT(A:Ar)(o:Bool)(p ds:List Int)(c n f:Int)(q:AV):Zaz A tab BOo 21 [true] 123 (ZxH o p ds c n f q) []=
 some (tr [2,8] [A.eq (A.int (A.len p)) 0],
  AV.int .i64 0,none):=by kernel_rfl
theorem ZDJ(A:Ar)(o:Bool)(p ds:List Int)(c n f:Int)(q:AV):Zaz A tab BOo 39 [false,true] 123 (ZxH o p ds c n f q) []=
 some (tr [3,6,5,1,2,0,6,8] [A.lt (A.sub (A.add 3 (A.nth (List.append p ds) (A.nat 2))) (A.int (A.len p))) (A.int (A.len ds)),A.inR .i64 (A.sub (A.add 3 (A.nth (List.append p ds) (A.nat 2))) (A.int (A.len p))),A.inR .i64 (A.add 3 (A.nth (List.append p ds) (A.nat 2))),Zab (Zab (A.le 0 2) (Nat.blt (A.nat 2) (A.len (List.append p ds)))) true,decide (0<List.length p+List.length ds∧List.length p+List.length ds≤1000000),List.all [AV.list (.ints .i64 p),AV.list (.ints .i64 ds)] fun x=>AV.bx x&&Nat.beq (Zac A x) 1,!A.eq (A.int (A.len p)) 0],
  AV.int .i64 (A.sub (A.add 3 (A.nth (List.append p ds) (A.nat 2))) (A.int (A.len p))),none):=by kernel_rfl
theorem ZFX(A:Ar)(o:Bool)(p ds:List Int)(c n f:Int)(q:AV):Zaz A tab BOo 39 [false,false] 123 (ZxH o p ds c n f q) []=
 some (tr [2,6,5,1,2,0,6,8] [!A.lt (A.sub (A.add 3 (A.nth (List.append p ds) (A.nat 2))) (A.int (A.len p))) (A.int (A.len ds)),A.inR .i64 (A.sub (A.add 3 (A.nth (List.append p ds) (A.nat 2))) (A.int (A.len p))),A.inR .i64 (A.add 3 (A.nth (List.append p ds) (A.nat 2))),Zab (Zab (A.le 0 2) (Nat.blt (A.nat 2) (A.len (List.append p ds)))) true,decide (0<List.length p+List.length ds∧List.length p+List.length ds≤1000000),List.all [AV.list (.ints .i64 p),AV.list (.ints .i64 ds)] fun x=>AV.bx x&&Nat.beq (Zac A x) 1,!A.eq (A.int (A.len p)) 0],
  AV.int .i64 255,none):=by kernel_rfl
def ZIg(ps:List AV)(qs:List AV):AFrame:={ fn:=21,N:=27,env:=[(0,AV.list (Row.big (Sh.agg [Sh.int .i64,Sh.int .i64,Sh.ints .i64]) ps)),(1,AV.list (Row.big (Sh.agg [Sh.int .i64,Sh.int .i64,Sh.ints .i64]) qs))],todo:=[.code a21.code],defs:=[],rnd:=none,ret:=false,res:=[ARes.tmp 4] }
def ZNK(ps:List AV)(qs:List AV):List AFrame:=[(ZIg ps qs)]
theorem Zyg(ps:List AV)(qs:List AV):Zak tab 21 [AV.list (Row.big (Sh.agg [Sh.int .i64,Sh.int .i64,Sh.ints .i64]) ps),AV.list (Row.big (Sh.agg [Sh.int .i64,Sh.int .i64,Sh.ints .i64]) qs)]=some (ZIg ps qs):=rfl
def ZeG(ps qs:List AV)(n0:Int):List AFrame:=[{ fn:=21,N:=27,env:=[(0,AV.list (Row.big (Sh.agg [Sh.int .i64,Sh.int .i64,Sh.ints .i64]) ps)),(1,AV.list (Row.big (Sh.agg [Sh.int .i64,Sh.int .i64,Sh.ints .i64]) qs)),(5,AV.int .i64 n0)],todo:=.code (ACode.gh [] ZDh)::ZKw,defs:=[],rnd:=none,ret:=false,res:=[ARes.tmp 4] }]
def ZdJ(ps:List AV)(qs:List AV)(n0:Int):Zaa:=[]
abbrev Zjq(ps:List AV)(qs:List AV)(n0:Int):List AFrame×Zaa:=(ZeG ps qs n0,ZdJ ps qs n0)
theorem ZKY(A:Ar)(ps qs:List AV):Zaz A tab BOo 19 [true] 21 (ZNK ps qs) []=
 some (tr [2,6] [A.not (A.eq (A.int (A.lenA ps)) (A.int (A.lenA qs)))],
  AV.bool false,none):=by kernel_rfl
theorem ZMp(A:Ar)(ps qs:List AV):Zad A tab BOo 23 [false] (ZNK ps qs) []=
 some (tr [1,6] [!A.not (A.eq (A.int (A.lenA ps)) (A.int (A.lenA qs)))],
  Zjq (ps) (qs) (0)):=by kernel_rfl
theorem ZKf(A:Ar)(ps qs:List AV)(n0:Int):Zaz A tab BOo 22 [true,true] 21 (ZeG ps qs n0) (ZdJ ps qs n0)=
 some (tr [2,1,1,3,2,4] [A.not (decide (AV.toI (AV.cellAt (A.nthA ps (A.nat n0)) 0)=AV.toI (AV.cellAt (A.nthA qs (A.nat n0)) 0)∧AV.toI (AV.cellAt (A.nthA ps (A.nat n0)) 1)=AV.toI (AV.cellAt (A.nthA qs (A.nat n0)) 1)∧AV.toIs (AV.cellAt (A.nthA ps (A.nat n0)) 2)=AV.toIs (AV.cellAt (A.nthA qs (A.nat n0)) 2))),decide (List.length ((A.nthA ps (A.nat n0)).cellAt 2).toIs≤1000000),Zab (Zab (A.le 0 n0) (Nat.blt (A.nat n0) (A.lenA qs))) true,Zab (Zab (A.le 0 n0) (Nat.blt (A.nat n0) (A.lenA ps))) true,A.lt n0 (A.int (A.lenA ps))],
  AV.bool false,none):=by kernel_rfl
theorem ZJ3(A:Ar)(ps qs:List AV)(n0:Int):Zad A tab BOo 26 [true,false] (ZeG ps qs n0) (ZdJ ps qs n0)=
 some (tr [1,1,1,1,3,2,4] [A.inR .i64 (A.add n0 1),!A.not (decide (AV.toI (AV.cellAt (A.nthA ps (A.nat n0)) 0)=AV.toI (AV.cellAt (A.nthA qs (A.nat n0)) 0)∧AV.toI (AV.cellAt (A.nthA ps (A.nat n0)) 1)=AV.toI (AV.cellAt (A.nthA qs (A.nat n0)) 1)∧AV.toIs (AV.cellAt (A.nthA ps (A.nat n0)) 2)=AV.toIs (AV.cellAt (A.nthA qs (A.nat n0)) 2))),decide (List.length ((A.nthA ps (A.nat n0)).cellAt 2).toIs≤1000000),Zab (Zab (A.le 0 n0) (Nat.blt (A.nat n0) (A.lenA qs))) true,Zab (Zab (A.le 0 n0) (Nat.blt (A.nat n0) (A.lenA ps))) true,A.lt n0 (A.int (A.lenA ps))],
  Zjq (ps) (qs) (A.add n0 1)):=by kernel_rfl
theorem ZKS(A:Ar)(ps qs:List AV)(n0:Int):Zaz A tab BOo 16 [false] 21 (ZeG ps qs n0) (ZdJ ps qs n0)=
 some (tr [2,4] [!A.lt n0 (A.int (A.lenA ps))],
  AV.bool true,none):=by kernel_rfl
end Go.Proofs.Ytjhdnpmojhkbjaa
/- Contracts as a list. No condition. -/
namespace Go.Proofs.Ytjhdnpmojhkbjaa
def ZJF(p ds:List Int):Int:=3+(p++ds).getD 2 0-(p.length:Int)
def ZkT(a:Int)(p ds:List Int):Int:=if p.length=0 then 0 else if ZJF p ds<a then ZJF p ds else 255
def ZlM(p ds:List Int):Bool:=decide (p.length≤400000∧ds.length≤400000∧3≤p.length+ds.length)&&decide (-1000000≤(p++ds).getD 2 0∧(p++ds).getD 2 0≤1000000)
theorem ZFa(o:Bool)(p ds:List Int)(c n f:Int)(q:AV)(h:ZlM p ds=true):ZaH Try.prog 123 [.eptr (.agg (.gen [.bool o, .list (.ints .i64 p),q])) 0, .agg (.gen [.int .i64 c, .int .i64 n, .int .i64 f, .list (.ints .i64 ds)])] (.int .i64 (ZkT ds.length p ds)) none:=
 start (Zts o p ds c n f q) fun C hC=>by
  unfold ZlM at h
  simp only[Bool.and_eq_true,decide_eq_true_eq]at h
  unfold ZkT
  by_cases h1:p.length=0
  ·rw[if_pos h1]
   exact fin hC ZfJ (ZCT std o p ds c n f q) (by simp[h1]) rfl rfl
  ·rw[if_neg h1]
   have hl:(p++ds).length=p.length+ds.length:=List.length_append
   have hp:p≠[]:=fun e=>h1 (by rw[e];rfl)
   have hv:ZJF p ds=3+(p++ds).getD 2 0-(p.length:Int):=rfl
   by_cases h2:ZJF p ds<ds.length
   ·rw[if_pos h2]
    have hw:=ZDJ std o p ds c n f q
    simp only[ZaC,Zfw,ZaW,ZcZ,ZfQ,ZbT,show Int.toNat 2=2 from rfl,show List.append p ds=p++ds from rfl]at hw
    rw[←hv]at hw
    refine fin hC ZfJ hw ?_ rfl rfl
    generalize (p++ds).getD 2 0=u at*
    simp[h1,h2,hl,AV.bx,Zac]
    omega
   ·rw[if_neg h2]
    have hw:=ZFX std o p ds c n f q
    simp only[ZaC,Zfw,ZaW,ZcZ,ZfQ,ZbT,show Int.toNat 2=2 from rfl,show List.append p ds=p++ds from rfl]at hw
    rw[←hv]at hw
    refine fin hC ZfJ hw ?_ rfl rfl
    generalize (p++ds).getD 2 0=u at*
    simp[h1,h2,hl,AV.bx,Zac]
    omega
def pkT(p:AV):Int×Int×List Int:=((p.cellAt 0).toI,(p.cellAt 1).toI,(p.cellAt 2).toIs)
def ZrM(ps:List AV):Bool:=decide (ps.length≤1000000)&&ps.all fun p=>decide ((pkT p).2.2.length≤1000000)
theorem l21{C:Ctx}(hC:C.P=Try.prog)(xs ys:List AV)(hl:xs.length=ys.length)(hlen:xs.length≤1000000)(hk:∀f∈xs,(pkT f).2.2.length≤1000000):∀(d i:Nat),xs.length-i=d→i≤xs.length→(xs.take i).map pkT=(ys.take i).map pkT→
 Ev C (ZeG xs ys i) (ZdJ xs ys i) (ZdV 21 (.bool (decide (xs.map pkT=ys.map pkT))) none):=by
 intro d
 induction d with
 |zero=>
  intro i hd hi ht
  have hi:i=xs.length:=by omega
  have he:xs.map pkT=ys.map pkT:=by rw[hi]at ht;rw[List.take_length,hl,List.take_length]at ht;exact ht
  exact fin hC ZfJ (ZKS std xs ys i) (by simp;omega) (by simp[he]) rfl
 |succ d ih=>
  intro i hd hi ht
  have hlt:i<xs.length:=by omega
  have hlt2:i<ys.length:=by omega
  have e1:xs.getD i .top=xs[i]:=by simp[hlt]
  have e2:ys.getD i .top=ys[i]:=by simp[hlt2]
  have hb:(xs[i].cellAt 2).toIs.length≤1000000:=hk xs[i] (by simp)
  by_cases h1:pkT xs[i]=pkT ys[i]
  ·have h2:=h1
   simp only[pkT,Prod.mk.injEq]at h2
   have hw:=ZJ3 std xs ys i
   simp only[ZaC,Zar,Int.toNat_natCast,e1,e2,decide_eq_true h2,decide_eq_true hb]at hw
   refine go hC ZfJ hw ?_ (ih (i+1) (by omega) (by omega) (by
    rw[List.take_succ_eq_append_getElem hlt,List.take_succ_eq_append_getElem hlt2,List.map_append,List.map_append,ht,List.map_singleton,List.map_singleton,h1]))
   simp[hlt,hlt2]
   omega
  ·have h2:¬((xs[i].cellAt 0).toI=(ys[i].cellAt 0).toI∧(xs[i].cellAt 1).toI=(ys[i].cellAt 1).toI∧(xs[i].cellAt 2).toIs=(ys[i].cellAt 2).toIs):=fun e=>h1 (by simp only[pkT,e.1,e.2.1,e.2.2])
   have hw:=ZKf std xs ys i
   simp only[ZaC,Zar,Int.toNat_natCast,e1,e2,decide_eq_false h2,decide_eq_true hb]at hw
   refine fin hC ZfJ hw ?_ ?_ rfl
   ·simp[hlt,hlt2]
   ·have:xs.map pkT≠ys.map pkT:=fun e=>h1 (by
     have:=congrArg (fun l=>l[i]?) e
     simpa[hlt,hlt2]using this)
    simp[this]
theorem Zwr(xs ys:List AV)(h:ZrM xs=true):ZaH Try.prog 21 [.list (.big (.agg [.int .i64, .int .i64, .ints .i64]) xs), .list (.big (.agg [.int .i64, .int .i64, .ints .i64]) ys)] (.bool (decide (xs.map pkT=ys.map pkT))) none:=
 start (Zyg xs ys) fun C hC=>by
  unfold ZrM at h
  simp only[Bool.and_eq_true,decide_eq_true_eq,List.all_eq_true]at h
  by_cases hl:xs.length=ys.length
  ·exact go hC ZfJ (ZMp std xs ys) (by simp[hl]) (l21 hC xs ys hl h.1 h.2 xs.length 0 (by omega) (by omega) rfl)
  ·refine fin hC ZfJ (ZKY std xs ys) (by simp;omega) ?_ rfl
   have:xs.map pkT≠ys.map pkT:=fun e=>hl (by have:=congrArg List.length e;simpa using this)
   simp[this]
def k123:Ctr:=⟨123,0,fun _ a=>match a with |[.eptr (.agg (.gen [.bool _, .list (.ints .i64 p),_])) 0, .agg (.gen [.int .i64 _, .int .i64 _, .int .i64 _, .list (.ints .i64 ds)])]=>some (decide (ZlM p ds=true), .int .i64 (ZkT ds.length p ds),none) |_=>none⟩
theorem ZzX:k123.OK Try.prog:=fun pa args r fr h=>by
 simp only[k123]at h
 split at h
 ·simp only[Option.some.injEq,Prod.mk.injEq,decide_eq_true_eq]at h
  obtain⟨h0,rfl,rfl⟩:=h
  exact ZFa _ _ _ _ _ _ _ h0
 ·cases h
def k21:Ctr:=⟨21,0,fun _ a=>match a with |[.list (.big (.agg [.int .i64, .int .i64, .ints .i64]) xs), .list (.big (.agg [.int .i64, .int .i64, .ints .i64]) ys)]=>some (decide (ZrM xs=true), .bool (decide (xs.map pkT=ys.map pkT)),none) |_=>none⟩
theorem ZIH:k21.OK Try.prog:=fun pa args r fr h=>by
 simp only[k21]at h
 split at h
 ·simp only[Option.some.injEq,Prod.mk.injEq,decide_eq_true_eq]at h
  obtain⟨h0,rfl,rfl⟩:=h
  exact Zwr _ _ h0
 ·cases h
def BOp:List Ctr:=[k123,k21]++BOo
theorem ZaO:Zap Try.prog BOp:=⟨ZzX,⟨ZIH,ZfJ⟩⟩
end Go.Proofs.Ytjhdnpmojhkbjaa
/- Packets out of bytes: by whole packets, and byte by byte; frames one after the other. No condition. -/
namespace Go.Proofs.Ytjhdnpmojhkbjaa
def bytP(p:List Int):Prop:=∀b∈p,0≤b∧b≤255
theorem Zcz{p:List Int}(h:bytP p)(i:Nat):0≤p.getD i 0∧p.getD i 0≤255:=by
 by_cases hi:i<p.length
 ·have:p.getD i 0∈p:=by rw[List.getD_eq_getElem?_getD,List.getElem?_eq_getElem hi];exact List.getElem_mem _
  exact h _ this
 ·rw[List.getD_eq_getElem?_getD,List.getElem?_eq_none (by omega)];decide
theorem bytP.drop{p:List Int}(h:bytP p)(n:Nat):bytP (p.drop n):=fun b hb=>h b (List.mem_of_mem_drop hb)
theorem bytP.app{p q:List Int}(h:bytP p)(h2:bytP q):bytP (p++q):=fun b hb=>by
 rcases List.mem_append.1 hb with hb |hb
 ·exact h b hb
 ·exact h2 b hb
def pkA(p:List Int):AV:=.agg (.gen [.int .i64 (p.getD 0 0), .int .i64 (p.getD 1 0), .list (.ints .i64 ((p.drop 3).take (p.getD 2 0).toNat))])
def eat(p:List Int):List AV×List Int:=
 if h:3≤p.length∧0≤p.getD 2 0∧3+p.getD 2 0≤p.length then
  ((if p.getD 0 0=255 then []else [pkA p])++(eat (p.drop (3+p.getD 2 0).toNat)).1,(eat (p.drop (3+p.getD 2 0).toNat)).2)
 else([],p)
termination_by p.length
decreasing_by all_goals (rw [List.length_drop];omega)
theorem Zdi{p:List Int}(h:p.length<3∨(p.length:Int)<3+p.getD 2 0):eat p=([],p):=by
 rw[eat,dif_neg (by omega)]
theorem ZkC{p:List Int}(hb:bytP p)(h1:3≤p.length)(h2:3+p.getD 2 0≤p.length):eat p=((if p.getD 0 0=255 then []else [pkA p])++(eat (p.drop (3+p.getD 2 0).toNat)).1,(eat (p.drop (3+p.getD 2 0).toNat)).2):=by
 rw[eat,dif_pos ⟨h1,(Zcz hb 2).1,h2⟩]
theorem ZkA:∀(n:Nat) (p:List Int),p.length≤n→bytP p→bytP (eat p).2∧((eat p).2.length<3∨((eat p).2.length:Int)<3+(eat p).2.getD 2 0)∧(eat p).1.length≤p.length∧∀x∈(eat p).1,(pkT x).2.2.length≤255∧x=.agg (.gen [.int .i64 (pkT x).1, .int .i64 (pkT x).2.1, .list (.ints .i64 (pkT x).2.2)]):=by
 intro n
 induction n with
 |zero=>
  intro p hp hb
  rw[Zdi (by omega)]
  exact⟨hb,by dsimp only;omega,by simp,by simp⟩
 |succ n ih=>
  intro p hp hb
  have hv:=Zcz hb 2
  by_cases h:3≤p.length∧3+p.getD 2 0≤p.length
  ·rw[ZkC hb h.1 h.2]
   obtain⟨i1,i2,i3,i4⟩:=ih (p.drop (3+p.getD 2 0).toNat) (by rw[List.length_drop];omega) (hb.drop _)
   refine⟨i1,i2,?_,?_⟩
   ·rw[List.length_append]
    rw[List.length_drop]at i3
    split
    ·rw[List.length_nil];omega
    ·rw[List.length_singleton];omega
   ·intro x hx
    rcases List.mem_append.1 hx with hx |hx
    ·split at hx
     ·simp at hx
     ·rw[List.mem_singleton]at hx
      subst hx
      refine⟨?_,rfl⟩
      show((p.drop 3).take (p.getD 2 0).toNat).length≤255
      rw[List.length_take];omega
    ·exact i4 x hx
  ·rw[Zdi (by omega)]
   exact⟨hb,by dsimp only;omega,by simp,by simp⟩
theorem Zqk{p:List Int}(hb:bytP p):(eat p).2.length≤257:=by
 obtain⟨h1,h2,_⟩:=ZkA p.length p (Nat.le_refl _) hb
 have:=Zcz h1 2
 omega
def dsN(x:AV):List Int:=(AV.cellAt x 3).toIs
def fiN(x:AV):Int:=(AV.cellAt x 2).toI
def Zfu(st:Option (List Int))(last:Int)(x:AV):Option (List Int):=match st with
 |none=>none
 |some p=>if Zav x=last+1∧fiN x=ZkT (dsN x).length p (dsN x)then some p else none
def Zs4(st:Option (List Int))(last:Int)(x:AV):Option (List Int):=match Zfu st last x with
 |some p=>some (p++dsN x)
 |none=>if fiN x=255 then none else some ((dsN x).drop (fiN x).toNat)
def ZlF(st:Option (List Int))(last:Int)(x:AV):List AV:=match Zs4 st last x with |some p=>(eat p).1 |none=>[]
def ZlJ(st:Option (List Int))(last:Int)(x:AV):Option (List Int):=match Zs4 st last x with |some p=>some (eat p).2 |none=>none
def ZpP(st:Option (List Int))(last:Int):List AV→List AV
 |[]=>[]
 |x::xs=>ZlF st last x++ZpP (ZlJ st last x) (Zav x) xs
def okX(a:Int)(x:AV):Prop:=((0≤fiN x∧fiN x≤a-1)∨fiN x=255)∧((dsN x).length:Int)=a∧bytP (dsN x)
def okS(st:Option (List Int)):Prop:=match st with |none=>True |some p=>bytP p∧p.length≤257∧(p.length<3∨(p.length:Int)<3+p.getD 2 0)
theorem Zsr{a:Int}{st:Option (List Int)}{last:Int}{x:AV}(hs:okS st)(hx:okX a x)(ha:4≤a∧a≤24){p:List Int}(hp:Zs4 st last x=some p):bytP p∧p.length≤290∧0<p.length:=by
 obtain⟨h1,h2,h3⟩:=hx
 unfold Zs4 at hp
 split at hp
 ·rename_i q hq
  cases hp
  have:st=some q:=by
   unfold Zfu at hq
   split at hq
   ·cases hq
   ·split at hq
    ·cases hq;rfl
    ·cases hq
  rw[this]at hs
  obtain⟨q1,q2,_⟩:=hs
  exact⟨q1.app h3,by rw[List.length_append];omega,by rw[List.length_append];omega⟩
 ·split at hp
  ·cases hp
  ·cases hp
   rename_i h4
   exact⟨h3.drop _,by rw[List.length_drop];omega,by rw[List.length_drop];omega⟩
theorem Zqq{a:Int}{st:Option (List Int)}{last:Int}{x:AV}(hs:okS st)(hx:okX a x)(ha:4≤a∧a≤24):okS (ZlJ st last x):=by
 unfold ZlJ
 split
 ·rename_i p hp
  obtain⟨h1,h2,h3⟩:=Zsr hs hx ha hp
  obtain⟨i1,i2,_⟩:=ZkA _ p (Nat.le_refl _) h1
  exact⟨i1,Zqk h1,i2⟩
 ·trivial
theorem Zoo{a:Int}{st:Option (List Int)}{last:Int}{x:AV}(hs:okS st)(hx:okX a x)(ha:4≤a∧a≤24):(ZlF st last x).length≤290∧∀y∈ZlF st last x,(pkT y).2.2.length≤255:=by
 unfold ZlF
 split
 ·rename_i p hp
  obtain⟨h1,h2,h3⟩:=Zsr hs hx ha hp
  obtain⟨_,_,i3,i4⟩:=ZkA _ p (Nat.le_refl _) h1
  exact⟨by omega,fun y hy=>(i4 y hy).1⟩
 ·exact⟨by simp,by simp⟩
end Go.Proofs.Ytjhdnpmojhkbjaa
