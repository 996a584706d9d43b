/- Contracts as a list. No condition. -/
import Derived.Test.YtklbmkllepkjcaaGf
import Derived.KernelRfl
namespace Go.Proofs.Ytklbmkllepkjcaa
theorem Zo2(m:Nat)(hm:m<2^32):(BitVec.ofInt 64 (m:Int)).toNat=m:=by
 rw[BitVec.ofInt_natCast,BitVec.toNat_ofNat];exact Nat.mod_eq_of_lt (by omega)
theorem Zb7{r k:Nat}(hr:r<2^32)(hk:k<2^32):std.bits .xor .i64 (r:Int) (k:Int)=((r ^^^ k:Nat):Int):=by
 show IntKind.i64.wrap ((BitVec.ofInt 64 (r:Int) ^^^ BitVec.ofInt 64 (k:Int)).toNat:Int)=_
 rw[BitVec.toNat_xor,Zo2 r hr,Zo2 k hk]
 have:r ^^^ k<2^32:=Nat.xor_lt_two_pow hr hk
 rw[IntKind.wrap_i64]
 omega
theorem ZlT{r:Nat}(hr:r<2^32):std.bits .and .i64 (r:Int) 1=((r%2:Nat):Int):=by
 show IntKind.i64.wrap ((BitVec.ofInt 64 (r:Int) &&& BitVec.ofInt 64 ((1:Nat):Int)).toNat:Int)=_
 rw[BitVec.toNat_and,Zo2 r hr,Zo2 1 (by omega),Nat.and_one_is_mod,IntKind.wrap_i64]
 omega
def ZFa:Nat→Nat→Nat→Nat→Nat
 |0,_,_,o=>o
 |k+1,a,b,o=>if b=0 then o else ZFa k (xt a) (b/2) (if b%2=1 then o ^^^ a else o)
theorem ZHj{a b:Nat}(ha:a<16)(hb:b<16):ZFa 4 a b 0=Zat a b:=by
 have h:ZyP (fun a b=>decide (ZFa 4 a b 0=Zat a b))=true:=by kernel_rfl
 exact of_decide_eq_true (Zdg h ha hb)
theorem ZSl{a:Nat}(ha:a<16):xt a<16:=by
 have h:ZyP (fun a _=>decide (xt a<16))=true:=by kernel_rfl
 exact of_decide_eq_true (Zdg h ha (b:=0) (by omega))
section
variable {C:Ctx}(hC:C.P=Try.prog)
include hC
theorem L71:∀(k a b o:Nat),a<16→b<2^k→k≤4→o<16→Ev C (Zld a b o) (Zin a b o) (Zav 71 (.int .i64 ((ZFa k a b o:Nat):Int)) none):=by
 intro k
 induction k with
 |zero=>
  intro a b o ha hb _ ho
  have:b=0:=by omega
  subst this
  refine tgo hC ZaT ZnT ?_
  simp[Zfh,ZFa]
 |succ k ih=>
  intro a b o ha hb hk ho
  refine tgo hC ZaT ZnT ?_
  by_cases h0:b=0
  ·subst h0;simp[Zfh,ZFa]
  ·have hb16:b<16:=by have:=Nat.pow_le_pow_right (show 0<2 by omega) hk;omega
   have hb2:b/2<2^k:=by rw[Nat.pow_succ]at hb;omega
   have e1:=ZlT (r:=b) (by omega)
   have e2:=Zb7 (r:=o) (k:=a) (by omega) (by omega)
   have e3:=Zb7 (r:=2*a) (k:=19) (by omega) (by omega)
   have e4:(b:Int).fdiv 2=((b/2:Nat):Int):=by rw[Int.fdiv_eq_ediv_of_nonneg _ (by omega)];rfl
   have e5:(a:Int)*2=((2*a:Nat):Int):=by omega
   have hx:=ZSl ha
   have ho2:(if b%2=1 then o ^^^ a else o)<16:=by split;exact Zcc ho ha;exact ho
   have i:=ih (xt a) (b/2) (if b%2=1 then o ^^^ a else o) hx hb2 (by omega) ho2
   rw[ZFa,if_neg h0]
   have hp:(0:Int)<(b:Int):=by omega
   have e6:((19:Nat):Int)=19:=rfl
   rw[e6]at e3
   unfold xt at i⊢
   have e7:∀x:Nat,(((x:Nat):Int)=1)=(x=1):=fun x=>by simp;omega
   have e8:((16:Int)≤((2*a:Nat):Int))=¬(a<8):=by simp;omega
   simp only[Zfh,ZBs,ZTd,ZR7,ZaF,ZsM,ZE8,e1,e2,Int.toNat_one,Int.pow_one,e4,e5,e3,e7,e8,Zu0,Zvh,decide_eq_true hp,if_true]
   have hA:AllT [Zad (Zad (decide ((0:Int)≤1)) (Nat.blt 1 64)) (std.inR .i64 ((2*a:Nat):Int))]:=by simp;omega
   have hB:AllT [Zad (decide ((0:Int)≤1)) (Nat.blt 1 64)]:=by simp
   by_cases h1:b%2=1<;>by_cases h2:a<8<;>simp only[h1,h2,decide_true,decide_false,not_true,not_false,if_true,if_false,Bool.false_eq_true]at i⊢
   all_goals first |exact⟨hA,hB,i⟩ |(refine ⟨hA,?_⟩;rw[if_pos (by simp)];exact⟨hB,i⟩)
end
def ZA3(a b:Nat):Nat→Nat→Nat→Nat
 |0,_,o=>o
 |k+1,n,o=>ZA3 a b k (n+1) (if b/2^n%2=1 then o ^^^ (a*2^n)else o)
def ZGE:Nat→Nat→Nat
 |0,o=>o
 |k+1,o=>ZGE k (if o/2^(k+4)%2=1 then o ^^^ (19*2^k)else o)
theorem ZFR{a b:Nat}(ha:a<16)(hb:b<16):ZGE 3 (ZA3 a b 4 0 0)=Zat a b∧ZA3 a b 4 0 0<128:=by
 have h:ZyP (fun a b=>decide (ZGE 3 (ZA3 a b 4 0 0)=Zat a b∧ZA3 a b 4 0 0<128))=true:=by kernel_rfl
 exact of_decide_eq_true (Zdg h ha hb)
section
variable {C:Ctx}(hC:C.P=Try.prog)
include hC
theorem D22:∀(k o:Nat),k≤3→o<128→Ev C (Zk6 o ((k:Int)+3)) (Zi7 o ((k:Int)+3)) (Zav 22 (.int .i64 ((ZGE k o:Nat):Int)) none):=by
 intro k
 induction k with
 |zero=>
  intro o _ ho
  refine tgo hC ZaT ZoP ?_
  simp[Zie,ZGE]
 |succ k ih=>
  intro o hk ho
  refine tgo hC ZaT ZoP ?_
  have k1:(((k+1:Nat):Int)+3).toNat=k+4:=by omega
  have k2:(((k+1:Nat):Int)+3-4).toNat=k:=by omega
  have k3:((k+1:Nat):Int)+3-1=(k:Int)+3:=by omega
  have hp:(2:Int)^(k+4)=((2^(k+4):Nat):Int):=by rw[Int.natCast_pow];rfl
  have hp2:(19:Int)*2^k=((19*2^k:Nat):Int):=by rw[Int.natCast_mul,Int.natCast_pow];rfl
  have hk3:k=0∨k=1∨k=2:=by omega
  have h19:19*2^k<128:=by rcases hk3 with rfl |rfl |rfl<;>decide
  have e4:(o:Int).fdiv (2^(k+4))=((o/2^(k+4):Nat):Int):=by rw[hp,Int.fdiv_eq_ediv_of_nonneg _ (Int.natCast_nonneg _)];rfl
  have hd:o/2^(k+4)≤o:=Nat.div_le_self _ _
  have e1:=ZlT (r:=o/2^(k+4)) (by omega)
  have e2:=Zb7 (r:=o) (k:=19*2^k) (by omega) (by omega)
  have ho2:(if o/2^(k+4)%2=1 then o ^^^ (19*2^k)else o)<128:=by split;exact Nat.xor_lt_two_pow (n:=7) ho h19;exact ho
  have i:=ih (if o/2^(k+4)%2=1 then o ^^^ (19*2^k)else o) (by omega) ho2
  rw[ZGE]
  have e7:∀x:Nat,(((x:Nat):Int)=1)=(x=1):=fun x=>by simp;omega
  have g:(4:Int)≤((k+1:Nat):Int)+3:=by omega
  have hA:AllT [Zad (decide ((0:Int)≤((k+1:Nat):Int)+3)) (Nat.blt (k+4) 64)]:=by simp;omega
  have hB:AllT [std.inR .i64 ((k:Int)+3),Zad (Zad (decide ((0:Int)≤((k+1:Nat):Int)+3-4)) (Nat.blt k 64)) (std.inR .i64 ((19*2^k:Nat):Int)),std.inR .i64 (((k+1:Nat):Int)+3-4)]:=by simp;omega
  have hD:AllT [std.inR .i64 ((k:Int)+3)]:=by simp;omega
  simp only[Zie,ZTd,ZR7,ZaF,ZhX,ZsM,ZE8,k1,k2,k3,e4,e1,hp2,e2,e7,Zu0,Zvh,decide_eq_true g,if_true]
  refine⟨hA,?_⟩
  by_cases h1:o/2^(k+4)%2=1
  ·rw[if_pos h1]at i⊢
   rw[if_pos (decide_eq_true h1)]
   exact⟨hB,i⟩
  ·rw[if_neg h1]at i⊢
   rw[if_neg (by simpa using h1)]
   exact⟨hD,i⟩
theorem U22(a b:Nat)(ha:a<16)(hb:b<16):∀(k n o:Nat),n+k=4→o<128→ZGE 3 (ZA3 a b k n o)=Zat a b→ZA3 a b k n o<128→Ev C (ZlC a b o n) (ZiV a b o n) (Zav 22 (.int .i64 ((Zat a b:Nat):Int)) none):=by
 intro k
 induction k with
 |zero=>
  intro n o hn ho he hu
  rw[ZA3]at he hu
  refine tgo hC ZaT Zng ?_
  have i:=D22 hC 3 o (by omega) ho
  rw[he]at i
  have h4:n=4:=by omega
  subst h4
  simp[ZiT]at i⊢
  exact i
 |succ k ih=>
  intro n o hn ho he hu
  rw[ZA3]at he hu
  refine tgo hC ZaT Zng ?_
  have hn3:n=0∨n=1∨n=2∨n=3:=by omega
  have hp:(2:Int)^n=((2^n:Nat):Int):=by rw[Int.natCast_pow];rfl
  have hp2:(a:Int)*2^n=((a*2^n:Nat):Int):=by rw[Int.natCast_mul,Int.natCast_pow];rfl
  have h19:a*2^n<128:=by rcases hn3 with rfl |rfl |rfl |rfl<;>omega
  have e4:(b:Int).fdiv (2^n)=((b/2^n:Nat):Int):=by rw[hp,Int.fdiv_eq_ediv_of_nonneg _ (Int.natCast_nonneg _)];rfl
  have hd:b/2^n≤b:=Nat.div_le_self _ _
  have e1:=ZlT (r:=b/2^n) (by omega)
  have e2:=Zb7 (r:=o) (k:=a*2^n) (by omega) (by omega)
  have ho2:(if b/2^n%2=1 then o ^^^ (a*2^n)else o)<128:=by split;exact Nat.xor_lt_two_pow (n:=7) ho h19;exact ho
  have i:=ih (n+1) (if b/2^n%2=1 then o ^^^ (a*2^n)else o) (by omega) ho2 he hu
  have e7:∀x:Nat,(((x:Nat):Int)=1)=(x=1):=fun x=>by simp;omega
  have g:(n:Int)<4:=by omega
  have hA:AllT [Zad (decide ((0:Int)≤(n:Int))) (Nat.blt n 64)]:=by simp;omega
  have hB:AllT [std.inR .i64 ((n:Int)+1),Zad (Zad (decide ((0:Int)≤(n:Int))) (Nat.blt n 64)) (std.inR .i64 ((a*2^n:Nat):Int))]:=by simp;omega
  have hD:AllT [std.inR .i64 ((n:Int)+1)]:=by simp;omega
  simp only[ZiT,ZBs,ZR7,ZaF,ZcU,ZsM,ZE8,Int.toNat_natCast,e4,e1,hp2,e2,e7,Zu0,Zvh,decide_eq_true g,if_true]
  refine⟨hA,?_⟩
  by_cases h1:b/2^n%2=1
  ·rw[if_pos h1]at i
   rw[if_pos (decide_eq_true h1)]
   exact⟨hB,i⟩
  ·rw[if_neg h1]at i
   rw[if_neg (by simpa using h1)]
   exact⟨hD,i⟩
end
theorem Zd8{a:Int}(h:elB a=true):∃n:Nat,a=n∧n<16:=by
 have:=of_decide_eq_true h
 exact⟨a.toNat,by omega,by omega⟩
theorem Zyz(a b:Int)(ha:elB a=true)(hb:elB b=true):Zaj Try.prog 71 [.int .i64 a, .int .i64 b] (.int .i64 (gM a b)) none:=by
 obtain⟨m,rfl,hm⟩:=Zd8 ha
 obtain⟨n,rfl,hn⟩:=Zd8 hb
 refine start (ZEF m n) fun C hC=>tgo hC ZaT ZRn ?_
 have i:=L71 hC 4 m n 0 hm (by omega) (by omega) (by omega)
 rw[ZHj hm hn]at i
 simp[ZIB,gM]at i⊢
 exact i
theorem ZyQ(a b:Int)(ha:elB a=true)(hb:elB b=true):Zaj Try.prog 22 [.int .i64 a, .int .i64 b] (.int .i64 (gM a b)) none:=by
 obtain⟨m,rfl,hm⟩:=Zd8 ha
 obtain⟨n,rfl,hn⟩:=Zd8 hb
 refine start (ZFU m n) fun C hC=>tgo hC ZaT ZQe ?_
 obtain⟨p1,p2⟩:=ZFR hm hn
 have i:=U22 hC m n hm hn 4 0 0 (by omega) (by omega) p1 p2
 simp[ZJP,gM]at i⊢
 exact i
def k71:Ctr:=⟨71,0,fun _ a=>match a with |[.int .i64 a, .int .i64 b]=>some (decide (elB a=true∧elB b=true), .int .i64 (gM a b),none) |_=>none⟩
theorem ZOi:k71.OK Try.prog:=fun pa args r fr h=>by
 simp only[k71]at h
 split at h
 ·simp only[Option.some.injEq,Prod.mk.injEq,decide_eq_true_eq]at h
  obtain⟨h0,rfl,rfl⟩:=h
  exact Zyz _ _ h0.1 h0.2
 ·cases h
def k22:Ctr:=⟨22,0,fun _ a=>match a with |[.int .i64 a, .int .i64 b]=>some (decide (elB a=true∧elB b=true), .int .i64 (gM a b),none) |_=>none⟩
theorem ZJo:k22.OK Try.prog:=fun pa args r fr h=>by
 simp only[k22]at h
 split at h
 ·simp only[Option.some.injEq,Prod.mk.injEq,decide_eq_true_eq]at h
  obtain⟨h0,rfl,rfl⟩:=h
  exact ZyQ _ _ h0.1 h0.2
 ·cases h
def Ka:List Ctr:=[k71,k22]++Jb
theorem Zid:Zay Try.prog Ka:=⟨ZOi,⟨ZJo,ZQn⟩⟩
end Go.Proofs.Ytklbmkllepkjcaa
/- Paths of functions, printed by the explorer (Gx). No condition. -/
namespace Go.Proofs.Ytklbmkllepkjcaa
set_option maxRecDepth 100000
set_option linter.unusedVariables false
def ZDl(n:Int):AFrame:=vF 117 12 [vI 0 n] [.code a117.code] [.tmp 2]
def ZSx(n:Int):List AFrame:=[(ZDl n)]
theorem ZBO(n:Int):Zal tab 117 [AV.int .i64 n]=some (ZDl n):=rfl
def Zgc(n0 n1 n2:Int):List AFrame:=[vF 117 12 [vI 3 n1,vI 5 n0,vI 6 n2] (vC ZC0 ZLK) [.tmp 2]]
def ZeQ(n0 n1 n2:Int):Zaa:=[]
abbrev ZjT(n0 n1 n2:Int):List AFrame×Zaa:=(Zgc n0 n1 n2,ZeQ n0 n1 n2)
def ZCL(A:Ar)(K:KT)(F:FT)(n:Int):Prop:=rB [A.not (A.eq 15 0)] (K (ZjT (A.rem n 15) 1 0))
theorem ZJZ{A:Ar}{K:KT}{F:FT}{M:MT}{n:Int} :Zah A tab Ka 117 K F M (.run 18 (.hd)) (ZSx n) []=ZCL A K F n:=by kernel_rfl
def Zep(A:Ar)(K:KT)(F:FT)(n0 n1 n2:Int):Prop:=bB (A.lt n2 n0) (rB [A.inR .i64 (A.add n2 1),decide (elB n1=true∧elB 2=true)] (K (ZjT n0 (gM n1 2) (A.add n2 1)))) (F (AV.int .i64 n1) none)
theorem ZjC{A:Ar}{K:KT}{F:FT}{M:MT}{n0 n1 n2:Int} :Zah A tab Ka 117 K F M (.run 6 (.tf (.run 15 (.hd)) (.run 7 (.fn)))) (Zgc n0 n1 n2) (ZeQ n0 n1 n2)=Zep A K F n0 n1 n2:=by kernel_rfl
def ZMW(n:Int):AFrame:=vF 77 13 [vI 0 n] [.code a77.code] [.tmp 2]
def ZTV(n:Int):List AFrame:=[(ZMW n)]
theorem ZER(n:Int):Zal tab 77 [AV.int .i64 n]=some (ZMW n):=rfl
def Zlq(n n0 n1:Int):List AFrame:=[vF 77 13 [vI 0 n,vI 3 n0,vI 4 n1] (vC ZK9 ZPx) [.tmp 2]]
def ZiO(n n0 n1:Int):Zaa:=[]
abbrev ZnM(n n0 n1:Int):List AFrame×Zaa:=(Zlq n n0 n1,ZiO n n0 n1)
def ZLc(A:Ar)(K:KT)(F:FT)(n:Int):Prop:=K (ZnM n 1 0)
theorem ZQT{A:Ar}{K:KT}{F:FT}{M:MT}{n:Int} :Zah A tab Ka 77 K F M (.run 16 (.hd)) (ZTV n) []=ZLc A K F n:=by kernel_rfl
def ZiC(A:Ar)(K:KT)(F:FT)(n n0 n1:Int):Prop:=bB (A.lt n1 n) (rB [A.inR .i64 (A.add n1 1),decide (elB n0=true∧elB 2=true)] (K (ZnM n (gM n0 2) (A.add n1 1)))) (F (AV.int .i64 n0) none)
theorem Zoj{A:Ar}{K:KT}{F:FT}{M:MT}{n n0 n1:Int} :Zah A tab Ka 77 K F M (.run 8 (.tf (.run 16 (.hd)) (.run 7 (.fn)))) (Zlq n n0 n1) (ZiO n n0 n1)=ZiC A K F n n0 n1:=by kernel_rfl
def ZDa(n:Int):AFrame:=vF 128 13 [vI 0 n] [.code a128.code] [.tmp 2]
def ZSf(n:Int):List AFrame:=[(ZDa n)]
theorem ZyY(n:Int):Zal tab 128 [AV.int .i64 n]=some (ZDa n):=rfl
def ZfZ(n n0:Int):List AFrame:=[vF 128 13 [vI 0 n,vI 3 n0] (vC ZD4 ZKX) [.tmp 2]]
def ZeZ(n n0:Int):Zaa:=[]
abbrev ZjI(n n0:Int):List AFrame×Zaa:=(ZfZ n n0,ZeZ n n0)
def ZD0(A:Ar)(K:KT)(F:FT)(n:Int):Prop:=K (ZjI n 1)
theorem ZNM{A:Ar}{K:KT}{F:FT}{M:MT}{n:Int} :Zah A tab Ka 128 K F M (.run 12 (.hd)) (ZSf n) []=ZD0 A K F n:=by kernel_rfl
def Zc8(A:Ar)(K:KT)(F:FT)(n n0:Int):Prop:=bB (A.lt n0 16) (rB [decide (elB n=true∧elB n0=true)] (bB (A.eq (gM n n0) 1) (F (AV.int .i64 n0) none) (rB [A.inR .i64 (A.add n0 1)] (K (ZjI n (A.add n0 1)))))) (F (AV.int .i64 0) none)
theorem Zke{A:Ar}{K:KT}{F:FT}{M:MT}{n n0:Int} :Zah A tab Ka 128 K F M (.run 7 (.tf (.run 10 (.tf (.run 6 (.fn)) (.run 9 (.hd)))) (.run 6 (.fn)))) (ZfZ n n0) (ZeZ n n0)=Zc8 A K F n n0:=by kernel_rfl
def ZNI(n:Int):AFrame:=vF 94 13 [vI 0 n] [.code a94.code] [.tmp 2]
def ZVJ(n:Int):List AFrame:=[(ZNI n)]
theorem ZHM(n:Int):Zal tab 94 [AV.int .i64 n]=some (ZNI n):=rfl
def Zlx(n n0:Int):List AFrame:=[vF 94 13 [vI 0 n,vI 3 n0] (vC ZJX ZQS) [.tmp 2]]
def Zi9(n n0:Int):Zaa:=[]
abbrev Zm5(n n0:Int):List AFrame×Zaa:=(Zlx n n0,Zi9 n n0)
def ZNU(A:Ar)(K:KT)(F:FT)(n:Int):Prop:=K (Zm5 n 1)
theorem ZRy{A:Ar}{K:KT}{F:FT}{M:MT}{n:Int} :Zah A tab Ka 94 K F M (.run 12 (.hd)) (ZVJ n) []=ZNU A K F n:=by kernel_rfl
def Zfr(A:Ar)(K:KT)(F:FT)(n n0:Int):Prop:=bB (A.lt n0 16) (rB [decide (elB n=true∧elB n0=true)] (bB (A.eq (gM n n0) 1) (F (AV.int .i64 n0) none) (rB [A.inR .i64 (A.add n0 1)] (K (Zm5 n (A.add n0 1)))))) (F (AV.int .i64 0) none)
theorem ZmZ{A:Ar}{K:KT}{F:FT}{M:MT}{n n0:Int} :Zah A tab Ka 94 K F M (.run 7 (.tf (.run 10 (.tf (.run 6 (.fn)) (.run 9 (.hd)))) (.run 6 (.fn)))) (Zlx n n0) (Zi9 n n0)=Zfr A K F n n0:=by kernel_rfl
end Go.Proofs.Ytklbmkllepkjcaa
/- Contracts as a list. No condition. -/
namespace Go.Proofs.Ytklbmkllepkjcaa
def gP(n:Int):Int:=((Zbm n.toNat:Nat):Int)
theorem ZaY{n:Nat}(h:n<16):elB n=true:=decide_eq_true (by omega)
theorem Zs1(a b:Nat):gM a b=((Zat a b:Nat):Int):=rfl
theorem ZDi(n:Nat):gM ((Zbm n:Nat):Int) 2=((Zbm (n+1):Nat):Int):=rfl
theorem Zyf{a b:Nat}(ha:a<16)(hb:b<16)(h1:Zat a b=1):Zhk a=b:=by
 have h:ZyP (fun a b=>decide (Zat a b=1→Zhk a=b))=true:=by kernel_rfl
 exact of_decide_eq_true (Zdg h ha hb) h1
theorem Zyt{a:Nat}(ha:a<16)(h:∀j,j<16→Zat a j≠1):Zhk a=0:=by
 by_cases h0:a=0
 ·subst h0;rfl
 ·obtain⟨h1,h2⟩:=ZzE ha h0
  exact absurd h2 (h _ h1)
section
variable {C:Ctx}(hC:C.P=Try.prog)
include hC
theorem ZVe(n:Nat)(hn:n≤1000):∀(k j:Nat),j+k=n→Ev C (Zgc n ((Zbm j:Nat):Int) j) (ZeQ n ((Zbm j:Nat):Int) j) (Zav 117 (.int .i64 ((Zbm n:Nat):Int)) none):=by
 intro k
 induction k with
 |zero=>
  intro j hj
  refine tgo hC Zid ZjC ?_
  rw[show j=n by omega]
  simp[Zep]
 |succ k ih=>
  intro j hj
  refine tgo hC Zid ZjC ?_
  have i:=ih (j+1) (by omega)
  have e1:=ZaY (ZbO j)
  have e2:elB 2=true:=rfl
  rw[←ZDi]at i
  simp[Zep,show(j:Int)<n by omega,e1,e2]at i⊢
  exact⟨by omega,i⟩
theorem L77(n:Nat)(hn:n≤1000):∀(k j:Nat),j+k=n→Ev C (Zlq n ((Zbm j:Nat):Int) j) (ZiO n ((Zbm j:Nat):Int) j) (Zav 77 (.int .i64 ((Zbm n:Nat):Int)) none):=by
 intro k
 induction k with
 |zero=>
  intro j hj
  refine tgo hC Zid Zoj ?_
  rw[show j=n by omega]
  simp[ZiC]
 |succ k ih=>
  intro j hj
  refine tgo hC Zid Zoj ?_
  have i:=ih (j+1) (by omega)
  have e1:=ZaY (ZbO j)
  have e2:elB 2=true:=rfl
  rw[←ZDi]at i
  simp[ZiC,show(j:Int)<n by omega,e1,e2]at i⊢
  exact⟨by omega,i⟩
theorem ZU5(a:Nat)(ha:a<16):∀(k b:Nat),b+k=16→(∀j,j<b→Zat a j≠1)→Ev C (ZfZ a b) (ZeZ a b) (Zav 128 (.int .i64 ((Zhk a:Nat):Int)) none):=by
 intro k
 induction k with
 |zero=>
  intro b hb hj
  refine tgo hC Zid Zke ?_
  have e:b=16:=by omega
  rw[Zyt ha (fun j h=>hj j (by omega))]
  subst e
  simp[Zc8]
 |succ k ih=>
  intro b hb hj
  refine tgo hC Zid Zke ?_
  have e1:=ZaY ha
  have e2:=ZaY (n:=b) (by omega)
  by_cases h1:Zat a b=1
  ·rw[Zyf ha (by omega) h1]
   simp[Zc8,e1,e2,Zs1,h1,show(b:Int)<16 by omega]
  ·have i:=ih (b+1) (by omega) (fun j h=>by
    by_cases hjb:j=b
    ·subst hjb;exact h1
    ·exact hj j (by omega))
   have h1':¬((Zat a b:Nat):Int)=1:=by omega
   simp[Zc8,e1,e2,Zs1,h1',show(b:Int)<16 by omega]at i⊢
   exact⟨by omega,i⟩
theorem L94(a:Nat)(ha:a<16):∀(k b:Nat),b+k=16→(∀j,j<b→Zat a j≠1)→Ev C (Zlx a b) (Zi9 a b) (Zav 94 (.int .i64 ((Zhk a:Nat):Int)) none):=by
 intro k
 induction k with
 |zero=>
  intro b hb hj
  refine tgo hC Zid ZmZ ?_
  have e:b=16:=by omega
  rw[Zyt ha (fun j h=>hj j (by omega))]
  subst e
  simp[Zfr]
 |succ k ih=>
  intro b hb hj
  refine tgo hC Zid ZmZ ?_
  have e1:=ZaY ha
  have e2:=ZaY (n:=b) (by omega)
  by_cases h1:Zat a b=1
  ·rw[Zyf ha (by omega) h1]
   simp[Zfr,e1,e2,Zs1,h1,show(b:Int)<16 by omega]
  ·have i:=ih (b+1) (by omega) (fun j h=>by
    by_cases hjb:j=b
    ·subst hjb;exact h1
    ·exact hj j (by omega))
   have h1':¬((Zat a b:Nat):Int)=1:=by omega
   simp[Zfr,e1,e2,Zs1,h1',show(b:Int)<16 by omega]at i⊢
   exact⟨by omega,i⟩
end
theorem Zyb(n:Int)(h:0≤n):Zaj Try.prog 117 [.int .i64 n] (.int .i64 (gP n)) none:=by
 obtain⟨m,rfl⟩:=Int.eq_ofNat_of_zero_le h
 refine start (ZBO m) fun C hC=>tgo hC Zid ZJZ ?_
 have i:=ZVe hC (m%15) (by omega) (m%15) 0 (by omega)
 have e:((m:Nat):Int).tmod 15=((m%15:Nat):Int):=rfl
 have e2:gP m=((Zbm (m%15):Nat):Int):=by unfold gP;rw[Int.toNat_natCast,Ztz]
 rw[e2]
 simp only[ZCL,ZzV,e]
 simp[Zbm]at i⊢
 exact i
theorem ZAQ(n:Int)(h:0≤n∧n≤1000):Zaj Try.prog 77 [.int .i64 n] (.int .i64 (gP n)) none:=by
 obtain⟨m,rfl⟩:=Int.eq_ofNat_of_zero_le h.1
 refine start (ZER m) fun C hC=>tgo hC Zid ZQT ?_
 have i:=L77 hC m (by omega) m 0 (by omega)
 simp[ZLc,Zbm,gP]at i⊢
 exact i
theorem ZwD(a:Int)(h:elB a=true):Zaj Try.prog 128 [.int .i64 a] (.int .i64 (gI a)) none:=by
 obtain⟨m,rfl,hm⟩:=Zd8 h
 refine start (ZyY m) fun C hC=>tgo hC Zid ZNM ?_
 have i:=ZU5 hC m hm 15 1 (by omega) (fun j hj=>by rw[show j=0 by omega,ZbU hm];decide)
 simp[ZD0,gI]at i⊢
 exact i
theorem ZAv(a:Int)(h:elB a=true):Zaj Try.prog 94 [.int .i64 a] (.int .i64 (gI a)) none:=by
 obtain⟨m,rfl,hm⟩:=Zd8 h
 refine start (ZHM m) fun C hC=>tgo hC Zid ZRy ?_
 have i:=L94 hC m hm 15 1 (by omega) (fun j hj=>by rw[show j=0 by omega,ZbU hm];decide)
 simp[ZNU,gI]at i⊢
 exact i
def k117:Ctr:=⟨117,0,fun _ a=>match a with |[.int .i64 n]=>some (decide (0≤n), .int .i64 (gP n),none) |_=>none⟩
theorem ZEe:k117.OK Try.prog:=fun pa args r fr h=>by
 simp only[k117]at h
 split at h
 ·simp only[Option.some.injEq,Prod.mk.injEq,decide_eq_true_eq]at h
  obtain⟨h0,rfl,rfl⟩:=h
  exact Zyb _ h0
 ·cases h
def k77:Ctr:=⟨77,0,fun _ a=>match a with |[.int .i64 n]=>some (decide (0≤n∧n≤1000), .int .i64 (gP n),none) |_=>none⟩
theorem ZOJ:k77.OK Try.prog:=fun pa args r fr h=>by
 simp only[k77]at h
 split at h
 ·simp only[Option.some.injEq,Prod.mk.injEq,decide_eq_true_eq]at h
  obtain⟨h0,rfl,rfl⟩:=h
  exact ZAQ _ h0
 ·cases h
def k128:Ctr:=⟨128,0,fun _ a=>match a with |[.int .i64 a]=>some (decide (elB a=true), .int .i64 (gI a),none) |_=>none⟩
theorem ZFW:k128.OK Try.prog:=fun pa args r fr h=>by
 simp only[k128]at h
 split at h
 ·simp only[Option.some.injEq,Prod.mk.injEq,decide_eq_true_eq]at h
  obtain⟨h0,rfl,rfl⟩:=h
  exact ZwD _ h0
 ·cases h
def k94:Ctr:=⟨94,0,fun _ a=>match a with |[.int .i64 a]=>some (decide (elB a=true), .int .i64 (gI a),none) |_=>none⟩
theorem ZI9:k94.OK Try.prog:=fun pa args r fr h=>by
 simp only[k94]at h
 split at h
 ·simp only[Option.some.injEq,Prod.mk.injEq,decide_eq_true_eq]at h
  obtain⟨h0,rfl,rfl⟩:=h
  exact ZAv _ h0
 ·cases h
def Kb:List Ctr:=[k117,k77,k128,k94]++Ka
theorem Zg4:Zay Try.prog Kb:=⟨ZEe,⟨ZOJ,⟨ZFW,⟨ZI9,Zid⟩⟩⟩⟩
end Go.Proofs.Ytklbmkllepkjcaa
/- Paths of functions, printed by the explorer (Gx). No condition. -/
namespace Go.Proofs.Ytklbmkllepkjcaa
set_option maxRecDepth 100000
set_option linter.unusedVariables false
def ZDh(n:Int):AFrame:=vF 129 6 [vI 0 n] [.code a129.code] [.tmp 2]
def ZPC(n:Int):List AFrame:=[(ZDh n)]
theorem ZBV(n:Int):Zal tab 129 [AV.int .i64 n]=some (ZDh n):=rfl
def ZDu(A:Ar)(K:KT)(F:FT)(n:Int):Prop:=rB [decide (0≤A.sub 14 n),A.inR .i64 (A.sub 14 n)] (F (AV.int .i64 (gP (A.sub 14 n))) none)
theorem ZI7{A:Ar}{K:KT}{F:FT}{M:MT}{n:Int} :Zah A tab Kb 129 K F M (.run 12 (.fn)) (ZPC n) []=ZDu A K F n:=by kernel_rfl
def ZL2(n:Int):AFrame:=vF 73 6 [vI 0 n] [.code a73.code] [.tmp 2]
def ZUI(n:Int):List AFrame:=[(ZL2 n)]
theorem ZHm(n:Int):Zal tab 73 [AV.int .i64 n]=some (ZL2 n):=rfl
def ZL1(A:Ar)(K:KT)(F:FT)(n:Int):Prop:=F (AV.int .i64 (Zau (Zao n 1 3) 2)) none
theorem ZQh{A:Ar}{K:KT}{F:FT}{M:MT}{n:Int} :Zah A tab Kb 73 K F M (.run 12 (.fn)) (ZUI n) []=ZL1 A K F n:=by kernel_rfl
def ZNs(xs:List Int)(n:Int):AFrame:=vF 74 14 [vL 0 xs,vI 1 n] [.code a74.code] [.tmp 4]
def ZV1(xs:List Int)(n:Int):List AFrame:=[(ZNs xs n)]
theorem ZFT(xs:List Int)(n:Int):Zal tab 74 [AV.list (.ints .i64 xs),AV.int .i64 n]=some (ZNs xs n):=rfl
def ZIM(A:Ar)(K:KT)(F:FT)(xs:List Int)(n:Int):Prop:=let u0:=A.int (A.len xs);rB [decide (List.length [Zau (A.eq u0 n) 10,ZaM xs 0 15]≤1000000),List.all [AV.int .i64 (Zau (A.eq u0 n) 10),AV.int .i64 (ZaM xs 0 15)] fun x=>AV.bx x&&Nat.beq (Zag A x) 1,decide (List.length xs≤1000000)] (F (AV.int .i64 (ZaE [Zau (A.eq u0 n) 10,ZaM xs 0 15])) none)
theorem ZSy{A:Ar}{K:KT}{F:FT}{M:MT}{xs:List Int}{n:Int} :Zah A tab Kb 74 K F M (.run 19 (.fn)) (ZV1 xs n) []=ZIM A K F xs n:=by kernel_rfl
def ZMt(n:Int):AFrame:=vF 21 5 [vI 0 n] [.code a21.code] [.tmp 2]
def ZUR(n:Int):List AFrame:=[(ZMt n)]
theorem ZHC(n:Int):Zal tab 21 [AV.int .i64 n]=some (ZMt n):=rfl
def ZJj(A:Ar)(K:KT)(F:FT)(n:Int):Prop:=F (AV.bool (Zao n 0 15)) none
theorem ZQF{A:Ar}{K:KT}{F:FT}{M:MT}{n:Int} :Zah A tab Kb 21 K F M (.run 11 (.fn)) (ZUR n) []=ZJj A K F n:=by kernel_rfl
def ZKM(n:Int):AFrame:=vF 23 6 [vI 0 n] [.code a23.code] [.tmp 2]
def ZVc(n:Int):List AFrame:=[(ZKM n)]
theorem ZHN(n:Int):Zal tab 23 [AV.int .i64 n]=some (ZKM n):=rfl
def ZOg(A:Ar)(K:KT)(F:FT)(n:Int):Prop:=bB (A.not (Zao n 1 3)) (F (AV.int .i64 2) none) (F (AV.int .i64 0) none)
theorem ZRB{A:Ar}{K:KT}{F:FT}{M:MT}{n:Int} :Zah A tab Kb 23 K F M (.run 11 (.tf (.run 5 (.fn)) (.run 6 (.fn)))) (ZVc n) []=ZOg A K F n:=by kernel_rfl
def ZC6(w:List Int)(j:Int):AFrame:=vF 112 24 [(0,AV.agg (.ints .i64 w)),vI 1 j] [.code a112.code] [.tmp 4]
def ZQi(w:List Int)(j:Int):List AFrame:=[(ZC6 w j)]
theorem Zzf(w:List Int)(j:Int):Zal tab 112 [AV.agg (.ints .i64 w),AV.int .i64 j]=some (ZC6 w j):=rfl
def ZgG(j:Int)(l0:List Int)(n1 n2:Int):List AFrame:=[vF 112 24 [vI 1 j,vI 5 n1,(8,AV.agg (.ints .i64 l0)),vI 9 n2] (vC ZCx ZIg) [.tmp 4]]
def Zek(j:Int)(l0:List Int)(n1 n2:Int):Zaa:=[]
abbrev ZjY(j:Int)(l0:List Int)(n1 n2:Int):List AFrame×Zaa:=(ZgG j l0 n1 n2,Zek j l0 n1 n2)
def ZDF(A:Ar)(K:KT)(F:FT)(w:List Int)(j:Int):Prop:=rB [Nat.ble 15 (A.len w),Nat.blt 0 (A.len w)] (K (ZjY j (A.sub3 w 0 15) 0 0))
theorem ZJn{A:Ar}{K:KT}{F:FT}{M:MT}{w:List Int}{j:Int} :Zah A tab Kb 112 K F M (.run 18 (.hd)) (ZQi w j) []=ZDF A K F w j:=by kernel_rfl
def ZeM(A:Ar)(K:KT)(F:FT)(j:Int)(l0:List Int)(n1 n2:Int):Prop:=let u0:=A.sub 14 n2;let u1:=A.mul j u0;let u2:=A.nth l0 (A.nat n2);bB (A.lt n2 15) (rB [A.inR .i64 (A.add n2 1),decide (elB u2=true∧elB (gP u1)=true),decide (0≤A.mul j u0),A.inR .i64 u1,A.inR .i64 u0,Zad (Zad (A.le 0 n2) (A.lt n2 (A.int 15))) (Nat.blt (A.nat n2) (A.len l0))] (K (ZjY j l0 (A.bits Go.BinOp.xor .i64 n1 (gM u2 (gP u1))) (A.add n2 1)))) (F (AV.int .i64 n1) none)
theorem Zj2{A:Ar}{K:KT}{F:FT}{M:MT}{j:Int}{l0:List Int}{n1 n2:Int} :Zah A tab Kb 112 K F M (.run 6 (.tf (.run 29 (.hd)) (.run 7 (.fn)))) (ZgG j l0 n1 n2) (Zek j l0 n1 n2)=ZeM A K F j l0 n1 n2:=by kernel_rfl
def ZJh(h:Int)(w:List Int):AFrame:=vF 25 42 [vI 0 h,vL 1 w] [.code a25.code] [.tmp 4]
def ZUl(h:Int)(w:List Int):List AFrame:=[(ZJh h w)]
theorem ZGQ(h:Int)(w:List Int):Zal tab 25 [AV.int .i64 h,AV.list (.ints .i64 w)]=some (ZJh h w):=rfl
def Zho(h:Int)(w:List Int)(n0:Int)(l1:List Int):List AFrame:=[vF 25 42 [vI 0 h,vL 1 w,vR 5 25041,vI 6 n0] (vC ZKF ZR8) [.tmp 4]]
def ZfD(h:Int)(w:List Int)(n0:Int)(l1:List Int):Zaa:=[vK 25041 l1]
abbrev Znm(h:Int)(w:List Int)(n0:Int)(l1:List Int):List AFrame×Zaa:=(Zho h w n0 l1,ZfD h w n0 l1)
def ZlX(h:Int)(w:List Int)(n0:Int)(l1:List Int)(n2 n3:Int):List AFrame:=[vF 25 42 [vI 0 h,vL 1 w,vR 5 25041,vI 6 n0,vI 7 n2,vI 8 n3] (vC ZLX ZRO) [.tmp 4]]
def Zi3(h:Int)(w:List Int)(n0:Int)(l1:List Int)(n2 n3:Int):Zaa:=[vK 25041 l1]
abbrev ZoG(h:Int)(w:List Int)(n0:Int)(l1:List Int)(n2 n3:Int):List AFrame×Zaa:=(ZlX h w n0 l1 n2 n3,Zi3 h w n0 l1 n2 n3)
def ZMu(A:Ar)(K:KT)(F:FT)(h:Int)(w:List Int):Prop:=K (Znm h w 1 [])
theorem ZPq{A:Ar}{K:KT}{F:FT}{M:MT}{h:Int}{w:List Int} :Zah A tab Kb 25 K F M (.run 17 (.hd)) (ZUl h w) []=ZMu A K F h w:=by kernel_rfl
def Zjm(A:Ar)(K:KT)(F:FT)(h:Int)(w:List Int)(n0:Int)(l1:List Int):Prop:=rB [A.inR .i64 (A.mul 2 h)] (bB (A.le n0 (A.mul 2 h)) (K (ZoG h w n0 l1 0 0)) (F (AV.row 0 0) (some { e:=3,sz:=1,r:=.ints .i64 l1 })))
theorem Zm7{A:Ar}{K:KT}{F:FT}{M:MT}{h:Int}{w:List Int}{n0:Int}{l1:List Int} :Zah A tab Kb 25 K F M (.run 9 (.tf (.run 15 (.hd)) (.run 7 (.fn)))) (Zho h w n0 l1) (ZfD h w n0 l1)=Zjm A K F h w n0 l1:=by kernel_rfl
def ZiH(A:Ar)(K:KT)(F:FT)(h:Int)(w:List Int)(n0:Int)(l1:List Int)(n2 n3:Int):Prop:=let u1:=A.sub (A.int (A.len w)) 1;let u0:=A.mul n0 (A.sub u1 n3);let u2:=A.nth w (A.nat n3);bB (A.lt n3 (A.int (A.len w))) (rB [A.inR .i64 (A.add n3 1),decide (elB u2=true∧elB (gP (A.rem u0 15))=true),decide (0≤A.rem u0 15∧A.rem u0 15≤1000),A.not (A.eq 15 0),A.inR .i64 u0,A.inR .i64 (A.sub u1 n3),A.inR .i64 u1,Zad (Zad (A.le 0 n3) (Nat.blt (A.nat n3) (A.len w))) true] (K (ZoG h w n0 l1 (A.bits Go.BinOp.xor .i64 n2 (gM u2 (gP (A.rem u0 15)))) (A.add n3 1)))) (rB [A.inR .i64 (A.add n0 1),Nat.ble (A.len l1+A.len [n2]) 4294967296,List.all [AV.int .i64 n2] fun x=>AV.bx x&&Nat.beq (Zag A x) 1] (K (Znm h w (A.add n0 1) (A.app l1 [n2]))))
theorem ZnK{A:Ar}{K:KT}{F:FT}{M:MT}{h:Int}{w:List Int}{n0:Int}{l1:List Int}{n2 n3:Int} :Zah A tab Kb 25 K F M (.run 9 (.tf (.run 12 (.hd)) (.run 16 (.hd)))) (ZlX h w n0 l1 n2 n3) (Zi3 h w n0 l1 n2 n3)=ZiH A K F h w n0 l1 n2 n3:=by kernel_rfl
end Go.Proofs.Ytklbmkllepkjcaa
/- Contracts as a list. No condition. -/
namespace Go.Proofs.Ytklbmkllepkjcaa
def Zrr(j:Nat):Nat→List Nat→Nat
 |_,[]=>0
 |i,a::l=>Zat a (Zbm (j*(14-i))) ^^^ Zrr j (i+1) l
def wdN(w:List Int):List Nat:=w.map Int.toNat
def syI(w:List Int)(j:Nat):Int:=((Zrr j 0 (wdN w):Nat):Int)
def okw(w:List Int):Bool:=decide (w.length=15)&&decide (ZaM w 0 15=0)
theorem okw_iff{w:List Int} :okw w=true↔w.length=15∧ZaM w 0 15=0:=by
 unfold okw;rw[Bool.and_eq_true,decide_eq_true_eq,decide_eq_true_eq]
theorem Zjl{w:List Int}(h:ZaM w 0 15=0)(i:Nat):elB (w.getD i 0)=true:=decide_eq_true (by have:=Ztg h (by omega) i;omega)
theorem ZME{w:List Int}(h:ZaM w 0 15=0):∀x∈wdN w,x<16:=fun x hx=>by
 obtain⟨y,hy,rfl⟩:=List.mem_map.1 hx
 unfold ZaM at h
 split at h
 ·rename_i hall
  have:=of_decide_eq_true (List.all_eq_true.1 hall y hy)
  omega
 ·cases h
theorem Zue(w:List Int):(wdN w).length=w.length:=by simp[wdN]
theorem ZrE{w:List Int}{i:Nat}(h:i<w.length):(wdN w).drop i=(w.getD i 0).toNat::(wdN w).drop (i+1):=by
 rw[List.drop_eq_getElem_cons (by rw[Zue];exact h)]
 unfold wdN
 rw[List.getElem_map,List.getD_eq_getElem?_getD,List.getElem?_eq_getElem h];rfl
theorem ZvV(j:Nat):∀(l:List Nat) (i:Nat),(∀x∈l,x<16)→Zrr j i l<16
 |[],_,_=>by simp[Zrr]
 |a::l,i,h=>Zcc (Zbx (h a List.mem_cons_self) (ZbO _)) (ZvV j l (i+1) fun x hx=>h x (List.mem_cons_of_mem _ hx))
theorem ZNO(n:Int):elB (gP n)=true:=ZaY (ZbO _)
theorem ZKP{w:List Int}(h:ZaM w 0 15=0)(j:Nat):elB (syI w j)=true:=ZaY (ZvV j _ 0 (ZME h))
def ZHo(n:Int):Int:=gP (14-n)
theorem Zxy(n:Int)(h:0≤n∧n≤14):Zaj Try.prog 129 [.int .i64 n] (.int .i64 (ZHo n)) none:=
 start (ZBV n) fun C hC=>tgo hC Zg4 ZI7 (by simp[ZDu,ZHo];omega)
def hfE(h:Int):Int:=Zau (Zao h 1 3) 2
theorem ZwX(h:Int):Zaj Try.prog 73 [.int .i64 h] (.int .i64 (hfE h)) none:=
 start (ZHm h) fun C hC=>tgo hC Zg4 ZQh (by simp[ZL1,hfE])
theorem Zw8(h:Int):Zaj Try.prog 23 [.int .i64 h] (.int .i64 (hfE h)) none:=
 start (ZHN h) fun C hC=>tgo hC Zg4 ZRB (by cases e:Zao h 1 3<;>simp[ZOg,hfE,Zau,e])
def elE(l:List Int)(n:Int):Int:=ZaE [Zau (decide ((l.length:Int)=n)) 10,ZaM l 0 15]
theorem ZAZ(l:List Int)(n:Int)(hl:l.length≤1000000):Zaj Try.prog 74 [.list (.ints .i64 l), .int .i64 n] (.int .i64 (elE l n)) none:=
 start (ZFT l n) fun C hC=>tgo hC Zg4 ZSy (by simp[ZIM,elE,hl,AV.bx,Zag])
theorem ZBi(n:Int):Zaj Try.prog 21 [.int .i64 n] (.bool (Zao n 0 15)) none:=
 start (ZHC n) fun C hC=>tgo hC Zg4 ZQF (by simp[ZJj])
def syL(w:List Int)(n:Nat):List Int:=(List.range n).map fun i=>syI w (i+1)
theorem ZeT(w:List Int)(n:Nat):(syL w n).length=n:=by simp[syL]
theorem Zts(w:List Int)(n:Nat):syL w (n+1)=syL w n++[syI w (n+1)]:=by unfold syL;rw[List.range_succ,List.map_append];rfl
section
variable {C:Ctx}(hC:C.P=Try.prog){w:List Int}(hw:w.length=15)(hr:ZaM w 0 15=0)
include hC hw hr
theorem ZVC(j:Nat)(hj:j≤1000):∀(k i x:Nat),i+k=15→x<16→Ev C (ZgG j w x i) (Zek j w x i) (Zav 112 (.int .i64 ((x ^^^ Zrr j i ((wdN w).drop i):Nat):Int)) none):=by
 intro k
 induction k with
 |zero=>
  intro i x hi hx
  refine tgo hC Zg4 Zj2 ?_
  rw[List.drop_of_length_le (by rw[Zue];omega),Zrr,Nat.xor_zero]
  have h15:i=15:=by omega
  subst h15
  simp[ZeM]
 |succ k ih=>
  intro i x hi hx
  refine tgo hC Zg4 Zj2 ?_
  have e0:=Zjl hr i
  obtain⟨a,ha,ha16⟩:=Zd8 e0
  have m0:(j:Int)*(14-(i:Int))=((j*(14-i):Nat):Int):=by rw[Int.natCast_mul];congr 1;omega
  have m1:j*(14-i)≤14000:=by
   have:=Nat.mul_le_mul hj (show 14-i≤14 by omega);omega
  have b1:0≤(j:Int)*(14-(i:Int))∧(j:Int)*(14-(i:Int))≤14000:=by rw[m0];omega
  have e1:gM (w.getD i 0) (gP ((j:Int)*(14-(i:Int))))=((Zat a (Zbm (j*(14-i))):Nat):Int):=by rw[m0,ha];rfl
  have l1:=Zbx ha16 (ZbO (j*(14-i)))
  have e2:=Zb7 (r:=x) (k:=Zat a (Zbm (j*(14-i)))) (by omega) (by omega)
  have i':=ih (i+1) (x ^^^ Zat a (Zbm (j*(14-i)))) (by omega) (Zcc hx l1)
  rw[ZrE (by omega),Zrr,ha,Int.toNat_natCast,←Nat.xor_assoc]
  have e3:=ZNO ((j:Int)*(14-(i:Int)))
  have hi15:(i:Int)<15:=by omega
  have hi2:i<15:=by omega
  simp only[ZeM,Zjn,ZhX,ZaV,ZaF,Int.toNat_natCast,e1,e2,e3,e0]
  simp[hi15,hi2,hw]at i'⊢
  refine⟨?_,i'⟩
  exact⟨by omega,decide_eq_true b1.1,by omega,by omega⟩
theorem ZTB(h:Int)(j:Nat)(hj:j≤6)(l:List Int)(hl:l.length≤1000)(r:AV)(fr:Option Fresh)
 (hn:Ev C (Zho h w ((j+1:Nat):Int) (l++[syI w j])) (ZfD h w ((j+1:Nat):Int) (l++[syI w j])) (Zav 25 r fr)):
 ∀(k i x:Nat),i+k=15→x<16→x ^^^ Zrr j i ((wdN w).drop i)=Zrr j 0 (wdN w)→Ev C (ZlX h w j l x i) (Zi3 h w j l x i) (Zav 25 r fr):=by
 intro k
 induction k with
 |zero=>
  intro i x hi hx he
  refine tgo hC Zg4 ZnK ?_
  rw[List.drop_of_length_le (by rw[Zue];omega),Zrr,Nat.xor_zero]at he
  subst he
  have h15:i=15:=by omega
  subst h15
  unfold syI at hn
  simp[ZiH,hw,AV.bx,Zag]at hn⊢
  exact⟨by omega,hn⟩
 |succ k ih=>
  intro i x hi hx he
  refine tgo hC Zg4 ZnK ?_
  have e0:=Zjl hr i
  obtain⟨a,ha,ha16⟩:=Zd8 e0
  have m1:j*(14-i)≤84:=by
   have:=Nat.mul_le_mul hj (show 14-i≤14 by omega);omega
  have m0:((j*(14-i):Nat):Int).tmod 15=((j*(14-i)%15:Nat):Int):=rfl
  have m2:(j:Int)*((w.length:Int)-1-(i:Int))=((j*(14-i):Nat):Int):=by rw[Int.natCast_mul];congr 1;omega
  have e1:gM (w.getD i 0) (gP ((j*(14-i)%15:Nat):Int))=((Zat a (Zbm (j*(14-i))):Nat):Int):=by rw[Ztz (j*(14-i)),ha];rfl
  have l1:=Zbx ha16 (ZbO (j*(14-i)))
  have e2:=Zb7 (r:=x) (k:=Zat a (Zbm (j*(14-i)))) (by omega) (by omega)
  rw[ZrE (by omega),Zrr,ha,Int.toNat_natCast,←Nat.xor_assoc]at he
  have i':=ih (i+1) (x ^^^ Zat a (Zbm (j*(14-i)))) (by omega) (Zcc hx l1) he
  have e3:=ZNO ((j*(14-i)%15:Nat):Int)
  have hi15:(i:Int)<15:=by omega
  have hi2:i<15:=by omega
  simp only[ZiH,Zjn,ZhX,ZaV,ZaF,ZzV,Zcq,Za2,Int.toNat_natCast,m0,m2,e1,e2,e3,e0]
  simp[hi15,hi2,hw]at i'⊢
  refine⟨?_,i'⟩
  omega
theorem ZVj(h:Int)(hh:1≤h∧h≤3):∀(k j:Nat),(j:Int)+k=2*h→Ev C (Zho h w ((j+1:Nat):Int) (syL w j)) (ZfD h w ((j+1:Nat):Int) (syL w j)) (Zav 25 (.row 0 0) (some ⟨3,1, .ints .i64 (syL w (2*h.toNat))⟩)):=by
 intro k
 induction k with
 |zero=>
  intro j hj
  refine tgo hC Zg4 Zm7 ?_
  rw[show 2*h.toNat=j by omega]
  simp[Zjm,show ¬(j:Int)+1≤2*h by omega]
  omega
 |succ k ih=>
  intro j hj
  refine tgo hC Zg4 Zm7 ?_
  have i:=ih (j+1) (by omega)
  rw[Zts]at i
  have i2:=ZTB hC hw hr h (j+1) (by omega) (syL w j) (by rw[ZeT];omega) _ _ i 15 0 0 (by omega) (by omega) (by rw[List.drop_zero,Nat.zero_xor])
  simp[Zjm,show(j:Int)+1≤2*h by omega]at i2⊢
  exact⟨by omega,i2⟩
end
def hfB(h:Int):Bool:=decide (1≤h∧h≤3)
theorem ZzZ(h:Int)(w:List Int)(hh:hfB h=true)(hw:okw w=true):Zaj Try.prog 25 [.int .i64 h, .list (.ints .i64 w)] (.row 0 0) (some ⟨3,1, .ints .i64 (syL w (2*h.toNat))⟩):=by
 obtain⟨w1,w2⟩:=okw_iff.1 hw
 have hh:=of_decide_eq_true hh
 refine start (ZGQ h w) fun C hC=>tgo hC Zg4 ZPq ?_
 have i:=ZVj hC w1 w2 h hh (2*h.toNat) 0 (by omega)
 simp[ZMu,syL]at i⊢
 exact i
theorem Zyv(w:List Int)(j:Int)(hw:okw w=true)(hj:0≤j∧j≤1000):Zaj Try.prog 112 [.agg (.ints .i64 w), .int .i64 j] (.int .i64 (syI w j.toNat)) none:=by
 obtain⟨w1,w2⟩:=okw_iff.1 hw
 obtain⟨n,rfl⟩:=Int.eq_ofNat_of_zero_le hj.1
 refine start (Zzf w n) fun C hC=>tgo hC Zg4 ZJn ?_
 have i:=ZVC hC w1 w2 n (by omega) 15 0 0 (by omega) (by omega)
 have e:std.sub3 w 0 15=w:=by show(w.drop 0).take 15=w;rw[List.drop_zero,List.take_of_length_le (by omega)]
 rw[List.drop_zero,Nat.zero_xor]at i
 simp only[ZDF,e]
 simp[w1,syI]at i⊢
 exact i
def k129:Ctr:=⟨129,0,fun _ a=>match a with |[.int .i64 n]=>some (decide (0≤n∧n≤14), .int .i64 (ZHo n),none) |_=>none⟩
theorem ZGi:k129.OK Try.prog:=fun pa args r fr h=>by
 simp only[k129]at h
 split at h
 ·simp only[Option.some.injEq,Prod.mk.injEq,decide_eq_true_eq]at h
  obtain⟨h0,rfl,rfl⟩:=h
  exact Zxy _ h0
 ·cases h
def k73:Ctr:=⟨73,0,fun _ a=>match a with |[.int .i64 h]=>some (true, .int .i64 (hfE h),none) |_=>none⟩
theorem ZJK:k73.OK Try.prog:=fun pa args r fr h=>by
 simp only[k73]at h
 split at h
 ·cases h
  exact ZwX _
 ·cases h
def k23:Ctr:=⟨23,0,fun _ a=>match a with |[.int .i64 h]=>some (true, .int .i64 (hfE h),none) |_=>none⟩
theorem ZMy:k23.OK Try.prog:=fun pa args r fr h=>by
 simp only[k23]at h
 split at h
 ·cases h
  exact Zw8 _
 ·cases h
def k74:Ctr:=⟨74,0,fun _ a=>match a with |[.list (.ints .i64 l), .int .i64 n]=>some (decide (l.length≤1000000), .int .i64 (elE l n),none) |_=>none⟩
theorem ZO9:k74.OK Try.prog:=fun pa args r fr h=>by
 simp only[k74]at h
 split at h
 ·simp only[Option.some.injEq,Prod.mk.injEq,decide_eq_true_eq]at h
  obtain⟨h0,rfl,rfl⟩:=h
  exact ZAZ _ _ h0
 ·cases h
def k21:Ctr:=⟨21,0,fun _ a=>match a with |[.int .i64 n]=>some (true, .bool (Zao n 0 15),none) |_=>none⟩
theorem ZMA:k21.OK Try.prog:=fun pa args r fr h=>by
 simp only[k21]at h
 split at h
 ·cases h
  exact ZBi _
 ·cases h
def k25:Ctr:=⟨25,0,fun _ a=>match a with |[.int .i64 h, .list (.ints .i64 w)]=>some (decide (hfB h=true∧okw w=true), .row 0 0,some ⟨3,1, .ints .i64 (syL w (2*h.toNat))⟩) |_=>none⟩
theorem ZMD:k25.OK Try.prog:=fun pa args r fr h=>by
 simp only[k25]at h
 split at h
 ·simp only[Option.some.injEq,Prod.mk.injEq,decide_eq_true_eq]at h
  obtain⟨h0,rfl,rfl⟩:=h
  exact ZzZ _ _ h0.1 h0.2
 ·cases h
def k112:Ctr:=⟨112,0,fun _ a=>match a with |[.agg (.ints .i64 w), .int .i64 j]=>some (decide (okw w=true∧0≤j∧j≤1000), .int .i64 (syI w j.toNat),none) |_=>none⟩
theorem ZHr:k112.OK Try.prog:=fun pa args r fr h=>by
 simp only[k112]at h
 split at h
 ·simp only[Option.some.injEq,Prod.mk.injEq,decide_eq_true_eq]at h
  obtain⟨h0,rfl,rfl⟩:=h
  exact Zyv _ _ h0.1 h0.2
 ·cases h
def Kc:List Ctr:=[k129,k73,k23,k74,k21,k25,k112]++Kb
theorem ZrZ:Zay Try.prog Kc:=⟨ZGi,⟨ZJK,⟨ZMy,⟨ZO9,⟨ZMA,⟨ZMD,⟨ZHr,Zg4⟩⟩⟩⟩⟩⟩⟩
end Go.Proofs.Ytklbmkllepkjcaa
/- Paths of functions, printed by the explorer (Gx). No condition. -/
namespace Go.Proofs.Ytklbmkllepkjcaa
set_option maxRecDepth 100000
set_option linter.unusedVariables false
def ZLy(w:List Int)(h:Int):AFrame:=vF 75 20 [(0,AV.agg (.ints .i64 w)),vI 1 h] [.code a75.code] [.tmp 4]
def ZVI(w:List Int)(h:Int):List AFrame:=[(ZLy w h)]
theorem ZE5(w:List Int)(h:Int):Zal tab 75 [AV.agg (.ints .i64 w),AV.int .i64 h]=some (ZLy w h):=rfl
def ZlJ(w:List Int)(h:Int)(A:Ar)(n0:Int)(l1:List Int):List AFrame:=[vF 75 20 [vI 1 h,vP 2 75003,vR 5 75019,vI 6 n0] (vC ZJH ZRh) [.tmp 4]]
def ZhJ(w:List Int)(h:Int)(A:Ar)(n0:Int)(l1:List Int):Zaa:=[(75003,{ base:=0,blks:=[Blk.row 107 (A.len w) (Row.gen [.agg (.ints .i64 w)])] }),vK 75019 l1]
abbrev Zn2(w:List Int)(h:Int)(A:Ar)(n0:Int)(l1:List Int):List AFrame×Zaa:=(ZlJ w h A n0 l1,ZhJ w h A n0 l1)
def ZNa(A:Ar)(K:KT)(F:FT)(w:List Int)(h:Int):Prop:=rB [Nat.blt 0 (A.len w)] (K (Zn2 w h A 1 []))
theorem ZSB{A:Ar}{K:KT}{F:FT}{M:MT}{w:List Int}{h:Int} :Zah A tab Kc 75 K F M (.run 18 (.hd)) (ZVI w h) []=ZNa A K F w h:=by kernel_rfl
def Zh1(A:Ar)(K:KT)(F:FT)(w:List Int)(h n0:Int)(l1:List Int):Prop:=let u0:=A.sub3 w 0 15;rB [A.inR .i64 (A.mul 2 h)] (bB (A.le n0 (A.mul 2 h)) (rB [A.inR .i64 (A.add n0 1),Nat.ble (A.len l1+A.len [syI u0 (Int.toNat n0)]) 4294967296,List.all [AV.int .i64 (syI u0 (Int.toNat n0))] fun x=>AV.bx x&&Nat.beq (Zag A x) 1,decide (okw u0=true∧0≤n0∧n0≤1000),Nat.ble 15 (A.len w)] (K (Zn2 w h A (A.add n0 1) (A.app l1 [syI u0 (Int.toNat n0)])))) (F (AV.row 0 0) (some { e:=3,sz:=1,r:=.ints .i64 l1 })))
theorem Zog{A:Ar}{K:KT}{F:FT}{M:MT}{w:List Int}{h n0:Int}{l1:List Int} :Zah A tab Kc 75 K F M (.run 9 (.tf (.run 20 (.hd)) (.run 7 (.fn)))) (ZlJ w h A n0 l1) (ZhJ w h A n0 l1)=Zh1 A K F w h n0 l1:=by kernel_rfl
def ZIZ(h:Int)(w:List Int):AFrame:=vF 95 21 [vI 0 h,vL 1 w] [.code a95.code] [.tmp 4]
def ZVG(h:Int)(w:List Int):List AFrame:=[(ZIZ h w)]
theorem ZFI(h:Int)(w:List Int):Zal tab 95 [AV.int .i64 h,AV.list (.ints .i64 w)]=some (ZIZ h w):=rfl
def Zli(l0:List Int)(n1:Int):List AFrame:=[vF 95 21 [vR 5 95010,vI 6 n1] (vC ZJu ZRT) [.tmp 4]]
def Zh4(l0:List Int)(n1:Int):Zaa:=[vK 95010 l0]
abbrev ZmL(l0:List Int)(n1:Int):List AFrame×Zaa:=(Zli l0 n1,Zh4 l0 n1)
def ZJB(A:Ar)(K:KT)(F:FT)(h:Int)(w:List Int):Prop:=rB [decide (hfB h=true∧okw w=true)] (K (ZmL (syL w (Nat.mul 2 (Int.toNat h))) 0))
theorem ZQU{A:Ar}{K:KT}{F:FT}{M:MT}{h:Int}{w:List Int} :Zah A tab Kc 95 K F M (.run 19 (.hd)) (ZVG h w) []=ZJB A K F h w:=by kernel_rfl
def Zfj(A:Ar)(K:KT)(F:FT)(l0:List Int)(n1:Int):Prop:=let u0:=A.len l0;let u1:=A.nat n1;bB (A.lt n1 (A.int u0)) (rB [Zad (Nat.blt u1 u0) true,Zad (A.le 0 n1) (Nat.blt u1 u0)] (bB (A.not (A.eq (A.nth l0 u1) 0)) (F (AV.bool false) none) (rB [A.inR .i64 (A.add n1 1)] (K (ZmL l0 (A.add n1 1)))))) (F (AV.bool true) none)
theorem ZoO{A:Ar}{K:KT}{F:FT}{M:MT}{l0:List Int}{n1:Int} :Zah A tab Kc 95 K F M (.run 9 (.tf (.run 11 (.tf (.run 5 (.fn)) (.run 9 (.hd)))) (.run 6 (.fn)))) (Zli l0 n1) (Zh4 l0 n1)=Zfj A K F l0 n1:=by kernel_rfl
end Go.Proofs.Ytklbmkllepkjcaa
/- Contracts as a list. No condition. -/
namespace Go.Proofs.Ytklbmkllepkjcaa
theorem Zg8{w:List Int}(h:w.length=15):std.sub3 w 0 15=w:=by show(w.drop 0).take 15=w;rw[List.drop_zero,List.take_of_length_le (by omega)]
section
variable {C:Ctx}(hC:C.P=Try.prog){w:List Int}(hw:okw w=true)
include hC hw
theorem S75(h:Int)(hh:1≤h∧h≤3):∀(k j:Nat),(j:Int)+k=2*h→Ev C (ZlJ w h std ((j+1:Nat):Int) (syL w j)) (ZhJ w h std ((j+1:Nat):Int) (syL w j)) (Zav 75 (.row 0 0) (some ⟨3,1, .ints .i64 (syL w (2*h.toNat))⟩)):=by
 obtain⟨w1,w2⟩:=okw_iff.1 hw
 intro k
 induction k with
 |zero=>
  intro j hj
  refine tgo hC ZrZ Zog ?_
  rw[show 2*h.toNat=j by omega]
  simp[Zh1,show ¬(j:Int)+1≤2*h by omega]
  omega
 |succ k ih=>
  intro j hj
  refine tgo hC ZrZ Zog ?_
  have i:=ih (j+1) (by omega)
  have e:=Zg8 w1
  have l:=ZeT w j
  rw[Zts]at i
  simp only[Zh1,e]
  simp[hw,w1,l,show(j:Int)+1≤2*h by omega,AV.bx,Zag]at i⊢
  exact⟨by omega,by omega,i⟩
end
theorem ZyV(w:List Int)(h:Int)(hw:okw w=true)(hh:hfB h=true):Zaj Try.prog 75 [.agg (.ints .i64 w), .int .i64 h] (.row 0 0) (some ⟨3,1, .ints .i64 (syL w (2*h.toNat))⟩):=by
 obtain⟨w1,w2⟩:=okw_iff.1 hw
 have hh:=of_decide_eq_true hh
 refine start (ZE5 w h) fun C hC=>tgo hC ZrZ ZSB ?_
 have i:=S75 hC hw h hh (2*h.toNat) 0 (by omega)
 simp[ZNa,syL,w1]at i⊢
 exact i
theorem ZJq{h:Int}(e:hfE h=0):1≤h∧h≤3:=by
 unfold hfE Zau at e
 split at e
 ·rename_i h1;exact of_decide_eq_true h1
 ·cases e
theorem ZD3{l:List Int}{n:Int}(e:elE l n=0):(l.length:Int)=n∧ZaM l 0 15=0:=by
 obtain⟨a,b⟩:=ZcM e
 obtain⟨b,_⟩:=ZcM b
 refine⟨?_,b⟩
 by_cases h:(l.length:Int)=n
 ·exact h
 ·simp[Zau,h]at a
def isW(h:Int)(w:List Int):Bool:=(syL w (2*h.toNat)).all fun x=>decide (x=0)
section
variable {C:Ctx}(hC:C.P=Try.prog)
include hC
theorem S95(l:List Int)(hl:l.length≤1000):∀(k j:Nat),j+k=l.length→Ev C (Zli l j) (Zh4 l j) (Zav 95 (.bool ((l.drop j).all fun x=>decide (x=0))) none):=by
 intro k
 induction k with
 |zero=>
  intro j hj
  refine tgo hC ZrZ ZoO ?_
  rw[List.drop_of_length_le (by omega)]
  simp[Zfj,show ¬(j:Int)<l.length by omega]
 |succ k ih=>
  intro j hj
  refine tgo hC ZrZ ZoO ?_
  have i:=ih (j+1) (by omega)
  have hlt:j<l.length:=by omega
  have hlt2:(j:Int)<l.length:=by omega
  rw[ZdV hlt,List.all_cons]
  by_cases h0:l.getD j 0=0
  ·simp[-List.getD_eq_getElem?_getD,Zfj,hlt,hlt2,h0]at i⊢
   exact⟨by omega,i⟩
  ·simp[-List.getD_eq_getElem?_getD,Zfj,hlt,hlt2,h0]
end
theorem Zz1(h:Int)(w:List Int)(hh:hfB h=true)(hw:okw w=true):Zaj Try.prog 95 [.int .i64 h, .list (.ints .i64 w)] (.bool (isW h w)) none:=by
 refine start (ZFI h w) fun C hC=>tgo hC ZrZ ZQU ?_
 have hh2:=of_decide_eq_true hh
 have l:=ZeT w (2*h.toNat)
 have i:=S95 hC (syL w (2*h.toNat)) (by omega) (syL w (2*h.toNat)).length 0 (by omega)
 rw[List.drop_zero]at i
 simp[ZJB,hh,hw,isW]at i⊢
 exact i
def erP:Int→List Int→Int
 |_,[]=>0
 |p,x::l=>if Zao x 0 14=true then(if p<x then erP x l else 9)else 6
def erE(h:Int)(e:List Int):Int:=if 2*h<(e.length:Int)then 8 else erP (-1) e
section
variable {C:Ctx}(hC:C.P=Try.prog)
include hC
end
def k75:Ctr:=⟨75,0,fun _ a=>match a with |[.agg (.ints .i64 w), .int .i64 h]=>some (decide (okw w=true∧hfB h=true), .row 0 0,some ⟨3,1, .ints .i64 (syL w (2*h.toNat))⟩) |_=>none⟩
theorem ZKi:k75.OK Try.prog:=fun pa args r fr h=>by
 simp only[k75]at h
 split at h
 ·simp only[Option.some.injEq,Prod.mk.injEq,decide_eq_true_eq]at h
  obtain⟨h0,rfl,rfl⟩:=h
  exact ZyV _ _ h0.1 h0.2
 ·cases h
def k95:Ctr:=⟨95,0,fun _ a=>match a with |[.int .i64 h, .list (.ints .i64 w)]=>some (decide (hfB h=true∧okw w=true), .bool (isW h w),none) |_=>none⟩
theorem ZJE:k95.OK Try.prog:=fun pa args r fr h=>by
 simp only[k95]at h
 split at h
 ·simp only[Option.some.injEq,Prod.mk.injEq,decide_eq_true_eq]at h
  obtain⟨h0,rfl,rfl⟩:=h
  exact Zz1 _ _ h0.1 h0.2
 ·cases h
def Kd:List Ctr:=[k75,k95]++Kc
theorem Zqr:Zay Try.prog Kd:=⟨ZKi,⟨ZJE,ZrZ⟩⟩
end Go.Proofs.Ytklbmkllepkjcaa
/- Copies are rows of their own again. No condition. -/
namespace Go.Proofs.Ytklbmkllepkjcaa
def Ke:List Ctr:=[k14]++Kd
theorem ZaC:Zay Try.prog Ke:=⟨ZDQ,Zqr⟩
end Go.Proofs.Ytklbmkllepkjcaa
