/- Paths of functions, printed by the explorer (Gx). No condition. -/
import Derived.Test.YthfcimmcccocmaaGreatDoorFd
import Derived.KernelRfl
namespace Go.Proofs.YthfcimmcccocmaaGreatDoor
set_option maxRecDepth 100000
set_option linter.unusedVariables false
def ZBd(a b c:Int)(xs:List Int)(a1 b1:Int)(ys:List Int)(s:List UInt8):AFrame:={ fn:=3,N:=137,env:=[(0,AV.agg (Row.gen [AV.int .i64 a,AV.int .i64 b,AV.int .i64 c,AV.list (.ints .i64 xs)])),(1,AV.agg (Row.gen [AV.int .i64 a1,AV.int .i64 b1,AV.list (.ints .i64 ys)])),(2,AV.str s)],todo:=[.code a3.code],defs:=[],rnd:=none,ret:=false,res:=[ARes.tmp 6] }
def g3e(a b c:Int)(xs:List Int)(a1 b1:Int)(ys:List Int)(s:List UInt8):List AFrame:=[(ZBd a b c xs a1 b1 ys s)]
theorem ZvN(a b c:Int)(xs:List Int)(a1 b1:Int)(ys:List Int)(s:List UInt8):Zap tab 3 [AV.agg (Row.gen [AV.int .i64 a,AV.int .i64 b,AV.int .i64 c,AV.list (.ints .i64 xs)]),AV.agg (Row.gen [AV.int .i64 a1,AV.int .i64 b1,AV.list (.ints .i64 ys)]),AV.str s]=some (ZBd a b c xs a1 b1 ys s):=rfl
def ZBH(A:Ar)(K:KT)(F:FT)(a b c:Int)(xs:List Int)(a1 b1:Int)(ys:List Int)(s:List UInt8):Prop:=rB [!A.not true] (bB (A.lt 42 (A.int (A.len xs))) (F (AV.bool true) (none)) (bB (A.lt 42 (A.int (A.len ys))) (F (AV.bool true) (none)) (bB (A.lt 160 (A.int (A.lenS s))) (F (AV.bool true) (none)) (rB [decide (nsG ([a,b,c]++xs)=true),decide (List.length s<1000000),decide (List.length s<1000000),decide (List.length s<1000000),decide (List.length s<1000000),decide (nsG ([a1,b1]++ys)=true),decide (List.length ys≤1000000),decide (nsG ([a,b,c]++xs)=true),decide (List.length xs≤1000000)] (bB (A.not (A.eqS (Zar (a::List.append [b,c] xs)) (Zar (a::List.append [b,c] xs)))) (False) (rB [decide (nsG ([a1,b1]++ys)=true)] (bB (A.not (A.eqS (Zar (a1::List.append [b1] ys)) (Zar (a1::List.append [b1] ys)))) (False) (bB (A.not (A.eq (pfE s) (pfE s))) (False) (rB [decide (List.length (pfD s)≤1000000)] (bB (A.not (Ze8 (pfA s 0) (pfA s 1) (pfA s 2) (pfD s) (pfA s 0) (pfA s 1) (pfA s 2) (pfD s))) (False) (bB (A.not (A.eq (ppE s) (ppE s))) (False) (rB [decide (List.length (ppD s)≤1000000)] (bB (A.not (ZgF (ppA s 0) (ppA s 1) (ppD s) (ppA s 0) (ppA s 1) (ppD s))) (False) (rB [decide (List.length ys≤1000000)] (bB (A.eq (pkE a1 b1 ys) 0) (rB [decide (List.length (Zar (a1::List.append [b1] ys))<1000000)] (bB (A.not (A.eq (ppE (Zar (a1::List.append [b1] ys))) 0)) (False) (rB [decide (List.length (ppD (Zar (a1::List.append [b1] ys)))≤1000000)] (bB (A.not (ZgF (ppA (Zar (a1::List.append [b1] ys)) 0) (ppA (Zar (a1::List.append [b1] ys)) 1) (ppD (Zar (a1::List.append [b1] ys))) a1 b1 ys)) (False) (rB [decide (List.length xs≤1000000∧((-1000000:Int)≤A.int (A.len xs)∧A.int (A.len xs)≤1000000)∧(-1000000:Int)≤4∧(4:Int)≤1000000)] (bB (A.not (A.eq (frE (A.int (A.len xs)) 4 a b c xs) 0)) (F (AV.bool true) (none)) (bB (A.lt 24 (A.int (A.len xs))) (F (AV.bool true) (none)) (rB [decide (List.length (Zar (a::List.append [b,c] xs))<1000000)] (bB (A.eq (pfE (Zar (a::List.append [b,c] xs))) 0) (rB [decide (List.length (pfD (Zar (a::List.append [b,c] xs)))≤1000000)] (F (AV.bool (Ze8 (pfA (Zar (a::List.append [b,c] xs)) 0) (pfA (Zar (a::List.append [b,c] xs)) 1) (pfA (Zar (a::List.append [b,c] xs)) 2) (pfD (Zar (a::List.append [b,c] xs))) a b c xs)) (none))) (False)))))))))) (rB [decide (List.length xs≤1000000∧((-1000000:Int)≤A.int (A.len xs)∧A.int (A.len xs)≤1000000)∧(-1000000:Int)≤4∧(4:Int)≤1000000)] (bB (A.not (A.eq (frE (A.int (A.len xs)) 4 a b c xs) 0)) (F (AV.bool true) (none)) (bB (A.lt 24 (A.int (A.len xs))) (F (AV.bool true) (none)) (rB [decide (List.length (Zar (a::List.append [b,c] xs))<1000000)] (bB (A.eq (pfE (Zar (a::List.append [b,c] xs))) 0) (rB [decide (List.length (pfD (Zar (a::List.append [b,c] xs)))≤1000000)] (F (AV.bool (Ze8 (pfA (Zar (a::List.append [b,c] xs)) 0) (pfA (Zar (a::List.append [b,c] xs)) 1) (pfA (Zar (a::List.append [b,c] xs)) 2) (pfD (Zar (a::List.append [b,c] xs))) a b c xs)) (none))) (False)))))))))))))))))))))
theorem ZBZ{A:Ar}{K:KT}{F:FT}{M:MT}{a b c:Int}{xs:List Int}{a1 b1:Int}{ys:List Int}{s:List UInt8} :Zat A tab N9 3 K F M (.run 12 (.fy (.run 9 (.tf (.ty (.ty (.ty (.ty (.run 1 (.ty (.ty (.ty (.ty (.run 2 (.ty (.run 5 (.fn))))))))))))) (.fy (.fy (.fy (.fy (.run 1 (.tf (.ty (.ty (.ty (.run 2 (.ty (.run 5 (.fn))))))) (.fy (.fy (.fy (.run 2 (.tf (.run 5 (.fn)) (.run 56 (.tf (.ty (.ty (.ty (.ty (.run 1 (.ty (.ty (.ty (.ty (.run 1 (.ty (.ty (.ty (.ty (.ty (.run 1 (.ty (.ty (.ty (.ty (.run 1 (.ty (.ty (.ty (.ty (.ty (.run 2 (.ty (.run 5 (.no)))))))))))))))))))))))))))))) (.fy (.fy (.fy (.fy (.run 1 (.tf (.ty (.ty (.ty (.run 1 (.ty (.ty (.ty (.ty (.ty (.run 1 (.ty (.ty (.ty (.ty (.run 1 (.ty (.ty (.ty (.ty (.ty (.run 2 (.ty (.run 5 (.no)))))))))))))))))))))))) (.fy (.fy (.fy (.run 1 (.tf (.ty (.ty (.ty (.ty (.run 1 (.ty (.ty (.ty (.ty (.run 1 (.ty (.ty (.ty (.ty (.ty (.run 2 (.ty (.run 5 (.no))))))))))))))))))) (.fy (.fy (.fy (.fy (.run 1 (.tf (.ty (.ty (.ty (.run 1 (.ty (.ty (.ty (.ty (.ty (.run 2 (.ty (.run 5 (.no))))))))))))) (.fy (.fy (.fy (.run 1 (.tf (.ty (.ty (.ty (.ty (.run 2 (.ty (.run 5 (.no)))))))) (.fy (.fy (.fy (.fy (.run 2 (.tf (.run 5 (.no)) (.run 8 (.tf (.run 16 (.tf (.ty (.ty (.ty (.ty (.run 2 (.ty (.run 5 (.no)))))))) (.fy (.fy (.fy (.fy (.run 2 (.tf (.run 5 (.no)) (.run 12 (.tf (.ty (.ty (.ty (.ty (.run 2 (.ty (.run 5 (.fn)))))))) (.fy (.fy (.fy (.fy (.run 2 (.tf (.run 5 (.fn)) (.run 17 (.tf (.ty (.ty (.ty (.run 4 (.fn))))) (.fy (.fy (.fy (.run 4 (.no))))))))))))))))))))))) (.run 12 (.tf (.ty (.ty (.ty (.ty (.run 2 (.ty (.run 5 (.fn)))))))) (.fy (.fy (.fy (.fy (.run 2 (.tf (.run 5 (.fn)) (.run 17 (.tf (.ty (.ty (.ty (.run 4 (.fn))))) (.fy (.fy (.fy (.run 4 (.no)))))))))))))))))))))))))))))))))))))))))))))))))))))))))))))) (g3e a b c xs a1 b1 ys s) []=ZBH A K F a b c xs a1 b1 ys s:=by kernel_rfl
end Go.Proofs.YthfcimmcccocmaaGreatDoor
/- Contracts as a list. No condition. -/
namespace Go.Proofs.YthfcimmcccocmaaGreatDoor
theorem ZiT(c:UInt8):∀ps:List (List UInt8),ps≠[]→(∀x∈ps,c∉x)→Zbg c (Lib.join ps [c])=ps
 |[],h,_=>absurd rfl h
 |[x],_,h=>by rw[Lib.join_one,Zio c x (h x List.mem_cons_self)]
 |x::y::r,_,h=>by
  have ih:=ZiT c (y::r) (by simp) (fun z hz=>h z (List.mem_cons_of_mem _ hz))
  have e:Lib.join (x::y::r) [c]=x++c::Lib.join (y::r) [c]:=by
   rw[Lib.join_cons,Lib.join_cons];simp[Lib.joinTail]
  rw[e,Zfj c x _ (h x List.mem_cons_self),ih]
theorem Zk6:∀k u:Nat,u<10^(k+1)→(Lib.decDigits u).length≤k+1
 |0,u,h=>by rw[Lib.decDigits,dif_pos (by simpa using h)];simp
 |k+1,u,h=>by
  rw[Lib.decDigits]
  split
  ·simp
  ·have ih:=Zk6 k (u/10) (by rw[Nat.pow_succ]at h;omega)
   simp;omega
theorem Zfy{v:Int}(h:0≤v∧v≤255):(32:UInt8)∉Lib.itoa v∧okW (Lib.itoa v)=true∧ZaZ (Lib.itoa v)=v:=by
 obtain⟨u,rfl⟩:∃u:Nat,v=u:=⟨v.toNat,by omega⟩
 have hl:(Lib.decDigits u).length≤3:=Zk6 2 u (by have:(10:Nat)^(2+1)=1000:=(by decide);omega)
 rw[Zii]
 refine⟨fun h=>?_,(Zis _ 3 (by decide)).2 ⟨u,rfl,by omega⟩,ZfN u (by omega)⟩
 have:=ZeN u 32 h
 exact absurd this.1 (by decide)
theorem Zjw{l:List Int}(h0:l≠[])(h:∀x∈l,0≤x∧x≤255):rdL (Zar l)=l∧∀few:Int,rdB (Zar l) few=decide (few≤l.length):=by
 have hc:Zbg 32 (Zar l)=l.map Lib.itoa:=by
  unfold Zar
  refine ZiT 32 _ (by simpa using h0) fun x hx=>?_
  obtain⟨v,hv,rfl⟩:=List.mem_map.1 hx
  exact(Zfy (h v hv)).1
 have ha:(Zbg 32 (Zar l)).all okW=true:=by
  rw[hc]
  refine List.all_eq_true.2 fun x hx=>?_
  obtain⟨v,hv,rfl⟩:=List.mem_map.1 hx
  exact(Zfy (h v hv)).2.1
 have hm:(Zbg 32 (Zar l)).map ZaZ=l:=by
  rw[hc,List.map_map]
  exact(List.map_congr_left fun v hv=>(Zfy (h v hv)).2.2).trans (List.map_id' l)
 refine⟨?_,fun few=>?_⟩
 ·unfold rdL;rw[ha];exact hm
 ·unfold rdB;rw[ha,hm];rfl
theorem Zhx{xs:List Int}(h:ZaQ xs=0):∀x∈xs,0≤x∧x≤255:=by
 unfold ZaQ at h
 split at h
 ·rename_i ha
  intro x hx
  have:=List.all_eq_true.1 ha x hx
  simpa[Zan]using this
 ·cases h
theorem Zkg{a b:Int}{ys:List Int}(h:pkE a b ys=0):ppE (Zar ([a,b]++ys))=0∧ppA (Zar ([a,b]++ys)) 0=a∧ppA (Zar ([a,b]++ys)) 1=b∧ppD (Zar ([a,b]++ys))=ys:=by
 have hp:=h
 unfold pkE at h
 split at h
 ·rename_i h1
  split at h
  ·rename_i h2
   split at h
   ·rename_i h3
    have hb:=Zhx h
    obtain⟨e1,e2⟩:=Zjw (l:=[a,b]++ys) (by simp) (by
     intro x hx
     rcases List.mem_append.1 hx with hx |hx
     ·simp only[List.mem_cons,List.not_mem_nil,or_false]at hx
      rcases hx with rfl |rfl
      ·simpa[Zan]using h1
      ·simpa[Zan]using h2
     ·exact hb x hx)
    have e3:rdB (Zar ([a,b]++ys)) 2=true:=by rw[e2];simp;omega
    have hE:ppE (Zar ([a,b]++ys))=0:=by
     unfold ppE
     rw[if_pos e3,e1]
     exact hp
    refine⟨hE,?_,?_,?_⟩
    ·unfold ppA;rw[if_pos hE,e1];rfl
    ·unfold ppA;rw[if_pos hE,e1];rfl
    ·unfold ppD;rw[if_pos hE,e1];rfl
   ·cases h
  ·cases h
 ·cases h
theorem Zmn{a b c:Int}{xs:List Int}(h:frE xs.length 4 a b c xs=0)(hl:xs.length≤24):pfE (Zar ([a,b,c]++xs))=0∧pfA (Zar ([a,b,c]++xs)) 0=a∧pfA (Zar ([a,b,c]++xs)) 1=b∧pfA (Zar ([a,b,c]++xs)) 2=c∧pfD (Zar ([a,b,c]++xs))=xs:=by
 unfold frE at h
 split at h
 ·rename_i h1
  split at h
  ·rename_i h2
   split at h
   ·rename_i h3
    rw[if_pos rfl]at h
    have hb:=Zhx h
    have g1:0≤a∧a≤3:=by simpa[Zan]using h1
    have g2:0≤b∧b≤63:=by simpa[Zan]using h2
    have g3:0≤c∧c≤255:=by
     rcases h3 with h3 |rfl
     ·have:0≤c∧c≤(xs.length:Int)-1:=by simpa[Zan]using h3
      omega
     ·decide
    obtain⟨e1,e2⟩:=Zjw (l:=[a,b,c]++xs) (by simp) (by
     intro x hx
     rcases List.mem_append.1 hx with hx |hx
     ·simp only[List.mem_cons,List.not_mem_nil,or_false]at hx
      rcases hx with rfl |rfl |rfl<;>omega
     ·exact hb x hx)
    have e3:rdB (Zar ([a,b,c]++xs)) 3=true:=by rw[e2];simp;omega
    have hE:pfE (Zar ([a,b,c]++xs))=0:=by
     unfold pfE
     rw[if_pos e3,e1,if_pos (by simp;omega)]
     exact h
    refine⟨hE,?_,?_,?_,?_⟩
    ·unfold pfA;rw[if_pos hE,e1];rfl
    ·unfold pfA;rw[if_pos hE,e1];rfl
    ·unfold pfA;rw[if_pos hE,e1];rfl
    ·unfold pfD;rw[if_pos hE,e1];rfl
   ·cases h
  ·cases h
 ·cases h
theorem ZiY{l:List Int}(h:nsG l=true):(Zar l).length<1000000:=by
 have:=ZnQ h l.length
 rw[List.take_length]at this
 unfold Zar;omega
theorem Zoc(s:List UInt8):(pfD s).length≤s.length+1:=by
 have:=ZeQ s
 unfold pfD
 split
 ·simp;omega
 ·simp
theorem Zop(s:List UInt8):(ppD s).length≤s.length+1:=by
 have:=ZeQ s
 unfold ppD
 split
 ·simp;omega
 ·simp
theorem ZkA(a b c:Int)(xs:List Int)(a1 b1:Int)(ys:List Int)(s:List UInt8)(ha:(Zdf a=true∧Zdf b=true)∧Zdf c=true)(hx:∀x∈xs,Zdf x=true)(hb:Zdf a1=true∧Zdf b1=true)(hy:∀x∈ys,Zdf x=true):
 Zae Tryz.prog 3 [.agg (.gen [.int .i64 a, .int .i64 b, .int .i64 c, .list (.ints .i64 xs)]), .agg (.gen [.int .i64 a1, .int .i64 b1, .list (.ints .i64 ys)]), .str s] (.bool true) none:=
 start (ZvN a b c xs a1 b1 ys s) fun C hC=>tgo hC ZyS ZBZ (by
  have ex:a::List.append [b,c] xs=[a,b,c]++xs:=rfl
  have ey:a1::List.append [b1] ys=[a1,b1]++ys:=rfl
  simp only[ZBH,ex,ey]
  by_cases h1:(42:Int)<xs.length
  ·simp[h1]
  ·by_cases h2:(42:Int)<ys.length
   ·simp[h1,h2]
   ·by_cases h3:(160:Int)<s.length
    ·simp[h1,h2,h3]
    ·have nx:nsG ([a,b,c]++xs)=true:=nsG_iff.2 ⟨by simp;omega,fun x hq=>by
      rcases List.mem_append.1 hq with hq |hq
      ·simp only[List.mem_cons,List.not_mem_nil,or_false]at hq
       rcases hq with rfl |rfl |rfl
       ·exact ha.1.1
       ·exact ha.1.2
       ·exact ha.2
      ·exact hx x hq⟩
     have ny:nsG ([a1,b1]++ys)=true:=nsG_iff.2 ⟨by simp;omega,fun x hq=>by
      rcases List.mem_append.1 hq with hq |hq
      ·simp only[List.mem_cons,List.not_mem_nil,or_false]at hq
       rcases hq with rfl |rfl
       ·exact hb.1
       ·exact hb.2
      ·exact hy x hq⟩
     have lx:=ZiY nx
     have ly:=ZiY ny
     have d1:=Zoc s
     have d2:=Zop s
     have d3:=Zoc (Zar ([a,b,c]++xs))
     have d4:=Zop (Zar ([a1,b1]++ys))
     have s1:s.length<1000000:=by omega
     have q1:(pfD s).length≤1000000:=by omega
     have q2:(ppD s).length≤1000000:=by omega
     have q3:xs.length≤1000000:=by omega
     have q4:ys.length≤1000000:=by omega
     have q5:(pfD (Zar ([a,b,c]++xs))).length≤1000000:=by omega
     have q6:(ppD (Zar ([a1,b1]++ys))).length≤1000000:=by omega
     have r1:(-1000000:Int)≤xs.length∧(xs.length:Int)≤1000000:=by omega
     have fb:=fun h hl=>Zmn (a:=a) (b:=b) (c:=c) (xs:=xs) h hl
     have pb:=fun h=>Zkg (a:=a1) (b:=b1) (ys:=ys) h
     generalize Zar ([a,b,c]++xs)=u at*
     generalize Zar ([a1,b1]++ys)=v at*
     by_cases h4:pkE a1 b1 ys=0
     ·obtain⟨p1,p2,p3,p4⟩:=pb h4
      by_cases h5:frE xs.length 4 a b c xs=0
      ·by_cases h6:(24:Int)<xs.length
       ·simp_all[Ze8,ZgF]
       ·obtain⟨f1,f2,f3,f4,f5⟩:=fb h5 (by omega)
        simp_all[Ze8,ZgF]
      ·simp_all[Ze8,ZgF]
     ·by_cases h5:frE xs.length 4 a b c xs=0
      ·by_cases h6:(24:Int)<xs.length
       ·simp_all[Ze8,ZgF]
       ·obtain⟨f1,f2,f3,f4,f5⟩:=fb h5 (by omega)
        simp_all[Ze8,ZgF]
      ·simp_all[Ze8,ZgF])
end Go.Proofs.YthfcimmcccocmaaGreatDoor
