/- Paths of functions, printed by the explorer (Gx). No condition. -/
import Derived.Test.YtklbmkllepkjcaaGr
import Derived.KernelRfl
namespace Go.Proofs.Ytklbmkllepkjcaa
set_option maxRecDepth 100000
set_option linter.unusedVariables false
def ZIC(l:List Int)(r:Int):AFrame:=vF 97 40 [vL 0 l,vI 1 r] [.code a97.code] [.tmp 4]
def ZVq(l:List Int)(r:Int):List AFrame:=[(ZIC l r)]
theorem ZGB(l:List Int)(r:Int):Zal tab 97 [AV.list (.ints .i64 l),AV.int .i64 r]=some (ZIC l r):=rfl
def Zg1(l:List Int)(r n0:Int)(l1:List Int):List AFrame:=[vF 97 40 [vL 0 l,vI 1 r,vR 5 97038,vI 6 n0] (vC ZJS ZP0) [.tmp 4]]
def Zfb(l:List Int)(r n0:Int)(l1:List Int):Zaa:=[vK 97038 l1]
abbrev Zn7(l:List Int)(r n0:Int)(l1:List Int):List AFrame×Zaa:=(Zg1 l r n0 l1,Zfb l r n0 l1)
def Zlj(l:List Int)(r n0 n2:Int)(l3:List Int):List AFrame:=[vF 97 40 [vL 0 l,vI 1 r,vR 5 97038,vI 6 n0,vI 20 r,vI 21 n2] (vC ZLQ ZQK) [.tmp 4]]
def Zjj(l:List Int)(r n0 n2:Int)(l3:List Int):Zaa:=[vK 97038 l3]
abbrev ZnY(l:List Int)(r n0 n2:Int)(l3:List Int):List AFrame×Zaa:=(Zlj l r n0 n2 l3,Zjj l r n0 n2 l3)
def ZL9(A:Ar)(K:KT)(F:FT)(l:List Int)(r:Int):Prop:=K (Zn7 l r 0 [])
theorem ZQy{A:Ar}{K:KT}{F:FT}{M:MT}{l:List Int}{r:Int} :Zah A tab N0 97 K F M (.run 17 (.hd)) (ZVq l r) []=ZL9 A K F l r:=by kernel_rfl
def Zji(A:Ar)(K:KT)(F:FT)(l:List Int)(r n0:Int)(l1:List Int):Prop:=bB (A.lt 0 r) (rB [Zad (A.not (A.eq r 0)) (A.inR .i64 (A.quo (A.int (A.len l)) r))] (bB (A.lt n0 (A.quo (A.int (A.len l)) r)) (K (ZnY l r n0 0 l1)) (F (AV.row 0 0) (some { e:=3,sz:=1,r:=.ints .i64 l1 })))) (F (AV.row 0 0) (some { e:=3,sz:=1,r:=.ints .i64 l1 }))
theorem ZnW{A:Ar}{K:KT}{F:FT}{M:MT}{l:List Int}{r n0:Int}{l1:List Int} :Zah A tab N0 97 K F M (.run 7 (.tf (.ty (.ty (.ty (.ty (.ty (.ty (.run 2 (.tf (.run 11 (.hd)) (.run 7 (.fn)))))))))) (.fy (.fy (.fy (.fy (.fy (.fy (.run 2 (.fy (.run 7 (.fn)))))))))))) (Zg1 l r n0 l1) (Zfb l r n0 l1)=Zji A K F l r n0 l1:=by kernel_rfl
def Zi5(A:Ar)(K:KT)(F:FT)(l:List Int)(r n0 n2:Int)(l3:List Int):Prop:=bB (A.lt n2 r) (rB [A.inR .i64 (A.add n2 1),Nat.ble (A.len l3+A.len [A.nth l (A.nat (A.add (A.mul n2 (A.quo (A.int (A.len l)) r)) n0))]) 4294967296,List.all [AV.int .i64 (A.nth l (A.nat (A.add (A.mul n2 (A.quo (A.int (A.len l)) r)) n0)))] fun x=>AV.bx x&&Nat.beq (Zag A x) 1,Zad (Zad (A.le 0 (A.add (A.mul n2 (A.quo (A.int (A.len l)) r)) n0)) (Nat.blt (A.nat (A.add (A.mul n2 (A.quo (A.int (A.len l)) r)) n0)) (A.len l))) true,A.inR .i64 (A.add (A.mul n2 (A.quo (A.int (A.len l)) r)) n0),A.inR .i64 (A.mul n2 (A.quo (A.int (A.len l)) r)),Zad (A.not (A.eq r 0)) (A.inR .i64 (A.quo (A.int (A.len l)) r))] (K (ZnY l r n0 (A.add n2 1) (A.app l3 [A.nth l (A.nat (A.add (A.mul n2 (A.quo (A.int (A.len l)) r)) n0))])))) (rB [A.inR .i64 (A.add n0 1)] (K (Zn7 l r (A.add n0 1) l3)))
theorem Znv{A:Ar}{K:KT}{F:FT}{M:MT}{l:List Int}{r n0 n2:Int}{l3:List Int} :Zah A tab N0 97 K F M (.run 6 (.tf (.run 32 (.hd)) (.run 9 (.hd)))) (Zlj l r n0 n2 l3) (Zjj l r n0 n2 l3)=Zi5 A K F l r n0 n2 l3:=by kernel_rfl
def ZNm(l:List Int)(r:Int):AFrame:=vF 98 35 [vL 0 l,vI 1 r] [.code a98.code] [.tmp 4]
def ZUB(l:List Int)(r:Int):List AFrame:=[(ZNm l r)]
theorem ZEP(l:List Int)(r:Int):Zal tab 98 [AV.list (.ints .i64 l),AV.int .i64 r]=some (ZNm l r):=rfl
def Zhg(l:List Int)(r n0 n1:Int)(l2:List Int):List AFrame:=[vF 98 35 [vL 0 l,vI 1 r,vI 5 n0,vR 6 98034,vI 7 n1] (vC ZKk ZQp) [.tmp 4]]
def Ze4(l:List Int)(r n0 n1:Int)(l2:List Int):Zaa:=[vK 98034 l2]
abbrev ZoL(l:List Int)(r n0 n1:Int)(l2:List Int):List AFrame×Zaa:=(Zhg l r n0 n1 l2,Ze4 l r n0 n1 l2)
def Zmb(l:List Int)(r n0 n1 n3:Int)(l4:List Int):List AFrame:=[vF 98 35 [vL 0 l,vI 1 r,vI 5 n0,vR 6 98034,vI 7 n1,vI 8 n3] (vC ZK2 ZQG) [.tmp 4]]
def Zii(l:List Int)(r n0 n1 n3:Int)(l4:List Int):Zaa:=[vK 98034 l4]
abbrev Zon(l:List Int)(r n0 n1 n3:Int)(l4:List Int):List AFrame×Zaa:=(Zmb l r n0 n1 n3 l4,Zii l r n0 n1 n3 l4)
def ZLm(A:Ar)(K:KT)(F:FT)(l:List Int)(r:Int):Prop:=rB [Zad (A.not (A.eq r 0)) (A.inR .i64 (A.quo (A.int (A.len l)) r))] (K (ZoL l r (A.quo (A.int (A.len l)) r) 0 []))
theorem ZQt{A:Ar}{K:KT}{F:FT}{M:MT}{l:List Int}{r:Int} :Zah A tab N0 98 K F M (.run 25 (.hd)) (ZUB l r) []=ZLm A K F l r:=by kernel_rfl
def Zh9(A:Ar)(K:KT)(F:FT)(l:List Int)(r n0 n1:Int)(l2:List Int):Prop:=bB (A.lt n1 n0) (K (Zon l r n0 n1 0 l2)) (F (AV.row 0 0) (some { e:=3,sz:=1,r:=.ints .i64 l2 }))
theorem Zn1{A:Ar}{K:KT}{F:FT}{M:MT}{l:List Int}{r n0 n1:Int}{l2:List Int} :Zah A tab N0 98 K F M (.run 8 (.tf (.run 10 (.hd)) (.run 7 (.fn)))) (Zhg l r n0 n1 l2) (Ze4 l r n0 n1 l2)=Zh9 A K F l r n0 n1 l2:=by kernel_rfl
def Zh6(A:Ar)(K:KT)(F:FT)(l:List Int)(r n0 n1 n3:Int)(l4:List Int):Prop:=let u0:=A.add (A.mul n3 n0) n1;let u1:=A.nat u0;bB (A.lt n3 r) (rB [A.inR .i64 (A.add n3 1),Nat.ble (A.len l4+A.len [A.nth l u1]) 4294967296,List.all [AV.int .i64 (A.nth l u1)] fun x=>AV.bx x&&Nat.beq (Zag A x) 1,Zad (Zad (A.le 0 u0) (Nat.blt u1 (A.len l))) true,A.inR .i64 u0,A.inR .i64 (A.mul n3 n0)] (K (Zon l r n0 n1 (A.add n3 1) (A.app l4 [A.nth l u1])))) (rB [A.inR .i64 (A.add n1 1)] (K (ZoL l r n0 (A.add n1 1) l4)))
theorem Zox{A:Ar}{K:KT}{F:FT}{M:MT}{l:List Int}{r n0 n1 n3:Int}{l4:List Int} :Zah A tab N0 98 K F M (.run 8 (.tf (.run 25 (.hd)) (.run 9 (.hd)))) (Zmb l r n0 n1 n3 l4) (Zii l r n0 n1 n3 l4)=Zh6 A K F l r n0 n1 n3 l4:=by kernel_rfl
def ZCf(l:List Int)(r:Int):AFrame:=vF 102 42 [vL 0 l,vI 1 r] [.code a102.code] [.tmp 4]
def ZPG(l:List Int)(r:Int):List AFrame:=[(ZCf l r)]
theorem Zz7(l:List Int)(r:Int):Zal tab 102 [AV.list (.ints .i64 l),AV.int .i64 r]=some (ZCf l r):=rfl
def ZdJ(l:List Int)(r n0:Int)(l1:List Int)(n2:Int):List AFrame:=[vF 102 42 [vL 0 l,vI 1 r,vI 5 n0,vR 6 102016,vI 7 n2] (vC ZD6 ZJz) [.tmp 4]]
def ZcV(l:List Int)(r n0:Int)(l1:List Int)(n2:Int):Zaa:=[vK 102016 l1]
abbrev ZjH(l:List Int)(r n0:Int)(l1:List Int)(n2:Int):List AFrame×Zaa:=(ZdJ l r n0 l1 n2,ZcV l r n0 l1 n2)
def ZgH(l:List Int)(r n0 n2 n3:Int)(l4:List Int):List AFrame:=[vF 102 42 [vL 0 l,vI 1 r,vI 5 n0,vR 6 102016,vI 7 n2,vI 8 n3] (vC ZCq ZLl) [.tmp 4]]
def Zez(l:List Int)(r n0 n2 n3:Int)(l4:List Int):Zaa:=[vK 102016 l4]
abbrev Zki(l:List Int)(r n0 n2 n3:Int)(l4:List Int):List AFrame×Zaa:=(ZgH l r n0 n2 n3 l4,Zez l r n0 n2 n3 l4)
def ZDs(A:Ar)(K:KT)(F:FT)(l:List Int)(r:Int):Prop:=rB [Zad (A.le 0 (A.int (A.len l))) (A.le (A.int (A.len l)) 4294967296),Zad (A.not (A.eq r 0)) (A.inR .i64 (A.quo (A.int (A.len l)) r))] (K (ZjH l r (A.quo (A.int (A.len l)) r) (A.rep (A.nat (A.int (A.len l))) 0) 0))
theorem ZIN{A:Ar}{K:KT}{F:FT}{M:MT}{l:List Int}{r:Int} :Zah A tab N0 102 K F M (.run 27 (.hd)) (ZPG l r) []=ZDs A K F l r:=by kernel_rfl
def Zeu(A:Ar)(K:KT)(F:FT)(l:List Int)(r n0:Int)(l1:List Int)(n2:Int):Prop:=bB (A.lt n2 r) (K (Zki l r n0 n2 0 l1)) (F (AV.row 0 0) (some { e:=3,sz:=1,r:=.ints .i64 l1 }))
theorem Zjw{A:Ar}{K:KT}{F:FT}{M:MT}{l:List Int}{r n0:Int}{l1:List Int}{n2:Int} :Zah A tab N0 102 K F M (.run 8 (.tf (.run 10 (.hd)) (.run 7 (.fn)))) (ZdJ l r n0 l1 n2) (ZcV l r n0 l1 n2)=Zeu A K F l r n0 l1 n2:=by kernel_rfl
def Zea(A:Ar)(K:KT)(F:FT)(l:List Int)(r n0 n2 n3:Int)(l4:List Int):Prop:=let u0:=A.add (A.mul n2 n0) n3;let u1:=A.add (A.mul n3 r) n2;let u2:=A.nat u0;bB (A.lt n3 n0) (rB [A.inR .i64 (A.add n3 1),Zad (Nat.blt u2 (A.len l4)) true,Zad (A.le 0 u0) (Nat.blt u2 (A.len l4)),Zad (Zad (A.le 0 u1) (Nat.blt (A.nat u1) (A.len l))) true,A.inR .i64 u1,A.inR .i64 (A.mul n3 r),A.inR .i64 u0,A.inR .i64 (A.mul n2 n0)] (K (Zki l r n0 n2 (A.add n3 1) (A.set l4 u2 (A.nth l (A.nat u1)))))) (rB [A.inR .i64 (A.add n2 1)] (K (ZjH l r n0 l4 (A.add n2 1))))
theorem Zjy{A:Ar}{K:KT}{F:FT}{M:MT}{l:List Int}{r n0 n2 n3:Int}{l4:List Int} :Zah A tab N0 102 K F M (.run 8 (.tf (.run 29 (.hd)) (.run 9 (.hd)))) (ZgH l r n0 n2 n3 l4) (Zez l r n0 n2 n3 l4)=Zea A K F l r n0 n2 n3 l4:=by kernel_rfl
def ZK5(m p q h D:Int):AFrame:=vF 50 21 [(0,AV.agg (Row.gen [.int .i64 m, .int .i64 p, .int .i64 q, .int .i64 h, .int .i64 D]))] [.code a50.code] [.tmp 2]
def ZVO(m p q h D:Int):List AFrame:=[(ZK5 m p q h D)]
theorem ZEC(m p q h D:Int):Zal tab 50 [AV.agg (Row.gen [.int .i64 m, .int .i64 p, .int .i64 q, .int .i64 h, .int .i64 D])]=some (ZK5 m p q h D):=rfl
def ZAD(A:Ar)(K:KT)(F:FT)(m p q h D:Int):Prop:=bB (A.not (A.eq (Za8 m p q) 0)) (F (AV.int .i64 (Za8 m p q)) none) (bB (A.not (A.eq (hfE h) 0)) (F (AV.int .i64 (hfE h)) none) (bB (A.not (Zao D 1 4)) (F (AV.int .i64 2) none) (F (AV.int .i64 0) none)))
theorem ZPH{A:Ar}{K:KT}{F:FT}{M:MT}{m p q h D:Int} :Zah A tab Kd 50 K F M (.run 18 (.tf (.run 6 (.fn)) (.run 14 (.tf (.run 6 (.fn)) (.run 9 (.tf (.run 5 (.fn)) (.run 6 (.fn)))))))) (ZVO m p q h D) []=ZAD A K F m p q h D:=by kernel_rfl
def ZKf(m p q h D:Int):AFrame:=vF 51 15 [(0,AV.agg (Row.gen [.int .i64 m, .int .i64 p, .int .i64 q, .int .i64 h, .int .i64 D]))] [.code a51.code] [.tmp 2]
def ZVS(m p q h D:Int):List AFrame:=[(ZKf m p q h D)]
theorem ZGw(m p q h D:Int):Zal tab 51 [AV.agg (Row.gen [.int .i64 m, .int .i64 p, .int .i64 q, .int .i64 h, .int .i64 D])]=some (ZKf m p q h D):=rfl
def ZNc(A:Ar)(K:KT)(F:FT)(m p q h D:Int):Prop:=rB [decide (List.length [Za8 m p q,hfE h,Zau (Zao D 1 4) 2]≤1000000),List.all [AV.int .i64 (Za8 m p q),AV.int .i64 (hfE h),AV.int .i64 (Zau (Zao D 1 4) 2)] fun x=>AV.bx x&&Nat.beq (Zag A x) 1] (F (AV.int .i64 (ZaE [Za8 m p q,hfE h,Zau (Zao D 1 4) 2])) none)
theorem ZRq{A:Ar}{K:KT}{F:FT}{M:MT}{m p q h D:Int} :Zah A tab Kd 51 K F M (.run 9 (.fn)) (ZVS m p q h D) []=ZNc A K F m p q h D:=by kernel_rfl
def ZM8(m p q h D:Int):AFrame:=vF 52 10 [(0,AV.agg (Row.gen [.int .i64 m, .int .i64 p, .int .i64 q, .int .i64 h, .int .i64 D]))] [.code a52.code] [.tmp 2]
def ZUt(m p q h D:Int):List AFrame:=[(ZM8 m p q h D)]
theorem ZG8(m p q h D:Int):Zal tab 52 [AV.agg (Row.gen [.int .i64 m, .int .i64 p, .int .i64 q, .int .i64 h, .int .i64 D])]=some (ZM8 m p q h D):=rfl
def ZKq(A:Ar)(K:KT)(F:FT)(m p q h D:Int):Prop:=let u0:=A.sub 15 (A.mul 2 h);rB [A.inR .i64 (A.mul D u0),A.inR .i64 u0,A.inR .i64 (A.mul 2 h)] (F (AV.int .i64 (A.mul D u0)) none)
theorem ZQE{A:Ar}{K:KT}{F:FT}{M:MT}{m p q h D:Int} :Zah A tab Kd 52 K F M (.run 18 (.fn)) (ZUt m p q h D) []=ZKq A K F m p q h D:=by kernel_rfl
def ZNe(m p q h D:Int):AFrame:=vF 54 12 [(0,AV.agg (Row.gen [.int .i64 m, .int .i64 p, .int .i64 q, .int .i64 h, .int .i64 D]))] [.code a54.code] [.tmp 2]
def ZVa(m p q h D:Int):List AFrame:=[(ZNe m p q h D)]
theorem ZEO(m p q h D:Int):Zal tab 54 [AV.agg (Row.gen [.int .i64 m, .int .i64 p, .int .i64 q, .int .i64 h, .int .i64 D])]=some (ZNe m p q h D):=rfl
def ZMg(A:Ar)(K:KT)(F:FT)(m p q h D:Int):Prop:=let u0:=A.mul (A.mul 4 D) 15;let u1:=A.add u0 m;rB [A.inR .i64 (A.mul 2 u1),A.inR .i64 u1,A.inR .i64 u0,A.inR .i64 (A.mul 4 D)] (F (AV.int .i64 (A.mul 2 u1)) none)
theorem ZSC{A:Ar}{K:KT}{F:FT}{M:MT}{m p q h D:Int} :Zah A tab Kd 54 K F M (.run 20 (.fn)) (ZVa m p q h D) []=ZMg A K F m p q h D:=by kernel_rfl
def ZDd(m p q:Int)(l:List Int):AFrame:=vF 100 41 [(0,AV.agg (Row.gen [.int .i64 m, .int .i64 p, .int .i64 q])),vL 1 l] [.code a100.code] [.tmp 4]
def ZPI(m p q:Int)(l:List Int):List AFrame:=[(ZDd m p q l)]
theorem ZB4(m p q:Int)(l:List Int):Zal tab 100 [AV.agg (Row.gen [.int .i64 m, .int .i64 p, .int .i64 q]),AV.list (.ints .i64 l)]=some (ZDd m p q l):=rfl
def Zgb(m p q:Int)(l0:List Int)(n1 n2:Int)(l3:List Int):List AFrame:=[vF 100 41 [vP 2 100003,vR 5 100016,vR 6 100039,vI 7 n1,vI 8 n2] (vC ZDJ ZNJ) [.tmp 4]]
def Zew(m p q:Int)(l0:List Int)(n1 n2:Int)(l3:List Int):Zaa:=[(100003,{ base:=0,blks:=[Blk.row 24 3 (Row.gen [AV.agg (Row.gen [AV.int .i64 m,AV.int .i64 p,AV.int .i64 q])])] }),vK 100016 l0,vK 100039 l3]
abbrev Zkf(m p q:Int)(l0:List Int)(n1 n2:Int)(l3:List Int):List AFrame×Zaa:=(Zgb m p q l0 n1 n2 l3,Zew m p q l0 n1 n2 l3)
def ZCJ(A:Ar)(K:KT)(F:FT)(m p q:Int)(l:List Int):Prop:=rB [Zad (A.le 0 m) (Nat.ble (A.len l+A.nat m) 4294967296),decide (List.length l≤1000000)] (K (Zkf m p q (A.app l (A.rep (A.nat m) 0)) 0 0 []))
theorem ZOO{A:Ar}{K:KT}{F:FT}{M:MT}{m p q:Int}{l:List Int} :Zah A tab Km 100 K F M (.run 24 (.hd)) (ZPI m p q l) []=ZCJ A K F m p q l:=by kernel_rfl
def ZeC(A:Ar)(K:KT)(F:FT)(m p q:Int)(l0:List Int)(n1 n2:Int)(l3:List Int):Prop:=let u3:=A.nat n2;let u0:=A.nth l0 u3;let u1:=A.len [oS m p n1 u0,oS m q n1 u0];let u2:=A.len l0;bB (A.lt n2 (A.int u2)) (rB [A.inR .i64 (A.add n2 1),Nat.ble (A.len l3+A.len [A.nth [oS m p n1 u0,oS m q n1 u0] 0,A.nth [oS m p n1 u0,oS m q n1 u0] 1]) 4294967296,List.all [AV.int .i64 (A.nth [oS m p n1 u0,oS m q n1 u0] 0),AV.int .i64 (A.nth [oS m p n1 u0,oS m q n1 u0] 1)] fun x=>AV.bx x&&Nat.beq (Zag A x) 1,Nat.blt 1 u1,Nat.blt 0 u1,Nat.beq u1 2,Nat.blt 0 (A.len [0,0]),decide (ZfL m p q n1 u0=true),Zad (Nat.blt u3 u2) true,Zad (A.le 0 n2) (Nat.blt u3 u2)] (K (Zkf m p q l0 (nxS m n1 u0) (A.add n2 1) (A.app l3 [A.nth [oS m p n1 u0,oS m q n1 u0] 0,A.nth [oS m p n1 u0,oS m q n1 u0] 1])))) (F (AV.row 0 0) (some { e:=3,sz:=1,r:=.ints .i64 l3 }))
theorem Zj1{A:Ar}{K:KT}{F:FT}{M:MT}{m p q:Int}{l0:List Int}{n1 n2:Int}{l3:List Int} :Zah A tab Km 100 K F M (.run 9 (.tf (.run 30 (.hd)) (.run 7 (.fn)))) (Zgb m p q l0 n1 n2 l3) (Zew m p q l0 n1 n2 l3)=ZeC A K F m p q l0 n1 n2 l3:=by kernel_rfl
def ZIP(m p q:Int)(l:List Int):AFrame:=vF 80 34 [(0,AV.agg (Row.gen [.int .i64 m, .int .i64 p, .int .i64 q])),vL 1 l] [.code a80.code] [.tmp 4]
def ZUc(m p q:Int)(l:List Int):List AFrame:=[(ZIP m p q l)]
theorem ZE9(m p q:Int)(l:List Int):Zal tab 80 [AV.agg (Row.gen [.int .i64 m, .int .i64 p, .int .i64 q]),AV.list (.ints .i64 l)]=some (ZIP m p q l):=rfl
def ZkR(m p q n0:Int)(l1:List Int)(n2 n3:Int)(l4:List Int):List AFrame:=[vF 80 34 [vP 2 80003,vR 5 80031,vI 6 n2,vR 15 80016,vI 16 n0,vI 17 n3] (vC ZNF ZRR) [.tmp 4]]
def ZiG(m p q n0:Int)(l1:List Int)(n2 n3:Int)(l4:List Int):Zaa:=[(80003,{ base:=0,blks:=[Blk.row 24 3 (Row.gen [AV.agg (Row.gen [AV.int .i64 m,AV.int .i64 p,AV.int .i64 q])])] }),vK 80016 l1,vK 80031 l4]
abbrev Zor(m p q n0:Int)(l1:List Int)(n2 n3:Int)(l4:List Int):List AFrame×Zaa:=(ZkR m p q n0 l1 n2 n3 l4,ZiG m p q n0 l1 n2 n3 l4)
def ZLB(A:Ar)(K:KT)(F:FT)(m p q:Int)(l:List Int):Prop:=let u0:=A.rep (A.nat m) 0;rB [Zad (A.le 0 m) (Nat.ble (A.len l+A.nat m) 4294967296),decide (List.length l≤1000000)] (K (Zor m p q (A.int (A.len (A.app l u0))) (A.app l u0) 0 0 []))
theorem ZSF{A:Ar}{K:KT}{F:FT}{M:MT}{m p q:Int}{l:List Int} :Zah A tab Kd 80 K F M (.run 20 (.hd)) (ZUc m p q l) []=ZLB A K F m p q l:=by kernel_rfl
def Zhz(A:Ar)(K:KT)(F:FT)(m p q n0:Int)(l1:List Int)(n2 n3:Int)(l4:List Int):Prop:=let u3:=A.nat n3;let u0:=A.nth l1 u3;let u1:=A.sub3 [oS m p n2 u0,oS m q n2 u0] 0 2;let u2:=A.len [oS m p n2 u0,oS m q n2 u0];bB (A.lt n3 n0) (rB [A.inR .i64 (A.add n3 1),Zad (Zad (Zad (Nat.ble 2 u2) true) true) (Nat.ble (A.len l4+A.len u1) 4294967296),Nat.beq u2 2,Nat.blt 0 (A.len [0,0]),decide (ZfL m p q n2 u0=true),Zad (Nat.blt u3 (A.len l1)) true,Zad (A.le 0 n3) (Nat.blt u3 (A.len l1))] (K (Zor m p q n0 l1 (nxS m n2 u0) (A.add n3 1) (A.app l4 u1)))) (F (AV.row 0 0) (some { e:=3,sz:=1,r:=.ints .i64 l4 }))
theorem ZoU{A:Ar}{K:KT}{F:FT}{M:MT}{m p q n0:Int}{l1:List Int}{n2 n3:Int}{l4:List Int} :Zah A tab Kd 80 K F M (.run 6 (.tf (.run 41 (.hd)) (.run 7 (.fn)))) (ZkR m p q n0 l1 n2 n3 l4) (ZiG m p q n0 l1 n2 n3 l4)=Zhz A K F m p q n0 l1 n2 n3 l4:=by kernel_rfl
end Go.Proofs.Ytklbmkllepkjcaa
/- Contracts as a list. No condition. -/
namespace Go.Proofs.Ytklbmkllepkjcaa
def tE(l:List Int)(R j:Nat):Int:=l.getD ((j%R)*(l.length/R)+j/R) 0
def tS(l:List Int)(R:Nat):List Int:=(List.range l.length).map (tE l R)
def tP(l:List Int)(R m:Nat):List Int:=(List.range m).map (tE l R)
theorem Zrk(l:List Int)(R m:Nat):(tP l R m).length=m:=by simp[tP]
theorem Zyh(l:List Int)(R:Nat):(tS l R).length=l.length:=by simp[tS]
theorem Zsq(l:List Int){R q c r:Nat}(hq:l.length/R=q)(hr:r<R):tP l R (c*R+r)++[l.getD (r*q+c) 0]=tP l R (c*R+(r+1)):=by
 rw[←Nat.add_assoc]
 unfold tP
 rw[List.range_succ,List.map_append]
 congr 1
 simp only[List.map_cons,List.map_nil,tE,hq]
 have h1:(c*R+r)%R=r:=by rw[Nat.mul_comm,Nat.mul_add_mod];exact Nat.mod_eq_of_lt hr
 have h2:(c*R+r)/R=c:=by rw[Nat.mul_comm,Nat.mul_add_div (by omega),Nat.div_eq_of_lt hr];rfl
 rw[h1,h2]
theorem Znk{n q R r c:Nat}(h:q*R≤n)(hr:r<R)(hc:c<q):r*q+c<n:=by
 have:(r+1)*q≤R*q:=Nat.mul_le_mul_right q hr
 rw[Nat.add_mul,Nat.one_mul,Nat.mul_comm R q]at this;omega
theorem Zky(n R:Nat):(n:Int).tdiv (R:Int)=((n/R:Nat):Int):=rfl
def dE(l:List Int)(q n m:Nat):List Int:=tP l q m++List.replicate (n-m) 0
theorem ZN7(l:List Int){q n m:Nat}(h:m≤n):(dE l q n m).length=n:=by simp[dE,Zrk];omega
theorem ZMw(l:List Int){q R i k:Nat}{n:Nat}(hR:l.length/q=R)(hk:k<q)(hm:i*q+k<n):(dE l q n (i*q+k)).set (i*q+k) (l.getD (k*R+i) 0)=dE l q n (i*q+(k+1)):=by
 unfold dE
 rw[←Zsq l hR hk]
 have hn:n-(i*q+k)=(n-(i*q+(k+1)))+1:=by omega
 rw[hn,List.replicate_succ,List.set_append_right _ _ (by rw[Zrk];exact Nat.le_refl _),Zrk,Nat.sub_self,List.set_cons_zero,List.append_assoc]
 rfl
section
variable {C:Ctx}(hC:C.P=Try.prog){rr:AV}{ff:Option Fresh}
include hC
theorem ZT9(xs:List Int)(R q c:Nat)(hq:xs.length/R=q)(hql:q≤xs.length)(hlen:xs.length≤1000000)(hR:0<R∧R≤1000000)(hqR:q*R≤xs.length)(hc:c<q)
 (hk:Ev C (Zg1 xs R (c+1:Nat) (tP xs R ((c+1)*R))) (Zfb xs R (c+1:Nat) (tP xs R ((c+1)*R))) (Zav 97 rr ff)):∀(d r:Nat),R-r=d→r≤R→
 Ev C (Zlj xs R c r (tP xs R (c*R+r))) (Zjj xs R c r (tP xs R (c*R+r))) (Zav 97 rr ff):=by
 intro d
 induction d with
 |zero=>
  intro r hd hr
  have:r=R:=by omega
  subst this
  rw[show c*r+r=(c+1)*r by rw[Nat.add_mul,Nat.one_mul]]
  refine tgo hC ZaT Znv ?_
  simp[Zi5]at hk⊢
  exact⟨by omega,hk⟩
 |succ d ih=>
  intro r hd hr
  have hrl:r<R:=by omega
  have hx:=Znk hqR hrl hc
  have hlp:c*R+r<xs.length:=Znk (by rw[Nat.mul_comm];exact hqR) hc hrl
  have e0:(xs.length:Int).tdiv (R:Int)=(q:Int):=by rw[Zky,hq]
  have this:=ih (r+1) (by omega) (by omega)
  rw[←Zsq xs hq hrl]at this
  obtain⟨m,hm⟩:∃m,r*q+c=m:=⟨_,rfl⟩
  obtain⟨m2,hm2⟩:∃m,r*q=m:=⟨_,rfl⟩
  have e2:((r:Int)*(q:Int))=(m2:Int):=by rw[←hm2];simp
  have e1:((m2:Int)+(c:Int))=(m:Int):=by rw[←hm,hm2];simp
  rw[hm]at hx this
  refine tgo hC ZaT Znv ?_
  simp only[Zi5,ZFg,ZaV,ZaF,ZcU,Zjn,Zl1,Zcq,Za2,e0,e2,e1,Int.toNat_natCast]
  simp[-List.getD_eq_getElem?_getD,hrl,hx,Zrk,Zag,AV.bx]at this⊢
  exact⟨by omega,this⟩
theorem ZT5(xs:List Int)(R q:Nat)(hq:xs.length/R=q)(hql:q≤xs.length)(hlen:xs.length≤1000000)(hR:0<R∧R≤1000000)(hqR:q*R≤xs.length):∀(d c:Nat),q-c=d→c≤q→
 Ev C (Zg1 xs R c (tP xs R (c*R))) (Zfb xs R c (tP xs R (c*R))) (Zav 97 (.row 0 0) (some ⟨3,1, .ints .i64 (tP xs R (q*R))⟩)):=by
 have e0:(xs.length:Int).tdiv (R:Int)=(q:Int):=by rw[Zky,hq]
 intro d
 induction d with
 |zero=>
  intro c hd hc
  have:c=q:=by omega
  subst this
  refine tgo hC ZaT ZnW ?_
  simp only[Zji,Zl1,Zcq,Za2,e0]
  simp[show 0<R by omega]
  omega
 |succ d ih=>
  intro c hd hc
  have i:=ZT9 hC xs R q c hq hql hlen hR hqR (by omega) (ih (c+1) (by omega) (by omega)) R 0 (by omega) (by omega)
  refine tgo hC ZaT ZnW ?_
  simp only[Zji,Zl1,Zcq,Za2,e0]
  simp[show 0<R by omega,show c<q by omega]at i⊢
  exact⟨by omega,i⟩
theorem ZVX(xs:List Int)(R q c:Nat)(hq:xs.length/R=q)(hql:q≤xs.length)(hlen:xs.length≤1000000)(hR:0<R∧R≤1000000)(hqR:q*R≤xs.length)(hc:c<q)
 (hk:Ev C (Zhg xs R q (c+1:Nat) (tP xs R ((c+1)*R))) (Ze4 xs R q (c+1:Nat) (tP xs R ((c+1)*R))) (Zav 98 rr ff)):∀(d r:Nat),R-r=d→r≤R→
 Ev C (Zmb xs R q c r (tP xs R (c*R+r))) (Zii xs R q c r (tP xs R (c*R+r))) (Zav 98 rr ff):=by
 intro d
 induction d with
 |zero=>
  intro r hd hr
  have:r=R:=by omega
  subst this
  rw[show c*r+r=(c+1)*r by rw[Nat.add_mul,Nat.one_mul]]
  refine tgo hC ZaT Zox ?_
  simp[Zh6]at hk⊢
  exact⟨by omega,hk⟩
 |succ d ih=>
  intro r hd hr
  have hrl:r<R:=by omega
  have hx:=Znk hqR hrl hc
  have hlp:c*R+r<xs.length:=Znk (by rw[Nat.mul_comm];exact hqR) hc hrl
  have this:=ih (r+1) (by omega) (by omega)
  rw[←Zsq xs hq hrl]at this
  obtain⟨m,hm⟩:∃m,r*q+c=m:=⟨_,rfl⟩
  obtain⟨m2,hm2⟩:∃m,r*q=m:=⟨_,rfl⟩
  have e2:((r:Int)*(q:Int))=(m2:Int):=by rw[←hm2];simp
  have e1:((m2:Int)+(c:Int))=(m:Int):=by rw[←hm,hm2];simp
  rw[hm]at hx this
  refine tgo hC ZaT Zox ?_
  simp only[Zh6,ZFg,ZaV,ZaF,ZcU,Zjn,Zl1,Zcq,Za2,e2,e1,Int.toNat_natCast]
  simp[-List.getD_eq_getElem?_getD,hrl,hx,Zrk,Zag,AV.bx]at this⊢
  exact⟨by omega,this⟩
theorem ZVw(xs:List Int)(R q:Nat)(hq:xs.length/R=q)(hql:q≤xs.length)(hlen:xs.length≤1000000)(hR:0<R∧R≤1000000)(hqR:q*R≤xs.length):∀(d c:Nat),q-c=d→c≤q→
 Ev C (Zhg xs R q c (tP xs R (c*R))) (Ze4 xs R q c (tP xs R (c*R))) (Zav 98 (.row 0 0) (some ⟨3,1, .ints .i64 (tP xs R (q*R))⟩)):=by
 intro d
 induction d with
 |zero=>
  intro c hd hc
  have:c=q:=by omega
  subst this
  refine tgo hC ZaT Zn1 ?_
  simp[Zh9]
 |succ d ih=>
  intro c hd hc
  have i:=ZVX hC xs R q c hq hql hlen hR hqR (by omega) (ih (c+1) (by omega) (by omega)) R 0 (by omega) (by omega)
  refine tgo hC ZaT Zn1 ?_
  simp[Zh9,show c<q by omega]at i⊢
  exact i
theorem ZQ1(xs:List Int)(R q i:Nat)(hR:xs.length/q=R)(hql:q≤xs.length)(hlen:xs.length≤1000000)(hRl:R≤1000)(hqR:R*q≤xs.length)(hi:i<R)
 (hk:Ev C (ZdJ xs R q (dE xs q xs.length ((i+1)*q)) (i+1:Nat)) (ZcV xs R q (dE xs q xs.length ((i+1)*q)) (i+1:Nat)) (Zav 102 rr ff)):∀(d k:Nat),q-k=d→k≤q→
 Ev C (ZgH xs R q i k (dE xs q xs.length (i*q+k))) (Zez xs R q i k (dE xs q xs.length (i*q+k))) (Zav 102 rr ff):=by
 intro d
 induction d with
 |zero=>
  intro k hd hk'
  have:k=q:=by omega
  subst this
  rw[show i*k+k=(i+1)*k by rw[Nat.add_mul,Nat.one_mul]]
  refine tgo hC ZaT Zjy ?_
  simp[Zea]at hk⊢
  exact⟨by omega,hk⟩
 |succ d ih=>
  intro k hd hk'
  have hkl:k<q:=by omega
  have hx:=Znk hqR hkl hi
  have hm:=Znk (by rw[Nat.mul_comm];exact hqR) hi hkl
  have hdl:=ZN7 xs (q:=q) (Nat.le_of_lt hm)
  have hst:=ZMw xs (n:=xs.length) hR hkl hm
  obtain⟨a,ha⟩:∃a,i*q+k=a:=⟨_,rfl⟩
  obtain⟨a2,ha2⟩:∃a,i*q=a:=⟨_,rfl⟩
  obtain⟨b,hb⟩:∃a,k*R+i=a:=⟨_,rfl⟩
  obtain⟨b2,hb2⟩:∃a,k*R=a:=⟨_,rfl⟩
  have e1:((i:Int)*(q:Int))=(a2:Int):=by rw[←ha2];simp
  have e2:((a2:Int)+(k:Int))=(a:Int):=by rw[←ha,ha2];simp
  have e3:((k:Int)*(R:Int))=(b2:Int):=by rw[←hb2];simp
  have e4:((b2:Int)+(i:Int))=(b:Int):=by rw[←hb,hb2];simp
  have:=ih (k+1) (by omega) (by omega)
  rw[←hst]at this
  rw[ha]at this hm hdl⊢
  rw[hb]at this hx
  refine tgo hC ZaT Zjy ?_
  simp only[Zea,ZrQ,ZaV,ZaF,ZcU,Zjn,Zcq,Za2,e1,e2,e3,e4,Int.toNat_natCast]
  simp[-List.getD_eq_getElem?_getD,hkl,hx,hm,hdl]at this⊢
  exact⟨by omega,this⟩
theorem ZPN(xs:List Int)(R q:Nat)(hR:xs.length/q=R)(hql:q≤xs.length)(hlen:xs.length≤1000000)(hRl:R≤1000)(hqR:R*q=xs.length):∀(d i:Nat),R-i=d→i≤R→
 Ev C (ZdJ xs R q (dE xs q xs.length (i*q)) i) (ZcV xs R q (dE xs q xs.length (i*q)) i) (Zav 102 (.row 0 0) (some ⟨3,1, .ints .i64 (tS xs q)⟩)):=by
 intro d
 induction d with
 |zero=>
  intro i hd hi
  have:i=R:=by omega
  subst this
  refine tgo hC ZaT Zjw ?_
  rw[hqR]
  simp[Zeu,dE,tP,tS]
 |succ d ih=>
  intro i hd hi
  have i0:=ZQ1 hC xs R q i hR hql hlen hRl (Nat.le_of_eq hqR) (by omega) (ih (i+1) (by omega) (by omega)) q 0 (by omega) (by omega)
  refine tgo hC ZaT Zjw ?_
  simp[Zeu,show i<R by omega]at i0⊢
  exact i0
end
def rcB(l:List Int)(r:Int):Bool:=decide (1≤r∧r≤400∧0<l.length∧l.length≤1000000∧l.length/r.toNat*r.toNat=l.length)
theorem ZGR{l:List Int}{r:Int}(h:rcB l r=true):∃R q:Nat,r=R∧1≤R∧R≤400∧0<q∧q≤l.length∧l.length≤1000000∧l.length/R=q∧q*R=l.length:=by
 have h:=of_decide_eq_true h
 obtain⟨R,rfl⟩:=Int.eq_ofNat_of_zero_le (show 0≤r by omega)
 have h5:l.length/R*R=l.length:=h.2.2.2.2
 refine⟨R,l.length/R,rfl,by omega,by omega,?_,Nat.div_le_self _ _,h.2.2.2.1,rfl,h5⟩
 rcases Nat.eq_zero_or_pos (l.length/R)with e |e
 ·rw[e]at h5;omega
 ·exact e
theorem Zys(l:List Int)(r:Int)(h:rcB l r=true):Zaj Try.prog 97 [.list (.ints .i64 l), .int .i64 r] (.row 0 0) (some ⟨3,1, .ints .i64 (tS l r.toNat)⟩):=by
 obtain⟨R,q,rfl,h1,h2,h3,h4,h5,h6,h7⟩:=ZGR h
 refine start (ZGB l R) fun C hC=>tgo hC ZaT ZQy ?_
 have i:=ZT5 hC l R q h6 h4 h5 ⟨h1,by omega⟩ (Nat.le_of_eq h7) q 0 (by omega) (by omega)
 have e:tS l R=tP l R (q*R):=by unfold tS tP;rw[h7]
 simp only[ZL9,Int.toNat_natCast,e]
 simp[tP]at i⊢
 exact i
theorem Zwc(l:List Int)(r:Int)(h:rcB l r=true):Zaj Try.prog 98 [.list (.ints .i64 l), .int .i64 r] (.row 0 0) (some ⟨3,1, .ints .i64 (tS l r.toNat)⟩):=by
 obtain⟨R,q,rfl,h1,h2,h3,h4,h5,h6,h7⟩:=ZGR h
 have e0:(l.length:Int).tdiv (R:Int)=(q:Int):=by rw[Zky,h6]
 refine start (ZEP l R) fun C hC=>tgo hC ZaT ZQt ?_
 have i:=ZVw hC l R q h6 h4 h5 ⟨h1,by omega⟩ (Nat.le_of_eq h7) q 0 (by omega) (by omega)
 have e:tS l R=tP l R (q*R):=by unfold tS tP;rw[h7]
 simp only[ZLm,Int.toNat_natCast,e,Zl1,Zcq,Za2,e0]
 simp[tP]at i⊢
 exact⟨by omega,i⟩
theorem ZuW(l:List Int)(r:Int)(h:rcB l r=true):Zaj Try.prog 102 [.list (.ints .i64 l), .int .i64 r] (.row 0 0) (some ⟨3,1, .ints .i64 (tS l (l.length/r.toNat))⟩):=by
 obtain⟨R,q,rfl,h1,h2,h3,h4,h5,h6,h7⟩:=ZGR h
 have e0:(l.length:Int).tdiv (R:Int)=(q:Int):=by rw[Zky,h6]
 have hR2:l.length/q=R:=by rw[←h7];exact Nat.mul_div_cancel_left R h3
 refine start (Zz7 l R) fun C hC=>tgo hC ZaT ZIN ?_
 have i:=ZPN hC l R q hR2 h4 h5 (by omega) (by rw[Nat.mul_comm];exact h7) R 0 (by omega) (by omega)
 simp only[ZDs,Int.toNat_natCast,h6,Zl1,Zcq,Za2,ZMq,ZaF,e0]
 simp[dE,tP]at i⊢
 exact⟨by omega,i⟩
def nbI:List Int→Int→Int
 |[],n=>n
 |b::l,n=>nbI l (2*n+b)
def b4L(n:Int):List Int:=[n.tdiv 2 |>.tdiv 2 |>.tdiv 2 |>.tmod 2,n.tdiv 2 |>.tdiv 2 |>.tmod 2,n.tdiv 2 |>.tmod 2,n.tmod 2]
theorem ZV6{C:Ctx}(hC:C.P=Try.prog)(l:List Int)(hb:ZbP l=true)(hl:l.length≤20):∀(k i:Nat) (n:Int),i+k=l.length→0≤n→n<2^i→Ev C (ZgF l n i) (ZeI l n i) (Zav 101 (.int .i64 (nbI (l.drop i) n)) none):=by
 intro k
 induction k with
 |zero=>
  intro i n hi h0 h1
  rw[List.drop_of_length_le (by omega),nbI]
  refine tgo hC ZaT ZjV ?_
  simp[ZeH,show ¬(i:Int)<l.length by omega]
 |succ k ih=>
  intro i n hi h0 h1
  have hlt:i<l.length:=by omega
  have hlt2:(i:Int)<l.length:=by omega
  have hbi:=Zg0 hb i
  rw[ZdV hlt,nbI]
  have hp:(2:Int)^(i+1)=2*2^i:=by rw[Int.pow_succ];omega
  have hq:(2:Int)^i≤2^20:=by exact_mod_cast Nat.pow_le_pow_right (by decide) (by omega)
  have hq2:(2:Int)^20=1048576:=by decide
  have next:=ih (i+1) (2*n+l.getD i 0) (by omega) (by omega) (by omega)
  refine tgo hC ZaT ZjV ?_
  simp[-List.getD_eq_getElem?_getD,ZeH,hlt,hlt2]at next⊢
  exact⟨by omega,next⟩
theorem ZxD(l:List Int)(h:ZbP l=true∧l.length≤20):Zaj Try.prog 101 [.list (.ints .i64 l)] (.int .i64 (nbI l 0)) none:=by
 refine start (Zz9 l) fun C hC=>tgo hC ZaT ZK0 ?_
 have i:=ZV6 hC l h.1 h.2 l.length 0 0 (by omega) (by omega) (by decide)
 simp[ZDY]at i⊢
 exact i
def c4B(n c:Int):Bool:=decide (c=4∧0≤n∧n≤15)
theorem ZvT(n c:Int)(h:c4B n c=true):Zaj Try.prog 99 [.int .i64 n, .int .i64 c] (.row 0 0) (some ⟨3,1, .ints .i64 (b4L n)⟩):=by
 obtain⟨rfl,h1,h2⟩:=of_decide_eq_true h
 refine start (ZE2 n 4) fun C hC=>tgo hC ZaT ZPF ?_
 have t:∀x:Int,0≤x→x.tdiv 2=x/2:=fun x hx=>Int.tdiv_eq_ediv_of_nonneg hx
 have d1:0≤n.tdiv 2∧n.tdiv 2≤7:=by rw[t _ h1];omega
 have d2:0≤(n.tdiv 2).tdiv 2∧(n.tdiv 2).tdiv 2≤3:=by rw[t _ d1.1];omega
 have d3:0≤((n.tdiv 2).tdiv 2).tdiv 2∧((n.tdiv 2).tdiv 2).tdiv 2≤1:=by rw[t _ d2.1];omega
 have d4:0≤(((n.tdiv 2).tdiv 2).tdiv 2).tdiv 2∧(((n.tdiv 2).tdiv 2).tdiv 2).tdiv 2≤1:=by rw[t _ d3.1];omega
 have i0:Ev C (ZcN (-1) (b4L n) ((((n.tdiv 2).tdiv 2).tdiv 2).tdiv 2)) (Zb3 (-1) (b4L n) ((((n.tdiv 2).tdiv 2).tdiv 2).tdiv 2)) (Zav 99 (.row 0 0) (some ⟨3,1, .ints .i64 (b4L n)⟩)):=by
  refine tgo hC ZaT Zdp ?_
  simp[Zcv]
 have i1:Ev C (ZcN 0 [0,((n.tdiv 2).tdiv 2).tmod 2,(n.tdiv 2).tmod 2,n.tmod 2] (((n.tdiv 2).tdiv 2).tdiv 2)) (Zb3 0 [0,((n.tdiv 2).tdiv 2).tmod 2,(n.tdiv 2).tmod 2,n.tmod 2] (((n.tdiv 2).tdiv 2).tdiv 2)) (Zav 99 (.row 0 0) (some ⟨3,1, .ints .i64 (b4L n)⟩)):=by
  refine tgo hC ZaT Zdp ?_
  simp[Zcv,b4L]at i0⊢
  exact⟨by omega,i0⟩
 have i2:Ev C (ZcN 1 [0,0,(n.tdiv 2).tmod 2,n.tmod 2] ((n.tdiv 2).tdiv 2)) (Zb3 1 [0,0,(n.tdiv 2).tmod 2,n.tmod 2] ((n.tdiv 2).tdiv 2)) (Zav 99 (.row 0 0) (some ⟨3,1, .ints .i64 (b4L n)⟩)):=by
  refine tgo hC ZaT Zdp ?_
  simp[Zcv]at i1⊢
  exact⟨by omega,i1⟩
 have i3:Ev C (ZcN 2 [0,0,0,n.tmod 2] (n.tdiv 2)) (Zb3 2 [0,0,0,n.tmod 2] (n.tdiv 2)) (Zav 99 (.row 0 0) (some ⟨3,1, .ints .i64 (b4L n)⟩)):=by
  refine tgo hC ZaT Zdp ?_
  simp[Zcv]at i2⊢
  exact⟨by omega,i2⟩
 have i4:Ev C (ZcN 3 [0,0,0,0] n) (Zb3 3 [0,0,0,0] n) (Zav 99 (.row 0 0) (some ⟨3,1, .ints .i64 (b4L n)⟩)):=by
  refine tgo hC ZaT Zdp ?_
  simp[Zcv]at i3⊢
  exact⟨by omega,i3⟩
 simp[ZMB,List.replicate]at i4⊢
 exact i4
def lkE(m p q h D:Int):Int:=ZaE [Za8 m p q,hfE h,Zau (Zao D 1 4) 2]
theorem Zy8(m p q h D:Int):Zaj Try.prog 51 [.agg (.gen [.int .i64 m, .int .i64 p, .int .i64 q, .int .i64 h, .int .i64 D])] (.int .i64 (lkE m p q h D)) none:=by
 refine start (ZGw m p q h D) fun C hC=>tgo hC Zqr ZRq ?_
 simp[ZNc,lkE,AV.bx,Zag]
theorem ZzK(m p q h D:Int):Zaj Try.prog 50 [.agg (.gen [.int .i64 m, .int .i64 p, .int .i64 q, .int .i64 h, .int .i64 D])] (.int .i64 (lkE m p q h D)) none:=by
 refine start (ZEC m p q h D) fun C hC=>tgo hC Zqr ZPH ?_
 by_cases h1:Za8 m p q=0
 ·by_cases h2:hfE h=0
  ·cases h3:Zao D 1 4<;>simp[ZAD,lkE,ZaE,Zau,h1,h2,h3]
  ·simp[ZAD,lkE,ZaE,h1,h2]
 ·simp[ZAD,lkE,ZaE,h1]
theorem ZsF{m p q h D:Int}(e:lkE m p q h D=0):Za8 m p q=0∧hfB h=true∧1≤h∧h≤3∧1≤D∧D≤4:=by
 obtain⟨e1,e⟩:=ZcM e
 obtain⟨e2,e⟩:=ZcM e
 obtain⟨e3,_⟩:=ZcM e
 have h2:=ZJq e2
 refine⟨e1,decide_eq_true h2,h2.1,h2.2,?_⟩
 cases hw:Zao D 1 4 with
 |true=>exact of_decide_eq_true hw
 |false=>rw[hw]at e3;cases e3
@[irreducible] def daI (h D:Int):Int:=D*(15-2*h)
theorem ZDj(h D:Int):daI h D=D*(15-2*h):=by unfold daI;rfl
@[irreducible] def cnI (m D:Int):Int:=2*(4*D*15+m)
theorem ZDP(m D:Int):cnI m D=2*(4*D*15+m):=by unfold cnI;rfl
theorem Zzl(m p q h D:Int)(e:lkE m p q h D=0):Zaj Try.prog 52 [.agg (.gen [.int .i64 m, .int .i64 p, .int .i64 q, .int .i64 h, .int .i64 D])] (.int .i64 (daI h D)) none:=by
 obtain⟨_,_,h1,h2,h3,h4⟩:=ZsF e
 have b1:D*(15-2*h)≤4*13:=Int.mul_le_mul h4 (by omega) (by omega) (by omega)
 have b2:0≤D*(15-2*h):=Int.mul_nonneg (by omega) (by omega)
 rw[ZDj]
 refine start (ZG8 m p q h D) fun C hC=>tgo hC Zqr ZQE ?_
 simp[ZKq]
 omega
theorem ZB6(m p q h D:Int)(e:lkE m p q h D=0):Zaj Try.prog 54 [.agg (.gen [.int .i64 m, .int .i64 p, .int .i64 q, .int .i64 h, .int .i64 D])] (.int .i64 (cnI m D)) none:=by
 obtain⟨e1,_,h1,h2,h3,h4⟩:=ZsF e
 have hm:=(Zaz e1).1
 rw[ZDP]
 refine start (ZEO m p q h D) fun C hC=>tgo hC Zqr ZSC ?_
 simp[ZMg]
 omega
section
variable {C:Ctx}(hC:C.P=Try.prog)(m p q:Int)(hv:Za8 m p q=0)
include hC hv
theorem E80(l:List Int)(hb:ZbP l=true)(hl:l.length≤1000):∀(k i:Nat) (s:Int) (out:List Int),i+k=l.length→(0≤s∧s<stN m)→out.length=2*i→
 Ev C (ZkR m p q l.length l s i out) (ZiG m p q l.length l s i out) (Zav 80 (.row 0 0) (some ⟨3,1, .ints .i64 (out++ZyT m p q s (l.drop i))⟩)):=by
 intro k
 induction k with
 |zero=>
  intro i s out hi hs ho
  rw[List.drop_of_length_le (by omega),ZyT,List.append_nil]
  refine tgo hC Zqr ZoU ?_
  simp[Zhz,show ¬(i:Int)<l.length by omega]
 |succ k ih=>
  intro i s out hi hs ho
  have hlt:i<l.length:=by omega
  have hlt2:(i:Int)<l.length:=by omega
  have hbi:=Zg0 hb i
  obtain⟨s1,s2,s3⟩:=ZIF hv hs hbi
  have next:=ih (i+1) (nxS m s (l.getD i 0)) (out++[oS m p s (l.getD i 0),oS m q s (l.getD i 0)]) (by omega) ⟨s2,s3⟩ (by simp;omega)
  rw[ZdV hlt,ZyT]
  rw[List.append_assoc]at next
  refine tgo hC Zqr ZoU ?_
  simp[-List.getD_eq_getElem?_getD,Zhz,hlt,hlt2,s1]at next⊢
  exact⟨by omega,next⟩
theorem ZTQ(l:List Int)(hb:ZbP l=true)(hl:l.length≤1000):∀(k i:Nat) (s:Int) (out:List Int),i+k=l.length→(0≤s∧s<stN m)→out.length=2*i→
 Ev C (Zgb m p q l s i out) (Zew m p q l s i out) (Zav 100 (.row 0 0) (some ⟨3,1, .ints .i64 (out++ZyT m p q s (l.drop i))⟩)):=by
 intro k
 induction k with
 |zero=>
  intro i s out hi hs ho
  rw[List.drop_of_length_le (by omega),ZyT,List.append_nil]
  refine tgo hC ZAw Zj1 ?_
  simp[ZeC,show ¬(i:Int)<l.length by omega]
 |succ k ih=>
  intro i s out hi hs ho
  have hlt:i<l.length:=by omega
  have hlt2:(i:Int)<l.length:=by omega
  have hbi:=Zg0 hb i
  obtain⟨s1,s2,s3⟩:=ZIF hv hs hbi
  have next:=ih (i+1) (nxS m s (l.getD i 0)) (out++[oS m p s (l.getD i 0),oS m q s (l.getD i 0)]) (by omega) ⟨s2,s3⟩ (by simp;omega)
  rw[ZdV hlt,ZyT]
  rw[List.append_assoc]at next
  refine tgo hC ZAw Zj1 ?_
  simp[-List.getD_eq_getElem?_getD,ZeC,hlt,hlt2,s1,AV.bx,Zag]at next⊢
  exact⟨by omega,next⟩
end
def ecB(m p q:Int)(l:List Int):Bool:=decide (Za8 m p q=0)&&ZbP l&&decide (l.length≤300)
theorem ZCV{m p q:Int}{l:List Int}(h:ecB m p q l=true):Za8 m p q=0∧ZbP l=true∧l.length≤300:=by
 unfold ecB at h
 simp only[Bool.and_eq_true,decide_eq_true_eq]at h
 exact⟨h.1.1,h.1.2,h.2⟩
theorem Zz2(m p q:Int)(l:List Int)(h:ecB m p q l=true):Zaj Try.prog 80 [.agg (.gen [.int .i64 m, .int .i64 p, .int .i64 q]), .list (.ints .i64 l)] (.row 0 0) (some ⟨3,1, .ints .i64 (ZqF m p q l)⟩):=by
 obtain⟨h1,h2,h3⟩:=ZCV h
 have hm:=(Zaz h1).1
 refine start (ZE9 m p q l) fun C hC=>tgo hC Zqr ZSF ?_
 have i:=E80 hC m p q h1 (l++List.replicate m.toNat 0) (ZgY h2 (Ztq _)) (by simp;omega) (l++List.replicate m.toNat 0).length 0 0 [] (by omega) ⟨by omega,ZxJ hm⟩ rfl
 simp[ZLB,ZqF]at i⊢
 exact⟨by omega,i⟩
theorem ZvP(m p q:Int)(l:List Int)(h:ecB m p q l=true):Zaj Try.prog 100 [.agg (.gen [.int .i64 m, .int .i64 p, .int .i64 q]), .list (.ints .i64 l)] (.row 0 0) (some ⟨3,1, .ints .i64 (ZqF m p q l)⟩):=by
 obtain⟨h1,h2,h3⟩:=ZCV h
 have hm:=(Zaz h1).1
 refine start (ZB4 m p q l) fun C hC=>tgo hC ZAw ZOO ?_
 have i:=ZTQ hC m p q h1 (l++List.replicate m.toNat 0) (ZgY h2 (Ztq _)) (by simp;omega) (l++List.replicate m.toNat 0).length 0 0 [] (by omega) ⟨by omega,ZxJ hm⟩ rfl
 simp[ZCJ,ZqF]at i⊢
 exact⟨by omega,i⟩
def k97:Ctr:=⟨97,0,fun _ a=>match a with |[.list (.ints .i64 l), .int .i64 r]=>some (decide (rcB l r=true), .row 0 0,some ⟨3,1, .ints .i64 (tS l r.toNat)⟩) |_=>none⟩
theorem ZOD:k97.OK Try.prog:=fun pa args r fr h=>by
 simp only[k97]at h
 split at h
 ·simp only[Option.some.injEq,Prod.mk.injEq,decide_eq_true_eq]at h
  obtain⟨h0,rfl,rfl⟩:=h
  exact Zys _ _ h0
 ·cases h
def k98:Ctr:=⟨98,0,fun _ a=>match a with |[.list (.ints .i64 l), .int .i64 r]=>some (decide (rcB l r=true), .row 0 0,some ⟨3,1, .ints .i64 (tS l r.toNat)⟩) |_=>none⟩
theorem ZMl:k98.OK Try.prog:=fun pa args r fr h=>by
 simp only[k98]at h
 split at h
 ·simp only[Option.some.injEq,Prod.mk.injEq,decide_eq_true_eq]at h
  obtain⟨h0,rfl,rfl⟩:=h
  exact Zwc _ _ h0
 ·cases h
def k102:Ctr:=⟨102,0,fun _ a=>match a with |[.list (.ints .i64 l), .int .i64 r]=>some (decide (rcB l r=true), .row 0 0,some ⟨3,1, .ints .i64 (tS l (l.length/r.toNat))⟩) |_=>none⟩
theorem ZGL:k102.OK Try.prog:=fun pa args r fr h=>by
 simp only[k102]at h
 split at h
 ·simp only[Option.some.injEq,Prod.mk.injEq,decide_eq_true_eq]at h
  obtain⟨h0,rfl,rfl⟩:=h
  exact ZuW _ _ h0
 ·cases h
def k101:Ctr:=⟨101,0,fun _ a=>match a with |[.list (.ints .i64 l)]=>some (decide (ZbP l=true∧l.length≤20), .int .i64 (nbI l 0),none) |_=>none⟩
theorem ZEH:k101.OK Try.prog:=fun pa args r fr h=>by
 simp only[k101]at h
 split at h
 ·simp only[Option.some.injEq,Prod.mk.injEq,decide_eq_true_eq]at h
  obtain⟨h0,rfl,rfl⟩:=h
  exact ZxD _ h0
 ·cases h
def k99:Ctr:=⟨99,0,fun _ a=>match a with |[.int .i64 n, .int .i64 c]=>some (decide (c4B n c=true), .row 0 0,some ⟨3,1, .ints .i64 (b4L n)⟩) |_=>none⟩
theorem ZJd:k99.OK Try.prog:=fun pa args r fr h=>by
 simp only[k99]at h
 split at h
 ·simp only[Option.some.injEq,Prod.mk.injEq,decide_eq_true_eq]at h
  obtain⟨h0,rfl,rfl⟩:=h
  exact ZvT _ _ h0
 ·cases h
def k51:Ctr:=⟨51,0,fun _ a=>match a with |[.agg (.gen [.int .i64 m, .int .i64 p, .int .i64 q, .int .i64 h, .int .i64 D])]=>some (true, .int .i64 (lkE m p q h D),none) |_=>none⟩
theorem ZOA:k51.OK Try.prog:=fun pa args r fr h=>by
 simp only[k51]at h
 split at h
 ·cases h
  exact Zy8 _ _ _ _ _
 ·cases h
def k50:Ctr:=⟨50,0,fun _ a=>match a with |[.agg (.gen [.int .i64 m, .int .i64 p, .int .i64 q, .int .i64 h, .int .i64 D])]=>some (true, .int .i64 (lkE m p q h D),none) |_=>none⟩
theorem ZKW:k50.OK Try.prog:=fun pa args r fr h=>by
 simp only[k50]at h
 split at h
 ·cases h
  exact ZzK _ _ _ _ _
 ·cases h
def k52:Ctr:=⟨52,0,fun _ a=>match a with |[.agg (.gen [.int .i64 m, .int .i64 p, .int .i64 q, .int .i64 h, .int .i64 D])]=>some (decide (lkE m p q h D=0), .int .i64 (daI h D),none) |_=>none⟩
theorem ZOo:k52.OK Try.prog:=fun pa args r fr h=>by
 simp only[k52]at h
 split at h
 ·simp only[Option.some.injEq,Prod.mk.injEq,decide_eq_true_eq]at h
  obtain⟨h0,rfl,rfl⟩:=h
  exact Zzl _ _ _ _ _ h0
 ·cases h
def k54:Ctr:=⟨54,0,fun _ a=>match a with |[.agg (.gen [.int .i64 m, .int .i64 p, .int .i64 q, .int .i64 h, .int .i64 D])]=>some (decide (lkE m p q h D=0), .int .i64 (cnI m D),none) |_=>none⟩
theorem ZKp:k54.OK Try.prog:=fun pa args r fr h=>by
 simp only[k54]at h
 split at h
 ·simp only[Option.some.injEq,Prod.mk.injEq,decide_eq_true_eq]at h
  obtain⟨h0,rfl,rfl⟩:=h
  exact ZB6 _ _ _ _ _ h0
 ·cases h
def k80:Ctr:=⟨80,0,fun _ a=>match a with |[.agg (.gen [.int .i64 m, .int .i64 p, .int .i64 q]), .list (.ints .i64 l)]=>some (decide (ecB m p q l=true), .row 0 0,some ⟨3,1, .ints .i64 (ZqF m p q l)⟩) |_=>none⟩
theorem ZIx:k80.OK Try.prog:=fun pa args r fr h=>by
 simp only[k80]at h
 split at h
 ·simp only[Option.some.injEq,Prod.mk.injEq,decide_eq_true_eq]at h
  obtain⟨h0,rfl,rfl⟩:=h
  exact Zz2 _ _ _ _ h0
 ·cases h
def k100:Ctr:=⟨100,0,fun _ a=>match a with |[.agg (.gen [.int .i64 m, .int .i64 p, .int .i64 q]), .list (.ints .i64 l)]=>some (decide (ecB m p q l=true), .row 0 0,some ⟨3,1, .ints .i64 (ZqF m p q l)⟩) |_=>none⟩
theorem ZGb:k100.OK Try.prog:=fun pa args r fr h=>by
 simp only[k100]at h
 split at h
 ·simp only[Option.some.injEq,Prod.mk.injEq,decide_eq_true_eq]at h
  obtain⟨h0,rfl,rfl⟩:=h
  exact ZvP _ _ _ _ h0
 ·cases h
def Ko:List Ctr:=[k97,k98,k102,k101,k99,k51,k50,k52,k54,k80,k100]++Km
theorem ZbI:Zay Try.prog Ko:=⟨ZOD,⟨ZMl,⟨ZGL,⟨ZEH,⟨ZJd,⟨ZOA,⟨ZKW,⟨ZOo,⟨ZKp,⟨ZIx,⟨ZGb,ZAw⟩⟩⟩⟩⟩⟩⟩⟩⟩⟩⟩
end Go.Proofs.Ytklbmkllepkjcaa
/- Paths of functions, printed by the explorer (Gx). No condition. -/
namespace Go.Proofs.Ytklbmkllepkjcaa
set_option maxRecDepth 100000
set_option linter.unusedVariables false
def ZJa(m p q h D:Int)(l:List Int):AFrame:=vF 53 56 [(0,AV.agg (Row.gen [.int .i64 m, .int .i64 p, .int .i64 q, .int .i64 h, .int .i64 D])),vL 1 l] [.code a53.code] [.tmp 4]
def ZVs(m p q h D:Int)(l:List Int):List AFrame:=[(ZJa m p q h D l)]
theorem ZGm(m p q h D:Int)(l:List Int):Zal tab 53 [AV.agg (Row.gen [.int .i64 m, .int .i64 p, .int .i64 q, .int .i64 h, .int .i64 D]),AV.list (.ints .i64 l)]=some (ZJa m p q h D l):=rfl
def Zls(m p q h D:Int)(l:List Int)(n0 n1:Int)(l2:List Int):List AFrame:=[vF 53 56 [vL 1 l,vP 2 53003,vI 5 n0,vR 6 53035,vR 7 53052,vI 8 n1] (vC ZMQ ZQf) [.tmp 4]]
def ZhT(m p q h D:Int)(l:List Int)(n0 n1:Int)(l2:List Int):Zaa:=[(53003,{ base:=0,blks:=[Blk.row 78 5 (Row.gen [AV.agg (Row.gen [AV.int .i64 m,AV.int .i64 p,AV.int .i64 q,AV.int .i64 h,AV.int .i64 D])])] }),vK 53035 l2,(53052,{ base:=0,blks:=[Blk.row 3 1 (.ints .i64 [])] })]
abbrev ZoK(m p q h D:Int)(l:List Int)(n0 n1:Int)(l2:List Int):List AFrame×Zaa:=(Zls m p q h D l n0 n1 l2,ZhT m p q h D l n0 n1 l2)
def ZlK(m p q h D:Int)(l3:List Int)(n4:Int)(l5:List Int):List AFrame:=[vF 53 56 [vP 2 53003,vR 7 53052,vR 9 53039,vI 10 n4] (vC ZMX ZSJ) [.tmp 4]]
def Zij(m p q h D:Int)(l3:List Int)(n4:Int)(l5:List Int):Zaa:=[(53003,{ base:=0,blks:=[Blk.row 78 5 (Row.gen [AV.agg (Row.gen [AV.int .i64 m,AV.int .i64 p,AV.int .i64 q,AV.int .i64 h,AV.int .i64 D])])] }),vK 53039 l3,vK 53052 l5]
abbrev ZnL(m p q h D:Int)(l3:List Int)(n4:Int)(l5:List Int):List AFrame×Zaa:=(ZlK m p q h D l3 n4 l5,Zij m p q h D l3 n4 l5)
def ZKK(A:Ar)(K:KT)(F:FT)(m p q h D:Int)(l:List Int):Prop:=let u0:=A.sub 15 (A.mul 2 h);rB [A.inR .i64 u0,A.inR .i64 (A.mul 2 h)] (K (ZoK m p q h D l u0 0 []))
theorem ZQd{A:Ar}{K:KT}{F:FT}{M:MT}{m p q h D:Int}{l:List Int} :Zah A tab Ko 53 K F M (.run 27 (.hd)) (ZVs m p q h D l) []=ZKK A K F m p q h D l:=by kernel_rfl
def ZiK(A:Ar)(K:KT)(F:FT)(m p q h D:Int)(l:List Int)(n0 n1:Int)(l2:List Int):Prop:=let u3:=A.add n1 1;let u0:=A.mul u3 n0;let u1:=A.mul n1 n0;let u2:=A.nat u0-A.nat u1;let u4:=A.nat u1;bB (A.lt n1 D) (rB [A.inR .i64 u3,Nat.ble (A.len l2+A.len (enW h (A.sub3 l u4 u2))) 4294967296,decide (daB h (A.sub3 l u4 u2)=true),Zad (Zad (A.le 0 u1) (A.le 0 u0)) (Zad (Zad (Nat.ble u4 (A.nat u0)) (Nat.ble (A.nat u0) (A.len l))) true),A.inR .i64 u0,A.inR .i64 u3,A.inR .i64 u1] (K (ZoK m p q h D l n0 u3 (A.app l2 (enW h (A.sub3 l u4 u2)))))) (rB [decide (rcB l2 D=true)] (K (ZnL m p q h D (tS l2 (Int.toNat D)) 0 [])))
theorem Zn4{A:Ar}{K:KT}{F:FT}{M:MT}{m p q h D:Int}{l:List Int}{n0 n1:Int}{l2:List Int} :Zah A tab Ko 53 K F M (.run 9 (.tf (.run 12 (.hd)) (.run 17 (.hd)))) (Zls m p q h D l n0 n1 l2) (ZhT m p q h D l n0 n1 l2)=ZiK A K F m p q h D l n0 n1 l2:=by kernel_rfl
def Zjf(A:Ar)(K:KT)(F:FT)(m p q h D:Int)(l3:List Int)(n4:Int)(l5:List Int):Prop:=let u2:=A.nat n4;let u0:=A.nth l3 u2;let u1:=A.len l3;bB (A.lt n4 (A.int u1)) (rB [A.inR .i64 (A.add n4 1),Nat.ble (A.len l5+A.len (b4L u0)) 4294967296,decide (c4B u0 4=true),Zad (Nat.blt u2 u1) true,Zad (A.le 0 n4) (Nat.blt u2 u1)] (K (ZnL m p q h D l3 (A.add n4 1) (A.app l5 (b4L u0))))) (rB [decide (ecB m p q l5=true)] (F (AV.row 0 0) (some { e:=3,sz:=1,r:=.ints .i64 (ZqF m p q l5) })))
theorem ZmT{A:Ar}{K:KT}{F:FT}{M:MT}{m p q h D:Int}{l3:List Int}{n4:Int}{l5:List Int} :Zah A tab Ko 53 K F M (.run 9 (.tf (.run 21 (.hd)) (.run 10 (.fn)))) (ZlK m p q h D l3 n4 l5) (Zij m p q h D l3 n4 l5)=Zjf A K F m p q h D l3 n4 l5:=by kernel_rfl
def ZOU(m p q h D:Int)(l:List Int):AFrame:=vF 48 70 [(0,AV.agg (Row.gen [.int .i64 m, .int .i64 p, .int .i64 q, .int .i64 h, .int .i64 D])),vL 1 l] [.code a48.code] [.tmp 4,.tmp 5]
def ZUn(m p q h D:Int)(l:List Int):List AFrame:=[(ZOU m p q h D l)]
theorem ZEU(m p q h D:Int)(l:List Int):Zal tab 48 [AV.agg (Row.gen [.int .i64 m, .int .i64 p, .int .i64 q, .int .i64 h, .int .i64 D]),AV.list (.ints .i64 l)]=some (ZOU m p q h D l):=rfl
def ZhI(m p q h D:Int)(l:List Int)(n0 n1 n2:Int)(b3:Bool)(n4 n5 n6 n7:Int)(b8:Bool)(n9 n10 n11:Int)(l12:List Int):List AFrame:=[vF 119 31 [(0,AV.yld 48901 1),vP 1 96003,vP 2 96004,vI 4 n11] (vC ZtN Zuu) [],{ fn:=48,N:=70,env:=[vL 1 l,vP 2 48003,(4,AV.nils),vI 5 0,vI 7 n0,vI 8 n1,vP 9 48010,vR 10 48065,vI 31 n2,vB 32 b3,vL 34 l,vI 35 n4,(36,AV.fn 119 [AV.ptr 96003 0 0 0,AV.ptr 96004 0 0 0])],todo:=[.inRF 48901 1,.inBlock 0, .code (.seq (.seq (.reg none [oN 45 (.load false 1 (.t 9)),oN 46 (.faddr 4 (.t 2)),oN 47 (.load false 1 (.t 46)),oN 48 (.ncall true 48049 97 [.t 45,.t 47]),oN 49 (.len (.t 48)),oN 50 (.mov (cI 0))]) (.block 2 (.loop ZzJ))) ZB0)],defs:=[(48901,0)],rnd:=none,ret:=false,res:=[.tmp 4,.tmp 5] }]
def Zgl(m p q h D:Int)(l:List Int)(n0 n1 n2:Int)(b3:Bool)(n4 n5 n6 n7:Int)(b8:Bool)(n9 n10 n11:Int)(l12:List Int):Zaa:=[(48003,{ base:=0,blks:=[Blk.row 78 5 (Row.gen [AV.agg (Row.gen [AV.int .i64 m,AV.int .i64 p,AV.int .i64 q,AV.int .i64 h,AV.int .i64 D])])] }),(48010,{ base:=0,blks:=[Blk.row 25 1 (Row.gen [.row 48045 0])] }),vK 48045 l12,(48065,{ base:=0,blks:=[Blk.row 3 1 (.ints .i64 [])] }),(48901,{ base:=0,blks:=[Blk.dfr,Blk.lp { st:=RSt.ready,fn:=48,N:=70,env:=[vL 1 l,vP 2 48003,(4,AV.nils),vI 5 0,vI 7 n5,vI 8 n6,vP 9 48010,vR 10 48065,vI 31 n7,vB 32 b8,vL 34 l,vI 35 n9,(36,AV.fn 119 [AV.ptr 96003 0 0 0,AV.ptr 96004 0 0 0])],params:=[37],asg:=ACode.reg none [mV 11 37],body:=ACode.block 1 (.seq (.reg none [oN 38 (.faddr 3 (.t 2)),oN 39 (.load false 1 (.t 38)),mV 40 11,oN 41 (.ncall true 0 76 [.t 39,.t 40]),oN 12 (.alloc 48013 107 (AV.agg (.ints .i64 [0,0,0,0,0,0,0,0,0,0,0,0,0,0,0]))),{ d:=none,g:=none,k:=OpK.store 15 (.t 12) (.t 41) }]) (.reg (some []) [oN 42 (.load false 1 (.t 9)),oN 43 (.asl 15 (.t 12) none none),oN 44 (.append 48045 3 1 (.t 42) (.t 43)),{ d:=none,g:=none,k:=OpK.store 1 (.t 9) (.t 44) }])) }] }),(96003,{ base:=0,blks:=[Blk.row 25 1 (Row.gen [.list (.ints .i64 l)])] }),vG 96004 (.int .i64 n10)]
abbrev Zly(m p q h D:Int)(l:List Int)(n0 n1 n2:Int)(b3:Bool)(n4 n5 n6 n7:Int)(b8:Bool)(n9 n10 n11:Int)(l12:List Int):List AFrame×Zaa:=(ZhI m p q h D l n0 n1 n2 b3 n4 n5 n6 n7 b8 n9 n10 n11 l12,Zgl m p q h D l n0 n1 n2 b3 n4 n5 n6 n7 b8 n9 n10 n11 l12)
def ZgS(m p q h D n13:Int)(l14:List Int)(n15:Int)(l16:List Int):List AFrame:=[{ fn:=48,N:=70,env:=[vP 2 48003,vR 10 48065,vR 48 48049,vI 49 n13,vI 50 n15],todo:=.code (.gh [] ZIq)::ZSp,defs:=[(48901,0)],rnd:=none,ret:=false,res:=[.tmp 4,.tmp 5] }]
def Zft(m p q h D n13:Int)(l14:List Int)(n15:Int)(l16:List Int):Zaa:=[(48003,{ base:=0,blks:=[Blk.row 78 5 (Row.gen [AV.agg (Row.gen [AV.int .i64 m,AV.int .i64 p,AV.int .i64 q,AV.int .i64 h,AV.int .i64 D])])] }),vK 48049 l14,vK 48065 l16,(48901,{ base:=0,blks:=[Blk.dfr] })]
abbrev ZnC(m p q h D n13:Int)(l14:List Int)(n15:Int)(l16:List Int):List AFrame×Zaa:=(ZgS m p q h D n13 l14 n15 l16,Zft m p q h D n13 l14 n15 l16)
def ZcG(m p q h D n13:Int)(l14:List Int)(n15 n17 n18:Int)(l19:List Int):List AFrame:=[{ fn:=48,N:=70,env:=[vP 2 48003,vR 10 48065,vI 14 n17,vI 15 n18,vR 48 48049,vI 49 n13,vI 50 n15],todo:=.code (.gh [] ZNq)::ZQ8,defs:=[(48901,0)],rnd:=none,ret:=false,res:=[.tmp 4,.tmp 5] }]
def ZbZ(m p q h D n13:Int)(l14:List Int)(n15 n17 n18:Int)(l19:List Int):Zaa:=[(48003,{ base:=0,blks:=[Blk.row 78 5 (Row.gen [AV.agg (Row.gen [AV.int .i64 m,AV.int .i64 p,AV.int .i64 q,AV.int .i64 h,AV.int .i64 D])])] }),vK 48049 l14,vK 48065 l19,(48901,{ base:=0,blks:=[Blk.dfr] })]
abbrev ZnB(m p q h D n13:Int)(l14:List Int)(n15 n17 n18:Int)(l19:List Int):List AFrame×Zaa:=(ZcG m p q h D n13 l14 n15 n17 n18 l19,ZbZ m p q h D n13 l14 n15 n17 n18 l19)
def ZBL(A:Ar)(K:KT)(F:FT)(m p q h D:Int)(l:List Int):Prop:=let u0:=A.sub 15 (A.mul 2 h);let u1:=A.mul D u0;bB (A.not (A.eq (lkE m p q h D) 0)) (F (AV.tup [AV.nils,AV.int .i64 (lkE m p q h D)]) none) (rB [decide (List.length l≤1000000),A.inR .i64 u1,A.inR .i64 u0,A.inR .i64 (A.mul 2 h)] (bB (A.not (A.eq (elE l u1) 0)) (F (AV.tup [AV.nils,AV.int .i64 (elE l u1)]) none) (bB (A.lt u0 1) False (K (Zly m p q h D l u0 (elE l u1) (elE l u1) (A.not (A.eq (elE l u1) 0)) u0 u0 (elE l u1) (elE l u1) (A.not (A.eq (elE l u1) 0)) u0 u0 0 [])))))
theorem ZRQ{A:Ar}{K:KT}{F:FT}{M:MT}{m p q h D:Int}{l:List Int} :Zah A tab Ko 48 K F M (.run 18 (.tf (.run 7 (.fn)) (.run 26 (.tf (.run 7 (.fn)) (.run 26 (.tf (.no) (.run 18 (.hd)))))))) (ZUn m p q h D l) []=ZBL A K F m p q h D l:=by kernel_rfl
def Zgj(A:Ar)(K:KT)(F:FT)(m p q h D:Int)(l:List Int)(n0 n1 n2:Int)(b3:Bool)(n4 n5 n6 n7:Int)(b8:Bool)(n9 n10 n11:Int)(l12:List Int):Prop:=let u0:=A.nat n11;bB (A.lt n11 (A.int (A.len l))) (rB [Zad (Zad (Zad (Nat.ble 15 (A.len (enW h (A.sub3 l u0 (A.nat (A.add n11 (A.min n10 (A.int (A.len (A.sub3 l u0 (A.len l-A.nat n11))))))-A.nat n11))))) true) true) (Nat.ble (A.len l12+A.len (A.sub3 (enW h (A.sub3 l u0 (A.nat (A.add n11 (A.min n10 (A.int (A.len (A.sub3 l u0 (A.len l-A.nat n11))))))-A.nat n11))) 0 15)) 4294967296),Nat.beq (A.len (enW h (A.sub3 l u0 (A.nat (A.add n11 (A.min n10 (A.int (A.len (A.sub3 l u0 (A.len l-A.nat n11))))))-A.nat n11)))) 15,Nat.blt 0 (A.len [0,0,0,0,0,0,0,0,0,0,0,0,0,0,0]),decide (daB h (A.sub3 l u0 (A.nat (A.add n11 (A.min n10 (A.int (A.len (A.sub3 l u0 (A.len l-A.nat n11))))))-A.nat n11))=true),Zad (Zad (A.le 0 n11) (A.le 0 (A.add n11 (A.min n10 (A.int (A.len (A.sub3 l u0 (A.len l-A.nat n11)))))))) (Zad (Zad (Nat.ble u0 (A.nat (A.add n11 (A.min n10 (A.int (A.len (A.sub3 l u0 (A.len l-A.nat n11)))))))) (Nat.ble (A.nat (A.add n11 (A.min n10 (A.int (A.len (A.sub3 l u0 (A.len l-A.nat n11))))))) (A.len l))) (Zad (A.le 0 (A.add n11 (A.min n10 (A.int (A.len (A.sub3 l u0 (A.len l-A.nat n11))))))) (Zad (Nat.ble (A.nat (A.add n11 (A.min n10 (A.int (A.len (A.sub3 l u0 (A.len l-A.nat n11))))))) (A.nat (A.add n11 (A.min n10 (A.int (A.len (A.sub3 l u0 (A.len l-A.nat n11)))))))) (Nat.ble (A.nat (A.add n11 (A.min n10 (A.int (A.len (A.sub3 l u0 (A.len l-A.nat n11))))))) (A.len l))))),A.inR .i64 (A.add n11 (A.min n10 (A.int (A.len (A.sub3 l u0 (A.len l-A.nat n11)))))),A.inR .i64 (A.add n11 (A.min n10 (A.int (A.len (A.sub3 l u0 (A.len l-A.nat n11)))))),Zad (Zad (A.le 0 n11) true) (Zad (Zad (Nat.ble u0 (A.len l)) (Nat.ble (A.len l) (A.len l))) true)] (rB [!A.not true] (rB [A.inR .i64 (A.add n11 n10)] (K (Zly m p q h D l n0 n1 n2 b3 n4 n5 n6 n7 b8 n9 n10 (A.add n11 n10) (A.app l12 (A.sub3 (enW h (A.sub3 l u0 (A.nat (A.add n11 (A.min n10 (A.int (A.len (A.sub3 l u0 (A.len l-A.nat n11))))))-A.nat n11))) 0 15))))))) (rB [decide (rcB l12 D=true)] (K (ZnC m p q h D (A.int (A.len (tS l12 (Int.toNat D)))) (tS l12 (Int.toNat D)) 0 [])))
theorem ZkW{A:Ar}{K:KT}{F:FT}{M:MT}{m p q h D:Int}{l:List Int}{n0 n1 n2:Int}{b3:Bool}{n4 n5 n6 n7:Int}{b8:Bool}{n9 n10 n11:Int}{l12:List Int} :Zah A tab Ko 48 K F M (.run 9 (.tf (.run 39 (.fy (.run 10 (.hd)))) (.run 18 (.hd)))) (ZhI m p q h D l n0 n1 n2 b3 n4 n5 n6 n7 b8 n9 n10 n11 l12) (Zgl m p q h D l n0 n1 n2 b3 n4 n5 n6 n7 b8 n9 n10 n11 l12)=Zgj A K F m p q h D l n0 n1 n2 b3 n4 n5 n6 n7 b8 n9 n10 n11 l12:=by kernel_rfl
def ZhV(A:Ar)(K:KT)(F:FT)(m p q h D n13:Int)(l14:List Int)(n15:Int)(l16:List Int):Prop:=let u0:=A.nat n15;bB (A.lt n15 n13) (rB [Zad (Nat.blt u0 (A.len l14)) true,Zad (A.le 0 n15) (Nat.blt u0 (A.len l14))] (K (ZnB m p q h D n13 l14 n15 (A.nth l14 u0) 3 l16))) (rB [decide (ecB m p q l16=true)] (F (AV.tup [AV.row 0 0,AV.int .i64 0]) (some { e:=3,sz:=1,r:=.ints .i64 (ZqF m p q l16) })))
theorem Znu{A:Ar}{K:KT}{F:FT}{M:MT}{m p q h D n13:Int}{l14:List Int}{n15:Int}{l16:List Int} :Zah A tab Ko 48 K F M (.run 6 (.tf (.run 16 (.hd)) (.run 12 (.fn)))) (ZgS m p q h D n13 l14 n15 l16) (Zft m p q h D n13 l14 n15 l16)=ZhV A K F m p q h D n13 l14 n15 l16:=by kernel_rfl
def Zcy(A:Ar)(K:KT)(F:FT)(m p q h D n13:Int)(l14:List Int)(n15 n17 n18:Int)(l19:List Int):Prop:=let u0:=A.shr n17 n18;bB (A.le 0 n18) (rB [A.inR .i64 (A.sub n18 1),Nat.ble (A.len l19+A.len [A.bits Go.BinOp.and .i64 u0 1]) 4294967296,List.all [AV.int .i64 (A.bits Go.BinOp.and .i64 u0 1)] fun x=>AV.bx x&&Nat.beq (Zag A x) 1,Zad (A.le 0 n18) (Nat.blt (A.nat n18) 64)] (K (ZnB m p q h D n13 l14 n15 n17 (A.sub n18 1) (A.app l19 [A.bits Go.BinOp.and .i64 u0 1])))) (rB [A.inR .i64 (A.add n15 1)] (K (ZnC m p q h D n13 l14 (A.add n15 1) l19)))
theorem Zdw{A:Ar}{K:KT}{F:FT}{M:MT}{m p q h D n13:Int}{l14:List Int}{n15 n17 n18:Int}{l19:List Int} :Zah A tab Ko 48 K F M (.run 7 (.tf (.run 21 (.hd)) (.run 8 (.hd)))) (ZcG m p q h D n13 l14 n15 n17 n18 l19) (ZbZ m p q h D n13 l14 n15 n17 n18 l19)=Zcy A K F m p q h D n13 l14 n15 n17 n18 l19:=by kernel_rfl
end Go.Proofs.Ytklbmkllepkjcaa
/- Contracts as a list. No condition. -/
namespace Go.Proofs.Ytklbmkllepkjcaa
def paL(n:Nat)(l:List Int)(i:Nat):List Int:=(l.drop (i*n)).take n
theorem Zlt{n D:Nat}{l:List Int}(hl:l.length=D*n){i:Nat}(hi:i<D):(paL n l i).length=n:=by
 have:(i+1)*n≤D*n:=Nat.mul_le_mul_right n hi
 rw[Nat.add_mul,Nat.one_mul]at this
 unfold paL
 rw[List.length_take,List.length_drop];omega
theorem ZvM{n:Nat}{l:List Int}{i j:Nat}(hj:j<n):(paL n l i).getD j 0=l.getD (i*n+j) 0:=by
 unfold paL
 rw[List.getD_eq_getElem?_getD,List.getD_eq_getElem?_getD,List.getElem?_take,if_pos hj,List.getElem?_drop]
theorem ZxW{n:Nat}{l:List Int}(h:ZaM l 0 15=0)(i:Nat):ZaM (paL n l i) 0 15=0:=ZfY fun j hj=>by
 have hj2:j<n:=by unfold paL at hj;rw[List.length_take]at hj;omega
 rw[ZvM hj2]
 exact Zjl h _
def woL(h:Int)(n:Nat)(l:List Int):Nat→List Int
 |0=>[]
 |i+1=>woL h n l i++enW h (paL n l i)
def biL:List Int→List Int
 |[]=>[]
 |x::l=>b4L x++biL l
def lnB(m p q h D:Int)(l:List Int):Bool:=decide (lkE m p q h D=0)&&(decide ((l.length:Int)=D*(15-2*h))&&decide (ZaM l 0 15=0))
structure LnK (h D:Int) (l:List Int) (n d:Nat):Prop where
 hb:hfB h=true
 hd:D=d
 d1:1≤d∧d≤4
 hn:(n:Int)=15-2*h
 n1:9≤n∧n≤13
 hl:l.length=d*n
 hr:ZaM l 0 15=0
theorem ZEh{m p q h D:Int}{l:List Int}(g:lnB m p q h D l=true):Za8 m p q=0∧∃n d,LnK h D l n d:=by
 unfold lnB at g
 rw[Bool.and_eq_true,Bool.and_eq_true]at g
 obtain⟨g1,g2,g3⟩:=g
 have g1:=of_decide_eq_true g1
 have g2:=of_decide_eq_true g2
 have g3:=of_decide_eq_true g3
 obtain⟨e1,e2,h1,h2,h3,h4⟩:=ZsF g1
 obtain⟨d,rfl⟩:=Int.eq_ofNat_of_zero_le (show 0≤D by omega)
 obtain⟨n,hn⟩:=Int.eq_ofNat_of_zero_le (show 0≤15-2*h by omega)
 refine⟨e1,n,d,e2,rfl,by omega,by omega,by omega,?_,g3⟩
 rw[hn]at g2
 exact_mod_cast g2
theorem LnK.da{h D:Int}{l:List Int}{n d:Nat}(K:LnK h D l n d){i:Nat}(hi:i<d):daB h (paL n l i)=true:=by
 have e:=Zlt K.hl hi
 unfold daB elE Zau
 rw[K.hb,e,ZxW K.hr]
 simp[K.hn,ZaE]
theorem LnK.en{h D:Int}{l:List Int}{n d:Nat}(K:LnK h D l n d){i:Nat}(hi:i<d):(enW h (paL n l i)).length=15∧ZaM (enW h (paL n l i)) 0 15=0:=okw_iff.1 (Zrh (Zuk (K.da hi)))
theorem ZAY{a b:List Int}(j:Nat):(a++b).getD j 0=if j<a.length then a.getD j 0 else b.getD (j-a.length) 0:=by
 rw[List.getD_eq_getElem?_getD,List.getD_eq_getElem?_getD,List.getD_eq_getElem?_getD,List.getElem?_append]
 split<;>rfl
theorem LnK.wo{h D:Int}{l:List Int}{n d:Nat}(K:LnK h D l n d):∀i,i≤d→(woL h n l i).length=15*i∧ZaM (woL h n l i) 0 15=0
 |0,_=>⟨rfl,rfl⟩
 |i+1,hi=>by
  obtain⟨a,b⟩:=K.wo i (by omega)
  obtain⟨c,e⟩:=K.en (show i<d by omega)
  refine⟨by rw[woL,List.length_append,a,c];omega,ZfY fun j _=>?_⟩
  rw[woL,ZAY]
  split
  ·exact Zjl b _
  ·exact Zjl e _
theorem ZCA{l:List Int}{R:Nat}(h:ZaM l 0 15=0):ZaM (tS l R) 0 15=0:=ZfY fun j hj=>by
 rw[Zyh]at hj
 have:(tS l R).getD j 0=tE l R j:=by simp[tS,hj]
 rw[this]
 exact Zjl h _
theorem LnK.rc{h D:Int}{l:List Int}{n d:Nat}(K:LnK h D l n d):rcB (woL h n l d) D=true:=by
 obtain⟨a,_⟩:=K.wo d (Nat.le_refl _)
 have h1:=K.d1
 refine decide_eq_true ?_
 rw[K.hd,a,Int.toNat_natCast,Nat.mul_div_cancel _ (by omega)]
 exact⟨by omega,by omega,by omega,by omega,rfl⟩
def mxL(h:Int)(n:Nat)(l:List Int)(d:Nat):List Int:=tS (woL h n l d) d
theorem LnK.mx{h D:Int}{l:List Int}{n d:Nat}(K:LnK h D l n d):(mxL h n l d).length=15*d∧ZaM (mxL h n l d) 0 15=0:=by
 obtain⟨a,b⟩:=K.wo d (Nat.le_refl _)
 exact⟨by rw[mxL,Zyh,a],ZCA b⟩
theorem ZFC{x:Int}(h:0≤x∧x≤15):ZbP (b4L x)=true:=by
 obtain⟨k,rfl⟩:=Int.eq_ofNat_of_zero_le h.1
 have h2:k<16:=by omega
 revert h2
 exact(by decide:∀a:Fin 16,ZbP (b4L (a.val:Int))=true) ⟨k,by omega⟩ |> fun e _=>e
theorem ZoN:∀l,(biL l).length=4*l.length
 |[]=>rfl
 |x::l=>by rw[biL,List.length_append,ZoN l,List.length_cons];simp[b4L];omega
theorem Zpw:∀l:List Int,ZaM l 0 15=0→ZbP (biL l)=true
 |[],_=>rfl
 |x::l,h=>by
  have h0:=Ztg h (by omega) 0
  have hx:ZaM l 0 15=0:=ZfY fun j _=>Zjl h (j+1)
  exact ZgY (ZFC h0) (Zpw l hx)
@[irreducible] def snL (m p q h D:Int) (l:List Int):List Int:=ZqF m p q (biL (mxL h (15-2*h).toNat l D.toNat))
theorem LnK.sn{h D:Int}{l:List Int}{n d:Nat}(K:LnK h D l n d)(m p q:Int):snL m p q h D l=ZqF m p q (biL (mxL h n l d)):=by
 unfold snL
 rw[←K.hn,K.hd,Int.toNat_natCast,Int.toNat_natCast]
theorem Zk7{n:Nat}(l:List Int){i a b:Nat}(ha:a=i*n)(hb:b=i*n+n):std.sub3 l a (b-a)=paL n l i:=by
 subst ha hb
 show(l.drop (i*n)).take _=_
 rw[Nat.add_sub_cancel_left];rfl
section
variable {C:Ctx}(hC:C.P=Try.prog)(m p q h D:Int)(l:List Int)(n d:Nat)(K:LnK h D l n d)(hv:Za8 m p q=0)
include hC hv
theorem ZV4(l3:List Int)(hr:ZaM l3 0 15=0)(hl:l3.length≤60):∀(k i:Nat) (out:List Int),i+k=l3.length→out++biL (l3.drop i)=biL l3→Ev C (ZlK m p q h D l3 i out) (Zij m p q h D l3 i out) (Zav 53 (.row 0 0) (some ⟨3,1, .ints .i64 (ZqF m p q (biL l3))⟩)):=by
 intro k
 induction k with
 |zero=>
  intro i out hi he
  rw[List.drop_of_length_le (by omega),biL,List.append_nil]at he
  subst he
  have hec:ecB m p q (biL l3)=true:=by
   unfold ecB
   rw[Zpw _ hr,ZoN]
   simp[hv];omega
  refine tgo hC ZbI ZmT ?_
  simp[Zjf,show ¬(i:Int)<l3.length by omega,hec]
 |succ k ih=>
  intro i out hi he
  have hlt:i<l3.length:=by omega
  have hlt2:(i:Int)<l3.length:=by omega
  rw[ZdV hlt,biL,←List.append_assoc]at he
  have i0:=ih (i+1) _ (by omega) he
  have hx:=Ztg hr (by omega) i
  have hol:out.length≤4*l3.length:=by
   have:=congrArg List.length he
   have q:=ZoN l3
   rw[List.length_append,List.length_append]at this;omega
  have hbl:(b4L (l3.getD i 0)).length=4:=rfl
  have hc4:c4B (l3.getD i 0) 4=true:=decide_eq_true ⟨rfl,hx.1,hx.2⟩
  refine tgo hC ZbI ZmT ?_
  simp[-List.getD_eq_getElem?_getD,Zjf,hlt,hlt2,hbl,hc4]at i0⊢
  exact⟨by omega,i0⟩
include K
theorem ZUe:∀(k i:Nat),i+k=d→Ev C (Zls m p q h D l n i (woL h n l i)) (ZhT m p q h D l n i (woL h n l i)) (Zav 53 (.row 0 0) (some ⟨3,1, .ints .i64 (ZqF m p q (biL (mxL h n l d)))⟩)):=by
 have hn:=K.n1
 have hd:=K.d1
 have hD:=K.hd
 intro k
 induction k with
 |zero=>
  intro i hi
  have:i=d:=by omega
  subst this
  obtain⟨a,b⟩:=K.mx
  have i0:=ZV4 hC m p q h D hv (mxL h n l i) b (by omega) (mxL h n l i).length 0 [] (by omega) rfl
  have rc:=K.rc
  refine tgo hC ZbI Zn4 ?_
  simp[ZiK,hD,mxL]at i0 rc⊢
  exact⟨rc,i0⟩
 |succ k ih=>
  intro i hi
  have i0:=ih (i+1) (by omega)
  rw[woL]at i0
  have hid:i<d:=by omega
  have da:=K.da hid
  obtain⟨e1,_⟩:=K.en hid
  obtain⟨e2,_⟩:=K.wo i (by omega)
  have t1:((i:Int)*(n:Int))=((i*n:Nat):Int):=by rw[Int.natCast_mul]
  have t2:(((i:Int)+1)*(n:Int))=((i*n+n:Nat):Int):=by rw[Int.natCast_add,Int.natCast_mul,Int.add_mul,Int.one_mul]
  have es:std.sub3 l (i*n) (i*n+n-i*n)=paL n l i:=Zk7 l rfl rfl
  have hle:i*n+n≤l.length:=by
   have:(i+1)*n≤d*n:=Nat.mul_le_mul_right n hid
   rw[Nat.add_mul,Nat.one_mul]at this
   rw[K.hl];exact this
  have hl:=K.hl
  have hdn:d*n≤52:=Nat.mul_le_mul hd.2 hn.2
  refine tgo hC ZbI Zn4 ?_
  simp only[ZiK,Zjn,ZcU,ZaF,t1,t2,Int.toNat_natCast,es,da]
  simp[hD,hid,e1,e2]at i0⊢
  exact⟨by omega,i0⟩
end
theorem ZBw(m p q h D:Int)(l:List Int)(g:lnB m p q h D l=true):Zaj Try.prog 53 [.agg (.gen [.int .i64 m, .int .i64 p, .int .i64 q, .int .i64 h, .int .i64 D]), .list (.ints .i64 l)] (.row 0 0) (some ⟨3,1, .ints .i64 (snL m p q h D l)⟩):=by
 obtain⟨hv,n,d,K⟩:=ZEh g
 have hn:=K.hn
 have hn1:=K.n1
 refine start (ZGm m p q h D l) fun C hC=>tgo hC ZbI ZQd ?_
 have i:=ZUe hC m p q h D l n d K hv d 0 (by omega)
 rw[K.sn]
 rw[hn]at i
 simp[ZKK,woL]at i⊢
 exact⟨by omega,i⟩
theorem ZI4{x:Int}(h:0≤x∧x≤15):std.bits Go.BinOp.and .i64 (std.shr x 3) 1=(x.tdiv 2 |>.tdiv 2 |>.tdiv 2 |>.tmod 2)∧std.bits Go.BinOp.and .i64 (std.shr x 2) 1=(x.tdiv 2 |>.tdiv 2 |>.tmod 2)∧std.bits Go.BinOp.and .i64 (std.shr x 1) 1=(x.tdiv 2 |>.tmod 2)∧std.bits Go.BinOp.and .i64 (std.shr x 0) 1=x.tmod 2:=by
 obtain⟨k,rfl⟩:=Int.eq_ofNat_of_zero_le h.1
 exact(by decide:∀a:Fin 16,std.bits Go.BinOp.and .i64 (std.shr (a.val:Int) 3) 1=((a.val:Int).tdiv 2 |>.tdiv 2 |>.tdiv 2 |>.tmod 2)∧std.bits Go.BinOp.and .i64 (std.shr (a.val:Int) 2) 1=((a.val:Int).tdiv 2 |>.tdiv 2 |>.tmod 2)∧std.bits Go.BinOp.and .i64 (std.shr (a.val:Int) 1) 1=((a.val:Int).tdiv 2 |>.tmod 2)∧std.bits Go.BinOp.and .i64 (std.shr (a.val:Int) 0) 1=(a.val:Int).tmod 2) ⟨k,by omega⟩
section
variable {C:Ctx}(hC:C.P=Try.prog)(m p q h D:Int)(r:AV)
include hC
theorem ZUS(n13:Int)(l14 out:List Int)(i:Nat)(x:Int)(hx:0≤x∧x≤15)(hi:i≤1000)(ho:out.length≤1000)(hn:Ev C (ZgS m p q h D n13 l14 (i+1:Nat) (out++b4L x)) (Zft m p q h D n13 l14 (i+1:Nat) (out++b4L x)) (ZmA 48 r)):
 Ev C (ZcG m p q h D n13 l14 i x 3 out) (ZbZ m p q h D n13 l14 i x 3 out) (ZmA 48 r):=by
 obtain⟨x3,x2,x1,x0⟩:=ZI4 hx
 have i0:Ev C (ZcG m p q h D n13 l14 i x (-1) (out++b4L x)) (ZbZ m p q h D n13 l14 i x (-1) (out++b4L x)) (ZmA 48 r):=by
  refine Zhv hC ZbI Zdw ?_
  simp[Zcy]at hn⊢
  exact⟨by omega,hn⟩
 have i1:Ev C (ZcG m p q h D n13 l14 i x 0 (out++(b4L x).take 3)) (ZbZ m p q h D n13 l14 i x 0 (out++(b4L x).take 3)) (ZmA 48 r):=by
  refine Zhv hC ZbI Zdw ?_
  simp only[Zcy,x0]
  simp[b4L,AV.bx,Zag]at i0⊢
  exact⟨by omega,i0⟩
 have i2:Ev C (ZcG m p q h D n13 l14 i x 1 (out++(b4L x).take 2)) (ZbZ m p q h D n13 l14 i x 1 (out++(b4L x).take 2)) (ZmA 48 r):=by
  refine Zhv hC ZbI Zdw ?_
  simp only[Zcy,x1]
  simp[b4L,AV.bx,Zag]at i1⊢
  exact⟨by omega,i1⟩
 have i3:Ev C (ZcG m p q h D n13 l14 i x 2 (out++(b4L x).take 1)) (ZbZ m p q h D n13 l14 i x 2 (out++(b4L x).take 1)) (ZmA 48 r):=by
  refine Zhv hC ZbI Zdw ?_
  simp only[Zcy,x2]
  simp[b4L,AV.bx,Zag]at i2⊢
  exact⟨by omega,i2⟩
 refine Zhv hC ZbI Zdw ?_
 simp only[Zcy,x3]
 simp[b4L,AV.bx,Zag]at i3⊢
 exact⟨by omega,i3⟩
theorem ZUu(hv:Za8 m p q=0)(l3:List Int)(hr:ZaM l3 0 15=0)(hl:l3.length≤60):∀(k i:Nat) (out:List Int),i+k=l3.length→out++biL (l3.drop i)=biL l3→Ev C (ZgS m p q h D l3.length l3 i out) (Zft m p q h D l3.length l3 i out) (ZmA 48 (.tup [.list (.ints .i64 (ZqF m p q (biL l3))), .int .i64 0])):=by
 intro k
 induction k with
 |zero=>
  intro i out hi he
  rw[List.drop_of_length_le (by omega),biL,List.append_nil]at he
  subst he
  have hec:ecB m p q (biL l3)=true:=by
   unfold ecB
   rw[Zpw _ hr,ZoN]
   simp[hv];omega
  refine Zhv hC ZbI Znu ?_
  simp[ZhV,show ¬(i:Int)<l3.length by omega,hec]
  exact⟨_, .same _, .tup ⟨.row _ rfl rfl rfl, .same _ rfl rfl,trivial⟩,rfl⟩
 |succ k ih=>
  intro i out hi he
  have hlt:i<l3.length:=by omega
  have hlt2:(i:Int)<l3.length:=by omega
  rw[ZdV hlt,biL,←List.append_assoc]at he
  have hx:=Ztg hr (by omega) i
  have hol:out.length≤4*l3.length:=by
   have:=congrArg List.length he
   have q:=ZoN l3
   rw[List.length_append,List.length_append]at this;omega
  have i0:=ZUS hC m p q h D _ l3.length l3 out i (l3.getD i 0) hx (by omega) (by omega) (ih (i+1) _ (by omega) he)
  refine Zhv hC ZbI Znu ?_
  simp[-List.getD_eq_getElem?_getD,ZhV,hlt,hlt2]at i0⊢
  exact i0
theorem ZUX(l:List Int)(n d:Nat)(K:LnK h D l n d)(hv:Za8 m p q=0)(n0 n1 n2:Int)(b3:Bool)(n4 n5 n6 n7:Int)(b8:Bool)(n9:Int):∀(k i:Nat),i+k=d→Ev C (ZhI m p q h D l n0 n1 n2 b3 n4 n5 n6 n7 b8 n9 n ((i*n:Nat):Int) (woL h n l i)) (Zgl m p q h D l n0 n1 n2 b3 n4 n5 n6 n7 b8 n9 n ((i*n:Nat):Int) (woL h n l i)) (ZmA 48 (.tup [.list (.ints .i64 (ZqF m p q (biL (mxL h n l d)))), .int .i64 0])):=by
 have hn:=K.n1
 have hd:=K.d1
 have hD:=K.hd
 have hl:=K.hl
 have hdn:d*n≤52:=Nat.mul_le_mul hd.2 hn.2
 intro k
 induction k with
 |zero=>
  intro i hi
  have:i=d:=by omega
  subst this
  obtain⟨a,b⟩:=K.mx
  have i0:=ZUu hC m p q h D hv (mxL h n l i) b (by omega) (mxL h n l i).length 0 [] (by omega) rfl
  have rc:=K.rc
  refine Zhv hC ZbI ZkW ?_
  simp only[Zgj,ZBs,Zcq,Za2,hl]
  simp[hD,mxL]at i0 rc⊢
  exact⟨rc,i0⟩
 |succ k ih=>
  intro i hi
  have i0:=ih (i+1) (by omega)
  rw[woL]at i0
  have hid:i<d:=by omega
  have da:=K.da hid
  obtain⟨e1,_⟩:=K.en hid
  obtain⟨e2,_⟩:=K.wo i (by omega)
  have hle:i*n+n≤l.length:=by
   have:(i+1)*n≤d*n:=Nat.mul_le_mul_right n hid
   rw[Nat.add_mul,Nat.one_mul]at this
   rw[K.hl];exact this
  have t0:(std.sub3 l (i*n) (l.length-i*n)).length=l.length-i*n:=by
   show((l.drop (i*n)).take _).length=_
   rw[List.length_take,List.length_drop];omega
  have t1:std.min (n:Int) ((l.length-i*n:Nat):Int)=(n:Int):=by show min _ _=_;omega
  have t2:((i*n:Nat):Int)+(n:Int)=((i*n+n:Nat):Int):=by rw[Int.natCast_add]
  have es:std.sub3 l (i*n) (i*n+n-i*n)=paL n l i:=Zk7 l rfl rfl
  have t3:((i*n:Nat):Int)<(l.length:Int):=by omega
  have t4:(i+1)*n=i*n+n:=by rw[Nat.add_mul,Nat.one_mul]
  have e15:std.sub3 (enW h (paL n l i)) 0 15=enW h (paL n l i):=Zg8 e1
  rw[t4,←t2]at i0
  generalize i*n=j at*
  refine Zhv hC ZbI ZkW ?_
  simp only[Zgj,ZBs,ZcU,ZaF,Zcq,Za2,t0,Int.toNat_natCast,t1,t2,es,da,e15]
  simp[t3,e1,e2]at i0⊢
  exact⟨by omega,by omega,i0⟩
end
def snE(m p q h D:Int)(l:List Int):Int:=ZaE [lkE m p q h D,elE l (D*(15-2*h))]
@[irreducible] def snV (m p q h D:Int) (l:List Int):List Int:=if snE m p q h D l=0 then snL m p q h D l else []
theorem ZGG{m p q h D:Int}{l:List Int}(e:snE m p q h D l=0):lnB m p q h D l=true:=by
 obtain⟨e1,e2⟩:=ZcM e
 obtain⟨e2,_⟩:=ZcM e2
 obtain⟨a,b⟩:=ZD3 e2
 unfold lnB
 simp[e1,a,b]
theorem Zzu(m p q h D:Int)(l:List Int)(hl:l.length≤1000000):Zaj Try.prog 48 [.agg (.gen [.int .i64 m, .int .i64 p, .int .i64 q, .int .i64 h, .int .i64 D]), .list (.ints .i64 l)] (.tup [.list (.ints .i64 (snV m p q h D l)), .int .i64 (snE m p q h D l)]) Zst:=by
 refine Zuh (ZEU m p q h D l) fun C hC=>Zhv hC ZbI ZRQ ?_
 by_cases h1:lkE m p q h D=0
 ·obtain⟨hv,hb,q1,q2,q3,q4⟩:=ZsF h1
  have b1:D*(15-2*h)≤4*13:=Int.mul_le_mul q4 (by omega) (by omega) (by omega)
  have b2:0≤D*(15-2*h):=Int.mul_nonneg (by omega) (by omega)
  by_cases h2:elE l (D*(15-2*h))=0
  ·have e0:snE m p q h D l=0:=by simp[snE,ZaE,h1,h2]
   obtain⟨_,n,d,K⟩:=ZEh (ZGG e0)
   have hn:=K.hn
   have hn1:=K.n1
   have ev:snV m p q h D l=ZqF m p q (biL (mxL h n l d)):=by unfold snV;rw[if_pos e0,K.sn]
   have i:=ZUX hC m p q h D l n d K hv (15-2*h) 0 0 false (15-2*h) (15-2*h) 0 0 false (15-2*h) d 0 (by omega)
   rw[hn]at i
   simp[ZBL,h1,h2,hl,ev,e0,woL]at i⊢
   refine⟨by omega,by omega,i⟩
  ·have e0:snE m p q h D l=elE l (D*(15-2*h)):=by simp[snE,ZaE,h1,h2]
   have ev:snV m p q h D l=[]:=by unfold snV;rw[if_neg (by rw[e0];exact h2)]
   simp[ZBL,h1,h2,hl,ev,e0]
   exact⟨by omega,_, .same _, .tup ⟨.nil _ rfl, .same _ rfl rfl,trivial⟩,rfl⟩
 ·have e0:snE m p q h D l=lkE m p q h D:=by simp[snE,ZaE,h1]
  have ev:snV m p q h D l=[]:=by unfold snV;rw[if_neg (by rw[e0];exact h1)]
  simp[ZBL,h1,ev,e0]
  exact⟨_, .same _, .tup ⟨.nil _ rfl, .same _ rfl rfl,trivial⟩,rfl⟩
def k53:Ctr:=⟨53,0,fun _ a=>match a with |[.agg (.gen [.int .i64 m, .int .i64 p, .int .i64 q, .int .i64 h, .int .i64 D]), .list (.ints .i64 l)]=>some (decide (lnB m p q h D l=true), .row 0 0,some ⟨3,1, .ints .i64 (snL m p q h D l)⟩) |_=>none⟩
theorem ZON:k53.OK Try.prog:=fun pa args r fr h=>by
 simp only[k53]at h
 split at h
 ·simp only[Option.some.injEq,Prod.mk.injEq,decide_eq_true_eq]at h
  obtain⟨h0,rfl,rfl⟩:=h
  exact ZBw _ _ _ _ _ _ h0
 ·cases h
def k48:Ctr:=⟨48,0,fun _ a=>match a with |[.agg (.gen [.int .i64 m, .int .i64 p, .int .i64 q, .int .i64 h, .int .i64 D]), .list (.ints .i64 l)]=>some (decide (l.length≤1000000), .tup [.list (.ints .i64 (snV m p q h D l)), .int .i64 (snE m p q h D l)],Zst) |_=>none⟩
theorem ZKQ:k48.OK Try.prog:=fun pa args r fr h=>by
 simp only[k48]at h
 split at h
 ·simp only[Option.some.injEq,Prod.mk.injEq,decide_eq_true_eq]at h
  obtain⟨h0,rfl,rfl⟩:=h
  exact Zzu _ _ _ _ _ _ h0
 ·cases h
def Kp:List Ctr:=[k53,k48]++Ko
theorem ZQX:Zay Try.prog Kp:=⟨ZON,⟨ZKQ,ZbI⟩⟩
end Go.Proofs.Ytklbmkllepkjcaa
