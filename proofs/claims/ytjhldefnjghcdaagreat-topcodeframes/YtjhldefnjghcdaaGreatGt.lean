/- Paths of functions, printed by the explorer (Gx). No condition. -/
import Derived.Test.YtjhldefnjghcdaaGreatHa
import Derived.KernelRfl
namespace Go.Proofs.YtjhldefnjghcdaaGreat
set_option maxRecDepth 100000
set_option linter.unusedVariables false
def ZFX(m p q h D:Int)(l:zI):AFrame:=vF 11 70 [(0,AV.agg (Row.gen [.int .i64 m, .int .i64 p, .int .i64 q, .int .i64 h, .int .i64 D])),vL 1 l] [.code a11.code] [.tmp 4,.tmp 5]
def ZQ5(m p q h D:Int)(l:zI):List AFrame:=[(ZFX m p q h D l)]
theorem ZCS(m p q h D:Int)(l:zI):Zak tab 11 [AV.agg (Row.gen [.int .i64 m, .int .i64 p, .int .i64 q, .int .i64 h, .int .i64 D]),AV.list (.ints .i64 l)]=some (ZFX m p q h D l):=rfl
def ZkJ(m p q h D:Int)(l:zI)(n0 n1 n2:Int)(b3:Bool)(n4 n5 n6 n7:Int)(b8:Bool)(n9 n10 n11:Int)(l12:zI):List AFrame:=[vF 58 31 [(0,AV.yld 11901 1),vP 1 33003,vP 2 33004,vI 4 n11] (vC Zy3 Zyz) [],{ fn:=11,N:=70,env:=[vL 1 l,vP 2 11003,(4,AV.nils),vI 5 0,vI 7 n0,vI 8 n1,vP 9 11010,vR 10 11065,vI 31 n2,vB 32 b3,vL 34 l,vI 35 n4,(36,AV.fn 58 [AV.ptr 33003 0 0 0,AV.ptr 33004 0 0 0])],todo:=[.inRF 11901 1,.inBlock 0, .code (.seq (.seq (.reg none [oN 45 (.load false 1 (.t 9)),oN 46 (.faddr 4 (.t 2)),oN 47 (.load false 1 (.t 46)),oN 48 (.ncall true 11049 35 [.t 45,.t 47]),oN 49 (.len (.t 48)),oN 50 (.mov (cI 0))]) (.block 2 (.loop Zzm))) ZxI)],defs:=[(11901,0)],rnd:=none,ret:=false,res:=[.tmp 4,.tmp 5] }]
def Zgv(m p q h D:Int)(l:zI)(n0 n1 n2:Int)(b3:Bool)(n4 n5 n6 n7:Int)(b8:Bool)(n9 n10 n11:Int)(l12:zI):Zaa:=[(11003,{ base:=0,blks:=[Blk.row 26 5 (Row.gen [AV.agg (Row.gen [AV.int .i64 m,AV.int .i64 p,AV.int .i64 q,AV.int .i64 h,AV.int .i64 D])])] }),(11010,{ base:=0,blks:=[Blk.row 27 1 (Row.gen [.row 11045 0])] }),vK 11045 l12,(11065,{ base:=0,blks:=[Blk.row 3 1 (.ints .i64 [])] }),(11901,{ base:=0,blks:=[Blk.dfr,Blk.lp { st:=RSt.ready,fn:=11,N:=70,env:=[vL 1 l,vP 2 11003,(4,AV.nils),vI 5 0,vI 7 n5,vI 8 n6,vP 9 11010,vR 10 11065,vI 31 n7,vB 32 b8,vL 34 l,vI 35 n9,(36,AV.fn 58 [AV.ptr 33003 0 0 0,AV.ptr 33004 0 0 0])],params:=[37],asg:=ACode.reg none [mV 11 37],body:=ACode.block 1 (.seq (.reg none [oN 38 (.faddr 3 (.t 2)),oN 39 (.load false 1 (.t 38)),mV 40 11,oN 41 (.ncall true 0 34 [.t 39,.t 40]),oN 12 (.alloc 11013 76 (AV.agg (.ints .i64 [0,0,0,0,0,0,0,0,0,0,0,0,0,0,0]))),{ d:=none,g:=none,k:=OpK.store 15 (.t 12) (.t 41) }]) (.reg (some []) [oN 42 (.load false 1 (.t 9)),oN 43 (.asl 15 (.t 12) none none),oN 44 (.append 11045 3 1 (.t 42) (.t 43)),{ d:=none,g:=none,k:=OpK.store 1 (.t 9) (.t 44) }])) }] }),(33003,{ base:=0,blks:=[Blk.row 27 1 (Row.gen [.list (.ints .i64 l)])] }),vG 33004 (.int .i64 n10)]
abbrev ZlD(m p q h D:Int)(l:zI)(n0 n1 n2:Int)(b3:Bool)(n4 n5 n6 n7:Int)(b8:Bool)(n9 n10 n11:Int)(l12:zI):List AFrame×Zaa:=(ZkJ m p q h D l n0 n1 n2 b3 n4 n5 n6 n7 b8 n9 n10 n11 l12,Zgv m p q h D l n0 n1 n2 b3 n4 n5 n6 n7 b8 n9 n10 n11 l12)
def Zfz(m p q h D n13:Int)(l14:zI)(n15:Int)(l16:zI):List AFrame:=[{ fn:=11,N:=70,env:=[vP 2 11003,vR 10 11065,vR 48 11049,vI 49 n13,vI 50 n15],todo:=.code (.gh [] ZHn)::ZLJ,defs:=[(11901,0)],rnd:=none,ret:=false,res:=[.tmp 4,.tmp 5] }]
def Zeb(m p q h D n13:Int)(l14:zI)(n15:Int)(l16:zI):Zaa:=[(11003,{ base:=0,blks:=[Blk.row 26 5 (Row.gen [AV.agg (Row.gen [AV.int .i64 m,AV.int .i64 p,AV.int .i64 q,AV.int .i64 h,AV.int .i64 D])])] }),vK 11049 l14,vK 11065 l16,(11901,{ base:=0,blks:=[Blk.dfr] })]
abbrev Zmg(m p q h D n13:Int)(l14:zI)(n15:Int)(l16:zI):List AFrame×Zaa:=(Zfz m p q h D n13 l14 n15 l16,Zeb m p q h D n13 l14 n15 l16)
def Zco(m p q h D n13:Int)(l14:zI)(n15 n17 n18:Int)(l19:zI):List AFrame:=[{ fn:=11,N:=70,env:=[vP 2 11003,vR 10 11065,vI 14 n17,vI 15 n18,vR 48 11049,vI 49 n13,vI 50 n15],todo:=.code (.gh [] ZI4)::ZN0,defs:=[(11901,0)],rnd:=none,ret:=false,res:=[.tmp 4,.tmp 5] }]
def ZbL(m p q h D n13:Int)(l14:zI)(n15 n17 n18:Int)(l19:zI):Zaa:=[(11003,{ base:=0,blks:=[Blk.row 26 5 (Row.gen [AV.agg (Row.gen [AV.int .i64 m,AV.int .i64 p,AV.int .i64 q,AV.int .i64 h,AV.int .i64 D])])] }),vK 11049 l14,vK 11065 l19,(11901,{ base:=0,blks:=[Blk.dfr] })]
abbrev Zl6(m p q h D n13:Int)(l14:zI)(n15 n17 n18:Int)(l19:zI):List AFrame×Zaa:=(Zco m p q h D n13 l14 n15 n17 n18 l19,ZbL m p q h D n13 l14 n15 n17 n18 l19)
def ZyD(A:Ar)(K:KT)(F:FT)(m p q h D:Int)(l:zI):Prop:=let u0:=A.sub 15 (A.mul 2 h);let u1:=A.mul D u0;bB (A.not (A.eq (lkE m p q h D) 0)) (F (AV.tup [AV.nils,AV.int .i64 (lkE m p q h D)]) none) (rB [decide (List.length l≤1000000),A.inR .i64 u1,A.inR .i64 u0,A.inR .i64 (A.mul 2 h)] (bB (A.not (A.eq (elE l u1) 0)) (F (AV.tup [AV.nils,AV.int .i64 (elE l u1)]) none) (bB (A.lt u0 1) False (K (ZlD m p q h D l u0 (elE l u1) (elE l u1) (A.not (A.eq (elE l u1) 0)) u0 u0 (elE l u1) (elE l u1) (A.not (A.eq (elE l u1) 0)) u0 u0 0 [])))))
theorem ZNW{A:Ar}{K:KT}{F:FT}{M:MT}{m p q h D:Int}{l:zI} :Zah A tab Ko 11 K F M (.run 18 (.tf (.run 7 (.fn)) (.run 26 (.tf (.run 7 (.fn)) (.run 26 (.tf (.no) (.run 18 (.hd)))))))) (ZQ5 m p q h D l) []=ZyD A K F m p q h D l:=by kernel_rfl
def ZhQ(A:Ar)(K:KT)(F:FT)(m p q h D:Int)(l:zI)(n0 n1 n2:Int)(b3:Bool)(n4 n5 n6 n7:Int)(b8:Bool)(n9 n10 n11:Int)(l12:zI):Prop:=let u0:=A.nat n11;bB (A.lt n11 (A.int (A.len l))) (rB [Zac (Zac (Zac (Nat.ble 15 (A.len (enW h (A.sub3 l u0 (A.nat (A.add n11 (A.min n10 (A.int (A.len (A.sub3 l u0 (A.len l-A.nat n11))))))-A.nat n11))))) true) true) (Nat.ble (A.len l12+A.len (A.sub3 (enW h (A.sub3 l u0 (A.nat (A.add n11 (A.min n10 (A.int (A.len (A.sub3 l u0 (A.len l-A.nat n11))))))-A.nat n11))) 0 15)) 4294967296),Nat.beq (A.len (enW h (A.sub3 l u0 (A.nat (A.add n11 (A.min n10 (A.int (A.len (A.sub3 l u0 (A.len l-A.nat n11))))))-A.nat n11)))) 15,Nat.blt 0 (A.len [0,0,0,0,0,0,0,0,0,0,0,0,0,0,0]),decide (daB h (A.sub3 l u0 (A.nat (A.add n11 (A.min n10 (A.int (A.len (A.sub3 l u0 (A.len l-A.nat n11))))))-A.nat n11))=true),Zac (Zac (A.le 0 n11) (A.le 0 (A.add n11 (A.min n10 (A.int (A.len (A.sub3 l u0 (A.len l-A.nat n11)))))))) (Zac (Zac (Nat.ble u0 (A.nat (A.add n11 (A.min n10 (A.int (A.len (A.sub3 l u0 (A.len l-A.nat n11)))))))) (Nat.ble (A.nat (A.add n11 (A.min n10 (A.int (A.len (A.sub3 l u0 (A.len l-A.nat n11))))))) (A.len l))) (Zac (A.le 0 (A.add n11 (A.min n10 (A.int (A.len (A.sub3 l u0 (A.len l-A.nat n11))))))) (Zac (Nat.ble (A.nat (A.add n11 (A.min n10 (A.int (A.len (A.sub3 l u0 (A.len l-A.nat n11))))))) (A.nat (A.add n11 (A.min n10 (A.int (A.len (A.sub3 l u0 (A.len l-A.nat n11)))))))) (Nat.ble (A.nat (A.add n11 (A.min n10 (A.int (A.len (A.sub3 l u0 (A.len l-A.nat n11))))))) (A.len l))))),A.inR .i64 (A.add n11 (A.min n10 (A.int (A.len (A.sub3 l u0 (A.len l-A.nat n11)))))),A.inR .i64 (A.add n11 (A.min n10 (A.int (A.len (A.sub3 l u0 (A.len l-A.nat n11)))))),Zac (Zac (A.le 0 n11) true) (Zac (Zac (Nat.ble u0 (A.len l)) (Nat.ble (A.len l) (A.len l))) true)] (rB [!A.not true] (rB [A.inR .i64 (A.add n11 n10)] (K (ZlD m p q h D l n0 n1 n2 b3 n4 n5 n6 n7 b8 n9 n10 (A.add n11 n10) (A.app l12 (A.sub3 (enW h (A.sub3 l u0 (A.nat (A.add n11 (A.min n10 (A.int (A.len (A.sub3 l u0 (A.len l-A.nat n11))))))-A.nat n11))) 0 15))))))) (rB [decide (rcB l12 D=true)] (K (Zmg m p q h D (A.int (A.len (tS l12 (Int.toNat D)))) (tS l12 (Int.toNat D)) 0 [])))
theorem ZlB{A:Ar}{K:KT}{F:FT}{M:MT}{m p q h D:Int}{l:zI}{n0 n1 n2:Int}{b3:Bool}{n4 n5 n6 n7:Int}{b8:Bool}{n9 n10 n11:Int}{l12:zI} :Zah A tab Ko 11 K F M (.run 9 (.tf (.run 39 (.fy (.run 10 (.hd)))) (.run 18 (.hd)))) (ZkJ m p q h D l n0 n1 n2 b3 n4 n5 n6 n7 b8 n9 n10 n11 l12) (Zgv m p q h D l n0 n1 n2 b3 n4 n5 n6 n7 b8 n9 n10 n11 l12)=ZhQ A K F m p q h D l n0 n1 n2 b3 n4 n5 n6 n7 b8 n9 n10 n11 l12:=by kernel_rfl
def Zhi(A:Ar)(K:KT)(F:FT)(m p q h D n13:Int)(l14:zI)(n15:Int)(l16:zI):Prop:=let u0:=A.nat n15;bB (A.lt n15 n13) (rB [Zac (Nat.blt u0 (A.len l14)) true,Zac (A.le 0 n15) (Nat.blt u0 (A.len l14))] (K (Zl6 m p q h D n13 l14 n15 (A.nth l14 u0) 3 l16))) (rB [decide (ecB m p q l16=true)] (F (AV.tup [AV.row 0 0,AV.int .i64 0]) (some { e:=3,sz:=1,r:=.ints .i64 (Zb3 m p q l16) })))
theorem Znv{A:Ar}{K:KT}{F:FT}{M:MT}{m p q h D n13:Int}{l14:zI}{n15:Int}{l16:zI} :Zah A tab Ko 11 K F M (.run 6 (.tf (.run 16 (.hd)) (.run 12 (.fn)))) (Zfz m p q h D n13 l14 n15 l16) (Zeb m p q h D n13 l14 n15 l16)=Zhi A K F m p q h D n13 l14 n15 l16:=by kernel_rfl
def Zch(A:Ar)(K:KT)(F:FT)(m p q h D n13:Int)(l14:zI)(n15 n17 n18:Int)(l19:zI):Prop:=let u0:=A.shr n17 n18;bB (A.le 0 n18) (rB [A.inR .i64 (A.sub n18 1),Nat.ble (A.len l19+A.len [A.bits .and .i64 u0 1]) 4294967296,List.all [AV.int .i64 (A.bits .and .i64 u0 1)] fun x=>AV.bx x&&Nat.beq (Zad A x) 1,Zac (A.le 0 n18) (Nat.blt (A.nat n18) 64)] (K (Zl6 m p q h D n13 l14 n15 n17 (A.sub n18 1) (A.app l19 [A.bits .and .i64 u0 1])))) (rB [A.inR .i64 (A.add n15 1)] (K (Zmg m p q h D n13 l14 (A.add n15 1) l19)))
theorem ZcN{A:Ar}{K:KT}{F:FT}{M:MT}{m p q h D n13:Int}{l14:zI}{n15 n17 n18:Int}{l19:zI} :Zah A tab Ko 11 K F M (.run 7 (.tf (.run 21 (.hd)) (.run 8 (.hd)))) (Zco m p q h D n13 l14 n15 n17 n18 l19) (ZbL m p q h D n13 l14 n15 n17 n18 l19)=Zch A K F m p q h D n13 l14 n15 n17 n18 l19:=by kernel_rfl
end Go.Proofs.YtjhldefnjghcdaaGreat
namespace Go.Proofs.YtjhldefnjghcdaaGreat
def paL(n:Nat)(l:zI)(i:Nat):zI:=(l.drop (i*n)).take n
theorem Zcz{n D:Nat}{l:zI}(hl:l.length=D*n){i:Nat}(hi:i<D):(paL n l i).length=n:=by
 have:(i+1)*n≤D*n:=Nat.mul_le_mul_right n hi
 rw[Nat.add_mul,Nat.one_mul]at this
 unfold paL
 rw[List.length_take,List.length_drop];omega
theorem Zrw{n:Nat}{l:zI}{i j:Nat}(hj:j<n):(paL n l i).getD j 0=l.getD (i*n+j) 0:=by
 unfold paL
 rw[List.getD_eq_getElem?_getD,List.getD_eq_getElem?_getD,List.getElem?_take,if_pos hj,List.getElem?_drop]
theorem ZrS{n:Nat}{l:zI}(h:ZaF l 0 15=0)(i:Nat):ZaF (paL n l i) 0 15=0:=Ze9 fun j hj=>by
 have hj2:j<n:=by unfold paL at hj;rw[List.length_take]at hj;omega
 rw[Zrw hj2]
 exact Zfy h _
def woL(h:Int)(n:Nat)(l:zI):Nat→zI
 |0=>[]
 |i+1=>woL h n l i++enW h (paL n l i)
def biL:zI→zI
 |[]=>[]
 |x::l=>b4L x++biL l
def lnB(m p q h D:Int)(l:zI):Bool:=decide (lkE m p q h D=0)&&(decide ((l.length:Int)=D*(15-2*h))&&decide (ZaF l 0 15=0))
structure LnK (h D:Int) (l:zI) (n d:Nat):Prop where
 hb:hfB h=true
 hd:D=d
 d1:1≤d∧d≤4
 hn:(n:Int)=15-2*h
 n1:9≤n∧n≤13
 hl:l.length=d*n
 hr:ZaF l 0 15=0
theorem ZEg{m p q h D:Int}{l:zI}(g:lnB m p q h D l=true):ZaI m p q=0∧∃n d,LnK h D l n d:=by
 unfold lnB at g
 rw[Bool.and_eq_true,Bool.and_eq_true]at g
 obtain⟨g1,g2,g3⟩:=g
 have g1:=of_decide_eq_true g1
 have g2:=of_decide_eq_true g2
 have g3:=of_decide_eq_true g3
 obtain⟨e1,e2,h1,h2,h3,h4⟩:=ZfY g1
 obtain⟨d,rfl⟩:=Int.eq_ofNat_of_zero_le (show 0≤D by omega)
 obtain⟨n,hn⟩:=Int.eq_ofNat_of_zero_le (show 0≤15-2*h by omega)
 refine⟨e1,n,d,e2,rfl,by omega,by omega,by omega,?_,g3⟩
 rw[hn]at g2
 exact_mod_cast g2
theorem LnK.da{h D:Int}{l:zI}{n d:Nat}(K:LnK h D l n d){i:Nat}(hi:i<d):daB h (paL n l i)=true:=by
 have e:=Zcz K.hl hi
 unfold daB elE Zae
 rw[K.hb,e,ZrS K.hr]
 simp[K.hn,Zaj]
theorem LnK.en{h D:Int}{l:zI}{n d:Nat}(K:LnK h D l n d){i:Nat}(hi:i<d):(enW h (paL n l i)).length=15∧ZaF (enW h (paL n l i)) 0 15=0:=okw_iff.1 (ZrZ (Zpn (K.da hi)))
theorem Zof{a b:zI}(j:Nat):(a++b).getD j 0=if j<a.length then a.getD j 0 else b.getD (j-a.length) 0:=by
 rw[List.getD_eq_getElem?_getD,List.getD_eq_getElem?_getD,List.getD_eq_getElem?_getD,List.getElem?_append]
 split<;>rfl
theorem LnK.wo{h D:Int}{l:zI}{n d:Nat}(K:LnK h D l n d):∀i,i≤d→(woL h n l i).length=15*i∧ZaF (woL h n l i) 0 15=0
 |0,_=>⟨rfl,rfl⟩
 |i+1,hi=>by
  obtain⟨a,b⟩:=K.wo i (by omega)
  obtain⟨c,e⟩:=K.en (show i<d by omega)
  refine⟨by rw[woL,List.length_append,a,c];omega,Ze9 fun j _=>?_⟩
  rw[woL,Zof]
  split
  ·exact Zfy b _
  ·exact Zfy e _
theorem Zxl{l:zI}{R:Nat}(h:ZaF l 0 15=0):ZaF (tS l R) 0 15=0:=Ze9 fun j hj=>by
 rw[Zdz]at hj
 have:(tS l R).getD j 0=tE l R j:=by simp[tS,hj]
 rw[this]
 exact Zfy h _
theorem LnK.rc{h D:Int}{l:zI}{n d:Nat}(K:LnK h D l n d):rcB (woL h n l d) D=true:=by
 obtain⟨a,_⟩:=K.wo d (Nat.le_refl _)
 have h1:=K.d1
 refine decide_eq_true ?_
 rw[K.hd,a,Int.toNat_natCast,Nat.mul_div_cancel _ (by omega)]
 exact⟨by omega,by omega,by omega,by omega,rfl⟩
def mxL(h:Int)(n:Nat)(l:zI)(d:Nat):zI:=tS (woL h n l d) d
theorem LnK.mx{h D:Int}{l:zI}{n d:Nat}(K:LnK h D l n d):(mxL h n l d).length=15*d∧ZaF (mxL h n l d) 0 15=0:=by
 obtain⟨a,b⟩:=K.wo d (Nat.le_refl _)
 exact⟨by rw[mxL,Zdz,a],Zxl b⟩
theorem ZAJ{x:Int}(h:0≤x∧x≤15):Zas (b4L x)=true:=by
 obtain⟨k,rfl⟩:=Int.eq_ofNat_of_zero_le h.1
 have h2:k<16:=by omega
 revert h2
 exact(by decide:∀a:Fin 16,Zas (b4L (a.val:Int))=true) ⟨k,by omega⟩ |> fun e _=>e
theorem ZsH:∀l,(biL l).length=4*l.length
 |[]=>rfl
 |x::l=>by rw[biL,List.length_append,ZsH l,List.length_cons];simp[b4L];omega
theorem Zqm:∀l:zI,ZaF l 0 15=0→Zas (biL l)=true
 |[],_=>rfl
 |x::l,h=>by
  have h0:=Znk h (by omega) 0
  have hx:ZaF l 0 15=0:=Ze9 fun j _=>Zfy h (j+1)
  exact Zdv (ZAJ h0) (Zqm l hx)
@[irreducible] def snL (m p q h D:Int) (l:zI):zI:=Zb3 m p q (biL (mxL h (15-2*h).toNat l D.toNat))
theorem LnK.sn{h D:Int}{l:zI}{n d:Nat}(K:LnK h D l n d)(m p q:Int):snL m p q h D l=Zb3 m p q (biL (mxL h n l d)):=by
 unfold snL
 rw[←K.hn,K.hd,Int.toNat_natCast,Int.toNat_natCast]
theorem Zwc{n:Nat}(l:zI){i a b:Nat}(ha:a=i*n)(hb:b=i*n+n):std.sub3 l a (b-a)=paL n l i:=by
 subst ha hb
 show(l.drop (i*n)).take _=_
 rw[Nat.add_sub_cancel_left];rfl
section
variable {C:Ctx}(hC:C.P=Tryz.prog)(m p q h D:Int)(l:zI)(n d:Nat)(K:LnK h D l n d)(hv:ZaI m p q=0)
include hC hv
include K
end
theorem ZJq{x:Int}(h:0≤x∧x≤15):std.bits .and .i64 (std.shr x 3) 1=(x.tdiv 2 |>.tdiv 2 |>.tdiv 2 |>.tmod 2)∧std.bits .and .i64 (std.shr x 2) 1=(x.tdiv 2 |>.tdiv 2 |>.tmod 2)∧std.bits .and .i64 (std.shr x 1) 1=(x.tdiv 2 |>.tmod 2)∧std.bits .and .i64 (std.shr x 0) 1=x.tmod 2:=by
 obtain⟨k,rfl⟩:=Int.eq_ofNat_of_zero_le h.1
 exact(by decide:∀a:Fin 16,std.bits .and .i64 (std.shr (a.val:Int) 3) 1=((a.val:Int).tdiv 2 |>.tdiv 2 |>.tdiv 2 |>.tmod 2)∧std.bits .and .i64 (std.shr (a.val:Int) 2) 1=((a.val:Int).tdiv 2 |>.tdiv 2 |>.tmod 2)∧std.bits .and .i64 (std.shr (a.val:Int) 1) 1=((a.val:Int).tdiv 2 |>.tmod 2)∧std.bits .and .i64 (std.shr (a.val:Int) 0) 1=(a.val:Int).tmod 2) ⟨k,by omega⟩
section
variable {C:Ctx}(hC:C.P=Tryz.prog)(m p q h D:Int)(r:AV)
include hC
theorem ZP7(n13:Int)(l14 out:zI)(i:Nat)(x:Int)(hx:0≤x∧x≤15)(hi:i≤1000)(ho:out.length≤1000)(hn:Ev C (Zfz m p q h D n13 l14 (i+1:Nat) (out++b4L x)) (Zeb m p q h D n13 l14 (i+1:Nat) (out++b4L x)) (Zk2 11 r)):
 Ev C (Zco m p q h D n13 l14 i x 3 out) (ZbL m p q h D n13 l14 i x 3 out) (Zk2 11 r):=by
 obtain⟨x3,x2,x1,x0⟩:=ZJq hx
 have i0:Ev C (Zco m p q h D n13 l14 i x (-1) (out++b4L x)) (ZbL m p q h D n13 l14 i x (-1) (out++b4L x)) (Zk2 11 r):=by
  refine Zfo hC Zdt ZcN ?_
  simp[Zch]at hn⊢
  exact⟨by omega,hn⟩
 have i1:Ev C (Zco m p q h D n13 l14 i x 0 (out++(b4L x).take 3)) (ZbL m p q h D n13 l14 i x 0 (out++(b4L x).take 3)) (Zk2 11 r):=by
  refine Zfo hC Zdt ZcN ?_
  simp only[Zch,x0]
  simp[b4L,AV.bx,Zad]at i0⊢
  exact⟨by omega,i0⟩
 have i2:Ev C (Zco m p q h D n13 l14 i x 1 (out++(b4L x).take 2)) (ZbL m p q h D n13 l14 i x 1 (out++(b4L x).take 2)) (Zk2 11 r):=by
  refine Zfo hC Zdt ZcN ?_
  simp only[Zch,x1]
  simp[b4L,AV.bx,Zad]at i1⊢
  exact⟨by omega,i1⟩
 have i3:Ev C (Zco m p q h D n13 l14 i x 2 (out++(b4L x).take 1)) (ZbL m p q h D n13 l14 i x 2 (out++(b4L x).take 1)) (Zk2 11 r):=by
  refine Zfo hC Zdt ZcN ?_
  simp only[Zch,x2]
  simp[b4L,AV.bx,Zad]at i2⊢
  exact⟨by omega,i2⟩
 refine Zfo hC Zdt ZcN ?_
 simp only[Zch,x3]
 simp[b4L,AV.bx,Zad]at i3⊢
 exact⟨by omega,i3⟩
theorem ZRg(hv:ZaI m p q=0)(l3:zI)(hr:ZaF l3 0 15=0)(hl:l3.length≤60):∀(k i:Nat) (out:zI),i+k=l3.length→out++biL (l3.drop i)=biL l3→Ev C (Zfz m p q h D l3.length l3 i out) (Zeb m p q h D l3.length l3 i out) (Zk2 11 (.tup [.list (.ints .i64 (Zb3 m p q (biL l3))), .int .i64 0])):=by
 intro k
 induction k with
 |zero=>
  intro i out hi he
  rw[List.drop_of_length_le (by omega),biL,List.append_nil]at he
  subst he
  have hec:ecB m p q (biL l3)=true:=by
   unfold ecB
   rw[Zqm _ hr,ZsH]
   simp[hv];omega
  refine Zfo hC Zdt Znv ?_
  simp[Zhi,show ¬(i:Int)<l3.length by omega,hec]
  exact⟨_, .same _, .tup ⟨.row _ rfl rfl rfl, .same _ rfl rfl,trivial⟩,rfl⟩
 |succ k ih=>
  intro i out hi he
  have hlt:i<l3.length:=by omega
  have hlt2:(i:Int)<l3.length:=by omega
  rw[ZdE hlt,biL,←List.append_assoc]at he
  have hx:=Znk hr (by omega) i
  have hol:out.length≤4*l3.length:=by
   have:=congrArg List.length he
   have q:=ZsH l3
   rw[List.length_append,List.length_append]at this;omega
  have i0:=ZP7 hC m p q h D _ l3.length l3 out i (l3.getD i 0) hx (by omega) (by omega) (ih (i+1) _ (by omega) he)
  refine Zfo hC Zdt Znv ?_
  simp[-List.getD_eq_getElem?_getD,Zhi,hlt,hlt2]at i0⊢
  exact i0
theorem ZQ0(l:zI)(n d:Nat)(K:LnK h D l n d)(hv:ZaI m p q=0)(n0 n1 n2:Int)(b3:Bool)(n4 n5 n6 n7:Int)(b8:Bool)(n9:Int):∀(k i:Nat),i+k=d→Ev C (ZkJ m p q h D l n0 n1 n2 b3 n4 n5 n6 n7 b8 n9 n ((i*n:Nat):Int) (woL h n l i)) (Zgv m p q h D l n0 n1 n2 b3 n4 n5 n6 n7 b8 n9 n ((i*n:Nat):Int) (woL h n l i)) (Zk2 11 (.tup [.list (.ints .i64 (Zb3 m p q (biL (mxL h n l d)))), .int .i64 0])):=by
 have hn:=K.n1
 have hd:=K.d1
 have hD:=K.hd
 have hl:=K.hl
 have hdn:d*n≤52:=Nat.mul_le_mul hd.2 hn.2
 intro k
 induction k with
 |zero=>
  intro i hi
  have:i=d:=by omega
  subst this
  obtain⟨a,b⟩:=K.mx
  have i0:=ZRg hC m p q h D hv (mxL h n l i) b (by omega) (mxL h n l i).length 0 [] (by omega) rfl
  have rc:=K.rc
  refine Zfo hC Zdt ZlB ?_
  simp only[ZhQ,ZEB,Ze0,Zbw,hl]
  simp[hD,mxL]at i0 rc⊢
  exact⟨rc,i0⟩
 |succ k ih=>
  intro i hi
  have i0:=ih (i+1) (by omega)
  rw[woL]at i0
  have hid:i<d:=by omega
  have da:=K.da hid
  obtain⟨e1,_⟩:=K.en hid
  obtain⟨e2,_⟩:=K.wo i (by omega)
  have hle:i*n+n≤l.length:=by
   have:(i+1)*n≤d*n:=Nat.mul_le_mul_right n hid
   rw[Nat.add_mul,Nat.one_mul]at this
   rw[K.hl];exact this
  have t0:(std.sub3 l (i*n) (l.length-i*n)).length=l.length-i*n:=by
   show((l.drop (i*n)).take _).length=_
   rw[List.length_take,List.length_drop];omega
  have t1:std.min (n:Int) ((l.length-i*n:Nat):Int)=(n:Int):=by show min _ _=_;omega
  have t2:((i*n:Nat):Int)+(n:Int)=((i*n+n:Nat):Int):=by rw[Int.natCast_add]
  have es:std.sub3 l (i*n) (i*n+n-i*n)=paL n l i:=Zwc l rfl rfl
  have t3:((i*n:Nat):Int)<(l.length:Int):=by omega
  have t4:(i+1)*n=i*n+n:=by rw[Nat.add_mul,Nat.one_mul]
  have e15:std.sub3 (enW h (paL n l i)) 0 15=enW h (paL n l i):=Zf5 e1
  rw[t4,←t2]at i0
  generalize i*n=j at*
  refine Zfo hC Zdt ZlB ?_
  simp only[ZhQ,ZEB,Zho,ZaT,Ze0,Zbw,t0,Int.toNat_natCast,t1,t2,es,da,e15]
  simp[t3,e1,e2]at i0⊢
  exact⟨by omega,by omega,i0⟩
end
def snE(m p q h D:Int)(l:zI):Int:=Zaj [lkE m p q h D,elE l (D*(15-2*h))]
@[irreducible] def snV (m p q h D:Int) (l:zI):zI:=if snE m p q h D l=0 then snL m p q h D l else []
theorem ZBC{m p q h D:Int}{l:zI}(e:snE m p q h D l=0):lnB m p q h D l=true:=by
 obtain⟨e1,e2⟩:=Zcm e
 obtain⟨e2,_⟩:=Zcm e2
 obtain⟨a,b⟩:=ZAr e2
 unfold lnB
 simp[e1,a,b]
theorem Zzi(m p q h D:Int)(l:zI)(hl:l.length≤1000000):ZaK Tryz.prog 11 [.agg (.gen [.int .i64 m, .int .i64 p, .int .i64 q, .int .i64 h, .int .i64 D]), .list (.ints .i64 l)] (.tup [.list (.ints .i64 (snV m p q h D l)), .int .i64 (snE m p q h D l)]) Zk4:=by
 refine ZpE (ZCS m p q h D l) fun C hC=>Zfo hC Zdt ZNW ?_
 by_cases h1:lkE m p q h D=0
 ·obtain⟨hv,hb,q1,q2,q3,q4⟩:=ZfY h1
  have b1:D*(15-2*h)≤4*13:=Int.mul_le_mul q4 (by omega) (by omega) (by omega)
  have b2:0≤D*(15-2*h):=Int.mul_nonneg (by omega) (by omega)
  by_cases h2:elE l (D*(15-2*h))=0
  ·have e0:snE m p q h D l=0:=by simp[snE,Zaj,h1,h2]
   obtain⟨_,n,d,K⟩:=ZEg (ZBC e0)
   have hn:=K.hn
   have hn1:=K.n1
   have ev:snV m p q h D l=Zb3 m p q (biL (mxL h n l d)):=by unfold snV;rw[if_pos e0,K.sn]
   have i:=ZQ0 hC m p q h D l n d K hv (15-2*h) 0 0 false (15-2*h) (15-2*h) 0 0 false (15-2*h) d 0 (by omega)
   rw[hn]at i
   simp[ZyD,h1,h2,hl,ev,e0,woL]at i⊢
   refine⟨by omega,by omega,i⟩
  ·have e0:snE m p q h D l=elE l (D*(15-2*h)):=by simp[snE,Zaj,h1,h2]
   have ev:snV m p q h D l=[]:=by unfold snV;rw[if_neg (by rw[e0];exact h2)]
   simp[ZyD,h1,h2,hl,ev,e0]
   exact⟨by omega,_, .same _, .tup ⟨.nil _ rfl, .same _ rfl rfl,trivial⟩,rfl⟩
 ·have e0:snE m p q h D l=lkE m p q h D:=by simp[snE,Zaj,h1]
  have ev:snV m p q h D l=[]:=by unfold snV;rw[if_neg (by rw[e0];exact h1)]
  simp[ZyD,h1,ev,e0]
  exact⟨_, .same _, .tup ⟨.nil _ rfl, .same _ rfl rfl,trivial⟩,rfl⟩
def k48:Ctr:=⟨11,0,fun _ a=>match a with |[.agg (.gen [.int .i64 m, .int .i64 p, .int .i64 q, .int .i64 h, .int .i64 D]), .list (.ints .i64 l)]=>some (decide (l.length≤1000000), .tup [.list (.ints .i64 (snV m p q h D l)), .int .i64 (snE m p q h D l)],Zk4) |_=>none⟩
theorem ZFh:k48.OK Tryz.prog:=fun pa args r fr h=>by
 simp only[k48]at h
 split at h
 ·simp only[Option.some.injEq,Prod.mk.injEq,decide_eq_true_eq]at h
  obtain⟨h0,rfl,rfl⟩:=h
  exact Zzi _ _ _ _ _ _ h0
 ·cases h
def Kp:List Ctr:=[k48]++Ko
theorem ZLT:Zar Tryz.prog Kp:=⟨ZFh,Zdt⟩
end Go.Proofs.YtjhldefnjghcdaaGreat
namespace Go.Proofs.YtjhldefnjghcdaaGreat
set_option maxRecDepth 100000
set_option linter.unusedVariables false
def ZHx(m p q h D:Int)(l:zI):AFrame:=vF 22 108 [(0,AV.agg (Row.gen [.int .i64 m, .int .i64 p, .int .i64 q, .int .i64 h, .int .i64 D])),vL 1 l] [.code a22.code] [ARes.cell 4 false 1,ARes.cell 5 false 1,ARes.cell 6 false 1]
def ZQG(m p q h D:Int)(l:zI):List AFrame:=[(ZHx m p q h D l)]
theorem ZCT(m p q h D:Int)(l:zI):Zak tab 22 [AV.agg (Row.gen [.int .i64 m, .int .i64 p, .int .i64 q, .int .i64 h, .int .i64 D]),AV.list (.ints .i64 l)]=some (ZHx m p q h D l):=rfl
def v9Q:List AOp:=[oN 75 (.load false 1 (.t 12)),oN 76 (.load false 1 (.t 12)),oN 77 (.len (.t 76)),oN 78 (.faddr 4 (.t 2)),oN 79 (.load false 1 (.t 78)),oN 80 (.bin Go.BinOp.quo (.t 77) (.t 79)),oN 81 (.ncall true 22082 35 [.t 75,.t 80]),oN 82 (.icall 33 [.t 81,cI 15])]
def ZfL(m p q h D:Int)(l0 l1 l2 l3 l4:zI)(n5:Int)(l6:zI):List AFrame:=[vF 58 31 [(0,AV.yld 22902 1),vP 1 33003,vP 2 33004,vI 4 n5] (vC Zy3 Zyz) [],{ fn:=22,N:=108,env:=[vP 2 22003,vP 4 22005,vP 5 22006,vP 6 22007,vL 10 l0,vP 12 22013,vL 57 l1,(58,AV.fn 58 [AV.ptr 33003 0 0 0,AV.ptr 33004 0 0 0])],todo:=[.inRF 22902 1,.inBlock 0, .code (.seq (.reg none [oN 17 (.alloc 22018 27 AV.nils)]) (.gh [.ownc 17 22103 3 1 (.ints .i64 [])] (.seq (.reg none [oN 18 (.alloc 22019 3 (AV.int .i64 0)),{ d:=none,g:=none,k:=OpK.store 1 (.t 18) (cI 0) }]) (.seq (.seq (.reg (some []) v9Q) (.gh [.keep [2,4,5,6,17,18,82]] (.block 4 (.rf 22901 (.t 82) [83] (.reg none [mV 19 83]) (.block 5 (.seq (.reg (some [(0,10),(1,10),(2,10),(3,10),(4,10),(5,10),(6,10),(7,10),(8,10),(8,11),(9,10),(9,11)]) [mV 85 19,oN 86 (.s2a 15 (.t 85)),oN 87 (.load true 15 (.t 86)),oN 88 (.faddr 3 (.t 2)),oN 89 (.load false 1 (.t 88)),oN 90 (.ncall true 0 54 [.t 87,.t 89]),mV 84 90,oN 91 (.ext 0 (.t 84)),oN 92 (.ext 1 (.t 84)),oN 93 (.ext 2 (.t 84)),oN 20 (.alloc 22021 76 (AV.agg (.ints .i64 [0,0,0,0,0,0,0,0,0,0,0,0,0,0,0]))),{ d:=none,g:=none,k:=OpK.store 15 (.t 20) (.t 91) },mV 21 92,mV 22 93]) (.gh [.keep [2,4,5,6,17,18,20,21,22]] (.seq (.seq (.reg none [mV 94 22,oN 95 (.not (.t 94))]) (.cond (.t 95) (.seq (.reg none [{ d:=none,g:=none,k:=OpK.store 1 (.t 4) (.c AV.nils) },{ d:=none,g:=none,k:=OpK.store 1 (.t 5) (cI 0) },{ d:=none,g:=none,k:=OpK.store 1 (.t 6) (cI 27) }]) ACode.ret) ACode.skip)) (.seq (.reg (some []) [oN 96 (.load false 1 (.t 17)),oN 97 (.faddr 3 (.t 2)),oN 98 (.load false 1 (.t 97)),oN 99 (.bin Go.BinOp.mul (cI 2) (.t 98)),oN 100 (.bin Go.BinOp.sub (cI 15) (.t 99)),oN 101 (.asl 15 (.t 20) none (some (.t 100))),oN 102 (.append 22103 3 1 (.t 96) (.t 101)),{ d:=none,g:=none,k:=OpK.store 1 (.t 17) (.t 102) }]) (.gh [.keep [2,4,5,6,17,18,21]] (.reg none [oN 103 (.load false 1 (.t 18)),mV 104 21,oN 105 (.bin Go.BinOp.add (.t 103) (.t 104)),{ d:=none,g:=none,k:=OpK.store 1 (.t 18) (.t 105) }]))))))))))) (.seq (.reg (some [(1,2)]) [oN 106 (.load false 1 (.t 17)),oN 107 (.load false 1 (.t 18)),{ d:=none,g:=none,k:=OpK.store 1 (.t 4) (.t 106) },{ d:=none,g:=none,k:=OpK.store 1 (.t 5) (.t 107) },{ d:=none,g:=none,k:=OpK.store 1 (.t 6) (cI 0) }]) ACode.ret)))))],defs:=[(22902,0)],rnd:=none,ret:=false,res:=[ARes.cell 4 false 1,ARes.cell 5 false 1,ARes.cell 6 false 1] }]
def v15Q:ACode:=.seq (.reg none [oN 14 (.mov (cI 0))]) (.seq (.seq (.reg none [mV 60 13,oN 61 (.len (.t 60)),oN 62 (.mov (cI 0))]) (.block 2 (.loop Zyi))) Zy5)
def ZeR(m p q h D:Int)(l0 l1 l2 l3 l4:zI)(n5:Int)(l6:zI):Zaa:=[(22003,{ base:=0,blks:=[Blk.row 26 5 (Row.gen [AV.agg (Row.gen [AV.int .i64 m,AV.int .i64 p,AV.int .i64 q,AV.int .i64 h,AV.int .i64 D])])] }),(22005,{ base:=0,blks:=[Blk.row 27 1 (Row.gen [AV.nils])] }),vG 22006 (.int .i64 0),(22007,{ base:=0,blks:=[Blk.row 40 1 (Row.gen [.int .i64 0])] }),(22013,{ base:=0,blks:=[Blk.row 27 1 (Row.gen [.row 22075 0])] }),vK 22075 l6,(22902,{ base:=0,blks:=[Blk.dfr,Blk.lp { st:=RSt.ready,fn:=22,N:=108,env:=[vP 2 22003,vP 4 22005,vP 5 22006,vP 6 22007,vL 10 l2,vP 12 22013,vL 57 l3,(58,AV.fn 58 [AV.ptr 33003 0 0 0,AV.ptr 33004 0 0 0])],params:=[59],asg:=ACode.reg none [mV 13 59],body:=ACode.block 1 v15Q }] }),(33003,{ base:=0,blks:=[Blk.row 27 1 (Row.gen [.list (.ints .i64 l4)])] }),vG 33004 (.int .i64 4)]
abbrev Zmj(m p q h D:Int)(l0 l1 l2 l3 l4:zI)(n5:Int)(l6:zI):List AFrame×Zaa:=(ZfL m p q h D l0 l1 l2 l3 l4 n5 l6,ZeR m p q h D l0 l1 l2 l3 l4 n5 l6)
def Zj2(m p q h D:Int)(l0 l1 l2 l3 l4:zI)(n5:Int)(l6 l7:zI)(n8 n9 n10 n11 n12 n13:Int)(l14:zI)(n15 n16:Int):List AFrame:=[{ fn:=22,N:=108,env:=[vP 2 22003,vP 4 22005,vP 5 22006,vP 6 22007,vP 12 22013,vI 14 n15,vL 60 l7,vI 61 n8,vI 62 n16],todo:=.code (.gh [] ZKl)::ZMF,defs:=[],rnd:=some (22902,1),ret:=false,res:=[] },vF 58 31 [(0,AV.yld 22902 1),vP 1 33003,vP 2 33004,vI 4 n5,vI 5 n9,(19,AV.yld 22902 1),vL 20 l4,vI 21 n5,vI 22 n5,vI 23 n10,vI 24 n11,vI 25 n5,vI 26 n12,vI 27 n13,vL 28 l14] (.inReg [oN 29 (.icallv (.t 19) [.t 28]),oN 30 (.not (.t 29))]::.code (.gh [.keep [0,1,2,4,30]] (.cond (.t 30) ACode.ret ACode.skip))::AItem.inBlock 1::.code (.reg none [mV 10 4,oN 11 (.load false 1 (.t 2)),oN 12 (.bin Go.BinOp.add (.t 10) (.t 11)),mV 4 12])::Zyz) [],{ fn:=22,N:=108,env:=[vP 2 22003,vP 4 22005,vP 5 22006,vP 6 22007,vL 10 l0,vP 12 22013,vL 57 l1,(58,AV.fn 58 [AV.ptr 33003 0 0 0,AV.ptr 33004 0 0 0])],todo:=[.inRF 22902 1,.inBlock 0, .code (.seq (.reg none [oN 17 (.alloc 22018 27 AV.nils)]) (.gh [.ownc 17 22103 3 1 (.ints .i64 [])] (.seq (.reg none [oN 18 (.alloc 22019 3 (AV.int .i64 0)),{ d:=none,g:=none,k:=OpK.store 1 (.t 18) (cI 0) }]) (.seq (.seq (.reg (some []) v9Q) (.gh [.keep [2,4,5,6,17,18,82]] (.block 4 (.rf 22901 (.t 82) [83] (.reg none [mV 19 83]) (.block 5 (.seq (.reg (some [(0,10),(1,10),(2,10),(3,10),(4,10),(5,10),(6,10),(7,10),(8,10),(8,11),(9,10),(9,11)]) [mV 85 19,oN 86 (.s2a 15 (.t 85)),oN 87 (.load true 15 (.t 86)),oN 88 (.faddr 3 (.t 2)),oN 89 (.load false 1 (.t 88)),oN 90 (.ncall true 0 54 [.t 87,.t 89]),mV 84 90,oN 91 (.ext 0 (.t 84)),oN 92 (.ext 1 (.t 84)),oN 93 (.ext 2 (.t 84)),oN 20 (.alloc 22021 76 (AV.agg (.ints .i64 [0,0,0,0,0,0,0,0,0,0,0,0,0,0,0]))),{ d:=none,g:=none,k:=OpK.store 15 (.t 20) (.t 91) },mV 21 92,mV 22 93]) (.gh [.keep [2,4,5,6,17,18,20,21,22]] (.seq (.seq (.reg none [mV 94 22,oN 95 (.not (.t 94))]) (.cond (.t 95) (.seq (.reg none [{ d:=none,g:=none,k:=OpK.store 1 (.t 4) (.c AV.nils) },{ d:=none,g:=none,k:=OpK.store 1 (.t 5) (cI 0) },{ d:=none,g:=none,k:=OpK.store 1 (.t 6) (cI 27) }]) ACode.ret) ACode.skip)) (.seq (.reg (some []) [oN 96 (.load false 1 (.t 17)),oN 97 (.faddr 3 (.t 2)),oN 98 (.load false 1 (.t 97)),oN 99 (.bin Go.BinOp.mul (cI 2) (.t 98)),oN 100 (.bin Go.BinOp.sub (cI 15) (.t 99)),oN 101 (.asl 15 (.t 20) none (some (.t 100))),oN 102 (.append 22103 3 1 (.t 96) (.t 101)),{ d:=none,g:=none,k:=OpK.store 1 (.t 17) (.t 102) }]) (.gh [.keep [2,4,5,6,17,18,21]] (.reg none [oN 103 (.load false 1 (.t 18)),mV 104 21,oN 105 (.bin Go.BinOp.add (.t 103) (.t 104)),{ d:=none,g:=none,k:=OpK.store 1 (.t 18) (.t 105) }]))))))))))) (.seq (.reg (some [(1,2)]) [oN 106 (.load false 1 (.t 17)),oN 107 (.load false 1 (.t 18)),{ d:=none,g:=none,k:=OpK.store 1 (.t 4) (.t 106) },{ d:=none,g:=none,k:=OpK.store 1 (.t 5) (.t 107) },{ d:=none,g:=none,k:=OpK.store 1 (.t 6) (cI 0) }]) ACode.ret)))))],defs:=[(22902,0)],rnd:=none,ret:=false,res:=[ARes.cell 4 false 1,ARes.cell 5 false 1,ARes.cell 6 false 1] }]
def Zgl(m p q h D:Int)(l0 l1 l2 l3 l4:zI)(n5:Int)(l6 l7:zI)(n8 n9 n10 n11 n12 n13:Int)(l14:zI)(n15 n16:Int):Zaa:=[(22003,{ base:=0,blks:=[Blk.row 26 5 (Row.gen [AV.agg (Row.gen [AV.int .i64 m,AV.int .i64 p,AV.int .i64 q,AV.int .i64 h,AV.int .i64 D])])] }),(22005,{ base:=0,blks:=[Blk.row 27 1 (Row.gen [AV.nils])] }),vG 22006 (.int .i64 0),(22007,{ base:=0,blks:=[Blk.row 40 1 (Row.gen [.int .i64 0])] }),(22013,{ base:=0,blks:=[Blk.row 27 1 (Row.gen [.row 22075 0])] }),vK 22075 l6,(22902,{ base:=0,blks:=[Blk.dfr,Blk.lp { st:=RSt.busy,fn:=22,N:=108,env:=[vP 2 22003,vP 4 22005,vP 5 22006,vP 6 22007,vL 10 l2,vP 12 22013,vL 57 l3,(58,AV.fn 58 [AV.ptr 33003 0 0 0,AV.ptr 33004 0 0 0])],params:=[59],asg:=ACode.reg none [mV 13 59],body:=ACode.block 1 v15Q }] }),(33003,{ base:=0,blks:=[Blk.row 27 1 (Row.gen [.list (.ints .i64 l4)])] }),vG 33004 (.int .i64 4)]
abbrev Zlj(m p q h D:Int)(l0 l1 l2 l3 l4:zI)(n5:Int)(l6 l7:zI)(n8 n9 n10 n11 n12 n13:Int)(l14:zI)(n15 n16:Int):List AFrame×Zaa:=(Zj2 m p q h D l0 l1 l2 l3 l4 n5 l6 l7 n8 n9 n10 n11 n12 n13 l14 n15 n16,Zgl m p q h D l0 l1 l2 l3 l4 n5 l6 l7 n8 n9 n10 n11 n12 n13 l14 n15 n16)
def ZkR(m p q h D:Int)(l17:zI)(n18 n19:Int)(l20:zI):List AFrame:=[vF 58 31 [(0,AV.yld 22901 1),vP 1 33003,vP 2 33004,vI 4 n18] (vC Zy3 Zyz) [],{ fn:=22,N:=108,env:=[vP 2 22003,vP 4 22005,vP 5 22006,vP 6 22007,vP 17 22018,vP 18 22019,(82,AV.fn 58 [AV.ptr 33003 0 0 0,AV.ptr 33004 0 0 0])],todo:=[.inRF 22901 1,.inBlock 4, .code (.seq (.reg (some [(1,2)]) [oN 106 (.load false 1 (.t 17)),oN 107 (.load false 1 (.t 18)),{ d:=none,g:=none,k:=OpK.store 1 (.t 4) (.t 106) },{ d:=none,g:=none,k:=OpK.store 1 (.t 5) (.t 107) },{ d:=none,g:=none,k:=OpK.store 1 (.t 6) (cI 0) }]) ACode.ret)],defs:=[(22901,0),(22902,0)],rnd:=none,ret:=false,res:=[ARes.cell 4 false 1,ARes.cell 5 false 1,ARes.cell 6 false 1] }]
def ZhU(m p q h D:Int)(l17:zI)(n18 n19:Int)(l20:zI):Zaa:=[(22003,{ base:=0,blks:=[Blk.row 26 5 (Row.gen [AV.agg (Row.gen [AV.int .i64 m,AV.int .i64 p,AV.int .i64 q,AV.int .i64 h,AV.int .i64 D])])] }),(22005,{ base:=0,blks:=[Blk.row 27 1 (Row.gen [AV.nils])] }),vG 22006 (.int .i64 0),(22007,{ base:=0,blks:=[Blk.row 40 1 (Row.gen [.int .i64 0])] }),(22018,{ base:=0,blks:=[Blk.row 27 1 (Row.gen [.row 22103 0])] }),vG 22019 (.int .i64 n19),vK 22082 l17,vK 22103 l20,(22901,{ base:=0,blks:=[Blk.dfr,Blk.lp { st:=RSt.ready,fn:=22,N:=108,env:=[vP 2 22003,vP 4 22005,vP 5 22006,vP 6 22007,vP 17 22018,vP 18 22019,(82,AV.fn 58 [AV.ptr 33003 0 0 0,AV.ptr 33004 0 0 0])],params:=[83],asg:=ACode.reg none [mV 19 83],body:=ACode.block 5 (.seq (.reg (some [(0,10),(1,10),(2,10),(3,10),(4,10),(5,10),(6,10),(7,10),(8,10),(8,11),(9,10),(9,11)]) [mV 85 19,oN 86 (.s2a 15 (.t 85)),oN 87 (.load true 15 (.t 86)),oN 88 (.faddr 3 (.t 2)),oN 89 (.load false 1 (.t 88)),oN 90 (.ncall true 0 54 [.t 87,.t 89]),mV 84 90,oN 91 (.ext 0 (.t 84)),oN 92 (.ext 1 (.t 84)),oN 93 (.ext 2 (.t 84)),oN 20 (.alloc 22021 76 (AV.agg (.ints .i64 [0,0,0,0,0,0,0,0,0,0,0,0,0,0,0]))),{ d:=none,g:=none,k:=OpK.store 15 (.t 20) (.t 91) },mV 21 92,mV 22 93]) (.gh [.keep [2,4,5,6,17,18,20,21,22]] (.seq (.seq (.reg none [mV 94 22,oN 95 (.not (.t 94))]) (.cond (.t 95) (.seq (.reg none [{ d:=none,g:=none,k:=OpK.store 1 (.t 4) (.c AV.nils) },{ d:=none,g:=none,k:=OpK.store 1 (.t 5) (cI 0) },{ d:=none,g:=none,k:=OpK.store 1 (.t 6) (cI 27) }]) ACode.ret) ACode.skip)) (.seq (.reg (some []) [oN 96 (.load false 1 (.t 17)),oN 97 (.faddr 3 (.t 2)),oN 98 (.load false 1 (.t 97)),oN 99 (.bin Go.BinOp.mul (cI 2) (.t 98)),oN 100 (.bin Go.BinOp.sub (cI 15) (.t 99)),oN 101 (.asl 15 (.t 20) none (some (.t 100))),oN 102 (.append 22103 3 1 (.t 96) (.t 101)),{ d:=none,g:=none,k:=OpK.store 1 (.t 17) (.t 102) }]) (.gh [.keep [2,4,5,6,17,18,21]] (.reg none [oN 103 (.load false 1 (.t 18)),mV 104 21,oN 105 (.bin Go.BinOp.add (.t 103) (.t 104)),{ d:=none,g:=none,k:=OpK.store 1 (.t 18) (.t 105) }])))))) }] }),(22902,{ base:=0,blks:=[Blk.dfr] }),(33003,{ base:=0,blks:=[Blk.row 27 1 (Row.gen [.row 22082 0])] }),vG 33004 (.int .i64 15)]
abbrev Zlx(m p q h D:Int)(l17:zI)(n18 n19:Int)(l20:zI):List AFrame×Zaa:=(ZkR m p q h D l17 n18 n19 l20,ZhU m p q h D l17 n18 n19 l20)
def ZwB(A:Ar)(K:KT)(F:FT)(m p q h D:Int)(l:zI):Prop:=let u1:=A.mul (A.mul D 15) 4;let u0:=A.mul 2 (A.add u1 m);bB (A.not (A.eq (lkE m p q h D) 0)) (F (AV.tup [AV.nils,AV.int .i64 0,AV.int .i64 (lkE m p q h D)]) none) (rB [decide (List.length [Zae (A.eq (A.int (A.len l)) u0) 10,ZaF l (-7) 7]≤1000000),List.all [AV.int .i64 (Zae (A.eq (A.int (A.len l)) u0) 10),AV.int .i64 (ZaF l (-7) 7)] fun x=>AV.bx x&&Nat.beq (Zad A x) 1,decide (List.length l≤1000000),A.inR .i64 u0,A.inR .i64 (A.add u1 m),A.inR .i64 u1,A.inR .i64 (A.mul D 15)] (bB (A.not (A.eq (Zaj [Zae (A.eq (A.int (A.len l)) u0) 10,ZaF l (-7) 7]) 0)) (F (AV.tup [AV.nils,AV.int .i64 0,AV.int .i64 (Zaj [Zae (A.eq (A.int (A.len l)) u0) 10,ZaF l (-7) 7])]) none) (rB [decide (okI m p q l=true)] (rB [!A.lt 4 1] (K (Zmj m p q h D (blI m p q l) (blI m p q l) (blI m p q l) (blI m p q l) (blI m p q l) 0 []))))))
theorem ZNe{A:Ar}{K:KT}{F:FT}{M:MT}{m p q h D:Int}{l:zI} :Zah A tab Ko 22 K F M (.run 19 (.tf (.run 8 (.fn)) (.run 35 (.tf (.run 8 (.fn)) (.run 38 (.fy (.run 18 (.hd)))))))) (ZQG m p q h D l) []=ZwB A K F m p q h D l:=by kernel_rfl
def ZgG(A:Ar)(K:KT)(F:FT)(m p q h D:Int)(l0 l1 l2 l3 l4:zI)(n5:Int)(l6:zI):Prop:=let u6:=A.nat n5;let u0:=A.min 4 (A.int (A.len (A.sub3 l4 u6 (A.len l4-A.nat n5))));let u1:=A.add n5 u0;let u2:=A.sub3 l4 u6 (A.nat u1-A.nat n5);let u3:=A.quo (A.int (A.len l6)) D;let u4:=A.len l4;let u5:=A.nat u1;bB (A.lt n5 (A.int u4)) (rB [Zac (Zac (A.le 0 n5) (A.le 0 u1)) (Zac (Zac (Nat.ble u6 u5) (Nat.ble u5 u4)) (Zac (A.le 0 u1) (Zac (Nat.ble u5 u5) (Nat.ble u5 u4)))),A.inR .i64 u1,A.inR .i64 u1,Zac (Zac (A.le 0 n5) true) (Zac (Zac (Nat.ble u6 u4) (Nat.ble u4 u4)) true)] (K (Zlj m p q h D l0 l1 l2 l3 l4 n5 l6 u2 (A.int (A.len u2)) u0 u0 u1 u0 u1 u2 0 0))) (rB [decide (rcB l6 u3=true),Zac (A.not (A.eq D 0)) (A.inR .i64 u3)] (rB [!A.lt 15 1] (K (Zlx m p q h D (tS l6 (Int.toNat u3)) 0 0 []))))
theorem Zmr{A:Ar}{K:KT}{F:FT}{M:MT}{m p q h D:Int}{l0 l1 l2 l3 l4:zI}{n5:Int}{l6:zI} :Zah A tab Ko 22 K F M (.run 9 (.tf (.run 38 (.hd)) (.run 31 (.fy (.run 19 (.hd)))))) (ZfL m p q h D l0 l1 l2 l3 l4 n5 l6) (ZeR m p q h D l0 l1 l2 l3 l4 n5 l6)=ZgG A K F m p q h D l0 l1 l2 l3 l4 n5 l6:=by kernel_rfl
def ZgF(A:Ar)(K:KT)(F:FT)(m p q h D:Int)(l0 l1 l2 l3 l4:zI)(n5:Int)(l6 l7:zI)(n8 n9 n10 n11 n12 n13:Int)(l14:zI)(n15 n16:Int):Prop:=bB (A.lt n16 n8) (rB [A.inR .i64 (A.add n16 1),Zac (Zac (A.le 0 1) (Nat.blt (A.nat 1) 64)) (A.inR .i64 (A.shl n15 1)),Zac (Zac (A.le 0 n16) (Nat.blt (A.nat n16) (A.len l7))) true] (K (Zlj m p q h D l0 l1 l2 l3 l4 n5 l6 l7 n8 n9 n10 n11 n12 n13 l14 (A.bits .or .i64 (A.shl n15 1) (A.nth l7 (A.nat n16))) (A.add n16 1)))) (rB [Nat.ble (A.len l6+A.len [n15]) 4294967296,List.all [AV.int .i64 n15] fun x=>AV.bx x&&Nat.beq (Zad A x) 1] (rB [!A.not true] (rB [A.inR .i64 (A.add n5 4)] (K (Zmj m p q h D l0 l1 l2 l3 l4 (A.add n5 4) (A.app l6 [n15]))))))
theorem Znz{A:Ar}{K:KT}{F:FT}{M:MT}{m p q h D:Int}{l0 l1 l2 l3 l4:zI}{n5:Int}{l6 l7:zI}{n8 n9 n10 n11 n12 n13:Int}{l14:zI}{n15 n16:Int} :Zah A tab Ko 22 K F M (.run 6 (.tf (.run 23 (.hd)) (.run 13 (.fy (.run 10 (.hd)))))) (Zj2 m p q h D l0 l1 l2 l3 l4 n5 l6 l7 n8 n9 n10 n11 n12 n13 l14 n15 n16) (Zgl m p q h D l0 l1 l2 l3 l4 n5 l6 l7 n8 n9 n10 n11 n12 n13 l14 n15 n16)=ZgF A K F m p q h D l0 l1 l2 l3 l4 n5 l6 l7 n8 n9 n10 n11 n12 n13 l14 n15 n16:=by kernel_rfl
def ZeN(A:Ar)(K:KT)(F:FT)(m p q h D:Int)(l17:zI)(n18 n19:Int)(l20:zI):Prop:=let u6:=A.nat n18;let u8:=A.len l17-A.nat n18;let u0:=A.add n18 (A.min 15 (A.int (A.len (A.sub3 l17 u6 u8))));let u1:=A.sub3 l17 u6 15;let u2:=A.sub 15 (A.mul 2 h);let u3:=A.len l17;let u4:=A.nat u0;let u5:=A.sub3 (deV h u1) 0 (A.nat u2-0);let u7:=A.add n19 (deN h u1);let u9:=A.len (deV h u1);bB (A.lt n18 (A.int u3)) (rB [Nat.beq u9 15,Nat.blt 0 (A.len [0,0,0,0,0,0,0,0,0,0,0,0,0,0,0]),decide (okw u1=true∧hfB h=true),Zac (Nat.ble (A.nat n18+15) u3) true,Nat.ble 15 (A.nat u0-A.nat n18),Zac (Zac (A.le 0 n18) (A.le 0 u0)) (Zac (Zac (Nat.ble u6 u4) (Nat.ble u4 u3)) (Zac (A.le 0 u0) (Zac (Nat.ble u4 u4) (Nat.ble u4 u3)))),A.inR .i64 u0,A.inR .i64 u0,Nat.ble (A.nat n18+u8) u3,Zac (Zac (A.le 0 n18) true) (Zac (Zac (Nat.ble u6 u3) (Nat.ble u3 u3)) true)] (bB (A.not (Option.isSome (deO h u1))) (rB [A.not false] (F (AV.tup [AV.nils,AV.int .i64 0,AV.int .i64 27]) none)) (rB [A.inR .i64 u7,Zac (Zac (Zac (Nat.ble (0+(A.nat u2-0)) u9) true) true) (Nat.ble (A.len l20+A.len u5) 4294967296),Zac (A.le 0 u2) (Zac (Nat.ble 0 (A.nat u2)) (Nat.ble (A.nat u2) 15)),A.inR .i64 u2,A.inR .i64 (A.mul 2 h)] (rB [!A.not true] (rB [A.inR .i64 (A.add n18 15)] (K (Zlx m p q h D l17 (A.add n18 15) u7 (A.app l20 u5)))))))) (F (AV.tup [AV.row 0 0,AV.int .i64 n19,AV.int .i64 0]) (some { e:=3,sz:=1,r:=.ints .i64 l20 }))
theorem Zgm{A:Ar}{K:KT}{F:FT}{M:MT}{m p q h D:Int}{l17:zI}{n18 n19:Int}{l20:zI} :Zah A tab Ko 22 K F M (.run 9 (.tf (.run 33 (.tf (.run 10 (.ty (.run 6 (.fn)))) (.run 15 (.fy (.run 10 (.hd)))))) (.run 10 (.fn)))) (ZkR m p q h D l17 n18 n19 l20) (ZhU m p q h D l17 n18 n19 l20)=ZeN A K F m p q h D l17 n18 n19 l20:=by kernel_rfl
end Go.Proofs.YtjhldefnjghcdaaGreat
namespace Go.Proofs.YtjhldefnjghcdaaGreat
def Zqg(j:Nat)(w:Nat→Nat):Nat:=dt w (fun i=>Zbt (j*(14-i))) 15
theorem Zh4(j:Nat):El (fun i=>Zbt (j*(14-i))):=fun _=>ZbV _
def wfn(w:zI)(i:Nat):Nat:=(w.getD i 0).toNat
theorem Zdx{w:zI}(h:ZaF w 0 15=0):El (wfn w):=fun i=>by
 have:=of_decide_eq_true (Zfy h i)
 unfold wfn;omega
theorem ZuN(j:Nat){w:zI}(hl:w.length=15):∀n,n≤15→dt (wfn w) (fun i=>Zbt (j*(14-i))) n ^^^ ZuF j n ((wdN w).drop n)=ZuF j 0 (wdN w)
 |0,_=>by rw[dt,List.drop_zero,Nat.zero_xor]
 |n+1,hn=>by
  rw[←ZuN j hl n (by omega),ZwV (show n<w.length by omega),ZuF,dt,Nat.xor_assoc];rfl
theorem ZiV{w:zI}(hl:w.length=15)(j:Nat):syI w j=((Zqg j (wfn w):Nat):Int):=by
 have h:=ZuN j hl 15 (Nat.le_refl _)
 rw[List.drop_of_length_le (by rw[ZwP];omega),ZuF,Nat.xor_zero]at h
 unfold syI Zqg;rw[h]
theorem Zxd{h:Int}{w:zI}(hl:w.length=15):isW h w=true↔∀j,j<2*h.toNat→Zqg (j+1) (wfn w)=0:=by
 unfold isW syL
 rw[List.all_eq_true]
 constructor
 ·intro a j hj
  have:=a (syI w (j+1)) (List.mem_map.2 ⟨j,List.mem_range.2 hj,rfl⟩)
  rw[decide_eq_true_eq,ZiV hl]at this
  omega
 ·intro a x hx
  obtain⟨j,hj,rfl⟩:=List.mem_map.1 hx
  rw[decide_eq_true_eq,ZiV hl,a j (List.mem_range.1 hj)];rfl
def upd(w:Nat→Nat)(p v:Nat):Nat→Nat:=fun i=>if i=p then v else w i
theorem Zwn{w g:Nat→Nat}{p v:Nat}(h0:w p=0)(hw:El w)(hg:El g)(hv:v<16):∀n,dt (upd w p v) g n=dt w g n ^^^ (if p<n then Zav v (g p)else 0)
 |0=>by simp[dt]
 |n+1=>by
  rw[dt,dt,Zwn h0 hw hg hv n]
  unfold upd
  by_cases hp:n=p
  ·subst hp
   rw[if_pos rfl,if_neg (Nat.lt_irrefl _),if_pos (by omega),h0,ZdB (hg n),Nat.xor_zero]
  ·rw[if_neg hp]
   by_cases hlt:p<n
   ·rw[if_pos hlt,if_pos (by omega),Nat.xor_assoc,Nat.xor_assoc,Nat.xor_comm (Zav v (g p))]
   ·rw[if_neg hlt,if_neg (by omega),Nat.xor_zero,Nat.xor_zero]
theorem ZsK{a b g:Nat→Nat}(ha:El a)(hb:El b)(hg:El g):∀n,dt (fun i=>a i ^^^ b i) g n=dt a g n ^^^ dt b g n
 |0=>by simp[dt]
 |n+1=>by rw[dt,dt,dt,ZsK ha hb hg n,ZcB (ha n) (hb n) (hg n),ZoF]
theorem Zpl:∀(g:Nat→Nat),El g→∀(qs:List Nat),(∀p∈qs,p<15)→qs.Nodup→∀(b:Nat→Nat),El b→(∀i,i<15→i∉qs→b i=0)→dt b g 15=dt (fun k=>b (qs.getD k 0)) (fun k=>g (qs.getD k 0)) qs.length:=by
 intro g hg qs
 induction qs with
 |nil=>
  intro _ _ b hb hz
  rw[List.length_nil,dt]
  exact ZoB hg 15 (fun j hj=>hz j hj (by simp))
 |cons p qs ih=>
  intro h1 h2 b hb hz
  have hpq:p∉qs:=(List.nodup_cons.1 h2).1
  have hbe:El (upd b p 0):=fun i=>by unfold upd;split;decide;exact hb i
  have e:dt b g 15=dt (upd b p 0) g 15 ^^^ Zav (b p) (g p):=by
   have u:=Zwn (w:=upd b p 0) (g:=g) (p:=p) (v:=b p) (by simp[upd]) hbe hg (hb p) 15
   rw[if_pos (h1 p List.mem_cons_self)]at u
   rw[←u]
   refine ZaL _ (fun j _=>?_) (fun _ _=>rfl)
   unfold upd
   by_cases hj:j=p
   ·subst hj;rw[if_pos rfl]
   ·rw[if_neg hj,if_neg hj]
  rw[e,ih (fun q hq=>h1 q (List.mem_cons_of_mem _ hq)) (List.nodup_cons.1 h2).2 (upd b p 0) hbe (fun i hi hn=>by
   unfold upd
   by_cases hip:i=p
   ·rw[if_pos hip]
   ·rw[if_neg hip];exact hz i hi (by simp[hip,hn]))]
  have e2:∀n,dt (fun k=>b ((p::qs).getD k 0)) (fun k=>g ((p::qs).getD k 0)) (n+1)=Zav (b p) (g p) ^^^ dt (fun k=>b (qs.getD k 0)) (fun k=>g (qs.getD k 0)) n:=by
   intro n
   induction n with
   |zero=>rw[dt,dt,dt,Nat.zero_xor,Nat.xor_zero];rfl
   |succ n ih2=>rw[dt,ih2,dt,Nat.xor_assoc];rfl
  rw[List.length_cons,e2,Nat.xor_comm]
  congr 1
  refine ZaL _ (fun j hj=>?_) (fun _ _=>rfl)
  unfold upd
  rw[if_neg]
  intro hq
  exact hpq (hq▸ZbC hj)
theorem ZuL{m:Nat}{c:Nat→Nat}(hc:El c)(ps:List Nat)(hp:∀p∈ps,p<15)(hd:ps.Nodup)(hl:ps.length≤m)(hz:∀i,i<15→i∉ps→c i=0)(hs:∀j,j<m→Zqg (j+1) c=0):∀i,i<15→c i=0:=by
 have hX:El (fun k=>Zbt (14-ps.getD k 0)):=fun _=>ZbV _
 have hC:El (fun k=>c (ps.getD k 0)):=fun _=>hc _
 have hv:=ZLa ps.length (fun k=>c (ps.getD k 0)) (fun k=>Zbt (14-ps.getD k 0)) 1 hC hX (fun _ _=>ZtW _) (fun i j hi hj he=>by
  have a:=hp _ (ZbC (d:=0) hi)
  have b:=hp _ (ZbC (d:=0) hj)
  have:=Zs4 (by omega) (by omega) he
  have he2:ps.getD i 0=ps.getD j 0:=by omega
  rw[List.getD_eq_getElem?_getD,List.getElem?_eq_getElem hi,List.getD_eq_getElem?_getD,List.getElem?_eq_getElem hj]at he2
  exact(List.getElem_inj hd).1 he2) (fun j hj=>by
  have s:=hs j (by omega)
  unfold Zqg at s
  rw[Zpl _ (Zh4 (j+1)) ps hp hd c hc hz]at s
  refine Eq.trans ?_ s
  exact ZaL _ (fun _ _=>rfl) (fun k _=>by rw[Nat.add_comm 1 j,Zsj]))
 intro i hi
 by_cases hm:i∈ps
 ·obtain⟨k,hk,rfl⟩:=List.mem_iff_getElem.1 hm
  have:=hv k hk
  simpa[List.getD_eq_getElem?_getD,hk]using this
 ·exact hz i hi hm
end Go.Proofs.YtjhldefnjghcdaaGreat
