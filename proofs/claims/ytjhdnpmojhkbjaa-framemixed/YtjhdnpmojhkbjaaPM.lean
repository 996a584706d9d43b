/- Paths of functions, printed by the explorer (Gx). No condition. -/
import Derived.Test.YtjhdnpmojhkbjaaD3
import Derived.KernelRfl
namespace Go.Proofs.Ytjhdnpmojhkbjaa
set_option maxRecDepth 100000
set_option linter.unusedVariables false
def ZDy(n:Int)(c:Int)(ps:List AV):AFrame:={ fn:=98,N:=51,env:=[(0,AV.agg (Row.gen [AV.int .i64 n,AV.int .i64 c])),(1,AV.list (Row.big (Sh.agg [Sh.int .i64,Sh.int .i64,Sh.ints .i64]) ps))],todo:=[.code a98.code],defs:=[],rnd:=none,ret:=false,res:=[ARes.tmp 4] }
def ZOu(n:Int)(c:Int)(ps:List AV):List AFrame:=[(ZDy n c ps)]
theorem ZyA(n:Int)(c:Int)(ps:List AV):Zak tab 98 [AV.agg (Row.gen [AV.int .i64 n,AV.int .i64 c]),AV.list (Row.big (Sh.agg [Sh.int .i64,Sh.int .i64,Sh.ints .i64]) ps)]=some (ZDy n c ps):=rfl
def Zcs(n c:Int)(ps:List AV)(n0 n1 n2:Int):List AFrame:=[{ fn:=98,N:=51,env:=[(1,AV.list (Row.big (Sh.agg [Sh.int .i64,Sh.int .i64,Sh.ints .i64]) ps)),(2,AV.ptr 98003 0 0 0),(5,AV.int .i64 n1),(10,AV.list (Row.big (Sh.agg [Sh.int .i64,Sh.int .i64,Sh.ints .i64]) ps)),(11,AV.int .i64 n0),(12,AV.int .i64 n2)],todo:=.code (ACode.gh [] ZG3)::ZMC,defs:=[],rnd:=none,ret:=false,res:=[ARes.tmp 4] }]
def ZbM(n:Int)(c:Int)(ps:List AV)(n0:Int)(n1:Int)(n2:Int):Zaa:=[(98003,{ base:=0,blks:=[Blk.row 132 2 (Row.gen [AV.agg (Row.gen [AV.int .i64 n,AV.int .i64 c])])] })]
abbrev Zjv(n:Int)(c:Int)(ps:List AV)(n0:Int)(n1:Int)(n2:Int):List AFrame×Zaa:=(Zcs n c ps n0 n1 n2,ZbM n c ps n0 n1 n2)
theorem ZND(A:Ar)(n c:Int)(ps:List AV):Zad A tab BD3 19 [] (ZOu n c ps) []=
 some (tr [6] [],
  Zjv (n) (c) (ps) (A.int (A.lenA ps)) (0) (0)):=by kernel_rfl
theorem ZLV(A:Ar)(n c:Int)(ps:List AV)(n0 n1 n2:Int):Zad A tab BD3 33 [true] (Zcs n c ps n0 n1 n2) (ZbM n c ps n0 n1 n2)=
 some (tr [1,1,0,7,0,1] [A.inR .i64 (A.add n2 1),A.inR .i64 (A.add n1 (A.add 3 (A.int (A.len ((A.nthA ps (A.nat n2)).cellAt 2).toIs)))),A.inR .i64 (A.add 3 (A.int (A.len ((A.nthA ps (A.nat n2)).cellAt 2).toIs))),Zab (Zab (A.le 0 n2) (Nat.blt (A.nat n2) (A.lenA ps))) true,A.lt n2 n0],
  Zjv (n) (c) (ps) (n0) (A.add n1 (A.add 3 (A.int (A.len ((A.nthA ps (A.nat n2)).cellAt 2).toIs)))) (A.add n2 1)):=by kernel_rfl
theorem ZJ5(A:Ar)(n c:Int)(ps:List AV)(n0 n1 n2:Int):Zaz A tab BD3 30 [false,true] 98 (Zcs n c ps n0 n1 n2) (ZbM n c ps n0 n1 n2)=
 some (tr [3,3,4,1] [A.eq (A.rem n1 n) 0,A.not (A.eq n 0),!A.lt n2 n0],
  AV.list (Row.big (.agg [.int .i64, .int .i64, .ints .i64]) ps),none):=by kernel_rfl
theorem ZNd(A:Ar)(n c:Int)(ps:List AV)(n0 n1 n2:Int):Zaz A tab BD3 53 [false,false,true] 98 (Zcs n c ps n0 n1 n2) (ZbM n c ps n0 n1 n2)=
 some (tr [2,0,1,0,1,2,4,3,4,3,4,1] [Nat.ble (A.lenA ps+A.lenA [AV.agg (Row.gen [.int .i64 255, .int .i64 0, .list (.ints .i64 (A.rep (A.nat (A.sub (A.add (A.sub n (A.rem n1 n)) n) 3)) 0))])]) 4294967296,List.all [AV.agg (Row.gen [.int .i64 255, .int .i64 0, .list (.ints .i64 (A.rep (A.nat (A.sub (A.add (A.sub n (A.rem n1 n)) n) 3)) 0))])] fun x=>AV.bx x&&Nat.beq (Zac A x) 3,Zab (A.le 0 (A.sub (A.add (A.sub n (A.rem n1 n)) n) 3)) (A.le (A.sub (A.add (A.sub n (A.rem n1 n)) n) 3) 4294967296),A.inR .i64 (A.sub (A.add (A.sub n (A.rem n1 n)) n) 3),decide (0<List.length ps∧List.length ps≤1000000),A.inR .i64 (A.add (A.sub n (A.rem n1 n)) n),A.lt (A.sub n (A.rem n1 n)) 3,A.inR .i64 (A.sub n (A.rem n1 n)),!A.eq (A.rem n1 n) 0,A.not (A.eq n 0),!A.lt n2 n0],
  AV.row 0 0,some { e:=57,sz:=3,r:=Row.big (.agg [.int .i64, .int .i64, .ints .i64]) (A.appA ps [AV.agg (Row.gen [.int .i64 255, .int .i64 0, .list (.ints .i64 (A.rep (A.nat (A.sub (A.add (A.sub n (A.rem n1 n)) n) 3)) 0))])]) }):=by kernel_rfl
theorem ZKP(A:Ar)(n c:Int)(ps:List AV)(n0 n1 n2:Int):Zaz A tab BD3 46 [false,false,false] 98 (Zcs n c ps n0 n1 n2) (ZbM n c ps n0 n1 n2)=
 some (tr [2,0,1,0,1,1,3,4,3,4,1] [Nat.ble (A.lenA ps+A.lenA [AV.agg (Row.gen [.int .i64 255, .int .i64 0, .list (.ints .i64 (A.rep (A.nat (A.sub (A.sub n (A.rem n1 n)) 3)) 0))])]) 4294967296,List.all [AV.agg (Row.gen [.int .i64 255, .int .i64 0, .list (.ints .i64 (A.rep (A.nat (A.sub (A.sub n (A.rem n1 n)) 3)) 0))])] fun x=>AV.bx x&&Nat.beq (Zac A x) 3,Zab (A.le 0 (A.sub (A.sub n (A.rem n1 n)) 3)) (A.le (A.sub (A.sub n (A.rem n1 n)) 3) 4294967296),A.inR .i64 (A.sub (A.sub n (A.rem n1 n)) 3),decide (0<List.length ps∧List.length ps≤1000000),!A.lt (A.sub n (A.rem n1 n)) 3,A.inR .i64 (A.sub n (A.rem n1 n)),!A.eq (A.rem n1 n) 0,A.not (A.eq n 0),!A.lt n2 n0],
  AV.row 0 0,some { e:=57,sz:=3,r:=Row.big (.agg [.int .i64, .int .i64, .ints .i64]) (A.appA ps [AV.agg (Row.gen [.int .i64 255, .int .i64 0, .list (.ints .i64 (A.rep (A.nat (A.sub (A.sub n (A.rem n1 n)) 3)) 0))])]) }):=by kernel_rfl
end Go.Proofs.Ytjhdnpmojhkbjaa
/- Contracts as a list. No condition. -/
namespace Go.Proofs.Ytjhdnpmojhkbjaa
def ZaF:List AV→Nat
 |[]=>0
 |p::ps=>(3+(kD p).length)+ZaF ps
def Zf7(k:Int):AV:=.agg (.gen [.int .i64 255, .int .i64 0, .list (.ints .i64 (List.replicate k.toNat 0))])
def Za1(n:Int)(ps:List AV):List AV:=
 if(ZaF ps:Int).tmod n=0 then ps
 else if n-(ZaF ps:Int).tmod n<3 then ps++[Zf7 (n-(ZaF ps:Int).tmod n+n-3)]
 else ps++[Zf7 (n-(ZaF ps:Int).tmod n-3)]
theorem Zfc:∀ {ps:List AV},(∀p∈ps,(kD p).length≤42)→ZaF ps≤45*ps.length
 |[],_=>by simp[ZaF]
 |p::ps,h=>by
  have:=Zfc (ps:=ps) (fun q hq=>h q (by simp[hq]))
  have:=h p (by simp)
  simp only[ZaF,List.length_cons]
  omega
theorem l98{C:Ctx}(hC:C.P=Try.prog)(n c:Int)(ps:List AV)(hlen:ps.length≤22)(hk:∀p∈ps,(kD p).length≤42)(Q:AV)(fr:Option Fresh)(hend:Ev C (Zcs n c ps ps.length (ZaF ps) ps.length) (ZbM n c ps ps.length (ZaF ps) ps.length) (ZdV 98 Q fr)):∀(d i s:Nat),i+d=ps.length→s+ZaF (ps.drop i)=ZaF ps→
 Ev C (Zcs n c ps ps.length s i) (ZbM n c ps ps.length s i) (ZdV 98 Q fr):=by
 have hsz:=Zfc hk
 intro d
 induction d with
 |zero=>
  intro i s hd hs
  rw[List.drop_of_length_le (by omega),ZaF]at hs
  have h1:i=ps.length:=by omega
  have h2:s=ZaF ps:=by omega
  rw[h1,h2];exact hend
 |succ d ih=>
  intro i s hd hs
  have hlt:i<ps.length:=by omega
  have e1:std.nthA ps (std.nat (i:Int))=ps[i]:=by simp[hlt]
  have g2:(ps[i].cellAt 2).toIs=kD ps[i]:=rfl
  have hk':=hk ps[i] (by simp)
  rw[List.drop_eq_getElem_cons hlt,ZaF]at hs
  have ih':=ih (i+1) (s+(3+(kD ps[i]).length)) (by omega) (by omega)
  refine go hC Zjn (ZLV std n c ps ps.length s i) ?_ ?_
  ·simp only[e1,g2];simp[hlt];omega
  ·simp only[e1,g2];simpa using ih'
theorem ZrE(n c:Int)(ps:List AV)(h:(3<n∧n≤1000)∧ZbW ps=true):ZaH Try.prog 98 [.agg (.gen [.int .i64 n, .int .i64 c]), .list (.big (.agg [.int .i64, .int .i64, .ints .i64]) ps)] (.list (.big (.agg [.int .i64, .int .i64, .ints .i64]) (Za1 n ps))) none:=by
 obtain⟨⟨hn0,hn⟩,hf⟩:=h
 obtain⟨hlen,hk⟩:=Zfp hf
 have hsz:=Zfc hk
 have hr0:=Int.tmod_nonneg n (show 0≤(ZaF ps:Int) by omega)
 have hr1:=Int.tmod_lt_of_pos (ZaF ps:Int) (show 0<n by omega)
 have main:∀(Q:AV) (fr:Option Fresh),(∀C:Ctx,C.P=Try.prog→Ev C (Zcs n c ps ps.length (ZaF ps) ps.length) (ZbM n c ps ps.length (ZaF ps) ps.length) (ZdV 98 Q fr))→ZaH Try.prog 98 [.agg (.gen [.int .i64 n, .int .i64 c]), .list (.big (.agg [.int .i64, .int .i64, .ints .i64]) ps)] Q fr:=fun Q fr hQ=>
  start (ZyA n c ps) fun C hC=>go hC Zjn (ZND std n c ps) (by simp) (l98 hC n c ps hlen hk Q fr (hQ C hC) ps.length 0 0 (by omega) (by simp))
 have hn1:n≠0:=by omega
 unfold Za1
 generalize hR:(ZaF ps:Int).tmod n=R at*
 by_cases h0:R=0
 ·rw[if_pos h0]
  exact main _ _ fun C hC=>fin hC Zjn (ZJ5 std n c ps _ _ _) (by simp[hR,h0,hn1];try omega) rfl rfl
 ·rw[if_neg h0]
  have hpos:0<ps.length:=by
   cases ps with
   |nil=>exact absurd (by rw[←hR];simp[ZaF]) h0
   |cons=>simp
  by_cases h3:n-R<3
  ·rw[if_pos h3]
   exact Zj2 (e:=57) (sz:=2) (main _ _ fun C hC=>fin hC Zjn (ZNd std n c ps _ _ _) (by simp[hR,h0,hn1,AV.bx,Zac,Row.len];omega) rfl (by simp[hR,Zf7])) rfl
  ·rw[if_neg h3]
   exact Zj2 (e:=57) (sz:=2) (main _ _ fun C hC=>fin hC Zjn (ZKP std n c ps _ _ _) (by simp[hR,h0,hn1,AV.bx,Zac,Row.len];omega) rfl (by simp[hR,Zf7])) rfl
def k98:Ctr:=⟨98,0,fun _ a=>match a with |[.agg (.gen [.int .i64 n, .int .i64 c]), .list (.big (.agg [.int .i64, .int .i64, .ints .i64]) ps)]=>some (decide ((3<n∧n≤1000)∧ZbW ps=true), .list (.big (.agg [.int .i64, .int .i64, .ints .i64]) (Za1 n ps)),none) |_=>none⟩
theorem ZC3:k98.OK Try.prog:=fun pa args r fr h=>by
 simp only[k98]at h
 split at h
 ·simp only[Option.some.injEq,Prod.mk.injEq,decide_eq_true_eq]at h
  obtain⟨h0,rfl,rfl⟩:=h
  exact ZrE _ _ _ h0
 ·cases h
def BD4:List Ctr:=[k98]++BD3
theorem ZbK:Zap Try.prog BD4:=⟨ZC3,Zjn⟩
end Go.Proofs.Ytjhdnpmojhkbjaa
/- Paths of functions, printed by the explorer (Gx). No condition. -/
namespace Go.Proofs.Ytjhdnpmojhkbjaa
set_option maxRecDepth 100000
set_option linter.unusedVariables false
def Zv2(n:Int)(c:Int)(ps:List AV):AFrame:={ fn:=104,N:=95,env:=[(0,AV.agg (Row.gen [AV.int .i64 n,AV.int .i64 c])),(1,AV.list (Row.big (Sh.agg [Sh.int .i64,Sh.int .i64,Sh.ints .i64]) ps))],todo:=[.code a104.code],defs:=[],rnd:=none,ret:=false,res:=[ARes.tmp 4,ARes.tmp 5] }
def ZKQ(n:Int)(c:Int)(ps:List AV):List AFrame:=[(Zv2 n c ps)]
theorem ZtG(n:Int)(c:Int)(ps:List AV):Zak tab 104 [AV.agg (Row.gen [AV.int .i64 n,AV.int .i64 c]),AV.list (Row.big (Sh.agg [Sh.int .i64,Sh.int .i64,Sh.ints .i64]) ps)]=some (Zv2 n c ps):=rfl
def Zbk(n c:Int)(ps:List AV)(n0 n1:Int):List AFrame:=[{ fn:=104,N:=95,env:=[(1,AV.list (Row.big (Sh.agg [Sh.int .i64,Sh.int .i64,Sh.ints .i64]) ps)),(2,AV.ptr 104003 0 0 0),(6,AV.nils),(7,AV.nils),(8,AV.row 104019 0),(9,AV.int .i64 n0),(10,AV.int .i64 n1)],todo:=.code (ACode.gh [] Zv3)::ZH5,defs:=[],rnd:=none,ret:=false,res:=[ARes.tmp 4,ARes.tmp 5] }]
def Za2(n:Int)(c:Int)(ps:List AV)(n0:Int)(n1:Int):Zaa:=[(104003,{ base:=0,blks:=[Blk.row 23 2 (Row.gen [AV.agg (Row.gen [AV.int .i64 n,AV.int .i64 c])])] }),(104019,{ base:=0,blks:=[Blk.row 57 3 (Row.big (Sh.agg [Sh.int .i64,Sh.int .i64,Sh.ints .i64]) ps)] })]
abbrev Zg2(n:Int)(c:Int)(ps:List AV)(n0:Int)(n1:Int):List AFrame×Zaa:=(Zbk n c ps n0 n1,Za2 n c ps n0 n1)
def ZfD(x2:List AV)(n3:Int):List AFrame:=[{ fn:=104,N:=95,env:=[(6,AV.nils),(7,AV.nils),(8,AV.row 104054 0),(12,AV.int .i64 n3)],todo:=.code (ACode.gh [] Zlg)::ZnU,defs:=[],rnd:=none,ret:=false,res:=[ARes.tmp 4,ARes.tmp 5] }]
def Zeu(x2:List AV)(n3:Int):Zaa:=[(104054,{ base:=0,blks:=[Blk.row 57 3 (Row.big (Sh.agg [Sh.int .i64,Sh.int .i64,Sh.ints .i64]) x2)] })]
abbrev ZgV(x2:List AV)(n3:Int):List AFrame×Zaa:=(ZfD x2 n3,Zeu x2 n3)
def Zd0(ps:List AV)(n4:Int):List AFrame:=[{ fn:=104,N:=95,env:=[(6,AV.nils),(7,AV.nils),(8,AV.row 104019 0),(12,AV.int .i64 n4)],todo:=.code (ACode.gh [] Zlg)::ZnU,defs:=[],rnd:=none,ret:=false,res:=[ARes.tmp 4,ARes.tmp 5] }]
def Zdl(ps:List AV)(n4:Int):Zaa:=[(104019,{ base:=0,blks:=[Blk.row 57 3 (Row.big (Sh.agg [Sh.int .i64,Sh.int .i64,Sh.ints .i64]) ps)] })]
abbrev Zlf(ps:List AV)(n4:Int):List AFrame×Zaa:=(Zd0 ps n4,Zdl ps n4)
def ZiV(x2:List AV)(n3:Int)(l5:List Int):List AFrame:=[{ fn:=104,N:=95,env:=[(6,AV.nils),(7,AV.nils),(8,AV.row 104054 0),(12,AV.int .i64 n3),(14,AV.row 104075 0),(15,AV.int .i64 0)],todo:=.code (ACode.gh [] ZlC)::ZnN,defs:=[],rnd:=none,ret:=false,res:=[ARes.tmp 4,ARes.tmp 5] }]
def Zht(x2:List AV)(n3:Int)(l5:List Int):Zaa:=[(104054,{ base:=0,blks:=[Blk.row 57 3 (Row.big (Sh.agg [Sh.int .i64,Sh.int .i64,Sh.ints .i64]) x2)] }),(104075,{ base:=0,blks:=[Blk.row 3 1 (.ints .i64 l5)] })]
abbrev Zlr(x2:List AV)(n3:Int)(l5:List Int):List AFrame×Zaa:=(ZiV x2 n3 l5,Zht x2 n3 l5)
def ZhT(ps:List AV)(n4:Int)(l6:List Int):List AFrame:=[{ fn:=104,N:=95,env:=[(6,AV.nils),(7,AV.nils),(8,AV.row 104019 0),(12,AV.int .i64 n4),(14,AV.row 104075 0),(15,AV.int .i64 0)],todo:=.code (ACode.gh [] ZlC)::ZnN,defs:=[],rnd:=none,ret:=false,res:=[ARes.tmp 4,ARes.tmp 5] }]
def Zg3(ps:List AV)(n4:Int)(l6:List Int):Zaa:=[(104019,{ base:=0,blks:=[Blk.row 57 3 (Row.big (Sh.agg [Sh.int .i64,Sh.int .i64,Sh.ints .i64]) ps)] }),(104075,{ base:=0,blks:=[Blk.row 3 1 (.ints .i64 l6)] })]
abbrev Zmb(ps:List AV)(n4:Int)(l6:List Int):List AFrame×Zaa:=(ZhT ps n4 l6,Zg3 ps n4 l6)
def Zd6(x2:List AV)(n7:Int)(l8:List Int)(x9:List AV)(n10:Int)(l11:List Int):List AFrame:=[{ fn:=104,N:=95,env:=[(6,AV.row 104088 0),(7,AV.row 104093 0),(8,AV.row 104054 0),(12,AV.int .i64 n10),(14,AV.row 104075 0),(15,AV.int .i64 n7)],todo:=.code (ACode.gh [] ZlC)::ZnN,defs:=[],rnd:=none,ret:=false,res:=[ARes.tmp 4,ARes.tmp 5] }]
def Zdj(x2:List AV)(n7:Int)(l8:List Int)(x9:List AV)(n10:Int)(l11:List Int):Zaa:=[(104054,{ base:=0,blks:=[Blk.row 57 3 (Row.big (Sh.agg [Sh.int .i64,Sh.int .i64,Sh.ints .i64]) x2)] }),(104075,{ base:=0,blks:=[Blk.row 3 1 (.ints .i64 l11)] }),(104088,{ base:=0,blks:=[Blk.row 3 1 (.ints .i64 l8)] }),(104093,{ base:=0,blks:=[Blk.row 4 1 (Row.big Sh.bool x9)] })]
abbrev Zeh(x2:List AV)(n7:Int)(l8:List Int)(x9:List AV)(n10:Int)(l11:List Int):List AFrame×Zaa:=(Zd6 x2 n7 l8 x9 n10 l11,Zdj x2 n7 l8 x9 n10 l11)
def ZdW(ps:List AV)(n12:Int)(l13:List Int)(x14:List AV)(n15:Int)(l16:List Int):List AFrame:=[{ fn:=104,N:=95,env:=[(6,AV.row 104088 0),(7,AV.row 104093 0),(8,AV.row 104019 0),(12,AV.int .i64 n15),(14,AV.row 104075 0),(15,AV.int .i64 n12)],todo:=.code (ACode.gh [] ZlC)::ZnN,defs:=[],rnd:=none,ret:=false,res:=[ARes.tmp 4,ARes.tmp 5] }]
def Zdh(ps:List AV)(n12:Int)(l13:List Int)(x14:List AV)(n15:Int)(l16:List Int):Zaa:=[(104019,{ base:=0,blks:=[Blk.row 57 3 (Row.big (Sh.agg [Sh.int .i64,Sh.int .i64,Sh.ints .i64]) ps)] }),(104075,{ base:=0,blks:=[Blk.row 3 1 (.ints .i64 l16)] }),(104088,{ base:=0,blks:=[Blk.row 3 1 (.ints .i64 l13)] }),(104093,{ base:=0,blks:=[Blk.row 4 1 (Row.big Sh.bool x14)] })]
abbrev Zes(ps:List AV)(n12:Int)(l13:List Int)(x14:List AV)(n15:Int)(l16:List Int):List AFrame×Zaa:=(ZdW ps n12 l13 x14 n15 l16,Zdh ps n12 l13 x14 n15 l16)
def ZcW(x2:List AV)(l8:List Int)(x9:List AV)(n17:Int):List AFrame:=[{ fn:=104,N:=95,env:=[(6,AV.row 104088 0),(7,AV.row 104093 0),(8,AV.row 104054 0),(12,AV.int .i64 n17)],todo:=.code (ACode.gh [] Zlg)::ZnU,defs:=[],rnd:=none,ret:=false,res:=[ARes.tmp 4,ARes.tmp 5] }]
def Zcr(x2:List AV)(l8:List Int)(x9:List AV)(n17:Int):Zaa:=[(104054,{ base:=0,blks:=[Blk.row 57 3 (Row.big (Sh.agg [Sh.int .i64,Sh.int .i64,Sh.ints .i64]) x2)] }),(104088,{ base:=0,blks:=[Blk.row 3 1 (.ints .i64 l8)] }),(104093,{ base:=0,blks:=[Blk.row 4 1 (Row.big Sh.bool x9)] })]
abbrev Zk8(x2:List AV)(l8:List Int)(x9:List AV)(n17:Int):List AFrame×Zaa:=(ZcW x2 l8 x9 n17,Zcr x2 l8 x9 n17)
def ZcY(ps:List AV)(l13:List Int)(x14:List AV)(n18:Int):List AFrame:=[{ fn:=104,N:=95,env:=[(6,AV.row 104088 0),(7,AV.row 104093 0),(8,AV.row 104019 0),(12,AV.int .i64 n18)],todo:=.code (ACode.gh [] Zlg)::ZnU,defs:=[],rnd:=none,ret:=false,res:=[ARes.tmp 4,ARes.tmp 5] }]
def Zcg(ps:List AV)(l13:List Int)(x14:List AV)(n18:Int):Zaa:=[(104019,{ base:=0,blks:=[Blk.row 57 3 (Row.big (Sh.agg [Sh.int .i64,Sh.int .i64,Sh.ints .i64]) ps)] }),(104088,{ base:=0,blks:=[Blk.row 3 1 (.ints .i64 l13)] }),(104093,{ base:=0,blks:=[Blk.row 4 1 (Row.big Sh.bool x14)] })]
abbrev ZlP(ps:List AV)(l13:List Int)(x14:List AV)(n18:Int):List AFrame×Zaa:=(ZcY ps l13 x14 n18,Zcg ps l13 x14 n18)
theorem ZCA(A:Ar)(n c:Int)(ps:List AV):Zad A tab BD4 33 [] (ZKQ n c ps) []=
 some (tr [3,1,5] [Nat.ble (0+A.lenA ps) 4294967296,List.all [] fun x=>AV.bx x&&Nat.beq (Zac A x) 3],
  Zg2 (n) (c) (ps) (0) (0)):=by kernel_rfl
theorem ZEY(A:Ar)(n c:Int)(ps:List AV)(n0 n1:Int):Zad A tab BD4 33 [true] (Zbk n c ps n0 n1) (Za2 n c ps n0 n1)=
 some (tr [1,2,3,2,1,4] [A.inR .i64 (A.add n1 1),A.inR .i64 (A.add (A.add n0 3) (A.int (A.len ((A.nthA ps (A.nat n1)).cellAt 2).toIs))),Zab (Zab (A.le 0 n1) (Nat.blt (A.nat n1) (A.lenA ps))) true,A.inR .i64 (A.add n0 3),A.lt n1 (A.int (A.lenA ps))],
  Zg2 (n) (c) (ps) (A.add (A.add n0 3) (A.int (A.len ((A.nthA ps (A.nat n1)).cellAt 2).toIs))) (A.add n1 1)):=by kernel_rfl
theorem ZDi(A:Ar)(n c:Int)(ps:List AV)(n0 n1:Int):Zad A tab BD4 59 [false,true,true] (Zbk n c ps n0 n1) (Za2 n c ps n0 n1)=
 some (tr [2,0,1,0,3,3,2,3,2,1,4] [Nat.ble (A.lenA ps+A.lenA [AV.agg (Row.gen [.int .i64 255, .int .i64 0, .list (.ints .i64 (A.rep (A.nat (A.sub (A.add (ZaL (A.neg n0) n) n) 3)) 0))])]) 4294967296,List.all [AV.agg (Row.gen [.int .i64 255, .int .i64 0, .list (.ints .i64 (A.rep (A.nat (A.sub (A.add (ZaL (A.neg n0) n) n) 3)) 0))])] fun x=>AV.bx x&&Nat.beq (Zac A x) 3,Zab (A.le 0 (A.sub (A.add (ZaL (A.neg n0) n) n) 3)) (A.le (A.sub (A.add (ZaL (A.neg n0) n) n) 3) 4294967296),A.inR .i64 (A.sub (A.add (ZaL (A.neg n0) n) n) 3),A.inR .i64 (A.add (ZaL (A.neg n0) n) n),A.lt (ZaL (A.neg n0) n) 3,A.lt 0 (ZaL (A.neg n0) n),decide (1≤n∧n≤1000000000000),A.inR .i64 (A.neg n0),!A.lt n1 (A.int (A.lenA ps))],
  ZgV (A.appA ps [AV.agg (Row.gen [.int .i64 255, .int .i64 0, .list (.ints .i64 (A.rep (A.nat (A.sub (A.add (ZaL (A.neg n0) n) n) 3)) 0))])]) (0)):=by kernel_rfl
theorem ZGv(A:Ar)(n c:Int)(ps:List AV)(n0 n1:Int):Zad A tab BD4 53 [false,true,false] (Zbk n c ps n0 n1) (Za2 n c ps n0 n1)=
 some (tr [2,0,1,0,2,2,3,2,1,4] [Nat.ble (A.lenA ps+A.lenA [AV.agg (Row.gen [.int .i64 255, .int .i64 0, .list (.ints .i64 (A.rep (A.nat (A.sub (ZaL (A.neg n0) n) 3)) 0))])]) 4294967296,List.all [AV.agg (Row.gen [.int .i64 255, .int .i64 0, .list (.ints .i64 (A.rep (A.nat (A.sub (ZaL (A.neg n0) n) 3)) 0))])] fun x=>AV.bx x&&Nat.beq (Zac A x) 3,Zab (A.le 0 (A.sub (ZaL (A.neg n0) n) 3)) (A.le (A.sub (ZaL (A.neg n0) n) 3) 4294967296),A.inR .i64 (A.sub (ZaL (A.neg n0) n) 3),!A.lt (ZaL (A.neg n0) n) 3,A.lt 0 (ZaL (A.neg n0) n),decide (1≤n∧n≤1000000000000),A.inR .i64 (A.neg n0),!A.lt n1 (A.int (A.lenA ps))],
  ZgV (A.appA ps [AV.agg (Row.gen [.int .i64 255, .int .i64 0, .list (.ints .i64 (A.rep (A.nat (A.sub (ZaL (A.neg n0) n) 3)) 0))])]) (0)):=by kernel_rfl
theorem Zw7(A:Ar)(n c:Int)(ps:List AV)(n0 n1:Int):Zad A tab BD4 36 [false,false] (Zbk n c ps n0 n1) (Za2 n c ps n0 n1)=
 some (tr [1,3,2,1,4] [!A.lt 0 (ZaL (A.neg n0) n),decide (1≤n∧n≤1000000000000),A.inR .i64 (A.neg n0),!A.lt n1 (A.int (A.lenA ps))],
  Zlf (ps) (0)):=by kernel_rfl
theorem ZHa(A:Ar)(x2:List AV)(n3:Int):Zad A tab BD4 45 [true] (ZfD x2 n3) (Zeu x2 n3)=
 some (tr [2,2,9,0,2,4] [Nat.ble (A.len [AV.toI (AV.cellAt (A.nthA x2 (A.nat n3)) 0),AV.toI (AV.cellAt (A.nthA x2 (A.nat n3)) 1),A.int (A.len ((A.nthA x2 (A.nat n3)).cellAt 2).toIs)]+A.len ((A.nthA x2 (A.nat n3)).cellAt 2).toIs) 4294967296,List.all [AV.int .i64 ((A.nthA x2 (A.nat n3)).cellAt 0).toI,AV.int .i64 ((A.nthA x2 (A.nat n3)).cellAt 1).toI,AV.int .i64 (A.int (A.len ((A.nthA x2 (A.nat n3)).cellAt 2).toIs))] fun x=>AV.bx x&&Nat.beq (Zac A x) 1,Zab (Nat.blt (A.nat n3) (A.lenA x2)) true,Zab (A.le 0 n3) (Nat.blt (A.nat n3) (A.lenA x2)),A.lt n3 (A.int (A.lenA x2))],
  Zlr (x2) (n3) (A.app [AV.toI (AV.cellAt (A.nthA x2 (A.nat n3)) 0),AV.toI (AV.cellAt (A.nthA x2 (A.nat n3)) 1),A.int (A.len ((A.nthA x2 (A.nat n3)).cellAt 2).toIs)] ((A.nthA x2 (A.nat n3)).cellAt 2).toIs)):=by kernel_rfl
theorem ZIU(A:Ar)(ps:List AV)(n4:Int):Zad A tab BD4 45 [true] (Zd0 ps n4) (Zdl ps n4)=
 some (tr [2,2,9,0,2,4] [Nat.ble (A.len [AV.toI (AV.cellAt (A.nthA ps (A.nat n4)) 0),AV.toI (AV.cellAt (A.nthA ps (A.nat n4)) 1),A.int (A.len ((A.nthA ps (A.nat n4)).cellAt 2).toIs)]+A.len ((A.nthA ps (A.nat n4)).cellAt 2).toIs) 4294967296,List.all [AV.int .i64 ((A.nthA ps (A.nat n4)).cellAt 0).toI,AV.int .i64 ((A.nthA ps (A.nat n4)).cellAt 1).toI,AV.int .i64 (A.int (A.len ((A.nthA ps (A.nat n4)).cellAt 2).toIs))] fun x=>AV.bx x&&Nat.beq (Zac A x) 1,Zab (Nat.blt (A.nat n4) (A.lenA ps)) true,Zab (A.le 0 n4) (Nat.blt (A.nat n4) (A.lenA ps)),A.lt n4 (A.int (A.lenA ps))],
  Zmb (ps) (n4) (A.app [AV.toI (AV.cellAt (A.nthA ps (A.nat n4)) 0),AV.toI (AV.cellAt (A.nthA ps (A.nat n4)) 1),A.int (A.len ((A.nthA ps (A.nat n4)).cellAt 2).toIs)] ((A.nthA ps (A.nat n4)).cellAt 2).toIs)):=by kernel_rfl
theorem ZEd(A:Ar)(ps:List AV)(n4:Int):Zaz A tab BD4 19 [false] 104 (Zd0 ps n4) (Zdl ps n4)=
 some (tr [5,4] [!A.lt n4 (A.int (A.lenA ps))],
  AV.tup [AV.nils,AV.nils],none):=by kernel_rfl
theorem ZCN(A:Ar)(x2:List AV)(n3:Int)(l5:List Int):Zad A tab BD4 37 [true] (ZiV x2 n3 l5) (Zht x2 n3 l5)=
 some (tr [1,3,0,3,0,0,0,3,4] [A.inR .i64 (A.add 0 1),Zab (Nat.ble (A.lenA [AV.bool (A.eq 0 0)]) 4294967296) (Nat.blt 0 (A.lenA [AV.bool (A.eq 0 0)])),List.all [AV.bool (A.eq 0 0)] fun x=>AV.bx x&&Nat.beq (Zac A x) 1,Zab (Nat.ble (A.len [A.nth l5 (A.nat 0)]) 4294967296) (Nat.blt 0 (A.len [A.nth l5 (A.nat 0)])),List.all [AV.int .i64 (A.nth l5 (A.nat 0))] fun x=>AV.bx x&&Nat.beq (Zac A x) 1,Zab (Nat.blt (A.nat 0) (A.len l5)) true,Zab (A.le 0 0) (Nat.blt (A.nat 0) (A.len l5)),A.lt 0 (A.int (A.len l5))],
  Zeh (x2) (A.add 0 1) ([A.nth l5 (A.nat 0)]) ([AV.bool (A.eq 0 0)]) (n3) (l5)):=by kernel_rfl
theorem ZBb(A:Ar)(ps:List AV)(n4:Int)(l6:List Int):Zad A tab BD4 37 [true] (ZhT ps n4 l6) (Zg3 ps n4 l6)=
 some (tr [1,3,0,3,0,0,0,3,4] [A.inR .i64 (A.add 0 1),Zab (Nat.ble (A.lenA [AV.bool (A.eq 0 0)]) 4294967296) (Nat.blt 0 (A.lenA [AV.bool (A.eq 0 0)])),List.all [AV.bool (A.eq 0 0)] fun x=>AV.bx x&&Nat.beq (Zac A x) 1,Zab (Nat.ble (A.len [A.nth l6 (A.nat 0)]) 4294967296) (Nat.blt 0 (A.len [A.nth l6 (A.nat 0)])),List.all [AV.int .i64 (A.nth l6 (A.nat 0))] fun x=>AV.bx x&&Nat.beq (Zac A x) 1,Zab (Nat.blt (A.nat 0) (A.len l6)) true,Zab (A.le 0 0) (Nat.blt (A.nat 0) (A.len l6)),A.lt 0 (A.int (A.len l6))],
  Zes (ps) (A.add 0 1) ([A.nth l6 (A.nat 0)]) ([AV.bool (A.eq 0 0)]) (n4) (l6)):=by kernel_rfl
theorem ZBU(A:Ar)(x2:List AV)(n7:Int)(l8:List Int)(x9:List AV)(n10:Int)(l11:List Int):Zad A tab BD4 37 [true] (Zd6 x2 n7 l8 x9 n10 l11) (Zdj x2 n7 l8 x9 n10 l11)=
 some (tr [1,3,0,3,0,0,0,3,4] [A.inR .i64 (A.add n7 1),Nat.ble (A.lenA x9+A.lenA [AV.bool (A.eq n7 0)]) 4294967296,List.all [AV.bool (A.eq n7 0)] fun x=>AV.bx x&&Nat.beq (Zac A x) 1,Nat.ble (A.len l8+A.len [A.nth l11 (A.nat n7)]) 4294967296,List.all [AV.int .i64 (A.nth l11 (A.nat n7))] fun x=>AV.bx x&&Nat.beq (Zac A x) 1,Zab (Nat.blt (A.nat n7) (A.len l11)) true,Zab (A.le 0 n7) (Nat.blt (A.nat n7) (A.len l11)),A.lt n7 (A.int (A.len l11))],
  Zeh (x2) (A.add n7 1) (A.app l8 [A.nth l11 (A.nat n7)]) (A.appA x9 [AV.bool (A.eq n7 0)]) (n10) (l11)):=by kernel_rfl
theorem ZBg(A:Ar)(x2:List AV)(n7:Int)(l8:List Int)(x9:List AV)(n10:Int)(l11:List Int):Zad A tab BD4 19 [false] (Zd6 x2 n7 l8 x9 n10 l11) (Zdj x2 n7 l8 x9 n10 l11)=
 some (tr [1,1,4] [A.inR .i64 (A.add n10 1),!A.lt n7 (A.int (A.len l11))],
  Zk8 (x2) (l8) (x9) (A.add n10 1)):=by kernel_rfl
theorem Zy7(A:Ar)(ps:List AV)(n12:Int)(l13:List Int)(x14:List AV)(n15:Int)(l16:List Int):Zad A tab BD4 37 [true] (ZdW ps n12 l13 x14 n15 l16) (Zdh ps n12 l13 x14 n15 l16)=
 some (tr [1,3,0,3,0,0,0,3,4] [A.inR .i64 (A.add n12 1),Nat.ble (A.lenA x14+A.lenA [AV.bool (A.eq n12 0)]) 4294967296,List.all [AV.bool (A.eq n12 0)] fun x=>AV.bx x&&Nat.beq (Zac A x) 1,Nat.ble (A.len l13+A.len [A.nth l16 (A.nat n12)]) 4294967296,List.all [AV.int .i64 (A.nth l16 (A.nat n12))] fun x=>AV.bx x&&Nat.beq (Zac A x) 1,Zab (Nat.blt (A.nat n12) (A.len l16)) true,Zab (A.le 0 n12) (Nat.blt (A.nat n12) (A.len l16)),A.lt n12 (A.int (A.len l16))],
  Zes (ps) (A.add n12 1) (A.app l13 [A.nth l16 (A.nat n12)]) (A.appA x14 [AV.bool (A.eq n12 0)]) (n15) (l16)):=by kernel_rfl
theorem ZyT(A:Ar)(ps:List AV)(n12:Int)(l13:List Int)(x14:List AV)(n15:Int)(l16:List Int):Zad A tab BD4 19 [false] (ZdW ps n12 l13 x14 n15 l16) (Zdh ps n12 l13 x14 n15 l16)=
 some (tr [1,1,4] [A.inR .i64 (A.add n15 1),!A.lt n12 (A.int (A.len l16))],
  ZlP (ps) (l13) (x14) (A.add n15 1)):=by kernel_rfl
theorem ZBJ(A:Ar)(x2:List AV)(l8:List Int)(x9:List AV)(n17:Int):Zad A tab BD4 45 [true] (ZcW x2 l8 x9 n17) (Zcr x2 l8 x9 n17)=
 some (tr [2,2,9,0,2,4] [Nat.ble (A.len [AV.toI (AV.cellAt (A.nthA x2 (A.nat n17)) 0),AV.toI (AV.cellAt (A.nthA x2 (A.nat n17)) 1),A.int (A.len ((A.nthA x2 (A.nat n17)).cellAt 2).toIs)]+A.len ((A.nthA x2 (A.nat n17)).cellAt 2).toIs) 4294967296,List.all [AV.int .i64 ((A.nthA x2 (A.nat n17)).cellAt 0).toI,AV.int .i64 ((A.nthA x2 (A.nat n17)).cellAt 1).toI,AV.int .i64 (A.int (A.len ((A.nthA x2 (A.nat n17)).cellAt 2).toIs))] fun x=>AV.bx x&&Nat.beq (Zac A x) 1,Zab (Nat.blt (A.nat n17) (A.lenA x2)) true,Zab (A.le 0 n17) (Nat.blt (A.nat n17) (A.lenA x2)),A.lt n17 (A.int (A.lenA x2))],
  Zeh (x2) (0) (l8) (x9) (n17) (A.app [AV.toI (AV.cellAt (A.nthA x2 (A.nat n17)) 0),AV.toI (AV.cellAt (A.nthA x2 (A.nat n17)) 1),A.int (A.len ((A.nthA x2 (A.nat n17)).cellAt 2).toIs)] ((A.nthA x2 (A.nat n17)).cellAt 2).toIs)):=by kernel_rfl
theorem ZxC(A:Ar)(x2:List AV)(l8:List Int)(x9:List AV)(n17:Int):Zaz A tab BD4 19 [false] 104 (ZcW x2 l8 x9 n17) (Zcr x2 l8 x9 n17)=
 some (tr [5,4] [!A.lt n17 (A.int (A.lenA x2))],
  AV.tup [AV.list (.ints .i64 l8),AV.list (Row.big .bool x9)],none):=by kernel_rfl
theorem ZxI(A:Ar)(ps:List AV)(l13:List Int)(x14:List AV)(n18:Int):Zad A tab BD4 45 [true] (ZcY ps l13 x14 n18) (Zcg ps l13 x14 n18)=
 some (tr [2,2,9,0,2,4] [Nat.ble (A.len [AV.toI (AV.cellAt (A.nthA ps (A.nat n18)) 0),AV.toI (AV.cellAt (A.nthA ps (A.nat n18)) 1),A.int (A.len ((A.nthA ps (A.nat n18)).cellAt 2).toIs)]+A.len ((A.nthA ps (A.nat n18)).cellAt 2).toIs) 4294967296,List.all [AV.int .i64 ((A.nthA ps (A.nat n18)).cellAt 0).toI,AV.int .i64 ((A.nthA ps (A.nat n18)).cellAt 1).toI,AV.int .i64 (A.int (A.len ((A.nthA ps (A.nat n18)).cellAt 2).toIs))] fun x=>AV.bx x&&Nat.beq (Zac A x) 1,Zab (Nat.blt (A.nat n18) (A.lenA ps)) true,Zab (A.le 0 n18) (Nat.blt (A.nat n18) (A.lenA ps)),A.lt n18 (A.int (A.lenA ps))],
  Zes (ps) (0) (l13) (x14) (n18) (A.app [AV.toI (AV.cellAt (A.nthA ps (A.nat n18)) 0),AV.toI (AV.cellAt (A.nthA ps (A.nat n18)) 1),A.int (A.len ((A.nthA ps (A.nat n18)).cellAt 2).toIs)] ((A.nthA ps (A.nat n18)).cellAt 2).toIs)):=by kernel_rfl
theorem ZAG(A:Ar)(ps:List AV)(l13:List Int)(x14:List AV)(n18:Int):Zaz A tab BD4 19 [false] 104 (ZcY ps l13 x14 n18) (Zcg ps l13 x14 n18)=
 some (tr [5,4] [!A.lt n18 (A.int (A.lenA ps))],
  AV.tup [AV.list (.ints .i64 l13),AV.list (Row.big .bool x14)],none):=by kernel_rfl
end Go.Proofs.Ytjhdnpmojhkbjaa
/- Contracts as a list. No condition. -/
namespace Go.Proofs.Ytjhdnpmojhkbjaa
def ZfH(k n:Nat):List AV:=(List.range' k n).map fun j=>AV.bool (decide (j=0))
def Zpw:List AV→List AV
 |[]=>[]
 |p::ps=>ZfH 0 (pkB p).length++Zpw ps
theorem ZeU(k n:Nat):(ZfH k n).length=n:=by simp[ZfH]
theorem Zgu(p:AV):(pkB p).length=(kD p).length+3:=by simp[pkB]
theorem ZD3{C:Ctx}(hC:C.P=Try.prog)(xs:List AV)(i:Nat)(code:List Int)(B0:List Int)(S0:List AV)(R:List AFrame→Zaa→Prop)(hi:i≤1000000)(hcl:code.length≤1000000)(hB0:B0.length+code.length≤4000000000)(hS0:S0.length=B0.length)
 (hnext:Ev C (ZcW xs (B0++code) (S0++ZfH 0 code.length) ((i+1:Nat):Int)) (Zcr xs (B0++code) (S0++ZfH 0 code.length) ((i+1:Nat):Int)) R):
 ∀(d k:Nat),k+d=code.length→Ev C (Zd6 xs k (B0++code.take k) (S0++ZfH 0 k) i code) (Zdj xs k (B0++code.take k) (S0++ZfH 0 k) i code) R:=by
 intro d
 induction d with
 |zero=>
  intro k hk
  have:k=code.length:=by omega
  subst this
  rw[List.take_length]
  exact go hC ZbK (ZBg std xs _ _ _ _ _) (by simp;omega) (by simpa using hnext)
 |succ d ih=>
  intro k hk
  have hlt:k<code.length:=by omega
  have e1:std.nth code (std.nat (k:Int))=code[k]:=by simp[hlt]
  have ih':=ih (k+1) (by omega)
  have e2:ZfH 0 (k+1)=ZfH 0 k++[AV.bool (decide (k=0))]:=by simp[ZfH,List.range'_concat]
  rw[e2,List.take_succ_eq_append_getElem hlt,←List.append_assoc,←List.append_assoc]at ih'
  have l1:(B0++code.take k).length≤4000000000:=by rw[List.length_append,List.length_take];omega
  have l2:(S0++ZfH 0 k).length≤4000000000:=by rw[List.length_append,ZeU];omega
  generalize B0++code.take k=b at*
  generalize S0++ZfH 0 k=g at*
  refine go hC ZbK (ZBU std xs k b g i code) ?_ ?_
  ·simp only[e1];simp[hlt,AV.bx,Zac];omega
  ·simp only[e1];simpa using ih'
theorem ZKX{C:Ctx}(hC:C.P=Try.prog)(xs:List AV)(hlen:xs.length≤1000)(hk:∀p∈xs,(kD p).length≤1000)(B:List Int)(S:List AV):∀(d i:Nat) (b:List Int) (g:List AV),i+d=xs.length→b.length≤1003*i→g.length=b.length→b++Zag (xs.drop i)=B→g++Zpw (xs.drop i)=S→
 Ev C (ZcW xs b g i) (Zcr xs b g i) (ZdV 104 (.tup [.list (.ints .i64 B), .list (.big .bool S)]) none):=by
 intro d
 induction d with
 |zero=>
  intro i b g hd hb hg hB hS
  rw[List.drop_of_length_le (by omega),Zag,List.append_nil]at hB
  rw[List.drop_of_length_le (by omega),Zpw,List.append_nil]at hS
  exact fin hC ZbK (ZxC std xs b g i) (by simp;omega) (by rw[hB,hS]) rfl
 |succ d ih=>
  intro i b g hd hb hg hB hS
  have hlt:i<xs.length:=by omega
  have e1:std.nthA xs (std.nat (i:Int))=xs[i]:=by simp[hlt]
  have g0:(xs[i].cellAt 0).toI=kI xs[i]:=rfl
  have g1:(xs[i].cellAt 1).toI=kC xs[i]:=rfl
  have g2:(xs[i].cellAt 2).toIs=kD xs[i]:=rfl
  have hk':=hk xs[i] (by simp)
  have hpl:=Zgu xs[i]
  rw[List.drop_eq_getElem_cons hlt,Zag,←List.append_assoc]at hB
  rw[List.drop_eq_getElem_cons hlt,Zpw,←List.append_assoc]at hS
  have ih':=ih (i+1) (b++pkB xs[i]) (g++ZfH 0 (pkB xs[i]).length) (by omega) (by rw[List.length_append,hpl];omega) (by simp[ZeU,hg]) hB hS
  have h2:=ZD3 hC xs i (pkB xs[i]) b g _ (by omega) (by omega) (by omega) hg ih' (pkB xs[i]).length 0 (by omega)
  refine go hC ZbK (ZBJ std xs b g i) ?_ ?_
  ·simp only[e1,g0,g1,g2];simp[hlt,AV.bx,Zac];omega
  ·simp only[e1,g0,g1,g2]
   simpa[pkB,ZfH]using h2
theorem ZKd{C:Ctx}(hC:C.P=Try.prog)(x:AV)(xs:List AV)(hlen:(x::xs).length≤1000)(hk:∀p∈x::xs,(kD p).length≤1000):
 Ev C (ZfD (x::xs) 0) (Zeu (x::xs) 0) (ZdV 104 (.tup [.list (.ints .i64 (Zag (x::xs))), .list (.big .bool (Zpw (x::xs)))]) none):=by
 have e1:std.nthA (x::xs) (std.nat 0)=x:=by simp
 have g0:(x.cellAt 0).toI=kI x:=rfl
 have g1:(x.cellAt 1).toI=kC x:=rfl
 have g2:(x.cellAt 2).toIs=kD x:=rfl
 have hk':=hk x (by simp)
 have hpl:=Zgu x
 have h1:=ZKX hC (x::xs) hlen hk (Zag (x::xs)) (Zpw (x::xs)) xs.length 1 (pkB x) (ZfH 0 (pkB x).length) (by simp;omega) (by omega) (ZeU _ _) rfl rfl
 have h2:=ZD3 hC (x::xs) 0 (pkB x) [] [] _ (by omega) (by omega) (by simp;omega) rfl (by simpa using h1) ((kD x).length+2) 1 (by omega)
 refine go hC ZbK (ZHa std (x::xs) 0) ?_ ?_
 ·simp only[e1,g0,g1,g2];simp[AV.bx,Zac];omega
 ·simp only[e1,g0,g1,g2]
  refine go hC ZbK (ZCN std (x::xs) 0 _) (by simp[AV.bx,Zac];omega) ?_
  simpa[pkB,ZfH,List.range']using h2
theorem ZIJ{C:Ctx}(hC:C.P=Try.prog)(xs:List AV)(i:Nat)(code:List Int)(B0:List Int)(S0:List AV)(R:List AFrame→Zaa→Prop)(hi:i≤1000000)(hcl:code.length≤1000000)(hB0:B0.length+code.length≤4000000000)(hS0:S0.length=B0.length)
 (hnext:Ev C (ZcY xs (B0++code) (S0++ZfH 0 code.length) ((i+1:Nat):Int)) (Zcg xs (B0++code) (S0++ZfH 0 code.length) ((i+1:Nat):Int)) R):
 ∀(d k:Nat),k+d=code.length→Ev C (ZdW xs k (B0++code.take k) (S0++ZfH 0 k) i code) (Zdh xs k (B0++code.take k) (S0++ZfH 0 k) i code) R:=by
 intro d
 induction d with
 |zero=>
  intro k hk
  have:k=code.length:=by omega
  subst this
  rw[List.take_length]
  exact go hC ZbK (ZyT std xs _ _ _ _ _) (by simp;omega) (by simpa using hnext)
 |succ d ih=>
  intro k hk
  have hlt:k<code.length:=by omega
  have e1:std.nth code (std.nat (k:Int))=code[k]:=by simp[hlt]
  have ih':=ih (k+1) (by omega)
  have e2:ZfH 0 (k+1)=ZfH 0 k++[AV.bool (decide (k=0))]:=by simp[ZfH,List.range'_concat]
  rw[e2,List.take_succ_eq_append_getElem hlt,←List.append_assoc,←List.append_assoc]at ih'
  have l1:(B0++code.take k).length≤4000000000:=by rw[List.length_append,List.length_take];omega
  have l2:(S0++ZfH 0 k).length≤4000000000:=by rw[List.length_append,ZeU];omega
  generalize B0++code.take k=b at*
  generalize S0++ZfH 0 k=g at*
  refine go hC ZbK (Zy7 std xs k b g i code) ?_ ?_
  ·simp only[e1];simp[hlt,AV.bx,Zac];omega
  ·simp only[e1];simpa using ih'
theorem ZNB{C:Ctx}(hC:C.P=Try.prog)(xs:List AV)(hlen:xs.length≤1000)(hk:∀p∈xs,(kD p).length≤1000)(B:List Int)(S:List AV):∀(d i:Nat) (b:List Int) (g:List AV),i+d=xs.length→b.length≤1003*i→g.length=b.length→b++Zag (xs.drop i)=B→g++Zpw (xs.drop i)=S→
 Ev C (ZcY xs b g i) (Zcg xs b g i) (ZdV 104 (.tup [.list (.ints .i64 B), .list (.big .bool S)]) none):=by
 intro d
 induction d with
 |zero=>
  intro i b g hd hb hg hB hS
  rw[List.drop_of_length_le (by omega),Zag,List.append_nil]at hB
  rw[List.drop_of_length_le (by omega),Zpw,List.append_nil]at hS
  exact fin hC ZbK (ZAG std xs b g i) (by simp;omega) (by rw[hB,hS]) rfl
 |succ d ih=>
  intro i b g hd hb hg hB hS
  have hlt:i<xs.length:=by omega
  have e1:std.nthA xs (std.nat (i:Int))=xs[i]:=by simp[hlt]
  have g0:(xs[i].cellAt 0).toI=kI xs[i]:=rfl
  have g1:(xs[i].cellAt 1).toI=kC xs[i]:=rfl
  have g2:(xs[i].cellAt 2).toIs=kD xs[i]:=rfl
  have hk':=hk xs[i] (by simp)
  have hpl:=Zgu xs[i]
  rw[List.drop_eq_getElem_cons hlt,Zag,←List.append_assoc]at hB
  rw[List.drop_eq_getElem_cons hlt,Zpw,←List.append_assoc]at hS
  have ih':=ih (i+1) (b++pkB xs[i]) (g++ZfH 0 (pkB xs[i]).length) (by omega) (by rw[List.length_append,hpl];omega) (by simp[ZeU,hg]) hB hS
  have h2:=ZIJ hC xs i (pkB xs[i]) b g _ (by omega) (by omega) (by omega) hg ih' (pkB xs[i]).length 0 (by omega)
  refine go hC ZbK (ZxI std xs b g i) ?_ ?_
  ·simp only[e1,g0,g1,g2];simp[hlt,AV.bx,Zac];omega
  ·simp only[e1,g0,g1,g2]
   simpa[pkB,ZfH]using h2
theorem ZM3{C:Ctx}(hC:C.P=Try.prog)(x:AV)(xs:List AV)(hlen:(x::xs).length≤1000)(hk:∀p∈x::xs,(kD p).length≤1000):
 Ev C (Zd0 (x::xs) 0) (Zdl (x::xs) 0) (ZdV 104 (.tup [.list (.ints .i64 (Zag (x::xs))), .list (.big .bool (Zpw (x::xs)))]) none):=by
 have e1:std.nthA (x::xs) (std.nat 0)=x:=by simp
 have g0:(x.cellAt 0).toI=kI x:=rfl
 have g1:(x.cellAt 1).toI=kC x:=rfl
 have g2:(x.cellAt 2).toIs=kD x:=rfl
 have hk':=hk x (by simp)
 have hpl:=Zgu x
 have h1:=ZNB hC (x::xs) hlen hk (Zag (x::xs)) (Zpw (x::xs)) xs.length 1 (pkB x) (ZfH 0 (pkB x).length) (by simp;omega) (by omega) (ZeU _ _) rfl rfl
 have h2:=ZIJ hC (x::xs) 0 (pkB x) [] [] _ (by omega) (by omega) (by simp;omega) rfl (by simpa using h1) ((kD x).length+2) 1 (by omega)
 refine go hC ZbK (ZIU std (x::xs) 0) ?_ ?_
 ·simp only[e1,g0,g1,g2];simp[AV.bx,Zac];omega
 ·simp only[e1,g0,g1,g2]
  refine go hC ZbK (ZBb std (x::xs) 0 _) (by simp[AV.bx,Zac];omega) ?_
  simpa[pkB,ZfH,List.range']using h2
theorem Zt9{s n:Int}(hs:0≤s)(hn:0<n):ZaL (-s) n=if s.tmod n=0 then 0 else n-s.tmod n:=by
 have h1:=Int.tmod_nonneg n hs
 have h2:=Int.tmod_lt_of_pos s hn
 unfold ZaL
 rw[Int.neg_tmod]
 by_cases h:s.tmod n=0
 ·simp[h]
 ·rw[if_pos (by omega),if_neg h];omega
theorem ZMK{C:Ctx}(hC:C.P=Try.prog)(n c:Int)(ps:List AV)(hlen:ps.length≤22)(hk:∀p∈ps,(kD p).length≤42)(R:List AFrame→Zaa→Prop)(hend:Ev C (Zbk n c ps (ZaF ps) ps.length) (Za2 n c ps (ZaF ps) ps.length) R):∀(d i s:Nat),i+d=ps.length→s+ZaF (ps.drop i)=ZaF ps→
 Ev C (Zbk n c ps s i) (Za2 n c ps s i) R:=by
 have hsz:=Zfc hk
 intro d
 induction d with
 |zero=>
  intro i s hd hs
  rw[List.drop_of_length_le (by omega),ZaF]at hs
  have h1:i=ps.length:=by omega
  have h2:s=ZaF ps:=by omega
  rw[h1,h2];exact hend
 |succ d ih=>
  intro i s hd hs
  have hlt:i<ps.length:=by omega
  have e1:std.nthA ps (std.nat (i:Int))=ps[i]:=by simp[hlt]
  have g2:(ps[i].cellAt 2).toIs=kD ps[i]:=rfl
  have hk':=hk ps[i] (by simp)
  rw[List.drop_eq_getElem_cons hlt,ZaF]at hs
  have ih':=ih (i+1) (s+(3+(kD ps[i]).length)) (by omega) (by omega)
  refine go hC ZbK (ZEY std n c ps s i) ?_ ?_
  ·simp only[e1,g2];simp[hlt];omega
  ·simp only[e1,g2];simpa[Int.add_assoc]using ih'
theorem ZkF(n:Int)(ps:List AV):ps.length≤(Za1 n ps).length∧(Za1 n ps).length≤ps.length+1:=by
 unfold Za1
 split
 ·omega
 ·split<;>simp
theorem Zl5{n:Int}{ps:List AV}(hn:3<n∧n≤500)(hk:∀p∈ps,(kD p).length≤42):∀p∈Za1 n ps,(kD p).length≤1000:=by
 have h2:=Int.tmod_lt_of_pos (ZaF ps:Int) (show 0<n by omega)
 have h1:=Int.tmod_nonneg n (show 0≤(ZaF ps:Int) by omega)
 have hi:∀k:Int,k≤1000→(kD (Zf7 k)).length≤1000:=fun k hk=>by
  have:kD (Zf7 k)=List.replicate k.toNat 0:=rfl
  rw[this,List.length_replicate];omega
 unfold Za1
 intro p
 split
 ·intro hp;have:=hk p hp;omega
 ·split
  ·intro hp
   rcases List.mem_append.1 hp with hp |hp
   ·have:=hk p hp;omega
   ·rw[List.mem_singleton]at hp;subst hp;exact hi _ (by omega)
  ·intro hp
   rcases List.mem_append.1 hp with hp |hp
   ·have:=hk p hp;omega
   ·rw[List.mem_singleton]at hp;subst hp;exact hi _ (by omega)
theorem ZJa{n:Int}{ps:List AV}(hn:3<n∧n≤500)(hf:ZbW ps=true):ZBN (Za1 n ps)=true:=by
 obtain⟨hlen,hk⟩:=Zfp hf
 have h1:=(ZkF n ps).2
 have h2:=Zl5 hn hk
 rw[ZBN,Bool.and_eq_true,decide_eq_true_eq]
 refine⟨by omega,?_⟩
 generalize Za1 n ps=qs at*
 clear h1
 induction qs with
 |nil=>rfl
 |cons q qs ih=>rw[ZHV,Bool.and_eq_true,decide_eq_true_eq];exact⟨h2 q (by simp),ih fun p hp=>h2 p (by simp[hp])⟩
theorem ZoY(n c:Int)(ps:List AV)(h:(3<n∧n≤500)∧ZbW ps=true):ZaH Try.prog 104 [.agg (.gen [.int .i64 n, .int .i64 c]), .list (.big (.agg [.int .i64, .int .i64, .ints .i64]) ps)] (.tup [.list (.ints .i64 (Zag (Za1 n ps))), .list (.big .bool (Zpw (Za1 n ps)))]) none:=by
 obtain⟨hn,hf⟩:=h
 obtain⟨hlen,hk⟩:=Zfp hf
 have hsz:=Zfc hk
 have hr0:=Int.tmod_nonneg n (show 0≤(ZaF ps:Int) by omega)
 have hr1:=Int.tmod_lt_of_pos (ZaF ps:Int) (show 0<n by omega)
 have hmod:=Zt9 (s:=(ZaF ps:Int)) (n:=n) (by omega) (by omega)
 have hfd:=Zl5 hn hk
 have hfl:=ZkF n ps
 have main:∀(Q:AV),(∀C:Ctx,C.P=Try.prog→Ev C (Zbk n c ps (ZaF ps) ps.length) (Za2 n c ps (ZaF ps) ps.length) (ZdV 104 Q none))→ZaH Try.prog 104 [.agg (.gen [.int .i64 n, .int .i64 c]), .list (.big (.agg [.int .i64, .int .i64, .ints .i64]) ps)] Q none:=fun Q hQ=>
  start (ZtG n c ps) fun C hC=>go hC ZbK (ZCA std n c ps) (by simp;omega) (ZMK hC n c ps hlen hk _ (hQ C hC) ps.length 0 0 (by omega) (by simp))
 have hn1:1≤n∧n≤1000000000000:=by omega
 by_cases h0:(ZaF ps:Int).tmod n=0
 ·have hF:Za1 n ps=ps:=by rw[Za1,if_pos h0]
  rw[if_pos h0]at hmod
  rw[hF]
  cases ps with
  |nil=>exact ZlH (xs:=[.nils, .nils]) (main _ fun C hC=>go hC ZbK (Zw7 std n c [] _ _) (by rw[Zqa,hmod];simp[hn1];try omega) (fin hC ZbK (ZEd std [] 0) (by simp) rfl rfl)) ⟨.nil _ rfl, .nil _ rfl,trivial⟩
  |cons p qs=>exact main _ fun C hC=>go hC ZbK (Zw7 std n c (p::qs) _ _) (by rw[Zqa,hmod];simp[hn1];try omega) (ZM3 hC p qs (by omega) (fun q hq=>by have:=hk q hq;omega))
 ·rw[if_neg h0]at hmod
  cases hF:Za1 n ps with
  |nil=>
   have:ps.length=0:=by rw[hF]at hfl;simpa using hfl.1
   have:ps=[]:=List.length_eq_zero_iff.1 this
   subst this;simp[ZaF]at h0
  |cons p qs=>
   rw[hF]at hfd hfl
   have key:=fun(C:Ctx) (hC:C.P=Try.prog)=>ZKd hC p qs (by omega) hfd
   generalize hR:(ZaF ps:Int).tmod n=R at*
   by_cases h3:n-R<3
   ·have hF2:ps++[Zf7 (n-R+n-3)]=p::qs:=by rw[←hF,Za1,hR,if_neg h0,if_pos h3]
    exact main _ fun C hC=>go hC ZbK (ZDi std n c ps _ _) (by rw[Zqa,hmod];simp[hn1,h3,AV.bx,Zac,Row.len];omega) (by rw[Zqa,hmod,←hF2];have:=key C hC;rw[←hF2]at this;simpa[Zf7]using this)
   ·have hF2:ps++[Zf7 (n-R-3)]=p::qs:=by rw[←hF,Za1,hR,if_neg h0,if_neg h3]
    exact main _ fun C hC=>go hC ZbK (ZGv std n c ps _ _) (by rw[Zqa,hmod];simp[hn1,h3,AV.bx,Zac,Row.len];omega) (by rw[Zqa,hmod,←hF2];have:=key C hC;rw[←hF2]at this;simpa[Zf7]using this)
def k104:Ctr:=⟨104,0,fun _ a=>match a with |[.agg (.gen [.int .i64 n, .int .i64 c]), .list (.big (.agg [.int .i64, .int .i64, .ints .i64]) ps)]=>some (decide ((3<n∧n≤500)∧ZbW ps=true), .tup [.list (.ints .i64 (Zag (Za1 n ps))), .list (.big .bool (Zpw (Za1 n ps)))],none) |_=>none⟩
theorem ZBd:k104.OK Try.prog:=fun pa args r fr h=>by
 simp only[k104]at h
 split at h
 ·simp only[Option.some.injEq,Prod.mk.injEq,decide_eq_true_eq]at h
  obtain⟨h0,rfl,rfl⟩:=h
  exact ZoY _ _ _ h0
 ·cases h
def BD5:List Ctr:=[k104]++BD4
theorem Zeb:Zap Try.prog BD5:=⟨ZBd,ZbK⟩
end Go.Proofs.Ytjhdnpmojhkbjaa
/- Paths of functions, printed by the explorer (Gx). No condition. -/
namespace Go.Proofs.Ytjhdnpmojhkbjaa
set_option maxRecDepth 100000
set_option linter.unusedVariables false
def ZF7(a:Int)(b:Int)(ps:List AV):AFrame:={ fn:=37,N:=18,env:=[(0,AV.agg (Row.gen [AV.int .i64 a,AV.int .i64 b])),(1,AV.list (Row.big (Sh.agg [Sh.int .i64,Sh.int .i64,Sh.ints .i64]) ps))],todo:=[.code a37.code],defs:=[],rnd:=none,ret:=false,res:=[ARes.tmp 4] }
def ZPP(a:Int)(b:Int)(ps:List AV):List AFrame:=[(ZF7 a b ps)]
theorem Zxt(a:Int)(b:Int)(ps:List AV):Zak tab 37 [AV.agg (Row.gen [AV.int .i64 a,AV.int .i64 b]),AV.list (Row.big (Sh.agg [Sh.int .i64,Sh.int .i64,Sh.ints .i64]) ps)]=some (ZF7 a b ps):=rfl
theorem ZMu(A:Ar)(a b:Int)(ps:List AV):Zaz A tab BD5 27 [] 37 (ZPP a b ps) []=
 some (tr [2,9,4] [Zab (A.not (A.eq a 0)) (A.inR .i64 (A.quo (A.int (A.len (Zag (Za1 a ps)))) a)),decide ((3<a∧a≤500)∧ZbW ps=true)],
  AV.int .i64 (A.quo (A.int (A.len (Zag (Za1 a ps)))) a),none):=by kernel_rfl
def ZGX(a:Int)(b:Int)(c:Int)(d:Int)(ps:List AV):AFrame:={ fn:=35,N:=108,env:=[(0,AV.agg (Row.gen [AV.int .i64 a,AV.int .i64 b])),(1,AV.agg (Row.gen [AV.int .i64 c,AV.int .i64 d])),(2,AV.list (Row.big (Sh.agg [Sh.int .i64,Sh.int .i64,Sh.ints .i64]) ps))],todo:=[.code a35.code],defs:=[],rnd:=none,ret:=false,res:=[ARes.tmp 6,ARes.tmp 7] }
def ZJC(a:Int)(b:Int)(c:Int)(d:Int)(ps:List AV):List AFrame:=[(ZGX a b c d ps)]
theorem Zkz(a:Int)(b:Int)(c:Int)(d:Int)(ps:List AV):Zak tab 35 [AV.agg (Row.gen [AV.int .i64 a,AV.int .i64 b]),AV.agg (Row.gen [AV.int .i64 c,AV.int .i64 d]),AV.list (Row.big (Sh.agg [Sh.int .i64,Sh.int .i64,Sh.ints .i64]) ps)]=some (ZGX a b c d ps):=rfl
def ZbR(a b c d:Int)(l0:List Int)(b1:Bool)(l2 l3 l4:List Int)(b5:Bool)(l6 l7:List Int):List AFrame:=[{ fn:=132,N:=31,env:=[(0,AV.yld 35901 1),(1,AV.ptr 101003 0 0 0),(2,AV.ptr 101004 0 0 0),(4,AV.int .i64 0)],todo:=.code (ACode.gh [] Zrs)::Zwf,defs:=[],rnd:=none,ret:=false,res:=[] },{ fn:=35,N:=108,env:=[(4,AV.ptr 35005 0 0 0),(6,AV.nils),(7,AV.int .i64 0),(8,AV.ptr 35009 0 0 0),(10,AV.list (.ints .i64 l0)),(11,AV.ptr 35012 0 0 0),(12,AV.ptr 35013 0 0 0),(50,AV.bool b1),(51,AV.list (.ints .i64 l2)),(52,AV.ptr 35009 0 0 0),(53,AV.ptr 35009 0 0 0),(54,AV.int .i64 a),(55,AV.fn 132 [AV.ptr 101003 0 0 0,AV.ptr 101004 0 0 0])],todo:=[AItem.inRF 35901 1,AItem.inBlock 0, .code (ACode.seq (ACode.reg none [oN 107 (OpK.load false 1 (Opd.t 12)),mV 6 107,oN 7 (OpK.mov (cI 0))]) ACode.ret)],defs:=[(35901,0)],rnd:=none,ret:=false,res:=[ARes.tmp 6,ARes.tmp 7] }]
def Zbm(a:Int)(b:Int)(c:Int)(d:Int)(l0:List Int)(b1:Bool)(l2:List Int)(l3:List Int)(l4:List Int)(b5:Bool)(l6:List Int)(l7:List Int):Zaa:=[(35005,{ base:=0,blks:=[Blk.row 52 2 (Row.gen [AV.agg (Row.gen [AV.int .i64 c,AV.int .i64 d])])] }),(35009,{ base:=0,blks:=[Blk.row 132 2 (Row.gen [AV.agg (Row.gen [AV.int .i64 a,AV.int .i64 b])])] }),(35012,{ base:=0,blks:=[Blk.row 55 1 (Row.gen [AV.list (.ints .i64 l3)])] }),(35013,{ base:=0,blks:=[Blk.row 24 1 (Row.gen [AV.nils])] }),(35901,{ base:=0,blks:=[Blk.dfr,Blk.lp { st:=RSt.ready,fn:=35,N:=108,env:=[(4,AV.ptr 35005 0 0 0),(6,AV.nils),(7,AV.int .i64 0),(8,AV.ptr 35009 0 0 0),(10,AV.list (.ints .i64 l4)),(11,AV.ptr 35012 0 0 0),(12,AV.ptr 35013 0 0 0),(50,AV.bool b5),(51,AV.list (.ints .i64 l6)),(52,AV.ptr 35009 0 0 0),(53,AV.ptr 35009 0 0 0),(54,AV.int .i64 a),(55,AV.fn 132 [AV.ptr 101003 0 0 0,AV.ptr 101004 0 0 0])],params:=[56],asg:=ACode.reg none [mV 13 56],body:=ACode.block 1 (ACode.seq (ACode.reg none [oN 57 (OpK.load false 1 (Opd.t 12)),oN 58 (OpK.len (Opd.t 57)),oN 59 (OpK.faddr 0 (Opd.t 8)),oN 60 (OpK.faddr 0 (Opd.t 59)),oN 61 (OpK.load false 1 (Opd.t 60)),oN 62 (OpK.bin Go.BinOp.mul (Opd.t 58) (Opd.t 61)),mV 14 62]) (ACode.gh [Ghost.keep [4,6,7,8,11,12,13,14]] (ACode.seq (ACode.reg (some [(0,9),(0,11),(1,9),(1,11),(2,9),(2,11),(3,9),(3,11),(4,9),(4,11),(5,9),(5,11),(6,9),(6,11),(7,9),(7,11),(8,11),(9,11),(10,11)]) [oN 63 (OpK.faddr 0 (Opd.t 4)),oN 64 (OpK.load false 1 (Opd.t 63)),oN 65 (OpK.faddr 1 (Opd.t 4)),oN 66 (OpK.load false 1 (Opd.t 65)),oN 67 (OpK.load false 1 (Opd.t 12)),oN 68 (OpK.len (Opd.t 67)),oN 69 (OpK.bin Go.BinOp.add (Opd.t 66) (Opd.t 68)),oN 70 (OpK.bin Go.BinOp.rem (Opd.t 69) (cI 64)),mV 71 13,oN 72 (OpK.ncall true 35073 102 [Opd.t 71]),oN 73 (OpK.build (Row.gen [AV.int .i64 0,AV.int .i64 0,AV.int .i64 0,AV.nils]) [(0,1,Opd.t 64),(1,1,Opd.t 70),(2,1,cI 255),(3,1,Opd.t 72)]),oN 15 (OpK.alloc 35016 74 (AV.agg (Row.gen [AV.int .i64 0,AV.int .i64 0,AV.int .i64 0,AV.nils]))),{ d:=none,g:=none,k:=OpK.store 4 (Opd.t 15) (Opd.t 73) }]) (ACode.gh [Ghost.keep [4,6,7,8,11,12,14,15]] (ACode.seq (ACode.seq (ACode.reg none [oN 75 (OpK.load false 1 (Opd.t 11)),mV 76 14,oN 77 (OpK.ncall true 0 103 [Opd.t 75,Opd.t 76]),mV 74 77,oN 78 (OpK.ext 0 (Opd.t 74)),oN 79 (OpK.ext 1 (Opd.t 74)),mV 16 78,mV 17 79]) (ACode.gh [Ghost.keep [4,6,7,8,11,12,14,15,16]] (ACode.seq (ACode.reg (some []) [mV 80 16,oN 81 (OpK.load false 1 (Opd.t 11)),oN 82 (OpK.len (Opd.t 81)),oN 83 (OpK.bin Go.BinOp.lss (Opd.t 80) (Opd.t 82)),mV 84 83,{ d:=some 85,g:=some (84,true),k:=OpK.load false 1 (Opd.t 11) },{ d:=some 86,g:=some (84,true),k:=OpK.mov (Opd.t 16) },{ d:=some 87,g:=some (84,true),k:=OpK.iaddr 1 (Opd.t 85) (Opd.t 86) },{ d:=some 88,g:=some (84,true),k:=OpK.load false 1 (Opd.t 87) },{ d:=some 89,g:=some (84,true),k:=OpK.mov (Opd.t 14) },{ d:=some 90,g:=some (84,true),k:=OpK.faddr 0 (Opd.t 8) },{ d:=some 91,g:=some (84,true),k:=OpK.faddr 0 (Opd.t 90) },{ d:=some 92,g:=some (84,true),k:=OpK.load false 1 (Opd.t 91) },{ d:=some 93,g:=some (84,true),k:=OpK.bin Go.BinOp.add (Opd.t 89) (Opd.t 92) },{ d:=some 94,g:=some (84,true),k:=OpK.bin Go.BinOp.lss (Opd.t 88) (Opd.t 93) },oN 95 (OpK.pick (Opd.t 84) (Opd.t 94) (Opd.c (AV.bool false)))]) (ACode.gh [Ghost.keep [4,6,7,8,11,12,14,15,16,95]] (ACode.cond (Opd.t 95) (ACode.reg none [oN 96 (OpK.load false 1 (Opd.t 11)),mV 97 16,oN 98 (OpK.iaddr 1 (Opd.t 96) (Opd.t 97)),oN 99 (OpK.load false 1 (Opd.t 98)),mV 100 14,oN 101 (OpK.bin Go.BinOp.sub (Opd.t 99) (Opd.t 100)),oN 102 (OpK.faddr 2 (Opd.t 15)),{ d:=none,g:=none,k:=OpK.store 1 (Opd.t 102) (Opd.t 101) }]) ACode.skip))))) (ACode.reg none [oN 103 (OpK.load false 1 (Opd.t 12)),oN 104 (OpK.load true 4 (Opd.t 15)),oN 105 (OpK.bslice 35106 74 4 [Opd.t 104]),oN 106 (OpK.append 35107 74 4 (Opd.t 103) (Opd.t 105)),{ d:=none,g:=none,k:=OpK.store 1 (Opd.t 12) (Opd.t 106) }])))))) }] }),(101003,{ base:=0,blks:=[Blk.row 55 1 (Row.gen [AV.list (.ints .i64 l7)])] }),(101004,{ base:=0,blks:=[Blk.row 3 1 (Row.gen [AV.int .i64 a])] })]
abbrev ZmP(a:Int)(b:Int)(c:Int)(d:Int)(l0:List Int)(b1:Bool)(l2:List Int)(l3:List Int)(l4:List Int)(b5:Bool)(l6:List Int)(l7:List Int):List AFrame×Zaa:=(ZbR a b c d l0 b1 l2 l3 l4 b5 l6 l7,Zbm a b c d l0 b1 l2 l3 l4 b5 l6 l7)
def Zbo(a b c d:Int)(l0:List Int)(b1:Bool)(l2 l3 l4:List Int)(b5:Bool)(l6 l7:List Int)(n8:Int)(x9:List AV):List AFrame:=[{ fn:=132,N:=31,env:=[(0,AV.yld 35901 1),(1,AV.ptr 101003 0 0 0),(2,AV.ptr 101004 0 0 0),(4,AV.int .i64 n8)],todo:=.code (ACode.gh [] Zrs)::Zwf,defs:=[],rnd:=none,ret:=false,res:=[] },{ fn:=35,N:=108,env:=[(4,AV.ptr 35005 0 0 0),(6,AV.nils),(7,AV.int .i64 0),(8,AV.ptr 35009 0 0 0),(10,AV.list (.ints .i64 l0)),(11,AV.ptr 35012 0 0 0),(12,AV.ptr 35013 0 0 0),(50,AV.bool b1),(51,AV.list (.ints .i64 l2)),(52,AV.ptr 35009 0 0 0),(53,AV.ptr 35009 0 0 0),(54,AV.int .i64 a),(55,AV.fn 132 [AV.ptr 101003 0 0 0,AV.ptr 101004 0 0 0])],todo:=[AItem.inRF 35901 1,AItem.inBlock 0, .code (ACode.seq (ACode.reg none [oN 107 (OpK.load false 1 (Opd.t 12)),mV 6 107,oN 7 (OpK.mov (cI 0))]) ACode.ret)],defs:=[(35901,0)],rnd:=none,ret:=false,res:=[ARes.tmp 6,ARes.tmp 7] }]
def Za7(a:Int)(b:Int)(c:Int)(d:Int)(l0:List Int)(b1:Bool)(l2:List Int)(l3:List Int)(l4:List Int)(b5:Bool)(l6:List Int)(l7:List Int)(n8:Int)(x9:List AV):Zaa:=[(35005,{ base:=0,blks:=[Blk.row 52 2 (Row.gen [AV.agg (Row.gen [AV.int .i64 c,AV.int .i64 d])])] }),(35009,{ base:=0,blks:=[Blk.row 132 2 (Row.gen [AV.agg (Row.gen [AV.int .i64 a,AV.int .i64 b])])] }),(35012,{ base:=0,blks:=[Blk.row 55 1 (Row.gen [AV.list (.ints .i64 l3)])] }),(35013,{ base:=0,blks:=[Blk.row 24 1 (Row.gen [AV.row 35107 0])] }),(35107,{ base:=0,blks:=[Blk.row 74 4 (Row.big (Sh.agg [Sh.int .i64,Sh.int .i64,Sh.int .i64,Sh.ints .i64]) x9)] }),(35901,{ base:=0,blks:=[Blk.dfr,Blk.lp { st:=RSt.ready,fn:=35,N:=108,env:=[(4,AV.ptr 35005 0 0 0),(6,AV.nils),(7,AV.int .i64 0),(8,AV.ptr 35009 0 0 0),(10,AV.list (.ints .i64 l4)),(11,AV.ptr 35012 0 0 0),(12,AV.ptr 35013 0 0 0),(50,AV.bool b5),(51,AV.list (.ints .i64 l6)),(52,AV.ptr 35009 0 0 0),(53,AV.ptr 35009 0 0 0),(54,AV.int .i64 a),(55,AV.fn 132 [AV.ptr 101003 0 0 0,AV.ptr 101004 0 0 0])],params:=[56],asg:=ACode.reg none [mV 13 56],body:=ACode.block 1 (ACode.seq (ACode.reg none [oN 57 (OpK.load false 1 (Opd.t 12)),oN 58 (OpK.len (Opd.t 57)),oN 59 (OpK.faddr 0 (Opd.t 8)),oN 60 (OpK.faddr 0 (Opd.t 59)),oN 61 (OpK.load false 1 (Opd.t 60)),oN 62 (OpK.bin Go.BinOp.mul (Opd.t 58) (Opd.t 61)),mV 14 62]) (ACode.gh [Ghost.keep [4,6,7,8,11,12,13,14]] (ACode.seq (ACode.reg (some [(0,9),(0,11),(1,9),(1,11),(2,9),(2,11),(3,9),(3,11),(4,9),(4,11),(5,9),(5,11),(6,9),(6,11),(7,9),(7,11),(8,11),(9,11),(10,11)]) [oN 63 (OpK.faddr 0 (Opd.t 4)),oN 64 (OpK.load false 1 (Opd.t 63)),oN 65 (OpK.faddr 1 (Opd.t 4)),oN 66 (OpK.load false 1 (Opd.t 65)),oN 67 (OpK.load false 1 (Opd.t 12)),oN 68 (OpK.len (Opd.t 67)),oN 69 (OpK.bin Go.BinOp.add (Opd.t 66) (Opd.t 68)),oN 70 (OpK.bin Go.BinOp.rem (Opd.t 69) (cI 64)),mV 71 13,oN 72 (OpK.ncall true 35073 102 [Opd.t 71]),oN 73 (OpK.build (Row.gen [AV.int .i64 0,AV.int .i64 0,AV.int .i64 0,AV.nils]) [(0,1,Opd.t 64),(1,1,Opd.t 70),(2,1,cI 255),(3,1,Opd.t 72)]),oN 15 (OpK.alloc 35016 74 (AV.agg (Row.gen [AV.int .i64 0,AV.int .i64 0,AV.int .i64 0,AV.nils]))),{ d:=none,g:=none,k:=OpK.store 4 (Opd.t 15) (Opd.t 73) }]) (ACode.gh [Ghost.keep [4,6,7,8,11,12,14,15]] (ACode.seq (ACode.seq (ACode.reg none [oN 75 (OpK.load false 1 (Opd.t 11)),mV 76 14,oN 77 (OpK.ncall true 0 103 [Opd.t 75,Opd.t 76]),mV 74 77,oN 78 (OpK.ext 0 (Opd.t 74)),oN 79 (OpK.ext 1 (Opd.t 74)),mV 16 78,mV 17 79]) (ACode.gh [Ghost.keep [4,6,7,8,11,12,14,15,16]] (ACode.seq (ACode.reg (some []) [mV 80 16,oN 81 (OpK.load false 1 (Opd.t 11)),oN 82 (OpK.len (Opd.t 81)),oN 83 (OpK.bin Go.BinOp.lss (Opd.t 80) (Opd.t 82)),mV 84 83,{ d:=some 85,g:=some (84,true),k:=OpK.load false 1 (Opd.t 11) },{ d:=some 86,g:=some (84,true),k:=OpK.mov (Opd.t 16) },{ d:=some 87,g:=some (84,true),k:=OpK.iaddr 1 (Opd.t 85) (Opd.t 86) },{ d:=some 88,g:=some (84,true),k:=OpK.load false 1 (Opd.t 87) },{ d:=some 89,g:=some (84,true),k:=OpK.mov (Opd.t 14) },{ d:=some 90,g:=some (84,true),k:=OpK.faddr 0 (Opd.t 8) },{ d:=some 91,g:=some (84,true),k:=OpK.faddr 0 (Opd.t 90) },{ d:=some 92,g:=some (84,true),k:=OpK.load false 1 (Opd.t 91) },{ d:=some 93,g:=some (84,true),k:=OpK.bin Go.BinOp.add (Opd.t 89) (Opd.t 92) },{ d:=some 94,g:=some (84,true),k:=OpK.bin Go.BinOp.lss (Opd.t 88) (Opd.t 93) },oN 95 (OpK.pick (Opd.t 84) (Opd.t 94) (Opd.c (AV.bool false)))]) (ACode.gh [Ghost.keep [4,6,7,8,11,12,14,15,16,95]] (ACode.cond (Opd.t 95) (ACode.reg none [oN 96 (OpK.load false 1 (Opd.t 11)),mV 97 16,oN 98 (OpK.iaddr 1 (Opd.t 96) (Opd.t 97)),oN 99 (OpK.load false 1 (Opd.t 98)),mV 100 14,oN 101 (OpK.bin Go.BinOp.sub (Opd.t 99) (Opd.t 100)),oN 102 (OpK.faddr 2 (Opd.t 15)),{ d:=none,g:=none,k:=OpK.store 1 (Opd.t 102) (Opd.t 101) }]) ACode.skip))))) (ACode.reg none [oN 103 (OpK.load false 1 (Opd.t 12)),oN 104 (OpK.load true 4 (Opd.t 15)),oN 105 (OpK.bslice 35106 74 4 [Opd.t 104]),oN 106 (OpK.append 35107 74 4 (Opd.t 103) (Opd.t 105)),{ d:=none,g:=none,k:=OpK.store 1 (Opd.t 12) (Opd.t 106) }])))))) }] }),(101003,{ base:=0,blks:=[Blk.row 55 1 (Row.gen [AV.list (.ints .i64 l7)])] }),(101004,{ base:=0,blks:=[Blk.row 3 1 (Row.gen [AV.int .i64 a])] })]
abbrev ZbZ(a:Int)(b:Int)(c:Int)(d:Int)(l0:List Int)(b1:Bool)(l2:List Int)(l3:List Int)(l4:List Int)(b5:Bool)(l6:List Int)(l7:List Int)(n8:Int)(x9:List AV):List AFrame×Zaa:=(Zbo a b c d l0 b1 l2 l3 l4 b5 l6 l7 n8 x9,Za7 a b c d l0 b1 l2 l3 l4 b5 l6 l7 n8 x9)
theorem ZM1(A:Ar)(a b c d:Int)(ps:List AV):Zaz A tab BD5 81 [true] 35 (ZJC a b c d ps) []=
 some (tr [4,3,0,0,15,0,32] [A.not (A.eq (Zau [Zau [Zat a b,ZaQ b c],Zal (decide (0≤d∧d≤63)) 2,ZbV ps]) 0),decide (List.length [Zau [Zat a b,ZaQ b c],Zal (decide (0≤d∧d≤63)) 2,ZbV ps]≤1000000),List.all [AV.int .i64 (Zau [Zat a b,ZaQ b c]),AV.int .i64 (Zal (decide (0≤d∧d≤63)) 2),AV.int .i64 (ZbV ps)] fun x=>AV.bx x&&Nat.beq (Zac A x) 1,decide (ZbW ps=true),decide (List.length [Zat a b,ZaQ b c]≤1000000),List.all [AV.int .i64 (Zat a b),AV.int .i64 (ZaQ b c)] fun x=>AV.bx x&&Nat.beq (Zac A x) 1],
  AV.tup [AV.nils,AV.int .i64 (Zau [Zau [Zat a b,ZaQ b c],Zal (decide (0≤d∧d≤63)) 2,ZbV ps])],none):=by kernel_rfl
theorem ZNe(A:Ar)(a b c d:Int)(ps:List AV):Zaz A tab BD5 108 [false,true] 35 (ZJC a b c d ps) []=
 some (tr [3,1,11,0,2,3,0,0,15,0,32] [A.lt 40 (A.quo (A.int (A.len (Zag (Za1 a ps)))) a),Zab (A.not (A.eq a 0)) (A.inR .i64 (A.quo (A.int (A.len (Zag (Za1 a ps)))) a)),decide (ZBN (Za1 a ps)=true),decide ((3<a∧a≤1000)∧ZbW ps=true),!A.not (A.eq (Zau [Zau [Zat a b,ZaQ b c],Zal (decide (0≤d∧d≤63)) 2,ZbV ps]) 0),decide (List.length [Zau [Zat a b,ZaQ b c],Zal (decide (0≤d∧d≤63)) 2,ZbV ps]≤1000000),List.all [AV.int .i64 (Zau [Zat a b,ZaQ b c]),AV.int .i64 (Zal (decide (0≤d∧d≤63)) 2),AV.int .i64 (ZbV ps)] fun x=>AV.bx x&&Nat.beq (Zac A x) 1,decide (ZbW ps=true),decide (List.length [Zat a b,ZaQ b c]≤1000000),List.all [AV.int .i64 (Zat a b),AV.int .i64 (ZaQ b c)] fun x=>AV.bx x&&Nat.beq (Zac A x) 1],
  AV.tup [AV.nils,AV.int .i64 8],none):=by kernel_rfl
theorem ZKy(A:Ar)(a b c d:Int)(ps:List AV):Zad A tab BD5 146 [false,false,false] (ZJC a b c d ps) []=
 some (tr [4,10,1,11,0,2,3,0,0,15,0,32] [!A.lt a 1,!A.lt 40 (A.quo (A.int (A.len (Zag (Za1 a ps)))) a),Zab (A.not (A.eq a 0)) (A.inR .i64 (A.quo (A.int (A.len (Zag (Za1 a ps)))) a)),decide (ZBN (Za1 a ps)=true),decide ((3<a∧a≤1000)∧ZbW ps=true),!A.not (A.eq (Zau [Zau [Zat a b,ZaQ b c],Zal (decide (0≤d∧d≤63)) 2,ZbV ps]) 0),decide (List.length [Zau [Zat a b,ZaQ b c],Zal (decide (0≤d∧d≤63)) 2,ZbV ps]≤1000000),List.all [AV.int .i64 (Zau [Zat a b,ZaQ b c]),AV.int .i64 (Zal (decide (0≤d∧d≤63)) 2),AV.int .i64 (ZbV ps)] fun x=>AV.bx x&&Nat.beq (Zac A x) 1,decide (ZbW ps=true),decide (List.length [Zat a b,ZaQ b c]≤1000000),List.all [AV.int .i64 (Zat a b),AV.int .i64 (ZaQ b c)] fun x=>AV.bx x&&Nat.beq (Zac A x) 1],
  ZmP (a) (b) (c) (d) (Zag (Za1 a ps)) (A.lt 40 (A.quo (A.int (A.len (Zag (Za1 a ps)))) a)) (Zag (Za1 a ps)) (Zah 0 (Za1 a ps)) (Zag (Za1 a ps)) (A.lt 40 (A.quo (A.int (A.len (Zag (Za1 a ps)))) a)) (Zag (Za1 a ps)) (Zag (Za1 a ps))):=by kernel_rfl
theorem ZKu(A:Ar)(a b c d:Int)(l0:List Int)(b1:Bool)(l2 l3 l4:List Int)(b5:Bool)(l6 l7:List Int):Zad A tab BD5 98 [true,true,true,false] (ZbR a b c d l0 b1 l2 l3 l4 b5 l6 l7) (Zbm a b c d l0 b1 l2 l3 l4 b5 l6 l7)=
 some (tr [1,2,2,0,4,2,2,2,5,2,10,5,1,0,7,6,0,2,8,3,4] [A.inR .i64 (A.add 0 a),!A.not true,Zab (Nat.ble (A.lenA [AV.agg (Row.gen [.int .i64 c, .int .i64 (A.rem (A.add d (A.int 0)) 64), .int .i64 (A.sub (A.nth l3 (A.nat ↑(loS l3 (A.mul (A.int 0) a)))) (A.mul (A.int 0) a)), .list (.ints .i64 (A.sub3 l7 (A.nat 0) (A.nat (A.add 0 (A.min a (A.int (A.len (A.sub3 l7 (A.nat 0) (A.len l7-A.nat 0))))))-A.nat 0)))])]) 4294967296) (Nat.blt 0 (A.lenA [AV.agg (Row.gen [.int .i64 c, .int .i64 (A.rem (A.add d (A.int 0)) 64), .int .i64 (A.sub (A.nth l3 (A.nat ↑(loS l3 (A.mul (A.int 0) a)))) (A.mul (A.int 0) a)), .list (.ints .i64 (A.sub3 l7 (A.nat 0) (A.nat (A.add 0 (A.min a (A.int (A.len (A.sub3 l7 (A.nat 0) (A.len l7-A.nat 0))))))-A.nat 0)))])])),List.all [AV.agg (Row.gen [.int .i64 c, .int .i64 (A.rem (A.add d (A.int 0)) 64), .int .i64 (A.sub (A.nth l3 (A.nat ↑(loS l3 (A.mul (A.int 0) a)))) (A.mul (A.int 0) a)), .list (.ints .i64 (A.sub3 l7 (A.nat 0) (A.nat (A.add 0 (A.min a (A.int (A.len (A.sub3 l7 (A.nat 0) (A.len l7-A.nat 0))))))-A.nat 0)))])] fun x=>AV.bx x&&Nat.beq (Zac A x) 4,A.inR .i64 (A.sub (A.nth l3 (A.nat ↑(loS l3 (A.mul (A.int 0) a)))) (A.mul (A.int 0) a)),Zab (Zab (A.le 0 ↑(loS l3 (A.mul (A.int 0) a))) (Nat.blt (A.nat ↑(loS l3 (A.mul (A.int 0) a))) (A.len l3))) true,A.lt (A.nth l3 (A.nat ↑(loS l3 (A.mul (A.int 0) a)))) (A.add (A.mul (A.int 0) a) a),A.inR .i64 (A.add (A.mul (A.int 0) a) a),Zab (Zab (A.le 0 ↑(loS l3 (A.mul (A.int 0) a))) (Nat.blt (A.nat ↑(loS l3 (A.mul (A.int 0) a))) (A.len l3))) true,A.lt (↑(loS l3 (A.mul (A.int 0) a))) (A.int (A.len l3)),decide (Zmz l3=true),decide (List.length (A.sub3 l7 (A.nat 0) (A.nat (A.add 0 (A.min a (A.int (A.len (A.sub3 l7 (A.nat 0) (A.len l7-A.nat 0))))))-A.nat 0))≤4294967296),A.not (A.eq 64 0),A.inR .i64 (A.add d (A.int 0)),A.inR .i64 (A.mul (A.int 0) a),Zab (Zab (A.le 0 0) (A.le 0 (A.add 0 (A.min a (A.int (A.len (A.sub3 l7 (A.nat 0) (A.len l7-A.nat 0)))))))) (Zab (Zab (Nat.ble (A.nat 0) (A.nat (A.add 0 (A.min a (A.int (A.len (A.sub3 l7 (A.nat 0) (A.len l7-A.nat 0)))))))) (Nat.ble (A.nat (A.add 0 (A.min a (A.int (A.len (A.sub3 l7 (A.nat 0) (A.len l7-A.nat 0))))))) (A.len l7))) (Zab (A.le 0 (A.add 0 (A.min a (A.int (A.len (A.sub3 l7 (A.nat 0) (A.len l7-A.nat 0))))))) (Zab (Nat.ble (A.nat (A.add 0 (A.min a (A.int (A.len (A.sub3 l7 (A.nat 0) (A.len l7-A.nat 0))))))) (A.nat (A.add 0 (A.min a (A.int (A.len (A.sub3 l7 (A.nat 0) (A.len l7-A.nat 0)))))))) (Nat.ble (A.nat (A.add 0 (A.min a (A.int (A.len (A.sub3 l7 (A.nat 0) (A.len l7-A.nat 0))))))) (A.len l7))))),A.inR .i64 (A.add 0 (A.min a (A.int (A.len (A.sub3 l7 (A.nat 0) (A.len l7-A.nat 0)))))),A.inR .i64 (A.add 0 (A.min a (A.int (A.len (A.sub3 l7 (A.nat 0) (A.len l7-A.nat 0)))))),Zab (Zab (A.le 0 0) true) (Zab (Zab (Nat.ble (A.nat 0) (A.len l7)) (Nat.ble (A.len l7) (A.len l7))) true),A.lt 0 (A.int (A.len l7))],
  ZbZ (a) (b) (c) (d) (l0) (b1) (l2) (l3) (l4) (b5) (l6) (l7) (A.add 0 a) ([AV.agg (Row.gen [.int .i64 c, .int .i64 (A.rem (A.add d (A.int 0)) 64), .int .i64 (A.sub (A.nth l3 (A.nat ↑(loS l3 (A.mul (A.int 0) a)))) (A.mul (A.int 0) a)), .list (.ints .i64 (A.sub3 l7 (A.nat 0) (A.nat (A.add 0 (A.min a (A.int (A.len (A.sub3 l7 (A.nat 0) (A.len l7-A.nat 0))))))-A.nat 0)))])])):=by kernel_rfl
theorem ZNc(A:Ar)(a b c d:Int)(l0:List Int)(b1:Bool)(l2 l3 l4:List Int)(b5:Bool)(l6 l7:List Int):Zad A tab BD5 89 [true,true,false,false] (ZbR a b c d l0 b1 l2 l3 l4 b5 l6 l7) (Zbm a b c d l0 b1 l2 l3 l4 b5 l6 l7)=
 some (tr [1,2,2,0,2,2,5,2,10,5,1,0,7,6,0,2,8,3,4] [A.inR .i64 (A.add 0 a),!A.not true,Zab (Nat.ble (A.lenA [AV.agg (Row.gen [.int .i64 c, .int .i64 (A.rem (A.add d (A.int 0)) 64), .int .i64 255, .list (.ints .i64 (A.sub3 l7 (A.nat 0) (A.nat (A.add 0 (A.min a (A.int (A.len (A.sub3 l7 (A.nat 0) (A.len l7-A.nat 0))))))-A.nat 0)))])]) 4294967296) (Nat.blt 0 (A.lenA [AV.agg (Row.gen [.int .i64 c, .int .i64 (A.rem (A.add d (A.int 0)) 64), .int .i64 255, .list (.ints .i64 (A.sub3 l7 (A.nat 0) (A.nat (A.add 0 (A.min a (A.int (A.len (A.sub3 l7 (A.nat 0) (A.len l7-A.nat 0))))))-A.nat 0)))])])),List.all [AV.agg (Row.gen [.int .i64 c, .int .i64 (A.rem (A.add d (A.int 0)) 64), .int .i64 255, .list (.ints .i64 (A.sub3 l7 (A.nat 0) (A.nat (A.add 0 (A.min a (A.int (A.len (A.sub3 l7 (A.nat 0) (A.len l7-A.nat 0))))))-A.nat 0)))])] fun x=>AV.bx x&&Nat.beq (Zac A x) 4,!A.lt (A.nth l3 (A.nat ↑(loS l3 (A.mul (A.int 0) a)))) (A.add (A.mul (A.int 0) a) a),A.inR .i64 (A.add (A.mul (A.int 0) a) a),Zab (Zab (A.le 0 ↑(loS l3 (A.mul (A.int 0) a))) (Nat.blt (A.nat ↑(loS l3 (A.mul (A.int 0) a))) (A.len l3))) true,A.lt (↑(loS l3 (A.mul (A.int 0) a))) (A.int (A.len l3)),decide (Zmz l3=true),decide (List.length (A.sub3 l7 (A.nat 0) (A.nat (A.add 0 (A.min a (A.int (A.len (A.sub3 l7 (A.nat 0) (A.len l7-A.nat 0))))))-A.nat 0))≤4294967296),A.not (A.eq 64 0),A.inR .i64 (A.add d (A.int 0)),A.inR .i64 (A.mul (A.int 0) a),Zab (Zab (A.le 0 0) (A.le 0 (A.add 0 (A.min a (A.int (A.len (A.sub3 l7 (A.nat 0) (A.len l7-A.nat 0)))))))) (Zab (Zab (Nat.ble (A.nat 0) (A.nat (A.add 0 (A.min a (A.int (A.len (A.sub3 l7 (A.nat 0) (A.len l7-A.nat 0)))))))) (Nat.ble (A.nat (A.add 0 (A.min a (A.int (A.len (A.sub3 l7 (A.nat 0) (A.len l7-A.nat 0))))))) (A.len l7))) (Zab (A.le 0 (A.add 0 (A.min a (A.int (A.len (A.sub3 l7 (A.nat 0) (A.len l7-A.nat 0))))))) (Zab (Nat.ble (A.nat (A.add 0 (A.min a (A.int (A.len (A.sub3 l7 (A.nat 0) (A.len l7-A.nat 0))))))) (A.nat (A.add 0 (A.min a (A.int (A.len (A.sub3 l7 (A.nat 0) (A.len l7-A.nat 0)))))))) (Nat.ble (A.nat (A.add 0 (A.min a (A.int (A.len (A.sub3 l7 (A.nat 0) (A.len l7-A.nat 0))))))) (A.len l7))))),A.inR .i64 (A.add 0 (A.min a (A.int (A.len (A.sub3 l7 (A.nat 0) (A.len l7-A.nat 0)))))),A.inR .i64 (A.add 0 (A.min a (A.int (A.len (A.sub3 l7 (A.nat 0) (A.len l7-A.nat 0)))))),Zab (Zab (A.le 0 0) true) (Zab (Zab (Nat.ble (A.nat 0) (A.len l7)) (Nat.ble (A.len l7) (A.len l7))) true),A.lt 0 (A.int (A.len l7))],
  ZbZ (a) (b) (c) (d) (l0) (b1) (l2) (l3) (l4) (b5) (l6) (l7) (A.add 0 a) ([AV.agg (Row.gen [.int .i64 c, .int .i64 (A.rem (A.add d (A.int 0)) 64), .int .i64 255, .list (.ints .i64 (A.sub3 l7 (A.nat 0) (A.nat (A.add 0 (A.min a (A.int (A.len (A.sub3 l7 (A.nat 0) (A.len l7-A.nat 0))))))-A.nat 0)))])])):=by kernel_rfl
theorem ZK7(A:Ar)(a b c d:Int)(l0:List Int)(b1:Bool)(l2 l3 l4:List Int)(b5:Bool)(l6 l7:List Int):Zad A tab BD5 89 [true,false,false,false] (ZbR a b c d l0 b1 l2 l3 l4 b5 l6 l7) (Zbm a b c d l0 b1 l2 l3 l4 b5 l6 l7)=
 some (tr [1,2,2,0,14,10,5,1,0,7,6,0,2,8,3,4] [A.inR .i64 (A.add 0 a),!A.not true,Zab (Nat.ble (A.lenA [AV.agg (Row.gen [.int .i64 c, .int .i64 (A.rem (A.add d (A.int 0)) 64), .int .i64 255, .list (.ints .i64 (A.sub3 l7 (A.nat 0) (A.nat (A.add 0 (A.min a (A.int (A.len (A.sub3 l7 (A.nat 0) (A.len l7-A.nat 0))))))-A.nat 0)))])]) 4294967296) (Nat.blt 0 (A.lenA [AV.agg (Row.gen [.int .i64 c, .int .i64 (A.rem (A.add d (A.int 0)) 64), .int .i64 255, .list (.ints .i64 (A.sub3 l7 (A.nat 0) (A.nat (A.add 0 (A.min a (A.int (A.len (A.sub3 l7 (A.nat 0) (A.len l7-A.nat 0))))))-A.nat 0)))])])),List.all [AV.agg (Row.gen [.int .i64 c, .int .i64 (A.rem (A.add d (A.int 0)) 64), .int .i64 255, .list (.ints .i64 (A.sub3 l7 (A.nat 0) (A.nat (A.add 0 (A.min a (A.int (A.len (A.sub3 l7 (A.nat 0) (A.len l7-A.nat 0))))))-A.nat 0)))])] fun x=>AV.bx x&&Nat.beq (Zac A x) 4,!A.lt (↑(loS l3 (A.mul (A.int 0) a))) (A.int (A.len l3)),decide (Zmz l3=true),decide (List.length (A.sub3 l7 (A.nat 0) (A.nat (A.add 0 (A.min a (A.int (A.len (A.sub3 l7 (A.nat 0) (A.len l7-A.nat 0))))))-A.nat 0))≤4294967296),A.not (A.eq 64 0),A.inR .i64 (A.add d (A.int 0)),A.inR .i64 (A.mul (A.int 0) a),Zab (Zab (A.le 0 0) (A.le 0 (A.add 0 (A.min a (A.int (A.len (A.sub3 l7 (A.nat 0) (A.len l7-A.nat 0)))))))) (Zab (Zab (Nat.ble (A.nat 0) (A.nat (A.add 0 (A.min a (A.int (A.len (A.sub3 l7 (A.nat 0) (A.len l7-A.nat 0)))))))) (Nat.ble (A.nat (A.add 0 (A.min a (A.int (A.len (A.sub3 l7 (A.nat 0) (A.len l7-A.nat 0))))))) (A.len l7))) (Zab (A.le 0 (A.add 0 (A.min a (A.int (A.len (A.sub3 l7 (A.nat 0) (A.len l7-A.nat 0))))))) (Zab (Nat.ble (A.nat (A.add 0 (A.min a (A.int (A.len (A.sub3 l7 (A.nat 0) (A.len l7-A.nat 0))))))) (A.nat (A.add 0 (A.min a (A.int (A.len (A.sub3 l7 (A.nat 0) (A.len l7-A.nat 0)))))))) (Nat.ble (A.nat (A.add 0 (A.min a (A.int (A.len (A.sub3 l7 (A.nat 0) (A.len l7-A.nat 0))))))) (A.len l7))))),A.inR .i64 (A.add 0 (A.min a (A.int (A.len (A.sub3 l7 (A.nat 0) (A.len l7-A.nat 0)))))),A.inR .i64 (A.add 0 (A.min a (A.int (A.len (A.sub3 l7 (A.nat 0) (A.len l7-A.nat 0)))))),Zab (Zab (A.le 0 0) true) (Zab (Zab (Nat.ble (A.nat 0) (A.len l7)) (Nat.ble (A.len l7) (A.len l7))) true),A.lt 0 (A.int (A.len l7))],
  ZbZ (a) (b) (c) (d) (l0) (b1) (l2) (l3) (l4) (b5) (l6) (l7) (A.add 0 a) ([AV.agg (Row.gen [.int .i64 c, .int .i64 (A.rem (A.add d (A.int 0)) 64), .int .i64 255, .list (.ints .i64 (A.sub3 l7 (A.nat 0) (A.nat (A.add 0 (A.min a (A.int (A.len (A.sub3 l7 (A.nat 0) (A.len l7-A.nat 0))))))-A.nat 0)))])])):=by kernel_rfl
theorem ZLO(A:Ar)(a b c d:Int)(l0:List Int)(b1:Bool)(l2 l3 l4:List Int)(b5:Bool)(l6 l7:List Int):Zaz A tab BD5 23 [false] 35 (ZbR a b c d l0 b1 l2 l3 l4 b5 l6 l7) (Zbm a b c d l0 b1 l2 l3 l4 b5 l6 l7)=
 some (tr [5,4] [!A.lt 0 (A.int (A.len l7))],
  AV.tup [AV.nils,AV.int .i64 0],none):=by kernel_rfl
theorem ZMj(A:Ar)(a b c d:Int)(l0:List Int)(b1:Bool)(l2 l3 l4:List Int)(b5:Bool)(l6 l7:List Int)(n8:Int)(x9:List AV):Zad A tab BD5 98 [true,true,true,false] (Zbo a b c d l0 b1 l2 l3 l4 b5 l6 l7 n8 x9) (Za7 a b c d l0 b1 l2 l3 l4 b5 l6 l7 n8 x9)=
 some (tr [1,2,2,0,4,2,2,2,5,2,10,5,1,0,7,6,0,2,8,3,4] [A.inR .i64 (A.add n8 a),!A.not true,Nat.ble (A.lenA x9+A.lenA [AV.agg (Row.gen [.int .i64 c, .int .i64 (A.rem (A.add d (A.int (A.lenA x9))) 64), .int .i64 (A.sub (A.nth l3 (A.nat ↑(loS l3 (A.mul (A.int (A.lenA x9)) a)))) (A.mul (A.int (A.lenA x9)) a)), .list (.ints .i64 (A.sub3 l7 (A.nat n8) (A.nat (A.add n8 (A.min a (A.int (A.len (A.sub3 l7 (A.nat n8) (A.len l7-A.nat n8))))))-A.nat n8)))])]) 4294967296,List.all [AV.agg (Row.gen [.int .i64 c, .int .i64 (A.rem (A.add d (A.int (A.lenA x9))) 64), .int .i64 (A.sub (A.nth l3 (A.nat ↑(loS l3 (A.mul (A.int (A.lenA x9)) a)))) (A.mul (A.int (A.lenA x9)) a)), .list (.ints .i64 (A.sub3 l7 (A.nat n8) (A.nat (A.add n8 (A.min a (A.int (A.len (A.sub3 l7 (A.nat n8) (A.len l7-A.nat n8))))))-A.nat n8)))])] fun x=>AV.bx x&&Nat.beq (Zac A x) 4,A.inR .i64 (A.sub (A.nth l3 (A.nat ↑(loS l3 (A.mul (A.int (A.lenA x9)) a)))) (A.mul (A.int (A.lenA x9)) a)),Zab (Zab (A.le 0 ↑(loS l3 (A.mul (A.int (A.lenA x9)) a))) (Nat.blt (A.nat ↑(loS l3 (A.mul (A.int (A.lenA x9)) a))) (A.len l3))) true,A.lt (A.nth l3 (A.nat ↑(loS l3 (A.mul (A.int (A.lenA x9)) a)))) (A.add (A.mul (A.int (A.lenA x9)) a) a),A.inR .i64 (A.add (A.mul (A.int (A.lenA x9)) a) a),Zab (Zab (A.le 0 ↑(loS l3 (A.mul (A.int (A.lenA x9)) a))) (Nat.blt (A.nat ↑(loS l3 (A.mul (A.int (A.lenA x9)) a))) (A.len l3))) true,A.lt (↑(loS l3 (A.mul (A.int (A.lenA x9)) a))) (A.int (A.len l3)),decide (Zmz l3=true),decide (List.length (A.sub3 l7 (A.nat n8) (A.nat (A.add n8 (A.min a (A.int (A.len (A.sub3 l7 (A.nat n8) (A.len l7-A.nat n8))))))-A.nat n8))≤4294967296),A.not (A.eq 64 0),A.inR .i64 (A.add d (A.int (A.lenA x9))),A.inR .i64 (A.mul (A.int (A.lenA x9)) a),Zab (Zab (A.le 0 n8) (A.le 0 (A.add n8 (A.min a (A.int (A.len (A.sub3 l7 (A.nat n8) (A.len l7-A.nat n8)))))))) (Zab (Zab (Nat.ble (A.nat n8) (A.nat (A.add n8 (A.min a (A.int (A.len (A.sub3 l7 (A.nat n8) (A.len l7-A.nat n8)))))))) (Nat.ble (A.nat (A.add n8 (A.min a (A.int (A.len (A.sub3 l7 (A.nat n8) (A.len l7-A.nat n8))))))) (A.len l7))) (Zab (A.le 0 (A.add n8 (A.min a (A.int (A.len (A.sub3 l7 (A.nat n8) (A.len l7-A.nat n8))))))) (Zab (Nat.ble (A.nat (A.add n8 (A.min a (A.int (A.len (A.sub3 l7 (A.nat n8) (A.len l7-A.nat n8))))))) (A.nat (A.add n8 (A.min a (A.int (A.len (A.sub3 l7 (A.nat n8) (A.len l7-A.nat n8)))))))) (Nat.ble (A.nat (A.add n8 (A.min a (A.int (A.len (A.sub3 l7 (A.nat n8) (A.len l7-A.nat n8))))))) (A.len l7))))),A.inR .i64 (A.add n8 (A.min a (A.int (A.len (A.sub3 l7 (A.nat n8) (A.len l7-A.nat n8)))))),A.inR .i64 (A.add n8 (A.min a (A.int (A.len (A.sub3 l7 (A.nat n8) (A.len l7-A.nat n8)))))),Zab (Zab (A.le 0 n8) true) (Zab (Zab (Nat.ble (A.nat n8) (A.len l7)) (Nat.ble (A.len l7) (A.len l7))) true),A.lt n8 (A.int (A.len l7))],
  ZbZ (a) (b) (c) (d) (l0) (b1) (l2) (l3) (l4) (b5) (l6) (l7) (A.add n8 a) (A.appA x9 [AV.agg (Row.gen [.int .i64 c, .int .i64 (A.rem (A.add d (A.int (A.lenA x9))) 64), .int .i64 (A.sub (A.nth l3 (A.nat ↑(loS l3 (A.mul (A.int (A.lenA x9)) a)))) (A.mul (A.int (A.lenA x9)) a)), .list (.ints .i64 (A.sub3 l7 (A.nat n8) (A.nat (A.add n8 (A.min a (A.int (A.len (A.sub3 l7 (A.nat n8) (A.len l7-A.nat n8))))))-A.nat n8)))])])):=by kernel_rfl
theorem ZKo(A:Ar)(a b c d:Int)(l0:List Int)(b1:Bool)(l2 l3 l4:List Int)(b5:Bool)(l6 l7:List Int)(n8:Int)(x9:List AV):Zad A tab BD5 89 [true,true,false,false] (Zbo a b c d l0 b1 l2 l3 l4 b5 l6 l7 n8 x9) (Za7 a b c d l0 b1 l2 l3 l4 b5 l6 l7 n8 x9)=
 some (tr [1,2,2,0,2,2,5,2,10,5,1,0,7,6,0,2,8,3,4] [A.inR .i64 (A.add n8 a),!A.not true,Nat.ble (A.lenA x9+A.lenA [AV.agg (Row.gen [.int .i64 c, .int .i64 (A.rem (A.add d (A.int (A.lenA x9))) 64), .int .i64 255, .list (.ints .i64 (A.sub3 l7 (A.nat n8) (A.nat (A.add n8 (A.min a (A.int (A.len (A.sub3 l7 (A.nat n8) (A.len l7-A.nat n8))))))-A.nat n8)))])]) 4294967296,List.all [AV.agg (Row.gen [.int .i64 c, .int .i64 (A.rem (A.add d (A.int (A.lenA x9))) 64), .int .i64 255, .list (.ints .i64 (A.sub3 l7 (A.nat n8) (A.nat (A.add n8 (A.min a (A.int (A.len (A.sub3 l7 (A.nat n8) (A.len l7-A.nat n8))))))-A.nat n8)))])] fun x=>AV.bx x&&Nat.beq (Zac A x) 4,!A.lt (A.nth l3 (A.nat ↑(loS l3 (A.mul (A.int (A.lenA x9)) a)))) (A.add (A.mul (A.int (A.lenA x9)) a) a),A.inR .i64 (A.add (A.mul (A.int (A.lenA x9)) a) a),Zab (Zab (A.le 0 ↑(loS l3 (A.mul (A.int (A.lenA x9)) a))) (Nat.blt (A.nat ↑(loS l3 (A.mul (A.int (A.lenA x9)) a))) (A.len l3))) true,A.lt (↑(loS l3 (A.mul (A.int (A.lenA x9)) a))) (A.int (A.len l3)),decide (Zmz l3=true),decide (List.length (A.sub3 l7 (A.nat n8) (A.nat (A.add n8 (A.min a (A.int (A.len (A.sub3 l7 (A.nat n8) (A.len l7-A.nat n8))))))-A.nat n8))≤4294967296),A.not (A.eq 64 0),A.inR .i64 (A.add d (A.int (A.lenA x9))),A.inR .i64 (A.mul (A.int (A.lenA x9)) a),Zab (Zab (A.le 0 n8) (A.le 0 (A.add n8 (A.min a (A.int (A.len (A.sub3 l7 (A.nat n8) (A.len l7-A.nat n8)))))))) (Zab (Zab (Nat.ble (A.nat n8) (A.nat (A.add n8 (A.min a (A.int (A.len (A.sub3 l7 (A.nat n8) (A.len l7-A.nat n8)))))))) (Nat.ble (A.nat (A.add n8 (A.min a (A.int (A.len (A.sub3 l7 (A.nat n8) (A.len l7-A.nat n8))))))) (A.len l7))) (Zab (A.le 0 (A.add n8 (A.min a (A.int (A.len (A.sub3 l7 (A.nat n8) (A.len l7-A.nat n8))))))) (Zab (Nat.ble (A.nat (A.add n8 (A.min a (A.int (A.len (A.sub3 l7 (A.nat n8) (A.len l7-A.nat n8))))))) (A.nat (A.add n8 (A.min a (A.int (A.len (A.sub3 l7 (A.nat n8) (A.len l7-A.nat n8)))))))) (Nat.ble (A.nat (A.add n8 (A.min a (A.int (A.len (A.sub3 l7 (A.nat n8) (A.len l7-A.nat n8))))))) (A.len l7))))),A.inR .i64 (A.add n8 (A.min a (A.int (A.len (A.sub3 l7 (A.nat n8) (A.len l7-A.nat n8)))))),A.inR .i64 (A.add n8 (A.min a (A.int (A.len (A.sub3 l7 (A.nat n8) (A.len l7-A.nat n8)))))),Zab (Zab (A.le 0 n8) true) (Zab (Zab (Nat.ble (A.nat n8) (A.len l7)) (Nat.ble (A.len l7) (A.len l7))) true),A.lt n8 (A.int (A.len l7))],
  ZbZ (a) (b) (c) (d) (l0) (b1) (l2) (l3) (l4) (b5) (l6) (l7) (A.add n8 a) (A.appA x9 [AV.agg (Row.gen [.int .i64 c, .int .i64 (A.rem (A.add d (A.int (A.lenA x9))) 64), .int .i64 255, .list (.ints .i64 (A.sub3 l7 (A.nat n8) (A.nat (A.add n8 (A.min a (A.int (A.len (A.sub3 l7 (A.nat n8) (A.len l7-A.nat n8))))))-A.nat n8)))])])):=by kernel_rfl
theorem ZMS(A:Ar)(a b c d:Int)(l0:List Int)(b1:Bool)(l2 l3 l4:List Int)(b5:Bool)(l6 l7:List Int)(n8:Int)(x9:List AV):Zad A tab BD5 89 [true,false,false,false] (Zbo a b c d l0 b1 l2 l3 l4 b5 l6 l7 n8 x9) (Za7 a b c d l0 b1 l2 l3 l4 b5 l6 l7 n8 x9)=
 some (tr [1,2,2,0,14,10,5,1,0,7,6,0,2,8,3,4] [A.inR .i64 (A.add n8 a),!A.not true,Nat.ble (A.lenA x9+A.lenA [AV.agg (Row.gen [.int .i64 c, .int .i64 (A.rem (A.add d (A.int (A.lenA x9))) 64), .int .i64 255, .list (.ints .i64 (A.sub3 l7 (A.nat n8) (A.nat (A.add n8 (A.min a (A.int (A.len (A.sub3 l7 (A.nat n8) (A.len l7-A.nat n8))))))-A.nat n8)))])]) 4294967296,List.all [AV.agg (Row.gen [.int .i64 c, .int .i64 (A.rem (A.add d (A.int (A.lenA x9))) 64), .int .i64 255, .list (.ints .i64 (A.sub3 l7 (A.nat n8) (A.nat (A.add n8 (A.min a (A.int (A.len (A.sub3 l7 (A.nat n8) (A.len l7-A.nat n8))))))-A.nat n8)))])] fun x=>AV.bx x&&Nat.beq (Zac A x) 4,!A.lt (↑(loS l3 (A.mul (A.int (A.lenA x9)) a))) (A.int (A.len l3)),decide (Zmz l3=true),decide (List.length (A.sub3 l7 (A.nat n8) (A.nat (A.add n8 (A.min a (A.int (A.len (A.sub3 l7 (A.nat n8) (A.len l7-A.nat n8))))))-A.nat n8))≤4294967296),A.not (A.eq 64 0),A.inR .i64 (A.add d (A.int (A.lenA x9))),A.inR .i64 (A.mul (A.int (A.lenA x9)) a),Zab (Zab (A.le 0 n8) (A.le 0 (A.add n8 (A.min a (A.int (A.len (A.sub3 l7 (A.nat n8) (A.len l7-A.nat n8)))))))) (Zab (Zab (Nat.ble (A.nat n8) (A.nat (A.add n8 (A.min a (A.int (A.len (A.sub3 l7 (A.nat n8) (A.len l7-A.nat n8)))))))) (Nat.ble (A.nat (A.add n8 (A.min a (A.int (A.len (A.sub3 l7 (A.nat n8) (A.len l7-A.nat n8))))))) (A.len l7))) (Zab (A.le 0 (A.add n8 (A.min a (A.int (A.len (A.sub3 l7 (A.nat n8) (A.len l7-A.nat n8))))))) (Zab (Nat.ble (A.nat (A.add n8 (A.min a (A.int (A.len (A.sub3 l7 (A.nat n8) (A.len l7-A.nat n8))))))) (A.nat (A.add n8 (A.min a (A.int (A.len (A.sub3 l7 (A.nat n8) (A.len l7-A.nat n8)))))))) (Nat.ble (A.nat (A.add n8 (A.min a (A.int (A.len (A.sub3 l7 (A.nat n8) (A.len l7-A.nat n8))))))) (A.len l7))))),A.inR .i64 (A.add n8 (A.min a (A.int (A.len (A.sub3 l7 (A.nat n8) (A.len l7-A.nat n8)))))),A.inR .i64 (A.add n8 (A.min a (A.int (A.len (A.sub3 l7 (A.nat n8) (A.len l7-A.nat n8)))))),Zab (Zab (A.le 0 n8) true) (Zab (Zab (Nat.ble (A.nat n8) (A.len l7)) (Nat.ble (A.len l7) (A.len l7))) true),A.lt n8 (A.int (A.len l7))],
  ZbZ (a) (b) (c) (d) (l0) (b1) (l2) (l3) (l4) (b5) (l6) (l7) (A.add n8 a) (A.appA x9 [AV.agg (Row.gen [.int .i64 c, .int .i64 (A.rem (A.add d (A.int (A.lenA x9))) 64), .int .i64 255, .list (.ints .i64 (A.sub3 l7 (A.nat n8) (A.nat (A.add n8 (A.min a (A.int (A.len (A.sub3 l7 (A.nat n8) (A.len l7-A.nat n8))))))-A.nat n8)))])])):=by kernel_rfl
theorem ZFU(A:Ar)(a b c d:Int)(l0:List Int)(b1:Bool)(l2 l3 l4:List Int)(b5:Bool)(l6 l7:List Int)(n8:Int)(x9:List AV):Zaz A tab BD5 23 [false] 35 (Zbo a b c d l0 b1 l2 l3 l4 b5 l6 l7 n8 x9) (Za7 a b c d l0 b1 l2 l3 l4 b5 l6 l7 n8 x9)=
 some (tr [5,4] [!A.lt n8 (A.int (A.len l7))],
  AV.tup [AV.row 0 0,AV.int .i64 0],some { e:=74,sz:=4,r:=Row.big (.agg [.int .i64, .int .i64, .int .i64, .ints .i64]) x9 }):=by kernel_rfl
end Go.Proofs.Ytjhdnpmojhkbjaa
