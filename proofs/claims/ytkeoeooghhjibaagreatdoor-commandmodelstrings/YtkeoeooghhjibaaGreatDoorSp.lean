/- Contracts as a list. No condition. -/
import Derived.Test.YtkeoeooghhjibaaGreatDoorCy
import Derived.KernelRfl
namespace Go.Proofs.YtkeoeooghhjibaaGreatDoor
def ZLw(rs:List AV)(b:Int)(xs:List Int)(d e:Int):Bool:=ZqE rs b xs&&((List.range rs.length).all fun i=>decide (1≤ZaR rs i 4∧ZaR rs i 4≤1000000∧Zax rs i≠[]))&&decide (0≤d∧d≤1000000000000∧e≤1000000000000)
section
variable {C:Ctx}(hC:C.P=Tryz.prog)(ms ks rs:List AV)(a b:Int)(xs:List Int)(c d e:Int)(hg:ZLw rs b xs d e=true)
include hC hg
end
def Bg:List Ctr:=Bf
theorem ZFp:Zaw Tryz.prog Bg:=ZF6
end Go.Proofs.YtkeoeooghhjibaaGreatDoor
/- Contracts as a list. No condition. -/
namespace Go.Proofs.YtkeoeooghhjibaaGreatDoor
def tfG(ks rs l:List AV)(b:Int)(xs:List Int):Bool:=ZqE rs b xs&&((List.range rs.length).all fun i=>decide (1≤ZaR rs i 4∧ZaR rs i 4≤1000000∧Zax rs i≠[]))&&((List.range l.length).all fun i=>decide ((0≤ZaR l i 0∧ZaR l i 0<ks.length)∧(0≤ZaR l i 1∧ZaR l i 1≤1000000000000)∧ZaR l i 2≤1000000000000))&&decide (xs.length=ks.length∧xs.length≤1000000∧l.length≤1000000)
structure OkX (ks rs l:List AV) (b:Int) (xs:List Int):Prop where
 forb:ZqE rs b xs=true
 rule:∀i<rs.length,1≤ZaR rs i 4∧ZaR rs i 4≤1000000∧Zax rs i≠[]
 act:∀i<l.length,(0≤ZaR l i 0∧ZaR l i 0<ks.length)∧(0≤ZaR l i 1∧ZaR l i 1≤1000000000000)∧ZaR l i 2≤1000000000000
 len:xs.length=ks.length∧xs.length≤1000000∧l.length≤1000000
theorem tfG_iff{ks rs l:List AV}{b:Int}{xs:List Int} :tfG ks rs l b xs=true↔OkX ks rs l b xs:=by
 simp only[tfG,Bool.and_eq_true,List.all_eq_true,decide_eq_true_eq,List.mem_range]
 exact⟨fun h=>⟨h.1.1.1,h.1.1.2,h.1.2,h.2⟩,fun h=>⟨⟨⟨h.forb,h.rule⟩,h.act⟩,h.len⟩⟩
theorem OkX.next{ks rs l:List AV}{b t:Int}{xs:List Int}(h:OkX ks rs l b xs)(h1:b≤t)(h2:t≤1000000000000)(k:Nat):OkX ks rs l t (xs.set k t):=by
 refine⟨?_,h.rule,h.act,by simpa using h.len⟩
 have hf:=h.forb
 simp only[ZqE,Bool.and_eq_true,List.all_eq_true,decide_eq_true_eq,List.mem_range]at hf⊢
 refine⟨⟨fun i hi=>by simpa using hf.1.1 i hi,fun x hx=>?_⟩,by omega,h2,hf.2.2.2⟩
 rcases List.mem_or_eq_of_mem_set hx with hx |rfl
 ·have:=hf.1.2 x hx;omega
 ·omega
section
variable {C:Ctx}(hC:C.P=Tryz.prog)(ms ks rs l:List AV)
include hC
end
def Bh:List Ctr:=Bg
theorem ZFn:Zaw Tryz.prog Bh:=ZFp
end Go.Proofs.YtkeoeooghhjibaaGreatDoor
/- Contracts as a list. No condition. -/
namespace Go.Proofs.YtkeoeooghhjibaaGreatDoor
theorem ZwN{s:List UInt8}(h:ZaS s=true):s≠[]:=fun e=>by subst e;revert h;decide
theorem OkF.tf{ms ks rs l:List AV}(hf:OkF ms ks rs l):tfG ks rs l 0 (List.replicate ks.length (-1))=true:=by
 have hT:=ZLz hf
 refine tfG_iff.2 ⟨hT.forb (ms:=ms) (l:=l) hf (Int.le_refl _) (by omega),fun i hi=>?_,fun i hi=>?_,?_⟩
 ·have:=(hf.rule i hi).2.2
  exact⟨this.1,this.2,ZwN (hf.name i hi)⟩
 ·have:=hf.act i hi;omega
 ·have:=hf.ks1;have:=hf.l1;simp;omega
def Bi:List Ctr:=Bh
theorem ZHf:Zaw Tryz.prog Bi:=ZFn
end Go.Proofs.YtkeoeooghhjibaaGreatDoor
/- Contracts as a list. No condition. -/
namespace Go.Proofs.YtkeoeooghhjibaaGreatDoor
def Bj:List Ctr:=Bi
theorem ZG7:Zaw Tryz.prog Bj:=ZHf
end Go.Proofs.YtkeoeooghhjibaaGreatDoor
/- Contracts as a list. No condition. -/
namespace Go.Proofs.YtkeoeooghhjibaaGreatDoor
def Bk:List Ctr:=Bj
theorem ZFw:Zaw Tryz.prog Bk:=ZG7
end Go.Proofs.YtkeoeooghhjibaaGreatDoor
/- Contracts as a list. No condition. -/
namespace Go.Proofs.YtkeoeooghhjibaaGreatDoor
section
variable {C:Ctx}(hC:C.P=Tryz.prog)(ms ks rs l:List AV)(wn fl:Int)(at0 mo:Int)(dn:List AV)(ha:Bool)(ba:Int)(to:Bool)(dw:List Int)(up:List AV)
include hC
end
def Bl:List Ctr:=Bk
theorem ZG3:Zaw Tryz.prog Bl:=ZFw
end Go.Proofs.YtkeoeooghhjibaaGreatDoor
/- Contracts as a list. No condition. -/
namespace Go.Proofs.YtkeoeooghhjibaaGreatDoor
theorem Zjd{P:Program}{f:FuncId}{args args':List AV}{r:AV}{fr:Option Fresh}(h:Zat P f args r fr)(hw:WkA args' args):Zat P f args' r fr:=fun w okA L vs hargs hok hG=>
 h w okA L vs ⟨by rw[←hw.spec.1];exact hargs.1,fun j y v hy hv=>by
  have hj:j<args'.length:=by rw[hw.spec.1];exact(List.getElem?_eq_some_iff.1 hy).1
  exact(hw.spec.2 j _ y (List.getElem?_eq_getElem hj) hy).rel (hargs.2 j _ v (List.getElem?_eq_getElem hj) hv)⟩ hok hG
section
variable {C:Ctx}(hC:C.P=Tryz.prog)(ms ks rs l:List AV)(wn fl:Int)(at0 mo:Int)(dn:List AV)(ha:Bool)(ba:Int)(to:Bool)(dw:List Int)(up:List AV)
include hC
end
section
variable {C:Ctx}(hC:C.P=Tryz.prog)(ms ks rs l:List AV)(wn fl:Int)(at0 mo:Int)(dn:List AV)(ha:Bool)(ba:Int)(to:Bool)(dw:List Int)(up:List AV)
include hC
end
section
variable {C:Ctx}(hC:C.P=Tryz.prog)(ms ks rs l:List AV)(wn fl:Int)(at0 mo:Int)(dn:List AV)(ha:Bool)(ba:Int)(to:Bool)(dw:List Int)(up:List AV)
include hC
end
def Bm:List Ctr:=Bl
theorem ZFP:Zaw Tryz.prog Bm:=ZG3
end Go.Proofs.YtkeoeooghhjibaaGreatDoor
/- Contracts as a list. No condition. -/
namespace Go.Proofs.YtkeoeooghhjibaaGreatDoor
def Bn:List Ctr:=Bm
theorem ZGq:Zaw Tryz.prog Bn:=ZFP
end Go.Proofs.YtkeoeooghhjibaaGreatDoor
/- Contracts as a list. No condition. -/
namespace Go.Proofs.YtkeoeooghhjibaaGreatDoor
def Zfa(n:Int):Bool:=decide (-9223372036854775808≤n∧n≤9223372036854775807)
theorem i64B_iff{n:Int} :Zfa n=true↔ -9223372036854775808≤n∧n≤9223372036854775807:=by simp[Zfa]
def k138:Ctr:=⟨138,0,fun _ a=>match a with |[.int .i64 n]=>some (decide (Zfa n=true), .str (Lib.itoa n),none) |_=>none⟩
theorem Zx6:k138.OK Tryz.prog:=fun pa args r fr h=>by
 simp only[k138]at h
 split at h
 ·simp only[Option.some.injEq,Prod.mk.injEq,decide_eq_true_eq]at h
  obtain⟨h0,rfl,rfl⟩:=h
  exact ZpL _ (i64B_iff.1 h0)
 ·cases h
def k106:Ctr:=⟨106,0,fun _ a=>match a with |[.str s, .str p]=>some (decide (s.length≤1000000∧1≤p.length), .list (.big .str ((Zac s p).map AV.str)),ZwC) |_=>none⟩
theorem Zxc:k106.OK Tryz.prog:=fun pa args r fr h=>by
 simp only[k106]at h
 split at h
 ·simp only[Option.some.injEq,Prod.mk.injEq,decide_eq_true_eq]at h
  obtain⟨h0,rfl,rfl⟩:=h
  exact Zom _ _ h0
 ·cases h
def k113:Ctr:=⟨113,0,fun _ a=>match a with |[.list (.big .str xs), .str p]=>some (decide (xs.length≤1000000∧(Lib.join (xs.map AV.toS) p).length≤1000000), .str (Lib.join (xs.map AV.toS) p),none) |_=>none⟩
theorem ZzQ:k113.OK Tryz.prog:=fun pa args r fr h=>by
 simp only[k113]at h
 split at h
 ·simp only[Option.some.injEq,Prod.mk.injEq,decide_eq_true_eq]at h
  obtain⟨h0,rfl,rfl⟩:=h
  exact ZpS _ _ h0
 ·cases h
def k107:Ctr:=⟨107,0,fun _ a=>match a with |[.str s, .int .i64 d]=>some (decide (s.length≤1000000), .tup [.int .i64 (Zbn s), .bool (ZdK s d)],none) |_=>none⟩
theorem ZzW:k107.OK Tryz.prog:=fun pa args r fr h=>by
 simp only[k107]at h
 split at h
 ·simp only[Option.some.injEq,Prod.mk.injEq,decide_eq_true_eq]at h
  obtain⟨h0,rfl,rfl⟩:=h
  exact ZmA _ _ h0
 ·cases h
def Ls0:List Ctr:=[k138,k106,k113,k107]++Bn
theorem Zcf:Zaw Tryz.prog Ls0:=⟨Zx6,⟨Zxc,⟨ZzQ,⟨ZzW,ZGq⟩⟩⟩⟩
end Go.Proofs.YtkeoeooghhjibaaGreatDoor
/- Paths of functions, printed by the explorer (Gx). No condition. -/
namespace Go.Proofs.YtkeoeooghhjibaaGreatDoor
set_option maxRecDepth 100000
set_option linter.unusedVariables false
def Zwl(xs:List Int):AFrame:={ fn:=105,N:=20,env:=[(0,AV.list (.ints .i64 xs))],todo:=[.code a105.code],defs:=[],rnd:=none,ret:=false,res:=[ARes.tmp 2] }
def ZEl(xs:List Int):List AFrame:=[(Zwl xs)]
theorem Zuy(xs:List Int):ZaB tab 105 [AV.list (.ints .i64 xs)]=some (Zwl xs):=rfl
def Zir(xs:List Int)(n0:Int):List AFrame:=[{ fn:=105,N:=20,env:=[(3,AV.nils),(6,AV.list (.ints .i64 xs)),(7,AV.int .i64 n0),(8,AV.int .i64 0)],todo:=.code (ACode.gh [] ZrU)::ZuZ,defs:=[],rnd:=none,ret:=false,res:=[ARes.tmp 2] }]
def ZhC(xs:List Int)(n0:Int):Zaa:=[]
abbrev Zm7(xs:List Int)(n0:Int):List AFrame×Zaa:=(Zir xs n0,ZhC xs n0)
def Zfe(xs:List Int)(n0 n1:Int)(x2:List AV):List AFrame:=[{ fn:=105,N:=20,env:=[(3,AV.row 105017 0),(6,AV.list (.ints .i64 xs)),(7,AV.int .i64 n0),(8,AV.int .i64 n1)],todo:=.code (ACode.gh [] ZrU)::ZuZ,defs:=[],rnd:=none,ret:=false,res:=[ARes.tmp 2] }]
def Zd8(xs:List Int)(n0 n1:Int)(x2:List AV):Zaa:=[(105017,{ base:=0,blks:=[Blk.row 9 1 (Row.big .str x2)] })]
abbrev ZhL(xs:List Int)(n0 n1:Int)(x2:List AV):List AFrame×Zaa:=(Zfe xs n0 n1 x2,Zd8 xs n0 n1 x2)
def Zvq(A:Ar)(K:KT)(F:FT)(xs:List Int):Prop:=K (Zm7 (xs) (A.int (A.len xs)))
theorem ZD8{A:Ar}{K:KT}{F:FT}{M:MT}{xs:List Int} :ZaG A tab Ls0 105 K F M (.run 18 (.hd)) (ZEl xs) []=Zvq A K F xs:=by kernel_rfl
def Zem(A:Ar)(K:KT)(F:FT)(xs:List Int)(n0:Int):Prop:=bB (A.lt 0 n0) (rB [A.inR .i64 (A.add 0 1),Zae (Nat.ble (A.lenA [AV.str (Go.Lib.itoa (A.nth xs (A.nat 0)))]) 4294967296) (Nat.blt 0 (A.lenA [AV.str (Go.Lib.itoa (A.nth xs (A.nat 0)))])),List.all [AV.str (Go.Lib.itoa (A.nth xs (A.nat 0)))] fun x=>AV.bx x&&Nat.beq (Zab A x) 1,decide (Zfa (A.nth xs (A.nat 0))=true),Zae (Zae (A.le 0 0) (Nat.blt (A.nat 0) (A.len xs))) true] (K (ZhL (xs) (n0) (A.add 0 1) ([AV.str (Go.Lib.itoa (A.nth xs (A.nat 0)))])))) (rB [A.eq (A.int 0) 0] (F (AV.str []) (none)))
theorem Zmn{A:Ar}{K:KT}{F:FT}{M:MT}{xs:List Int}{n0:Int} :ZaG A tab Ls0 105 K F M (.run 6 (.tf (.run 24 (.hd)) (.run 21 (.ty (.run 9 (.fn)))))) (Zir xs n0) (ZhC xs n0)=Zem A K F xs n0:=by kernel_rfl
def Zes(A:Ar)(K:KT)(F:FT)(xs:List Int)(n0 n1:Int)(x2:List AV):Prop:=bB (A.lt n1 n0) (rB [A.inR .i64 (A.add n1 1),Nat.ble (A.lenA x2+A.lenA [AV.str (Go.Lib.itoa (A.nth xs (A.nat n1)))]) 4294967296,List.all [AV.str (Go.Lib.itoa (A.nth xs (A.nat n1)))] fun x=>AV.bx x&&Nat.beq (Zab A x) 1,decide (Zfa (A.nth xs (A.nat n1))=true),Zae (Zae (A.le 0 n1) (Nat.blt (A.nat n1) (A.len xs))) true] (K (ZhL (xs) (n0) (A.add n1 1) (A.appA x2 [AV.str (Go.Lib.itoa (A.nth xs (A.nat n1)))])))) (rB [decide (List.length x2≤1000000∧List.length (Go.Lib.join (List.map AV.toS x2) [32])≤1000000)] (F (AV.str (Go.Lib.join (List.map AV.toS x2) [32])) (none)))
theorem ZhY{A:Ar}{K:KT}{F:FT}{M:MT}{xs:List Int}{n0 n1:Int}{x2:List AV} :ZaG A tab Ls0 105 K F M (.run 6 (.tf (.run 24 (.hd)) (.run 8 (.fn)))) (Zfe xs n0 n1 x2) (Zd8 xs n0 n1 x2)=Zes A K F xs n0 n1 x2:=by kernel_rfl
def Zv4(s:List UInt8)(c:Int):AFrame:={ fn:=109,N:=34,env:=[(0,AV.str s),(1,AV.int .u8 c)],todo:=[.code a109.code],defs:=[],rnd:=none,ret:=false,res:=[ARes.tmp 4] }
def ZGs(s:List UInt8)(c:Int):List AFrame:=[(Zv4 s c)]
theorem ZuE(s:List UInt8)(c:Int):ZaB tab 109 [AV.str s,AV.int .u8 c]=some (Zv4 s c):=rfl
def Zfl(s:List UInt8)(c n0:Int):List AFrame:=[{ fn:=109,N:=34,env:=[(0,AV.str s),(1,AV.int .u8 c),(5,AV.nils),(6,AV.int .i64 0),(7,AV.int .i64 n0)],todo:=.code (ACode.gh [] ZrQ)::ZvZ,defs:=[],rnd:=none,ret:=false,res:=[ARes.tmp 4] }]
def Zd1(s:List UInt8)(c n0:Int):Zaa:=[]
abbrev ZhF(s:List UInt8)(c n0:Int):List AFrame×Zaa:=(Zfl s c n0,Zd1 s c n0)
def Zft(s:List UInt8)(c n1 n2:Int)(x3:List AV):List AFrame:=[{ fn:=109,N:=34,env:=[(0,AV.str s),(1,AV.int .u8 c),(5,AV.row 109026 0),(6,AV.int .i64 n1),(7,AV.int .i64 n2)],todo:=.code (ACode.gh [] ZrQ)::ZvZ,defs:=[],rnd:=none,ret:=false,res:=[ARes.tmp 4] }]
def ZdS(s:List UInt8)(c n1 n2:Int)(x3:List AV):Zaa:=[(109026,{ base:=0,blks:=[Blk.row 9 1 (Row.big .str x3)] })]
abbrev ZdN(s:List UInt8)(c n1 n2:Int)(x3:List AV):List AFrame×Zaa:=(Zft s c n1 n2 x3,ZdS s c n1 n2 x3)
def Zve(A:Ar)(K:KT)(F:FT)(s:List UInt8)(c:Int):Prop:=K (ZhF (s) (c) (0))
theorem ZDO{A:Ar}{K:KT}{F:FT}{M:MT}{s:List UInt8}{c:Int} :ZaG A tab Ls0 109 K F M (.run 20 (.hd)) (ZGs s c) []=Zve A K F s c:=by kernel_rfl
def ZcT(A:Ar)(K:KT)(F:FT)(s:List UInt8)(c n0:Int):Prop:=bB (A.lt n0 (A.int (A.lenS s))) (rB [Zae (A.le 0 n0) (Nat.blt (A.nat n0) (A.lenS s))] (bB (A.eq (A.nthS s (A.nat n0)) c) (rB [A.inR .i64 (A.add n0 1),A.inR .i64 (A.add n0 1),Zae (Nat.ble (A.lenA [AV.str (A.subS s (A.nat 0) (A.nat n0-A.nat 0))]) 4294967296) (Nat.blt 0 (A.lenA [AV.str (A.subS s (A.nat 0) (A.nat n0-A.nat 0))])),List.all [AV.str (A.subS s (A.nat 0) (A.nat n0-A.nat 0))] fun x=>AV.bx x&&Nat.beq (Zab A x) 1,Zae (Zae (A.le 0 0) (A.le 0 n0)) (Zae (Nat.ble (A.nat 0) (A.nat n0)) (Nat.ble (A.nat n0) (A.lenS s)))] (K (ZdN (s) (c) (A.add n0 1) (A.add n0 1) ([AV.str (A.subS s (A.nat 0) (A.nat n0-A.nat 0))])))) (rB [A.inR .i64 (A.add n0 1)] (K (ZhF (s) (c) (A.add n0 1)))))) (rB [Zae (Nat.ble (A.lenA [AV.str (A.subS s (A.nat 0) (A.lenS s-A.nat 0))]) 4294967296) (Nat.blt 0 (A.lenA [AV.str (A.subS s (A.nat 0) (A.lenS s-A.nat 0))])),List.all [AV.str (A.subS s (A.nat 0) (A.lenS s-A.nat 0))] fun x=>AV.bx x&&Nat.beq (Zab A x) 1,Zae (Zae (A.le 0 0) true) (Zae (Nat.ble (A.nat 0) (A.lenS s)) (Nat.ble (A.lenS s) (A.lenS s)))] (F (AV.row 0 0) (some { e:=9,sz:=1,r:=Row.big .str [AV.str (A.subS s (A.nat 0) (A.lenS s-A.nat 0))] })))
theorem Zhq{A:Ar}{K:KT}{F:FT}{M:MT}{s:List UInt8}{c n0:Int} :ZaG A tab Ls0 109 K F M (.run 9 (.tf (.run 11 (.tf (.run 25 (.hd)) (.run 9 (.hd)))) (.run 13 (.fn)))) (Zfl s c n0) (Zd1 s c n0)=ZcT A K F s c n0:=by kernel_rfl
def ZcC(A:Ar)(K:KT)(F:FT)(s:List UInt8)(c n1 n2:Int)(x3:List AV):Prop:=bB (A.lt n2 (A.int (A.lenS s))) (rB [Zae (A.le 0 n2) (Nat.blt (A.nat n2) (A.lenS s))] (bB (A.eq (A.nthS s (A.nat n2)) c) (rB [A.inR .i64 (A.add n2 1),A.inR .i64 (A.add n2 1),Nat.ble (A.lenA x3+A.lenA [AV.str (A.subS s (A.nat n1) (A.nat n2-A.nat n1))]) 4294967296,List.all [AV.str (A.subS s (A.nat n1) (A.nat n2-A.nat n1))] fun x=>AV.bx x&&Nat.beq (Zab A x) 1,Zae (Zae (A.le 0 n1) (A.le 0 n2)) (Zae (Nat.ble (A.nat n1) (A.nat n2)) (Nat.ble (A.nat n2) (A.lenS s)))] (K (ZdN (s) (c) (A.add n2 1) (A.add n2 1) (A.appA x3 [AV.str (A.subS s (A.nat n1) (A.nat n2-A.nat n1))])))) (rB [A.inR .i64 (A.add n2 1)] (K (ZdN (s) (c) (n1) (A.add n2 1) (x3)))))) (rB [Nat.ble (A.lenA x3+A.lenA [AV.str (A.subS s (A.nat n1) (A.lenS s-A.nat n1))]) 4294967296,List.all [AV.str (A.subS s (A.nat n1) (A.lenS s-A.nat n1))] fun x=>AV.bx x&&Nat.beq (Zab A x) 1,Zae (Zae (A.le 0 n1) true) (Zae (Nat.ble (A.nat n1) (A.lenS s)) (Nat.ble (A.lenS s) (A.lenS s)))] (F (AV.row 0 0) (some { e:=9,sz:=1,r:=Row.big .str (A.appA x3 [AV.str (A.subS s (A.nat n1) (A.lenS s-A.nat n1))]) })))
theorem Zhw{A:Ar}{K:KT}{F:FT}{M:MT}{s:List UInt8}{c n1 n2:Int}{x3:List AV} :ZaG A tab Ls0 109 K F M (.run 9 (.tf (.run 11 (.tf (.run 25 (.hd)) (.run 9 (.hd)))) (.run 13 (.fn)))) (Zft s c n1 n2 x3) (ZdS s c n1 n2 x3)=ZcC A K F s c n1 n2 x3:=by kernel_rfl
def Zwd(s:List UInt8)(d:Int):AFrame:={ fn:=110,N:=70,env:=[(0,AV.str s),(1,AV.int .i64 d)],todo:=[.code a110.code],defs:=[],rnd:=none,ret:=false,res:=[ARes.tmp 4,ARes.tmp 5] }
def ZGX(s:List UInt8)(d:Int):List AFrame:=[(Zwd s d)]
theorem ZuR(s:List UInt8)(d:Int):ZaB tab 110 [AV.str s,AV.int .i64 d]=some (Zwd s d):=rfl
def Zfb(s:List UInt8)(n0 n1 n2:Int):List AFrame:=[{ fn:=110,N:=70,env:=[(0,AV.str s),(6,AV.int .i64 n0),(7,AV.int .i64 n2),(8,AV.int .i64 n1)],todo:=.code (ACode.gh [] Zvo)::ZCB,defs:=[],rnd:=none,ret:=false,res:=[ARes.tmp 4,ARes.tmp 5] }]
def Zeq(s:List UInt8)(n0 n1 n2:Int):Zaa:=[]
abbrev Zbg(s:List UInt8)(n0 n1 n2:Int):List AFrame×Zaa:=(Zfb s n0 n1 n2,Zeq s n0 n1 n2)
def Zwb(A:Ar)(K:KT)(F:FT)(s:List UInt8)(d:Int):Prop:=bB (A.lt 0 (A.int (A.lenS s))) (rB [Zae (A.le 0 0) (Nat.blt (A.nat 0) (A.lenS s))] (bB (A.eq (A.nthS s (A.nat 0)) 45) (bB (A.eq (A.int (A.lenS s)) 1) (F (AV.tup [AV.int .i64 0,AV.bool false]) (none)) (rB [A.inR .i64 (A.sub (A.int (A.lenS s)) 1)] (bB (A.lt d (A.sub (A.int (A.lenS s)) 1)) (F (AV.tup [AV.int .i64 0,AV.bool false]) (none)) (rB [Zae (A.le 0 1) (Nat.blt (A.nat 1) (A.lenS s))] (bB (A.eq (A.nthS s (A.nat 1)) 48) (bB (A.lt 1 (A.int (A.lenS s))) (F (AV.tup [AV.int .i64 0,AV.bool false]) (none)) (K (Zbg (s) (1) (1) (0)))) (K (Zbg (s) (1) (1) (0)))))))) (bB (A.eq (A.int (A.lenS s)) 0) (F (AV.tup [AV.int .i64 0,AV.bool false]) (none)) (rB [A.inR .i64 (A.sub (A.int (A.lenS s)) 0)] (bB (A.lt d (A.sub (A.int (A.lenS s)) 0)) (F (AV.tup [AV.int .i64 0,AV.bool false]) (none)) (rB [Zae (A.le 0 0) (Nat.blt (A.nat 0) (A.lenS s))] (bB (A.eq (A.nthS s (A.nat 0)) 48) (bB (A.lt 1 (A.int (A.lenS s))) (F (AV.tup [AV.int .i64 0,AV.bool false]) (none)) (K (Zbg (s) (0) (0) (0)))) (K (Zbg (s) (0) (0) (0)))))))))) (bB (A.eq (A.int (A.lenS s)) 0) (F (AV.tup [AV.int .i64 0,AV.bool false]) (none)) (rB [A.inR .i64 (A.sub (A.int (A.lenS s)) 0)] (bB (A.lt d (A.sub (A.int (A.lenS s)) 0)) (F (AV.tup [AV.int .i64 0,AV.bool false]) (none)) (rB [Zae (A.le 0 0) (Nat.blt (A.nat 0) (A.lenS s))] (bB (A.eq (A.nthS s (A.nat 0)) 48) (bB (A.lt 1 (A.int (A.lenS s))) (F (AV.tup [AV.int .i64 0,AV.bool false]) (none)) (K (Zbg (s) (0) (0) (0)))) (K (Zbg (s) (0) (0) (0))))))))
theorem ZDX{A:Ar}{K:KT}{F:FT}{M:MT}{s:List UInt8}{d:Int} :ZaG A tab Ls0 110 K F M (.run 16 (.tf (.ty (.ty (.ty (.run 2 (.tf (.run 11 (.tf (.ty (.ty (.ty (.ty (.ty (.ty (.run 1 (.ty (.ty (.ty (.ty (.ty (.run 3 (.ty (.ty (.run 2 (.ty (.run 6 (.fn))))))))))))))))))) (.fy (.fy (.fy (.fy (.fy (.fy (.run 1 (.tf (.ty (.ty (.ty (.ty (.run 3 (.ty (.ty (.run 2 (.ty (.run 6 (.fn))))))))))) (.fy (.fy (.fy (.fy (.tf (.ty (.ty (.alt [false,true] (.fy (.run 2 (.tf (.run 6 (.fn)) (.run 14 (.hd))))) (.no)))) (.fy (.fy (.alt [false,false] (.fy (.run 2 (.fy (.run 14 (.hd))))) (.no))))))))))))))))))) (.run 9 (.tf (.ty (.ty (.ty (.ty (.ty (.ty (.run 1 (.ty (.ty (.ty (.ty (.ty (.run 3 (.ty (.ty (.run 2 (.ty (.run 6 (.fn))))))))))))))))))) (.fy (.fy (.fy (.fy (.fy (.fy (.run 1 (.tf (.ty (.ty (.ty (.ty (.run 3 (.ty (.ty (.run 2 (.ty (.run 6 (.fn))))))))))) (.fy (.fy (.fy (.fy (.tf (.ty (.ty (.alt [false,true] (.fy (.run 2 (.tf (.run 6 (.fn)) (.run 14 (.hd))))) (.no)))) (.fy (.fy (.alt [false,false] (.fy (.run 2 (.fy (.run 14 (.hd))))) (.no)))))))))))))))))))))))) (.fy (.fy (.fy (.run 2 (.fy (.run 9 (.tf (.ty (.ty (.ty (.ty (.ty (.ty (.run 1 (.ty (.ty (.ty (.ty (.ty (.run 3 (.ty (.ty (.run 2 (.ty (.run 6 (.fn))))))))))))))))))) (.fy (.fy (.fy (.fy (.fy (.fy (.run 1 (.tf (.ty (.ty (.ty (.ty (.run 3 (.ty (.ty (.run 2 (.ty (.run 6 (.fn))))))))))) (.fy (.fy (.fy (.fy (.tf (.ty (.ty (.alt [false,true] (.fy (.run 2 (.tf (.run 6 (.fn)) (.run 14 (.hd))))) (.no)))) (.fy (.fy (.alt [false,false] (.fy (.run 2 (.fy (.run 14 (.hd))))) (.no)))))))))))))))))))))))))) (ZGX s d) []=Zwb A K F s d:=by kernel_rfl
def Zbz(A:Ar)(K:KT)(F:FT)(s:List UInt8)(n0 n1 n2:Int):Prop:=bB (A.lt n1 (A.int (A.lenS s))) (rB [Zae (A.le 0 n1) (Nat.blt (A.nat n1) (A.lenS s))] (bB (A.lt (A.nthS s (A.nat n1)) 48) (F (AV.tup [AV.int .i64 0,AV.bool false]) (none)) (rB [Zae (A.le 0 n1) (Nat.blt (A.nat n1) (A.lenS s))] (bB (A.lt 57 (A.nthS s (A.nat n1))) (F (AV.tup [AV.int .i64 0,AV.bool false]) (none)) (rB [A.inR .i64 (A.add n1 1),A.inR .i64 (A.add (A.mul 10 n2) (A.sub (A.nthS s (A.nat n1)) 48)),A.inR .i64 (A.sub (A.nthS s (A.nat n1)) 48),A.inR .u8 (A.sub (A.nthS s (A.nat n1)) 48),Zae (A.le 0 n1) (Nat.blt (A.nat n1) (A.lenS s)),A.inR .i64 (A.mul 10 n2)] (K (Zbg (s) (n0) (A.add n1 1) (A.add (A.mul 10 n2) (A.sub (A.nthS s (A.nat n1)) 48))))))))) (bB (A.eq n0 1) (rB [A.inR .i64 (A.neg n2)] (F (AV.tup [AV.int .i64 (A.neg n2),AV.bool true]) (none))) (F (AV.tup [AV.int .i64 n2,AV.bool true]) (none)))
theorem Zh0{A:Ar}{K:KT}{F:FT}{M:MT}{s:List UInt8}{n0 n1 n2:Int} :ZaG A tab Ls0 110 K F M (.run 9 (.tf (.run 11 (.tf (.ty (.ty (.ty (.ty (.run 2 (.ty (.run 6 (.fn)))))))) (.fy (.fy (.fy (.fy (.run 2 (.tf (.run 6 (.fn)) (.run 20 (.hd)))))))))) (.run 7 (.tf (.run 12 (.fn)) (.run 8 (.fn)))))) (Zfb s n0 n1 n2) (Zeq s n0 n1 n2)=Zbz A K F s n0 n1 n2:=by kernel_rfl
end Go.Proofs.YtkeoeooghhjibaaGreatDoor
