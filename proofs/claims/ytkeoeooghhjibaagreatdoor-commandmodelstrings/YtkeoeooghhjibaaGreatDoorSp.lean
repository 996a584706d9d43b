/- Contracts as a list. No condition. -/
import Derived.Test.YtkeoeooghhjibaaGreatDoorCy
import Derived.KernelRfl
namespace Go.Proofs.YtkeoeooghhjibaaGreatDoor
def ZME(rs:List AV)(b:Int)(xs:List Int)(d e:Int):Bool:=Zqi rs b xs&&((List.range rs.length).all fun i=>decide (1≤ZaS rs i 4∧ZaS rs i 4≤1000000∧Zax rs i≠[]))&&decide (0≤d∧d≤1000000000000∧e≤1000000000000)
section
variable {C:Ctx}(hC:C.P=Tryz.prog)(ms ks rs:List AV)(a b:Int)(xs:List Int)(c d e:Int)(hg:ZME rs b xs d e=true)
include hC hg
end
def Bg:List Ctr:=Bf
theorem ZFH:Zaw Tryz.prog Bg:=ZGK
end Go.Proofs.YtkeoeooghhjibaaGreatDoor
/- Contracts as a list. No condition. -/
namespace Go.Proofs.YtkeoeooghhjibaaGreatDoor
def tfG(ks rs l:List AV)(b:Int)(xs:List Int):Bool:=Zqi rs b xs&&((List.range rs.length).all fun i=>decide (1≤ZaS rs i 4∧ZaS rs i 4≤1000000∧Zax rs i≠[]))&&((List.range l.length).all fun i=>decide ((0≤ZaS l i 0∧ZaS l i 0<ks.length)∧(0≤ZaS l i 1∧ZaS l i 1≤1000000000000)∧ZaS l i 2≤1000000000000))&&decide (xs.length=ks.length∧xs.length≤1000000∧l.length≤1000000)
structure OkX (ks rs l:List AV) (b:Int) (xs:List Int):Prop where
 forb:Zqi rs b xs=true
 rule:∀i<rs.length,1≤ZaS rs i 4∧ZaS rs i 4≤1000000∧Zax rs i≠[]
 act:∀i<l.length,(0≤ZaS l i 0∧ZaS l i 0<ks.length)∧(0≤ZaS l i 1∧ZaS l i 1≤1000000000000)∧ZaS l i 2≤1000000000000
 len:xs.length=ks.length∧xs.length≤1000000∧l.length≤1000000
theorem tfG_iff{ks rs l:List AV}{b:Int}{xs:List Int} :tfG ks rs l b xs=true↔OkX ks rs l b xs:=by
 simp only[tfG,Bool.and_eq_true,List.all_eq_true,decide_eq_true_eq,List.mem_range]
 exact⟨fun h=>⟨h.1.1.1,h.1.1.2,h.1.2,h.2⟩,fun h=>⟨⟨⟨h.forb,h.rule⟩,h.act⟩,h.len⟩⟩
theorem OkX.next{ks rs l:List AV}{b t:Int}{xs:List Int}(h:OkX ks rs l b xs)(h1:b≤t)(h2:t≤1000000000000)(k:Nat):OkX ks rs l t (xs.set k t):=by
 refine⟨?_,h.rule,h.act,by simpa using h.len⟩
 have hf:=h.forb
 simp only[Zqi,Bool.and_eq_true,List.all_eq_true,decide_eq_true_eq,List.mem_range]at hf⊢
 refine⟨⟨fun i hi=>by simpa using hf.1.1 i hi,fun x hx=>?_⟩,by omega,h2,hf.2.2.2⟩
 rcases List.mem_or_eq_of_mem_set hx with hx |rfl
 ·have:=hf.1.2 x hx;omega
 ·omega
section
variable {C:Ctx}(hC:C.P=Tryz.prog)(ms ks rs l:List AV)
include hC
end
def Bh:List Ctr:=Bg
theorem ZGA:Zaw Tryz.prog Bh:=ZFH
end Go.Proofs.YtkeoeooghhjibaaGreatDoor
/- Contracts as a list. No condition. -/
namespace Go.Proofs.YtkeoeooghhjibaaGreatDoor
theorem Zzm{s:List UInt8}(h:ZaR s=true):s≠[]:=fun e=>by subst e;revert h;decide
theorem OkF.tf{ms ks rs l:List AV}(hf:OkF ms ks rs l):tfG ks rs l 0 (List.replicate ks.length (-1))=true:=by
 have hT:=ZKx hf
 refine tfG_iff.2 ⟨hT.forb (ms:=ms) (l:=l) hf (Int.le_refl _) (by omega),fun i hi=>?_,fun i hi=>?_,?_⟩
 ·have:=(hf.rule i hi).2.2
  exact⟨this.1,this.2,Zzm (hf.name i hi)⟩
 ·have:=hf.act i hi;omega
 ·have:=hf.ks1;have:=hf.l1;simp;omega
def Bi:List Ctr:=Bh
theorem ZHm:Zaw Tryz.prog Bi:=ZGA
end Go.Proofs.YtkeoeooghhjibaaGreatDoor
/- Contracts as a list. No condition. -/
namespace Go.Proofs.YtkeoeooghhjibaaGreatDoor
def Bj:List Ctr:=Bi
theorem ZHb:Zaw Tryz.prog Bj:=ZHm
end Go.Proofs.YtkeoeooghhjibaaGreatDoor
/- Contracts as a list. No condition. -/
namespace Go.Proofs.YtkeoeooghhjibaaGreatDoor
def Bk:List Ctr:=Bj
theorem ZFL:Zaw Tryz.prog Bk:=ZHb
end Go.Proofs.YtkeoeooghhjibaaGreatDoor
/- Contracts as a list. No condition. -/
namespace Go.Proofs.YtkeoeooghhjibaaGreatDoor
section
variable {C:Ctx}(hC:C.P=Tryz.prog)(ms ks rs l:List AV)(wn fl:Int)(at0 mo:Int)(dn:List AV)(ha:Bool)(ba:Int)(to:Bool)(dw:List Int)(up:List AV)
include hC
end
def Bl:List Ctr:=Bk
theorem ZG7:Zaw Tryz.prog Bl:=ZFL
end Go.Proofs.YtkeoeooghhjibaaGreatDoor
/- Contracts as a list. No condition. -/
namespace Go.Proofs.YtkeoeooghhjibaaGreatDoor
theorem Zjf{P:Program}{f:FuncId}{args args':List AV}{r:AV}{fr:Option Fresh}(h:Zat P f args r fr)(hw:WkA args' args):Zat P f args' r fr:=fun w okA L vs hargs hok hG=>
 h w okA L vs ⟨by rw[←hw.spec.1];exact hargs.1,fun j y v hy hv=>by
  have hj:j<args'.length:=by rw[hw.spec.1];exact(List.getElem?_eq_some_iff.1 hy).1
  exact(hw.spec.2 j _ y (List.getElem?_eq_getElem hj) hy).rel (hargs.2 j _ v (List.getElem?_eq_getElem hj) hv)⟩ hok hG
section
variable {C:Ctx}(hC:C.P=Tryz.prog)(ms ks rs l:List AV)(wn fl:Int)(at0 mo:Int)(dn:List AV)(ha:Bool)(ba:Int)(to:Bool)(dw:List Int)(up:List AV)
include hC
end
section
variable {C:Ctx}(hC:C.P=Tryz.prog)(ms ks rs l:List AV)(wn fl:Int)(at0 mo:Int)(dn:List AV)(ha:Bool)(ba:Int)(to:Bool)(dw:List Int)(up:List AV)
include hC
end
section
variable {C:Ctx}(hC:C.P=Tryz.prog)(ms ks rs l:List AV)(wn fl:Int)(at0 mo:Int)(dn:List AV)(ha:Bool)(ba:Int)(to:Bool)(dw:List Int)(up:List AV)
include hC
end
def Bm:List Ctr:=Bl
theorem ZG5:Zaw Tryz.prog Bm:=ZG7
end Go.Proofs.YtkeoeooghhjibaaGreatDoor
/- Contracts as a list. No condition. -/
namespace Go.Proofs.YtkeoeooghhjibaaGreatDoor
def Bn:List Ctr:=Bm
theorem ZGu:Zaw Tryz.prog Bn:=ZG5
end Go.Proofs.YtkeoeooghhjibaaGreatDoor
/- Contracts as a list. No condition. -/
namespace Go.Proofs.YtkeoeooghhjibaaGreatDoor
def ZfC(n:Int):Bool:=decide (-9223372036854775808≤n∧n≤9223372036854775807)
theorem i64B_iff{n:Int} :ZfC n=true↔ -9223372036854775808≤n∧n≤9223372036854775807:=by simp[ZfC]
def k138:Ctr:=⟨138,0,fun _ a=>match a with |[.int .i64 n]=>some (decide (ZfC n=true), .str (Lib.itoa n),none) |_=>none⟩
theorem Zzt:k138.OK Tryz.prog:=fun pa args r fr h=>by
 simp only[k138]at h
 split at h
 ·simp only[Option.some.injEq,Prod.mk.injEq,decide_eq_true_eq]at h
  obtain⟨h0,rfl,rfl⟩:=h
  exact Zq2 _ (i64B_iff.1 h0)
 ·cases h
def k106:Ctr:=⟨106,0,fun _ a=>match a with |[.str s, .str p]=>some (decide (s.length≤1000000∧1≤p.length), .list (.big .str ((Zac s p).map AV.str)),Zzf) |_=>none⟩
theorem Zy7:k106.OK Tryz.prog:=fun pa args r fr h=>by
 simp only[k106]at h
 split at h
 ·simp only[Option.some.injEq,Prod.mk.injEq,decide_eq_true_eq]at h
  obtain⟨h0,rfl,rfl⟩:=h
  exact Znt _ _ h0
 ·cases h
def k113:Ctr:=⟨113,0,fun _ a=>match a with |[.list (.big .str xs), .str p]=>some (decide (xs.length≤1000000∧(Lib.join (xs.map AV.toS) p).length≤1000000), .str (Lib.join (xs.map AV.toS) p),none) |_=>none⟩
theorem Zxd:k113.OK Tryz.prog:=fun pa args r fr h=>by
 simp only[k113]at h
 split at h
 ·simp only[Option.some.injEq,Prod.mk.injEq,decide_eq_true_eq]at h
  obtain⟨h0,rfl,rfl⟩:=h
  exact ZqK _ _ h0
 ·cases h
def k107:Ctr:=⟨107,0,fun _ a=>match a with |[.str s, .int .i64 d]=>some (decide (s.length≤1000000), .tup [.int .i64 (Zbn s), .bool (ZdK s d)],none) |_=>none⟩
theorem ZyJ:k107.OK Tryz.prog:=fun pa args r fr h=>by
 simp only[k107]at h
 split at h
 ·simp only[Option.some.injEq,Prod.mk.injEq,decide_eq_true_eq]at h
  obtain⟨h0,rfl,rfl⟩:=h
  exact Zmu _ _ h0
 ·cases h
def Ls0:List Ctr:=[k138,k106,k113,k107]++Bn
theorem Zce:Zaw Tryz.prog Ls0:=⟨Zzt,⟨Zy7,⟨Zxd,⟨ZyJ,ZGu⟩⟩⟩⟩
end Go.Proofs.YtkeoeooghhjibaaGreatDoor
/- Paths of functions, printed by the explorer (Gx). No condition. -/
namespace Go.Proofs.YtkeoeooghhjibaaGreatDoor
set_option maxRecDepth 100000
set_option linter.unusedVariables false
def Zv1(xs:List Int):AFrame:={ fn:=105,N:=20,env:=[(0,AV.list (.ints .i64 xs))],todo:=[.code a105.code],defs:=[],rnd:=none,ret:=false,res:=[ARes.tmp 2] }
def ZA6(xs:List Int):List AFrame:=[(Zv1 xs)]
theorem ZuL(xs:List Int):ZaA tab 105 [AV.list (.ints .i64 xs)]=some (Zv1 xs):=rfl
def Zio(xs:List Int)(n0:Int):List AFrame:=[{ fn:=105,N:=20,env:=[(3,AV.nils),(6,AV.list (.ints .i64 xs)),(7,AV.int .i64 n0),(8,AV.int .i64 0)],todo:=.code (ACode.gh [] ZsR)::ZvS,defs:=[],rnd:=none,ret:=false,res:=[ARes.tmp 2] }]
def ZhT(xs:List Int)(n0:Int):Zaa:=[]
abbrev Zni(xs:List Int)(n0:Int):List AFrame×Zaa:=(Zio xs n0,ZhT xs n0)
def Zfa(xs:List Int)(n0 n1:Int)(x2:List AV):List AFrame:=[{ fn:=105,N:=20,env:=[(3,AV.row 105017 0),(6,AV.list (.ints .i64 xs)),(7,AV.int .i64 n0),(8,AV.int .i64 n1)],todo:=.code (ACode.gh [] ZsR)::ZvS,defs:=[],rnd:=none,ret:=false,res:=[ARes.tmp 2] }]
def ZeA(xs:List Int)(n0 n1:Int)(x2:List AV):Zaa:=[(105017,{ base:=0,blks:=[Blk.row 9 1 (Row.big .str x2)] })]
abbrev Zhn(xs:List Int)(n0 n1:Int)(x2:List AV):List AFrame×Zaa:=(Zfa xs n0 n1 x2,ZeA xs n0 n1 x2)
def Zv7(A:Ar)(K:KT)(F:FT)(xs:List Int):Prop:=K (Zni (xs) (A.int (A.len xs)))
theorem ZCn{A:Ar}{K:KT}{F:FT}{M:MT}{xs:List Int} :ZaG A tab Ls0 105 K F M (.run 18 (.hd)) (ZA6 xs) []=Zv7 A K F xs:=by kernel_rfl
def ZdO(A:Ar)(K:KT)(F:FT)(xs:List Int)(n0:Int):Prop:=bB (A.lt 0 n0) (rB [A.inR .i64 (A.add 0 1),Zae (Nat.ble (A.lenA [AV.str (Go.Lib.itoa (A.nth xs (A.nat 0)))]) 4294967296) (Nat.blt 0 (A.lenA [AV.str (Go.Lib.itoa (A.nth xs (A.nat 0)))])),List.all [AV.str (Go.Lib.itoa (A.nth xs (A.nat 0)))] fun x=>AV.bx x&&Nat.beq (Zab A x) 1,decide (ZfC (A.nth xs (A.nat 0))=true),Zae (Zae (A.le 0 0) (Nat.blt (A.nat 0) (A.len xs))) true] (K (Zhn (xs) (n0) (A.add 0 1) ([AV.str (Go.Lib.itoa (A.nth xs (A.nat 0)))])))) (rB [A.eq (A.int 0) 0] (F (AV.str []) (none)))
theorem ZmE{A:Ar}{K:KT}{F:FT}{M:MT}{xs:List Int}{n0:Int} :ZaG A tab Ls0 105 K F M (.run 6 (.tf (.run 24 (.hd)) (.run 21 (.ty (.run 9 (.fn)))))) (Zio xs n0) (ZhT xs n0)=ZdO A K F xs n0:=by kernel_rfl
def Zez(A:Ar)(K:KT)(F:FT)(xs:List Int)(n0 n1:Int)(x2:List AV):Prop:=bB (A.lt n1 n0) (rB [A.inR .i64 (A.add n1 1),Nat.ble (A.lenA x2+A.lenA [AV.str (Go.Lib.itoa (A.nth xs (A.nat n1)))]) 4294967296,List.all [AV.str (Go.Lib.itoa (A.nth xs (A.nat n1)))] fun x=>AV.bx x&&Nat.beq (Zab A x) 1,decide (ZfC (A.nth xs (A.nat n1))=true),Zae (Zae (A.le 0 n1) (Nat.blt (A.nat n1) (A.len xs))) true] (K (Zhn (xs) (n0) (A.add n1 1) (A.appA x2 [AV.str (Go.Lib.itoa (A.nth xs (A.nat n1)))])))) (rB [decide (List.length x2≤1000000∧List.length (Go.Lib.join (List.map AV.toS x2) [32])≤1000000)] (F (AV.str (Go.Lib.join (List.map AV.toS x2) [32])) (none)))
theorem ZhU{A:Ar}{K:KT}{F:FT}{M:MT}{xs:List Int}{n0 n1:Int}{x2:List AV} :ZaG A tab Ls0 105 K F M (.run 6 (.tf (.run 24 (.hd)) (.run 8 (.fn)))) (Zfa xs n0 n1 x2) (ZeA xs n0 n1 x2)=Zez A K F xs n0 n1 x2:=by kernel_rfl
def Zwf(s:List UInt8)(c:Int):AFrame:={ fn:=109,N:=34,env:=[(0,AV.str s),(1,AV.int .u8 c)],todo:=[.code a109.code],defs:=[],rnd:=none,ret:=false,res:=[ARes.tmp 4] }
def ZHn(s:List UInt8)(c:Int):List AFrame:=[(Zwf s c)]
theorem ZuI(s:List UInt8)(c:Int):ZaA tab 109 [AV.str s,AV.int .u8 c]=some (Zwf s c):=rfl
def Zfb(s:List UInt8)(c n0:Int):List AFrame:=[{ fn:=109,N:=34,env:=[(0,AV.str s),(1,AV.int .u8 c),(5,AV.nils),(6,AV.int .i64 0),(7,AV.int .i64 n0)],todo:=.code (ACode.gh [] Zr6)::ZvT,defs:=[],rnd:=none,ret:=false,res:=[ARes.tmp 4] }]
def Zee(s:List UInt8)(c n0:Int):Zaa:=[]
abbrev Zhp(s:List UInt8)(c n0:Int):List AFrame×Zaa:=(Zfb s c n0,Zee s c n0)
def Zfv(s:List UInt8)(c n1 n2:Int)(x3:List AV):List AFrame:=[{ fn:=109,N:=34,env:=[(0,AV.str s),(1,AV.int .u8 c),(5,AV.row 109026 0),(6,AV.int .i64 n1),(7,AV.int .i64 n2)],todo:=.code (ACode.gh [] Zr6)::ZvT,defs:=[],rnd:=none,ret:=false,res:=[ARes.tmp 4] }]
def ZdY(s:List UInt8)(c n1 n2:Int)(x3:List AV):Zaa:=[(109026,{ base:=0,blks:=[Blk.row 9 1 (Row.big .str x3)] })]
abbrev Zeb(s:List UInt8)(c n1 n2:Int)(x3:List AV):List AFrame×Zaa:=(Zfv s c n1 n2 x3,ZdY s c n1 n2 x3)
def Zvw(A:Ar)(K:KT)(F:FT)(s:List UInt8)(c:Int):Prop:=K (Zhp (s) (c) (0))
theorem ZCv{A:Ar}{K:KT}{F:FT}{M:MT}{s:List UInt8}{c:Int} :ZaG A tab Ls0 109 K F M (.run 20 (.hd)) (ZHn s c) []=Zvw A K F s c:=by kernel_rfl
def ZcD(A:Ar)(K:KT)(F:FT)(s:List UInt8)(c n0:Int):Prop:=bB (A.lt n0 (A.int (A.lenS s))) (rB [Zae (A.le 0 n0) (Nat.blt (A.nat n0) (A.lenS s))] (bB (A.eq (A.nthS s (A.nat n0)) c) (rB [A.inR .i64 (A.add n0 1),A.inR .i64 (A.add n0 1),Zae (Nat.ble (A.lenA [AV.str (A.subS s (A.nat 0) (A.nat n0-A.nat 0))]) 4294967296) (Nat.blt 0 (A.lenA [AV.str (A.subS s (A.nat 0) (A.nat n0-A.nat 0))])),List.all [AV.str (A.subS s (A.nat 0) (A.nat n0-A.nat 0))] fun x=>AV.bx x&&Nat.beq (Zab A x) 1,Zae (Zae (A.le 0 0) (A.le 0 n0)) (Zae (Nat.ble (A.nat 0) (A.nat n0)) (Nat.ble (A.nat n0) (A.lenS s)))] (K (Zeb (s) (c) (A.add n0 1) (A.add n0 1) ([AV.str (A.subS s (A.nat 0) (A.nat n0-A.nat 0))])))) (rB [A.inR .i64 (A.add n0 1)] (K (Zhp (s) (c) (A.add n0 1)))))) (rB [Zae (Nat.ble (A.lenA [AV.str (A.subS s (A.nat 0) (A.lenS s-A.nat 0))]) 4294967296) (Nat.blt 0 (A.lenA [AV.str (A.subS s (A.nat 0) (A.lenS s-A.nat 0))])),List.all [AV.str (A.subS s (A.nat 0) (A.lenS s-A.nat 0))] fun x=>AV.bx x&&Nat.beq (Zab A x) 1,Zae (Zae (A.le 0 0) true) (Zae (Nat.ble (A.nat 0) (A.lenS s)) (Nat.ble (A.lenS s) (A.lenS s)))] (F (AV.row 0 0) (some { e:=9,sz:=1,r:=Row.big .str [AV.str (A.subS s (A.nat 0) (A.lenS s-A.nat 0))] })))
theorem ZhO{A:Ar}{K:KT}{F:FT}{M:MT}{s:List UInt8}{c n0:Int} :ZaG A tab Ls0 109 K F M (.run 9 (.tf (.run 11 (.tf (.run 25 (.hd)) (.run 9 (.hd)))) (.run 13 (.fn)))) (Zfb s c n0) (Zee s c n0)=ZcD A K F s c n0:=by kernel_rfl
def ZcI(A:Ar)(K:KT)(F:FT)(s:List UInt8)(c n1 n2:Int)(x3:List AV):Prop:=bB (A.lt n2 (A.int (A.lenS s))) (rB [Zae (A.le 0 n2) (Nat.blt (A.nat n2) (A.lenS s))] (bB (A.eq (A.nthS s (A.nat n2)) c) (rB [A.inR .i64 (A.add n2 1),A.inR .i64 (A.add n2 1),Nat.ble (A.lenA x3+A.lenA [AV.str (A.subS s (A.nat n1) (A.nat n2-A.nat n1))]) 4294967296,List.all [AV.str (A.subS s (A.nat n1) (A.nat n2-A.nat n1))] fun x=>AV.bx x&&Nat.beq (Zab A x) 1,Zae (Zae (A.le 0 n1) (A.le 0 n2)) (Zae (Nat.ble (A.nat n1) (A.nat n2)) (Nat.ble (A.nat n2) (A.lenS s)))] (K (Zeb (s) (c) (A.add n2 1) (A.add n2 1) (A.appA x3 [AV.str (A.subS s (A.nat n1) (A.nat n2-A.nat n1))])))) (rB [A.inR .i64 (A.add n2 1)] (K (Zeb (s) (c) (n1) (A.add n2 1) (x3)))))) (rB [Nat.ble (A.lenA x3+A.lenA [AV.str (A.subS s (A.nat n1) (A.lenS s-A.nat n1))]) 4294967296,List.all [AV.str (A.subS s (A.nat n1) (A.lenS s-A.nat n1))] fun x=>AV.bx x&&Nat.beq (Zab A x) 1,Zae (Zae (A.le 0 n1) true) (Zae (Nat.ble (A.nat n1) (A.lenS s)) (Nat.ble (A.lenS s) (A.lenS s)))] (F (AV.row 0 0) (some { e:=9,sz:=1,r:=Row.big .str (A.appA x3 [AV.str (A.subS s (A.nat n1) (A.lenS s-A.nat n1))]) })))
theorem Zhu{A:Ar}{K:KT}{F:FT}{M:MT}{s:List UInt8}{c n1 n2:Int}{x3:List AV} :ZaG A tab Ls0 109 K F M (.run 9 (.tf (.run 11 (.tf (.run 25 (.hd)) (.run 9 (.hd)))) (.run 13 (.fn)))) (Zfv s c n1 n2 x3) (ZdY s c n1 n2 x3)=ZcI A K F s c n1 n2 x3:=by kernel_rfl
def Zv9(s:List UInt8)(d:Int):AFrame:={ fn:=110,N:=70,env:=[(0,AV.str s),(1,AV.int .i64 d)],todo:=[.code a110.code],defs:=[],rnd:=none,ret:=false,res:=[ARes.tmp 4,ARes.tmp 5] }
def ZFu(s:List UInt8)(d:Int):List AFrame:=[(Zv9 s d)]
theorem Zuu(s:List UInt8)(d:Int):ZaA tab 110 [AV.str s,AV.int .i64 d]=some (Zv9 s d):=rfl
def Zfk(s:List UInt8)(n0 n1 n2:Int):List AFrame:=[{ fn:=110,N:=70,env:=[(0,AV.str s),(6,AV.int .i64 n0),(7,AV.int .i64 n2),(8,AV.int .i64 n1)],todo:=.code (ACode.gh [] Zwg)::ZB9,defs:=[],rnd:=none,ret:=false,res:=[ARes.tmp 4,ARes.tmp 5] }]
def Zer(s:List UInt8)(n0 n1 n2:Int):Zaa:=[]
abbrev Zbf(s:List UInt8)(n0 n1 n2:Int):List AFrame×Zaa:=(Zfk s n0 n1 n2,Zer s n0 n1 n2)
def ZuW(A:Ar)(K:KT)(F:FT)(s:List UInt8)(d:Int):Prop:=bB (A.lt 0 (A.int (A.lenS s))) (rB [Zae (A.le 0 0) (Nat.blt (A.nat 0) (A.lenS s))] (bB (A.eq (A.nthS s (A.nat 0)) 45) (bB (A.eq (A.int (A.lenS s)) 1) (F (AV.tup [AV.int .i64 0,AV.bool false]) (none)) (rB [A.inR .i64 (A.sub (A.int (A.lenS s)) 1)] (bB (A.lt d (A.sub (A.int (A.lenS s)) 1)) (F (AV.tup [AV.int .i64 0,AV.bool false]) (none)) (rB [Zae (A.le 0 1) (Nat.blt (A.nat 1) (A.lenS s))] (bB (A.eq (A.nthS s (A.nat 1)) 48) (bB (A.lt 1 (A.int (A.lenS s))) (F (AV.tup [AV.int .i64 0,AV.bool false]) (none)) (K (Zbf (s) (1) (1) (0)))) (K (Zbf (s) (1) (1) (0)))))))) (bB (A.eq (A.int (A.lenS s)) 0) (F (AV.tup [AV.int .i64 0,AV.bool false]) (none)) (rB [A.inR .i64 (A.sub (A.int (A.lenS s)) 0)] (bB (A.lt d (A.sub (A.int (A.lenS s)) 0)) (F (AV.tup [AV.int .i64 0,AV.bool false]) (none)) (rB [Zae (A.le 0 0) (Nat.blt (A.nat 0) (A.lenS s))] (bB (A.eq (A.nthS s (A.nat 0)) 48) (bB (A.lt 1 (A.int (A.lenS s))) (F (AV.tup [AV.int .i64 0,AV.bool false]) (none)) (K (Zbf (s) (0) (0) (0)))) (K (Zbf (s) (0) (0) (0)))))))))) (bB (A.eq (A.int (A.lenS s)) 0) (F (AV.tup [AV.int .i64 0,AV.bool false]) (none)) (rB [A.inR .i64 (A.sub (A.int (A.lenS s)) 0)] (bB (A.lt d (A.sub (A.int (A.lenS s)) 0)) (F (AV.tup [AV.int .i64 0,AV.bool false]) (none)) (rB [Zae (A.le 0 0) (Nat.blt (A.nat 0) (A.lenS s))] (bB (A.eq (A.nthS s (A.nat 0)) 48) (bB (A.lt 1 (A.int (A.lenS s))) (F (AV.tup [AV.int .i64 0,AV.bool false]) (none)) (K (Zbf (s) (0) (0) (0)))) (K (Zbf (s) (0) (0) (0))))))))
theorem ZBh{A:Ar}{K:KT}{F:FT}{M:MT}{s:List UInt8}{d:Int} :ZaG A tab Ls0 110 K F M (.run 16 (.tf (.ty (.ty (.ty (.run 2 (.tf (.run 11 (.tf (.ty (.ty (.ty (.ty (.ty (.ty (.run 1 (.ty (.ty (.ty (.ty (.ty (.run 3 (.ty (.ty (.run 2 (.ty (.run 6 (.fn))))))))))))))))))) (.fy (.fy (.fy (.fy (.fy (.fy (.run 1 (.tf (.ty (.ty (.ty (.ty (.run 3 (.ty (.ty (.run 2 (.ty (.run 6 (.fn))))))))))) (.fy (.fy (.fy (.fy (.tf (.ty (.ty (.alt [false,true] (.fy (.run 2 (.tf (.run 6 (.fn)) (.run 14 (.hd))))) (.no)))) (.fy (.fy (.alt [false,false] (.fy (.run 2 (.fy (.run 14 (.hd))))) (.no))))))))))))))))))) (.run 9 (.tf (.ty (.ty (.ty (.ty (.ty (.ty (.run 1 (.ty (.ty (.ty (.ty (.ty (.run 3 (.ty (.ty (.run 2 (.ty (.run 6 (.fn))))))))))))))))))) (.fy (.fy (.fy (.fy (.fy (.fy (.run 1 (.tf (.ty (.ty (.ty (.ty (.run 3 (.ty (.ty (.run 2 (.ty (.run 6 (.fn))))))))))) (.fy (.fy (.fy (.fy (.tf (.ty (.ty (.alt [false,true] (.fy (.run 2 (.tf (.run 6 (.fn)) (.run 14 (.hd))))) (.no)))) (.fy (.fy (.alt [false,false] (.fy (.run 2 (.fy (.run 14 (.hd))))) (.no)))))))))))))))))))))))) (.fy (.fy (.fy (.run 2 (.fy (.run 9 (.tf (.ty (.ty (.ty (.ty (.ty (.ty (.run 1 (.ty (.ty (.ty (.ty (.ty (.run 3 (.ty (.ty (.run 2 (.ty (.run 6 (.fn))))))))))))))))))) (.fy (.fy (.fy (.fy (.fy (.fy (.run 1 (.tf (.ty (.ty (.ty (.ty (.run 3 (.ty (.ty (.run 2 (.ty (.run 6 (.fn))))))))))) (.fy (.fy (.fy (.fy (.tf (.ty (.ty (.alt [false,true] (.fy (.run 2 (.tf (.run 6 (.fn)) (.run 14 (.hd))))) (.no)))) (.fy (.fy (.alt [false,false] (.fy (.run 2 (.fy (.run 14 (.hd))))) (.no)))))))))))))))))))))))))) (ZFu s d) []=ZuW A K F s d:=by kernel_rfl
def ZbD(A:Ar)(K:KT)(F:FT)(s:List UInt8)(n0 n1 n2:Int):Prop:=bB (A.lt n1 (A.int (A.lenS s))) (rB [Zae (A.le 0 n1) (Nat.blt (A.nat n1) (A.lenS s))] (bB (A.lt (A.nthS s (A.nat n1)) 48) (F (AV.tup [AV.int .i64 0,AV.bool false]) (none)) (rB [Zae (A.le 0 n1) (Nat.blt (A.nat n1) (A.lenS s))] (bB (A.lt 57 (A.nthS s (A.nat n1))) (F (AV.tup [AV.int .i64 0,AV.bool false]) (none)) (rB [A.inR .i64 (A.add n1 1),A.inR .i64 (A.add (A.mul 10 n2) (A.sub (A.nthS s (A.nat n1)) 48)),A.inR .i64 (A.sub (A.nthS s (A.nat n1)) 48),A.inR .u8 (A.sub (A.nthS s (A.nat n1)) 48),Zae (A.le 0 n1) (Nat.blt (A.nat n1) (A.lenS s)),A.inR .i64 (A.mul 10 n2)] (K (Zbf (s) (n0) (A.add n1 1) (A.add (A.mul 10 n2) (A.sub (A.nthS s (A.nat n1)) 48))))))))) (bB (A.eq n0 1) (rB [A.inR .i64 (A.neg n2)] (F (AV.tup [AV.int .i64 (A.neg n2),AV.bool true]) (none))) (F (AV.tup [AV.int .i64 n2,AV.bool true]) (none)))
theorem Zh2{A:Ar}{K:KT}{F:FT}{M:MT}{s:List UInt8}{n0 n1 n2:Int} :ZaG A tab Ls0 110 K F M (.run 9 (.tf (.run 11 (.tf (.ty (.ty (.ty (.ty (.run 2 (.ty (.run 6 (.fn)))))))) (.fy (.fy (.fy (.fy (.run 2 (.tf (.run 6 (.fn)) (.run 20 (.hd)))))))))) (.run 7 (.tf (.run 12 (.fn)) (.run 8 (.fn)))))) (Zfk s n0 n1 n2) (Zer s n0 n1 n2)=ZbD A K F s n0 n1 n2:=by kernel_rfl
end Go.Proofs.YtkeoeooghhjibaaGreatDoor
