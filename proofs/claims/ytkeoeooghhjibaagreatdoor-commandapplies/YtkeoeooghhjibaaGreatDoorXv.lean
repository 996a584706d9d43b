/- Every code of the table stands for the program's. Printed by gentab.py. -/
import Derived.Test.YtkeoeooghhjibaaGreatDoorTa
import Derived.Test.YtkeoeooghhjibaaGreatDoorChecked
import Derived.KernelRfl
namespace Go.Proofs.YtkeoeooghhjibaaGreatDoor
set_option maxRecDepth 100000
theorem m9:Zas Tryz.prog 9 a9=true:=by kernel_rfl
theorem m13:Zas Tryz.prog 13 a13=true:=by kernel_rfl
theorem m14:Zas Tryz.prog 14 a14=true:=by kernel_rfl
theorem m15:Zas Tryz.prog 15 a15=true:=by kernel_rfl
theorem m16:Zas Tryz.prog 16 a16=true:=by kernel_rfl
theorem m19:Zas Tryz.prog 19 a19=true:=by kernel_rfl
theorem m21:Zas Tryz.prog 21 a21=true:=by kernel_rfl
theorem m22:Zas Tryz.prog 22 a22=true:=by kernel_rfl
theorem m23:Zas Tryz.prog 23 a23=true:=by kernel_rfl
theorem m24:Zas Tryz.prog 24 a24=true:=by kernel_rfl
theorem m25:Zas Tryz.prog 25 a25=true:=by kernel_rfl
theorem m26:Zas Tryz.prog 26 a26=true:=by kernel_rfl
theorem m28:Zas Tryz.prog 28 a28=true:=by kernel_rfl
theorem m29:Zas Tryz.prog 29 a29=true:=by kernel_rfl
theorem m32:Zas Tryz.prog 32 a32=true:=by kernel_rfl
theorem m35:Zas Tryz.prog 35 a35=true:=by kernel_rfl
theorem m36:Zas Tryz.prog 36 a36=true:=by kernel_rfl
theorem m37:Zas Tryz.prog 37 a37=true:=by kernel_rfl
theorem m38:Zas Tryz.prog 38 a38=true:=by kernel_rfl
theorem m39:Zas Tryz.prog 39 a39=true:=by kernel_rfl
theorem m40:Zas Tryz.prog 40 a40=true:=by kernel_rfl
theorem m41:Zas Tryz.prog 41 a41=true:=by kernel_rfl
theorem m42:Zas Tryz.prog 42 a42=true:=by kernel_rfl
theorem m46:Zas Tryz.prog 46 a46=true:=by kernel_rfl
theorem m47:Zas Tryz.prog 47 a47=true:=by kernel_rfl
theorem m48:Zas Tryz.prog 48 a48=true:=by kernel_rfl
theorem m49:Zas Tryz.prog 49 a49=true:=by kernel_rfl
theorem m53:Zas Tryz.prog 53 a53=true:=by kernel_rfl
theorem m65:Zas Tryz.prog 65 a65=true:=by kernel_rfl
theorem m66:Zas Tryz.prog 66 a66=true:=by kernel_rfl
theorem m67:Zas Tryz.prog 67 a67=true:=by kernel_rfl
theorem m68:Zas Tryz.prog 68 a68=true:=by kernel_rfl
theorem m69:Zas Tryz.prog 69 a69=true:=by kernel_rfl
theorem m70:Zas Tryz.prog 70 a70=true:=by kernel_rfl
theorem m71:Zas Tryz.prog 71 a71=true:=by kernel_rfl
theorem m72:Zas Tryz.prog 72 a72=true:=by kernel_rfl
theorem m73:Zas Tryz.prog 73 a73=true:=by kernel_rfl
theorem m74:Zas Tryz.prog 74 a74=true:=by kernel_rfl
theorem m75:Zas Tryz.prog 75 a75=true:=by kernel_rfl
theorem m76:Zas Tryz.prog 76 a76=true:=by kernel_rfl
theorem m77:Zas Tryz.prog 77 a77=true:=by kernel_rfl
theorem m78:Zas Tryz.prog 78 a78=true:=by kernel_rfl
theorem m80:Zas Tryz.prog 80 a80=true:=by kernel_rfl
theorem m81:Zas Tryz.prog 81 a81=true:=by kernel_rfl
theorem m82:Zas Tryz.prog 82 a82=true:=by kernel_rfl
theorem m83:Zas Tryz.prog 83 a83=true:=by kernel_rfl
theorem m84:Zas Tryz.prog 84 a84=true:=by kernel_rfl
theorem m85:Zas Tryz.prog 85 a85=true:=by kernel_rfl
theorem m86:Zas Tryz.prog 86 a86=true:=by kernel_rfl
theorem m87:Zas Tryz.prog 87 a87=true:=by kernel_rfl
theorem m88:Zas Tryz.prog 88 a88=true:=by kernel_rfl
theorem m89:Zas Tryz.prog 89 a89=true:=by kernel_rfl
theorem m90:Zas Tryz.prog 90 a90=true:=by kernel_rfl
theorem m91:Zas Tryz.prog 91 a91=true:=by kernel_rfl
theorem m94:Zas Tryz.prog 94 a94=true:=by kernel_rfl
theorem m95:Zas Tryz.prog 95 a95=true:=by kernel_rfl
theorem m96:Zas Tryz.prog 96 a96=true:=by kernel_rfl
theorem m97:Zas Tryz.prog 97 a97=true:=by kernel_rfl
theorem m98:Zas Tryz.prog 98 a98=true:=by kernel_rfl
theorem m99:Zas Tryz.prog 99 a99=true:=by kernel_rfl
theorem ZOJ:Zas Tryz.prog 105 ZLd=true:=by kernel_rfl
theorem ZMx:Zas Tryz.prog 113 ZLl=true:=by kernel_rfl
theorem ZN3:Zas Tryz.prog 119 a119=true:=by kernel_rfl
theorem ZMg:Zas Tryz.prog 120 a120=true:=by kernel_rfl
theorem ZO0:Zas Tryz.prog 121 ZL0=true:=by kernel_rfl
theorem ZMl:Zas Tryz.prog 122 a122=true:=by kernel_rfl
theorem ZNI:Zas Tryz.prog 123 a123=true:=by kernel_rfl
theorem ZMK:Zas Tryz.prog 125 ZLF=true:=by kernel_rfl
theorem ZNd:Zas Tryz.prog 126 ZLj=true:=by kernel_rfl
theorem ZNN:Zas Tryz.prog 127 ZLe=true:=by kernel_rfl
theorem ZNE:Zas Tryz.prog 128 ZLQ=true:=by kernel_rfl
theorem ZM5:Zas Tryz.prog 129 ZLh=true:=by kernel_rfl
theorem ZNp:Zas Tryz.prog 130 ZLs=true:=by kernel_rfl
theorem ZMF:Zas Tryz.prog 131 ZKX=true:=by kernel_rfl
theorem ZNl:Zas Tryz.prog 132 ZLY=true:=by kernel_rfl
theorem ZMZ:Zas Tryz.prog 133 ZLB=true:=by kernel_rfl
theorem ZOh:Zas Tryz.prog 134 ZLp=true:=by kernel_rfl
theorem ZM8:Zas Tryz.prog 135 ZK1=true:=by kernel_rfl
theorem ZNj:Zas Tryz.prog 136 a136=true:=by kernel_rfl
theorem ZNG:Zas Tryz.prog 137 ZLT=true:=by kernel_rfl
theorem ZOD:Zas Tryz.prog 138 ZKV=true:=by kernel_rfl
theorem ZNv:Zas Tryz.prog 140 a140=true:=by kernel_rfl
theorem ZNV:Zas Tryz.prog 145 ZK9=true:=by kernel_rfl
theorem ZOG:Zas Tryz.prog 147 ZLM=true:=by kernel_rfl
theorem ZOC:Zas Tryz.prog 149 ZLc=true:=by kernel_rfl
theorem ZNS:Zas Tryz.prog 150 a150=true:=by kernel_rfl
theorem ZOr:Zas Tryz.prog 151 a151=true:=by kernel_rfl
theorem ZOz:Zas Tryz.prog 152 ZLt=true:=by kernel_rfl
theorem ZOc:Zas Tryz.prog 153 a153=true:=by kernel_rfl
theorem ZOf:Zas Tryz.prog 154 a154=true:=by kernel_rfl
theorem ZNZ:Zas Tryz.prog 155 ZLD=true:=by kernel_rfl
theorem ZMW:Zas Tryz.prog 156 ZLw=true:=by kernel_rfl
theorem ZOT:Zas Tryz.prog 157 ZLy=true:=by kernel_rfl
theorem ZND:Zas Tryz.prog 158 a158=true:=by kernel_rfl
theorem ZME:Zas Tryz.prog 159 ZLa=true:=by kernel_rfl
theorem ZOn:Zas Tryz.prog 160 a160=true:=by kernel_rfl
theorem ZOx:Zas Tryz.prog 161 a161=true:=by kernel_rfl
theorem ZOY:Zas Tryz.prog 162 a162=true:=by kernel_rfl
theorem ZOg:Zas Tryz.prog 163 a163=true:=by kernel_rfl
theorem ZOM:Zas Tryz.prog 164 a164=true:=by kernel_rfl
theorem ZNH:Zas Tryz.prog 165 a165=true:=by kernel_rfl
theorem ZOV:Zas Tryz.prog 166 ZLI=true:=by kernel_rfl
theorem ZM3:Zas Tryz.prog 174 ZL1=true:=by kernel_rfl
theorem ZOF:Zas Tryz.prog 178 ZLq=true:=by kernel_rfl
theorem ZMp:Zas Tryz.prog 179 ZLO=true:=by kernel_rfl
theorem ZMA:Zas Tryz.prog 180 ZLr=true:=by kernel_rfl
theorem ZMV:Zas Tryz.prog 181 ZKW=true:=by kernel_rfl
theorem ZOX:Zas Tryz.prog 182 a182=true:=by kernel_rfl
theorem ZO2:Zas Tryz.prog 183 ZLm=true:=by kernel_rfl
theorem ZMr:Zas Tryz.prog 198 ZLG=true:=by kernel_rfl
theorem ZOO:Zas Tryz.prog 199 ZK7=true:=by kernel_rfl
theorem ZMY:Zas Tryz.prog 200 ZLk=true:=by kernel_rfl
theorem ZMt:Zas Tryz.prog 207 ZLS=true:=by kernel_rfl
theorem ZMT:Zas Tryz.prog 208 ZK3=true:=by kernel_rfl
theorem ZMs:Zas Tryz.prog 209 ZL5=true:=by kernel_rfl
theorem ZNm:Zas Tryz.prog 210 ZLL=true:=by kernel_rfl
theorem ZOq:Zas Tryz.prog 211 ZLW=true:=by kernel_rfl
theorem ZOL:Zas Tryz.prog 214 ZL2=true:=by kernel_rfl
theorem ZNs:Zas Tryz.prog 215 ZK5=true:=by kernel_rfl
theorem Zah:ZbH Tryz.prog tab:=FTree.ok (t:=tree) ⟨⟨⟨⟨⟨⟨⟨trivial,m9,trivial⟩,m13,⟨trivial,m14,trivial⟩⟩,m15,⟨⟨trivial,m16,trivial⟩,m19,⟨trivial,m21,trivial⟩⟩⟩,m22,⟨⟨⟨trivial,m23,trivial⟩,m24,⟨trivial,m25,trivial⟩⟩,m26,⟨⟨trivial,m28,trivial⟩,m29,trivial⟩⟩⟩,m32,⟨⟨⟨⟨trivial,m35,trivial⟩,m36,⟨trivial,m37,trivial⟩⟩,m38,⟨⟨trivial,m39,trivial⟩,m40,⟨trivial,m41,trivial⟩⟩⟩,m42,⟨⟨⟨trivial,m46,trivial⟩,m47,⟨trivial,m48,trivial⟩⟩,m49,⟨⟨trivial,m53,trivial⟩,m65,trivial⟩⟩⟩⟩,m66,⟨⟨⟨⟨⟨trivial,m67,trivial⟩,m68,⟨trivial,m69,trivial⟩⟩,m70,⟨⟨trivial,m71,trivial⟩,m72,⟨trivial,m73,trivial⟩⟩⟩,m74,⟨⟨⟨trivial,m75,trivial⟩,m76,⟨trivial,m77,trivial⟩⟩,m78,⟨⟨trivial,m80,trivial⟩,m81,trivial⟩⟩⟩,m82,⟨⟨⟨⟨trivial,m83,trivial⟩,m84,⟨trivial,m85,trivial⟩⟩,m86,⟨⟨trivial,m87,trivial⟩,m88,⟨trivial,m89,trivial⟩⟩⟩,m90,⟨⟨⟨trivial,m91,trivial⟩,m94,⟨trivial,m95,trivial⟩⟩,m96,⟨⟨trivial,m97,trivial⟩,m98,trivial⟩⟩⟩⟩⟩,m99,⟨⟨⟨⟨⟨⟨trivial,ZOJ,trivial⟩,ZMx,⟨trivial,ZN3,trivial⟩⟩,ZMg,⟨⟨trivial,ZO0,trivial⟩,ZMl,⟨trivial,ZNI,trivial⟩⟩⟩,ZMK,⟨⟨⟨trivial,ZNd,trivial⟩,ZNN,⟨trivial,ZNE,trivial⟩⟩,ZM5,⟨⟨trivial,ZNp,trivial⟩,ZMF,trivial⟩⟩⟩,ZNl,⟨⟨⟨⟨trivial,ZMZ,trivial⟩,ZOh,⟨trivial,ZM8,trivial⟩⟩,ZNj,⟨⟨trivial,ZNG,trivial⟩,ZOD,⟨trivial,ZNv,trivial⟩⟩⟩,ZNV,⟨⟨⟨trivial,ZOG,trivial⟩,ZOC,⟨trivial,ZNS,trivial⟩⟩,ZOr,⟨⟨trivial,ZOz,trivial⟩,ZOc,trivial⟩⟩⟩⟩,ZOf,⟨⟨⟨⟨⟨trivial,ZNZ,trivial⟩,ZMW,⟨trivial,ZOT,trivial⟩⟩,ZND,⟨⟨trivial,ZME,trivial⟩,ZOn,⟨trivial,ZOx,trivial⟩⟩⟩,ZOY,⟨⟨⟨trivial,ZOg,trivial⟩,ZOM,⟨trivial,ZNH,trivial⟩⟩,ZOV,⟨⟨trivial,ZM3,trivial⟩,ZOF,trivial⟩⟩⟩,ZMp,⟨⟨⟨⟨trivial,ZMA,trivial⟩,ZMV,⟨trivial,ZOX,trivial⟩⟩,ZO2,⟨⟨trivial,ZMr,trivial⟩,ZOO,⟨trivial,ZMY,trivial⟩⟩⟩,ZMt,⟨⟨⟨trivial,ZMT,trivial⟩,ZMs,⟨trivial,ZNm,trivial⟩⟩,ZOq,⟨⟨trivial,ZOL,trivial⟩,ZNs,trivial⟩⟩⟩⟩⟩⟩
theorem follows:Tryz.prog.follows .mixedOrders=true:=by kernel_rfl
end Go.Proofs.YtkeoeooghhjibaaGreatDoor
namespace Go.Proofs.YtkeoeooghhjibaaGreatDoor
open Go.RowKit (Below)
abbrev Ctx.mut(P:Program)(w:World)(okA:Nat→Prop)(cs:List Frame)(g:Nat):Ctx:=⟨P,w,okA,cs,0,g⟩
def ZHI(P:Program)(f:FuncId)(e:TypeId)(sz:Nat)(x y:Row)(args:zA)(r:AV):Prop:=
 ∀(w:World) (okA:Nat→Prop) (L:Lay) (vs:Array Value),(∀k,okA k→k<w.heap.size)→
  HRel (Ctx.mut P w okA [] (L.loc 0 0)) (ZaB (some ⟨e,sz,x⟩)) L w→
  RelL w (Zaz (Ctx.mut P w okA [] (L.loc 0 0)) (ZaB (some ⟨e,sz,x⟩)) L) (ZaB (some ⟨e,sz,x⟩)) L (.row 0 0::args) vs.toList→
  Calls P f vs w fun e' w'=>∃v L',e'=.returned v∧Fr (Ctx.mut P w okA [] (L.loc 0 0)) (ZaB (some ⟨e,sz,x⟩)) L w (ZaB (some ⟨e,sz,y⟩)) L' w'∧
   HRel (Ctx.mut P w okA [] (L.loc 0 0)) (ZaB (some ⟨e,sz,y⟩)) L' w'∧ZaH (Ctx.mut P w okA [] (L.loc 0 0)) (ZaB (some ⟨e,sz,y⟩)) L' w' r v
def Zzz:AV→Bool
 | .row a i=>Nat.beq a 0&&Nat.beq i 0
 | .slc a i _ _ _=>Nat.beq a 0&&Nat.beq i 0
 |v=>v.pure
def ZL8(f:FuncId)(e:TypeId)(sz:Nat)(y:Row)(r:AV)(fs:List AFrame)(h:Zad):Prop:=
 ∃g vs,fs=[g]∧g.fn=f∧g.ret=true∧g.rnd=none∧g.defs=[]∧Zfk std g.env h g.res=some (true,vs)∧Zgw vs=r∧Zzz r=true∧blk h 0 0=.row e sz y∧y.pure=true
section
variable {C:Ctx}{h:Zad}{L:Lay}{w:World}
def ZG3(a i:Nat):AV→AV
 | .row _ _=>.row a i
 | .slc _ _ k n c=>.slc a i k n c
 |v=>v
theorem Zqv{f:FuncId}{a i e sz:Nat}{x y:Row}{args:zA}{vs:Array Value}{r:AV}(H:HRel C h L w)(hb:blk h a i=.row e sz x)(hxn:0<x.elems.length)(hxp:x.pure=true)(hyp:y.pure=true)(hap:AV.pureL args=true)(hrel:RelL w (Zaz C h L) h L (.row a i::args) vs.toList)(hor:Zzz r=true)(hm:ZHI C.P f e sz x y args r):
 Calls C.P f vs w fun e' w'=>∃v L',e'=.returned v∧Step w (Zaz C h L) h L w' (Zaz C (ZaY h a i (.row e sz y)) L') (ZaY h a i (.row e sz y)) L'∧HRel C (ZaY h a i (.row e sz y)) L' w'∧ZaH C (ZaY h a i (.row e sz y)) L' w' (ZG3 a i r) v:=by
 obtain⟨ht,h0,h1,h2,h3⟩:=H.rowAt hb
 have hs0:L.size a i≠0:=by omega
 obtain⟨ht0,cur,h4,h5,h6,h7,h8⟩:=H.curAt hb hs0
 have hnd:blk h a i≠ .dead:=by rw[hb];simp
 let okA:Nat→Prop:=fun k=>Zaz C h L k∧k<w.heap.size
 let L1:Lay:=⟨fun _ _=>L.loc a i,fun _ _=>L.size a i⟩
 have h00:∀(L':Lay) (z:Row) b j,Plc (ZaB (some ⟨e,sz,z⟩)) L' b j→b=0∧j=0:=fun L' z b j hx=>by
  have hx:=hx.tag
  rw[Zb3]at hx
  split at hx
  ·assumption
  ·exact absurd rfl hx
 have hno:¬okA (L.loc a i):=fun ho=>ZvD H ho.1 ht0 rfl
 have hok1:∀g,g<w.heap.size→Zaz C h L g→Zaz (Ctx.mut C.P w okA [] (L.loc a i)) (ZaB (some ⟨e,sz,x⟩)) L1 g:=fun g hg ho=>.inl ⟨hg,ho,hg⟩
 have H1:HRel (Ctx.mut C.P w okA [] (L.loc a i)) (ZaB (some ⟨e,sz,x⟩)) L1 w:=by
  refine⟨Below.refl _ _,fun b j _=>⟨Nat.zero_le _,(H.live a i ht0).2⟩,fun b j=>?_,fun b j c k hb1 hb2 _=>?_,fun b j hx=>?_,fun _ _ _=>rfl,Nat.zero_le _,H.good.mut H.below H.low (H.live a i ht0).1 (by rcases H.home a i ht0 with q |⟨_,_,q,_⟩;exact .inl q;exact .inr q)⟩
  ·rw[Zb3]
   split
   ·exact⟨h0,h1,h2,h3,fun _=>⟨cur,h4,h5,⟨h6.1,fun j u v hu hv=>((h6.2 j u v hu hv).okmono (fun g hg ho=>hok1 g hg ho)).pure (AV.pureL_mem (Zbj hxp) hu)⟩,h7⟩⟩
   ·trivial
  ·obtain⟨rfl,rfl⟩:=h00 _ x b j hb1
   obtain⟨rfl,rfl⟩:=h00 _ x c k hb2
   exact⟨rfl,rfl⟩
  ·obtain⟨rfl,rfl⟩:=h00 _ x b j hx
   exact .inr ⟨rfl,rfl,rfl,hno⟩
 have hrel1:RelL w (Zaz (Ctx.mut C.P w okA [] (L.loc a i)) (ZaB (some ⟨e,sz,x⟩)) L1) (ZaB (some ⟨e,sz,x⟩)) L1 (.row 0 0::args) vs.toList:=by
  refine⟨by have:=hrel.1;simpa using this,fun j u v hu hv=>?_⟩
  cases j with
  |zero=>
   simp at hu;subst hu
   have hr:=hrel.2 0 _ v rfl hv
   cases hr with
   |row _ _ ad n c hn hl=>
    obtain⟨had,rfl,rfl⟩:=hl.2 _ ht
    refine .row 0 0 _ _ _ hn ⟨by show 0<0+1;omega,fun s hs=>?_⟩
    rw[Zb3]at hs
    simp only[and_self,if_true,Blk.tag,zS]at hs
    subst hs
    exact⟨had,rfl,rfl⟩
  |succ j=>
   have hu':args[j]? =some u:=by simpa using hu
   exact((hrel.2 (j+1) u v (by simpa using hu') hv).okmono (fun g hg ho=>hok1 g hg ho)).pure (AV.pureL_mem hap hu')
 refine(hm w okA L1 vs (fun k hk=>hk.2) H1 hrel1).mono ?_
 rintro e' w' ⟨v,L',rfl,hF,H2,rr⟩
 have ht2:(blk (ZaB (some ⟨e,sz,y⟩)) 0 0).tag=some (sz,y.elems.length):=rfl
 obtain⟨t1,l1,s1⟩:=hF.tags _ (by show 0<0+1;omega) ht2
 have l1:L'.loc 0 0=L.loc a i:=l1
 have s1:L'.size 0 0=L.size a i:=s1
 have hlen:y.elems.length=x.elems.length:=by
  have:(blk (ZaB (some ⟨e,sz,x⟩)) 0 0).tag=some (sz,x.elems.length):=rfl
  rw[this]at t1
  simp only[zS,zP,true_and]at t1
  exact t1.symm
 have hgr:w.grownBy w' (some (L.loc a i)):=⟨H2.below.os,H2.below.tape,H2.below.output,hF.size,fun k hk hne=>H2.low k hk (fun e=>hne (by rw[e]))⟩
 have hok2:∀(hst:Step w (Zaz C h L) h L w' (Zaz C (ZaY h a i (.row e sz y)) L) (ZaY h a i (.row e sz y)) L) g,Zaz (Ctx.mut C.P w okA [] (L.loc a i)) (ZaB (some ⟨e,sz,y⟩)) L' g→Zaz C (ZaY h a i (.row e sz y)) L g:=fun hst g ho=>by
  rcases ho with⟨q1,q2⟩ |⟨q1,q2⟩
  ·exact(hst.mem g q2.2 q2.1).1
  ·have q1:w.heap.size≤g:=q1
   refine .inr ⟨Nat.le_trans H.top q1,fun b j hx hxe=>?_⟩
   have:Plc h L b j:=by
    by_cases e1:a=b∧i=j
    ·obtain⟨rfl,rfl⟩:=e1;exact ht0
    ·exact hx.to (by rw[Zcm hnd,if_neg e1]) rfl
   have:=(H.live b j this).2
   omega
 obtain⟨hst,H3⟩:=H.set (b:=.row e sz y) ht0 (by rw[ht];show some (sz,y.elems.length)=_;rw[hlen]) hgr (fun hst=>by
  have hbr:=H2.blks 0 0
  rw[show blk (ZaB (some ⟨e,sz,y⟩)) 0 0=.row e sz y from rfl,l1,s1]at hbr
  obtain⟨g0,g1,g2,g3,hcur⟩:=hbr
  obtain⟨cur2,g4,g5,g6,g7⟩:=hcur hs0
  exact⟨g0,g1,g2,g3,fun _=>⟨cur2,g4,g5,⟨g6.1,fun j u v hu hv=>((g6.2 j u v hu hv).okmono (fun g _ ho=>hok2 hst g ho)).pure (AV.pureL_mem (Zbj hyp) hu)⟩,g7⟩⟩)
 refine⟨v,L,rfl,hst,H3,?_⟩
 have hbs:blk (ZaY h a i (.row e sz y)) a i=.row e sz y:=by rw[Zcm hnd,if_pos ⟨rfl,rfl⟩]
 have hlv:∀ {p p':Nat→Nat×Nat→Prop},Live (ZaB (some ⟨e,sz,y⟩)) L' 0 0 p→(∀s,p (L'.loc 0 0) s→p' (L.loc a i) s)→Live (ZaY h a i (.row e sz y)) L a i p':=fun hp hpp=>by
  refine⟨Zof (by rw[hbs];simp),fun s hs=>?_⟩
  rw[hbs]at hs
  simp only[Blk.tag,zS]at hs
  subst hs
  exact hpp _ (hp.2 _ ht2)
 have key:r.pure=true→ZaH C (ZaY h a i (.row e sz y)) L w' r v:=fun hp=>(rr.okmono (fun g _ ho=>hok2 hst g ho)).pure hp
 cases r with
 |row b j=>
  simp only[Zzz,Bool.and_eq_true]at hor
  have ha:=Nat.eq_of_beq_eq_true hor.1
  have hi:=Nat.eq_of_beq_eq_true hor.2
  subst ha;subst hi
  cases rr with
  |row _ _ ad n c hn hl=>exact .row a i ad n c hn (hlv hl fun s hp=>by rw[←s1,←l1];exact hp)
 |slc b j k n cap=>
  simp only[Zzz,Bool.and_eq_true]at hor
  have ha:=Nat.eq_of_beq_eq_true hor.1
  have hi:=Nat.eq_of_beq_eq_true hor.2
  subst ha;subst hi
  cases rr with
  |slc _ _ _ _ _ ad c hn hl=>exact .slc a i k n cap ad c hn (hlv hl fun s hp=>by rw[←s1,←l1];exact hp)
 |_=>exact key hor
end
section
variable {C:Ctx}{h:Zad}{Q:List AFrame→Zad→Prop}{f:AFrame}{fs:List AFrame}{k:List AItem}
theorem ZoW{o:AOp}{os:List AOp}{g:FuncId}{mm:Bool}{a0 a i e sz:Nat}{args:List Opd}{x y:Row}{rest:zA}{r:AV}(hr:f.ret=false)(ht:f.todo=.inReg (o::os)::k)(hg:o.g=none)(hk:o.k=.ncall mm a0 g args)
 (ha:args.map (Zbw (ZaP f.env))=.row a i::rest) (hb:blk h a i=.row e sz x) (hxn:0<x.elems.length) (hxp:x.pure=true) (hyp:y.pure=true) (hap:AV.pureL rest=true) (hor:Zzz r=true) (hm:ZHI C.P g e sz x y rest r)
 (hq:Ev C ({ f with env:=Zos f.env o.d (ZG3 a i r),todo:=.inReg os::k } ::fs) (ZaY h a i (.row e sz y)) Q):Ev C (f::fs) h Q:=by
 intro L fr cs w hf H _
 cases hf with
 |cons hf hkk=>
  rcases hf.mode with⟨e,_⟩ |⟨_,hmo,hi⟩
  ·rw[hr]at e;cases e
  ·rw[ht]at hi
   cases hi':fr.todo with
   |nil=>rw[hi']at hi;cases hi
   |cons z l=>
    rw[hi']at hi
    cases hi with
    |cons hx hki=>
     cases hx with
     |inReg ops ix _ hmc=>
      obtain⟨kk,ix',op,rfl,e1,e2,e3⟩:=ZfM hmc
      have henv:EnvF C h L w (ZaP f.env) fr.tmps:=hf.env
      obtain⟨g0,_,_⟩:=Zpx henv e2
      have hwant:=g0 hg
      have e2':=e2
      simp only[ZqQ,Bool.and_eq_true,beq_iff_eq]at e2'
      obtain⟨⟨⟨⟨hnd,hdst⟩,hdN⟩,_⟩,hmop⟩:=e2'
      have hdN':∀d',o.d=some d'→d'<fr.tmps.size:=fun d' e=>by rw[e]at hdN;rw[hf.size];simpa using hdN
      have e1':ops.toArray[kk]? =some op:=by simpa using e1
      have hfin:∀v,fr.finish v= { fr with tmps:=Zli fr.tmps o.d v,todo:=.inRegion ops.toArray ix'::l } :=fun v=>by rw[Zgr hi' e1',hdst]
      have hρ:=ZCC henv
      rw[hk]at hmop
      simp only[mop]at hmop
      split at hmop
      ·rename_i f' args' ts ho
       simp only[Bool.and_eq_true,beq_iff_eq]at hmop
       obtain⟨⟨rfl,hmop⟩,hcal⟩:=hmop
       have hrel:=ZcK hρ hmop
       rw[ha]at hrel
       have hrun:(execOp fr.eval op).run C.P w=.ok (.enter g (args'.map fr.eval)) w:=by simpa using ZhU (w:=w) ho (hρ.fnc g) hcal
       have hcalls:=Zqv H hb hxn hxp hyp hap hrel hor hm
       obtain⟨v,w',⟨v',L',e,s,H',hv⟩,hst⟩:=Zmx (cs:=cs) hmo hi' e1' hwant hnd hrun hcalls (fun e w'' hh=>by obtain⟨x,_,e,_⟩:=hh;exact⟨x,e⟩)
       cases e
       rw[hfin]at hst
       have hfs:=hf.step s
       have he':EnvF C (ZaY h a i (.row _ sz y)) L' w' (Env.put (ZaP f.env) o.d (ZG3 a i r)) (Zli fr.tmps o.d v):=(EnvF.step s henv).put hdN' (fun _=>hv)
       obtain⟨fs2,h2',L2,fr2,cs2,w2,q2,n2,a2,b2,s2⟩:=hq L' { fr with tmps:=Zli fr.tmps o.d v,todo:=.inRegion ops.toArray ix'::l } cs w'
        (.cons ⟨hf.fn,by rw[ZfD];exact hf.size,by intro t av hta;exact he' t av (by rw[←ZdX];exact hta),hf.kind,hfs.defs,hfs.rnd, .inr ⟨hr,hmo, .cons (.inReg ops ix' os e3) (hki.step s)⟩,hf.res⟩ (hkk.step s)) H' (by simp)
       exact⟨fs2,h2',L2,fr2,cs2,w2,q2,n2,a2,b2,hst.trans s2.1,(Fr.of s).trans s2.2⟩
      ·cases hmop
theorem Zu2{t a i e sz n:Nat}{r:Row}(ht:ZaP f.env t=some (.slc a i 0 n none))(hb:blk h a i=.row e sz r)(hz:ZkW a=false)(hn:n≤r.elems.length)
 (hq:Ev C ({ f with env:=Zdz f.env t (.row a (nxt h a)) } ::fs) (Zal (ZaY h a i .dead) a (.row e sz (r.sub std 0 n))) Q):Ev C (f::fs) h Q:=by
 intro L fr cs w hf H _
 cases hf with
 |cons hf hk=>
  obtain⟨L',s,H',rr⟩:=H.shrink hb (Zdt hz) hn
  rw[(Zdb (show blk h a i≠ .dead by rw[hb];simp)).1]at rr
  have hfs:=hf.step s
  obtain⟨fs2,h2',L2,fr2,cs2,w2,q2,n2,a2,b2,s2⟩:=hq L' fr cs w (.cons ⟨hf.fn,hf.size,fun t' av ht'=>by
   rw[Zci]at ht'
   split at ht'
   ·rename_i htt
    subst htt
    cases ht'
    exact rr _ (hf.env _ _ ht)
   ·exact hfs.env t' av ht',hf.kind,hfs.defs,hfs.rnd,hfs.mode,hf.res⟩ (hk.step s)) H' (by simp)
  exact⟨fs2,h2',L2,fr2,cs2,w2,q2,n2,a2,b2,s2.1,(Fr.of s).trans s2.2⟩
end
end Go.Proofs.YtkeoeooghhjibaaGreatDoor
