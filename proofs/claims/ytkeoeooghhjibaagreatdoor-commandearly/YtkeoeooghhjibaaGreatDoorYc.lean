/- Every code of the table stands for the program's. Printed by gentab.py. -/
import Derived.Test.YtkeoeooghhjibaaGreatDoorTa
import Derived.Test.YtkeoeooghhjibaaGreatDoorChecked
import Derived.KernelRfl
namespace Go.Proofs.YtkeoeooghhjibaaGreatDoor
set_option maxRecDepth 100000
theorem m7:Zar Tryz.prog 7 a7=true:=by kernel_rfl
theorem m13:Zar Tryz.prog 13 a13=true:=by kernel_rfl
theorem m14:Zar Tryz.prog 14 a14=true:=by kernel_rfl
theorem m15:Zar Tryz.prog 15 a15=true:=by kernel_rfl
theorem m16:Zar Tryz.prog 16 a16=true:=by kernel_rfl
theorem m19:Zar Tryz.prog 19 a19=true:=by kernel_rfl
theorem m22:Zar Tryz.prog 22 a22=true:=by kernel_rfl
theorem m23:Zar Tryz.prog 23 a23=true:=by kernel_rfl
theorem m24:Zar Tryz.prog 24 a24=true:=by kernel_rfl
theorem m25:Zar Tryz.prog 25 a25=true:=by kernel_rfl
theorem m26:Zar Tryz.prog 26 a26=true:=by kernel_rfl
theorem m28:Zar Tryz.prog 28 a28=true:=by kernel_rfl
theorem m29:Zar Tryz.prog 29 a29=true:=by kernel_rfl
theorem m33:Zar Tryz.prog 33 a33=true:=by kernel_rfl
theorem m35:Zar Tryz.prog 35 a35=true:=by kernel_rfl
theorem m36:Zar Tryz.prog 36 a36=true:=by kernel_rfl
theorem m37:Zar Tryz.prog 37 a37=true:=by kernel_rfl
theorem m40:Zar Tryz.prog 40 a40=true:=by kernel_rfl
theorem m41:Zar Tryz.prog 41 a41=true:=by kernel_rfl
theorem m42:Zar Tryz.prog 42 a42=true:=by kernel_rfl
theorem m53:Zar Tryz.prog 53 a53=true:=by kernel_rfl
theorem m65:Zar Tryz.prog 65 a65=true:=by kernel_rfl
theorem m66:Zar Tryz.prog 66 a66=true:=by kernel_rfl
theorem m67:Zar Tryz.prog 67 a67=true:=by kernel_rfl
theorem m68:Zar Tryz.prog 68 a68=true:=by kernel_rfl
theorem m69:Zar Tryz.prog 69 a69=true:=by kernel_rfl
theorem m70:Zar Tryz.prog 70 a70=true:=by kernel_rfl
theorem m71:Zar Tryz.prog 71 a71=true:=by kernel_rfl
theorem m72:Zar Tryz.prog 72 a72=true:=by kernel_rfl
theorem m73:Zar Tryz.prog 73 a73=true:=by kernel_rfl
theorem m74:Zar Tryz.prog 74 a74=true:=by kernel_rfl
theorem m75:Zar Tryz.prog 75 a75=true:=by kernel_rfl
theorem m76:Zar Tryz.prog 76 a76=true:=by kernel_rfl
theorem m80:Zar Tryz.prog 80 a80=true:=by kernel_rfl
theorem m81:Zar Tryz.prog 81 a81=true:=by kernel_rfl
theorem m82:Zar Tryz.prog 82 a82=true:=by kernel_rfl
theorem m83:Zar Tryz.prog 83 a83=true:=by kernel_rfl
theorem m87:Zar Tryz.prog 87 a87=true:=by kernel_rfl
theorem m88:Zar Tryz.prog 88 a88=true:=by kernel_rfl
theorem m89:Zar Tryz.prog 89 a89=true:=by kernel_rfl
theorem m90:Zar Tryz.prog 90 a90=true:=by kernel_rfl
theorem m91:Zar Tryz.prog 91 a91=true:=by kernel_rfl
theorem ZGF:Zar Tryz.prog 105 ZF1=true:=by kernel_rfl
theorem ZIF:Zar Tryz.prog 113 ZFg=true:=by kernel_rfl
theorem ZIO:Zar Tryz.prog 119 a119=true:=by kernel_rfl
theorem ZGZ:Zar Tryz.prog 120 a120=true:=by kernel_rfl
theorem ZGE:Zar Tryz.prog 121 ZF8=true:=by kernel_rfl
theorem ZHc:Zar Tryz.prog 122 a122=true:=by kernel_rfl
theorem ZIw:Zar Tryz.prog 123 a123=true:=by kernel_rfl
theorem ZHb:Zar Tryz.prog 125 ZFG=true:=by kernel_rfl
theorem ZHg:Zar Tryz.prog 126 ZFA=true:=by kernel_rfl
theorem ZIp:Zar Tryz.prog 127 ZFS=true:=by kernel_rfl
theorem ZG4:Zar Tryz.prog 128 ZFU=true:=by kernel_rfl
theorem ZI7:Zar Tryz.prog 129 ZFL=true:=by kernel_rfl
theorem ZH5:Zar Tryz.prog 130 ZFB=true:=by kernel_rfl
theorem ZHF:Zar Tryz.prog 131 ZGb=true:=by kernel_rfl
theorem ZGD:Zar Tryz.prog 132 ZGy=true:=by kernel_rfl
theorem ZHs:Zar Tryz.prog 133 ZFD=true:=by kernel_rfl
theorem ZG9:Zar Tryz.prog 134 ZGq=true:=by kernel_rfl
theorem ZIU:Zar Tryz.prog 135 ZGf=true:=by kernel_rfl
theorem ZHj:Zar Tryz.prog 136 a136=true:=by kernel_rfl
theorem ZG5:Zar Tryz.prog 137 ZGm=true:=by kernel_rfl
theorem ZIs:Zar Tryz.prog 138 ZFi=true:=by kernel_rfl
theorem ZHZ:Zar Tryz.prog 140 a140=true:=by kernel_rfl
theorem ZJc:Zar Tryz.prog 145 ZFW=true:=by kernel_rfl
theorem ZIR:Zar Tryz.prog 147 ZGp=true:=by kernel_rfl
theorem ZHl:Zar Tryz.prog 149 ZF9=true:=by kernel_rfl
theorem ZI1:Zar Tryz.prog 150 a150=true:=by kernel_rfl
theorem ZH3:Zar Tryz.prog 151 a151=true:=by kernel_rfl
theorem ZHC:Zar Tryz.prog 152 ZGk=true:=by kernel_rfl
theorem ZJe:Zar Tryz.prog 153 a153=true:=by kernel_rfl
theorem ZJf:Zar Tryz.prog 154 a154=true:=by kernel_rfl
theorem ZHW:Zar Tryz.prog 155 ZFH=true:=by kernel_rfl
theorem ZGS:Zar Tryz.prog 156 ZFs=true:=by kernel_rfl
theorem ZIv:Zar Tryz.prog 157 ZFt=true:=by kernel_rfl
theorem ZGG:Zar Tryz.prog 158 a158=true:=by kernel_rfl
theorem ZIc:Zar Tryz.prog 159 ZFK=true:=by kernel_rfl
theorem ZG1:Zar Tryz.prog 160 a160=true:=by kernel_rfl
theorem ZI6:Zar Tryz.prog 161 a161=true:=by kernel_rfl
theorem ZHh:Zar Tryz.prog 162 a162=true:=by kernel_rfl
theorem ZId:Zar Tryz.prog 163 a163=true:=by kernel_rfl
theorem ZGN:Zar Tryz.prog 164 a164=true:=by kernel_rfl
theorem ZIy:Zar Tryz.prog 165 a165=true:=by kernel_rfl
theorem ZHB:Zar Tryz.prog 166 ZFh=true:=by kernel_rfl
theorem ZH8:Zar Tryz.prog 174 ZFO=true:=by kernel_rfl
theorem ZHn:Zar Tryz.prog 178 ZFf=true:=by kernel_rfl
theorem ZG0:Zar Tryz.prog 179 ZFF=true:=by kernel_rfl
theorem ZG3:Zar Tryz.prog 180 ZFj=true:=by kernel_rfl
theorem ZIB:Zar Tryz.prog 181 ZGu=true:=by kernel_rfl
theorem ZHR:Zar Tryz.prog 182 a182=true:=by kernel_rfl
theorem ZH0:Zar Tryz.prog 183 ZGc=true:=by kernel_rfl
theorem ZGY:Zar Tryz.prog 198 ZGj=true:=by kernel_rfl
theorem ZIl:Zar Tryz.prog 199 ZFR=true:=by kernel_rfl
theorem ZGM:Zar Tryz.prog 200 ZFM=true:=by kernel_rfl
theorem ZIV:Zar Tryz.prog 207 ZFr=true:=by kernel_rfl
theorem ZGV:Zar Tryz.prog 208 ZGa=true:=by kernel_rfl
theorem ZID:Zar Tryz.prog 209 ZGo=true:=by kernel_rfl
theorem ZHI:Zar Tryz.prog 210 ZF4=true:=by kernel_rfl
theorem ZHK:Zar Tryz.prog 211 ZFl=true:=by kernel_rfl
theorem ZIN:Zar Tryz.prog 214 ZFx=true:=by kernel_rfl
theorem ZIj:Zar Tryz.prog 215 ZGv=true:=by kernel_rfl
theorem Zag:ZbB Tryz.prog tab:=FTree.ok (t:=tree) ⟨⟨⟨⟨⟨⟨⟨trivial,m7,trivial⟩,m13,⟨trivial,m14,trivial⟩⟩,m15,⟨⟨trivial,m16,trivial⟩,m19,trivial⟩⟩,m22,⟨⟨⟨trivial,m23,trivial⟩,m24,trivial⟩,m25,⟨⟨trivial,m26,trivial⟩,m28,trivial⟩⟩⟩,m29,⟨⟨⟨⟨trivial,m33,trivial⟩,m35,⟨trivial,m36,trivial⟩⟩,m37,⟨⟨trivial,m40,trivial⟩,m41,trivial⟩⟩,m42,⟨⟨⟨trivial,m53,trivial⟩,m65,trivial⟩,m66,⟨⟨trivial,m67,trivial⟩,m68,trivial⟩⟩⟩⟩,m69,⟨⟨⟨⟨⟨trivial,m70,trivial⟩,m71,⟨trivial,m72,trivial⟩⟩,m73,⟨⟨trivial,m74,trivial⟩,m75,trivial⟩⟩,m76,⟨⟨⟨trivial,m80,trivial⟩,m81,trivial⟩,m82,⟨⟨trivial,m83,trivial⟩,m87,trivial⟩⟩⟩,m88,⟨⟨⟨⟨trivial,m89,trivial⟩,m90,trivial⟩,m91,⟨⟨trivial,ZGF,trivial⟩,ZIF,trivial⟩⟩,ZIO,⟨⟨⟨trivial,ZGZ,trivial⟩,ZGE,trivial⟩,ZHc,⟨⟨trivial,ZIw,trivial⟩,ZHb,trivial⟩⟩⟩⟩⟩,ZHg,⟨⟨⟨⟨⟨⟨trivial,ZIp,trivial⟩,ZG4,⟨trivial,ZI7,trivial⟩⟩,ZH5,⟨⟨trivial,ZHF,trivial⟩,ZGD,trivial⟩⟩,ZHs,⟨⟨⟨trivial,ZG9,trivial⟩,ZIU,trivial⟩,ZHj,⟨⟨trivial,ZG5,trivial⟩,ZIs,trivial⟩⟩⟩,ZHZ,⟨⟨⟨⟨trivial,ZJc,trivial⟩,ZIR,⟨trivial,ZHl,trivial⟩⟩,ZI1,⟨⟨trivial,ZH3,trivial⟩,ZHC,trivial⟩⟩,ZJe,⟨⟨⟨trivial,ZJf,trivial⟩,ZHW,trivial⟩,ZGS,⟨⟨trivial,ZIv,trivial⟩,ZGG,trivial⟩⟩⟩⟩,ZIc,⟨⟨⟨⟨⟨trivial,ZG1,trivial⟩,ZI6,⟨trivial,ZHh,trivial⟩⟩,ZId,⟨⟨trivial,ZGN,trivial⟩,ZIy,trivial⟩⟩,ZHB,⟨⟨⟨trivial,ZH8,trivial⟩,ZHn,trivial⟩,ZG0,⟨⟨trivial,ZG3,trivial⟩,ZIB,trivial⟩⟩⟩,ZHR,⟨⟨⟨⟨trivial,ZH0,trivial⟩,ZGY,trivial⟩,ZIl,⟨⟨trivial,ZGM,trivial⟩,ZIV,trivial⟩⟩,ZGV,⟨⟨⟨trivial,ZID,trivial⟩,ZHI,trivial⟩,ZHK,⟨⟨trivial,ZIN,trivial⟩,ZIj,trivial⟩⟩⟩⟩⟩⟩
theorem follows:Tryz.prog.follows .mixedOrders=true:=by kernel_rfl
end Go.Proofs.YtkeoeooghhjibaaGreatDoor
/- A call that changes a row of the caller's. No condition. -/
namespace Go.Proofs.YtkeoeooghhjibaaGreatDoor
open Go.RowKit (Below)
abbrev Ctx.mut(P:Program)(w:World)(okA:Nat→Prop)(cs:List Frame)(g:Nat):Ctx:=⟨P,w,okA,cs,0,g⟩
def ZCC(P:Program)(f:FuncId)(e:TypeId)(sz:Nat)(x y:Row)(args:List AV)(r:AV):Prop:=
 ∀(w:World) (okA:Nat→Prop) (L:Lay) (vs:Array Value),(∀k,okA k→k<w.heap.size)→
  HRel (Ctx.mut P w okA [] (L.loc 0 0)) (Zaz (some ⟨e,sz,x⟩)) L w→
  RelL w (Zaw (Ctx.mut P w okA [] (L.loc 0 0)) (Zaz (some ⟨e,sz,x⟩)) L) (Zaz (some ⟨e,sz,x⟩)) L (.row 0 0::args) vs.toList→
  Calls P f vs w fun e' w'=>∃v L',e'=.returned v∧Fr (Ctx.mut P w okA [] (L.loc 0 0)) (Zaz (some ⟨e,sz,x⟩)) L w (Zaz (some ⟨e,sz,y⟩)) L' w'∧
   HRel (Ctx.mut P w okA [] (L.loc 0 0)) (Zaz (some ⟨e,sz,y⟩)) L' w'∧ZaG (Ctx.mut P w okA [] (L.loc 0 0)) (Zaz (some ⟨e,sz,y⟩)) L' w' r v
def Zvt:AV→Bool
 | .row a i=>Nat.beq a 0&&Nat.beq i 0
 | .slc a i _ _ _=>Nat.beq a 0&&Nat.beq i 0
 |v=>v.pure
def ZHr(f:FuncId)(e:TypeId)(sz:Nat)(y:Row)(r:AV)(fs:List AFrame)(h:Zac):Prop:=
 ∃g vs,fs=[g]∧g.fn=f∧g.ret=true∧g.rnd=none∧g.defs=[]∧Zej std g.env h g.res=some (true,vs)∧Zfm vs=r∧Zvt r=true∧blk h 0 0=.row e sz y∧y.pure=true
section
variable {C:Ctx}{h:Zac}{L:Lay}{w:World}
def Zyl(a i:Nat):AV→AV
 | .row _ _=>.row a i
 | .slc _ _ k n c=>.slc a i k n c
 |v=>v
theorem Znw{f:FuncId}{a i e sz:Nat}{x y:Row}{args:List AV}{vs:Array Value}{r:AV}(H:HRel C h L w)(hb:blk h a i=.row e sz x)(hxn:0<x.elems.length)(hxp:x.pure=true)(hyp:y.pure=true)(hap:AV.pureL args=true)(hrel:RelL w (Zaw C h L) h L (.row a i::args) vs.toList)(hor:Zvt r=true)(hm:ZCC C.P f e sz x y args r):
 Calls C.P f vs w fun e' w'=>∃v L',e'=.returned v∧Step w (Zaw C h L) h L w' (Zaw C (ZaR h a i (.row e sz y)) L') (ZaR h a i (.row e sz y)) L'∧HRel C (ZaR h a i (.row e sz y)) L' w'∧ZaG C (ZaR h a i (.row e sz y)) L' w' (Zyl a i r) v:=by
 obtain⟨ht,h0,h1,h2,h3⟩:=H.rowAt hb
 have hs0:L.size a i≠0:=by omega
 obtain⟨ht0,cur,h4,h5,h6,h7,h8⟩:=H.curAt hb hs0
 have hnd:blk h a i≠ .dead:=by rw[hb];simp
 let okA:Nat→Prop:=fun k=>Zaw C h L k∧k<w.heap.size
 let L1:Lay:=⟨fun _ _=>L.loc a i,fun _ _=>L.size a i⟩
 have h00:∀(L':Lay) (z:Row) b j,Plc (Zaz (some ⟨e,sz,z⟩)) L' b j→b=0∧j=0:=fun L' z b j hx=>by
  have hx:=hx.tag
  rw[ZbL]at hx
  split at hx
  ·assumption
  ·exact absurd rfl hx
 have hno:¬okA (L.loc a i):=fun ho=>Zse H ho.1 ht0 rfl
 have hok1:∀g,g<w.heap.size→Zaw C h L g→Zaw (Ctx.mut C.P w okA [] (L.loc a i)) (Zaz (some ⟨e,sz,x⟩)) L1 g:=fun g hg ho=>.inl ⟨hg,ho,hg⟩
 have H1:HRel (Ctx.mut C.P w okA [] (L.loc a i)) (Zaz (some ⟨e,sz,x⟩)) L1 w:=by
  refine⟨Below.refl _ _,fun b j _=>⟨Nat.zero_le _,(H.live a i ht0).2⟩,fun b j=>?_,fun b j c k hb1 hb2 _=>?_,fun b j hx=>?_,fun _ _ _=>rfl,Nat.zero_le _⟩
  ·rw[ZbL]
   split
   ·exact⟨h0,h1,h2,h3,fun _=>⟨cur,h4,h5,⟨h6.1,fun j u v hu hv=>((h6.2 j u v hu hv).okmono (fun g hg ho=>hok1 g hg ho)).pure (AV.pureL_mem (Za7 hxp) hu)⟩,h7⟩⟩
   ·trivial
  ·obtain⟨rfl,rfl⟩:=h00 _ x b j hb1
   obtain⟨rfl,rfl⟩:=h00 _ x c k hb2
   exact⟨rfl,rfl⟩
  ·obtain⟨rfl,rfl⟩:=h00 _ x b j hx
   exact .inr ⟨rfl,rfl,rfl,hno⟩
 have hrel1:RelL w (Zaw (Ctx.mut C.P w okA [] (L.loc a i)) (Zaz (some ⟨e,sz,x⟩)) L1) (Zaz (some ⟨e,sz,x⟩)) L1 (.row 0 0::args) vs.toList:=by
  refine⟨by have:=hrel.1;simpa using this,fun j u v hu hv=>?_⟩
  cases j with
  |zero=>
   simp at hu;subst hu
   have hr:=hrel.2 0 _ v rfl hv
   cases hr with
   |row _ _ ad n c hn hl=>
    obtain⟨had,rfl,rfl⟩:=hl.2 _ ht
    refine .row 0 0 _ _ _ hn ⟨by show 0<0+1;omega,fun s hs=>?_⟩
    rw[ZbL]at hs
    simp only[and_self,if_true,Blk.tag,Option.some.injEq]at hs
    subst hs
    exact⟨had,rfl,rfl⟩
  |succ j=>
   have hu':args[j]? =some u:=by simpa using hu
   exact((hrel.2 (j+1) u v (by simpa using hu') hv).okmono (fun g hg ho=>hok1 g hg ho)).pure (AV.pureL_mem hap hu')
 refine(hm w okA L1 vs (fun k hk=>hk.2) H1 hrel1).mono ?_
 rintro e' w' ⟨v,L',rfl,hF,H2,rr⟩
 have ht2:(blk (Zaz (some ⟨e,sz,y⟩)) 0 0).tag=some (sz,y.elems.length):=rfl
 obtain⟨t1,l1,s1⟩:=hF.tags _ (by show 0<0+1;omega) ht2
 have l1:L'.loc 0 0=L.loc a i:=l1
 have s1:L'.size 0 0=L.size a i:=s1
 have hlen:y.elems.length=x.elems.length:=by
  have:(blk (Zaz (some ⟨e,sz,x⟩)) 0 0).tag=some (sz,x.elems.length):=rfl
  rw[this]at t1
  simp only[Option.some.injEq,Prod.mk.injEq,true_and]at t1
  exact t1.symm
 have hgr:w.grownBy w' (some (L.loc a i)):=⟨H2.below.os,H2.below.tape,H2.below.output,hF.size,fun k hk hne=>H2.low k hk (fun e=>hne (by rw[e]))⟩
 have hok2:∀(hst:Step w (Zaw C h L) h L w' (Zaw C (ZaR h a i (.row e sz y)) L) (ZaR h a i (.row e sz y)) L) g,Zaw (Ctx.mut C.P w okA [] (L.loc a i)) (Zaz (some ⟨e,sz,y⟩)) L' g→Zaw C (ZaR h a i (.row e sz y)) L g:=fun hst g ho=>by
  rcases ho with⟨q1,q2⟩ |⟨q1,q2⟩
  ·exact(hst.mem g q2.2 q2.1).1
  ·have q1:w.heap.size≤g:=q1
   refine .inr ⟨Nat.le_trans H.top q1,fun b j hx hxe=>?_⟩
   have:Plc h L b j:=by
    by_cases e1:a=b∧i=j
    ·obtain⟨rfl,rfl⟩:=e1;exact ht0
    ·exact hx.to (by rw[Zcd hnd,if_neg e1]) rfl
   have:=(H.live b j this).2
   omega
 obtain⟨hst,H3⟩:=H.set (b:=.row e sz y) ht0 (by rw[ht];show some (sz,y.elems.length)=_;rw[hlen]) hgr (fun hst=>by
  have hbr:=H2.blks 0 0
  rw[show blk (Zaz (some ⟨e,sz,y⟩)) 0 0=.row e sz y from rfl,l1,s1]at hbr
  obtain⟨g0,g1,g2,g3,hcur⟩:=hbr
  obtain⟨cur2,g4,g5,g6,g7⟩:=hcur hs0
  exact⟨g0,g1,g2,g3,fun _=>⟨cur2,g4,g5,⟨g6.1,fun j u v hu hv=>((g6.2 j u v hu hv).okmono (fun g _ ho=>hok2 hst g ho)).pure (AV.pureL_mem (Za7 hyp) hu)⟩,g7⟩⟩)
 refine⟨v,L,rfl,hst,H3,?_⟩
 have hbs:blk (ZaR h a i (.row e sz y)) a i=.row e sz y:=by rw[Zcd hnd,if_pos ⟨rfl,rfl⟩]
 have hlv:∀ {p p':Nat→Nat×Nat→Prop},Live (Zaz (some ⟨e,sz,y⟩)) L' 0 0 p→(∀s,p (L'.loc 0 0) s→p' (L.loc a i) s)→Live (ZaR h a i (.row e sz y)) L a i p':=fun hp hpp=>by
  refine⟨Zpy (by rw[hbs];simp),fun s hs=>?_⟩
  rw[hbs]at hs
  simp only[Blk.tag,Option.some.injEq]at hs
  subst hs
  exact hpp _ (hp.2 _ ht2)
 have key:r.pure=true→ZaG C (ZaR h a i (.row e sz y)) L w' r v:=fun hp=>(rr.okmono (fun g _ ho=>hok2 hst g ho)).pure hp
 cases r with
 |row b j=>
  simp only[Zvt,Bool.and_eq_true]at hor
  have ha:=Nat.eq_of_beq_eq_true hor.1
  have hi:=Nat.eq_of_beq_eq_true hor.2
  subst ha;subst hi
  cases rr with
  |row _ _ ad n c hn hl=>exact .row a i ad n c hn (hlv hl fun s hp=>by rw[←s1,←l1];exact hp)
 |slc b j k n cap=>
  simp only[Zvt,Bool.and_eq_true]at hor
  have ha:=Nat.eq_of_beq_eq_true hor.1
  have hi:=Nat.eq_of_beq_eq_true hor.2
  subst ha;subst hi
  cases rr with
  |slc _ _ _ _ _ ad c hn hl=>exact .slc a i k n cap ad c hn (hlv hl fun s hp=>by rw[←s1,←l1];exact hp)
 |_=>exact key hor
end
section
variable {C:Ctx}{h:Zac}{Q:List AFrame→Zac→Prop}{f:AFrame}{fs:List AFrame}{k:List AItem}
theorem Zmk{o:AOp}{os:List AOp}{g:FuncId}{mm:Bool}{a0 a i e sz:Nat}{args:List Opd}{x y:Row}{rest:List AV}{r:AV}(hr:f.ret=false)(ht:f.todo=.inReg (o::os)::k)(hg:o.g=none)(hk:o.k=.ncall mm a0 g args)
 (ha:args.map (Zbi (ZaO f.env))=.row a i::rest) (hb:blk h a i=.row e sz x) (hxn:0<x.elems.length) (hxp:x.pure=true) (hyp:y.pure=true) (hap:AV.pureL rest=true) (hor:Zvt r=true) (hm:ZCC C.P g e sz x y rest r)
 (hq:Ev C ({ f with env:=Znp f.env o.d (Zyl a i r),todo:=.inReg os::k } ::fs) (ZaR h a i (.row e sz y)) Q):Ev C (f::fs) h Q:=by
 intro L fr cs w hf H _
 cases hf with
 |cons hf hkk=>
  rcases hf.mode with⟨e,_⟩ |⟨_,hmo,hi⟩
  ·rw[hr]at e;cases e
  ·rw[ht]at hi
   cases hi':fr.todo with
   |nil=>rw[hi']at hi;cases hi
   |cons z l=>
    rw[hi']at hi
    cases hi with
    |cons hx hki=>
     cases hx with
     |inReg ops ix _ hmc=>
      obtain⟨kk,ix',op,rfl,e1,e2,e3⟩:=ZeV hmc
      have henv:EnvF C h L w (ZaO f.env) fr.tmps:=hf.env
      obtain⟨g0,_,_⟩:=Zml henv e2
      have hwant:=g0 hg
      have e2':=e2
      simp only[Zoe,Bool.and_eq_true,beq_iff_eq]at e2'
      obtain⟨⟨⟨⟨hnd,hdst⟩,hdN⟩,_⟩,hmop⟩:=e2'
      have hdN':∀d',o.d=some d'→d'<fr.tmps.size:=fun d' e=>by rw[e]at hdN;rw[hf.size];simpa using hdN
      have e1':ops.toArray[kk]? =some op:=by simpa using e1
      have hfin:∀v,fr.finish v= { fr with tmps:=Zjg fr.tmps o.d v,todo:=.inRegion ops.toArray ix'::l } :=fun v=>by rw[ZfD hi' e1',hdst]
      have hρ:=ZCr henv
      rw[hk]at hmop
      simp only[mop]at hmop
      split at hmop
      ·rename_i f' args' ts ho
       simp only[Bool.and_eq_true,beq_iff_eq]at hmop
       obtain⟨⟨rfl,hmop⟩,hcal⟩:=hmop
       have hrel:=Zcn hρ hmop
       rw[ha]at hrel
       have hrun:(execOp fr.eval op).run C.P w=.ok (.enter g (args'.map fr.eval)) w:=by simpa using Zgk (w:=w) ho (hρ.fnc g) hcal
       have hcalls:=Znw H hb hxn hxp hyp hap hrel hor hm
       obtain⟨v,w',⟨v',L',e,s,H',hv⟩,hst⟩:=Zku (cs:=cs) hmo hi' e1' hwant hnd hrun hcalls (fun e w'' hh=>by obtain⟨x,_,e,_⟩:=hh;exact⟨x,e⟩)
       cases e
       rw[hfin]at hst
       have hfs:=hf.step s
       have he':EnvF C (ZaR h a i (.row _ sz y)) L' w' (Env.put (ZaO f.env) o.d (Zyl a i r)) (Zjg fr.tmps o.d v):=(EnvF.step s henv).put hdN' (fun _=>hv)
       obtain⟨fs2,h2',L2,fr2,cs2,w2,q2,n2,a2,b2,s2⟩:=hq L' { fr with tmps:=Zjg fr.tmps o.d v,todo:=.inRegion ops.toArray ix'::l } cs w'
        (.cons ⟨hf.fn,by rw[Ze2];exact hf.size,by intro t av hta;exact he' t av (by rw[←Zdk];exact hta),hf.kind,hfs.defs,hfs.rnd, .inr ⟨hr,hmo, .cons (.inReg ops ix' os e3) (hki.step s)⟩,hf.res⟩ (hkk.step s)) H' (by simp)
       exact⟨fs2,h2',L2,fr2,cs2,w2,q2,n2,a2,b2,hst.trans s2.1,(Fr.of s).trans s2.2⟩
      ·cases hmop
theorem ZrB{t a i e sz n:Nat}{r:Row}(ht:ZaO f.env t=some (.slc a i 0 n none))(hb:blk h a i=.row e sz r)(hz:Zlz a=false)(hn:n≤r.elems.length)
 (hq:Ev C ({ f with env:=Zde f.env t (.row a (nxt h a)) } ::fs) (Zak (ZaR h a i .dead) a (.row e sz (r.sub std 0 n))) Q):Ev C (f::fs) h Q:=by
 intro L fr cs w hf H _
 cases hf with
 |cons hf hk=>
  obtain⟨L',s,H',rr⟩:=H.shrink hb (Zda hz) hn
  rw[(ZcT (show blk h a i≠ .dead by rw[hb];simp)).1]at rr
  have hfs:=hf.step s
  obtain⟨fs2,h2',L2,fr2,cs2,w2,q2,n2,a2,b2,s2⟩:=hq L' fr cs w (.cons ⟨hf.fn,hf.size,fun t' av ht'=>by
   rw[ZbP]at ht'
   split at ht'
   ·rename_i htt
    subst htt
    cases ht'
    exact rr _ (hf.env _ _ ht)
   ·exact hfs.env t' av ht',hf.kind,hfs.defs,hfs.rnd,hfs.mode,hf.res⟩ (hk.step s)) H' (by simp)
  exact⟨fs2,h2',L2,fr2,cs2,w2,q2,n2,a2,b2,s2.1,(Fr.of s).trans s2.2⟩
end
end Go.Proofs.YtkeoeooghhjibaaGreatDoor
/- Guided runs: where the way hangs on a letter, a list of choices says which way is taken. No condition. -/
namespace Go.Proofs.YtkeoeooghhjibaaGreatDoor
open Go.RowKit (Below)
def ZAo:List (Nat×AV)→Nat→AV→List (Nat×AV)
 |[],_,_=>[]
 |(i,x)::l,t,y=>match Nat.beq i t with |true=>(i,y)::l |false=>(i,x)::ZAo l t y
theorem ZgD:∀ {env:List (Nat×AV)} {t:Nat} {v:AV},ZaO env t=some v→ZAo env t v=env
 |[],t,v,h=>by cases h
 |(i,x)::l,t,v,h=>by
  simp only[ZaO]at h
  simp only[ZAo]
  split
  ·rename_i hb;rw[hb]at h;cases h;rfl
  ·rename_i hb;rw[hb]at h;rw[ZgD h]
def asB(p b:Bool):Bool:=match p with |true=>b |false=>!b
theorem Zsr{p b:Bool}(h:asB p b=true):b=p:=by cases p<;>cases b<;>first |rfl |cases h
abbrev ZfG:=List (Nat×AV)
def ZoX(env:ZfG)(pa acc:List Bool)(t:Nat):Option (List Bool×List Bool×ZfG):=
 match ZaO env t with
 |some v=>(match v with
  | .bool b=>(match pa with
    |p::ps=>some (ps,asB p b::acc,ZAo env t (.bool p))
    |[]=>none)
  |_=>some (pa,acc,env))
 |none=>some (pa,acc,env)
theorem ZpS{env env':ZfG}{pa pa' acc acc':List Bool}{t:Nat}(h:ZoX env pa acc t=some (pa',acc',env'))(hb:∀b∈acc',b=true):env'=env∧∀b∈acc,b=true:=by
 unfold ZoX at h
 split at h
 ·rename_i v hv
  split at h
  ·rename_i b
   split at h
   ·rename_i p ps
    cases h
    have:=Zsr (hb _ List.mem_cons_self)
    subst this
    exact⟨ZgD hv,fun b hb'=>hb b (List.mem_cons_of_mem _ hb')⟩
   ·cases h
  ·cases h;exact⟨rfl,hb⟩
 ·cases h;exact⟨rfl,hb⟩
def inN(t:Nat):List Nat→Bool
 |[]=>false
 |x::l=>match Nat.beq x t with |true=>true |false=>inN t l
def ZIz(d:Option Nat)(l:List Nat):List Nat:=match d with |none=>l |some t=>l.filter fun x=>!Nat.beq x t
abbrev ZBL:=Option (List Bool×List Bool×ZfG×List Nat)
def ZiN(st:List Nat)(env:ZfG)(pa acc:List Bool)(t:Nat):ZBL:=
 match inN t st with
 |true=>some (pa,acc,env,st)
 |false=>match ZoX env pa acc t with
  |none=>none
  |some (pa',acc',env')=>some (pa',acc',env',t::st)
theorem Zfh{st st':List Nat}{env env':ZfG}{pa pa' acc acc':List Bool}{t:Nat}(h:ZiN st env pa acc t=some (pa',acc',env',st'))(hb:∀b∈acc',b=true):env'=env∧∀b∈acc,b=true:=by
 unfold ZiN at h
 split at h
 ·cases h;exact⟨rfl,hb⟩
 ·split at h
  ·cases h
  ·rename_i hs;cases h;exact ZpS hs hb
def Zza:Nat→List Bool→Option (Nat×List Bool)
 |_,[]=>none
 |j,b::pa=>match b with |true=>some (j,pa) |false=>Zza (j+1) pa
def ZlF(A:Ar)(st:List Nat)(env:ZfG)(pa acc:List Bool)(t:Nat):ZBL:=
 match ZaO env t with
 |some v=>(match v with
  | .int k n=>(match Zza 0 pa with
    |some (j,ps)=>some (ps,A.eq n (Int.ofNat j)::acc,ZAo env t (.int k (Int.ofNat j)),st)
    |none=>none)
  |_=>some (pa,acc,env,st))
 |none=>some (pa,acc,env,st)
theorem ZnN{st st':List Nat}{env env':ZfG}{pa pa' acc acc':List Bool}{t:Nat}(h:ZlF std st env pa acc t=some (pa',acc',env',st'))(hb:∀b∈acc',b=true):env'=env∧∀b∈acc,b=true:=by
 unfold ZlF at h
 split at h
 ·rename_i v hv
  split at h
  ·rename_i k n
   split at h
   ·rename_i j ps _
    cases h
    have e:std.eq n (Int.ofNat j)=true:=hb _ List.mem_cons_self
    have e:n=Int.ofNat j:=by simpa[std]using e
    subst e
    exact⟨ZgD hv,fun b hb'=>hb b (List.mem_cons_of_mem _ hb')⟩
   ·cases h
  ·cases h;exact⟨rfl,hb⟩
 ·cases h;exact⟨rfl,hb⟩
def ZiZ(A:Ar)(st:List Nat)(i:Opd)(env:ZfG)(pa acc:List Bool):ZBL:=
 match i with
 | .s t=>ZlF A st env pa acc t
 |_=>some (pa,acc,env,st)
theorem ZhO{st st':List Nat}{i:Opd}{env env':ZfG}{pa pa' acc acc':List Bool}(h:ZiZ std st i env pa acc=some (pa',acc',env',st'))(hb:∀b∈acc',b=true):env'=env∧∀b∈acc,b=true:=by
 unfold ZiZ at h
 split at h
 ·exact ZnN h hb
 ·cases h;exact⟨rfl,hb⟩
def ZiQ(A:Ar)(st:List Nat)(k:OpK)(env:ZfG)(pa acc:List Bool):ZBL:=
 match k with
 | .aaddr _ _ _ i=>ZiZ A st i env pa acc
 | .idxa _ _ _ i=>ZiZ A st i env pa acc
 | .pick c _ _=>(match c with | .t n=>ZiN st env pa acc n |_=>some (pa,acc,env,st))
 |_=>some (pa,acc,env,st)
theorem ZhN{st st':List Nat}{k:OpK}{env env':ZfG}{pa pa' acc acc':List Bool}(h:ZiQ std st k env pa acc=some (pa',acc',env',st'))(hb:∀b∈acc',b=true):env'=env∧∀b∈acc,b=true:=by
 unfold ZiQ at h
 split at h
 ·exact ZhO h hb
 ·exact ZhO h hb
 ·split at h
  ·exact Zfh h hb
  ·cases h;exact⟨rfl,hb⟩
 ·cases h;exact⟨rfl,hb⟩
def ZiP(A:Ar)(st:List Nat)(o:AOp)(env:ZfG)(pa acc:List Bool):ZBL:=
 match o.g with
 |none=>ZiQ A st o.k env pa acc
 |some p=>match ZiN st env pa acc p.1 with
  |none=>none
  |some (pa1,acc1,env1,st1)=>match ZfY o env1 with
   |some g=>(match g with |true=>ZiQ A st1 o.k env1 pa1 acc1 |false=>some (pa1,acc1,env1,st1))
   |none=>none
theorem Zfd{st st':List Nat}{o:AOp}{env env':ZfG}{pa pa' acc acc':List Bool}(h:ZiP std st o env pa acc=some (pa',acc',env',st'))(hb:∀b∈acc',b=true):env'=env∧∀b∈acc,b=true:=by
 unfold ZiP at h
 split at h
 ·exact ZhN h hb
 ·split at h
  ·cases h
  ·rename_i pa1 acc1 env1 st1 hs
   split at h
   ·split at h
    ·obtain⟨e1,h1⟩:=ZhN h hb
     obtain⟨e2,h2⟩:=Zfh hs h1
     exact⟨e1.trans e2,h2⟩
    ·cases h;exact Zfh hs hb
   ·cases h
structure Ctr where
 f:FuncId
 n:Nat
 run:List Bool→List AV→Option (Bool×AV×Option Fresh)
def ZwI(P:Program)(f:FuncId)(args:List AV)(r:AV)(fr:Option Fresh):Prop:=
 match Nat.blt f 1000000 with
 |true=>Zao P f args r fr
 |false=>∀x rest fs,args=.list x::rest→fr=some fs→ZCC P (f-1000000) fs.e fs.sz x fs.r rest r
def Ctr.OK(P:Program)(c:Ctr):Prop:=∀pa args r fr,c.run pa args=some (true,r,fr)→ZwI P c.f args r fr
def ZnF:List Ctr→List Bool→Con
 |[],_,_,_=>none
 |c::l,pa,f,args=>match Nat.beq c.f f with
  |true=>(match Nat.blt f 1000000 with
   |true=>(match c.run pa args with |some r=>some r |none=>ZnF l pa f args)
   |false=>none)
  |false=>ZnF l pa f args
def ZyG:List Ctr→List Bool→FuncId→List AV→Option (Bool×AV×Option Fresh)
 |[],_,_,_=>none
 |c::l,pa,f,args=>match Nat.beq c.f (f+1000000)with
  |true=>(match c.run pa args with |some r=>some r |none=>ZyG l pa f args)
  |false=>ZyG l pa f args
def ZFI:List Ctr→FuncId→Nat
 |[],_=>0
 |c::l,f=>match Nat.beq c.f f with |true=>c.n |false=>ZFI l f
def ZaD(P:Program):List Ctr→Prop
 |[]=>True
 |c::l=>c.OK P∧ZaD P l
theorem Zgx{P:Program} :∀ {l:List Ctr},ZaD P l→∀pa,Zfc P (ZnF l pa)
 |[],_,pa=>fun f args r fr h=>by cases h
 |c::l,⟨h1,h2⟩,pa=>fun f args r fr h=>by
  simp only[ZnF]at h
  split at h
  ·rename_i e
   have e:c.f=f:=Nat.eq_of_beq_eq_true e
   split at h
   ·rename_i hlt
    split at h
    ·rename_i q hq
     cases h
     have:=h1 _ _ _ _ hq
     unfold ZwI at this
     rw[e,hlt]at this
     exact this
    ·exact Zgx h2 pa f args r fr h
   ·cases h
  ·exact Zgx h2 pa f args r fr h
theorem Zjo{P:Program} :∀ {l:List Ctr},ZaD P l→∀ {pa:List Bool} {f:FuncId} {x:Row} {rest:List AV} {r:AV} {fs:Fresh},ZyG l pa f (.list x::rest)=some (true,r,some fs)→ZCC P f fs.e fs.sz x fs.r rest r
 |[],_,pa,f,x,rest,r,fs,h=>by cases h
 |c::l,⟨h1,h2⟩,pa,f,x,rest,r,fs,h=>by
  simp only[ZyG]at h
  split at h
  ·rename_i e
   have e:c.f=f+1000000:=Nat.eq_of_beq_eq_true e
   split at h
   ·rename_i q hq
    cases h
    have:=h1 _ _ _ _ hq
    unfold ZwI at this
    have hb:Nat.blt c.f 1000000=false:=Zch (by rw[e];exact Nat.le_add_left _ _)
    rw[hb]at this
    have h3:=this x rest fs rfl rfl
    rw[e,Nat.add_sub_cancel]at h3
    exact h3
   ·exact Zjo h2 h
  ·exact Zjo h2 h
theorem ZkK{α:Type}(t:Nat)(x y:α):∀l:List (Nat×α),Zde (Zde l t x) t y=Zde l t y
 |[]=>by have:Nat.beq t t=true:=by simp
         simp only[Zde,this]
 |(i,z)::l=>by
  have ht:Nat.beq t t=true:=by simp
  cases hb:Nat.beq i t with
  |true=>simp only[Zde,hb]
  |false=>cases hl:Nat.blt t i with
   |true=>simp only[Zde,hb,hl,ht]
   |false=>simp only[Zde,hb,hl,ZkK t x y l]
def Zw8:AV→Option Nat
 | .slc _ _ k n c=>(match Nat.beq k 0,c with |true,none=>some n |_,_=>none)
 |_=>none
theorem ZnG{r:AV}{n a i:Nat}(h:Zw8 r=some n):Zyl a i r=.slc a i 0 n none:=by
 unfold Zw8 at h
 split at h
 ·rename_i b j k m c
  split at h
  ·rename_i hk
   have:=Nat.eq_of_beq_eq_true hk
   subst this
   cases h;rfl
  ·cases h
 ·cases h
def ZDv(A:Ar)(l:List Ctr)(pa:List Bool)(env:ZfG)(h:Zac)(o:AOp):Option (Bool×AV×Zac):=
 match o.g with
 |some _=>none
 |none=>match o.k with
  | .ncall _ _ g args=>match args.map (Zbi (ZaO env))with
    |v::rest=>match v with
     | .row a i=>match blk h a i with
       | .row e sz x=>match AV.pureL rest&&x.pure with
         |true=>match ZyG l pa g (.list x::rest)with
          |some (b,r,some fs)=>match fs.r.pure&&Zvt r with
           |true=>(match Zw8 r,Zlz a,o.d with
            |some n,false,some _=>some (Zah (Nat.blt 0 (x.len A))<|Zah (Nat.ble n (fs.r.len A)) (Zah b (Zah (Nat.beq fs.e e) (Nat.beq fs.sz sz))), .row a (nxt (ZaR h a i (.row e sz fs.r)) a),Zak (ZaR (ZaR h a i (.row e sz fs.r)) a i .dead) a (.row e sz (fs.r.sub A 0 n)))
            |_,_,_=>some (Zah (Nat.blt 0 (x.len A))<|Zah b (Zah (Nat.beq fs.e e) (Nat.beq fs.sz sz)),Zyl a i r,ZaR h a i (.row e sz fs.r)))
           |false=>none
          |_=>none
         |false=>none
       |_=>none
     |_=>none
    |[]=>none
  |_=>none
theorem Zvs{C:Ctx}{l:List Ctr}{pa:List Bool}{h h':Zac}{Q:List AFrame→Zac→Prop}{f:AFrame}{fs:List AFrame}{k:List AItem}{o:AOp}{os:List AOp}{r:AV}(hl:ZaD C.P l)(hr:f.ret=false)(ht:f.todo=.inReg (o::os)::k)(hm:ZDv std l pa f.env h o=some (true,r,h'))
 (hq:Ev C ({ f with env:=Znp f.env o.d r,todo:=.inReg os::k } ::fs) h' Q):Ev C (f::fs) h Q:=by
 unfold ZDv at hm
 split at hm
 ·cases hm
 ·rename_i hg
  split at hm
  ·rename_i mm a0 g args hk
   split at hm
   ·rename_i v rest ha
    split at hm
    ·rename_i a i
     split at hm
     ·rename_i e sz x hb
      split at hm
      ·rename_i hp
       split at hm
       ·rename_i b r0 fs0 hc
        split at hm
        ·rename_i hp2
         simp only[Bool.and_eq_true]at hp hp2
         split at hm
         ·rename_i n d hpm hfz hd
          simp only[Option.some.injEq,Prod.mk.injEq,std_and]at hm
          obtain⟨⟨hxn,hle,rfl,he,hs⟩,rfl,rfl⟩:=hm
          have hxn:0<x.elems.length:=by rw[Row.len_std]at hxn;simpa[std]using hxn
          have he:fs0.e=e:=by simpa[std]using he
          have hs:fs0.sz=sz:=by simpa[std]using hs
          have hle:n≤fs0.r.elems.length:=by rw[Row.len_std]at hle;simpa[std]using hle
          have hmu:=Zjo hl hc
          rw[he,hs]at hmu
          have hnd:blk h a i≠ .dead:=by rw[hb];simp
          refine Zmk hr ht hg hk ha hb hxn hp.2 hp2.1 hp.1 hp2.2 hmu ?_
          rw[ZnG hpm]
          refine ZrB (t:=d) (a:=a) (i:=i) (e:=e) (sz:=sz) (n:=n) (r:=fs0.r) ?_ (by rw[Zcd hnd,if_pos ⟨rfl,rfl⟩]) hfz hle ?_
          ·simp only[hd,Znp,ZbP,if_true]
          ·simp only[hd,Znp,ZkK]at hq⊢
           exact hq
         ·simp only[Option.some.injEq,Prod.mk.injEq,std_and]at hm
          obtain⟨⟨hxn,rfl,he,hs⟩,rfl,rfl⟩:=hm
          have hxn:0<x.elems.length:=by rw[Row.len_std]at hxn;simpa[std]using hxn
          have he:fs0.e=e:=by simpa[std]using he
          have hs:fs0.sz=sz:=by simpa[std]using hs
          have hmu:=Zjo hl hc
          rw[he,hs]at hmu
          exact Zmk hr ht hg hk ha hb hxn hp.2 hp2.1 hp.1 hp2.2 hmu hq
        ·cases hm
       ·cases hm
      ·cases hm
     ·cases hm
    ·cases hm
   ·cases hm
  ·cases hm
def Zwr(o:AOp)(env:ZfG):Option FuncId:=
 match o.k with
 | .ncall _ _ f _=>some f
 | .ncallv _ _ x _=>(match Zvl (Zbi (ZaO env) x) []with |some (f,_)=>some f |none=>none)
 |_=>none
def ZkJ(l:List Ctr)(o:AOp)(env:ZfG)(pa:List Bool):List Bool:=
 match Zwr o env with
 |none=>pa
 |some f=>match ZfY o env with
  |some g=>(match g with |true=>pa.drop (ZFI l f) |false=>pa)
  |none=>pa
def Zi7(A:Ar)(T:Tab)(l:List Ctr):List AOp→List Nat→List Bool→List Bool→ZfG→Zac→Option (List Bool×List Bool×ZfG×Zac×List Foot)
 |[],_,pa,acc,env,h=>some (pa,acc,env,h,[])
 |o::os,st,pa,acc,env,h=>match ZiP A st o env pa acc with
  |none=>none
  |some (pa1,acc1,env1,st1)=>match Zfl A T (ZnF l pa1) o env1 h with
   |none=>none
   |some (b,r,h1)=>match Zi7 A T l os (ZIz o.d st1) (ZkJ l o env1 pa1) (b::acc1) (Znp env1 o.d r) h1 with
    |none=>none
    |some (pa2,acc2,env2,h2,zs)=>some (pa2,acc2,env2,h2,Zix env1 h o::zs)
def Zm7(fr:List (Nat×Nat))(zs:List Foot):Bool:=match fr with |[]=>true |fr=>Zn6 zs fr
abbrev ZxC:=Option (List Bool×List Bool×AFrame×List AFrame×Zac)
def Zkr(pa:List Bool):ZpT→ZxC
 |none=>none
 |some (acc,f,fs,h)=>some (pa,acc,f,fs,h)
def ZGw(A:Ar)(T:Tab)(l:List Ctr)(pa acc:List Bool)(f:AFrame)(k:List AItem)(fs:List AFrame)(h:Zac)(fr:List (Nat×Nat))(ops:List AOp):ZxC:=
 match Zkc fr with
 |true=>none
 |false=>match Zj5 ops with
  |false=>(match Zi7 A T l ops [] pa acc f.env h with
   |none=>none
   |some (pa',acc',env',h',zs)=>match Zm7 fr zs with
    |true=>some (pa',acc',{ f with env:=env',todo:=k },fs,h')
    |false=>none)
  |true=>match Zi7 A T l (ops.take (ZcL ops)) [] pa acc f.env h with
   |none=>none
   |some (pa',acc',env',h',zs)=>match Zm7 fr zs with
    |true=>some (pa',acc',{ f with env:=env',todo:=.inReg (ops.drop (ZcL ops))::k },fs,h')
    |false=>none
def opG(A:Ar)(T:Tab)(l:List Ctr)(pa acc:List Bool)(o:AOp)(os:List AOp)(f:AFrame)(k:List AItem)(fs:List AFrame)(h:Zac):ZxC:=
 match ZDv A l pa f.env h o with
 |some (b,r,h2)=>some (pa,b::acc,{ f with env:=Znp f.env o.d r,todo:=.inReg os::k },fs,h2)
 |none=>match ZiP A [] o f.env pa acc with
 |none=>none
 |some (pa1,acc1,env1,_)=>match opA A T (ZnF l pa1) acc1 o os { f with env:=env1 } k fs h with
  |none=>none
  |some (acc2,f2,fs2,h2)=>some (ZkJ l o env1 pa1,acc2,f2,fs2,h2)
def ZAp(pa acc:List Bool)(f:AFrame)(k:List AItem)(fs:List AFrame)(h:Zac)(v:AV)(a b:ACode):ZxC:=
 match v with
 | .bool t=>(match pa with
   |p::ps=>some (ps,asB p t::acc,{ f with todo:=.code (ZD3 p a b)::k },fs,h)
   |[]=>none)
 |_=>none
def ZqE(A:Ar)(T:Tab)(l:List Ctr)(pa acc:List Bool)(f:AFrame)(fs:List AFrame)(h:Zac):ZxC:=
 match f.ret with
 |true=>Zkr pa (Zf7 A T (ZnF l pa) acc f fs h)
 |false=>match f.todo with
  |[]=>Zkr pa (Zf7 A T (ZnF l pa) acc f fs h)
  |it::k=>match it with
   | .inReg os=>(match os with
     |[]=>Zkr pa (Zf7 A T (ZnF l pa) acc f fs h)
     |o::os=>opG A T l pa acc o os f k fs h)
   | .code c=>(match c with
     | .cond c a b=>ZAp pa acc f k fs h (Zbi (ZaO f.env) c) a b
     | .reg d ops=>(match d with
       |some fr=>ZGw A T l pa acc f k fs h fr ops
       |none=>Zkr pa (Zf7 A T (ZnF l pa) acc f fs h))
     |_=>Zkr pa (Zf7 A T (ZnF l pa) acc f fs h))
   |_=>Zkr pa (Zf7 A T (ZnF l pa) acc f fs h)
def ZgU(A:Ar)(T:Tab)(l:List Ctr):Nat→List Bool→List Bool→AFrame→List AFrame→Zac→Option ASt
 |0,_,acc,f,fs,h=>some (acc,f,fs,h)
 |n+1,pa,acc,f,fs,h=>match ZqE A T l pa acc f fs h with
  |none=>none
  |some (pa',acc',f',fs',h')=>ZgU A T l n pa' acc' f' fs' h'
section
variable {C:Ctx}{T:Tab}{l:List Ctr}{h h':Zac}{f f':AFrame}{fs fs':List AFrame}{k:List AItem}{Q:List AFrame→Zac→Prop}{pa pa' acc acc':List Bool}
theorem Ze0:∀ {os:List AOp} {st:List Nat} {pa pa' acc acc':List Bool} {env env':ZfG} {h h':Zac} {zs:List Foot},Zi7 std T l os st pa acc env h=some (pa',acc',env',h',zs)→(∀b∈acc',b=true)→∀b∈acc,b=true
 |[],st,pa,pa',acc,acc',env,env',h,h',zs,hd,hb=>by simp only[Zi7,Option.some.injEq,Prod.mk.injEq]at hd;obtain⟨_,rfl,_⟩:=hd;exact hb
 |o::os,st,pa,pa',acc,acc',env,env',h,h',zs,hd,hb=>by
  simp only[Zi7]at hd
  split at hd
  ·cases hd
  ·rename_i hs
   split at hd
   ·cases hd
   ·split at hd
    ·cases hd
    ·rename_i hr
     cases hd
     have:=Ze0 hr hb
     exact(Zfd hs (fun b hb'=>this b (List.mem_cons_of_mem _ hb'))).2
theorem Zex(hT:ZbB C.P T)(hl:ZaD C.P l):∀ {os:List AOp} {st:List Nat} {pa pa' acc acc':List Bool} {env env':ZfG} {h h':Zac} {zs:List Foot},Zi7 std T l os st pa acc env h=some (pa',acc',env',h',zs)→(∀b∈acc',b=true)→zs.map (·.o)=os∧Runs C.P zs (ZaO env) h (ZaO env') h'
 |[],st,pa,pa',acc,acc',env,env',h,h',zs,hd,_=>by simp only[Zi7,Option.some.injEq,Prod.mk.injEq]at hd;obtain⟨_,_,rfl,rfl,rfl⟩:=hd;exact⟨rfl, .nil _ _⟩
 |o::os,st,pa,pa',acc,acc',env,env',h,h',zs,hd,hb=>by
  simp only[Zi7]at hd
  split at hd
  ·cases hd
  ·rename_i pa1 acc1 env1 st1 hs
   split at hd
   ·cases hd
   ·rename_i b r h1 ho
    split at hd
    ·cases hd
    ·rename_i hr
     cases hd
     have ha:=Ze0 hr hb
     obtain⟨i1,i2⟩:=Zex hT hl hr hb
     obtain⟨e,_⟩:=Zfd hs (fun b hb'=>ha b (List.mem_cons_of_mem _ hb'))
     subst e
     have hbt:=ha b List.mem_cons_self
     subst hbt
     rw[Zdk]at i2
     have:=Zc9 hT (Zgx hl pa1) ho
     exact⟨by simp[Zix,i1], .cons ⟨this,fun x hx p hp=>by simp only[Zix,List.mem_flatMap];exact⟨x,hx,hp⟩,ZjR this⟩ i2⟩
theorem Zgw{fr:List (Nat×Nat)}{zs:List Foot}(hb:Zm7 fr zs=true):∀(i j:Nat) (x z:Foot),(i,j)∈fr→zs[i]? =some x→zs[j]? =some z→Znv x z:=by
 unfold Zm7 at hb
 split at hb
 ·intro i j x z hm;simp at hm
 ·exact Zfi hb
def ZpZ(C:Ctx)(Q:List AFrame→Zac→Prop)(acc:List Bool)(f:AFrame)(fs:List AFrame)(h:Zac)(r:ZxC):Prop:=
 ∀pa' acc' f' fs' h',r=some (pa',acc',f',fs',h')→(∀b∈acc',b=true)→Ev C (f'::fs') h' Q→(∀b∈acc,b=true)∧Ev C (f::fs) h Q
theorem Zln{r:ZpT}(hs:ZgZ C Q acc f fs h r):ZpZ C Q acc f fs h (Zkr pa r):=by
 intro pa' acc' f' fs' h' he hb hq
 cases r with
 |none=>cases he
 |some p=>obtain⟨a,b,c,d⟩:=p;cases he;exact hs _ _ _ _ rfl hb hq
theorem Zhm(hfol:C.P.follows .mixedOrders=true)(hT:ZbB C.P T)(hl:ZaD C.P l):ZpZ C Q acc f fs h (ZqE std T l pa acc f fs h):=by
 have base:ZpZ C Q acc f fs h (Zkr pa (Zf7 std T (ZnF l pa) acc f fs h)):=Zln (Zht hfol hT (Zgx hl pa))
 unfold ZqE
 split
 ·exact base
 ·rename_i hr
  split
  ·exact base
  ·rename_i it k ht
   split
   ·split
    ·exact base
    ·rename_i o os
     intro pa' acc' f' fs' h' he hb hq
     unfold opG at he
     split at he
     ·rename_i bm rm hm2 hmr
      cases he
      have hbt:=hb bm List.mem_cons_self
      subst hbt
      exact⟨fun b hb'=>hb b (List.mem_cons_of_mem _ hb'),Zvs hl hr ht hmr hq⟩
     split at he
     ·cases he
     ·rename_i pa1 acc1 env1 st1 hs
      split at he
      ·cases he
      ·rename_i acc2 f2 fs2 h2 ho
       cases he
       have key:(∀b∈acc1,b=true)→env1=f.env∧∀b∈acc,b=true:=fun h1=>Zfd hs h1
       have hsd:=ZjN (Q:=Q) hT (Zgx hl pa1) (f:={ f with env:=env1 }) (acc:=acc1) (fs:=fs) (h:=h) (k:=k) (o:=o) (os:=os) hr ht _ _ _ _ ho hb hq
       obtain⟨e,h3⟩:=key hsd.1
       refine⟨h3,?_⟩
       have:=hsd.2
       rw[e]at this
       exact this
   ·rename_i c
    split
    ·rename_i c a b
     intro pa' acc' f' fs' h' he hb hq
     unfold ZAp at he
     split at he
     ·rename_i t hc
      split at he
      ·rename_i p ps
       cases he
       have:=Zsr (hb _ List.mem_cons_self)
       subst this
       exact⟨fun b hb'=>hb b (List.mem_cons_of_mem _ hb'),ZlM hr ht hc (by cases t<;>exact hq)⟩
      ·cases he
     ·cases he
    ·split
     ·rename_i ops fr
      intro pa' acc' f' fs' h' he hb hq
      unfold ZGw at he
      split at he
      ·cases he
      rename_i hany
      split at he
      ·rename_i hni
       split at he
       ·cases he
       ·rename_i pa1 acc1 env1 h1 zs hd
        split at he
        ·rename_i hfree
         cases he
         obtain⟨d1,d2⟩:=Zex hT hl hd hb
         have hc:=Zfw hni
         refine⟨Ze0 hd hb,Zja hfol hany hr ht (by rw[hc,List.take_length];exact d1) (fun i j x z hm hx hz _=>Zgw hfree i j x z hm hx hz) d2 (fun _ _ e=>e) ?_⟩
         rw[hc,List.drop_length]
         exact ZgQ hr rfl hq
        ·cases he
      ·split at he
       ·cases he
       ·rename_i pa1 acc1 env1 h1 zs hd
        split at he
        ·rename_i hfree
         cases he
         obtain⟨d1,d2⟩:=Zex hT hl hd hb
         exact⟨Ze0 hd hb,Zja hfol hany hr ht d1 (fun i j x z hm hx hz _=>Zgw hfree i j x z hm hx hz) d2 (fun _ _ e=>e) hq⟩
        ·cases he
     ·exact base
    ·exact base
   ·exact base
theorem ZbV(hfol:C.P.follows .mixedOrders=true)(hT:ZbB C.P T)(hl:ZaD C.P l):∀(n:Nat) {pa acc:List Bool} {f:AFrame} {fs:List AFrame} {h:Zac},ZgZ C Q acc f fs h (ZgU std T l n pa acc f fs h)
 |0,pa,acc,f,fs,h=>by
  intro acc' f' fs' h' he hb hq
  simp only[ZgU,Option.some.injEq,Prod.mk.injEq]at he
  obtain⟨rfl,rfl,rfl,rfl⟩:=he
  exact⟨hb,hq⟩
 |n+1,pa,acc,f,fs,h=>by
  intro acc' f' fs' h' he hb hq
  simp only[ZgU]at he
  split at he
  ·cases he
  ·rename_i pa1 acc1 f1 fs1 h1 hs
   obtain⟨hb1,hq1⟩:=ZbV hfol hT hl n _ _ _ _ he hb hq
   exact Zhm hfol hT hl _ _ _ _ _ hs hb1 hq1
end
end Go.Proofs.YtkeoeooghhjibaaGreatDoor
/- Tracked blocks are named anew: those that nothing names are dropped, the others are counted from 0. No condition. -/
namespace Go.Proofs.YtkeoeooghhjibaaGreatDoor
open Go.RowKit (Below)
mutual
def AV.ren(σ:Nat→Nat→Option Nat):AV→AV
 | .ptr a i k o=>match σ a i with |some j=>.ptr a j k o |none=>.top
 | .row a i=>match σ a i with |some j=>.row a j |none=>.top
 | .slc a i k n c=>match σ a i with |some j=>.slc a j k n c |none=>.top
 | .aslc a i k o n=>match σ a i with |some j=>.aslc a j k o n |none=>.top
 | .yld a i=>match σ a i with |some j=>.yld a j |none=>.top
 | .mp a i=>match σ a i with |some j=>.mp a j |none=>.top
 | .emp=>.emp
 | .agg r=>.agg (Row.ren σ r)
 | .tup xs=>.tup (AV.renL σ xs)
 | .fn f xs=>.fn f (AV.renL σ xs)
 | .mth f x=>.mth f (AV.ren σ x)
 | .int k n=>.int k n
 | .bool b=>.bool b
 | .str s=>.str s
 | .flt k b=>.flt k b
 | .val v=>.val v
 | .nils=>.nils
 | .list r=>.list r
 | .eptr x o=>.eptr x o
 | .und=>.und
 | .top=>.top
def AV.renL(σ:Nat→Nat→Option Nat):List AV→List AV
 |[]=>[]
 |x::xs=>AV.ren σ x::AV.renL σ xs
def Row.ren(σ:Nat→Nat→Option Nat):Row→Row
 | .gen xs=>.gen (AV.renL σ xs)
 | .ints k l=>.ints k l
 | .flts k l=>.flts k l
 | .big sh xs=>.big sh xs
end
section
variable {σ:Nat→Nat→Option Nat}
theorem Zgq:∀xs:List AV,AV.renL σ xs=xs.map (AV.ren σ)
 |[]=>rfl
 |x::xs=>by rw[AV.renL,Zgq xs];rfl
theorem Zkz(s:Sh)(v:AV):AV.ren σ (s.view1 v)=s.view1 v:=by cases s<;>rfl
theorem Zkd:∀(ss:List Sh) (i:Nat) (v:AV),AV.renL σ (Zem ss i v)=Zem ss i v
 |[],_,_=>rfl
 |s::ss,i,v=>by rw[Zem,AV.renL,Zkz,Zkd ss]
theorem ZqL(s:Sh)(v:AV):AV.ren σ (s.view v)=s.view v:=by
 cases s with
 |agg ss=>simp only[Sh.view,AV.ren,Row.ren,Zkd]
 |_=>simp only[Sh.view];exact Zkz _ _
theorem Zcp(r:Row):(Row.ren σ r).elems=r.elems.map (AV.ren σ):=by
 cases r with
 |gen xs=>rw[Row.ren,Row.elems,Row.elems,Zgq]
 |ints k l=>rw[Row.ren,Row.elems,List.map_map];rfl
 |flts k l=>rw[Row.ren,Row.elems,List.map_map];rfl
 |big sh xs=>rw[Row.ren,Row.elems,List.map_map];exact List.map_congr_left fun v _=>(ZqL sh v).symm
theorem ZmU(v:AV):(AV.ren σ v).flat=v.flat.map (AV.ren σ):=by
 cases v with
 |agg r=>simp only[AV.ren,AV.flat,Zcp]
 |ptr a i k o=>simp only[AV.ren];split<;>simp_all[AV.flat,AV.ren]
 |row a i=>simp only[AV.ren];split<;>simp_all[AV.flat,AV.ren]
 |slc a i k n c=>simp only[AV.ren];split<;>simp_all[AV.flat,AV.ren]
 |aslc a i k o n=>simp only[AV.ren];split<;>simp_all[AV.flat,AV.ren]
 |yld a i=>simp only[AV.ren];split<;>simp_all[AV.flat,AV.ren]
 |mp a i=>simp only[AV.ren];split<;>simp_all[AV.flat,AV.ren]
 |_=>rfl
theorem Zls(xs:List AV):Zai (xs.map (AV.ren σ))=(Zai xs).map (AV.ren σ):=by
 induction xs with
 |nil=>rfl
 |cons x xs ih=>rw[List.map_cons,ZaH,ZaH,List.map_append,ih,ZmU]
end
structure Good (h:Zac) (L:Lay) (h':Zac) (L':Lay) (σ:Nat→Nat→Option Nat):Prop where
 fwd:∀a i j,σ a i=some j→j<nxt h' a∧(∀sz,(blk h' a j).tag=some sz→(blk h a i).tag=some sz)∧L'.loc a j=L.loc a i∧L'.size a j=L.size a i
 bwd:∀a j,Plc h' L' a j→∃i,Plc h L a i∧L'.loc a j=L.loc a i
section
variable {C:Ctx}{h h':Zac}{L L':Lay}{w:World}{σ:Nat→Nat→Option Nat}{ok ok':Nat→Prop}
theorem Good.okk(G:Good h L h' L' σ){g:Nat}(ho:Zaw C h L g):Zaw C h' L' g:=by
 rcases ho with ho |⟨h1,h2⟩
 ·exact .inl ho
 ·refine .inr ⟨h1,fun a j ht e=>?_⟩
  obtain⟨i,hi,hl⟩:=G.bwd a j ht
  exact h2 a i hi (hl.symm.trans e)
theorem Live.ren(G:Good h L h' L' σ){a i j:Nat}(hs:σ a i=some j){p p':Nat→Nat×Nat→Prop}(hl:Live h L a i p)(hp:∀sz,L'.size a j=L.size a i→p (L.loc a i) sz→p' (L.loc a i) sz):Live h' L' a j p':=by
 obtain⟨g1,g2,g3,g4⟩:=G.fwd a i j hs
 exact⟨g1,fun sz ht=>by rw[g3];exact hp sz g4 (hl.2 sz (g2 sz ht))⟩
theorem Rel.ren(G:Good h L h' L' σ)(hok:∀g,ok g→ok' g){av:AV}{v:Value}(hr:Rel w ok h L av v):Rel w ok' h' L' (AV.ren σ av) v:=by
 induction hr with
 |int k n=>exact .int k n
 |bool b=>exact .bool b
 |str x=>exact .str x
 |flt k b=>exact .flt k b
 |val v=>exact .val v
 |nils=>exact .nils
 |nil r a c hr=>exact .nil r a c hr
 |list r xs hx ad n cap sz cs hb ho hn hcap hsz hl h1 hc hp hr ih=>
  exact .list r xs hx ad n cap sz cs hb (hok _ ho) hn hcap hsz hl h1 hc hp (fun j u v hu hv=>((hr j u v hu hv).okmono (fun g _ ho=>hok g ho)).pure (AV.pureL_mem hp hu))
 |eptr x off ad cs hs hb ho hl h1 hc hp hr ih=>
  exact .eptr x off ad cs hs hb (hok _ ho) hl h1 hc hp (fun j u v hu hv=>((hr j u v hu hv).okmono (fun g _ ho=>hok g ho)).pure (AV.pureL_mem hp hu))
 |agg r xs hx vs hl h1 hr ih=>
  rw[AV.ren]
  refine .agg _ (xs.map (AV.ren σ)) (by rw[Zcp,hx]) vs (by simpa using hl) h1 (fun j u v hu hv=>?_)
  rw[List.getElem?_map]at hu
  cases hxj:xs[j]? with
  |none=>rw[hxj]at hu;cases hu
  |some z=>rw[hxj]at hu;simp only[Option.map_some,Option.some.injEq]at hu;subst hu;exact ih j z v hxj hv
 |tup xs vs hl hr ih=>
  rw[AV.ren,Zgq]
  refine .tup _ vs (by simpa using hl) (fun j u v hu hv=>?_)
  rw[List.getElem?_map]at hu
  cases hxj:xs[j]? with
  |none=>rw[hxj]at hu;cases hu
  |some z=>rw[hxj]at hu;simp only[Option.map_some,Option.some.injEq]at hu;subst hu;exact ih j z v hxj hv
 |mth f x v hr ih=>exact .mth f _ v ih
 |fn f xs vs hl hr ih=>
  rw[AV.ren,Zgq]
  refine .fn f _ vs (by simpa using hl) (fun j u v hu hv=>?_)
  rw[List.getElem?_map]at hu
  cases hxj:xs[j]? with
  |none=>rw[hxj]at hu;cases hu
  |some z=>rw[hxj]at hu;simp only[Option.map_some,Option.some.injEq]at hu;subst hu;exact ih j z v hxj hv
 |ptr a i k off g o hl=>
  rw[AV.ren]
  cases hs:σ a i with
  |none=>exact .top _
  |some j=>exact .ptr a j k off g o (hl.ren G hs fun _ _ h=>h)
 |row a i ad n c hn hl=>
  rw[AV.ren]
  cases hs:σ a i with
  |none=>exact .top _
  |some j=>exact .row a j ad n c hn (hl.ren G hs fun _ e h=>by rw[e];exact h)
 |slc a i k n cap ad c hn hl=>
  rw[AV.ren]
  cases hs:σ a i with
  |none=>exact .top _
  |some j=>exact .slc a j k n cap ad c hn (hl.ren G hs fun _ e h=>by rw[e];exact h)
 |aslc a i k off n g o c hn hl=>
  rw[AV.ren]
  cases hs:σ a i with
  |none=>exact .top _
  |some j=>exact .aslc a j k off n g o c hn (hl.ren G hs fun _ _ h=>h)
 |yld a i g hl=>
  rw[AV.ren]
  cases hs:σ a i with
  |none=>exact .top _
  |some j=>exact .yld a j g (hl.ren G hs fun _ _ h=>h)
 |mp a i g hl=>
  rw[AV.ren]
  cases hs:σ a i with
  |none=>exact .top _
  |some j=>exact .mp a j g (hl.ren G hs fun _ _ h=>h)
 |emp ad=>exact .emp ad
 |und=>exact .und
 |top v=>exact .top v
def ZgL(σ:Nat→Nat→Option Nat):ZfG→ZfG
 |[]=>[]
 |(t,v)::l=>(t,AV.ren σ v)::ZgL σ l
theorem Zg0:∀(env:ZfG) (t:Nat),ZaO (ZgL σ env) t=(ZaO env t).map (AV.ren σ)
 |[],t=>rfl
 |(i,x)::l,t=>by
  simp only[ZgL,ZaO]
  split
  ·rfl
  ·exact Zg0 l t
theorem EnvRel.ren(G:Good h L h' L' σ){env:ZfG}{tmps:Array Value}(he:EnvRel C h L w env tmps):EnvRel C h' L' w (ZgL σ env) tmps:=by
 intro t av ht
 rw[Zg0]at ht
 cases hx:ZaO env t with
 |none=>rw[hx]at ht;cases ht
 |some u=>rw[hx]at ht;simp only[Option.map_some,Option.some.injEq]at ht;subst ht;exact(he t u hx).ren G (fun g ho=>G.okk ho)
def Blk.ren(σ:Nat→Nat→Option Nat):Blk→Blk
 | .row e sz r=>.row e sz (Row.ren σ r)
 | .lp l=>.lp { l with env:=ZgL σ l.env }
 | .dfr=>.dfr
 | .mp ks=>.mp ks
 | .dead=>.dead
theorem Blk.ren_tag(b:Blk):(b.ren σ).tag=b.tag:=by
 cases b with
 |row e sz r=>simp only[Blk.ren,Blk.tag,Zcp,List.length_map]
 |_=>rfl
theorem BRel.ren(G:Good h L h' L' σ){g n:Nat}{b:Blk}(hb:BRel C h L w g n b):BRel C h' L' w g n (b.ren σ):=by
 cases b with
 |row e sz r=>
  obtain⟨h0,h1,h2,h3,hcur⟩:=hb
  refine⟨h0,h1,by rw[Zcp,List.length_map];exact h2,fun x hx=>?_,fun hn=>?_⟩
  ·rw[Zcp]at hx
   obtain⟨y,hy,rfl⟩:=List.mem_map.1 hx
   rw[ZmU,List.length_map];exact h3 y hy
  ·obtain⟨cur,h4,h5,h6,h7⟩:=hcur hn
   refine⟨cur,h4,h5,?_,by rw[Zcp,List.length_map];exact h7⟩
   rw[Zcp,List.length_map,Zls]
   refine⟨by rw[List.length_map];exact h6.1,fun j u v hu hv=>?_⟩
   rw[List.getElem?_map]at hu
   cases hx:(Zai r.elems)[j]? with
   |none=>rw[hx]at hu;cases hu
   |some z=>rw[hx]at hu;simp only[Option.map_some,Option.some.injEq]at hu;subst hu;exact(h6.2 j z v hx hv).ren G (fun g ho=>G.okk ho)
 |lp l=>
  obtain⟨r,h1,h2,h3,h4,h5,h6,h7,h8,h9⟩:=hb
  exact⟨r,h1,h2,h3,h4,h5.ren G,h6,h7,h8,h9⟩
 |dfr=>exact hb
 |mp ks=>exact hb
 |dead=>trivial
def Zre(σ:Nat→Nat→Option Nat):AItem→Option AItem
 | .inRF a i=>match σ a i with |some j=>some (.inRF a j) |none=>none
 | .endRF a i=>match σ a i with |some j=>some (.endRF a j) |none=>none
 | .code c=>some (.code c)
 | .inBlock i=>some (.inBlock i)
 | .inLoop b=>some (.inLoop b)
 | .inReg os=>some (.inReg os)
 | .beginRound=>some .beginRound
def Zir(σ:Nat→Nat→Option Nat):List AItem→Option (List AItem)
 |[]=>some []
 |x::k=>match Zre σ x with
  |none=>none
  |some y=>match Zir σ k with |some l=>some (y::l) |none=>none
def Zrw(σ:Nat→Nat→Option Nat):List (Nat×Nat)→Option (List (Nat×Nat))
 |[]=>some []
 |(a,i)::k=>match σ a i with
  |none=>none
  |some j=>match Zrw σ k with |some l=>some ((a,j)::l) |none=>none
def Zto(σ:Nat→Nat→Option Nat):Option (Nat×Nat)→Option (Option (Nat×Nat))
 |none=>some none
 |some (a,i)=>match σ a i with |some j=>some (some (a,j)) |none=>none
def ZtH:AItem→Bool
 | .inRF _ _=>false
 | .endRF _ _=>false
 |_=>true
def ZeE:List AItem→Bool
 |[]=>true
 |x::k=>match ZtH x with |true=>ZeE k |false=>false
def ZEj(σ:Nat→Nat→Option Nat)(f:AFrame):Option AFrame:=
 match Zrw σ f.defs with
 |none=>none
 |some ds=>match Zto σ f.rnd with
  |none=>none
  |some rd=>match ZeE f.todo with
   |true=>some { f with env:=ZgL σ f.env,defs:=ds,rnd:=rd }
   |false=>match Zir σ f.todo with
    |none=>none
    |some td=>some { f with env:=ZgL σ f.env,todo:=td,defs:=ds,rnd:=rd }
def Zqg(σ:Nat→Nat→Option Nat):List AFrame→Option (List AFrame)
 |[]=>some []
 |f::fs=>match ZEj σ f with
  |none=>none
  |some g=>match Zqg σ fs with |some gs=>some (g::gs) |none=>none
theorem ItRel.ren{P:Program}{N:Nat}(G:Good h L h' L' σ){x x':AItem}{y:Item}(hr:Zre σ x=some x')(hx:ItRel P h L N x y):ItRel P h' L' N x' y:=by
 cases hx with
 |code a c hm=>cases hr;exact .code a c hm
 |inBlock id=>cases hr;exact .inBlock id
 |inLoop a c hm=>cases hr;exact .inLoop a c hm
 |inReg ops k aos hm=>cases hr;exact .inReg ops k aos hm
 |beginRound=>cases hr;exact .beginRound
 |inRF a i g hl=>
  simp only[Zre]at hr
  split at hr
  ·rename_i j hs;cases hr;exact .inRF a j g (hl.ren G hs fun _ _ h=>h)
  ·cases hr
 |endRF a i g hl=>
  simp only[Zre]at hr
  split at hr
  ·rename_i j hs;cases hr;exact .endRF a j g (hl.ren G hs fun _ _ h=>h)
  ·cases hr
theorem ItsRel.ren{P:Program}{N:Nat}(G:Good h L h' L' σ):∀ {x x':List AItem} {y:List Item},Zir σ x=some x'→ItsRel P h L N x y→ItsRel P h' L' N x' y
 |[],x',y,hr,hx=>by cases hx;cases hr;exact .nil
 |x::k,x',y,hr,hx=>by
  cases hx with
  |cons hx hk=>
   simp only[Zir]at hr
   split at hr
   ·cases hr
   ·rename_i z hz
    split at hr
    ·rename_i l hl;cases hr;exact .cons (hx.ren G hz) (ItsRel.ren G hl hk)
    ·cases hr
theorem ZjP:∀ {x:List AItem},ZeE x=true→Zir σ x=some x
 |[],_=>rfl
 |x::k,hp=>by
  simp only[ZeE]at hp
  split at hp
  ·rename_i h1
   simp only[Zir,ZjP hp]
   cases x<;>first |rfl |cases h1
  ·cases hp
theorem Zip(G:Good h L h' L' σ){p:Nat→Nat×Nat→Prop} :∀ {l l':List (Nat×Nat)},Zrw σ l=some l'→l'.length=l.length∧∀(j:Nat) (d:Nat×Nat),l'[j]? =some d→∃d0:Nat×Nat,l[j]? =some d0∧d0.1=d.1∧σ d0.1 d0.2=some d.2
 |[],l',hr=>by cases hr;exact⟨rfl,fun j d hd=>by simp at hd⟩
 |(a,i)::k,l',hr=>by
  simp only[Zrw]at hr
  split at hr
  ·cases hr
  ·rename_i j hs
   split at hr
   ·rename_i l hl
    cases hr
    obtain⟨h1,h2⟩:=Zip (p:=p) G hl
    refine⟨by simp[h1],fun q d hd=>?_⟩
    cases q with
    |zero=>simp at hd;subst hd;exact⟨(a,i),rfl,rfl,hs⟩
    |succ q=>obtain⟨d0,e1,e2,e3⟩:=h2 q d (by simpa using hd);exact⟨d0,by simpa using e1,e2,e3⟩
   ·cases hr
theorem FrRel.ren(G:Good h L h' L' σ){af af':AFrame}{fr:Frame}(hr:ZEj σ af=some af')(hf:FrRel C h L w af fr):FrRel C h' L' w af' fr:=by
 unfold ZEj at hr
 split at hr
 ·cases hr
 ·rename_i ds hds
  split at hr
  ·cases hr
  ·rename_i rd hrd
   have hd:DefRel h' L' ds fr.defers:=by
    obtain⟨gs,h1,h2,h3⟩:=hf.defs
    obtain⟨e1,e2⟩:=Zip (p:=fun _ _=>True) G hds
    refine⟨gs,h1,h2.trans e1.symm,fun j d g hd hg=>?_⟩
    obtain⟨d0,q1,q2,q3⟩:=e2 j d hd
    obtain⟨d1,d2⟩:=d
    obtain⟨d3,d4⟩:=d0
    simp only at q2 q3
    subst q2
    exact(h3 j _ g q1 hg).ren G q3 fun _ _ h=>h
   have hn:RndRel h' L' rd fr.roundOf∧(rd=none→af.rnd=none):=by
    have hrn:=hf.rnd
    unfold Zto at hrd
    split at hrd
    ·rename_i e;cases hrd;rw[e]at hrn;exact⟨hrn,fun _=>e⟩
    ·rename_i a i e
     rw[e]at hrn
     split at hrd
     ·rename_i j hs;cases hrd
      obtain⟨g,hg,hl⟩:=hrn
      exact⟨⟨g,hg,hl.ren G hs fun _ _ h=>h⟩,fun e=>by cases e⟩
     ·cases hrd
   split at hr
   ·rename_i hp
    cases hr
    exact⟨hf.fn,hf.size,hf.env.ren G,hf.kind,hd,hn.1,hf.mode.imp id fun⟨a,b,c⟩=>⟨a,b,c.ren G (ZjP hp)⟩,fun e=>hf.res (hn.2 e)⟩
   ·split at hr
    ·cases hr
    ·rename_i td htd
     cases hr
     exact⟨hf.fn,hf.size,hf.env.ren G,hf.kind,hd,hn.1,hf.mode.imp id fun⟨a,b,c⟩=>⟨a,b,c.ren G htd⟩,fun e=>hf.res (hn.2 e)⟩
theorem FrsRel.ren(G:Good h L h' L' σ):∀ {afs afs':List AFrame} {cs:List Frame},Zqg σ afs=some afs'→FrsRel C h L w afs cs→FrsRel C h' L' w afs' cs
 |[],afs',cs,hr,hf=>by cases hf;cases hr;exact .base
 |f::fs,afs',cs,hr,hf=>by
  cases hf with
  |cons hf hk=>
   simp only[Zqg]at hr
   split at hr
   ·cases hr
   ·rename_i g hg
    split at hr
    ·rename_i gs hgs;cases hr;exact .cons (hf.ren G hg) (FrsRel.ren G hgs hk)
    ·cases hr
end
abbrev Zvj:=List (Nat×Nat×List Blk)
def Zzs:Blk→Bool
 | .dead=>true
 |_=>false
def Zk8(R:List (Nat×Nat))(a:Nat):Nat→List Blk→List Blk
 |_,[]=>[]
 |i,b::l=>match(match ZsU (a,i) R with |true=>b |false=>.dead),Zk8 R a (i+1) l with
  | .dead,[]=>[]
  |b',l'=>b'::l'
def Zpo:Nat→List Blk→Nat×List Blk
 |n,[]=>(n,[])
 |n,b::l=>match Zzs b with |true=>Zpo (n+1) l |false=>(n,b::l)
def Zk9(R:List (Nat×Nat))(a:Nat)(f:Fam):Nat×List Blk:=Zpo f.base (Zk8 R a f.base f.blks)
def Zbc(R:List (Nat×Nat)):Zac→Zvj
 |[]=>[]
 |(a,f)::rest=>match Zk9 R a f with
  |(s,l)=>(match l,ZaO rest a with
   |[],none=>Zbc R rest
   |l,_=>(a,s,l)::Zbc R rest)
def Znf(t:Zvj)(a i:Nat):Option Nat:=
 match ZaO t a with
 |none=>none
 |some p=>match Nat.ble p.1 i with
  |false=>none
  |true=>match Zzs (p.2.getD (i-p.1) .dead)with |true=>none |false=>some (i-p.1)
def ZhH(σ:Nat→Nat→Option Nat):Zvj→Zac
 |[]=>[]
 |(a,_,l)::t=>(a,⟨0,l.map (Blk.ren σ)⟩)::ZhH σ t
def Zlo(t:Zvj)(L:Lay):Lay:=⟨fun a j=>L.loc a (j+match ZaO t a with |some p=>p.1 |none=>0),fun a j=>L.size a (j+match ZaO t a with |some p=>p.1 |none=>0)⟩
theorem ZhL{R:List (Nat×Nat)}{a:Nat} :∀(l:List Blk) (i j:Nat),(Zk8 R a i l).getD j .dead=.dead∨(Zk8 R a i l).getD j .dead=l.getD j .dead
 |[],i,j=>.inl (by simp[Zk8])
 |b::l,i,j=>by
  have ih:=ZhL (R:=R) (a:=a) l (i+1)
  simp only[Zk8]
  split
  ·left;simp
  ·cases j with
   |zero=>
    simp only[List.getD_cons_zero]
    split
    ·right;rfl
    ·left;rfl
   |succ j=>simp only[List.getD_cons_succ];exact ih j
theorem ZhS:∀(l:List Blk) (n j:Nat),∃d,(Zpo n l).1=n+d∧(Zpo n l).2.getD j .dead=l.getD (j+d) .dead
 |[],n,j=>⟨0,rfl,rfl⟩
 |b::l,n,j=>by
  simp only[Zpo]
  split
  ·obtain⟨d,h1,h2⟩:=ZhS l (n+1) j
   exact⟨d+1,by rw[h1];omega,by rw[h2,←Nat.add_assoc,List.getD_cons_succ]⟩
  ·exact⟨0,rfl,rfl⟩
theorem ZhM{R:List (Nat×Nat)} :∀ {h:Zac} {a:Nat} {p:Nat×List Blk},ZaO (Zbc R h) a=some p→∃f,ZaO h a=some f∧Zk9 R a f=p
 |[],a,p,h=>by cases h
 |(b,f)::rest,a,p,h=>by
  have ih:= @ZhM R rest a p
  have hb:∀x y:Nat,Nat.beq x y=decide (x=y):=fun x y=>by rw[Bool.eq_iff_iff];simp
  simp only[Zbc]at h
  split at h
  ·rename_i hl hr
   obtain⟨f',h1,h2⟩:=ih h
   refine⟨f',?_,h2⟩
   simp only[ZaO,hb]
   by_cases hba:b=a
   ·subst hba;rw[hr]at h1;cases h1
   ·simp only[hba,decide_false];exact h1
  ·simp only[ZaO,hb]at h⊢
   by_cases hba:b=a
   ·subst hba;simp only[decide_true,Option.some.injEq]at h ⊢;exact⟨f,rfl,h⟩
   ·simp only[hba,decide_false]at h ⊢;exact ih h
theorem Zh5{σ:Nat→Nat→Option Nat} :∀(t:Zvj) (a:Nat),ZaO (ZhH σ t) a=(ZaO t a).map fun p=>⟨0,p.2.map (Blk.ren σ)⟩
 |[],a=>rfl
 |(b,s,l)::t,a=>by
  simp only[ZhH,ZaO]
  split
  ·rfl
  ·exact Zh5 t a
theorem ZdD{σ:Nat→Nat→Option Nat}(t:Zvj)(a j:Nat):blk (ZhH σ t) a j=Blk.ren σ (match ZaO t a with |some p=>p.2.getD j .dead |none=>.dead)∧nxt (ZhH σ t) a=match ZaO t a with |some p=>p.2.length |none=>0:=by
 unfold blk nxt fam
 rw[Zh5]
 cases ZaO t a with
 |none=>simp[Fam.get,Zch,Blk.ren]
 |some p=>
  simp only[Option.map_some,Option.getD_some,Fam.get,Zch (Nat.zero_le _),Nat.sub_zero,List.length_map,Nat.zero_add,and_true]
  simp only[List.getD_eq_getElem?_getD,List.getElem?_map]
  cases p.2[j]?<;>rfl
theorem ZdF{R:List (Nat×Nat)}{h:Zac}{a:Nat}{p:Nat×List Blk}(hp:ZaO (Zbc R h) a=some p)(j:Nat):p.2.getD j .dead=.dead∨p.2.getD j .dead=blk h a (j+p.1):=by
 obtain⟨f,h1,h2⟩:=ZhM hp
 unfold Zk9 at h2
 obtain⟨d,e1,e2⟩:=ZhS (Zk8 R a f.base f.blks) f.base j
 rw[h2]at e1 e2
 rw[e2]
 rcases ZhL (R:=R) (a:=a) f.blks f.base (j+d)with h3 |h3
 ·exact .inl h3
 ·right
  rw[h3,e1]
  unfold blk fam Fam.get
  rw[h1]
  simp only[Option.getD_some,Zch (show f.base≤j+(f.base+d) by omega)]
  congr 1;omega
theorem pack_good{R:List (Nat×Nat)}{h:Zac}{L:Lay} :Good h L (ZhH (Znf (Zbc R h)) (Zbc R h)) (Zlo (Zbc R h) L) (Znf (Zbc R h)):=by
 refine⟨fun a i j hs=>?_,fun a j ht=>?_⟩
 ·obtain⟨hb,hn⟩:=ZdD (σ:=Znf (Zbc R h)) (Zbc R h) a j
  unfold Znf at hs
  cases hp:ZaO (Zbc R h) a with
  |none=>rw[hp]at hs;cases hs
  |some p=>
   rw[hp]at hs hb hn
   simp only at hs hb hn
   split at hs
   ·cases hs
   ·rename_i hle
    have hle:p.1≤i:=by simpa using hle
    split at hs
    ·cases hs
    ·rename_i hd
     cases hs
     have hlt:i-p.1<p.2.length:=by
      rcases Nat.lt_or_ge (i-p.1) p.2.length with h1 |h1
      ·exact h1
      ·rw[List.getD_eq_getElem?_getD,List.getElem?_eq_none h1]at hd;cases hd
     have hadd:i-p.1+p.1=i:=by omega
     refine⟨by rw[hn];exact hlt,fun sz ht=>?_,by simp only[Zlo,hp,hadd],by simp only[Zlo,hp,hadd]⟩
     rw[hb,Blk.ren_tag]at ht
     rcases ZdF hp (i-p.1)with h1 |h1
     ·rw[h1]at hd;cases hd
     ·rw[h1,hadd]at ht;exact ht
 ·obtain⟨hb,_⟩:=ZdD (σ:=Znf (Zbc R h)) (Zbc R h) a j
  obtain⟨s,ht,hn⟩:=ht
  rw[hb,Blk.ren_tag]at ht
  cases hp:ZaO (Zbc R h) a with
  |none=>rw[hp]at ht;cases ht
  |some p=>
   rw[hp]at ht
   simp only at ht
   rcases ZdF hp j with h1 |h1
   ·rw[h1]at ht;cases ht
   ·exact⟨j+p.1,⟨s,by rw[←h1];exact ht,by simpa only[Zlo,hp]using hn⟩,by simp only[Zlo,hp]⟩
theorem HRel.packed{C:Ctx}{R:List (Nat×Nat)}{h:Zac}{L:Lay}{w:World}(H:HRel C h L w):HRel C (ZhH (Znf (Zbc R h)) (Zbc R h)) (Zlo (Zbc R h) L) w:=by
 have key:∀a j,Plc (ZhH (Znf (Zbc R h)) (Zbc R h)) (Zlo (Zbc R h) L) a j→∃p,ZaO (Zbc R h) a=some p∧Plc h L a (j+p.1):=fun a j ht=>by
  obtain⟨hb,_⟩:=ZdD (σ:=Znf (Zbc R h)) (Zbc R h) a j
  obtain⟨s,ht,hn⟩:=ht
  rw[hb,Blk.ren_tag]at ht
  cases hp:ZaO (Zbc R h) a with
  |none=>rw[hp]at ht;cases ht
  |some p=>
   rw[hp]at ht
   simp only at ht
   rcases ZdF hp j with h1 |h1
   ·rw[h1]at ht;cases ht
   ·exact⟨p,rfl,s,by rw[←h1];exact ht,by simpa only[Zlo,hp]using hn⟩
 refine⟨H.below,fun a j ht=>?_,fun a j=>?_,fun a i b j h1 h2 e=>?_,fun a j ht=>?_,H.low,H.base⟩
 rotate_right
 ·obtain⟨p,hp,ht'⟩:=key a j ht
  simp only[Zlo,hp]
  rcases H.home a _ ht' with h9 |⟨h7,h8,h9⟩
  ·exact .inl h9
  ·exact .inr ⟨h7,by omega,h9⟩
 ·obtain⟨p,hp,ht'⟩:=key a j ht
  simp only[Zlo,hp];exact H.live a _ ht'
 ·obtain⟨hb,_⟩:=ZdD (σ:=Znf (Zbc R h)) (Zbc R h) a j
  rw[hb]
  cases hp:ZaO (Zbc R h) a with
  |none=>trivial
  |some p=>
   simp only
   rcases ZdF hp j with h1 |h1
   ·rw[h1];trivial
   ·rw[h1];simp only[Zlo,hp];exact(H.blks a _).ren pack_good
 ·obtain⟨p,hp,hp'⟩:=key a i h1
  obtain⟨q,hq,hq'⟩:=key b j h2
  simp only[Zlo,hp,hq]at e
  obtain⟨rfl,e2⟩:=H.inj _ _ _ _ hp' hq' e
  rw[hp]at hq;cases hq
  exact⟨rfl,by omega⟩
def ZyY:AV→List (Nat×Nat)
 | .tup xs=>xs.flatMap Ze3
 |v=>Ze3 v
def ZCT:Row→List (Nat×Nat)
 | .gen xs=>xs.flatMap ZyY
 |_=>[]
def Zvx:ZfG→List (Nat×Nat)
 |[]=>[]
 |(_,v)::l=>ZyY v++Zvx l
def ZDK:Blk→List (Nat×Nat)
 | .row _ _ r=>ZCT r
 | .lp l=>Zvx l.env
 |_=>[]
def Zy4:List AItem→List (Nat×Nat)
 |[]=>[]
 |x::k=>(match x with | .inRF a i=>[(a,i)] | .endRF a i=>[(a,i)] |_=>[])++Zy4 k
def Zya:List AFrame→List (Nat×Nat)
 |[]=>[]
 |f::fs=>Zvx f.env++((match ZeE f.todo with |true=>[] |false=>Zy4 f.todo)++(f.defs++((match f.rnd with |some p=>[p] |none=>[])++Zya fs)))
def ZCE(R:List (Nat×Nat)):List (Nat×Nat)→List (Nat×Nat)
 |[]=>R
 |p::l=>match ZsU p R with |true=>ZCE R l |false=>ZCE (p::R) l
def Ztp(h:Zac):Nat→List (Nat×Nat)→List (Nat×Nat)→List (Nat×Nat)
 |0,R,_=>R
 |n+1,R,new=>match new.flatMap (fun p=>ZDK (blk h p.1 p.2))with
  |[]=>R
  |l=>Ztp h n (ZCE R l) l
def ZqO(h:Zac)(t:Zvj):Bool:=
 match ZaO t 0 with
 |none=>Nat.beq (nxt h 0) 0
 |some p=>match Nat.beq p.1 0 with |true=>Nat.ble (nxt h 0) p.2.length |false=>false
def ZD2(fs:List AFrame):List (Nat×Nat):=ZCE [] ((0,0)::Zya fs)
def ZCH(fs:List AFrame)(h:Zac):Option (List AFrame×Zac):=
 match ZD2 fs with
 |R0=>match Zbc (Ztp h 4 R0 R0) h with
  |t=>match ZqO h t with
   |false=>none
   |true=>match Zqg (Znf t) fs with
    |none=>none
    |some fs'=>some (fs',ZhH (Znf t) t)
theorem Zxm{C:Ctx}{R:List (Nat×Nat)}{h:Zac}{L:Lay}{w:World}(hk:ZqO h (Zbc R h)=true):Fr C h L w (ZhH (Znf (Zbc R h)) (Zbc R h)) (Zlo (Zbc R h) L) w:=by
 obtain⟨hb,hn⟩:=ZdD (σ:=Znf (Zbc R h)) (Zbc R h) 0 0
 refine⟨Nat.le_refl _,fun g _ ho=>⟨pack_good.okk ho,rfl⟩,?_,fun sz _ ht=>?_⟩
 ·rw[hn]
  unfold ZqO at hk
  cases hp:ZaO (Zbc R h) 0 with
  |none=>rw[hp]at hk;have:=Nat.eq_of_beq_eq_true hk;omega
  |some p=>
   rw[hp]at hk
   simp only at hk⊢
   split at hk
   ·simpa using hk
   ·cases hk
 ·rw[hb,Blk.ren_tag]at ht
  unfold ZqO at hk
  cases hp:ZaO (Zbc R h) 0 with
  |none=>rw[hp]at ht;cases ht
  |some p=>
   rw[hp]at ht hk
   simp only at ht hk
   split at hk
   ·rename_i h0
    have h0:p.1=0:=Nat.eq_of_beq_eq_true h0
    rcases ZdF hp 0 with h1 |h1
    ·rw[h1]at ht;cases ht
    ·rw[h1,h0]at ht
     refine⟨ht,?_,?_⟩
     ·simp only[Zlo,hp,h0]
     ·simp only[Zlo,hp,h0]
   ·cases hk
theorem ZpG{C:Ctx}{fs fs':List AFrame}{h h':Zac}{Q:List AFrame→Zac→Prop}(hp:ZCH fs h=some (fs',h'))(hq:Ev C fs' h' Q):Ev C fs h Q:=by
 intro L fr cs w hf H hne
 unfold ZCH at hp
 dsimp only at hp
 split at hp
 ·cases hp
 ·rename_i hkeep
  split at hp
  ·cases hp
  ·rename_i gs hgs
   cases hp
   obtain⟨fs2,h2',L2,fr2,cs2,w2,q2,n2,a2,b2,s2⟩:=hq _ fr cs w (FrsRel.ren pack_good hgs hf) H.packed (fun e=>by
    subst e
    cases fs with
    |nil=>exact hne rfl
    |cons f fs=>
     simp only[Zqg]at hgs
     split at hgs
     ·cases hgs
     ·split at hgs<;>cases hgs)
   exact⟨fs2,h2',L2,fr2,cs2,w2,q2,n2,a2,b2,s2.1,(Zxm hkeep).trans s2.2⟩
def ZtV(A:Ar)(T:Tab)(l:List Ctr)(n:Nat)(pk:Bool)(pa:List Bool)(f:AFrame)(fs:List AFrame)(h:Zac):Option (List Bool×List AFrame×Zac):=
 match ZgU A T l n pa [] f fs h with
 |none=>none
 |some (acc,f',fs',h')=>match pk with
  |false=>some (acc,f'::fs',h')
  |true=>match ZCH (f'::fs') h' with
   |none=>none
   |some (gs,h2)=>some (acc,gs,h2)
theorem Zwx{C:Ctx}{T:Tab}{l:List Ctr}{n:Nat}{pk:Bool}{pa acc:List Bool}{f:AFrame}{fs gs:List AFrame}{h h':Zac}{Q:List AFrame→Zac→Prop}(hfol:C.P.follows .mixedOrders=true)(hT:ZbB C.P T)(hl:ZaD C.P l)
 (hw:ZtV std T l n pk pa f fs h=some (acc,gs,h')) (hb:AllT acc) (hq:Ev C gs h' Q):Ev C (f::fs) h Q:=by
 unfold ZtV at hw
 split at hw
 ·cases hw
 ·rename_i acc1 f1 fs1 h1 hs
  split at hw
  ·cases hw
   exact(ZbV hfol hT hl n _ _ _ _ hs hb.mem hq).2
  ·split at hw
   ·cases hw
   ·rename_i gs2 h2 hp
    cases hw
    exact(ZbV hfol hT hl n _ _ _ _ hs hb.mem (ZpG hp hq)).2
end Go.Proofs.YtkeoeooghhjibaaGreatDoor
/- What comes back is read as a value. No condition. -/
namespace Go.Proofs.YtkeoeooghhjibaaGreatDoor
open Go.RowKit (Below)
inductive Frz1 (fr:Option Fresh):AV→AV→Prop
 |row (f:Fresh) (hf:fr=some f) (hp:f.r.pure=true) (hs:f.r.solid=true):Frz1 fr (.row 0 0) (.list f.r)
 |nil (r:Row) (h:r.elems=[]):Frz1 fr .nils (.list r)
 |same (v:AV) (hp:v.pure=true) (hs:v.solid=true):Frz1 fr v v
def FrzL(fr:Option Fresh):List AV→List AV→Prop
 |[],[]=>True
 |x::xs,y::ys=>Frz1 fr x y∧FrzL fr xs ys
 |_,_=>False
inductive Frz (fr:Option Fresh):AV→AV→Prop
 |one {v v':AV} (h:Frz1 fr v v'):Frz fr v v'
 |tup {xs ys:List AV} (h:FrzL fr xs ys):Frz fr (.tup xs) (.tup ys)
theorem FrzL.spec{fr:Option Fresh} :∀ {xs ys:List AV},FrzL fr xs ys→xs.length=ys.length∧∀(j:Nat) (y:AV),ys[j]? =some y→∃x,xs[j]? =some x∧Frz1 fr x y
 |[],[],_=>⟨rfl,fun j y h=>by simp at h⟩
 |x::xs,y::ys,h=>by
  obtain⟨h1,h2⟩:=h
  obtain⟨e1,e2⟩:=FrzL.spec h2
  refine⟨by simp[e1],fun j z hz=>?_⟩
  cases j with
  |zero=>simp at hz;subst hz;exact⟨x,rfl,h1⟩
  |succ j=>obtain⟨q,q1,q2⟩:=e2 j z (by simpa using hz);exact⟨q,by simpa using q1,q2⟩
section
variable {P:Program}{w w':World}{okA:Nat→Prop}{L':Lay}{fr:Option Fresh}
theorem Zge(H:HRel (Ctx.of P w okA []) (Zaz fr) L' w'){v v':AV}{x:Value}(hs:Frz1 fr v v')(hr:ZaG (Ctx.of P w okA []) (Zaz fr) L' w' v x):ZaG (Ctx.of P w (fun _=>False) []) [] L' w' v' x:=by
 cases hs with
 |nil r h=>cases hr with |nils=>exact .nil r none 0 h
 |same _ hp hs=>
  exact((hr.pure hp:Rel w' _ [] L' v x).solid hs)
 |row f hf hp hso=>
  subst hf
  have hb:blk (Zaz (some f)) 0 0=.row f.e f.sz f.r:=rfl
  obtain⟨ht,h0,h1,h2,h3⟩:=H.rowAt hb
  cases hr with
  |row _ _ ad n c hn hlv=>
   obtain⟨had,rfl,rfl⟩:=hlv.2 _ ht
   by_cases hs0:L'.size 0 0=0
   ·have hre:f.r.elems=[]:=List.eq_nil_of_length_eq_zero (by omega)
    rw[hs0,show(f.sz,f.r.elems.length).2=0 by simp[hre]]
    exact .nil f.r _ _ hre
   obtain⟨hpl,cur,h4,h5,h6,h7,h8⟩:=H.curAt hb hs0
   have had:=had hs0
   subst had
   have hl:=H.live 0 0 hpl
   have hpa:=Za7 hp
   refine .list f.r _ rfl ⟨L'.loc 0 0,0,none⟩ _ _ f.sz _ hl.2 (.inr ⟨hl.1,fun a i ht=>absurd rfl ht.tag⟩) rfl hn h3 h6.1.symm h7 (fun j v hj=>h8 j v hj) hpa (fun j u v hu hv=>?_)
   have hsu:u.solid=true:=AV.solidL_mem (Zhg hso) hu
   exact((h6.2 j u v hu hv).pure (AV.pureL_mem hpa hu):Rel w' _ [] L' u v).solid hsu
theorem Zr7{f:FuncId}{args:List AV}{r r':AV}(h:Zao P f args r fr)(hz:ZgI fr=false)(hs:Frz fr r r'):Zao P f args r' Ztn:=by
 intro w okA L vs hargs hok
 refine(h w okA L vs hargs hok).mono ?_
 rintro e w' ⟨x,L',rfl,hb,hp⟩
 unfold Zjp at hp
 rw[hz]at hp
 obtain⟨H,hr⟩:=hp
 refine⟨x,L',rfl,hb,?_⟩
 show ZaG (Ctx.of P w (fun _=>False) []) [] L' w' r' x
 cases hs with
 |one hs=>exact Zge H hs hr
 |tup hs=>
  obtain⟨e1,e2⟩:=hs.spec
  cases hr with
  |tup xs vs hl hrr=>
   refine .tup _ vs (by rw[←e1];exact hl) (fun j u v hu hv=>?_)
   obtain⟨q,q1,q2⟩:=e2 j u hu
   exact Zge H q2 (hrr j q v q1 hv)
end
def ZaB(A:Ar)(T:Tab)(l:List Ctr)(n:Nat)(pa:List Bool)(fs:List AFrame)(h:Zac):Option (List Bool×List AFrame×Zac):=
 match fs with
 |[]=>none
 |f::fs=>ZtV A T l n true pa f fs h
def Za1(A:Ar)(T:Tab)(l:List Ctr)(n:Nat)(pa:List Bool)(fn:FuncId)(fs:List AFrame)(h:Zac):Option (List Bool×AV×Option Fresh):=
 match fs with
 |[]=>none
 |f::fs=>match ZgU A T l n pa [] f fs h with
  |none=>none
  |some (acc,g,gs,h')=>match gs with
   |_::_=>none
   |[]=>match g.ret&&Nat.beq g.fn fn with
    |false=>none
    |true=>match g.rnd with
     |some _=>none
     |none=>match g.defs with
      |_::_=>none
      |[]=>match Zly A g.env h' g.res with
       |none=>none
       |some (b,vs)=>match Zfy h' (Zfm vs)with
        |none=>none
        |some (r,fr)=>some (b::acc,r,fr)
section
variable {C:Ctx}{T:Tab}{l:List Ctr}{n:Nat}{pa acc:List Bool}{fs gs:List AFrame}{h h':Zac}{Q:List AFrame→Zac→Prop}
theorem ZEh(hfol:C.P.follows .mixedOrders=true)(hT:ZbB C.P T)(hl:ZaD C.P l)(hw:ZaB std T l n pa fs h=some (acc,gs,h'))(hb:AllT acc)(hq:Ev C gs h' Q):Ev C fs h Q:=by
 unfold ZaB at hw
 split at hw
 ·cases hw
 ·exact Zwx hfol hT hl hw hb hq
theorem ZA3(hfol:C.P.follows .mixedOrders=true)(hT:ZbB C.P T)(hl:ZaD C.P l){fn:FuncId}{r r':AV}{fr fr':Option Fresh}(hw:Za1 std T l n pa fn fs h=some (acc,r',fr'))(hb:AllT acc)(hr:r'=r)(hfr:fr'=fr):Ev C fs h (Zcq fn r fr):=by
 subst hr;subst hfr
 unfold Za1 at hw
 split at hw
 ·cases hw
 ·split at hw
  ·cases hw
  ·rename_i acc1 g gs1 h1 hs
   split at hw
   ·cases hw
   ·split at hw
    ·cases hw
    ·rename_i hg
     simp only[Bool.and_eq_true]at hg
     split at hw
     ·cases hw
     ·rename_i hn
      split at hw
      ·cases hw
      ·rename_i hd
       split at hw
       ·cases hw
       ·rename_i b vs hc
        split at hw
        ·cases hw
        ·rename_i hex
         cases hw
         have hb1:b=true:=hb.1
         subst hb1
         exact(ZbV hfol hT hl n _ _ _ _ hs hb.2.mem (.now (by simp) ⟨g,vs,rfl,Nat.eq_of_beq_eq_true hg.2,hg.1,hn,hd,hc,hex⟩)).2
end
end Go.Proofs.YtkeoeooghhjibaaGreatDoor
namespace Go.Proofs.YtkeoeooghhjibaaGreatDoor
@[simp] theorem ZAI (a b:Int):std.add a b=a+b:=rfl
@[simp] theorem ZIZ (a b:Int):std.sub a b=a-b:=rfl
@[simp] theorem ZHV (a b:Int):std.mul a b=a*b:=rfl
@[simp] theorem ZHd (a b:Int):std.quo a b=Int.tdiv a b:=rfl
@[simp] theorem ZJg (a b:Int):std.rem a b=Int.tmod a b:=rfl
@[simp] theorem ZIf (a:Int):std.neg a= -a:=rfl
@[simp] theorem ZxP (a b:Int):std.lt a b=decide (a<b):=rfl
@[simp] theorem Zty (a b:Int):std.le a b=decide (a≤b):=rfl
@[simp] theorem ZCB (a b:Int):std.eq a b=decide (a=b):=rfl
@[simp] theorem Zf9 (a:Int):std.nat a=a.toNat:=rfl
@[simp] theorem Zhy (a:Nat):std.int a=(a:Int):=rfl
@[simp] theorem ZyP (a b:Int):std.max a b=Max.max a b:=rfl
@[simp] theorem ZI5 (a b:Int):std.min a b=Min.min a b:=rfl
@[simp] theorem ZpP (l:List Int):std.len l=l.length:=rfl
@[simp] theorem ZIA (l:List Int) (j:Nat):std.nth l j=l.getD j 0:=rfl
@[simp] theorem ZHQ (l:List Int) (j:Nat) (x:Int):std.set l j x=l.set j x:=rfl
@[simp] theorem ZzL (a b:List Int):std.app a b=a++b:=rfl
@[simp] theorem ZjQ (l:List Int) (k n:Nat):std.sub3 l k n=(l.drop k).take n:=rfl
@[simp] theorem ZIb (n:Nat) (x:Int):std.rep n x=List.replicate n x:=rfl
@[simp] theorem ZGP (a:Bool):std.not a=!a:=rfl
@[simp] theorem ZGs (l:List UInt8):std.lenS l=l.length:=rfl
@[simp] theorem ZFZ (l:List UInt8) (j:Nat):std.nthS l j=((l.getD j 0).toNat:Int):=rfl
@[simp] theorem ZFy (a b:List UInt8):std.appS a b=a++b:=rfl
@[simp] theorem ZFE (l:List UInt8) (k n:Nat):std.subS l k n=sub3 l k n:=rfl
@[simp] theorem ZI0 (a b:List UInt8):std.eqS a b=(a==b):=rfl
@[simp] theorem Zdi (ks:List AV) (s:List UInt8):std.hasS ks s=ks.any fun k=>k.toS==s:=rfl
@[simp] theorem ZIt (s:List UInt8):std.byt s=s.map fun b=>(b.toNat:Int):=rfl
@[simp] theorem ZH9 (a b:Int):std.shl a b=a*2^b.toNat:=rfl
@[simp] theorem ZIL (a b:Int):std.shr a b=a.fdiv (2^b.toNat):=rfl
@[simp] theorem ZFd (n:Int):std.inR .i64 n=decide (-9223372036854775808≤n∧n≤9223372036854775807):=rfl
@[simp] theorem ZIS (a b:Bool):Zah a b=(a&&b):=by cases a<;>rfl
@[simp] theorem ZIJ (a b:Nat):Nat.blt a b=decide (a<b):=by rw[Bool.eq_iff_iff];simp
@[simp] theorem ZIP (a b:Nat):Nat.ble a b=decide (a≤b):=by rw[Bool.eq_iff_iff];simp
@[simp] theorem ZIg (a b:Nat):Nat.beq a b=decide (a=b):=by rw[Bool.eq_iff_iff];simp
@[simp] theorem ZCw:AllT []=True:=rfl
@[simp] theorem ZjU (b:Bool) (l:List Bool):AllT (b::l)=(b=true∧AllT l):=rfl
def tru:Nat→List Bool→List Bool
 |0,l=>l
 |n+1,l=>true::tru n l
def tr:List Nat→List Bool→List Bool
 |k::ks,x::xs=>tru k (x::tr ks xs)
 |k::_,[]=>tru k []
 |[],xs=>xs
theorem ZiH(l:List Bool):∀n,AllT (tru n l)=AllT l
 |0=>rfl
 |n+1=>by simp only[tru,ZjU,ZiH l n,true_and]
@[simp] theorem ZvI:∀ks xs,AllT (tr ks xs)=AllT xs
 |k::ks,x::xs=>by simp only[tr,ZiH,ZjU,ZvI ks xs]
 |k::ks,[]=>by simp only[tr,ZiH]
 |[],xs=>rfl
end Go.Proofs.YtkeoeooghhjibaaGreatDoor
