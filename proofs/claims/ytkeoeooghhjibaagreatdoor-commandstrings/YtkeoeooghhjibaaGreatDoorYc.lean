/- Every code of the table stands for the program's. Printed by gentab.py. -/
import Derived.Test.YtkeoeooghhjibaaGreatDoorTa
import Derived.Test.YtkeoeooghhjibaaGreatDoorChecked
import Derived.KernelRfl
namespace Go.Proofs.YtkeoeooghhjibaaGreatDoor
set_option maxRecDepth 100000
theorem m11:Zag Tryz.prog 11 a11=true:=by kernel_rfl
theorem m13:Zag Tryz.prog 13 a13=true:=by kernel_rfl
theorem m15:Zag Tryz.prog 15 a15=true:=by kernel_rfl
theorem m22:Zag Tryz.prog 22 a22=true:=by kernel_rfl
theorem m24:Zag Tryz.prog 24 a24=true:=by kernel_rfl
theorem m29:Zag Tryz.prog 29 a29=true:=by kernel_rfl
theorem m36:Zag Tryz.prog 36 a36=true:=by kernel_rfl
theorem m37:Zag Tryz.prog 37 a37=true:=by kernel_rfl
theorem m38:Zag Tryz.prog 38 a38=true:=by kernel_rfl
theorem m41:Zag Tryz.prog 41 a41=true:=by kernel_rfl
theorem m42:Zag Tryz.prog 42 a42=true:=by kernel_rfl
theorem m52:Zag Tryz.prog 52 a52=true:=by kernel_rfl
theorem m53:Zag Tryz.prog 53 a53=true:=by kernel_rfl
theorem m54:Zag Tryz.prog 54 a54=true:=by kernel_rfl
theorem m55:Zag Tryz.prog 55 a55=true:=by kernel_rfl
theorem m56:Zag Tryz.prog 56 a56=true:=by kernel_rfl
theorem m57:Zag Tryz.prog 57 a57=true:=by kernel_rfl
theorem m58:Zag Tryz.prog 58 a58=true:=by kernel_rfl
theorem m59:Zag Tryz.prog 59 a59=true:=by kernel_rfl
theorem m66:Zag Tryz.prog 66 a66=true:=by kernel_rfl
theorem m67:Zag Tryz.prog 67 a67=true:=by kernel_rfl
theorem m68:Zag Tryz.prog 68 a68=true:=by kernel_rfl
theorem m69:Zag Tryz.prog 69 a69=true:=by kernel_rfl
theorem m70:Zag Tryz.prog 70 a70=true:=by kernel_rfl
theorem m71:Zag Tryz.prog 71 a71=true:=by kernel_rfl
theorem m72:Zag Tryz.prog 72 a72=true:=by kernel_rfl
theorem m73:Zag Tryz.prog 73 a73=true:=by kernel_rfl
theorem m74:Zag Tryz.prog 74 a74=true:=by kernel_rfl
theorem m82:Zag Tryz.prog 82 a82=true:=by kernel_rfl
theorem m83:Zag Tryz.prog 83 a83=true:=by kernel_rfl
theorem m84:Zag Tryz.prog 84 a84=true:=by kernel_rfl
theorem m87:Zag Tryz.prog 87 a87=true:=by kernel_rfl
theorem m88:Zag Tryz.prog 88 a88=true:=by kernel_rfl
theorem m89:Zag Tryz.prog 89 a89=true:=by kernel_rfl
theorem m90:Zag Tryz.prog 90 a90=true:=by kernel_rfl
theorem m91:Zag Tryz.prog 91 a91=true:=by kernel_rfl
theorem m97:Zag Tryz.prog 97 a97=true:=by kernel_rfl
theorem ZAC:Zag Tryz.prog 105 a105=true:=by kernel_rfl
theorem ZA4:Zag Tryz.prog 106 ZzC=true:=by kernel_rfl
theorem ZCU:Zag Tryz.prog 107 Zzi=true:=by kernel_rfl
theorem ZCG:Zag Tryz.prog 108 ZzK=true:=by kernel_rfl
theorem ZCY:Zag Tryz.prog 109 a109=true:=by kernel_rfl
theorem ZCg:Zag Tryz.prog 110 a110=true:=by kernel_rfl
theorem ZAl:Zag Tryz.prog 111 a111=true:=by kernel_rfl
theorem ZCI:Zag Tryz.prog 112 a112=true:=by kernel_rfl
theorem ZCx:Zag Tryz.prog 113 Zzz=true:=by kernel_rfl
theorem ZAi:Zag Tryz.prog 120 Zzu=true:=by kernel_rfl
theorem ZB4:Zag Tryz.prog 121 Zz5=true:=by kernel_rfl
theorem ZBX:Zag Tryz.prog 122 a122=true:=by kernel_rfl
theorem ZAN:Zag Tryz.prog 123 a123=true:=by kernel_rfl
theorem ZAP:Zag Tryz.prog 127 Zwq=true:=by kernel_rfl
theorem ZBh:Zag Tryz.prog 128 Zy8=true:=by kernel_rfl
theorem ZB0:Zag Tryz.prog 129 Zy5=true:=by kernel_rfl
theorem ZBD:Zag Tryz.prog 130 Zy4=true:=by kernel_rfl
theorem ZAm:Zag Tryz.prog 131 ZzE=true:=by kernel_rfl
theorem ZDl:Zag Tryz.prog 132 Zz9=true:=by kernel_rfl
theorem ZDr:Zag Tryz.prog 133 Zz2=true:=by kernel_rfl
theorem ZAO:Zag Tryz.prog 134 Zzj=true:=by kernel_rfl
theorem ZDj:Zag Tryz.prog 135 Zz4=true:=by kernel_rfl
theorem ZBa:Zag Tryz.prog 136 ZyP=true:=by kernel_rfl
theorem ZB5:Zag Tryz.prog 137 Zzl=true:=by kernel_rfl
theorem ZB2:Zag Tryz.prog 138 ZxN=true:=by kernel_rfl
theorem ZCw:Zag Tryz.prog 141 ZzZ=true:=by kernel_rfl
theorem ZBS:Zag Tryz.prog 142 ZyU=true:=by kernel_rfl
theorem ZCF:Zag Tryz.prog 143 Zw5=true:=by kernel_rfl
theorem ZBF:Zag Tryz.prog 144 ZyQ=true:=by kernel_rfl
theorem ZCK:Zag Tryz.prog 145 Zxl=true:=by kernel_rfl
theorem ZCq:Zag Tryz.prog 147 ZzV=true:=by kernel_rfl
theorem ZDm:Zag Tryz.prog 152 ZyG=true:=by kernel_rfl
theorem ZAz:Zag Tryz.prog 155 ZAf=true:=by kernel_rfl
theorem ZC1:Zag Tryz.prog 156 ZAb=true:=by kernel_rfl
theorem ZC6:Zag Tryz.prog 157 Zzg=true:=by kernel_rfl
theorem ZAs:Zag Tryz.prog 158 ZzL=true:=by kernel_rfl
theorem ZB9:Zag Tryz.prog 159 Zzv=true:=by kernel_rfl
theorem ZCs:Zag Tryz.prog 160 ZzN=true:=by kernel_rfl
theorem ZA1:Zag Tryz.prog 161 Zzc=true:=by kernel_rfl
theorem ZCp:Zag Tryz.prog 162 ZyM=true:=by kernel_rfl
theorem ZCH:Zag Tryz.prog 163 Zzy=true:=by kernel_rfl
theorem ZBE:Zag Tryz.prog 164 Zym=true:=by kernel_rfl
theorem ZCB:Zag Tryz.prog 165 ZzG=true:=by kernel_rfl
theorem ZCQ:Zag Tryz.prog 166 Zzb=true:=by kernel_rfl
theorem ZBP:Zag Tryz.prog 168 ZwS=true:=by kernel_rfl
theorem ZDt:Zag Tryz.prog 170 ZyI=true:=by kernel_rfl
theorem ZCk:Zag Tryz.prog 171 Zwz=true:=by kernel_rfl
theorem ZBx:Zag Tryz.prog 172 ZzT=true:=by kernel_rfl
theorem ZBU:Zag Tryz.prog 174 Zzp=true:=by kernel_rfl
theorem ZAw:Zag Tryz.prog 177 ZzA=true:=by kernel_rfl
theorem ZDb:Zag Tryz.prog 178 ZAg=true:=by kernel_rfl
theorem ZAu:Zag Tryz.prog 179 ZzO=true:=by kernel_rfl
theorem ZCf:Zag Tryz.prog 180 Zzr=true:=by kernel_rfl
theorem ZAU:Zag Tryz.prog 181 Zz0=true:=by kernel_rfl
theorem ZCV:Zag Tryz.prog 182 Zzm=true:=by kernel_rfl
theorem ZAV:Zag Tryz.prog 183 Zy9=true:=by kernel_rfl
theorem ZAM:Zag Tryz.prog 184 Zzw=true:=by kernel_rfl
theorem ZBZ:Zag Tryz.prog 186 ZzI=true:=by kernel_rfl
theorem ZDh:Zag Tryz.prog 187 Zzt=true:=by kernel_rfl
theorem ZCW:Zag Tryz.prog 188 ZyS=true:=by kernel_rfl
theorem ZCM:Zag Tryz.prog 189 ZAe=true:=by kernel_rfl
theorem ZCn:Zag Tryz.prog 190 Zz3=true:=by kernel_rfl
theorem ZAJ:Zag Tryz.prog 193 ZAd=true:=by kernel_rfl
theorem ZCu:Zag Tryz.prog 194 ZyN=true:=by kernel_rfl
theorem ZBe:Zag Tryz.prog 197 ZzQ=true:=by kernel_rfl
theorem ZBW:Zag Tryz.prog 198 ZyT=true:=by kernel_rfl
theorem ZCt:Zag Tryz.prog 199 ZyF=true:=by kernel_rfl
theorem ZCd:Zag Tryz.prog 200 ZyZ=true:=by kernel_rfl
theorem ZBK:Zag Tryz.prog 202 ZzX=true:=by kernel_rfl
theorem ZA2:Zag Tryz.prog 204 Zy3=true:=by kernel_rfl
theorem ZCh:Zag Tryz.prog 206 Zz7=true:=by kernel_rfl
theorem ZBC:Zag Tryz.prog 207 ZyR=true:=by kernel_rfl
theorem ZBJ:Zag Tryz.prog 208 ZzR=true:=by kernel_rfl
theorem ZBd:Zag Tryz.prog 209 ZzM=true:=by kernel_rfl
theorem ZBL:Zag Tryz.prog 210 ZwQ=true:=by kernel_rfl
theorem ZCr:Zag Tryz.prog 211 ZzB=true:=by kernel_rfl
theorem ZC3:Zag Tryz.prog 212 Zws=true:=by kernel_rfl
theorem ZAB:Zag Tryz.prog 213 Zwx=true:=by kernel_rfl
theorem ZAv:Zag Tryz.prog 214 Zz6=true:=by kernel_rfl
theorem ZAo:Zag Tryz.prog 215 ZAa=true:=by kernel_rfl
theorem Zad:Zbd Tryz.prog tab:=FTree.ok (t:=tree) ⟨⟨⟨⟨⟨⟨⟨trivial,m11,trivial⟩,m13,⟨trivial,m15,trivial⟩⟩,m22,⟨⟨trivial,m24,trivial⟩,m29,⟨trivial,m36,trivial⟩⟩⟩,m37,⟨⟨⟨trivial,m38,trivial⟩,m41,⟨trivial,m42,trivial⟩⟩,m52,⟨⟨trivial,m53,trivial⟩,m54,trivial⟩⟩⟩,m55,⟨⟨⟨⟨trivial,m56,trivial⟩,m57,⟨trivial,m58,trivial⟩⟩,m59,⟨⟨trivial,m66,trivial⟩,m67,⟨trivial,m68,trivial⟩⟩⟩,m69,⟨⟨⟨trivial,m70,trivial⟩,m71,⟨trivial,m72,trivial⟩⟩,m73,⟨⟨trivial,m74,trivial⟩,m82,trivial⟩⟩⟩⟩,m83,⟨⟨⟨⟨⟨trivial,m84,trivial⟩,m87,⟨trivial,m88,trivial⟩⟩,m89,⟨⟨trivial,m90,trivial⟩,m91,⟨trivial,m97,trivial⟩⟩⟩,ZAC,⟨⟨⟨trivial,ZA4,trivial⟩,ZCU,⟨trivial,ZCG,trivial⟩⟩,ZCY,⟨⟨trivial,ZCg,trivial⟩,ZAl,trivial⟩⟩⟩,ZCI,⟨⟨⟨⟨trivial,ZCx,trivial⟩,ZAi,⟨trivial,ZB4,trivial⟩⟩,ZBX,⟨⟨trivial,ZAN,trivial⟩,ZAP,trivial⟩⟩,ZBh,⟨⟨⟨trivial,ZB0,trivial⟩,ZBD,⟨trivial,ZAm,trivial⟩⟩,ZDl,⟨⟨trivial,ZDr,trivial⟩,ZAO,trivial⟩⟩⟩⟩⟩,ZDj,⟨⟨⟨⟨⟨⟨trivial,ZBa,trivial⟩,ZB5,⟨trivial,ZB2,trivial⟩⟩,ZCw,⟨⟨trivial,ZBS,trivial⟩,ZCF,⟨trivial,ZBF,trivial⟩⟩⟩,ZCK,⟨⟨⟨trivial,ZCq,trivial⟩,ZDm,⟨trivial,ZAz,trivial⟩⟩,ZC1,⟨⟨trivial,ZC6,trivial⟩,ZAs,trivial⟩⟩⟩,ZB9,⟨⟨⟨⟨trivial,ZCs,trivial⟩,ZA1,⟨trivial,ZCp,trivial⟩⟩,ZCH,⟨⟨trivial,ZBE,trivial⟩,ZCB,⟨trivial,ZCQ,trivial⟩⟩⟩,ZBP,⟨⟨⟨trivial,ZDt,trivial⟩,ZCk,⟨trivial,ZBx,trivial⟩⟩,ZBU,⟨⟨trivial,ZAw,trivial⟩,ZDb,trivial⟩⟩⟩⟩,ZAu,⟨⟨⟨⟨⟨trivial,ZCf,trivial⟩,ZAU,⟨trivial,ZCV,trivial⟩⟩,ZAV,⟨⟨trivial,ZAM,trivial⟩,ZBZ,⟨trivial,ZDh,trivial⟩⟩⟩,ZCW,⟨⟨⟨trivial,ZCM,trivial⟩,ZCn,⟨trivial,ZAJ,trivial⟩⟩,ZCu,⟨⟨trivial,ZBe,trivial⟩,ZBW,trivial⟩⟩⟩,ZCt,⟨⟨⟨⟨trivial,ZCd,trivial⟩,ZBK,⟨trivial,ZA2,trivial⟩⟩,ZCh,⟨⟨trivial,ZBC,trivial⟩,ZBJ,trivial⟩⟩,ZBd,⟨⟨⟨trivial,ZBL,trivial⟩,ZCr,⟨trivial,ZC3,trivial⟩⟩,ZAB,⟨⟨trivial,ZAv,trivial⟩,ZAo,trivial⟩⟩⟩⟩⟩⟩
theorem follows:Tryz.prog.follows .mixedOrders=true:=by kernel_rfl
end Go.Proofs.YtkeoeooghhjibaaGreatDoor
/- A call that changes a row of the caller's. No condition. -/
namespace Go.Proofs.YtkeoeooghhjibaaGreatDoor
open Go.RowKit (Below)
abbrev Ctx.mut(P:Program)(w:World)(okA:Nat→Prop)(cs:List Frame)(g:Nat):Ctx:=⟨P,w,okA,cs,0,g⟩
def ZwB(P:Program)(f:FuncId)(e:TypeId)(sz:Nat)(x y:Row)(args:List AV)(r:AV):Prop:=
 ∀(w:World) (okA:Nat→Prop) (L:Lay) (vs:Array Value),(∀k,okA k→k<w.heap.size)→
  HRel (Ctx.mut P w okA [] (L.loc 0 0)) (Zao (some ⟨e,sz,x⟩)) L w→
  RelL w (Zam (Ctx.mut P w okA [] (L.loc 0 0)) (Zao (some ⟨e,sz,x⟩)) L) (Zao (some ⟨e,sz,x⟩)) L (.row 0 0::args) vs.toList→
  Calls P f vs w fun e' w'=>∃v L',e'=.returned v∧Fr (Ctx.mut P w okA [] (L.loc 0 0)) (Zao (some ⟨e,sz,x⟩)) L w (Zao (some ⟨e,sz,y⟩)) L' w'∧
   HRel (Ctx.mut P w okA [] (L.loc 0 0)) (Zao (some ⟨e,sz,y⟩)) L' w'∧Zas (Ctx.mut P w okA [] (L.loc 0 0)) (Zao (some ⟨e,sz,y⟩)) L' w' r v
def Zr2:AV→Bool
 | .row a i=>Nat.beq a 0&&Nat.beq i 0
 | .slc a i _ _ _=>Nat.beq a 0&&Nat.beq i 0
 |v=>v.pure
def ZDp(f:FuncId)(e:TypeId)(sz:Nat)(y:Row)(r:AV)(fs:List AFrame)(h:Zaa):Prop:=
 ∃g vs,fs=[g]∧g.fn=f∧g.ret=true∧g.rnd=none∧g.defs=[]∧Zeq std g.env h g.res=some (true,vs)∧ZeL vs=r∧Zr2 r=true∧blk h 0 0=.row e sz y∧y.pure=true
section
variable {C:Ctx}{h:Zaa}{L:Lay}{w:World}
def Zt3(a i:Nat):AV→AV
 | .row _ _=>.row a i
 | .slc _ _ k n c=>.slc a i k n c
 |v=>v
theorem Zlx{f:FuncId}{a i e sz:Nat}{x y:Row}{args:List AV}{vs:Array Value}{r:AV}(H:HRel C h L w)(hb:blk h a i=.row e sz x)(hxn:0<x.elems.length)(hxp:x.pure=true)(hyp:y.pure=true)(hap:AV.pureL args=true)(hrel:RelL w (Zam C h L) h L (.row a i::args) vs.toList)(hor:Zr2 r=true)(hm:ZwB C.P f e sz x y args r):
 Calls C.P f vs w fun e' w'=>∃v L',e'=.returned v∧Step w (Zam C h L) h L w' (Zam C (ZaB h a i (.row e sz y)) L') (ZaB h a i (.row e sz y)) L'∧HRel C (ZaB h a i (.row e sz y)) L' w'∧Zas C (ZaB h a i (.row e sz y)) L' w' (Zt3 a i r) v:=by
 obtain⟨ht,h0,h1,h2,h3⟩:=H.rowAt hb
 have hs0:L.size a i≠0:=by omega
 obtain⟨ht0,cur,h4,h5,h6,h7,h8⟩:=H.curAt hb hs0
 have hnd:blk h a i≠ .dead:=by rw[hb];simp
 let okA:Nat→Prop:=fun k=>Zam C h L k∧k<w.heap.size
 let L1:Lay:=⟨fun _ _=>L.loc a i,fun _ _=>L.size a i⟩
 have h00:∀(L':Lay) (z:Row) b j,Plc (Zao (some ⟨e,sz,z⟩)) L' b j→b=0∧j=0:=fun L' z b j hx=>by
  have hx:=hx.tag
  rw[Zbb]at hx
  split at hx
  ·assumption
  ·exact absurd rfl hx
 have hno:¬okA (L.loc a i):=fun ho=>ZoC H ho.1 ht0 rfl
 have hok1:∀g,g<w.heap.size→Zam C h L g→Zam (Ctx.mut C.P w okA [] (L.loc a i)) (Zao (some ⟨e,sz,x⟩)) L1 g:=fun g hg ho=>.inl ⟨hg,ho,hg⟩
 have H1:HRel (Ctx.mut C.P w okA [] (L.loc a i)) (Zao (some ⟨e,sz,x⟩)) L1 w:=by
  refine⟨Below.refl _ _,fun b j _=>⟨Nat.zero_le _,(H.live a i ht0).2⟩,fun b j=>?_,fun b j c k hb1 hb2 _=>?_,fun b j hx=>?_,fun _ _ _=>rfl,Nat.zero_le _,H.good.mut H.below H.low (H.live a i ht0).1 (by rcases H.home a i ht0 with q |⟨_,_,q,_⟩;exact .inl q;exact .inr q)⟩
  ·rw[Zbb]
   split
   ·exact⟨h0,h1,h2,h3,fun _=>⟨cur,h4,h5,⟨h6.1,fun j u v hu hv=>((h6.2 j u v hu hv).okmono (fun g hg ho=>hok1 g hg ho)).pure (AV.pureL_mem (ZaV hxp) hu)⟩,h7⟩⟩
   ·trivial
  ·obtain⟨rfl,rfl⟩:=h00 _ x b j hb1
   obtain⟨rfl,rfl⟩:=h00 _ x c k hb2
   exact⟨rfl,rfl⟩
  ·obtain⟨rfl,rfl⟩:=h00 _ x b j hx
   exact .inr ⟨rfl,rfl,rfl,hno⟩
 have hrel1:RelL w (Zam (Ctx.mut C.P w okA [] (L.loc a i)) (Zao (some ⟨e,sz,x⟩)) L1) (Zao (some ⟨e,sz,x⟩)) L1 (.row 0 0::args) vs.toList:=by
  refine⟨by have:=hrel.1;simpa using this,fun j u v hu hv=>?_⟩
  cases j with
  |zero=>
   simp at hu;subst hu
   have hr:=hrel.2 0 _ v rfl hv
   cases hr with
   |row _ _ ad n c hn hl=>
    obtain⟨had,rfl,rfl⟩:=hl.2 _ ht
    refine .row 0 0 _ _ _ hn ⟨by show 0<0+1;omega,fun s hs=>?_⟩
    rw[Zbb]at hs
    simp only[and_self,if_true,Blk.tag,Option.some.injEq]at hs
    subst hs
    exact⟨had,rfl,rfl⟩
  |succ j=>
   have hu':args[j]? =some u:=by simpa using hu
   exact((hrel.2 (j+1) u v (by simpa using hu') hv).okmono (fun g hg ho=>hok1 g hg ho)).pure (AV.pureL_mem hap hu')
 refine(hm w okA L1 vs (fun k hk=>hk.2) H1 hrel1).mono ?_
 rintro e' w' ⟨v,L',rfl,hF,H2,rr⟩
 have ht2:(blk (Zao (some ⟨e,sz,y⟩)) 0 0).tag=some (sz,y.elems.length):=rfl
 obtain⟨t1,l1,s1⟩:=hF.tags _ (by show 0<0+1;omega) ht2
 have l1:L'.loc 0 0=L.loc a i:=l1
 have s1:L'.size 0 0=L.size a i:=s1
 have hlen:y.elems.length=x.elems.length:=by
  have:(blk (Zao (some ⟨e,sz,x⟩)) 0 0).tag=some (sz,x.elems.length):=rfl
  rw[this]at t1
  simp only[Option.some.injEq,Prod.mk.injEq,true_and]at t1
  exact t1.symm
 have hgr:w.grownBy w' (some (L.loc a i)):=⟨H2.below.os,H2.below.tape,H2.below.output,hF.size,fun k hk hne=>H2.low k hk (fun e=>hne (by rw[e]))⟩
 have hok2:∀(hst:Step w (Zam C h L) h L w' (Zam C (ZaB h a i (.row e sz y)) L) (ZaB h a i (.row e sz y)) L) g,Zam (Ctx.mut C.P w okA [] (L.loc a i)) (Zao (some ⟨e,sz,y⟩)) L' g→Zam C (ZaB h a i (.row e sz y)) L g:=fun hst g ho=>by
  rcases ho with⟨q1,q2⟩ |⟨q1,q2⟩
  ·exact(hst.mem g q2.2 q2.1).1
  ·have q1:w.heap.size≤g:=q1
   refine .inr ⟨Nat.le_trans H.top q1,fun b j hx hxe=>?_⟩
   have:Plc h L b j:=by
    by_cases e1:a=b∧i=j
    ·obtain⟨rfl,rfl⟩:=e1;exact ht0
    ·exact hx.to (by rw[ZbF hnd,if_neg e1]) rfl
   have:=(H.live b j this).2
   omega
 obtain⟨hst,H3⟩:=H.set (b:=.row e sz y) ht0 (by rw[ht];show some (sz,y.elems.length)=_;rw[hlen]) hgr (fun hst=>by
  have hbr:=H2.blks 0 0
  rw[show blk (Zao (some ⟨e,sz,y⟩)) 0 0=.row e sz y from rfl,l1,s1]at hbr
  obtain⟨g0,g1,g2,g3,hcur⟩:=hbr
  obtain⟨cur2,g4,g5,g6,g7⟩:=hcur hs0
  exact⟨g0,g1,g2,g3,fun _=>⟨cur2,g4,g5,⟨g6.1,fun j u v hu hv=>((g6.2 j u v hu hv).okmono (fun g _ ho=>hok2 hst g ho)).pure (AV.pureL_mem (ZaV hyp) hu)⟩,g7⟩⟩)
 refine⟨v,L,rfl,hst,H3,?_⟩
 have hbs:blk (ZaB h a i (.row e sz y)) a i=.row e sz y:=by rw[ZbF hnd,if_pos ⟨rfl,rfl⟩]
 have hlv:∀ {p p':Nat→Nat×Nat→Prop},Live (Zao (some ⟨e,sz,y⟩)) L' 0 0 p→(∀s,p (L'.loc 0 0) s→p' (L.loc a i) s)→Live (ZaB h a i (.row e sz y)) L a i p':=fun hp hpp=>by
  refine⟨Zm6 (by rw[hbs];simp),fun s hs=>?_⟩
  rw[hbs]at hs
  simp only[Blk.tag,Option.some.injEq]at hs
  subst hs
  exact hpp _ (hp.2 _ ht2)
 have key:r.pure=true→Zas C (ZaB h a i (.row e sz y)) L w' r v:=fun hp=>(rr.okmono (fun g _ ho=>hok2 hst g ho)).pure hp
 cases r with
 |row b j=>
  simp only[Zr2,Bool.and_eq_true]at hor
  have ha:=Nat.eq_of_beq_eq_true hor.1
  have hi:=Nat.eq_of_beq_eq_true hor.2
  subst ha;subst hi
  cases rr with
  |row _ _ ad n c hn hl=>exact .row a i ad n c hn (hlv hl fun s hp=>by rw[←s1,←l1];exact hp)
 |slc b j k n cap=>
  simp only[Zr2,Bool.and_eq_true]at hor
  have ha:=Nat.eq_of_beq_eq_true hor.1
  have hi:=Nat.eq_of_beq_eq_true hor.2
  subst ha;subst hi
  cases rr with
  |slc _ _ _ _ _ ad c hn hl=>exact .slc a i k n cap ad c hn (hlv hl fun s hp=>by rw[←s1,←l1];exact hp)
 |_=>exact key hor
end
section
variable {C:Ctx}{h:Zaa}{Q:List AFrame→Zaa→Prop}{f:AFrame}{fs:List AFrame}{k:List AItem}
theorem Zlh{o:AOp}{os:List AOp}{g:FuncId}{mm:Bool}{a0 a i e sz:Nat}{args:List Opd}{x y:Row}{rest:List AV}{r:AV}(hr:f.ret=false)(ht:f.todo=.inReg (o::os)::k)(hg:o.g=none)(hk:o.k=.ncall mm a0 g args)
 (ha:args.map (ZaW (Zay f.env))=.row a i::rest) (hb:blk h a i=.row e sz x) (hxn:0<x.elems.length) (hxp:x.pure=true) (hyp:y.pure=true) (hap:AV.pureL rest=true) (hor:Zr2 r=true) (hm:ZwB C.P g e sz x y rest r)
 (hq:Ev C ({ f with env:=ZlM f.env o.d (Zt3 a i r),todo:=.inReg os::k } ::fs) (ZaB h a i (.row e sz y)) Q):Ev C (f::fs) h Q:=by
 intro L fr cs w hf H _
 cases hf with
 |cons hf hkk=>
  rcases hf.mode with⟨e,_⟩ |⟨_,hmo,hi⟩
  ·rw[hr]at e;cases e
  ·rw[ht]at hi
   cases hi':fr.todo with
   |nil=>rw[hi']at hi;cases hi
   |cons z l=>
    rw[hi']at hi
    cases hi with
    |cons hx hki=>
     cases hx with
     |inReg ops ix _ hmc=>
      obtain⟨kk,ix',op,rfl,e1,e2,e3⟩:=ZdY hmc
      have henv:EnvF C h L w (Zay f.env) fr.tmps:=hf.env
      obtain⟨g0,_,_⟩:=Zld henv e2
      have hwant:=g0 hg
      have e2':=e2
      simp only[Zmr,Bool.and_eq_true,beq_iff_eq]at e2'
      obtain⟨⟨⟨⟨hnd,hdst⟩,hdN⟩,_⟩,hmop⟩:=e2'
      have hdN':∀d',o.d=some d'→d'<fr.tmps.size:=fun d' e=>by rw[e]at hdN;rw[hf.size];simpa using hdN
      have e1':ops.toArray[kk]? =some op:=by simpa using e1
      have hfin:∀v,fr.finish v= { fr with tmps:=Zh0 fr.tmps o.d v,todo:=.inRegion ops.toArray ix'::l } :=fun v=>by rw[ZeM hi' e1',hdst]
      have hρ:=Zt5 henv
      rw[hk]at hmop
      simp only[mop]at hmop
      split at hmop
      ·rename_i f' args' ts ho
       simp only[Bool.and_eq_true,beq_iff_eq]at hmop
       obtain⟨⟨rfl,hmop⟩,hcal⟩:=hmop
       have hrel:=ZbI hρ hmop
       rw[ha]at hrel
       have hrun:(execOp fr.eval op).run C.P w=.ok (.enter g (args'.map fr.eval)) w:=by simpa using Zfs (w:=w) ho (hρ.fnc g) hcal
       have hcalls:=Zlx H hb hxn hxp hyp hap hrel hor hm
       obtain⟨v,w',⟨v',L',e,s,H',hv⟩,hst⟩:=Zi3 (cs:=cs) hmo hi' e1' hwant hnd hrun hcalls (fun e w'' hh=>by obtain⟨x,_,e,_⟩:=hh;exact⟨x,e⟩)
       cases e
       rw[hfin]at hst
       have hfs:=hf.step s
       have he':EnvF C (ZaB h a i (.row _ sz y)) L' w' (Env.put (Zay f.env) o.d (Zt3 a i r)) (Zh0 fr.tmps o.d v):=(EnvF.step s henv).put hdN' (fun _=>hv)
       obtain⟨fs2,h2',L2,fr2,cs2,w2,q2,n2,a2,b2,s2⟩:=hq L' { fr with tmps:=Zh0 fr.tmps o.d v,todo:=.inRegion ops.toArray ix'::l } cs w'
        (.cons ⟨hf.fn,by rw[Zd8];exact hf.size,by intro t av hta;exact he' t av (by rw[←ZcE];exact hta),hf.kind,hfs.defs,hfs.rnd, .inr ⟨hr,hmo, .cons (.inReg ops ix' os e3) (hki.step s)⟩,hf.res⟩ (hkk.step s)) H' (by simp)
       exact⟨fs2,h2',L2,fr2,cs2,w2,q2,n2,a2,b2,hst.trans s2.1,(Fr.of s).trans s2.2⟩
      ·cases hmop
theorem Zpq{t a i e sz n:Nat}{r:Row}(ht:Zay f.env t=some (.slc a i 0 n none))(hb:blk h a i=.row e sz r)(hz:Zjn a=false)(hn:n≤r.elems.length)
 (hq:Ev C ({ f with env:=Zco f.env t (.row a (nxt h a)) } ::fs) (Zaf (ZaB h a i .dead) a (.row e sz (r.sub std 0 n))) Q):Ev C (f::fs) h Q:=by
 intro L fr cs w hf H _
 cases hf with
 |cons hf hk=>
  obtain⟨L',s,H',rr⟩:=H.shrink hb (Zcd hz) hn
  rw[(Zca (show blk h a i≠ .dead by rw[hb];simp)).1]at rr
  have hfs:=hf.step s
  obtain⟨fs2,h2',L2,fr2,cs2,w2,q2,n2,a2,b2,s2⟩:=hq L' fr cs w (.cons ⟨hf.fn,hf.size,fun t' av ht'=>by
   rw[Zbm]at ht'
   split at ht'
   ·rename_i htt
    subst htt
    cases ht'
    exact rr _ (hf.env _ _ ht)
   ·exact hfs.env t' av ht',hf.kind,hfs.defs,hfs.rnd,hfs.mode,hf.res⟩ (hk.step s)) H' (by simp)
  exact⟨fs2,h2',L2,fr2,cs2,w2,q2,n2,a2,b2,s2.1,(Fr.of s).trans s2.2⟩
end
end Go.Proofs.YtkeoeooghhjibaaGreatDoor
/- Guided runs: where the way hangs on a letter, a list of choices says which way is taken. No condition. -/
namespace Go.Proofs.YtkeoeooghhjibaaGreatDoor
open Go.RowKit (Below)
def Zvk:List (Nat×AV)→Nat→AV→List (Nat×AV)
 |[],_,_=>[]
 |(i,x)::l,t,y=>match Nat.beq i t with |true=>(i,y)::l |false=>(i,x)::Zvk l t y
theorem Zft:∀ {env:List (Nat×AV)} {t:Nat} {v:AV},Zay env t=some v→Zvk env t v=env
 |[],t,v,h=>by cases h
 |(i,x)::l,t,v,h=>by
  simp only[Zay]at h
  simp only[Zvk]
  split
  ·rename_i hb;rw[hb]at h;cases h;rfl
  ·rename_i hb;rw[hb]at h;rw[Zft h]
def asB(p b:Bool):Bool:=match p with |true=>b |false=>!b
theorem ZpB{p b:Bool}(h:asB p b=true):b=p:=by cases p<;>cases b<;>first |rfl |cases h
abbrev ZeW:=List (Nat×AV)
def ZmF(env:ZeW)(pa acc:List Bool)(t:Nat):Option (List Bool×List Bool×ZeW):=
 match Zay env t with
 |some v=>(match v with
  | .bool b=>(match pa with
    |p::ps=>some (ps,asB p b::acc,Zvk env t (.bool p))
    |[]=>none)
  |_=>some (pa,acc,env))
 |none=>some (pa,acc,env)
theorem Znp{env env':ZeW}{pa pa' acc acc':List Bool}{t:Nat}(h:ZmF env pa acc t=some (pa',acc',env'))(hb:∀b∈acc',b=true):env'=env∧∀b∈acc,b=true:=by
 unfold ZmF at h
 split at h
 ·rename_i v hv
  split at h
  ·rename_i b
   split at h
   ·rename_i p ps
    cases h
    have:=ZpB (hb _ List.mem_cons_self)
    subst this
    exact⟨Zft hv,fun b hb'=>hb b (List.mem_cons_of_mem _ hb')⟩
   ·cases h
  ·cases h;exact⟨rfl,hb⟩
 ·cases h;exact⟨rfl,hb⟩
def inN(t:Nat):List Nat→Bool
 |[]=>false
 |x::l=>match Nat.beq x t with |true=>true |false=>inN t l
def ZBw(d:Option Nat)(l:List Nat):List Nat:=match d with |none=>l |some t=>l.filter fun x=>!Nat.beq x t
abbrev ZuB:=Option (List Bool×List Bool×ZeW×List Nat)
def ZhJ(st:List Nat)(env:ZeW)(pa acc:List Bool)(t:Nat):ZuB:=
 match inN t st with
 |true=>some (pa,acc,env,st)
 |false=>match ZmF env pa acc t with
  |none=>none
  |some (pa',acc',env')=>some (pa',acc',env',t::st)
theorem ZeJ{st st':List Nat}{env env':ZeW}{pa pa' acc acc':List Bool}{t:Nat}(h:ZhJ st env pa acc t=some (pa',acc',env',st'))(hb:∀b∈acc',b=true):env'=env∧∀b∈acc,b=true:=by
 unfold ZhJ at h
 split at h
 ·cases h;exact⟨rfl,hb⟩
 ·split at h
  ·cases h
  ·rename_i hs;cases h;exact Znp hs hb
def Zwl:Nat→List Bool→Option (Nat×List Bool)
 |_,[]=>none
 |j,b::pa=>match b with |true=>some (j,pa) |false=>Zwl (j+1) pa
def Zjm(A:Ar)(st:List Nat)(env:ZeW)(pa acc:List Bool)(t:Nat):ZuB:=
 match Zay env t with
 |some v=>(match v with
  | .int k n=>(match Zwl 0 pa with
    |some (j,ps)=>some (ps,A.eq n (Int.ofNat j)::acc,Zvk env t (.int k (Int.ofNat j)),st)
    |none=>none)
  |_=>some (pa,acc,env,st))
 |none=>some (pa,acc,env,st)
theorem ZlW{st st':List Nat}{env env':ZeW}{pa pa' acc acc':List Bool}{t:Nat}(h:Zjm std st env pa acc t=some (pa',acc',env',st'))(hb:∀b∈acc',b=true):env'=env∧∀b∈acc,b=true:=by
 unfold Zjm at h
 split at h
 ·rename_i v hv
  split at h
  ·rename_i k n
   split at h
   ·rename_i j ps _
    cases h
    have e:std.eq n (Int.ofNat j)=true:=hb _ List.mem_cons_self
    have e:n=Int.ofNat j:=by simpa[std]using e
    subst e
    exact⟨Zft hv,fun b hb'=>hb b (List.mem_cons_of_mem _ hb')⟩
   ·cases h
  ·cases h;exact⟨rfl,hb⟩
 ·cases h;exact⟨rfl,hb⟩
def ZfV(A:Ar)(st:List Nat)(i:Opd)(env:ZeW)(pa acc:List Bool):ZuB:=
 match i with
 | .s t=>Zjm A st env pa acc t
 |_=>some (pa,acc,env,st)
theorem Zeh{st st':List Nat}{i:Opd}{env env':ZeW}{pa pa' acc acc':List Bool}(h:ZfV std st i env pa acc=some (pa',acc',env',st'))(hb:∀b∈acc',b=true):env'=env∧∀b∈acc,b=true:=by
 unfold ZfV at h
 split at h
 ·exact ZlW h hb
 ·cases h;exact⟨rfl,hb⟩
def ZhC(A:Ar)(st:List Nat)(k:OpK)(env:ZeW)(pa acc:List Bool):ZuB:=
 match k with
 | .aaddr _ _ _ i=>ZfV A st i env pa acc
 | .idxa _ _ _ i=>ZfV A st i env pa acc
 | .idx _ _ i=>ZfV A st i env pa acc
 | .pick c _ _=>(match c with | .t n=>ZhJ st env pa acc n |_=>some (pa,acc,env,st))
 |_=>some (pa,acc,env,st)
theorem ZgL{st st':List Nat}{k:OpK}{env env':ZeW}{pa pa' acc acc':List Bool}(h:ZhC std st k env pa acc=some (pa',acc',env',st'))(hb:∀b∈acc',b=true):env'=env∧∀b∈acc,b=true:=by
 unfold ZhC at h
 split at h
 ·exact Zeh h hb
 ·exact Zeh h hb
 ·exact Zeh h hb
 ·split at h
  ·exact ZeJ h hb
  ·cases h;exact⟨rfl,hb⟩
 ·cases h;exact⟨rfl,hb⟩
def Zh5(A:Ar)(st:List Nat)(o:AOp)(env:ZeW)(pa acc:List Bool):ZuB:=
 match o.g with
 |none=>ZhC A st o.k env pa acc
 |some p=>match ZhJ st env pa acc p.1 with
  |none=>none
  |some (pa1,acc1,env1,st1)=>match ZeR o env1 with
   |some g=>(match g with |true=>ZhC A st1 o.k env1 pa1 acc1 |false=>some (pa1,acc1,env1,st1))
   |none=>none
theorem ZeF{st st':List Nat}{o:AOp}{env env':ZeW}{pa pa' acc acc':List Bool}(h:Zh5 std st o env pa acc=some (pa',acc',env',st'))(hb:∀b∈acc',b=true):env'=env∧∀b∈acc,b=true:=by
 unfold Zh5 at h
 split at h
 ·exact ZgL h hb
 ·split at h
  ·cases h
  ·rename_i pa1 acc1 env1 st1 hs
   split at h
   ·split at h
    ·obtain⟨e1,h1⟩:=ZgL h hb
     obtain⟨e2,h2⟩:=ZeJ hs h1
     exact⟨e1.trans e2,h2⟩
    ·cases h;exact ZeJ hs hb
   ·cases h
structure Ctr where
 f:FuncId
 n:Nat
 run:List Bool→List AV→Option (Bool×AV×Option Fresh)
def Zrn(P:Program)(f:FuncId)(args:List AV)(r:AV)(fr:Option Fresh):Prop:=
 match Nat.blt f 1000000 with
 |true=>Zan P f args r fr
 |false=>∀x rest fs,args=.list x::rest→fr=some fs→ZwB P (f-1000000) fs.e fs.sz x fs.r rest r
def Ctr.OK(P:Program)(c:Ctr):Prop:=∀pa args r fr,c.run pa args=some (true,r,fr)→Zrn P c.f args r fr
def Zl4:List Ctr→List Bool→Con
 |[],_,_,_=>none
 |c::l,pa,f,args=>match Nat.beq c.f f with
  |true=>(match Nat.blt f 1000000 with
   |true=>(match c.run pa args with |some r=>some r |none=>Zl4 l pa f args)
   |false=>none)
  |false=>Zl4 l pa f args
def ZtI:List Ctr→List Bool→FuncId→List AV→Option (Bool×AV×Option Fresh)
 |[],_,_,_=>none
 |c::l,pa,f,args=>match Nat.beq c.f (f+1000000)with
  |true=>(match c.run pa args with |some r=>some r |none=>ZtI l pa f args)
  |false=>ZtI l pa f args
def Zze:List Ctr→FuncId→Nat
 |[],_=>0
 |c::l,f=>match Nat.beq c.f f with |true=>c.n |false=>Zze l f
def Zaq(P:Program):List Ctr→Prop
 |[]=>True
 |c::l=>c.OK P∧Zaq P l
theorem Zfy{P:Program} :∀ {l:List Ctr},Zaq P l→∀pa,ZeK P (Zl4 l pa)
 |[],_,pa=>fun f args r fr h=>by cases h
 |c::l,⟨h1,h2⟩,pa=>fun f args r fr h=>by
  simp only[Zl4]at h
  split at h
  ·rename_i e
   have e:c.f=f:=Nat.eq_of_beq_eq_true e
   split at h
   ·rename_i hlt
    split at h
    ·rename_i q hq
     cases h
     have:=h1 _ _ _ _ hq
     unfold Zrn at this
     rw[e,hlt]at this
     exact this
    ·exact Zfy h2 pa f args r fr h
   ·cases h
  ·exact Zfy h2 pa f args r fr h
theorem Zhx{P:Program} :∀ {l:List Ctr},Zaq P l→∀ {pa:List Bool} {f:FuncId} {x:Row} {rest:List AV} {r:AV} {fs:Fresh},ZtI l pa f (.list x::rest)=some (true,r,some fs)→ZwB P f fs.e fs.sz x fs.r rest r
 |[],_,pa,f,x,rest,r,fs,h=>by cases h
 |c::l,⟨h1,h2⟩,pa,f,x,rest,r,fs,h=>by
  simp only[ZtI]at h
  split at h
  ·rename_i e
   have e:c.f=f+1000000:=Nat.eq_of_beq_eq_true e
   split at h
   ·rename_i q hq
    cases h
    have:=h1 _ _ _ _ hq
    unfold Zrn at this
    have hb:Nat.blt c.f 1000000=false:=Zbz (by rw[e];exact Nat.le_add_left _ _)
    rw[hb]at this
    have h3:=this x rest fs rfl rfl
    rw[e,Nat.add_sub_cancel]at h3
    exact h3
   ·exact Zhx h2 h
  ·exact Zhx h2 h
theorem Zik{α:Type}(t:Nat)(x y:α):∀l:List (Nat×α),Zco (Zco l t x) t y=Zco l t y
 |[]=>by have:Nat.beq t t=true:=by simp
         simp only[Zco,this]
 |(i,z)::l=>by
  have ht:Nat.beq t t=true:=by simp
  cases hb:Nat.beq i t with
  |true=>simp only[Zco,hb]
  |false=>cases hl:Nat.blt t i with
   |true=>simp only[Zco,hb,hl,ht]
   |false=>simp only[Zco,hb,hl,Zik t x y l]
def ZrI:AV→Option Nat
 | .slc _ _ k n c=>(match Nat.beq k 0,c with |true,none=>some n |_,_=>none)
 |_=>none
theorem ZlU{r:AV}{n a i:Nat}(h:ZrI r=some n):Zt3 a i r=.slc a i 0 n none:=by
 unfold ZrI at h
 split at h
 ·rename_i b j k m c
  split at h
  ·rename_i hk
   have:=Nat.eq_of_beq_eq_true hk
   subst this
   cases h;rfl
  ·cases h
 ·cases h
def Zyn(A:Ar)(l:List Ctr)(pa:List Bool)(env:ZeW)(h:Zaa)(o:AOp):Option (Bool×AV×Zaa):=
 match o.g with
 |some _=>none
 |none=>match o.k with
  | .ncall _ _ g args=>match args.map (ZaW (Zay env))with
    |v::rest=>match v with
     | .row a i=>match blk h a i with
       | .row e sz x=>match AV.pureL rest&&x.pure with
         |true=>match ZtI l pa g (.list x::rest)with
          |some (b,r,some fs)=>match fs.r.pure&&Zr2 r with
           |true=>(match ZrI r,Zjn a,o.d with
            |some n,false,some _=>some (Zah (Nat.blt 0 (x.len A))<|Zah (Nat.ble n (fs.r.len A)) (Zah b (Zah (Nat.beq fs.e e) (Nat.beq fs.sz sz))), .row a (nxt (ZaB h a i (.row e sz fs.r)) a),Zaf (ZaB (ZaB h a i (.row e sz fs.r)) a i .dead) a (.row e sz (fs.r.sub A 0 n)))
            |_,_,_=>some (Zah (Nat.blt 0 (x.len A))<|Zah b (Zah (Nat.beq fs.e e) (Nat.beq fs.sz sz)),Zt3 a i r,ZaB h a i (.row e sz fs.r)))
           |false=>none
          |_=>none
         |false=>none
       |_=>none
     |_=>none
    |[]=>none
  |_=>none
theorem ZsW{C:Ctx}{l:List Ctr}{pa:List Bool}{h h':Zaa}{Q:List AFrame→Zaa→Prop}{f:AFrame}{fs:List AFrame}{k:List AItem}{o:AOp}{os:List AOp}{r:AV}(hl:Zaq C.P l)(hr:f.ret=false)(ht:f.todo=.inReg (o::os)::k)(hm:Zyn std l pa f.env h o=some (true,r,h'))
 (hq:Ev C ({ f with env:=ZlM f.env o.d r,todo:=.inReg os::k } ::fs) h' Q):Ev C (f::fs) h Q:=by
 unfold Zyn at hm
 split at hm
 ·cases hm
 ·rename_i hg
  split at hm
  ·rename_i mm a0 g args hk
   split at hm
   ·rename_i v rest ha
    split at hm
    ·rename_i a i
     split at hm
     ·rename_i e sz x hb
      split at hm
      ·rename_i hp
       split at hm
       ·rename_i b r0 fs0 hc
        split at hm
        ·rename_i hp2
         simp only[Bool.and_eq_true]at hp hp2
         split at hm
         ·rename_i n d hpm hfz hd
          simp only[Option.some.injEq,Prod.mk.injEq,std_and]at hm
          obtain⟨⟨hxn,hle,rfl,he,hs⟩,rfl,rfl⟩:=hm
          have hxn:0<x.elems.length:=by rw[Row.len_std]at hxn;simpa[std]using hxn
          have he:fs0.e=e:=by simpa[std]using he
          have hs:fs0.sz=sz:=by simpa[std]using hs
          have hle:n≤fs0.r.elems.length:=by rw[Row.len_std]at hle;simpa[std]using hle
          have hmu:=Zhx hl hc
          rw[he,hs]at hmu
          have hnd:blk h a i≠ .dead:=by rw[hb];simp
          refine Zlh hr ht hg hk ha hb hxn hp.2 hp2.1 hp.1 hp2.2 hmu ?_
          rw[ZlU hpm]
          refine Zpq (t:=d) (a:=a) (i:=i) (e:=e) (sz:=sz) (n:=n) (r:=fs0.r) ?_ (by rw[ZbF hnd,if_pos ⟨rfl,rfl⟩]) hfz hle ?_
          ·simp only[hd,ZlM,Zbm,if_true]
          ·simp only[hd,ZlM,Zik]at hq⊢
           exact hq
         ·simp only[Option.some.injEq,Prod.mk.injEq,std_and]at hm
          obtain⟨⟨hxn,rfl,he,hs⟩,rfl,rfl⟩:=hm
          have hxn:0<x.elems.length:=by rw[Row.len_std]at hxn;simpa[std]using hxn
          have he:fs0.e=e:=by simpa[std]using he
          have hs:fs0.sz=sz:=by simpa[std]using hs
          have hmu:=Zhx hl hc
          rw[he,hs]at hmu
          exact Zlh hr ht hg hk ha hb hxn hp.2 hp2.1 hp.1 hp2.2 hmu hq
        ·cases hm
       ·cases hm
      ·cases hm
     ·cases hm
    ·cases hm
   ·cases hm
  ·cases hm
def ZqW(o:AOp)(env:ZeW):Option FuncId:=
 match o.k with
 | .ncall _ _ f _=>some f
 | .ncallv _ _ x _=>(match Zq9 (ZaW (Zay env) x) []with |some (f,_)=>some f |none=>none)
 |_=>none
def Ziu(l:List Ctr)(o:AOp)(env:ZeW)(pa:List Bool):List Bool:=
 match ZqW o env with
 |none=>pa
 |some f=>match ZeR o env with
  |some g=>(match g with |true=>pa.drop (Zze l f) |false=>pa)
  |none=>pa
def ZhG(A:Ar)(T:Tab)(l:List Ctr):List AOp→List Nat→List Bool→List Bool→ZeW→Zaa→Option (List Bool×List Bool×ZeW×Zaa×List Foot)
 |[],_,pa,acc,env,h=>some (pa,acc,env,h,[])
 |o::os,st,pa,acc,env,h=>match Zh5 A st o env pa acc with
  |none=>none
  |some (pa1,acc1,env1,st1)=>match ZeE A T (Zl4 l pa1) o env1 h with
   |none=>none
   |some (b,r,h1)=>match ZhG A T l os (ZBw o.d st1) (Ziu l o env1 pa1) (b::acc1) (ZlM env1 o.d r) h1 with
    |none=>none
    |some (pa2,acc2,env2,h2,zs)=>some (pa2,acc2,env2,h2,Zhv env1 h o::zs)
def Zkm(fr:List (Nat×Nat))(zs:List Foot):Bool:=match fr with |[]=>true |fr=>Zlv zs fr
abbrev Zs8:=Option (List Bool×List Bool×AFrame×List AFrame×Zaa)
def ZiK(pa:List Bool):ZnK→Zs8
 |none=>none
 |some (acc,f,fs,h)=>some (pa,acc,f,fs,h)
def Zz1(A:Ar)(T:Tab)(l:List Ctr)(pa acc:List Bool)(f:AFrame)(k:List AItem)(fs:List AFrame)(h:Zaa)(fr:List (Nat×Nat))(ops:List AOp):Zs8:=
 match Zij fr with
 |true=>none
 |false=>match Zin ops with
  |false=>(match ZhG A T l ops [] pa acc f.env h with
   |none=>none
   |some (pa',acc',env',h',zs)=>match Zkm fr zs with
    |true=>some (pa',acc',{ f with env:=env',todo:=k },fs,h')
    |false=>none)
  |true=>match ZhG A T l (ops.take (Zb3 ops)) [] pa acc f.env h with
   |none=>none
   |some (pa',acc',env',h',zs)=>match Zkm fr zs with
    |true=>some (pa',acc',{ f with env:=env',todo:=.inReg (ops.drop (Zb3 ops))::k },fs,h')
    |false=>none
def opG(A:Ar)(T:Tab)(l:List Ctr)(pa acc:List Bool)(o:AOp)(os:List AOp)(f:AFrame)(k:List AItem)(fs:List AFrame)(h:Zaa):Zs8:=
 match Zyn A l pa f.env h o with
 |some (b,r,h2)=>some (pa,b::acc,{ f with env:=ZlM f.env o.d r,todo:=.inReg os::k },fs,h2)
 |none=>match Zh5 A [] o f.env pa acc with
 |none=>none
 |some (pa1,acc1,env1,_)=>match opA A T (Zl4 l pa1) acc1 o os { f with env:=env1 } k fs h with
  |none=>none
  |some (acc2,f2,fs2,h2)=>some (Ziu l o env1 pa1,acc2,f2,fs2,h2)
def ZtD(pa acc:List Bool)(f:AFrame)(k:List AItem)(fs:List AFrame)(h:Zaa)(v:AV)(a b:ACode):Zs8:=
 match v with
 | .bool t=>(match pa with
   |p::ps=>some (ps,asB p t::acc,{ f with todo:=.code (ZxL p a b)::k },fs,h)
   |[]=>none)
 |_=>none
def Zpa(A:Ar)(T:Tab)(l:List Ctr)(pa acc:List Bool)(f:AFrame)(fs:List AFrame)(h:Zaa):Zs8:=
 match f.ret with
 |true=>ZiK pa (Zfe A T (Zl4 l pa) acc f fs h)
 |false=>match f.todo with
  |[]=>ZiK pa (Zfe A T (Zl4 l pa) acc f fs h)
  |it::k=>match it with
   | .inReg os=>(match os with
     |[]=>ZiK pa (Zfe A T (Zl4 l pa) acc f fs h)
     |o::os=>opG A T l pa acc o os f k fs h)
   | .code c=>(match c with
     | .cond c a b=>ZtD pa acc f k fs h (ZaW (Zay f.env) c) a b
     | .reg d ops=>(match d with
       |some fr=>Zz1 A T l pa acc f k fs h fr ops
       |none=>ZiK pa (Zfe A T (Zl4 l pa) acc f fs h))
     |_=>ZiK pa (Zfe A T (Zl4 l pa) acc f fs h))
   |_=>ZiK pa (Zfe A T (Zl4 l pa) acc f fs h)
def ZfT(A:Ar)(T:Tab)(l:List Ctr):Nat→List Bool→List Bool→AFrame→List AFrame→Zaa→Option ASt
 |0,_,acc,f,fs,h=>some (acc,f,fs,h)
 |n+1,pa,acc,f,fs,h=>match Zpa A T l pa acc f fs h with
  |none=>none
  |some (pa',acc',f',fs',h')=>ZfT A T l n pa' acc' f' fs' h'
section
variable {C:Ctx}{T:Tab}{l:List Ctr}{h h':Zaa}{f f':AFrame}{fs fs':List AFrame}{k:List AItem}{Q:List AFrame→Zaa→Prop}{pa pa' acc acc':List Bool}
theorem ZdO:∀ {os:List AOp} {st:List Nat} {pa pa' acc acc':List Bool} {env env':ZeW} {h h':Zaa} {zs:List Foot},ZhG std T l os st pa acc env h=some (pa',acc',env',h',zs)→(∀b∈acc',b=true)→∀b∈acc,b=true
 |[],st,pa,pa',acc,acc',env,env',h,h',zs,hd,hb=>by simp only[ZhG,Option.some.injEq,Prod.mk.injEq]at hd;obtain⟨_,rfl,_⟩:=hd;exact hb
 |o::os,st,pa,pa',acc,acc',env,env',h,h',zs,hd,hb=>by
  simp only[ZhG]at hd
  split at hd
  ·cases hd
  ·rename_i hs
   split at hd
   ·cases hd
   ·split at hd
    ·cases hd
    ·rename_i hr
     cases hd
     have:=ZdO hr hb
     exact(ZeF hs (fun b hb'=>this b (List.mem_cons_of_mem _ hb'))).2
theorem ZdF(hT:Zbd C.P T)(hl:Zaq C.P l):∀ {os:List AOp} {st:List Nat} {pa pa' acc acc':List Bool} {env env':ZeW} {h h':Zaa} {zs:List Foot},ZhG std T l os st pa acc env h=some (pa',acc',env',h',zs)→(∀b∈acc',b=true)→zs.map (·.o)=os∧Runs C.P zs (Zay env) h (Zay env') h'
 |[],st,pa,pa',acc,acc',env,env',h,h',zs,hd,_=>by simp only[ZhG,Option.some.injEq,Prod.mk.injEq]at hd;obtain⟨_,_,rfl,rfl,rfl⟩:=hd;exact⟨rfl, .nil _ _⟩
 |o::os,st,pa,pa',acc,acc',env,env',h,h',zs,hd,hb=>by
  simp only[ZhG]at hd
  split at hd
  ·cases hd
  ·rename_i pa1 acc1 env1 st1 hs
   split at hd
   ·cases hd
   ·rename_i b r h1 ho
    split at hd
    ·cases hd
    ·rename_i hr
     cases hd
     have ha:=ZdO hr hb
     obtain⟨i1,i2⟩:=ZdF hT hl hr hb
     obtain⟨e,_⟩:=ZeF hs (fun b hb'=>ha b (List.mem_cons_of_mem _ hb'))
     subst e
     have hbt:=ha b List.mem_cons_self
     subst hbt
     rw[ZcE]at i2
     have:=Zcg hT (Zfy hl pa1) ho
     exact⟨by simp[Zhv,i1], .cons ⟨this,fun x hx p hp=>by simp only[Zhv,List.mem_flatMap];exact⟨x,hx,hp⟩,Zix this⟩ i2⟩
theorem ZfC{fr:List (Nat×Nat)}{zs:List Foot}(hb:Zkm fr zs=true):∀(i j:Nat) (x z:Foot),(i,j)∈fr→zs[i]? =some x→zs[j]? =some z→Zme x z:=by
 unfold Zkm at hb
 split at hb
 ·intro i j x z hm;simp at hm
 ·exact Zed hb
def ZmP(C:Ctx)(Q:List AFrame→Zaa→Prop)(acc:List Bool)(f:AFrame)(fs:List AFrame)(h:Zaa)(r:Zs8):Prop:=
 ∀pa' acc' f' fs' h',r=some (pa',acc',f',fs',h')→(∀b∈acc',b=true)→Ev C (f'::fs') h' Q→(∀b∈acc,b=true)∧Ev C (f::fs) h Q
theorem ZjX{r:ZnK}(hs:Zgc C Q acc f fs h r):ZmP C Q acc f fs h (ZiK pa r):=by
 intro pa' acc' f' fs' h' he hb hq
 cases r with
 |none=>cases he
 |some p=>obtain⟨a,b,c,d⟩:=p;cases he;exact hs _ _ _ _ rfl hb hq
theorem ZfR(hfol:C.P.follows .mixedOrders=true)(hT:Zbd C.P T)(hl:Zaq C.P l):ZmP C Q acc f fs h (Zpa std T l pa acc f fs h):=by
 have base:ZmP C Q acc f fs h (ZiK pa (Zfe std T (Zl4 l pa) acc f fs h)):=ZjX (Zgl hfol hT (Zfy hl pa))
 unfold Zpa
 split
 ·exact base
 ·rename_i hr
  split
  ·exact base
  ·rename_i it k ht
   split
   ·split
    ·exact base
    ·rename_i o os
     intro pa' acc' f' fs' h' he hb hq
     unfold opG at he
     split at he
     ·rename_i bm rm hm2 hmr
      cases he
      have hbt:=hb bm List.mem_cons_self
      subst hbt
      exact⟨fun b hb'=>hb b (List.mem_cons_of_mem _ hb'),ZsW hl hr ht hmr hq⟩
     split at he
     ·cases he
     ·rename_i pa1 acc1 env1 st1 hs
      split at he
      ·cases he
      ·rename_i acc2 f2 fs2 h2 ho
       cases he
       have key:(∀b∈acc1,b=true)→env1=f.env∧∀b∈acc,b=true:=fun h1=>ZeF hs h1
       have hsd:=ZiJ (Q:=Q) hT (Zfy hl pa1) (f:={ f with env:=env1 }) (acc:=acc1) (fs:=fs) (h:=h) (k:=k) (o:=o) (os:=os) hr ht _ _ _ _ ho hb hq
       obtain⟨e,h3⟩:=key hsd.1
       refine⟨h3,?_⟩
       have:=hsd.2
       rw[e]at this
       exact this
   ·rename_i c
    split
    ·rename_i c a b
     intro pa' acc' f' fs' h' he hb hq
     unfold ZtD at he
     split at he
     ·rename_i t hc
      split at he
      ·rename_i p ps
       cases he
       have:=ZpB (hb _ List.mem_cons_self)
       subst this
       exact⟨fun b hb'=>hb b (List.mem_cons_of_mem _ hb'),ZjO hr ht hc (by cases t<;>exact hq)⟩
      ·cases he
     ·cases he
    ·split
     ·rename_i ops fr
      intro pa' acc' f' fs' h' he hb hq
      unfold Zz1 at he
      split at he
      ·cases he
      rename_i hany
      split at he
      ·rename_i hni
       split at he
       ·cases he
       ·rename_i pa1 acc1 env1 h1 zs hd
        split at he
        ·rename_i hfree
         cases he
         obtain⟨d1,d2⟩:=ZdF hT hl hd hb
         have hc:=Zet hni
         refine⟨ZdO hd hb,ZhH hfol hany hr ht (by rw[hc,List.take_length];exact d1) (fun i j x z hm hx hz _=>ZfC hfree i j x z hm hx hz) d2 (fun _ _ e=>e) ?_⟩
         rw[hc,List.drop_length]
         exact ZfG hr rfl hq
        ·cases he
      ·split at he
       ·cases he
       ·rename_i pa1 acc1 env1 h1 zs hd
        split at he
        ·rename_i hfree
         cases he
         obtain⟨d1,d2⟩:=ZdF hT hl hd hb
         exact⟨ZdO hd hb,ZhH hfol hany hr ht d1 (fun i j x z hm hx hz _=>ZfC hfree i j x z hm hx hz) d2 (fun _ _ e=>e) hq⟩
        ·cases he
     ·exact base
    ·exact base
   ·exact base
theorem Zbk(hfol:C.P.follows .mixedOrders=true)(hT:Zbd C.P T)(hl:Zaq C.P l):∀(n:Nat) {pa acc:List Bool} {f:AFrame} {fs:List AFrame} {h:Zaa},Zgc C Q acc f fs h (ZfT std T l n pa acc f fs h)
 |0,pa,acc,f,fs,h=>by
  intro acc' f' fs' h' he hb hq
  simp only[ZfT,Option.some.injEq,Prod.mk.injEq]at he
  obtain⟨rfl,rfl,rfl,rfl⟩:=he
  exact⟨hb,hq⟩
 |n+1,pa,acc,f,fs,h=>by
  intro acc' f' fs' h' he hb hq
  simp only[ZfT]at he
  split at he
  ·cases he
  ·rename_i pa1 acc1 f1 fs1 h1 hs
   obtain⟨hb1,hq1⟩:=Zbk hfol hT hl n _ _ _ _ he hb hq
   exact ZfR hfol hT hl _ _ _ _ _ hs hb1 hq1
end
end Go.Proofs.YtkeoeooghhjibaaGreatDoor
/- Tracked blocks are named anew: those that nothing names are dropped, the others are counted from 0. No condition. -/
namespace Go.Proofs.YtkeoeooghhjibaaGreatDoor
open Go.RowKit (Below)
mutual
def AV.ren(σ:Nat→Nat→Option Nat):AV→AV
 | .ptr a i k o=>match σ a i with |some j=>.ptr a j k o |none=>.top
 | .row a i=>match σ a i with |some j=>.row a j |none=>.top
 | .slc a i k n c=>match σ a i with |some j=>.slc a j k n c |none=>.top
 | .aslc a i k o n=>match σ a i with |some j=>.aslc a j k o n |none=>.top
 | .yld a i=>match σ a i with |some j=>.yld a j |none=>.top
 | .mp a i=>match σ a i with |some j=>.mp a j |none=>.top
 | .emp=>.emp
 | .agg r=>.agg (Row.ren σ r)
 | .tup xs=>.tup (AV.renL σ xs)
 | .fn f xs=>.fn f (AV.renL σ xs)
 | .mth f x=>.mth f (AV.ren σ x)
 | .int k n=>.int k n
 | .bool b=>.bool b
 | .str s=>.str s
 | .flt k b=>.flt k b
 | .val v=>.val v
 | .nils=>.nils
 | .list r=>.list r
 | .eptr x o=>.eptr x o
 | .und=>.und
 | .top=>.top
def AV.renL(σ:Nat→Nat→Option Nat):List AV→List AV
 |[]=>[]
 |x::xs=>AV.ren σ x::AV.renL σ xs
def Row.ren(σ:Nat→Nat→Option Nat):Row→Row
 | .gen xs=>.gen (AV.renL σ xs)
 | .ints k l=>.ints k l
 | .flts k l=>.flts k l
 | .big sh xs=>.big sh xs
end
section
variable {σ:Nat→Nat→Option Nat}
theorem Zfo:∀xs:List AV,AV.renL σ xs=xs.map (AV.ren σ)
 |[]=>rfl
 |x::xs=>by rw[AV.renL,Zfo xs];rfl
theorem ZiG(s:Sh)(v:AV):AV.ren σ (s.view1 v)=s.view1 v:=by cases s<;>rfl
theorem Zi8:∀(ss:List Sh) (i:Nat) (v:AV),AV.renL σ (ZdG ss i v)=ZdG ss i v
 |[],_,_=>rfl
 |s::ss,i,v=>by rw[ZdG,AV.renL,ZiG,Zi8 ss]
theorem Zpv(s:Sh)(v:AV):AV.ren σ (s.view v)=s.view v:=by
 cases s with
 |agg ss=>simp only[Sh.view,AV.ren,Row.ren,Zi8]
 |_=>simp only[Sh.view];exact ZiG _ _
theorem ZbD(r:Row):(Row.ren σ r).elems=r.elems.map (AV.ren σ):=by
 cases r with
 |gen xs=>rw[Row.ren,Row.elems,Row.elems,Zfo]
 |ints k l=>rw[Row.ren,Row.elems,List.map_map];rfl
 |flts k l=>rw[Row.ren,Row.elems,List.map_map];rfl
 |big sh xs=>rw[Row.ren,Row.elems,List.map_map];exact List.map_congr_left fun v _=>(Zpv sh v).symm
theorem ZkQ(v:AV):(AV.ren σ v).flat=v.flat.map (AV.ren σ):=by
 cases v with
 |agg r=>simp only[AV.ren,AV.flat,ZbD]
 |ptr a i k o=>simp only[AV.ren];split<;>simp_all[AV.flat,AV.ren]
 |row a i=>simp only[AV.ren];split<;>simp_all[AV.flat,AV.ren]
 |slc a i k n c=>simp only[AV.ren];split<;>simp_all[AV.flat,AV.ren]
 |aslc a i k o n=>simp only[AV.ren];split<;>simp_all[AV.flat,AV.ren]
 |yld a i=>simp only[AV.ren];split<;>simp_all[AV.flat,AV.ren]
 |mp a i=>simp only[AV.ren];split<;>simp_all[AV.flat,AV.ren]
 |_=>rfl
theorem Zj9(xs:List AV):Zac (xs.map (AV.ren σ))=(Zac xs).map (AV.ren σ):=by
 induction xs with
 |nil=>rfl
 |cons x xs ih=>rw[List.map_cons,Zav,Zav,List.map_append,ih,ZkQ]
end
structure Good (h:Zaa) (L:Lay) (h':Zaa) (L':Lay) (σ:Nat→Nat→Option Nat):Prop where
 fwd:∀a i j,σ a i=some j→j<nxt h' a∧(∀sz,(blk h' a j).tag=some sz→(blk h a i).tag=some sz)∧L'.loc a j=L.loc a i∧L'.size a j=L.size a i
 bwd:∀a j,Plc h' L' a j→∃i,Plc h L a i∧L'.loc a j=L.loc a i
section
variable {C:Ctx}{h h':Zaa}{L L':Lay}{w:World}{σ:Nat→Nat→Option Nat}{ok ok':Nat→Prop}
theorem Good.okk(G:Good h L h' L' σ){g:Nat}(ho:Zam C h L g):Zam C h' L' g:=by
 rcases ho with ho |⟨h1,h2⟩
 ·exact .inl ho
 ·refine .inr ⟨h1,fun a j ht e=>?_⟩
  obtain⟨i,hi,hl⟩:=G.bwd a j ht
  exact h2 a i hi (hl.symm.trans e)
theorem Live.ren(G:Good h L h' L' σ){a i j:Nat}(hs:σ a i=some j){p p':Nat→Nat×Nat→Prop}(hl:Live h L a i p)(hp:∀sz,L'.size a j=L.size a i→p (L.loc a i) sz→p' (L.loc a i) sz):Live h' L' a j p':=by
 obtain⟨g1,g2,g3,g4⟩:=G.fwd a i j hs
 exact⟨g1,fun sz ht=>by rw[g3];exact hp sz g4 (hl.2 sz (g2 sz ht))⟩
theorem Rel.ren(G:Good h L h' L' σ)(hok:∀g,ok g→ok' g){av:AV}{v:Value}(hr:Rel w ok h L av v):Rel w ok' h' L' (AV.ren σ av) v:=by
 induction hr with
 |int k n=>exact .int k n
 |bool b=>exact .bool b
 |str x=>exact .str x
 |flt k b=>exact .flt k b
 |val v=>exact .val v
 |nils=>exact .nils
 |nil r a c hr=>exact .nil r a c hr
 |list r xs hx ad n cap sz cs hb ho hn hcap hsz hl h1 hc hp hr ih=>
  exact .list r xs hx ad n cap sz cs hb (hok _ ho) hn hcap hsz hl h1 hc hp (fun j u v hu hv=>((hr j u v hu hv).okmono (fun g _ ho=>hok g ho)).pure (AV.pureL_mem hp hu))
 |eptr x off ad cs hs hb ho hl h1 hc hp hr ih=>
  exact .eptr x off ad cs hs hb (hok _ ho) hl h1 hc hp (fun j u v hu hv=>((hr j u v hu hv).okmono (fun g _ ho=>hok g ho)).pure (AV.pureL_mem hp hu))
 |agg r xs hx vs hl h1 hr ih=>
  rw[AV.ren]
  refine .agg _ (xs.map (AV.ren σ)) (by rw[ZbD,hx]) vs (by simpa using hl) h1 (fun j u v hu hv=>?_)
  rw[List.getElem?_map]at hu
  cases hxj:xs[j]? with
  |none=>rw[hxj]at hu;cases hu
  |some z=>rw[hxj]at hu;simp only[Option.map_some,Option.some.injEq]at hu;subst hu;exact ih j z v hxj hv
 |tup xs vs hl hr ih=>
  rw[AV.ren,Zfo]
  refine .tup _ vs (by simpa using hl) (fun j u v hu hv=>?_)
  rw[List.getElem?_map]at hu
  cases hxj:xs[j]? with
  |none=>rw[hxj]at hu;cases hu
  |some z=>rw[hxj]at hu;simp only[Option.map_some,Option.some.injEq]at hu;subst hu;exact ih j z v hxj hv
 |mth f x v hr ih=>exact .mth f _ v ih
 |fn f xs vs hl hr ih=>
  rw[AV.ren,Zfo]
  refine .fn f _ vs (by simpa using hl) (fun j u v hu hv=>?_)
  rw[List.getElem?_map]at hu
  cases hxj:xs[j]? with
  |none=>rw[hxj]at hu;cases hu
  |some z=>rw[hxj]at hu;simp only[Option.map_some,Option.some.injEq]at hu;subst hu;exact ih j z v hxj hv
 |ptr a i k off g o hl=>
  rw[AV.ren]
  cases hs:σ a i with
  |none=>exact .top _
  |some j=>exact .ptr a j k off g o (hl.ren G hs fun _ _ h=>h)
 |row a i ad n c hn hl=>
  rw[AV.ren]
  cases hs:σ a i with
  |none=>exact .top _
  |some j=>exact .row a j ad n c hn (hl.ren G hs fun _ e h=>by rw[e];exact h)
 |slc a i k n cap ad c hn hl=>
  rw[AV.ren]
  cases hs:σ a i with
  |none=>exact .top _
  |some j=>exact .slc a j k n cap ad c hn (hl.ren G hs fun _ e h=>by rw[e];exact h)
 |aslc a i k off n g o c hn hl=>
  rw[AV.ren]
  cases hs:σ a i with
  |none=>exact .top _
  |some j=>exact .aslc a j k off n g o c hn (hl.ren G hs fun _ _ h=>h)
 |yld a i g hl=>
  rw[AV.ren]
  cases hs:σ a i with
  |none=>exact .top _
  |some j=>exact .yld a j g (hl.ren G hs fun _ _ h=>h)
 |mp a i g hl=>
  rw[AV.ren]
  cases hs:σ a i with
  |none=>exact .top _
  |some j=>exact .mp a j g (hl.ren G hs fun _ _ h=>h)
 |emp ad=>exact .emp ad
 |und=>exact .und
 |top v=>exact .top v
def Zfw(σ:Nat→Nat→Option Nat):ZeW→ZeW
 |[]=>[]
 |(t,v)::l=>(t,AV.ren σ v)::Zfw σ l
theorem Zf9:∀(env:ZeW) (t:Nat),Zay (Zfw σ env) t=(Zay env t).map (AV.ren σ)
 |[],t=>rfl
 |(i,x)::l,t=>by
  simp only[Zfw,Zay]
  split
  ·rfl
  ·exact Zf9 l t
theorem EnvRel.ren(G:Good h L h' L' σ){env:ZeW}{tmps:Array Value}(he:EnvRel C h L w env tmps):EnvRel C h' L' w (Zfw σ env) tmps:=by
 intro t av ht
 rw[Zf9]at ht
 cases hx:Zay env t with
 |none=>rw[hx]at ht;cases ht
 |some u=>rw[hx]at ht;simp only[Option.map_some,Option.some.injEq]at ht;subst ht;exact(he t u hx).ren G (fun g ho=>G.okk ho)
def Blk.ren(σ:Nat→Nat→Option Nat):Blk→Blk
 | .row e sz r=>.row e sz (Row.ren σ r)
 | .lp l=>.lp { l with env:=Zfw σ l.env }
 | .dfr=>.dfr
 | .mp ks=>.mp ks
 | .dead=>.dead
theorem Blk.ren_tag(b:Blk):(b.ren σ).tag=b.tag:=by
 cases b with
 |row e sz r=>simp only[Blk.ren,Blk.tag,ZbD,List.length_map]
 |_=>rfl
theorem BRel.ren(G:Good h L h' L' σ){g n:Nat}{b:Blk}(hb:BRel C h L w g n b):BRel C h' L' w g n (b.ren σ):=by
 cases b with
 |row e sz r=>
  obtain⟨h0,h1,h2,h3,hcur⟩:=hb
  refine⟨h0,h1,by rw[ZbD,List.length_map];exact h2,fun x hx=>?_,fun hn=>?_⟩
  ·rw[ZbD]at hx
   obtain⟨y,hy,rfl⟩:=List.mem_map.1 hx
   rw[ZkQ,List.length_map];exact h3 y hy
  ·obtain⟨cur,h4,h5,h6,h7⟩:=hcur hn
   refine⟨cur,h4,h5,?_,by rw[ZbD,List.length_map];exact h7⟩
   rw[ZbD,List.length_map,Zj9]
   refine⟨by rw[List.length_map];exact h6.1,fun j u v hu hv=>?_⟩
   rw[List.getElem?_map]at hu
   cases hx:(Zac r.elems)[j]? with
   |none=>rw[hx]at hu;cases hu
   |some z=>rw[hx]at hu;simp only[Option.map_some,Option.some.injEq]at hu;subst hu;exact(h6.2 j z v hx hv).ren G (fun g ho=>G.okk ho)
 |lp l=>
  obtain⟨r,h1,h2,h3,h4,h5,h6,h7,h8,h9⟩:=hb
  exact⟨r,h1,h2,h3,h4,h5.ren G,h6,h7,h8,h9⟩
 |dfr=>exact hb
 |mp ks=>exact hb
 |dead=>trivial
def ZoS(σ:Nat→Nat→Option Nat):AItem→Option AItem
 | .inRF a i=>match σ a i with |some j=>some (.inRF a j) |none=>none
 | .endRF a i=>match σ a i with |some j=>some (.endRF a j) |none=>none
 | .code c=>some (.code c)
 | .inBlock i=>some (.inBlock i)
 | .inLoop b=>some (.inLoop b)
 | .inReg os=>some (.inReg os)
 | .beginRound=>some .beginRound
def ZgW(σ:Nat→Nat→Option Nat):List AItem→Option (List AItem)
 |[]=>some []
 |x::k=>match ZoS σ x with
  |none=>none
  |some y=>match ZgW σ k with |some l=>some (y::l) |none=>none
def ZoV(σ:Nat→Nat→Option Nat):List (Nat×Nat)→Option (List (Nat×Nat))
 |[]=>some []
 |(a,i)::k=>match σ a i with
  |none=>none
  |some j=>match ZoV σ k with |some l=>some ((a,j)::l) |none=>none
def Zp1(σ:Nat→Nat→Option Nat):Option (Nat×Nat)→Option (Option (Nat×Nat))
 |none=>some none
 |some (a,i)=>match σ a i with |some j=>some (some (a,j)) |none=>none
def ZsH:AItem→Bool
 | .inRF _ _=>false
 | .endRF _ _=>false
 |_=>true
def ZdU:List AItem→Bool
 |[]=>true
 |x::k=>match ZsH x with |true=>ZdU k |false=>false
def Zyy(σ:Nat→Nat→Option Nat)(f:AFrame):Option AFrame:=
 match ZoV σ f.defs with
 |none=>none
 |some ds=>match Zp1 σ f.rnd with
  |none=>none
  |some rd=>match ZdU f.todo with
   |true=>some { f with env:=Zfw σ f.env,defs:=ds,rnd:=rd }
   |false=>match ZgW σ f.todo with
    |none=>none
    |some td=>some { f with env:=Zfw σ f.env,todo:=td,defs:=ds,rnd:=rd }
def ZnH(σ:Nat→Nat→Option Nat):List AFrame→Option (List AFrame)
 |[]=>some []
 |f::fs=>match Zyy σ f with
  |none=>none
  |some g=>match ZnH σ fs with |some gs=>some (g::gs) |none=>none
theorem ItRel.ren{P:Program}{N:Nat}(G:Good h L h' L' σ){x x':AItem}{y:Item}(hr:ZoS σ x=some x')(hx:ItRel P h L N x y):ItRel P h' L' N x' y:=by
 cases hx with
 |code a c hm=>cases hr;exact .code a c hm
 |inBlock id=>cases hr;exact .inBlock id
 |inLoop a c hm=>cases hr;exact .inLoop a c hm
 |inReg ops k aos hm=>cases hr;exact .inReg ops k aos hm
 |beginRound=>cases hr;exact .beginRound
 |inRF a i g hl=>
  simp only[ZoS]at hr
  split at hr
  ·rename_i j hs;cases hr;exact .inRF a j g (hl.ren G hs fun _ _ h=>h)
  ·cases hr
 |endRF a i g hl=>
  simp only[ZoS]at hr
  split at hr
  ·rename_i j hs;cases hr;exact .endRF a j g (hl.ren G hs fun _ _ h=>h)
  ·cases hr
theorem ItsRel.ren{P:Program}{N:Nat}(G:Good h L h' L' σ):∀ {x x':List AItem} {y:List Item},ZgW σ x=some x'→ItsRel P h L N x y→ItsRel P h' L' N x' y
 |[],x',y,hr,hx=>by cases hx;cases hr;exact .nil
 |x::k,x',y,hr,hx=>by
  cases hx with
  |cons hx hk=>
   simp only[ZgW]at hr
   split at hr
   ·cases hr
   ·rename_i z hz
    split at hr
    ·rename_i l hl;cases hr;exact .cons (hx.ren G hz) (ItsRel.ren G hl hk)
    ·cases hr
theorem ZiN:∀ {x:List AItem},ZdU x=true→ZgW σ x=some x
 |[],_=>rfl
 |x::k,hp=>by
  simp only[ZdU]at hp
  split at hp
  ·rename_i h1
   simp only[ZgW,ZiN hp]
   cases x<;>first |rfl |cases h1
  ·cases hp
theorem Zg8(G:Good h L h' L' σ){p:Nat→Nat×Nat→Prop} :∀ {l l':List (Nat×Nat)},ZoV σ l=some l'→l'.length=l.length∧∀(j:Nat) (d:Nat×Nat),l'[j]? =some d→∃d0:Nat×Nat,l[j]? =some d0∧d0.1=d.1∧σ d0.1 d0.2=some d.2
 |[],l',hr=>by cases hr;exact⟨rfl,fun j d hd=>by simp at hd⟩
 |(a,i)::k,l',hr=>by
  simp only[ZoV]at hr
  split at hr
  ·cases hr
  ·rename_i j hs
   split at hr
   ·rename_i l hl
    cases hr
    obtain⟨h1,h2⟩:=Zg8 (p:=p) G hl
    refine⟨by simp[h1],fun q d hd=>?_⟩
    cases q with
    |zero=>simp at hd;subst hd;exact⟨(a,i),rfl,rfl,hs⟩
    |succ q=>obtain⟨d0,e1,e2,e3⟩:=h2 q d (by simpa using hd);exact⟨d0,by simpa using e1,e2,e3⟩
   ·cases hr
theorem FrRel.ren(G:Good h L h' L' σ){af af':AFrame}{fr:Frame}(hr:Zyy σ af=some af')(hf:FrRel C h L w af fr):FrRel C h' L' w af' fr:=by
 unfold Zyy at hr
 split at hr
 ·cases hr
 ·rename_i ds hds
  split at hr
  ·cases hr
  ·rename_i rd hrd
   have hd:DefRel h' L' ds fr.defers:=by
    obtain⟨gs,h1,h2,h3⟩:=hf.defs
    obtain⟨e1,e2⟩:=Zg8 (p:=fun _ _=>True) G hds
    refine⟨gs,h1,h2.trans e1.symm,fun j d g hd hg=>?_⟩
    obtain⟨d0,q1,q2,q3⟩:=e2 j d hd
    obtain⟨d1,d2⟩:=d
    obtain⟨d3,d4⟩:=d0
    simp only at q2 q3
    subst q2
    exact(h3 j _ g q1 hg).ren G q3 fun _ _ h=>h
   have hn:RndRel h' L' rd fr.roundOf∧(rd=none→af.rnd=none):=by
    have hrn:=hf.rnd
    unfold Zp1 at hrd
    split at hrd
    ·rename_i e;cases hrd;rw[e]at hrn;exact⟨hrn,fun _=>e⟩
    ·rename_i a i e
     rw[e]at hrn
     split at hrd
     ·rename_i j hs;cases hrd
      obtain⟨g,hg,hl⟩:=hrn
      exact⟨⟨g,hg,hl.ren G hs fun _ _ h=>h⟩,fun e=>by cases e⟩
     ·cases hrd
   split at hr
   ·rename_i hp
    cases hr
    exact⟨hf.fn,hf.size,hf.env.ren G,hf.kind,hd,hn.1,hf.mode.imp id fun⟨a,b,c⟩=>⟨a,b,c.ren G (ZiN hp)⟩,fun e=>hf.res (hn.2 e)⟩
   ·split at hr
    ·cases hr
    ·rename_i td htd
     cases hr
     exact⟨hf.fn,hf.size,hf.env.ren G,hf.kind,hd,hn.1,hf.mode.imp id fun⟨a,b,c⟩=>⟨a,b,c.ren G htd⟩,fun e=>hf.res (hn.2 e)⟩
theorem FrsRel.ren(G:Good h L h' L' σ):∀ {afs afs':List AFrame} {cs:List Frame},ZnH σ afs=some afs'→FrsRel C h L w afs cs→FrsRel C h' L' w afs' cs
 |[],afs',cs,hr,hf=>by cases hf;cases hr;exact .base
 |f::fs,afs',cs,hr,hf=>by
  cases hf with
  |cons hf hk=>
   simp only[ZnH]at hr
   split at hr
   ·cases hr
   ·rename_i g hg
    split at hr
    ·rename_i gs hgs;cases hr;exact .cons (hf.ren G hg) (FrsRel.ren G hgs hk)
    ·cases hr
end
abbrev ZsT:=List (Nat×Nat×List Blk)
def Zt6:Blk→Bool
 | .dead=>true
 |_=>false
def ZjA(R:List (Nat×Nat))(a:Nat):Nat→List Blk→List Blk
 |_,[]=>[]
 |i,b::l=>match(match ZpF (a,i) R with |true=>b |false=>.dead),ZjA R a (i+1) l with
  | .dead,[]=>[]
  |b',l'=>b'::l'
def Zm2:Nat→List Blk→Nat×List Blk
 |n,[]=>(n,[])
 |n,b::l=>match Zt6 b with |true=>Zm2 (n+1) l |false=>(n,b::l)
def Zke(R:List (Nat×Nat))(a:Nat)(f:Fam):Nat×List Blk:=Zm2 f.base (ZjA R a f.base f.blks)
def ZaP(R:List (Nat×Nat)):Zaa→ZsT
 |[]=>[]
 |(a,f)::rest=>match Zke R a f with
  |(s,l)=>(match l,Zay rest a with
   |[],none=>ZaP R rest
   |l,_=>(a,s,l)::ZaP R rest)
def ZlY(t:ZsT)(a i:Nat):Option Nat:=
 match Zay t a with
 |none=>none
 |some p=>match Nat.ble p.1 i with
  |false=>none
  |true=>match Zt6 (p.2.getD (i-p.1) .dead)with |true=>none |false=>some (i-p.1)
def ZgJ(σ:Nat→Nat→Option Nat):ZsT→Zaa
 |[]=>[]
 |(a,_,l)::t=>(a,⟨0,l.map (Blk.ren σ)⟩)::ZgJ σ t
def ZjR(t:ZsT)(L:Lay):Lay:=⟨fun a j=>L.loc a (j+match Zay t a with |some p=>p.1 |none=>0),fun a j=>L.size a (j+match Zay t a with |some p=>p.1 |none=>0)⟩
theorem ZgU{R:List (Nat×Nat)}{a:Nat} :∀(l:List Blk) (i j:Nat),(ZjA R a i l).getD j .dead=.dead∨(ZjA R a i l).getD j .dead=l.getD j .dead
 |[],i,j=>.inl (by simp[ZjA])
 |b::l,i,j=>by
  have ih:=ZgU (R:=R) (a:=a) l (i+1)
  simp only[ZjA]
  split
  ·left;simp
  ·cases j with
   |zero=>
    simp only[List.getD_cons_zero]
    split
    ·right;rfl
    ·left;rfl
   |succ j=>simp only[List.getD_cons_succ];exact ih j
theorem Zhp:∀(l:List Blk) (n j:Nat),∃d,(Zm2 n l).1=n+d∧(Zm2 n l).2.getD j .dead=l.getD (j+d) .dead
 |[],n,j=>⟨0,rfl,rfl⟩
 |b::l,n,j=>by
  simp only[Zm2]
  split
  ·obtain⟨d,h1,h2⟩:=Zhp l (n+1) j
   exact⟨d+1,by rw[h1];omega,by rw[h2,←Nat.add_assoc,List.getD_cons_succ]⟩
  ·exact⟨0,rfl,rfl⟩
theorem ZgS{R:List (Nat×Nat)} :∀ {h:Zaa} {a:Nat} {p:Nat×List Blk},Zay (ZaP R h) a=some p→∃f,Zay h a=some f∧Zke R a f=p
 |[],a,p,h=>by cases h
 |(b,f)::rest,a,p,h=>by
  have ih:= @ZgS R rest a p
  have hb:∀x y:Nat,Nat.beq x y=decide (x=y):=fun x y=>by rw[Bool.eq_iff_iff];simp
  simp only[ZaP]at h
  split at h
  ·rename_i hl hr
   obtain⟨f',h1,h2⟩:=ih h
   refine⟨f',?_,h2⟩
   simp only[Zay,hb]
   by_cases hba:b=a
   ·subst hba;rw[hr]at h1;cases h1
   ·simp only[hba,decide_false];exact h1
  ·simp only[Zay,hb]at h⊢
   by_cases hba:b=a
   ·subst hba;simp only[decide_true,Option.some.injEq]at h ⊢;exact⟨f,rfl,h⟩
   ·simp only[hba,decide_false]at h ⊢;exact ih h
theorem Zhu{σ:Nat→Nat→Option Nat} :∀(t:ZsT) (a:Nat),Zay (ZgJ σ t) a=(Zay t a).map fun p=>⟨0,p.2.map (Blk.ren σ)⟩
 |[],a=>rfl
 |(b,s,l)::t,a=>by
  simp only[ZgJ,Zay]
  split
  ·rfl
  ·exact Zhu t a
theorem ZcH{σ:Nat→Nat→Option Nat}(t:ZsT)(a j:Nat):blk (ZgJ σ t) a j=Blk.ren σ (match Zay t a with |some p=>p.2.getD j .dead |none=>.dead)∧nxt (ZgJ σ t) a=match Zay t a with |some p=>p.2.length |none=>0:=by
 unfold blk nxt fam
 rw[Zhu]
 cases Zay t a with
 |none=>simp[Fam.get,Zbz,Blk.ren]
 |some p=>
  simp only[Option.map_some,Option.getD_some,Fam.get,Zbz (Nat.zero_le _),Nat.sub_zero,List.length_map,Nat.zero_add,and_true]
  simp only[List.getD_eq_getElem?_getD,List.getElem?_map]
  cases p.2[j]?<;>rfl
theorem Zcw{R:List (Nat×Nat)}{h:Zaa}{a:Nat}{p:Nat×List Blk}(hp:Zay (ZaP R h) a=some p)(j:Nat):p.2.getD j .dead=.dead∨p.2.getD j .dead=blk h a (j+p.1):=by
 obtain⟨f,h1,h2⟩:=ZgS hp
 unfold Zke at h2
 obtain⟨d,e1,e2⟩:=Zhp (ZjA R a f.base f.blks) f.base j
 rw[h2]at e1 e2
 rw[e2]
 rcases ZgU (R:=R) (a:=a) f.blks f.base (j+d)with h3 |h3
 ·exact .inl h3
 ·right
  rw[h3,e1]
  unfold blk fam Fam.get
  rw[h1]
  simp only[Option.getD_some,Zbz (show f.base≤j+(f.base+d) by omega)]
  congr 1;omega
theorem pack_good{R:List (Nat×Nat)}{h:Zaa}{L:Lay} :Good h L (ZgJ (ZlY (ZaP R h)) (ZaP R h)) (ZjR (ZaP R h) L) (ZlY (ZaP R h)):=by
 refine⟨fun a i j hs=>?_,fun a j ht=>?_⟩
 ·obtain⟨hb,hn⟩:=ZcH (σ:=ZlY (ZaP R h)) (ZaP R h) a j
  unfold ZlY at hs
  cases hp:Zay (ZaP R h) a with
  |none=>rw[hp]at hs;cases hs
  |some p=>
   rw[hp]at hs hb hn
   simp only at hs hb hn
   split at hs
   ·cases hs
   ·rename_i hle
    have hle:p.1≤i:=by simpa using hle
    split at hs
    ·cases hs
    ·rename_i hd
     cases hs
     have hlt:i-p.1<p.2.length:=by
      rcases Nat.lt_or_ge (i-p.1) p.2.length with h1 |h1
      ·exact h1
      ·rw[List.getD_eq_getElem?_getD,List.getElem?_eq_none h1]at hd;cases hd
     have hadd:i-p.1+p.1=i:=by omega
     refine⟨by rw[hn];exact hlt,fun sz ht=>?_,by simp only[ZjR,hp,hadd],by simp only[ZjR,hp,hadd]⟩
     rw[hb,Blk.ren_tag]at ht
     rcases Zcw hp (i-p.1)with h1 |h1
     ·rw[h1]at hd;cases hd
     ·rw[h1,hadd]at ht;exact ht
 ·obtain⟨hb,_⟩:=ZcH (σ:=ZlY (ZaP R h)) (ZaP R h) a j
  obtain⟨s,ht,hn⟩:=ht
  rw[hb,Blk.ren_tag]at ht
  cases hp:Zay (ZaP R h) a with
  |none=>rw[hp]at ht;cases ht
  |some p=>
   rw[hp]at ht
   simp only at ht
   rcases Zcw hp j with h1 |h1
   ·rw[h1]at ht;cases ht
   ·exact⟨j+p.1,⟨s,by rw[←h1];exact ht,by simpa only[ZjR,hp]using hn⟩,by simp only[ZjR,hp]⟩
theorem HRel.packed{C:Ctx}{R:List (Nat×Nat)}{h:Zaa}{L:Lay}{w:World}(H:HRel C h L w):HRel C (ZgJ (ZlY (ZaP R h)) (ZaP R h)) (ZjR (ZaP R h) L) w:=by
 have key:∀a j,Plc (ZgJ (ZlY (ZaP R h)) (ZaP R h)) (ZjR (ZaP R h) L) a j→∃p,Zay (ZaP R h) a=some p∧Plc h L a (j+p.1):=fun a j ht=>by
  obtain⟨hb,_⟩:=ZcH (σ:=ZlY (ZaP R h)) (ZaP R h) a j
  obtain⟨s,ht,hn⟩:=ht
  rw[hb,Blk.ren_tag]at ht
  cases hp:Zay (ZaP R h) a with
  |none=>rw[hp]at ht;cases ht
  |some p=>
   rw[hp]at ht
   simp only at ht
   rcases Zcw hp j with h1 |h1
   ·rw[h1]at ht;cases ht
   ·exact⟨p,rfl,s,by rw[←h1];exact ht,by simpa only[ZjR,hp]using hn⟩
 refine⟨H.below,fun a j ht=>?_,fun a j=>?_,fun a i b j h1 h2 e=>?_,fun a j ht=>?_,H.low,H.base,H.good⟩
 rotate_right
 ·obtain⟨p,hp,ht'⟩:=key a j ht
  simp only[ZjR,hp]
  rcases H.home a _ ht' with h9 |⟨h7,h8,h9⟩
  ·exact .inl h9
  ·exact .inr ⟨h7,by omega,h9⟩
 ·obtain⟨p,hp,ht'⟩:=key a j ht
  simp only[ZjR,hp];exact H.live a _ ht'
 ·obtain⟨hb,_⟩:=ZcH (σ:=ZlY (ZaP R h)) (ZaP R h) a j
  rw[hb]
  cases hp:Zay (ZaP R h) a with
  |none=>trivial
  |some p=>
   simp only
   rcases Zcw hp j with h1 |h1
   ·rw[h1];trivial
   ·rw[h1];simp only[ZjR,hp];exact(H.blks a _).ren pack_good
 ·obtain⟨p,hp,hp'⟩:=key a i h1
  obtain⟨q,hq,hq'⟩:=key b j h2
  simp only[ZjR,hp,hq]at e
  obtain⟨rfl,e2⟩:=H.inj _ _ _ _ hp' hq' e
  rw[hp]at hq;cases hq
  exact⟨rfl,by omega⟩
def ZvH:AV→List (Nat×Nat)
 | .tup xs=>xs.flatMap ZdI
 |v=>ZdI v
def Zw2:Row→List (Nat×Nat)
 | .gen xs=>xs.flatMap ZvH
 |_=>[]
def Zq2:ZeW→List (Nat×Nat)
 |[]=>[]
 |(_,v)::l=>ZvH v++Zq2 l
def ZwJ:Blk→List (Nat×Nat)
 | .row _ _ r=>Zw2 r
 | .lp l=>Zq2 l.env
 |_=>[]
def ZvN:List AItem→List (Nat×Nat)
 |[]=>[]
 |x::k=>(match x with | .inRF a i=>[(a,i)] | .endRF a i=>[(a,i)] |_=>[])++ZvN k
def ZuC:List AFrame→List (Nat×Nat)
 |[]=>[]
 |f::fs=>Zq2 f.env++((match ZdU f.todo with |true=>[] |false=>ZvN f.todo)++(f.defs++((match f.rnd with |some p=>[p] |none=>[])++ZuC fs)))
def Zwu(R:List (Nat×Nat)):List (Nat×Nat)→List (Nat×Nat)
 |[]=>R
 |p::l=>match ZpF p R with |true=>Zwu R l |false=>Zwu (p::R) l
def ZpN(h:Zaa):Nat→List (Nat×Nat)→List (Nat×Nat)→List (Nat×Nat)
 |0,R,_=>R
 |n+1,R,new=>match new.flatMap (fun p=>ZwJ (blk h p.1 p.2))with
  |[]=>R
  |l=>ZpN h n (Zwu R l) l
def ZoW(h:Zaa)(t:ZsT):Bool:=
 match Zay t 0 with
 |none=>Nat.beq (nxt h 0) 0
 |some p=>match Nat.beq p.1 0 with |true=>Nat.ble (nxt h 0) p.2.length |false=>false
def Zye(fs:List AFrame):List (Nat×Nat):=Zwu [] ((0,0)::ZuC fs)
def Zwr(fs:List AFrame)(h:Zaa):Option (List AFrame×Zaa):=
 match Zye fs with
 |R0=>match ZaP (ZpN h 4 R0 R0) h with
  |t=>match ZoW h t with
   |false=>none
   |true=>match ZnH (ZlY t) fs with
    |none=>none
    |some fs'=>some (fs',ZgJ (ZlY t) t)
theorem ZqH{C:Ctx}{R:List (Nat×Nat)}{h:Zaa}{L:Lay}{w:World}(hk:ZoW h (ZaP R h)=true):Fr C h L w (ZgJ (ZlY (ZaP R h)) (ZaP R h)) (ZjR (ZaP R h) L) w:=by
 obtain⟨hb,hn⟩:=ZcH (σ:=ZlY (ZaP R h)) (ZaP R h) 0 0
 refine⟨Nat.le_refl _,fun g _ ho=>⟨pack_good.okk ho,rfl⟩,?_,fun sz _ ht=>?_⟩
 ·rw[hn]
  unfold ZoW at hk
  cases hp:Zay (ZaP R h) 0 with
  |none=>rw[hp]at hk;have:=Nat.eq_of_beq_eq_true hk;omega
  |some p=>
   rw[hp]at hk
   simp only at hk⊢
   split at hk
   ·simpa using hk
   ·cases hk
 ·rw[hb,Blk.ren_tag]at ht
  unfold ZoW at hk
  cases hp:Zay (ZaP R h) 0 with
  |none=>rw[hp]at ht;cases ht
  |some p=>
   rw[hp]at ht hk
   simp only at ht hk
   split at hk
   ·rename_i h0
    have h0:p.1=0:=Nat.eq_of_beq_eq_true h0
    rcases Zcw hp 0 with h1 |h1
    ·rw[h1]at ht;cases ht
    ·rw[h1,h0]at ht
     refine⟨ht,?_,?_⟩
     ·simp only[ZjR,hp,h0]
     ·simp only[ZjR,hp,h0]
   ·cases hk
theorem Znz{C:Ctx}{fs fs':List AFrame}{h h':Zaa}{Q:List AFrame→Zaa→Prop}(hp:Zwr fs h=some (fs',h'))(hq:Ev C fs' h' Q):Ev C fs h Q:=by
 intro L fr cs w hf H hne
 unfold Zwr at hp
 dsimp only at hp
 split at hp
 ·cases hp
 ·rename_i hkeep
  split at hp
  ·cases hp
  ·rename_i gs hgs
   cases hp
   obtain⟨fs2,h2',L2,fr2,cs2,w2,q2,n2,a2,b2,s2⟩:=hq _ fr cs w (FrsRel.ren pack_good hgs hf) H.packed (fun e=>by
    subst e
    cases fs with
    |nil=>exact hne rfl
    |cons f fs=>
     simp only[ZnH]at hgs
     split at hgs
     ·cases hgs
     ·split at hgs<;>cases hgs)
   exact⟨fs2,h2',L2,fr2,cs2,w2,q2,n2,a2,b2,s2.1,(ZqH hkeep).trans s2.2⟩
def Zq3(A:Ar)(T:Tab)(l:List Ctr)(n:Nat)(pk:Bool)(pa:List Bool)(f:AFrame)(fs:List AFrame)(h:Zaa):Option (List Bool×List AFrame×Zaa):=
 match ZfT A T l n pa [] f fs h with
 |none=>none
 |some (acc,f',fs',h')=>match pk with
  |false=>some (acc,f'::fs',h')
  |true=>match Zwr (f'::fs') h' with
   |none=>none
   |some (gs,h2)=>some (acc,gs,h2)
theorem Zr8{C:Ctx}{T:Tab}{l:List Ctr}{n:Nat}{pk:Bool}{pa acc:List Bool}{f:AFrame}{fs gs:List AFrame}{h h':Zaa}{Q:List AFrame→Zaa→Prop}(hfol:C.P.follows .mixedOrders=true)(hT:Zbd C.P T)(hl:Zaq C.P l)
 (hw:Zq3 std T l n pk pa f fs h=some (acc,gs,h')) (hb:AllT acc) (hq:Ev C gs h' Q):Ev C (f::fs) h Q:=by
 unfold Zq3 at hw
 split at hw
 ·cases hw
 ·rename_i acc1 f1 fs1 h1 hs
  split at hw
  ·cases hw
   exact(Zbk hfol hT hl n _ _ _ _ hs hb.mem hq).2
  ·split at hw
   ·cases hw
   ·rename_i gs2 h2 hp
    cases hw
    exact(Zbk hfol hT hl n _ _ _ _ hs hb.mem (Znz hp hq)).2
end Go.Proofs.YtkeoeooghhjibaaGreatDoor
/- What comes back is read as a value. No condition. -/
namespace Go.Proofs.YtkeoeooghhjibaaGreatDoor
open Go.RowKit (Below)
inductive Frz1 (fr:Option Fresh):AV→AV→Prop
 |row (f:Fresh) (hf:fr=some f) (hp:f.r.pure=true) (hs:f.r.solid=true):Frz1 fr (.row 0 0) (.list f.r)
 |nil (r:Row) (h:r.elems=[]):Frz1 fr .nils (.list r)
 |same (v:AV) (hp:v.pure=true) (hs:v.solid=true):Frz1 fr v v
def ZzF(fr:Option Fresh):List AV→List AV→Prop
 |[],[]=>True
 |x::xs,y::ys=>Frz1 fr x y∧ZzF fr xs ys
 |_,_=>False
inductive Frz (fr:Option Fresh):AV→AV→Prop
 |one {v v':AV} (h:Frz1 fr v v'):Frz fr v v'
 |tup {xs ys:List AV} (h:ZzF fr xs ys):Frz fr (.tup xs) (.tup ys)
section
variable {P:Program}{w w':World}{okA:Nat→Prop}{L':Lay}{fr:Option Fresh}
end
def ZiI(A:Ar)(T:Tab)(l:List Ctr)(n:Nat)(pa:List Bool)(fs:List AFrame)(h:Zaa):Option (List Bool×List AFrame×Zaa):=
 match fs with
 |[]=>none
 |f::fs=>Zq3 A T l n true pa f fs h
def ZnG(A:Ar)(T:Tab)(l:List Ctr)(n:Nat)(pa:List Bool)(fn:FuncId)(fs:List AFrame)(h:Zaa):Option (List Bool×AV×Option Fresh):=
 match fs with
 |[]=>none
 |f::fs=>match ZfT A T l n pa [] f fs h with
  |none=>none
  |some (acc,g,gs,h')=>match gs with
   |_::_=>none
   |[]=>match g.ret&&Nat.beq g.fn fn with
    |false=>none
    |true=>match g.rnd with
     |some _=>none
     |none=>match g.defs with
      |_::_=>none
      |[]=>match Zm1 A g.env h' g.res with
       |none=>none
       |some (b,vs)=>match ZeB h' (ZeL vs)with
        |none=>none
        |some (r,fr)=>some (b::acc,r,fr)
section
variable {C:Ctx}{T:Tab}{l:List Ctr}{n:Nat}{pa acc:List Bool}{fs gs:List AFrame}{h h':Zaa}{Q:List AFrame→Zaa→Prop}
theorem Zxj(hfol:C.P.follows .mixedOrders=true)(hT:Zbd C.P T)(hl:Zaq C.P l)(hw:ZiI std T l n pa fs h=some (acc,gs,h'))(hb:AllT acc)(hq:Ev C gs h' Q):Ev C fs h Q:=by
 unfold ZiI at hw
 split at hw
 ·cases hw
 ·exact Zr8 hfol hT hl hw hb hq
theorem ZtJ(hfol:C.P.follows .mixedOrders=true)(hT:Zbd C.P T)(hl:Zaq C.P l){fn:FuncId}{r r':AV}{fr fr':Option Fresh}(hw:ZnG std T l n pa fn fs h=some (acc,r',fr'))(hb:AllT acc)(hr:r'=r)(hfr:fr'=fr):Ev C fs h (Zew fn r fr):=by
 subst hr;subst hfr
 unfold ZnG at hw
 split at hw
 ·cases hw
 ·split at hw
  ·cases hw
  ·rename_i acc1 g gs1 h1 hs
   split at hw
   ·cases hw
   ·split at hw
    ·cases hw
    ·rename_i hg
     simp only[Bool.and_eq_true]at hg
     split at hw
     ·cases hw
     ·rename_i hn
      split at hw
      ·cases hw
      ·rename_i hd
       split at hw
       ·cases hw
       ·rename_i b vs hc
        split at hw
        ·cases hw
        ·rename_i hex
         cases hw
         have hb1:b=true:=hb.1
         subst hb1
         exact(Zbk hfol hT hl n _ _ _ _ hs hb.2.mem (.now (by simp) ⟨g,vs,rfl,Nat.eq_of_beq_eq_true hg.2,hg.1,hn,hd,hc,hex⟩)).2
end
end Go.Proofs.YtkeoeooghhjibaaGreatDoor
namespace Go.Proofs.YtkeoeooghhjibaaGreatDoor
@[simp] theorem ZBI (a b:Int):std.add a b=a+b:=rfl
@[simp] theorem ZCN (a b:Int):std.sub a b=a-b:=rfl
@[simp] theorem ZBM (a b:Int):std.mul a b=a*b:=rfl
@[simp] theorem ZBR (a b:Int):std.quo a b=Int.tdiv a b:=rfl
@[simp] theorem ZAk (a b:Int):std.rem a b=Int.tmod a b:=rfl
@[simp] theorem ZB1 (a:Int):std.neg a= -a:=rfl
@[simp] theorem ZDw (a b:Int):std.lt a b=decide (a<b):=rfl
@[simp] theorem ZDv (a b:Int):std.le a b=decide (a≤b):=rfl
@[simp] theorem ZDx (a b:Int):std.eq a b=decide (a=b):=rfl
@[simp] theorem ZBy (a:Int):std.nat a=a.toNat:=rfl
@[simp] theorem ZBH (a:Nat):std.int a=(a:Int):=rfl
@[simp] theorem ZDa (a b:Int):std.max a b=Max.max a b:=rfl
@[simp] theorem ZB7 (a b:Int):std.min a b=Min.min a b:=rfl
@[simp] theorem ZCz (l:List Int):std.len l=l.length:=rfl
@[simp] theorem ZCL (l:List Int) (j:Nat):std.nth l j=l.getD j 0:=rfl
@[simp] theorem ZAR (l:List Int) (j:Nat) (x:Int):std.set l j x=l.set j x:=rfl
@[simp] theorem ZCX (a b:List Int):std.app a b=a++b:=rfl
@[simp] theorem Zzs (l:List Int) (k n:Nat):std.sub3 l k n=(l.drop k).take n:=rfl
@[simp] theorem ZBk (n:Nat) (x:Int):std.rep n x=List.replicate n x:=rfl
@[simp] theorem ZCD (a:Bool):std.not a=!a:=rfl
@[simp] theorem ZyK (l:List UInt8):std.lenS l=l.length:=rfl
@[simp] theorem Zzd (l:List UInt8) (j:Nat):std.nthS l j=((l.getD j 0).toNat:Int):=rfl
@[simp] theorem ZzY (a b:List UInt8):std.appS a b=a++b:=rfl
@[simp] theorem Zzn (l:List UInt8) (k n:Nat):std.subS l k n=sub3 l k n:=rfl
@[simp] theorem ZBG (a b:List UInt8):std.eqS a b=(a==b):=rfl
@[simp] theorem Zy2 (ks:List AV) (s:List UInt8):std.hasS ks s=ks.any fun k=>k.toS==s:=rfl
@[simp] theorem ZBu (s:List UInt8):std.byt s=s.map fun b=>(b.toNat:Int):=rfl
@[simp] theorem ZCS (a b:Int):std.shl a b=a*2^b.toNat:=rfl
@[simp] theorem ZAj (a b:Int):std.shr a b=a.fdiv (2^b.toNat):=rfl
@[simp] theorem ZxA (n:Int):std.inR .i64 n=decide (-9223372036854775808≤n∧n≤9223372036854775807):=rfl
@[simp] theorem ZCl (a b:Bool):Zah a b=(a&&b):=by cases a<;>rfl
@[simp] theorem ZCv (a b:Nat):Nat.blt a b=decide (a<b):=by rw[Bool.eq_iff_iff];simp
@[simp] theorem ZCJ (a b:Nat):Nat.ble a b=decide (a≤b):=by rw[Bool.eq_iff_iff];simp
@[simp] theorem ZBQ (a b:Nat):Nat.beq a b=decide (a=b):=by rw[Bool.eq_iff_iff];simp
@[simp] theorem ZwD:AllT []=True:=rfl
@[simp] theorem ZiD (b:Bool) (l:List Bool):AllT (b::l)=(b=true∧AllT l):=rfl
def tru:Nat→List Bool→List Bool
 |0,l=>l
 |n+1,l=>true::tru n l
def tr:List Nat→List Bool→List Bool
 |k::ks,x::xs=>tru k (x::tr ks xs)
 |k::_,[]=>tru k []
 |[],xs=>xs
theorem Zhy(l:List Bool):∀n,AllT (tru n l)=AllT l
 |0=>rfl
 |n+1=>by simp only[tru,ZiD,Zhy l n,true_and]
@[simp] theorem ZrW:∀ks xs,AllT (tr ks xs)=AllT xs
 |k::ks,x::xs=>by simp only[tr,Zhy,ZiD,ZrW ks xs]
 |k::ks,[]=>by simp only[tr,Zhy]
 |[],xs=>rfl
end Go.Proofs.YtkeoeooghhjibaaGreatDoor
