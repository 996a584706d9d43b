/- Every code of the table stands for the program's. Printed by gentab.py. -/
import Derived.Test.YtjhldefnjghcdaaGreatTa
import Derived.Test.YtjhldefnjghcdaaGreatChecked
import Derived.KernelRfl
namespace Go.Proofs.YtjhldefnjghcdaaGreat
set_option maxRecDepth 100000
theorem m3:Zam Tryz.prog 3 a3=true:=by kernel_rfl
theorem m4:Zam Tryz.prog 4 a4=true:=by kernel_rfl
theorem m5:Zam Tryz.prog 5 a5=true:=by kernel_rfl
theorem m6:Zam Tryz.prog 6 a6=true:=by kernel_rfl
theorem m7:Zam Tryz.prog 7 a7=true:=by kernel_rfl
theorem m8:Zam Tryz.prog 8 a8=true:=by kernel_rfl
theorem m9:Zam Tryz.prog 9 a9=true:=by kernel_rfl
theorem m10:Zam Tryz.prog 10 a10=true:=by kernel_rfl
theorem m11:Zam Tryz.prog 11 a11=true:=by kernel_rfl
theorem m12:Zam Tryz.prog 12 a12=true:=by kernel_rfl
theorem m13:Zam Tryz.prog 13 a13=true:=by kernel_rfl
theorem m14:Zam Tryz.prog 14 a14=true:=by kernel_rfl
theorem m15:Zam Tryz.prog 15 a15=true:=by kernel_rfl
theorem m16:Zam Tryz.prog 16 a16=true:=by kernel_rfl
theorem m17:Zam Tryz.prog 17 a17=true:=by kernel_rfl
theorem m18:Zam Tryz.prog 18 a18=true:=by kernel_rfl
theorem m19:Zam Tryz.prog 19 a19=true:=by kernel_rfl
theorem m20:Zam Tryz.prog 20 a20=true:=by kernel_rfl
theorem m21:Zam Tryz.prog 21 a21=true:=by kernel_rfl
theorem m22:Zam Tryz.prog 22 a22=true:=by kernel_rfl
theorem m23:Zam Tryz.prog 23 a23=true:=by kernel_rfl
theorem m24:Zam Tryz.prog 24 a24=true:=by kernel_rfl
theorem m25:Zam Tryz.prog 25 a25=true:=by kernel_rfl
theorem m26:Zam Tryz.prog 26 a26=true:=by kernel_rfl
theorem m27:Zam Tryz.prog 27 a27=true:=by kernel_rfl
theorem m28:Zam Tryz.prog 28 a28=true:=by kernel_rfl
theorem m29:Zam Tryz.prog 29 a29=true:=by kernel_rfl
theorem m30:Zam Tryz.prog 30 a30=true:=by kernel_rfl
theorem m31:Zam Tryz.prog 31 a31=true:=by kernel_rfl
theorem m32:Zam Tryz.prog 32 a32=true:=by kernel_rfl
theorem m33:Zam Tryz.prog 33 a33=true:=by kernel_rfl
theorem m34:Zam Tryz.prog 34 a34=true:=by kernel_rfl
theorem m35:Zam Tryz.prog 35 a35=true:=by kernel_rfl
theorem m36:Zam Tryz.prog 36 a36=true:=by kernel_rfl
theorem m37:Zam Tryz.prog 37 a37=true:=by kernel_rfl
theorem m38:Zam Tryz.prog 38 a38=true:=by kernel_rfl
theorem m39:Zam Tryz.prog 39 a39=true:=by kernel_rfl
theorem m40:Zam Tryz.prog 40 a40=true:=by kernel_rfl
theorem m41:Zam Tryz.prog 41 a41=true:=by kernel_rfl
theorem m42:Zam Tryz.prog 42 a42=true:=by kernel_rfl
theorem m43:Zam Tryz.prog 43 a43=true:=by kernel_rfl
theorem m44:Zam Tryz.prog 44 a44=true:=by kernel_rfl
theorem m45:Zam Tryz.prog 45 a45=true:=by kernel_rfl
theorem m46:Zam Tryz.prog 46 a46=true:=by kernel_rfl
theorem m47:Zam Tryz.prog 47 a47=true:=by kernel_rfl
theorem m48:Zam Tryz.prog 48 a48=true:=by kernel_rfl
theorem m49:Zam Tryz.prog 49 a49=true:=by kernel_rfl
theorem m50:Zam Tryz.prog 50 a50=true:=by kernel_rfl
theorem m51:Zam Tryz.prog 51 a51=true:=by kernel_rfl
theorem m52:Zam Tryz.prog 52 a52=true:=by kernel_rfl
theorem m53:Zam Tryz.prog 53 a53=true:=by kernel_rfl
theorem m54:Zam Tryz.prog 54 a54=true:=by kernel_rfl
theorem m55:Zam Tryz.prog 55 a55=true:=by kernel_rfl
theorem m56:Zam Tryz.prog 56 a56=true:=by kernel_rfl
theorem m57:Zam Tryz.prog 57 a57=true:=by kernel_rfl
theorem m58:Zam Tryz.prog 58 a58=true:=by kernel_rfl
theorem m59:Zam Tryz.prog 59 a59=true:=by kernel_rfl
theorem m60:Zam Tryz.prog 60 a60=true:=by kernel_rfl
theorem m61:Zam Tryz.prog 61 a61=true:=by kernel_rfl
theorem m62:Zam Tryz.prog 62 a62=true:=by kernel_rfl
theorem m63:Zam Tryz.prog 63 a63=true:=by kernel_rfl
theorem m64:Zam Tryz.prog 64 a64=true:=by kernel_rfl
theorem m65:Zam Tryz.prog 65 a65=true:=by kernel_rfl
theorem m66:Zam Tryz.prog 66 a66=true:=by kernel_rfl
theorem m67:Zam Tryz.prog 67 a67=true:=by kernel_rfl
theorem m68:Zam Tryz.prog 68 a68=true:=by kernel_rfl
theorem m69:Zam Tryz.prog 69 a69=true:=by kernel_rfl
theorem m70:Zam Tryz.prog 70 a70=true:=by kernel_rfl
theorem m71:Zam Tryz.prog 71 a71=true:=by kernel_rfl
theorem m72:Zam Tryz.prog 72 a72=true:=by kernel_rfl
theorem m73:Zam Tryz.prog 73 a73=true:=by kernel_rfl
theorem m74:Zam Tryz.prog 74 a74=true:=by kernel_rfl
theorem m75:Zam Tryz.prog 75 a75=true:=by kernel_rfl
theorem m76:Zam Tryz.prog 76 a76=true:=by kernel_rfl
theorem m77:Zam Tryz.prog 77 a77=true:=by kernel_rfl
theorem m78:Zam Tryz.prog 78 a78=true:=by kernel_rfl
theorem m79:Zam Tryz.prog 79 a79=true:=by kernel_rfl
theorem m80:Zam Tryz.prog 80 a80=true:=by kernel_rfl
theorem m81:Zam Tryz.prog 81 a81=true:=by kernel_rfl
theorem m82:Zam Tryz.prog 82 a82=true:=by kernel_rfl
theorem m83:Zam Tryz.prog 83 a83=true:=by kernel_rfl
theorem m84:Zam Tryz.prog 84 a84=true:=by kernel_rfl
theorem m85:Zam Tryz.prog 85 a85=true:=by kernel_rfl
theorem m86:Zam Tryz.prog 86 a86=true:=by kernel_rfl
theorem m87:Zam Tryz.prog 87 a87=true:=by kernel_rfl
theorem m88:Zam Tryz.prog 88 a88=true:=by kernel_rfl
theorem m89:Zam Tryz.prog 89 a89=true:=by kernel_rfl
theorem m90:Zam Tryz.prog 90 a90=true:=by kernel_rfl
theorem m91:Zam Tryz.prog 91 a91=true:=by kernel_rfl
theorem m92:Zam Tryz.prog 92 a92=true:=by kernel_rfl
theorem m93:Zam Tryz.prog 93 a93=true:=by kernel_rfl
theorem m94:Zam Tryz.prog 94 a94=true:=by kernel_rfl
theorem m95:Zam Tryz.prog 95 a95=true:=by kernel_rfl
theorem m96:Zam Tryz.prog 96 a96=true:=by kernel_rfl
theorem m97:Zam Tryz.prog 97 a97=true:=by kernel_rfl
theorem m98:Zam Tryz.prog 98 a98=true:=by kernel_rfl
theorem m99:Zam Tryz.prog 99 a99=true:=by kernel_rfl
theorem ZQl:Zam Tryz.prog 100 ZOJ=true:=by kernel_rfl
theorem ZQJ:Zam Tryz.prog 101 ZOR=true:=by kernel_rfl
theorem ZQ6:Zam Tryz.prog 102 ZPk=true:=by kernel_rfl
theorem ZQn:Zam Tryz.prog 103 ZOs=true:=by kernel_rfl
theorem ZQD:Zam Tryz.prog 104 ZOM=true:=by kernel_rfl
theorem ZPy:Zam Tryz.prog 105 ZOw=true:=by kernel_rfl
theorem ZQC:Zam Tryz.prog 106 ZOL=true:=by kernel_rfl
theorem ZRb:Zam Tryz.prog 107 a107=true:=by kernel_rfl
theorem Zb5:ZbM Tryz.prog tab:=FTree.ok (t:=tree) ⟨⟨⟨⟨⟨⟨⟨trivial,m3,trivial⟩,m4,⟨trivial,m5,trivial⟩⟩,m6,⟨⟨trivial,m7,trivial⟩,m8,trivial⟩⟩,m9,⟨⟨⟨trivial,m10,trivial⟩,m11,⟨trivial,m12,trivial⟩⟩,m13,⟨⟨trivial,m14,trivial⟩,m15,trivial⟩⟩⟩,m16,⟨⟨⟨⟨trivial,m17,trivial⟩,m18,⟨trivial,m19,trivial⟩⟩,m20,⟨⟨trivial,m21,trivial⟩,m22,trivial⟩⟩,m23,⟨⟨⟨trivial,m24,trivial⟩,m25,trivial⟩,m26,⟨⟨trivial,m27,trivial⟩,m28,trivial⟩⟩⟩⟩,m29,⟨⟨⟨⟨⟨trivial,m30,trivial⟩,m31,⟨trivial,m32,trivial⟩⟩,m33,⟨⟨trivial,m34,trivial⟩,m35,trivial⟩⟩,m36,⟨⟨⟨trivial,m37,trivial⟩,m38,trivial⟩,m39,⟨⟨trivial,m40,trivial⟩,m41,trivial⟩⟩⟩,m42,⟨⟨⟨⟨trivial,m43,trivial⟩,m44,⟨trivial,m45,trivial⟩⟩,m46,⟨⟨trivial,m47,trivial⟩,m48,trivial⟩⟩,m49,⟨⟨⟨trivial,m50,trivial⟩,m51,trivial⟩,m52,⟨⟨trivial,m53,trivial⟩,m54,trivial⟩⟩⟩⟩⟩,m55,⟨⟨⟨⟨⟨⟨trivial,m56,trivial⟩,m57,⟨trivial,m58,trivial⟩⟩,m59,⟨⟨trivial,m60,trivial⟩,m61,trivial⟩⟩,m62,⟨⟨⟨trivial,m63,trivial⟩,m64,⟨trivial,m65,trivial⟩⟩,m66,⟨⟨trivial,m67,trivial⟩,m68,trivial⟩⟩⟩,m69,⟨⟨⟨⟨trivial,m70,trivial⟩,m71,⟨trivial,m72,trivial⟩⟩,m73,⟨⟨trivial,m74,trivial⟩,m75,trivial⟩⟩,m76,⟨⟨⟨trivial,m77,trivial⟩,m78,trivial⟩,m79,⟨⟨trivial,m80,trivial⟩,m81,trivial⟩⟩⟩⟩,m82,⟨⟨⟨⟨⟨trivial,m83,trivial⟩,m84,⟨trivial,m85,trivial⟩⟩,m86,⟨⟨trivial,m87,trivial⟩,m88,trivial⟩⟩,m89,⟨⟨⟨trivial,m90,trivial⟩,m91,trivial⟩,m92,⟨⟨trivial,m93,trivial⟩,m94,trivial⟩⟩⟩,m95,⟨⟨⟨⟨trivial,m96,trivial⟩,m97,⟨trivial,m98,trivial⟩⟩,m99,⟨⟨trivial,ZQl,trivial⟩,ZQJ,trivial⟩⟩,ZQ6,⟨⟨⟨trivial,ZQn,trivial⟩,ZQD,trivial⟩,ZPy,⟨⟨trivial,ZQC,trivial⟩,ZRb,trivial⟩⟩⟩⟩⟩⟩
theorem follows:Tryz.prog.follows .mixedOrders=true:=by kernel_rfl
end Go.Proofs.YtjhldefnjghcdaaGreat
namespace Go.Proofs.YtjhldefnjghcdaaGreat
open Go.RowKit (Below)
abbrev Ctx.mut(P:Program)(w:World)(okA:Nat→Prop)(cs:List Frame)(g:Nat):Ctx:=⟨P,w,okA,cs,0,g⟩
def ZK9(P:Program)(f:FuncId)(e:TypeId)(sz:Nat)(x y:Row)(args:List AV)(r:AV):Prop:=
 ∀(w:World) (okA:Nat→Prop) (L:Lay) (vs:Array Value),(∀k,okA k→k<w.heap.size)→
  HRel (Ctx.mut P w okA [] (L.loc 0 0)) (Zat (some ⟨e,sz,x⟩)) L w→
  RelL w (Zaq (Ctx.mut P w okA [] (L.loc 0 0)) (Zat (some ⟨e,sz,x⟩)) L) (Zat (some ⟨e,sz,x⟩)) L (.row 0 0::args) vs.toList→
  Calls P f vs w fun e' w'=>∃v L',e'=.returned v∧Fr (Ctx.mut P w okA [] (L.loc 0 0)) (Zat (some ⟨e,sz,x⟩)) L w (Zat (some ⟨e,sz,y⟩)) L' w'∧
   HRel (Ctx.mut P w okA [] (L.loc 0 0)) (Zat (some ⟨e,sz,y⟩)) L' w'∧Zau (Ctx.mut P w okA [] (L.loc 0 0)) (Zat (some ⟨e,sz,y⟩)) L' w' r v
def ZCj:AV→Bool
 | .row a i=>Nat.beq a 0&&Nat.beq i 0
 | .slc a i _ _ _=>Nat.beq a 0&&Nat.beq i 0
 |v=>v.pure
def ZRd(f:FuncId)(e:TypeId)(sz:Nat)(y:Row)(r:AV)(fs:List AFrame)(h:Zaa):Prop:=
 ∃g vs,fs=[g]∧g.fn=f∧g.ret=true∧g.rnd=none∧g.defs=[]∧Zf6 std g.env h g.res=some (true,vs)∧ZhP vs=r∧ZCj r=true∧blk h 0 0=.row e sz y∧y.pure=true
section
variable {C:Ctx}{h:Zaa}{L:Lay}{w:World}
def ZKq(a i:Nat):AV→AV
 | .row _ _=>.row a i
 | .slc _ _ k n c=>.slc a i k n c
 |v=>v
theorem Zuf{f:FuncId}{a i e sz:Nat}{x y:Row}{args:List AV}{vs:Array Value}{r:AV}(H:HRel C h L w)(hb:blk h a i=.row e sz x)(hxn:0<x.elems.length)(hxp:x.pure=true)(hyp:y.pure=true)(hap:AV.pureL args=true)(hrel:RelL w (Zaq C h L) h L (.row a i::args) vs.toList)(hor:ZCj r=true)(hm:ZK9 C.P f e sz x y args r):
 Calls C.P f vs w fun e' w'=>∃v L',e'=.returned v∧Step w (Zaq C h L) h L w' (Zaq C (ZaE h a i (.row e sz y)) L') (ZaE h a i (.row e sz y)) L'∧HRel C (ZaE h a i (.row e sz y)) L' w'∧Zau C (ZaE h a i (.row e sz y)) L' w' (ZKq a i r) v:=by
 obtain⟨ht,h0,h1,h2,h3⟩:=H.rowAt hb
 have hs0:L.size a i≠0:=by omega
 obtain⟨ht0,cur,h4,h5,h6,h7,h8⟩:=H.curAt hb hs0
 have hnd:blk h a i≠ .dead:=by rw[hb];simp
 let okA:Nat→Prop:=fun k=>Zaq C h L k∧k<w.heap.size
 let L1:Lay:=⟨fun _ _=>L.loc a i,fun _ _=>L.size a i⟩
 have h00:∀(L':Lay) (z:Row) b j,Plc (Zat (some ⟨e,sz,z⟩)) L' b j→b=0∧j=0:=fun L' z b j hx=>by
  have hx:=hx.tag
  rw[ZbK]at hx
  split at hx
  ·assumption
  ·exact absurd rfl hx
 have hno:¬okA (L.loc a i):=fun ho=>Zyo H ho.1 ht0 rfl
 have hok1:∀g,g<w.heap.size→Zaq C h L g→Zaq (Ctx.mut C.P w okA [] (L.loc a i)) (Zat (some ⟨e,sz,x⟩)) L1 g:=fun g hg ho=>.inl ⟨hg,ho,hg⟩
 have H1:HRel (Ctx.mut C.P w okA [] (L.loc a i)) (Zat (some ⟨e,sz,x⟩)) L1 w:=by
  refine⟨Below.refl _ _,fun b j _=>⟨Nat.zero_le _,(H.live a i ht0).2⟩,fun b j=>?_,fun b j c k hb1 hb2 _=>?_,fun b j hx=>?_,fun _ _ _=>rfl,Nat.zero_le _,H.good.mut H.below H.low (H.live a i ht0).1 (by rcases H.home a i ht0 with q |⟨_,_,q,_⟩;exact .inl q;exact .inr q)⟩
  ·rw[ZbK]
   split
   ·exact⟨h0,h1,h2,h3,fun _=>⟨cur,h4,h5,⟨h6.1,fun j u v hu hv=>((h6.2 j u v hu hv).okmono (fun g hg ho=>hok1 g hg ho)).pure (AV.pureL_mem (ZaY hxp) hu)⟩,h7⟩⟩
   ·trivial
  ·obtain⟨rfl,rfl⟩:=h00 _ x b j hb1
   obtain⟨rfl,rfl⟩:=h00 _ x c k hb2
   exact⟨rfl,rfl⟩
  ·obtain⟨rfl,rfl⟩:=h00 _ x b j hx
   exact .inr ⟨rfl,rfl,rfl,hno⟩
 have hrel1:RelL w (Zaq (Ctx.mut C.P w okA [] (L.loc a i)) (Zat (some ⟨e,sz,x⟩)) L1) (Zat (some ⟨e,sz,x⟩)) L1 (.row 0 0::args) vs.toList:=by
  refine⟨by have:=hrel.1;simpa using this,fun j u v hu hv=>?_⟩
  cases j with
  |zero=>
   simp at hu;subst hu
   have hr:=hrel.2 0 _ v rfl hv
   cases hr with
   |row _ _ ad n c hn hl=>
    obtain⟨had,rfl,rfl⟩:=hl.2 _ ht
    refine .row 0 0 _ _ _ hn ⟨by show 0<0+1;omega,fun s hs=>?_⟩
    rw[ZbK]at hs
    simp only[and_self,if_true,Blk.tag,Option.some.injEq]at hs
    subst hs
    exact⟨had,rfl,rfl⟩
  |succ j=>
   have hu':args[j]? =some u:=by simpa using hu
   exact((hrel.2 (j+1) u v (by simpa using hu') hv).okmono (fun g hg ho=>hok1 g hg ho)).pure (AV.pureL_mem hap hu')
 refine(hm w okA L1 vs (fun k hk=>hk.2) H1 hrel1).mono ?_
 rintro e' w' ⟨v,L',rfl,hF,H2,rr⟩
 have ht2:(blk (Zat (some ⟨e,sz,y⟩)) 0 0).tag=some (sz,y.elems.length):=rfl
 obtain⟨t1,l1,s1⟩:=hF.tags _ (by show 0<0+1;omega) ht2
 have l1:L'.loc 0 0=L.loc a i:=l1
 have s1:L'.size 0 0=L.size a i:=s1
 have hlen:y.elems.length=x.elems.length:=by
  have:(blk (Zat (some ⟨e,sz,x⟩)) 0 0).tag=some (sz,x.elems.length):=rfl
  rw[this]at t1
  simp only[Option.some.injEq,Prod.mk.injEq,true_and]at t1
  exact t1.symm
 have hgr:w.grownBy w' (some (L.loc a i)):=⟨H2.below.os,H2.below.tape,H2.below.output,hF.size,fun k hk hne=>H2.low k hk (fun e=>hne (by rw[e]))⟩
 have hok2:∀(hst:Step w (Zaq C h L) h L w' (Zaq C (ZaE h a i (.row e sz y)) L) (ZaE h a i (.row e sz y)) L) g,Zaq (Ctx.mut C.P w okA [] (L.loc a i)) (Zat (some ⟨e,sz,y⟩)) L' g→Zaq C (ZaE h a i (.row e sz y)) L g:=fun hst g ho=>by
  rcases ho with⟨q1,q2⟩ |⟨q1,q2⟩
  ·exact(hst.mem g q2.2 q2.1).1
  ·have q1:w.heap.size≤g:=q1
   refine .inr ⟨Nat.le_trans H.top q1,fun b j hx hxe=>?_⟩
   have:Plc h L b j:=by
    by_cases e1:a=b∧i=j
    ·obtain⟨rfl,rfl⟩:=e1;exact ht0
    ·exact hx.to (by rw[Zb0 hnd,if_neg e1]) rfl
   have:=(H.live b j this).2
   omega
 obtain⟨hst,H3⟩:=H.set (b:=.row e sz y) ht0 (by rw[ht];show some (sz,y.elems.length)=_;rw[hlen]) hgr (fun hst=>by
  have hbr:=H2.blks 0 0
  rw[show blk (Zat (some ⟨e,sz,y⟩)) 0 0=.row e sz y from rfl,l1,s1]at hbr
  obtain⟨g0,g1,g2,g3,hcur⟩:=hbr
  obtain⟨cur2,g4,g5,g6,g7⟩:=hcur hs0
  exact⟨g0,g1,g2,g3,fun _=>⟨cur2,g4,g5,⟨g6.1,fun j u v hu hv=>((g6.2 j u v hu hv).okmono (fun g _ ho=>hok2 hst g ho)).pure (AV.pureL_mem (ZaY hyp) hu)⟩,g7⟩⟩)
 refine⟨v,L,rfl,hst,H3,?_⟩
 have hbs:blk (ZaE h a i (.row e sz y)) a i=.row e sz y:=by rw[Zb0 hnd,if_pos ⟨rfl,rfl⟩]
 have hlv:∀ {p p':Nat→Nat×Nat→Prop},Live (Zat (some ⟨e,sz,y⟩)) L' 0 0 p→(∀s,p (L'.loc 0 0) s→p' (L.loc a i) s)→Live (ZaE h a i (.row e sz y)) L a i p':=fun hp hpp=>by
  refine⟨Ztk (by rw[hbs];simp),fun s hs=>?_⟩
  rw[hbs]at hs
  simp only[Blk.tag,Option.some.injEq]at hs
  subst hs
  exact hpp _ (hp.2 _ ht2)
 have key:r.pure=true→Zau C (ZaE h a i (.row e sz y)) L w' r v:=fun hp=>(rr.okmono (fun g _ ho=>hok2 hst g ho)).pure hp
 cases r with
 |row b j=>
  simp only[ZCj,Bool.and_eq_true]at hor
  have ha:=Nat.eq_of_beq_eq_true hor.1
  have hi:=Nat.eq_of_beq_eq_true hor.2
  subst ha;subst hi
  cases rr with
  |row _ _ ad n c hn hl=>exact .row a i ad n c hn (hlv hl fun s hp=>by rw[←s1,←l1];exact hp)
 |slc b j k n cap=>
  simp only[ZCj,Bool.and_eq_true]at hor
  have ha:=Nat.eq_of_beq_eq_true hor.1
  have hi:=Nat.eq_of_beq_eq_true hor.2
  subst ha;subst hi
  cases rr with
  |slc _ _ _ _ _ ad c hn hl=>exact .slc a i k n cap ad c hn (hlv hl fun s hp=>by rw[←s1,←l1];exact hp)
 |_=>exact key hor
end
section
variable {C:Ctx}{h:Zaa}{Q:List AFrame→Zaa→Prop}{f:AFrame}{fs:List AFrame}{k:List AItem}
theorem Zti{o:AOp}{os:List AOp}{g:FuncId}{mm:Bool}{a0 a i e sz:Nat}{args:List Opd}{x y:Row}{rest:List AV}{r:AV}(hr:f.ret=false)(ht:f.todo=.inReg (o::os)::k)(hg:o.g=none)(hk:o.k=.ncall mm a0 g args)
 (ha:args.map (Zbf (ZaA f.env))=.row a i::rest) (hb:blk h a i=.row e sz x) (hxn:0<x.elems.length) (hxp:x.pure=true) (hyp:y.pure=true) (hap:AV.pureL rest=true) (hor:ZCj r=true) (hm:ZK9 C.P g e sz x y rest r)
 (hq:Ev C ({ f with env:=Zr2 f.env o.d (ZKq a i r),todo:=.inReg os::k } ::fs) (ZaE h a i (.row e sz y)) Q):Ev C (f::fs) h Q:=by
 intro L fr cs w hf H _
 cases hf with
 |cons hf hkk=>
  rcases hf.mode with⟨e,_⟩ |⟨_,hmo,hi⟩
  ·rw[hr]at e;cases e
  ·rw[ht]at hi
   cases hi':fr.todo with
   |nil=>rw[hi']at hi;cases hi
   |cons z l=>
    rw[hi']at hi
    cases hi with
    |cons hx hki=>
     cases hx with
     |inReg ops ix _ hmc=>
      obtain⟨kk,ix',op,rfl,e1,e2,e3⟩:=Zfs hmc
      have henv:EnvF C h L w (ZaA f.env) fr.tmps:=hf.env
      obtain⟨g0,_,_⟩:=Zr9 henv e2
      have hwant:=g0 hg
      have e2':=e2
      simp only[ZuE,Bool.and_eq_true,beq_iff_eq]at e2'
      obtain⟨⟨⟨⟨hnd,hdst⟩,hdN⟩,_⟩,hmop⟩:=e2'
      have hdN':∀d',o.d=some d'→d'<fr.tmps.size:=fun d' e=>by rw[e]at hdN;rw[hf.size];simpa using hdN
      have e1':ops.toArray[kk]? =some op:=by simpa using e1
      have hfin:∀v,fr.finish v= { fr with tmps:=ZnU fr.tmps o.d v,todo:=.inRegion ops.toArray ix'::l } :=fun v=>by rw[ZhM hi' e1',hdst]
      have hρ:=ZFH henv
      rw[hk]at hmop
      simp only[mop]at hmop
      split at hmop
      ·rename_i f' args' ts ho
       simp only[Bool.and_eq_true,beq_iff_eq]at hmop
       obtain⟨⟨rfl,hmop⟩,hcal⟩:=hmop
       have hrel:=Zcn hρ hmop
       rw[ha]at hrel
       have hrun:(execOp fr.eval op).run C.P w=.ok (.enter g (args'.map fr.eval)) w:=by simpa using ZiW (w:=w) ho (hρ.fnc g) hcal
       have hcalls:=Zuf H hb hxn hxp hyp hap hrel hor hm
       obtain⟨v,w',⟨v',L',e,s,H',hv⟩,hst⟩:=ZpM (cs:=cs) hmo hi' e1' hwant hnd hrun hcalls (fun e w'' hh=>by obtain⟨x,_,e,_⟩:=hh;exact⟨x,e⟩)
       cases e
       rw[hfin]at hst
       have hfs:=hf.step s
       have he':EnvF C (ZaE h a i (.row _ sz y)) L' w' (Env.put (ZaA f.env) o.d (ZKq a i r)) (ZnU fr.tmps o.d v):=(EnvF.step s henv).put hdN' (fun _=>hv)
       obtain⟨fs2,h2',L2,fr2,cs2,w2,q2,n2,a2,b2,s2⟩:=hq L' { fr with tmps:=ZnU fr.tmps o.d v,todo:=.inRegion ops.toArray ix'::l } cs w'
        (.cons ⟨hf.fn,by rw[ZfN];exact hf.size,by intro t av hta;exact he' t av (by rw[←ZdW];exact hta),hf.kind,hfs.defs,hfs.rnd, .inr ⟨hr,hmo, .cons (.inReg ops ix' os e3) (hki.step s)⟩,hf.res⟩ (hkk.step s)) H' (by simp)
       exact⟨fs2,h2',L2,fr2,cs2,w2,q2,n2,a2,b2,hst.trans s2.1,(Fr.of s).trans s2.2⟩
      ·cases hmop
theorem ZyC{t a i e sz n:Nat}{r:Row}(ht:ZaA f.env t=some (.slc a i 0 n none))(hb:blk h a i=.row e sz r)(hz:Zos a=false)(hn:n≤r.elems.length)
 (hq:Ev C ({ f with env:=Zdo f.env t (.row a (nxt h a)) } ::fs) (Zai (ZaE h a i .dead) a (.row e sz (r.sub std 0 n))) Q):Ev C (f::fs) h Q:=by
 intro L fr cs w hf H _
 cases hf with
 |cons hf hk=>
  obtain⟨L',s,H',rr⟩:=H.shrink hb (Zdr hz) hn
  rw[(ZcK (show blk h a i≠ .dead by rw[hb];simp)).1]at rr
  have hfs:=hf.step s
  obtain⟨fs2,h2',L2,fr2,cs2,w2,q2,n2,a2,b2,s2⟩:=hq L' fr cs w (.cons ⟨hf.fn,hf.size,fun t' av ht'=>by
   rw[ZbZ]at ht'
   split at ht'
   ·rename_i htt
    subst htt
    cases ht'
    exact rr _ (hf.env _ _ ht)
   ·exact hfs.env t' av ht',hf.kind,hfs.defs,hfs.rnd,hfs.mode,hf.res⟩ (hk.step s)) H' (by simp)
  exact⟨fs2,h2',L2,fr2,cs2,w2,q2,n2,a2,b2,s2.1,(Fr.of s).trans s2.2⟩
end
end Go.Proofs.YtjhldefnjghcdaaGreat
namespace Go.Proofs.YtjhldefnjghcdaaGreat
open Go.RowKit (Below)
def ZKU:List (Nat×AV)→Nat→AV→List (Nat×AV)
 |[],_,_=>[]
 |(i,x)::l,t,y=>match Nat.beq i t with |true=>(i,y)::l |false=>(i,x)::ZKU l t y
theorem ZkQ:∀ {env:List (Nat×AV)} {t:Nat} {v:AV},ZaA env t=some v→ZKU env t v=env
 |[],t,v,h=>by cases h
 |(i,x)::l,t,v,h=>by
  simp only[ZaA]at h
  simp only[ZKU]
  split
  ·rename_i hb;rw[hb]at h;cases h;rfl
  ·rename_i hb;rw[hb]at h;rw[ZkQ h]
def asB(p b:Bool):Bool:=match p with |true=>b |false=>!b
theorem ZzO{p b:Bool}(h:asB p b=true):b=p:=by cases p<;>cases b<;>first |rfl |cases h
abbrev ZiF:=List (Nat×AV)
def ZwI(env:ZiF)(pa acc:List Bool)(t:Nat):Option (List Bool×List Bool×ZiF):=
 match ZaA env t with
 |some v=>(match v with
  | .bool b=>(match pa with
    |p::ps=>some (ps,asB p b::acc,ZKU env t (.bool p))
    |[]=>none)
  |_=>some (pa,acc,env))
 |none=>some (pa,acc,env)
theorem ZuH{env env':ZiF}{pa pa' acc acc':List Bool}{t:Nat}(h:ZwI env pa acc t=some (pa',acc',env'))(hb:∀b∈acc',b=true):env'=env∧∀b∈acc,b=true:=by
 unfold ZwI at h
 split at h
 ·rename_i v hv
  split at h
  ·rename_i b
   split at h
   ·rename_i p ps
    cases h
    have:=ZzO (hb _ List.mem_cons_self)
    subst this
    exact⟨ZkQ hv,fun b hb'=>hb b (List.mem_cons_of_mem _ hb')⟩
   ·cases h
  ·cases h;exact⟨rfl,hb⟩
 ·cases h;exact⟨rfl,hb⟩
def inN(t:Nat):List Nat→Bool
 |[]=>false
 |x::l=>match Nat.beq x t with |true=>true |false=>inN t l
def ZPo(d:Option Nat)(l:List Nat):List Nat:=match d with |none=>l |some t=>l.filter fun x=>!Nat.beq x t
abbrev ZFy:=Option (List Bool×List Bool×ZiF×List Nat)
def Zn3(st:List Nat)(env:ZiF)(pa acc:List Bool)(t:Nat):ZFy:=
 match inN t st with
 |true=>some (pa,acc,env,st)
 |false=>match ZwI env pa acc t with
  |none=>none
  |some (pa',acc',env')=>some (pa',acc',env',t::st)
theorem Zgn{st st':List Nat}{env env':ZiF}{pa pa' acc acc':List Bool}{t:Nat}(h:Zn3 st env pa acc t=some (pa',acc',env',st'))(hb:∀b∈acc',b=true):env'=env∧∀b∈acc,b=true:=by
 unfold Zn3 at h
 split at h
 ·cases h;exact⟨rfl,hb⟩
 ·split at h
  ·cases h
  ·rename_i hs;cases h;exact ZuH hs hb
def ZKS:Nat→List Bool→Option (Nat×List Bool)
 |_,[]=>none
 |j,b::pa=>match b with |true=>some (j,pa) |false=>ZKS (j+1) pa
def ZrP(A:Ar)(st:List Nat)(env:ZiF)(pa acc:List Bool)(t:Nat):ZFy:=
 match ZaA env t with
 |some v=>(match v with
  | .int k n=>(match ZKS 0 pa with
    |some (j,ps)=>some (ps,A.eq n (Int.ofNat j)::acc,ZKU env t (.int k (Int.ofNat j)),st)
    |none=>none)
  |_=>some (pa,acc,env,st))
 |none=>some (pa,acc,env,st)
theorem Zuj{st st':List Nat}{env env':ZiF}{pa pa' acc acc':List Bool}{t:Nat}(h:ZrP std st env pa acc t=some (pa',acc',env',st'))(hb:∀b∈acc',b=true):env'=env∧∀b∈acc,b=true:=by
 unfold ZrP at h
 split at h
 ·rename_i v hv
  split at h
  ·rename_i k n
   split at h
   ·rename_i j ps _
    cases h
    have e:std.eq n (Int.ofNat j)=true:=hb _ List.mem_cons_self
    have e:n=Int.ofNat j:=by simpa[std]using e
    subst e
    exact⟨ZkQ hv,fun b hb'=>hb b (List.mem_cons_of_mem _ hb')⟩
   ·cases h
  ·cases h;exact⟨rfl,hb⟩
 ·cases h;exact⟨rfl,hb⟩
def ZgM(A:Ar)(st:List Nat)(i:Opd)(env:ZiF)(pa acc:List Bool):ZFy:=
 match i with
 | .s t=>ZrP A st env pa acc t
 |_=>some (pa,acc,env,st)
theorem Zem{st st':List Nat}{i:Opd}{env env':ZiF}{pa pa' acc acc':List Bool}(h:ZgM std st i env pa acc=some (pa',acc',env',st'))(hb:∀b∈acc',b=true):env'=env∧∀b∈acc,b=true:=by
 unfold ZgM at h
 split at h
 ·exact Zuj h hb
 ·cases h;exact⟨rfl,hb⟩
def Zod(A:Ar)(st:List Nat)(k:OpK)(env:ZiF)(pa acc:List Bool):ZFy:=
 match k with
 | .aaddr _ _ _ i=>ZgM A st i env pa acc
 | .idxa _ _ _ i=>ZgM A st i env pa acc
 | .idx _ _ i=>ZgM A st i env pa acc
 | .iaddr _ _ i=>ZgM A st i env pa acc
 | .pick c _ _=>(match c with | .t n=>Zn3 st env pa acc n |_=>some (pa,acc,env,st))
 |_=>some (pa,acc,env,st)
theorem Zlb{st st':List Nat}{k:OpK}{env env':ZiF}{pa pa' acc acc':List Bool}(h:Zod std st k env pa acc=some (pa',acc',env',st'))(hb:∀b∈acc',b=true):env'=env∧∀b∈acc,b=true:=by
 unfold Zod at h
 split at h
 ·exact Zem h hb
 ·exact Zem h hb
 ·exact Zem h hb
 ·exact Zem h hb
 ·split at h
  ·exact Zgn h hb
  ·cases h;exact⟨rfl,hb⟩
 ·cases h;exact⟨rfl,hb⟩
def Zok(A:Ar)(st:List Nat)(o:AOp)(env:ZiF)(pa acc:List Bool):ZFy:=
 match o.g with
 |none=>Zod A st o.k env pa acc
 |some p=>match Zn3 st env pa acc p.1 with
  |none=>none
  |some (pa1,acc1,env1,st1)=>match ZfE o env1 with
   |some g=>(match g with |true=>Zod A st1 o.k env1 pa1 acc1 |false=>some (pa1,acc1,env1,st1))
   |none=>none
theorem Zhd{st st':List Nat}{o:AOp}{env env':ZiF}{pa pa' acc acc':List Bool}(h:Zok std st o env pa acc=some (pa',acc',env',st'))(hb:∀b∈acc',b=true):env'=env∧∀b∈acc,b=true:=by
 unfold Zok at h
 split at h
 ·exact Zlb h hb
 ·split at h
  ·cases h
  ·rename_i pa1 acc1 env1 st1 hs
   split at h
   ·split at h
    ·obtain⟨e1,h1⟩:=Zlb h hb
     obtain⟨e2,h2⟩:=Zgn hs h1
     exact⟨e1.trans e2,h2⟩
    ·cases h;exact Zgn hs hb
   ·cases h
structure Ctr where
 f:FuncId
 n:Nat
 run:List Bool→List AV→Option (Bool×AV×Option Fresh)
def ZCR(P:Program)(f:FuncId)(args:List AV)(r:AV)(fr:Option Fresh):Prop:=
 match Nat.blt f 1000000 with
 |true=>ZaK P f args r fr
 |false=>∀x rest fs,args=.list x::rest→fr=some fs→ZK9 P (f-1000000) fs.e fs.sz x fs.r rest r
def Ctr.OK(P:Program)(c:Ctr):Prop:=∀pa args r fr,c.run pa args=some (true,r,fr)→ZCR P c.f args r fr
def Zto:List Ctr→List Bool→Con
 |[],_,_,_=>none
 |c::l,pa,f,args=>match Nat.beq c.f f with
  |true=>(match Nat.blt f 1000000 with
   |true=>(match c.run pa args with |some r=>some r |none=>Zto l pa f args)
   |false=>none)
  |false=>Zto l pa f args
def ZFC:List Ctr→List Bool→FuncId→List AV→Option (Bool×AV×Option Fresh)
 |[],_,_,_=>none
 |c::l,pa,f,args=>match Nat.beq c.f (f+1000000)with
  |true=>(match c.run pa args with |some r=>some r |none=>ZFC l pa f args)
  |false=>ZFC l pa f args
def ZOK:List Ctr→FuncId→Nat
 |[],_=>0
 |c::l,f=>match Nat.beq c.f f with |true=>c.n |false=>ZOK l f
def Zar(P:Program):List Ctr→Prop
 |[]=>True
 |c::l=>c.OK P∧Zar P l
theorem ZjP{P:Program} :∀ {l:List Ctr},Zar P l→∀pa,Zg0 P (Zto l pa)
 |[],_,pa=>fun f args r fr h=>by cases h
 |c::l,⟨h1,h2⟩,pa=>fun f args r fr h=>by
  simp only[Zto]at h
  split at h
  ·rename_i e
   have e:c.f=f:=Nat.eq_of_beq_eq_true e
   split at h
   ·rename_i hlt
    split at h
    ·rename_i q hq
     cases h
     have:=h1 _ _ _ _ hq
     unfold ZCR at this
     rw[e,hlt]at this
     exact this
    ·exact ZjP h2 pa f args r fr h
   ·cases h
  ·exact ZjP h2 pa f args r fr h
theorem ZoL{P:Program} :∀ {l:List Ctr},Zar P l→∀ {pa:List Bool} {f:FuncId} {x:Row} {rest:List AV} {r:AV} {fs:Fresh},ZFC l pa f (.list x::rest)=some (true,r,some fs)→ZK9 P f fs.e fs.sz x fs.r rest r
 |[],_,pa,f,x,rest,r,fs,h=>by cases h
 |c::l,⟨h1,h2⟩,pa,f,x,rest,r,fs,h=>by
  simp only[ZFC]at h
  split at h
  ·rename_i e
   have e:c.f=f+1000000:=Nat.eq_of_beq_eq_true e
   split at h
   ·rename_i q hq
    cases h
    have:=h1 _ _ _ _ hq
    unfold ZCR at this
    have hb:Nat.blt c.f 1000000=false:=Zbd (by rw[e];exact Nat.le_add_left _ _)
    rw[hb]at this
    have h3:=this x rest fs rfl rfl
    rw[e,Nat.add_sub_cancel]at h3
    exact h3
   ·exact ZoL h2 h
  ·exact ZoL h2 h
theorem Zpw{α:Type}(t:Nat)(x y:α):∀l:List (Nat×α),Zdo (Zdo l t x) t y=Zdo l t y
 |[]=>by have:Nat.beq t t=true:=by simp
         simp only[Zdo,this]
 |(i,z)::l=>by
  have ht:Nat.beq t t=true:=by simp
  cases hb:Nat.beq i t with
  |true=>simp only[Zdo,hb]
  |false=>cases hl:Nat.blt t i with
   |true=>simp only[Zdo,hb,hl,ht]
   |false=>simp only[Zdo,hb,hl,Zpw t x y l]
def ZCr:AV→Option Nat
 | .slc _ _ k n c=>(match Nat.beq k 0,c with |true,none=>some n |_,_=>none)
 |_=>none
theorem Zt4{r:AV}{n a i:Nat}(h:ZCr r=some n):ZKq a i r=.slc a i 0 n none:=by
 unfold ZCr at h
 split at h
 ·rename_i b j k m c
  split at h
  ·rename_i hk
   have:=Nat.eq_of_beq_eq_true hk
   subst this
   cases h;rfl
  ·cases h
 ·cases h
def ZNA(A:Ar)(l:List Ctr)(pa:List Bool)(env:ZiF)(h:Zaa)(o:AOp):Option (Bool×AV×Zaa):=
 match o.g with
 |some _=>none
 |none=>match o.k with
  | .ncall _ _ g args=>match args.map (Zbf (ZaA env))with
    |v::rest=>match v with
     | .row a i=>match blk h a i with
       | .row e sz x=>match AV.pureL rest&&x.pure with
         |true=>match ZFC l pa g (.list x::rest)with
          |some (b,r,some fs)=>match fs.r.pure&&ZCj r with
           |true=>(match ZCr r,Zos a,o.d with
            |some n,false,some _=>some (Zac (Nat.blt 0 (x.len A))<|Zac (Nat.ble n (fs.r.len A)) (Zac b (Zac (Nat.beq fs.e e) (Nat.beq fs.sz sz))), .row a (nxt (ZaE h a i (.row e sz fs.r)) a),Zai (ZaE (ZaE h a i (.row e sz fs.r)) a i .dead) a (.row e sz (fs.r.sub A 0 n)))
            |_,_,_=>some (Zac (Nat.blt 0 (x.len A))<|Zac b (Zac (Nat.beq fs.e e) (Nat.beq fs.sz sz)),ZKq a i r,ZaE h a i (.row e sz fs.r)))
           |false=>none
          |_=>none
         |false=>none
       |_=>none
     |_=>none
    |[]=>none
  |_=>none
theorem ZAT{C:Ctx}{l:List Ctr}{pa:List Bool}{h h':Zaa}{Q:List AFrame→Zaa→Prop}{f:AFrame}{fs:List AFrame}{k:List AItem}{o:AOp}{os:List AOp}{r:AV}(hl:Zar C.P l)(hr:f.ret=false)(ht:f.todo=.inReg (o::os)::k)(hm:ZNA std l pa f.env h o=some (true,r,h'))
 (hq:Ev C ({ f with env:=Zr2 f.env o.d r,todo:=.inReg os::k } ::fs) h' Q):Ev C (f::fs) h Q:=by
 unfold ZNA at hm
 split at hm
 ·cases hm
 ·rename_i hg
  split at hm
  ·rename_i mm a0 g args hk
   split at hm
   ·rename_i v rest ha
    split at hm
    ·rename_i a i
     split at hm
     ·rename_i e sz x hb
      split at hm
      ·rename_i hp
       split at hm
       ·rename_i b r0 fs0 hc
        split at hm
        ·rename_i hp2
         simp only[Bool.and_eq_true]at hp hp2
         split at hm
         ·rename_i n d hpm hfz hd
          simp only[Option.some.injEq,Prod.mk.injEq,std_and]at hm
          obtain⟨⟨hxn,hle,rfl,he,hs⟩,rfl,rfl⟩:=hm
          have hxn:0<x.elems.length:=by rw[Row.len_std]at hxn;simpa[std]using hxn
          have he:fs0.e=e:=by simpa[std]using he
          have hs:fs0.sz=sz:=by simpa[std]using hs
          have hle:n≤fs0.r.elems.length:=by rw[Row.len_std]at hle;simpa[std]using hle
          have hmu:=ZoL hl hc
          rw[he,hs]at hmu
          have hnd:blk h a i≠ .dead:=by rw[hb];simp
          refine Zti hr ht hg hk ha hb hxn hp.2 hp2.1 hp.1 hp2.2 hmu ?_
          rw[Zt4 hpm]
          refine ZyC (t:=d) (a:=a) (i:=i) (e:=e) (sz:=sz) (n:=n) (r:=fs0.r) ?_ (by rw[Zb0 hnd,if_pos ⟨rfl,rfl⟩]) hfz hle ?_
          ·simp only[hd,Zr2,ZbZ,if_true]
          ·simp only[hd,Zr2,Zpw]at hq⊢
           exact hq
         ·simp only[Option.some.injEq,Prod.mk.injEq,std_and]at hm
          obtain⟨⟨hxn,rfl,he,hs⟩,rfl,rfl⟩:=hm
          have hxn:0<x.elems.length:=by rw[Row.len_std]at hxn;simpa[std]using hxn
          have he:fs0.e=e:=by simpa[std]using he
          have hs:fs0.sz=sz:=by simpa[std]using hs
          have hmu:=ZoL hl hc
          rw[he,hs]at hmu
          exact Zti hr ht hg hk ha hb hxn hp.2 hp2.1 hp.1 hp2.2 hmu hq
        ·cases hm
       ·cases hm
      ·cases hm
     ·cases hm
    ·cases hm
   ·cases hm
  ·cases hm
def ZEo(o:AOp)(env:ZiF):Option FuncId:=
 match o.k with
 | .ncall _ _ f _=>some f
 | .ncallv _ _ x _=>(match ZB8 (Zbf (ZaA env) x) []with |some (f,_)=>some f |none=>none)
 |_=>none
def Zp2(l:List Ctr)(o:AOp)(env:ZiF)(pa:List Bool):List Bool:=
 match ZEo o env with
 |none=>pa
 |some f=>match ZfE o env with
  |some g=>(match g with |true=>pa.drop (ZOK l f) |false=>pa)
  |none=>pa
def ZoI(A:Ar)(T:Tab)(l:List Ctr):List AOp→List Nat→List Bool→List Bool→ZiF→Zaa→Option (List Bool×List Bool×ZiF×Zaa×List Foot)
 |[],_,pa,acc,env,h=>some (pa,acc,env,h,[])
 |o::os,st,pa,acc,env,h=>match Zok A st o env pa acc with
  |none=>none
  |some (pa1,acc1,env1,st1)=>match ZiU A T (Zto l pa1) o env1 h with
   |none=>none
   |some (b,r,h1)=>match ZoI A T l os (ZPo o.d st1) (Zp2 l o env1 pa1) (b::acc1) (Zr2 env1 o.d r) h1 with
    |none=>none
    |some (pa2,acc2,env2,h2,zs)=>some (pa2,acc2,env2,h2,Znw env1 h o::zs)
def Zsb(fr:List (Nat×Nat))(zs:List Foot):Bool:=match fr with |[]=>true |fr=>ZtG zs fr
abbrev ZEx:=Option (List Bool×List Bool×AFrame×List AFrame×Zaa)
def Zpv(pa:List Bool):Zur→ZEx
 |none=>none
 |some (acc,f,fs,h)=>some (pa,acc,f,fs,h)
def ZOT(A:Ar)(T:Tab)(l:List Ctr)(pa acc:List Bool)(f:AFrame)(k:List AItem)(fs:List AFrame)(h:Zaa)(fr:List (Nat×Nat))(ops:List AOp):ZEx:=
 match ZqN fr with
 |true=>none
 |false=>match Zp0 ops with
  |false=>(match ZoI A T l ops [] pa acc f.env h with
   |none=>none
   |some (pa',acc',env',h',zs)=>match Zsb fr zs with
    |true=>some (pa',acc',{ f with env:=env',todo:=k },fs,h')
    |false=>none)
  |true=>match ZoI A T l (ops.take (ZcE ops)) [] pa acc f.env h with
   |none=>none
   |some (pa',acc',env',h',zs)=>match Zsb fr zs with
    |true=>some (pa',acc',{ f with env:=env',todo:=.inReg (ops.drop (ZcE ops))::k },fs,h')
    |false=>none
def opG(A:Ar)(T:Tab)(l:List Ctr)(pa acc:List Bool)(o:AOp)(os:List AOp)(f:AFrame)(k:List AItem)(fs:List AFrame)(h:Zaa):ZEx:=
 match ZNA A l pa f.env h o with
 |some (b,r,h2)=>some (pa,b::acc,{ f with env:=Zr2 f.env o.d r,todo:=.inReg os::k },fs,h2)
 |none=>match Zok A [] o f.env pa acc with
 |none=>none
 |some (pa1,acc1,env1,_)=>match ZM4 A T (Zto l pa1) acc1 o os { f with env:=env1 } k fs h with
  |none=>none
  |some (acc2,f2,fs2,h2)=>some (Zp2 l o env1 pa1,acc2,f2,fs2,h2)
def ZHe(pa acc:List Bool)(f:AFrame)(k:List AItem)(fs:List AFrame)(h:Zaa)(v:AV)(a b:ACode):ZEx:=
 match v with
 | .bool t=>(match pa with
   |p::ps=>some (ps,asB p t::acc,{ f with todo:=.code (ZOd p a b)::k },fs,h)
   |[]=>none)
 |_=>none
def Zzb(A:Ar)(T:Tab)(l:List Ctr)(pa acc:List Bool)(f:AFrame)(fs:List AFrame)(h:Zaa):ZEx:=
 match f.ret with
 |true=>Zpv pa (ZiL A T (Zto l pa) acc f fs h)
 |false=>match f.todo with
  |[]=>Zpv pa (ZiL A T (Zto l pa) acc f fs h)
  |it::k=>match it with
   | .inReg os=>(match os with
     |[]=>Zpv pa (ZiL A T (Zto l pa) acc f fs h)
     |o::os=>opG A T l pa acc o os f k fs h)
   | .code c=>(match c with
     | .cond c a b=>ZHe pa acc f k fs h (Zbf (ZaA f.env) c) a b
     | .reg d ops=>(match d with
       |some fr=>ZOT A T l pa acc f k fs h fr ops
       |none=>Zpv pa (ZiL A T (Zto l pa) acc f fs h))
     |_=>Zpv pa (ZiL A T (Zto l pa) acc f fs h))
   |_=>Zpv pa (ZiL A T (Zto l pa) acc f fs h)
def Zki(A:Ar)(T:Tab)(l:List Ctr):Nat→List Bool→List Bool→AFrame→List AFrame→Zaa→Option ASt
 |0,_,acc,f,fs,h=>some (acc,f,fs,h)
 |n+1,pa,acc,f,fs,h=>match Zzb A T l pa acc f fs h with
  |none=>none
  |some (pa',acc',f',fs',h')=>Zki A T l n pa' acc' f' fs' h'
section
variable {C:Ctx}{T:Tab}{l:List Ctr}{h h':Zaa}{f f':AFrame}{fs fs':List AFrame}{k:List AItem}{Q:List AFrame→Zaa→Prop}{pa pa' acc acc':List Bool}
theorem ZfC:∀ {os:List AOp} {st:List Nat} {pa pa' acc acc':List Bool} {env env':ZiF} {h h':Zaa} {zs:List Foot},ZoI std T l os st pa acc env h=some (pa',acc',env',h',zs)→(∀b∈acc',b=true)→∀b∈acc,b=true
 |[],st,pa,pa',acc,acc',env,env',h,h',zs,hd,hb=>by simp only[ZoI,Option.some.injEq,Prod.mk.injEq]at hd;obtain⟨_,rfl,_⟩:=hd;exact hb
 |o::os,st,pa,pa',acc,acc',env,env',h,h',zs,hd,hb=>by
  simp only[ZoI]at hd
  split at hd
  ·cases hd
  ·rename_i hs
   split at hd
   ·cases hd
   ·split at hd
    ·cases hd
    ·rename_i hr
     cases hd
     have:=ZfC hr hb
     exact(Zhd hs (fun b hb'=>this b (List.mem_cons_of_mem _ hb'))).2
theorem Ze8(hT:ZbM C.P T)(hl:Zar C.P l):∀ {os:List AOp} {st:List Nat} {pa pa' acc acc':List Bool} {env env':ZiF} {h h':Zaa} {zs:List Foot},ZoI std T l os st pa acc env h=some (pa',acc',env',h',zs)→(∀b∈acc',b=true)→zs.map (·.o)=os∧Runs C.P zs (ZaA env) h (ZaA env') h'
 |[],st,pa,pa',acc,acc',env,env',h,h',zs,hd,_=>by simp only[ZoI,Option.some.injEq,Prod.mk.injEq]at hd;obtain⟨_,_,rfl,rfl,rfl⟩:=hd;exact⟨rfl, .nil _ _⟩
 |o::os,st,pa,pa',acc,acc',env,env',h,h',zs,hd,hb=>by
  simp only[ZoI]at hd
  split at hd
  ·cases hd
  ·rename_i pa1 acc1 env1 st1 hs
   split at hd
   ·cases hd
   ·rename_i b r h1 ho
    split at hd
    ·cases hd
    ·rename_i hr
     cases hd
     have ha:=ZfC hr hb
     obtain⟨i1,i2⟩:=Ze8 hT hl hr hb
     obtain⟨e,_⟩:=Zhd hs (fun b hb'=>ha b (List.mem_cons_of_mem _ hb'))
     subst e
     have hbt:=ha b List.mem_cons_self
     subst hbt
     rw[ZdW]at i2
     have:=Zb8 hT (ZjP hl pa1) (ZiA ho)
     exact⟨by simp[Znw,i1], .cons ⟨this,fun x hx p hp=>by simp only[Znw,List.mem_flatMap];exact⟨x,hx,hp⟩,ZoU this⟩ i2⟩
theorem ZkT{fr:List (Nat×Nat)}{zs:List Foot}(hb:Zsb fr zs=true):∀(i j:Nat) (x z:Foot),(i,j)∈fr→zs[i]? =some x→zs[j]? =some z→Ztv x z:=by
 unfold Zsb at hb
 split at hb
 ·intro i j x z hm;simp at hm
 ·exact Zh0 hb
def Zvs(C:Ctx)(Q:List AFrame→Zaa→Prop)(acc:List Bool)(f:AFrame)(fs:List AFrame)(h:Zaa)(r:ZEx):Prop:=
 ∀pa' acc' f' fs' h',r=some (pa',acc',f',fs',h')→(∀b∈acc',b=true)→Ev C (f'::fs') h' Q→(∀b∈acc,b=true)∧Ev C (f::fs) h Q
theorem Zrb{r:Zur}(hs:ZiK C Q acc f fs h r):Zvs C Q acc f fs h (Zpv pa r):=by
 intro pa' acc' f' fs' h' he hb hq
 cases r with
 |none=>cases he
 |some p=>obtain⟨a,b,c,d⟩:=p;cases he;exact hs _ _ _ _ rfl hb hq
theorem Zj1(hfol:C.P.follows .mixedOrders=true)(hT:ZbM C.P T)(hl:Zar C.P l):Zvs C Q acc f fs h (Zzb std T l pa acc f fs h):=by
 have base:Zvs C Q acc f fs h (Zpv pa (ZiL std T (Zto l pa) acc f fs h)):=Zrb (Zkf hfol hT (ZjP hl pa))
 unfold Zzb
 split
 ·exact base
 ·rename_i hr
  split
  ·exact base
  ·rename_i it k ht
   split
   ·split
    ·exact base
    ·rename_i o os
     intro pa' acc' f' fs' h' he hb hq
     unfold opG at he
     split at he
     ·rename_i bm rm hm2 hmr
      cases he
      have hbt:=hb bm List.mem_cons_self
      subst hbt
      exact⟨fun b hb'=>hb b (List.mem_cons_of_mem _ hb'),ZAT hl hr ht hmr hq⟩
     split at he
     ·cases he
     ·rename_i pa1 acc1 env1 st1 hs
      split at he
      ·cases he
      ·rename_i acc2 f2 fs2 h2 ho
       cases he
       have key:(∀b∈acc1,b=true)→env1=f.env∧∀b∈acc,b=true:=fun h1=>Zhd hs h1
       have hsd:=Zt7 (Q:=Q) hT (ZjP hl pa1) (f:={ f with env:=env1 }) (acc:=acc1) (fs:=fs) (h:=h) (k:=k) (o:=o) (os:=os) hr ht _ _ _ _ ho hb hq
       obtain⟨e,h3⟩:=key hsd.1
       refine⟨h3,?_⟩
       have:=hsd.2
       rw[e]at this
       exact this
   ·rename_i c
    split
    ·rename_i c a b
     intro pa' acc' f' fs' h' he hb hq
     unfold ZHe at he
     split at he
     ·rename_i t hc
      split at he
      ·rename_i p ps
       cases he
       have:=ZzO (hb _ List.mem_cons_self)
       subst this
       exact⟨fun b hb'=>hb b (List.mem_cons_of_mem _ hb'),Zq4 hr ht hc (by cases t<;>exact hq)⟩
      ·cases he
     ·cases he
    ·split
     ·rename_i ops fr
      intro pa' acc' f' fs' h' he hb hq
      unfold ZOT at he
      split at he
      ·cases he
      rename_i hany
      split at he
      ·rename_i hni
       split at he
       ·cases he
       ·rename_i pa1 acc1 env1 h1 zs hd
        split at he
        ·rename_i hfree
         cases he
         obtain⟨d1,d2⟩:=Ze8 hT hl hd hb
         have hc:=Zij hni
         refine⟨ZfC hd hb,Zot hfol hany hr ht (by rw[hc,List.take_length];exact d1) (fun i j x z hm hx hz _=>ZkT hfree i j x z hm hx hz) d2 (fun _ _ e=>e) ?_⟩
         rw[hc,List.drop_length]
         exact Zja hr rfl hq
        ·cases he
      ·split at he
       ·cases he
       ·rename_i pa1 acc1 env1 h1 zs hd
        split at he
        ·rename_i hfree
         cases he
         obtain⟨d1,d2⟩:=Ze8 hT hl hd hb
         exact⟨ZfC hd hb,Zot hfol hany hr ht d1 (fun i j x z hm hx hz _=>ZkT hfree i j x z hm hx hz) d2 (fun _ _ e=>e) hq⟩
        ·cases he
     ·exact base
    ·exact base
   ·exact base
theorem ZbS(hfol:C.P.follows .mixedOrders=true)(hT:ZbM C.P T)(hl:Zar C.P l):∀(n:Nat) {pa acc:List Bool} {f:AFrame} {fs:List AFrame} {h:Zaa},ZiK C Q acc f fs h (Zki std T l n pa acc f fs h)
 |0,pa,acc,f,fs,h=>by
  intro acc' f' fs' h' he hb hq
  simp only[Zki,Option.some.injEq,Prod.mk.injEq]at he
  obtain⟨rfl,rfl,rfl,rfl⟩:=he
  exact⟨hb,hq⟩
 |n+1,pa,acc,f,fs,h=>by
  intro acc' f' fs' h' he hb hq
  simp only[Zki]at he
  split at he
  ·cases he
  ·rename_i pa1 acc1 f1 fs1 h1 hs
   obtain⟨hb1,hq1⟩:=ZbS hfol hT hl n _ _ _ _ he hb hq
   exact Zj1 hfol hT hl _ _ _ _ _ hs hb1 hq1
end
end Go.Proofs.YtjhldefnjghcdaaGreat
namespace Go.Proofs.YtjhldefnjghcdaaGreat
open Go.RowKit (Below)
def ZsB(a:Nat):Bool:=Nat.ble 1000000 a
mutual
def AV.ren(σ:Nat→Nat→Option Nat):AV→AV
 | .ptr a i k o=>match σ a i with |some j=>.ptr a j k o |none=>.top
 | .row a i=>match σ a i with |some j=>.row a j |none=>.top
 | .slc a i k n c=>match σ a i with |some j=>.slc a j k n c |none=>.top
 | .aslc a i k o n=>match σ a i with |some j=>.aslc a j k o n |none=>.top
 | .yld a i=>match σ a i with |some j=>.yld a j |none=>.top
 | .mp a i=>match σ a i with |some j=>.mp a j |none=>.top
 | .emp=>.emp
 | .err b=>.err b
 | .agg r=>.agg (Row.ren σ r)
 | .tup xs=>.tup (AV.renL σ xs)
 | .fn f xs=>.fn f (AV.renL σ xs)
 | .mth f x=>.mth f (AV.ren σ x)
 | .int k n=>.int k n
 | .bool b=>.bool b
 | .str s=>.str s
 | .flt k b=>.flt k b
 | .val v=>.val v
 | .nils=>.nils
 | .list r=>.list r
 | .eptr x o=>.eptr x o
 | .und=>.und
 | .top=>.top
def AV.renL(σ:Nat→Nat→Option Nat):List AV→List AV
 |[]=>[]
 |x::xs=>AV.ren σ x::AV.renL σ xs
def Row.ren(σ:Nat→Nat→Option Nat):Row→Row
 | .gen xs=>.gen (AV.renL σ xs)
 | .ints k l=>.ints k l
 | .flts k l=>.flts k l
 | .big sh xs=>.big sh xs
 | .refs a p=>match ZsB a with |true=>.refs a p |false=>.gen (p.map fun i=>match σ a i with |some j=>.row a j |none=>.top)
end
section
variable {σ:Nat→Nat→Option Nat}
theorem ZfD:∀xs:List AV,AV.renL σ xs=xs.map (AV.ren σ)
 |[]=>rfl
 |x::xs=>by rw[AV.renL,ZfD xs];rfl
theorem Zpp(s:Sh)(v:AV):AV.ren σ (s.view1 v)=s.view1 v:=by cases s<;>rfl
theorem ZpQ:∀(ss:List Sh) (i:Nat) (v:AV),AV.renL σ (Zfh ss i v)=Zfh ss i v
 |[],_,_=>rfl
 |s::ss,i,v=>by rw[Zfh,AV.renL,Zpp,ZpQ ss]
theorem Zzd(s:Sh)(v:AV):AV.ren σ (s.view v)=s.view v:=by
 cases s with
 |agg ss=>simp only[Sh.view,AV.ren,Row.ren,ZpQ]
 |_=>simp only[Sh.view];exact Zpp _ _
theorem Zc1(hσ:∀a i,ZsB a=true→σ a i=some i)(r:Row):(Row.ren σ r).elems=r.elems.map (AV.ren σ):=by
 cases r with
 |gen xs=>rw[Row.ren,Row.elems,Row.elems,ZfD]
 |ints k l=>rw[Row.ren,Row.elems,List.map_map];rfl
 |flts k l=>rw[Row.ren,Row.elems,List.map_map];rfl
 |big sh xs=>rw[Row.ren,Row.elems,List.map_map];exact List.map_congr_left fun v _=>(Zzd sh v).symm
 |refs a p=>
  rw[Row.ren]
  cases hb:ZsB a with
  |true=>
   simp only[Row.elems,List.map_map]
   exact List.map_congr_left fun i _=>by simp only[Function.comp,AV.ren,hσ a i hb]
  |false=>
   simp only[Row.elems,List.map_map]
   exact List.map_congr_left fun i _=>by simp only[Function.comp,AV.ren]
theorem ZAO(r:Row):(Row.ren σ r).elems.length=r.elems.length:=by
 cases r with
 |gen xs=>rw[Row.ren,Row.elems,Row.elems,ZfD,List.length_map]
 |refs a p=>rw[Row.ren];cases ZsB a<;>simp[Row.elems]
 |_=>rfl
theorem ZsA(hσ:∀a i,ZsB a=true→σ a i=some i)(v:AV):(AV.ren σ v).flat=v.flat.map (AV.ren σ):=by
 cases v with
 |agg r=>simp only[AV.ren,AV.flat,Zc1 hσ]
 |ptr a i k o=>simp only[AV.ren];split<;>simp_all[AV.flat,AV.ren]
 |row a i=>simp only[AV.ren];split<;>simp_all[AV.flat,AV.ren]
 |slc a i k n c=>simp only[AV.ren];split<;>simp_all[AV.flat,AV.ren]
 |aslc a i k o n=>simp only[AV.ren];split<;>simp_all[AV.flat,AV.ren]
 |yld a i=>simp only[AV.ren];split<;>simp_all[AV.flat,AV.ren]
 |mp a i=>simp only[AV.ren];split<;>simp_all[AV.flat,AV.ren]
 |_=>rfl
theorem Zrj(hσ:∀a i,ZsB a=true→σ a i=some i)(xs:List AV):Zag (xs.map (AV.ren σ))=(Zag xs).map (AV.ren σ):=by
 induction xs with
 |nil=>rfl
 |cons x xs ih=>rw[List.map_cons,Zay,Zay,List.map_append,ih,ZsA hσ]
end
structure Good (h:Zaa) (L:Lay) (h':Zaa) (L':Lay) (σ:Nat→Nat→Option Nat):Prop where
 fwd:∀a i j,σ a i=some j→i<nxt h a→j<nxt h' a∧(∀sz,(blk h' a j).tag=some sz→(blk h a i).tag=some sz)∧L'.loc a j=L.loc a i∧L'.size a j=L.size a i
 bwd:∀a j,Plc h' L' a j→∃i,Plc h L a i∧L'.loc a j=L.loc a i
 big:∀a i,ZsB a=true→σ a i=some i
section
variable {C:Ctx}{h h':Zaa}{L L':Lay}{w:World}{σ:Nat→Nat→Option Nat}{ok ok':Nat→Prop}
theorem Good.okk(G:Good h L h' L' σ){g:Nat}(ho:Zaq C h L g):Zaq C h' L' g:=by
 rcases ho with ho |⟨h1,h2⟩
 ·exact .inl ho
 ·refine .inr ⟨h1,fun a j ht e=>?_⟩
  obtain⟨i,hi,hl⟩:=G.bwd a j ht
  exact h2 a i hi (hl.symm.trans e)
theorem Live.ren(G:Good h L h' L' σ){a i j:Nat}(hs:σ a i=some j){p p':Nat→Nat×Nat→Prop}(hl:Live h L a i p)(hp:∀sz,L'.size a j=L.size a i→p (L.loc a i) sz→p' (L.loc a i) sz):Live h' L' a j p':=by
 obtain⟨g1,g2,g3,g4⟩:=G.fwd a i j hs hl.1
 exact⟨g1,fun sz ht=>by rw[g3];exact hp sz g4 (hl.2 sz (g2 sz ht))⟩
theorem Rel.ren(G:Good h L h' L' σ)(hok:∀g,ok g→ok' g){av:AV}{v:Value}(hr:Rel w ok h L av v):Rel w ok' h' L' (AV.ren σ av) v:=by
 induction hr with
 |int k n=>exact .int k n
 |bool b=>exact .bool b
 |str x=>exact .str x
 |flt k b=>exact .flt k b
 |val v=>exact .val v
 |nils=>exact .nils
 |nil r a c hr=>exact .nil r a c hr
 |list r xs hx ad n cap sz cs hb ho hn hcap hsz hl h1 hc hp hr ih=>
  exact .list r xs hx ad n cap sz cs hb (hok _ ho) hn hcap hsz hl h1 hc hp (fun j u v hu hv=>((hr j u v hu hv).okmono (fun g _ ho=>hok g ho)).pure (AV.pureL_mem hp hu))
 |eptr x off ad cs hs hb ho hl h1 hc hp hr ih=>
  exact .eptr x off ad cs hs hb (hok _ ho) hl h1 hc hp (fun j u v hu hv=>((hr j u v hu hv).okmono (fun g _ ho=>hok g ho)).pure (AV.pureL_mem hp hu))
 |agg r xs hx vs hl h1 hr ih=>
  rw[AV.ren]
  refine .agg _ (xs.map (AV.ren σ)) (by rw[Zc1 G.big,hx]) vs (by simpa using hl) h1 (fun j u v hu hv=>?_)
  rw[List.getElem?_map]at hu
  cases hxj:xs[j]? with
  |none=>rw[hxj]at hu;cases hu
  |some z=>rw[hxj]at hu;simp only[Option.map_some,Option.some.injEq]at hu;subst hu;exact ih j z v hxj hv
 |tup xs vs hl hr ih=>
  rw[AV.ren,ZfD]
  refine .tup _ vs (by simpa using hl) (fun j u v hu hv=>?_)
  rw[List.getElem?_map]at hu
  cases hxj:xs[j]? with
  |none=>rw[hxj]at hu;cases hu
  |some z=>rw[hxj]at hu;simp only[Option.map_some,Option.some.injEq]at hu;subst hu;exact ih j z v hxj hv
 |mth f x v hr ih=>exact .mth f _ v ih
 |fn f xs vs hl hr ih=>
  rw[AV.ren,ZfD]
  refine .fn f _ vs (by simpa using hl) (fun j u v hu hv=>?_)
  rw[List.getElem?_map]at hu
  cases hxj:xs[j]? with
  |none=>rw[hxj]at hu;cases hu
  |some z=>rw[hxj]at hu;simp only[Option.map_some,Option.some.injEq]at hu;subst hu;exact ih j z v hxj hv
 |ptr a i k off g o hl=>
  rw[AV.ren]
  cases hs:σ a i with
  |none=>exact .top _
  |some j=>exact .ptr a j k off g o (hl.ren G hs fun _ _ h=>h)
 |row a i ad n c hn hl=>
  rw[AV.ren]
  cases hs:σ a i with
  |none=>exact .top _
  |some j=>exact .row a j ad n c hn (hl.ren G hs fun _ e h=>by rw[e];exact h)
 |slc a i k n cap ad c hn hl=>
  rw[AV.ren]
  cases hs:σ a i with
  |none=>exact .top _
  |some j=>exact .slc a j k n cap ad c hn (hl.ren G hs fun _ e h=>by rw[e];exact h)
 |aslc a i k off n g o c hn hl=>
  rw[AV.ren]
  cases hs:σ a i with
  |none=>exact .top _
  |some j=>exact .aslc a j k off n g o c hn (hl.ren G hs fun _ _ h=>h)
 |yld a i g hl=>
  rw[AV.ren]
  cases hs:σ a i with
  |none=>exact .top _
  |some j=>exact .yld a j g (hl.ren G hs fun _ _ h=>h)
 |mp a i g hl=>
  rw[AV.ren]
  cases hs:σ a i with
  |none=>exact .top _
  |some j=>exact .mp a j g (hl.ren G hs fun _ _ h=>h)
 |err b v he=>exact .err b v he
 |emp ad=>exact .emp ad
 |und=>exact .und
 |top v=>exact .top v
def ZjQ(σ:Nat→Nat→Option Nat):ZiF→ZiF
 |[]=>[]
 |(t,v)::l=>(t,AV.ren σ v)::ZjQ σ l
theorem ZjJ:∀(env:ZiF) (t:Nat),ZaA (ZjQ σ env) t=(ZaA env t).map (AV.ren σ)
 |[],t=>rfl
 |(i,x)::l,t=>by
  simp only[ZjQ,ZaA]
  split
  ·rfl
  ·exact ZjJ l t
theorem EnvRel.ren(G:Good h L h' L' σ){env:ZiF}{tmps:Array Value}(he:EnvRel C h L w env tmps):EnvRel C h' L' w (ZjQ σ env) tmps:=by
 intro t av ht
 rw[ZjJ]at ht
 cases hx:ZaA env t with
 |none=>rw[hx]at ht;cases ht
 |some u=>rw[hx]at ht;simp only[Option.map_some,Option.some.injEq]at ht;subst ht;exact(he t u hx).ren G (fun g ho=>G.okk ho)
def Blk.ren(σ:Nat→Nat→Option Nat):Blk→Blk
 | .row e sz r=>.row e sz (Row.ren σ r)
 | .lp l=>.lp { l with env:=ZjQ σ l.env }
 | .dfr=>.dfr
 | .mp ks=>.mp ks
 | .dead=>.dead
theorem Blk.ren_tag(b:Blk):(b.ren σ).tag=b.tag:=by
 cases b with
 |row e sz r=>simp only[Blk.ren,Blk.tag,ZAO]
 |_=>rfl
theorem BRel.ren(G:Good h L h' L' σ){g n:Nat}{b:Blk}(hb:BRel C h L w g n b):BRel C h' L' w g n (b.ren σ):=by
 cases b with
 |row e sz r=>
  obtain⟨h0,h1,h2,h3,hcur⟩:=hb
  refine⟨h0,h1,by rw[Zc1 G.big,List.length_map];exact h2,fun x hx=>?_,fun hn=>?_⟩
  ·rw[Zc1 G.big]at hx
   obtain⟨y,hy,rfl⟩:=List.mem_map.1 hx
   rw[ZsA G.big,List.length_map];exact h3 y hy
  ·obtain⟨cur,h4,h5,h6,h7⟩:=hcur hn
   refine⟨cur,h4,h5,?_,by rw[Zc1 G.big,List.length_map];exact h7⟩
   rw[Zc1 G.big,List.length_map,Zrj G.big]
   refine⟨by rw[List.length_map];exact h6.1,fun j u v hu hv=>?_⟩
   rw[List.getElem?_map]at hu
   cases hx:(Zag r.elems)[j]? with
   |none=>rw[hx]at hu;cases hu
   |some z=>rw[hx]at hu;simp only[Option.map_some,Option.some.injEq]at hu;subst hu;exact(h6.2 j z v hx hv).ren G (fun g ho=>G.okk ho)
 |lp l=>
  obtain⟨r,h1,h2,h3,h4,h5,h6,h7,h8,h9⟩:=hb
  exact⟨r,h1,h2,h3,h4,h5.ren G,h6,h7,h8,h9⟩
 |dfr=>exact hb
 |mp ks=>exact hb
 |dead=>trivial
def ZyB(σ:Nat→Nat→Option Nat):AItem→Option AItem
 | .inRF a i=>match σ a i with |some j=>some (.inRF a j) |none=>none
 | .endRF a i=>match σ a i with |some j=>some (.endRF a j) |none=>none
 | .code c=>some (.code c)
 | .inBlock i=>some (.inBlock i)
 | .inLoop b=>some (.inLoop b)
 | .inReg os=>some (.inReg os)
 | .beginRound=>some .beginRound
def Zng(σ:Nat→Nat→Option Nat):List AItem→Option (List AItem)
 |[]=>some []
 |x::k=>match ZyB σ x with
  |none=>none
  |some y=>match Zng σ k with |some l=>some (y::l) |none=>none
def ZxX(σ:Nat→Nat→Option Nat):List (Nat×Nat)→Option (List (Nat×Nat))
 |[]=>some []
 |(a,i)::k=>match σ a i with
  |none=>none
  |some j=>match ZxX σ k with |some l=>some ((a,j)::l) |none=>none
def Zz7(σ:Nat→Nat→Option Nat):Option (Nat×Nat)→Option (Option (Nat×Nat))
 |none=>some none
 |some (a,i)=>match σ a i with |some j=>some (some (a,j)) |none=>none
def ZD5:AItem→Bool
 | .inRF _ _=>false
 | .endRF _ _=>false
 |_=>true
def Zga:List AItem→Bool
 |[]=>true
 |x::k=>match ZD5 x with |true=>Zga k |false=>false
def ZNP(σ:Nat→Nat→Option Nat)(f:AFrame):Option AFrame:=
 match ZxX σ f.defs with
 |none=>none
 |some ds=>match Zz7 σ f.rnd with
  |none=>none
  |some rd=>match Zga f.todo with
   |true=>some { f with env:=ZjQ σ f.env,defs:=ds,rnd:=rd }
   |false=>match Zng σ f.todo with
    |none=>none
    |some td=>some { f with env:=ZjQ σ f.env,todo:=td,defs:=ds,rnd:=rd }
def Zxa(σ:Nat→Nat→Option Nat):List AFrame→Option (List AFrame)
 |[]=>some []
 |f::fs=>match ZNP σ f with
  |none=>none
  |some g=>match Zxa σ fs with |some gs=>some (g::gs) |none=>none
theorem ItRel.ren{P:Program}{N:Nat}(G:Good h L h' L' σ){x x':AItem}{y:Item}(hr:ZyB σ x=some x')(hx:ItRel P h L N x y):ItRel P h' L' N x' y:=by
 cases hx with
 |code a c hm=>cases hr;exact .code a c hm
 |inBlock id=>cases hr;exact .inBlock id
 |inLoop a c hm=>cases hr;exact .inLoop a c hm
 |inReg ops k aos hm=>cases hr;exact .inReg ops k aos hm
 |beginRound=>cases hr;exact .beginRound
 |inRF a i g hl=>
  simp only[ZyB]at hr
  split at hr
  ·rename_i j hs;cases hr;exact .inRF a j g (hl.ren G hs fun _ _ h=>h)
  ·cases hr
 |endRF a i g hl=>
  simp only[ZyB]at hr
  split at hr
  ·rename_i j hs;cases hr;exact .endRF a j g (hl.ren G hs fun _ _ h=>h)
  ·cases hr
theorem ItsRel.ren{P:Program}{N:Nat}(G:Good h L h' L' σ):∀ {x x':List AItem} {y:List Item},Zng σ x=some x'→ItsRel P h L N x y→ItsRel P h' L' N x' y
 |[],x',y,hr,hx=>by cases hx;cases hr;exact .nil
 |x::k,x',y,hr,hx=>by
  cases hx with
  |cons hx hk=>
   simp only[Zng]at hr
   split at hr
   ·cases hr
   ·rename_i z hz
    split at hr
    ·rename_i l hl;cases hr;exact .cons (hx.ren G hz) (ItsRel.ren G hl hk)
    ·cases hr
theorem ZoO:∀ {x:List AItem},Zga x=true→Zng σ x=some x
 |[],_=>rfl
 |x::k,hp=>by
  simp only[Zga]at hp
  split at hp
  ·rename_i h1
   simp only[Zng,ZoO hp]
   cases x<;>first |rfl |cases h1
  ·cases hp
theorem DefRel.ren(G:Good h L h' L' σ):∀ {ds ds':List (Nat×Nat)} {cs:List Deferred},ZxX σ ds=some ds'→DefRel h L ds cs→DefRel h' L' ds' cs
 |[],ds',cs,hr,hd=>by cases hr;cases hd;exact .nil
 |(a,i)::ds,ds',cs,hr,hd=>by
  simp only[ZxX]at hr
  split at hr
  ·cases hr
  ·rename_i j hs
   split at hr
   ·rename_i l hl
    cases hr
    cases hd with
    |one _ _ g hb hlv hrest=>exact .one a j g hb (hlv.ren G hs fun _ _ h=>h) (DefRel.ren G hl hrest)
    |pool _ _ gs js hb hn hnd hlv hrest=>exact .pool a j gs js hb hn hnd (fun k q g h1 h2=>(hlv k q g h1 h2).ren G (G.big a q hb) fun _ _ h=>h) (DefRel.ren G hl hrest)
   ·cases hr
theorem FrRel.ren(G:Good h L h' L' σ){af af':AFrame}{fr:Frame}(hr:ZNP σ af=some af')(hf:FrRel C h L w af fr):FrRel C h' L' w af' fr:=by
 unfold ZNP at hr
 split at hr
 ·cases hr
 ·rename_i ds hds
  split at hr
  ·cases hr
  ·rename_i rd hrd
   have hd:DefRel h' L' ds fr.defers:=DefRel.ren G hds hf.defs
   have hn:RndRel h' L' rd fr.roundOf∧(rd=none→af.rnd=none):=by
    have hrn:=hf.rnd
    unfold Zz7 at hrd
    split at hrd
    ·rename_i e;cases hrd;rw[e]at hrn;exact⟨hrn,fun _=>e⟩
    ·rename_i a i e
     rw[e]at hrn
     split at hrd
     ·rename_i j hs;cases hrd
      obtain⟨g,hg,hl⟩:=hrn
      exact⟨⟨g,hg,hl.ren G hs fun _ _ h=>h⟩,fun e=>by cases e⟩
     ·cases hrd
   split at hr
   ·rename_i hp
    cases hr
    exact⟨hf.fn,hf.size,hf.env.ren G,hf.kind,hd,hn.1,hf.mode.imp id fun⟨a,b,c⟩=>⟨a,b,c.ren G (ZoO hp)⟩,fun e=>hf.res (hn.2 e)⟩
   ·split at hr
    ·cases hr
    ·rename_i td htd
     cases hr
     exact⟨hf.fn,hf.size,hf.env.ren G,hf.kind,hd,hn.1,hf.mode.imp id fun⟨a,b,c⟩=>⟨a,b,c.ren G htd⟩,fun e=>hf.res (hn.2 e)⟩
theorem FrsRel.ren(G:Good h L h' L' σ):∀ {afs afs':List AFrame} {cs:List Frame},Zxa σ afs=some afs'→FrsRel C h L w afs cs→FrsRel C h' L' w afs' cs
 |[],afs',cs,hr,hf=>by cases hf;cases hr;exact .base
 |f::fs,afs',cs,hr,hf=>by
  cases hf with
  |cons hf hk=>
   simp only[Zxa]at hr
   split at hr
   ·cases hr
   ·rename_i g hg
    split at hr
    ·rename_i gs hgs;cases hr;exact .cons (hf.ren G hg) (FrsRel.ren G hgs hk)
    ·cases hr
end
abbrev ZDO:=List (Nat×Nat×Fam)
def ZHz:Blk→Bool
 | .dead=>true
 |_=>false
def Zqy(R:List (Nat×Nat))(a:Nat):Nat→List Blk→List Blk
 |_,[]=>[]
 |i,b::l=>match(match ZAk (a,i) R with |true=>b |false=>.dead),Zqy R a (i+1) l with
  | .dead,[]=>[]
  |b',l'=>b'::l'
def ZwS:Nat→List Blk→Nat×List Blk
 |n,[]=>(n,[])
 |n,b::l=>match ZHz b with |true=>ZwS (n+1) l |false=>(n,b::l)
def ZkS(R:List (Nat×Nat))(a:Nat)(f:Fam):Nat×Fam:=match ZsB a with
 |true=>(0,f)
 |false=>(match ZwS f.base (Zqy R a f.base f.xs)with |(n,l)=>(n,⟨0,l, .no⟩))
def ZaU(R:List (Nat×Nat)):Zaa→ZDO
 |[]=>[]
 |(a,f)::rest=>match ZsB a with
  |true=>(a,0,f)::ZaU R rest
  |false=>match ZkS R a f with
   |(s,g)=>(match g.blks,ZaA rest a with
    |[],none=>ZaU R rest
    |_,_=>(a,s,g)::ZaU R rest)
def ZsQ(t:ZDO)(a i:Nat):Option Nat:=
 match ZsB a with
 |true=>some i
 |false=>match ZaA t a with
  |none=>none
  |some p=>match Nat.ble p.1 i with
   |false=>none
   |true=>(match ZHz (p.2.blks.getD (i-p.1) .dead)with |true=>none |false=>some (i-p.1))
def Zla(σ:Nat→Nat→Option Nat):ZDO→Zaa
 |[]=>[]
 |(a,_,g)::t=>(a,⟨g.base,g.blks.map (Blk.ren σ),g.sym⟩)::Zla σ t
def Zp5(t:ZDO)(L:Lay):Lay:=⟨fun a j=>L.loc a (j+match ZaA t a with |some p=>p.1 |none=>0),fun a j=>L.size a (j+match ZaA t a with |some p=>p.1 |none=>0)⟩
theorem Zmk{R:List (Nat×Nat)}{a:Nat} :∀(l:List Blk) (i j:Nat),(Zqy R a i l).getD j .dead=.dead∨(Zqy R a i l).getD j .dead=l.getD j .dead
 |[],i,j=>.inl (by simp[Zqy])
 |b::l,i,j=>by
  have ih:=Zmk (R:=R) (a:=a) l (i+1)
  simp only[Zqy]
  split
  ·left;simp
  ·cases j with
   |zero=>
    simp only[List.getD_cons_zero]
    split
    ·right;rfl
    ·left;rfl
   |succ j=>simp only[List.getD_cons_succ];exact ih j
theorem Zlq:∀(l:List Blk) (n j:Nat),∃d,(ZwS n l).1=n+d∧(ZwS n l).2.getD j .dead=l.getD (j+d) .dead
 |[],n,j=>⟨0,rfl,rfl⟩
 |b::l,n,j=>by
  simp only[ZwS]
  split
  ·obtain⟨d,h1,h2⟩:=Zlq l (n+1) j
   exact⟨d+1,by rw[h1];omega,by rw[h2,←Nat.add_assoc,List.getD_cons_succ]⟩
  ·exact⟨0,rfl,rfl⟩
theorem ZgX(x y:Nat):Nat.beq x y=decide (x=y):=by rw[Bool.eq_iff_iff];simp
theorem Zhx{R:List (Nat×Nat)} :∀ {h:Zaa} {a:Nat} {p:Nat×Fam},ZaA (ZaU R h) a=some p→∃f,ZaA h a=some f∧ZkS R a f=p
 |[],a,p,h=>by cases h
 |(b,f)::rest,a,p,h=>by
  have ih:= @Zhx R rest a p
  simp only[ZaU]at h
  split at h
  ·rename_i hbig
   simp only[ZaA,ZgX]at h⊢
   by_cases hba:b=a
   ·subst hba;simp only[decide_true,Option.some.injEq]at h ⊢;exact⟨f,rfl,by unfold ZkS;rw[hbig];exact h⟩
   ·simp only[hba,decide_false]at h ⊢;exact ih h
  split at h
  ·rename_i hl hr
   obtain⟨f',h1,h2⟩:=ih h
   refine⟨f',?_,h2⟩
   simp only[ZaA,ZgX]
   by_cases hba:b=a
   ·subst hba;rw[hr]at h1;cases h1
   ·simp only[hba,decide_false];exact h1
  ·simp only[ZaA,ZgX]at h⊢
   by_cases hba:b=a
   ·subst hba;simp only[decide_true,Option.some.injEq]at h ⊢;exact⟨f,rfl,h⟩
   ·simp only[hba,decide_false]at h ⊢;exact ih h
theorem ZpI{R:List (Nat×Nat)} :∀ {h:Zaa} {a:Nat},ZsB a=true→ZaA (ZaU R h) a=(ZaA h a).map fun f=>(0,f)
 |[],a,_=>rfl
 |(b,f)::rest,a,hb=>by
  have ih:= @ZpI R rest a hb
  simp only[ZaU]
  split
  ·simp only[ZaA,ZgX]
   by_cases hba:b=a
   ·subst hba;simp
   ·simp only[hba,decide_false];exact ih
  ·rename_i hbb
   have hba:b≠a:=by rintro rfl;rw[hb]at hbb;cases hbb
   split
   ·simp only[ZaA,ZgX,hba,decide_false];exact ih
   ·simp only[ZaA,ZgX,hba,decide_false];exact ih
theorem ZlK{σ:Nat→Nat→Option Nat} :∀(t:ZDO) (a:Nat),ZaA (Zla σ t) a=(ZaA t a).map fun p=>⟨p.2.base,p.2.blks.map (Blk.ren σ),p.2.sym⟩
 |[],a=>rfl
 |(b,s,l)::t,a=>by
  simp only[Zla,ZaA]
  split
  ·rfl
  ·exact ZlK t a
theorem ZzA{σ:Nat→Nat→Option Nat}(f:Fam):(⟨f.base,f.blks.map (Blk.ren σ),f.sym⟩:Fam).xs=f.xs.map (Blk.ren σ):=by
 obtain⟨b,l,y⟩:=f
 cases y with
 |no=>rfl
 |ints e sz k rows=>simp only[Fam.xs,List.map_map];exact List.map_congr_left fun _ _=>rfl
 |flts e sz k rows=>simp only[Fam.xs,List.map_map];exact List.map_congr_left fun _ _=>rfl
 |dfrs n=>simp only[Fam.xs,List.map_replicate,Blk.ren]
theorem ZAY{σ:Nat→Nat→Option Nat}(f:Fam)(j:Nat):(⟨f.base,f.blks.map (Blk.ren σ),f.sym⟩:Fam).get j=Blk.ren σ (f.get j):=by
 unfold Fam.get
 rw[ZzA]
 simp only
 split
 ·rfl
 ·simp only[List.getD_eq_getElem?_getD,List.getElem?_map]
  cases f.xs[j-f.base]?<;>rfl
theorem ZdS{σ:Nat→Nat→Option Nat}(t:ZDO)(a j:Nat):blk (Zla σ t) a j=Blk.ren σ (match ZaA t a with |some p=>p.2.get j |none=>.dead)∧nxt (Zla σ t) a=match ZaA t a with |some p=>p.2.base+p.2.xs.length |none=>0:=by
 unfold blk nxt fam
 rw[ZlK]
 cases ZaA t a with
 |none=>simp[Fam.get,Fam.xs,Zbd,Blk.ren]
 |some p=>
  simp only[Option.map_some,Option.getD_some]
  exact⟨ZAY _ _,by rw[ZzA,List.length_map]⟩
theorem Zo3(l:List Blk)(j:Nat):(⟨0,l, .no⟩:Fam).get j=l.getD j .dead:=by
 unfold Fam.get
 simp only[Zbd (Nat.zero_le _),Fam.xs,Nat.sub_zero]
theorem ZdV{R:List (Nat×Nat)}{h:Zaa}{a:Nat}{p:Nat×Fam}(hp:ZaA (ZaU R h) a=some p)(j:Nat):p.2.get j=.dead∨p.2.get j=blk h a (j+p.1):=by
 obtain⟨f,h1,h2⟩:=Zhx hp
 unfold ZkS at h2
 split at h2
 ·subst h2
  right
  unfold blk fam
  rw[h1];rfl
 ·obtain⟨d,e1,e2⟩:=Zlq (Zqy R a f.base f.xs) f.base j
  split at h2
  rename_i n l hnl
  rw[hnl]at e1 e2
  subst h2
  simp only[Zo3]at e1 e2⊢
  rw[e2]
  rcases Zmk (R:=R) (a:=a) f.xs f.base (j+d)with h3 |h3
  ·exact .inl h3
  ·right
   rw[h3,e1]
   unfold blk fam Fam.get
   rw[h1]
   simp only[Option.getD_some,Zbd (show f.base≤j+(f.base+d) by omega)]
   congr 1;omega
theorem Zqu{R:List (Nat×Nat)}{h:Zaa}{a:Nat}{p:Nat×Fam}(hp:ZaA (ZaU R h) a=some p)(hb:ZsB a=false):p.2=⟨0,p.2.blks, .no⟩:=by
 obtain⟨f,h1,h2⟩:=Zhx hp
 unfold ZkS at h2
 rw[hb]at h2
 simp only at h2
 subst h2;rfl
theorem pack_good{R:List (Nat×Nat)}{h:Zaa}{L:Lay} :Good h L (Zla (ZsQ (ZaU R h)) (ZaU R h)) (Zp5 (ZaU R h) L) (ZsQ (ZaU R h)):=by
 refine⟨fun a i j hs hi=>?_,fun a j ht=>?_,fun a i hb=>by unfold ZsQ;rw[hb]⟩
 ·obtain⟨hb,hn⟩:=ZdS (σ:=ZsQ (ZaU R h)) (ZaU R h) a j
  unfold ZsQ at hs
  cases hbig:ZsB a with
  |true=>
   rw[hbig]at hs
   cases hs
   have hp:=ZpI (R:=R) (h:=h) hbig
   cases hf:ZaA h a with
   |none=>
    exfalso
    unfold nxt fam at hi
    rw[hf]at hi
    simp[Fam.xs]at hi
   |some f=>
    rw[hf]at hp
    simp only[Option.map_some]at hp
    rw[hp]at hb hn
    simp only at hb hn
    have e1:blk h a i=f.get i:=by unfold blk fam;rw[hf];rfl
    have e2:nxt h a=f.base+f.xs.length:=by unfold nxt fam;rw[hf];rfl
    refine⟨by rw[hn,←e2];exact hi,fun sz ht=>?_,by simp only[Zp5,hp,Nat.add_zero],by simp only[Zp5,hp,Nat.add_zero]⟩
    rw[hb,Blk.ren_tag]at ht
    rw[e1];exact ht
  |false=>
   rw[hbig]at hs
   cases hp:ZaA (ZaU R h) a with
   |none=>rw[hp]at hs;cases hs
   |some p=>
    rw[hp]at hs hb hn
    simp only at hs hb hn
    split at hs
    ·cases hs
    ·rename_i hle
     have hle:p.1≤i:=by simpa using hle
     split at hs
     ·cases hs
     ·rename_i hd
      cases hs
      have hsm:=Zqu hp hbig
      have hget:∀k,p.2.get k=p.2.blks.getD k .dead:=fun k=>by rw[hsm,Zo3]
      have hlen:p.2.base+p.2.xs.length=p.2.blks.length:=by rw[hsm];simp[Fam.xs]
      have hlt:i-p.1<p.2.blks.length:=by
       rcases Nat.lt_or_ge (i-p.1) p.2.blks.length with h1 |h1
       ·exact h1
       ·rw[List.getD_eq_getElem?_getD,List.getElem?_eq_none h1]at hd;cases hd
      have hadd:i-p.1+p.1=i:=by omega
      refine⟨by rw[hn,hlen];exact hlt,fun sz ht=>?_,by simp only[Zp5,hp,hadd],by simp only[Zp5,hp,hadd]⟩
      rw[hb,Blk.ren_tag]at ht
      rcases ZdV hp (i-p.1)with h1 |h1
      ·rw[hget]at h1;rw[h1]at hd;cases hd
      ·rw[h1,hadd]at ht;exact ht
 ·obtain⟨hb,_⟩:=ZdS (σ:=ZsQ (ZaU R h)) (ZaU R h) a j
  obtain⟨s,ht,hn⟩:=ht
  rw[hb,Blk.ren_tag]at ht
  cases hp:ZaA (ZaU R h) a with
  |none=>rw[hp]at ht;cases ht
  |some p=>
   rw[hp]at ht
   simp only at ht
   rcases ZdV hp j with h1 |h1
   ·rw[h1]at ht;cases ht
   ·exact⟨j+p.1,⟨s,by rw[←h1];exact ht,by simpa only[Zp5,hp]using hn⟩,by simp only[Zp5,hp]⟩
theorem HRel.packed{C:Ctx}{R:List (Nat×Nat)}{h:Zaa}{L:Lay}{w:World}(H:HRel C h L w):HRel C (Zla (ZsQ (ZaU R h)) (ZaU R h)) (Zp5 (ZaU R h) L) w:=by
 have key:∀a j,Plc (Zla (ZsQ (ZaU R h)) (ZaU R h)) (Zp5 (ZaU R h) L) a j→∃p,ZaA (ZaU R h) a=some p∧Plc h L a (j+p.1):=fun a j ht=>by
  obtain⟨hb,_⟩:=ZdS (σ:=ZsQ (ZaU R h)) (ZaU R h) a j
  obtain⟨s,ht,hn⟩:=ht
  rw[hb,Blk.ren_tag]at ht
  cases hp:ZaA (ZaU R h) a with
  |none=>rw[hp]at ht;cases ht
  |some p=>
   rw[hp]at ht
   simp only at ht
   rcases ZdV hp j with h1 |h1
   ·rw[h1]at ht;cases ht
   ·exact⟨p,rfl,s,by rw[←h1];exact ht,by simpa only[Zp5,hp]using hn⟩
 refine⟨H.below,fun a j ht=>?_,fun a j=>?_,fun a i b j h1 h2 e=>?_,fun a j ht=>?_,H.low,H.base,H.good⟩
 rotate_right
 ·obtain⟨p,hp,ht'⟩:=key a j ht
  simp only[Zp5,hp]
  rcases H.home a _ ht' with h9 |⟨h7,h8,h9⟩
  ·exact .inl h9
  ·exact .inr ⟨h7,by omega,h9⟩
 ·obtain⟨p,hp,ht'⟩:=key a j ht
  simp only[Zp5,hp];exact H.live a _ ht'
 ·obtain⟨hb,_⟩:=ZdS (σ:=ZsQ (ZaU R h)) (ZaU R h) a j
  rw[hb]
  cases hp:ZaA (ZaU R h) a with
  |none=>trivial
  |some p=>
   simp only
   rcases ZdV hp j with h1 |h1
   ·rw[h1];trivial
   ·rw[h1];simp only[Zp5,hp];exact(H.blks a _).ren pack_good
 ·obtain⟨p,hp,hp'⟩:=key a i h1
  obtain⟨q,hq,hq'⟩:=key b j h2
  simp only[Zp5,hp,hq]at e
  obtain⟨rfl,e2⟩:=H.inj _ _ _ _ hp' hq' e
  rw[hp]at hq;cases hq
  exact⟨rfl,by omega⟩
def ZKA:AV→List (Nat×Nat)
 | .tup xs=>xs.flatMap refs
 |v=>refs v
def ZNo:Row→List (Nat×Nat)
 | .gen xs=>xs.flatMap ZKA
 |_=>[]
def ZBI:ZiF→List (Nat×Nat)
 |[]=>[]
 |(_,v)::l=>ZKA v++ZBI l
def ZLF:Blk→List (Nat×Nat)
 | .row _ _ r=>ZNo r
 | .lp l=>ZBI l.env
 |_=>[]
def ZK2:List AItem→List (Nat×Nat)
 |[]=>[]
 |x::k=>(match x with | .inRF a i=>[(a,i)] | .endRF a i=>[(a,i)] |_=>[])++ZK2 k
def ZFY:List AFrame→List (Nat×Nat)
 |[]=>[]
 |f::fs=>ZBI f.env++((match Zga f.todo with |true=>[] |false=>ZK2 f.todo)++(f.defs++((match f.rnd with |some p=>[p] |none=>[])++ZFY fs)))
def ZLd(R:List (Nat×Nat)):List (Nat×Nat)→List (Nat×Nat)
 |[]=>R
 |p::l=>match ZAk p R with |true=>ZLd R l |false=>ZLd (p::R) l
def ZrX:List (Nat×Nat)→List (Nat×Nat)
 |[]=>[]
 |p::l=>match ZsB p.1 with |true=>ZrX l |false=>p::ZrX l
def ZAl(h:Zaa):Nat→List (Nat×Nat)→List (Nat×Nat)→List (Nat×Nat)
 |0,R,_=>R
 |n+1,R,new=>match new.flatMap (fun p=>ZrX (ZLF (blk h p.1 p.2)))with
  |[]=>R
  |l=>ZAl h n (ZLd R l) l
def Zyq(h:Zaa)(t:ZDO):Bool:=
 match ZaA t 0 with
 |none=>Nat.beq (nxt h 0) 0
 |some p=>match Nat.beq p.1 0 with |true=>Nat.ble (nxt h 0) (p.2.base+p.2.xs.length) |false=>false
def ZLW(fs:List AFrame):List (Nat×Nat):=ZLd [] ((0,0)::ZrX (ZFY fs))
def ZLe(fs:List AFrame)(h:Zaa):Option (List AFrame×Zaa):=
 match ZLW fs with
 |R0=>match ZaU (ZAl h 4 R0 R0) h with
  |t=>match Zyq h t with
   |false=>none
   |true=>match Zxa (ZsQ t) fs with
    |none=>none
    |some fs'=>some (fs',Zla (ZsQ t) t)
theorem ZCp{C:Ctx}{R:List (Nat×Nat)}{h:Zaa}{L:Lay}{w:World}(hk:Zyq h (ZaU R h)=true):Fr C h L w (Zla (ZsQ (ZaU R h)) (ZaU R h)) (Zp5 (ZaU R h) L) w:=by
 obtain⟨hb,hn⟩:=ZdS (σ:=ZsQ (ZaU R h)) (ZaU R h) 0 0
 refine⟨Nat.le_refl _,fun g _ ho=>⟨pack_good.okk ho,rfl⟩,?_,fun sz _ ht=>?_⟩
 ·rw[hn]
  unfold Zyq at hk
  cases hp:ZaA (ZaU R h) 0 with
  |none=>rw[hp]at hk;have:=Nat.eq_of_beq_eq_true hk;omega
  |some p=>
   rw[hp]at hk
   simp only at hk⊢
   split at hk
   ·simpa using hk
   ·cases hk
 ·rw[hb,Blk.ren_tag]at ht
  unfold Zyq at hk
  cases hp:ZaA (ZaU R h) 0 with
  |none=>rw[hp]at ht;cases ht
  |some p=>
   rw[hp]at ht hk
   simp only at ht hk
   split at hk
   ·rename_i h0
    have h0:p.1=0:=Nat.eq_of_beq_eq_true h0
    rcases ZdV hp 0 with h1 |h1
    ·rw[h1]at ht;cases ht
    ·rw[h1,h0]at ht
     refine⟨ht,?_,?_⟩
     ·simp only[Zp5,hp,h0]
     ·simp only[Zp5,hp,h0]
   ·cases hk
theorem Zvr{C:Ctx}{fs fs':List AFrame}{h h':Zaa}{Q:List AFrame→Zaa→Prop}(hp:ZLe fs h=some (fs',h'))(hq:Ev C fs' h' Q):Ev C fs h Q:=by
 intro L fr cs w hf H hne
 unfold ZLe at hp
 dsimp only at hp
 split at hp
 ·cases hp
 ·rename_i hkeep
  split at hp
  ·cases hp
  ·rename_i gs hgs
   cases hp
   obtain⟨fs2,h2',L2,fr2,cs2,w2,q2,n2,a2,b2,s2⟩:=hq _ fr cs w (FrsRel.ren pack_good hgs hf) H.packed (fun e=>by
    subst e
    cases fs with
    |nil=>exact hne rfl
    |cons f fs=>
     simp only[Zxa]at hgs
     split at hgs
     ·cases hgs
     ·split at hgs<;>cases hgs)
   exact⟨fs2,h2',L2,fr2,cs2,w2,q2,n2,a2,b2,s2.1,(ZCp hkeep).trans s2.2⟩
def ZCO(A:Ar)(T:Tab)(l:List Ctr)(n:Nat)(pk:Bool)(pa:List Bool)(f:AFrame)(fs:List AFrame)(h:Zaa):Option (List Bool×List AFrame×Zaa):=
 match Zki A T l n pa [] f fs h with
 |none=>none
 |some (acc,f',fs',h')=>match pk with
  |false=>some (acc,f'::fs',h')
  |true=>match ZLe (f'::fs') h' with
   |none=>none
   |some (gs,h2)=>some (acc,gs,h2)
theorem ZD3{C:Ctx}{T:Tab}{l:List Ctr}{n:Nat}{pk:Bool}{pa acc:List Bool}{f:AFrame}{fs gs:List AFrame}{h h':Zaa}{Q:List AFrame→Zaa→Prop}(hfol:C.P.follows .mixedOrders=true)(hT:ZbM C.P T)(hl:Zar C.P l)
 (hw:ZCO std T l n pk pa f fs h=some (acc,gs,h')) (hb:AllT acc) (hq:Ev C gs h' Q):Ev C (f::fs) h Q:=by
 unfold ZCO at hw
 split at hw
 ·cases hw
 ·rename_i acc1 f1 fs1 h1 hs
  split at hw
  ·cases hw
   exact(ZbS hfol hT hl n _ _ _ _ hs hb.mem hq).2
  ·split at hw
   ·cases hw
   ·rename_i gs2 h2 hp
    cases hw
    exact(ZbS hfol hT hl n _ _ _ _ hs hb.mem (Zvr hp hq)).2
end Go.Proofs.YtjhldefnjghcdaaGreat
namespace Go.Proofs.YtjhldefnjghcdaaGreat
open Go.RowKit (Below)
inductive Frz1 (fr:Option Fresh):AV→AV→Prop
 |row (f:Fresh) (hf:fr=some f) (hp:f.r.pure=true) (hs:f.r.solid=true):Frz1 fr (.row 0 0) (.list f.r)
 |nil (r:Row) (h:r.elems=[]):Frz1 fr .nils (.list r)
 |same (v:AV) (hp:v.pure=true) (hs:v.solid=true):Frz1 fr v v
def FrzL(fr:Option Fresh):List AV→List AV→Prop
 |[],[]=>True
 |x::xs,y::ys=>Frz1 fr x y∧FrzL fr xs ys
 |_,_=>False
inductive Frz (fr:Option Fresh):AV→AV→Prop
 |one {v v':AV} (h:Frz1 fr v v'):Frz fr v v'
 |tup {xs ys:List AV} (h:FrzL fr xs ys):Frz fr (.tup xs) (.tup ys)
theorem FrzL.spec{fr:Option Fresh} :∀ {xs ys:List AV},FrzL fr xs ys→xs.length=ys.length∧∀(j:Nat) (y:AV),ys[j]? =some y→∃x,xs[j]? =some x∧Frz1 fr x y
 |[],[],_=>⟨rfl,fun j y h=>by simp at h⟩
 |x::xs,y::ys,h=>by
  obtain⟨h1,h2⟩:=h
  obtain⟨e1,e2⟩:=FrzL.spec h2
  refine⟨by simp[e1],fun j z hz=>?_⟩
  cases j with
  |zero=>simp at hz;subst hz;exact⟨x,rfl,h1⟩
  |succ j=>obtain⟨q,q1,q2⟩:=e2 j z (by simpa using hz);exact⟨q,by simpa using q1,q2⟩
section
variable {P:Program}{w w':World}{okA:Nat→Prop}{L':Lay}{fr:Option Fresh}
theorem Zi0(H:HRel (Ctx.of P w okA []) (Zat fr) L' w'){v v':AV}{x:Value}(hs:Frz1 fr v v')(hr:Zau (Ctx.of P w okA []) (Zat fr) L' w' v x):Zau (Ctx.of P w (fun _=>False) []) [] L' w' v' x:=by
 cases hs with
 |nil r h=>cases hr with |nils=>exact .nil r none 0 h
 |same _ hp hs=>
  exact((hr.pure hp:Rel w' _ [] L' v x).solid hs)
 |row f hf hp hso=>
  subst hf
  have hb:blk (Zat (some f)) 0 0=.row f.e f.sz f.r:=rfl
  obtain⟨ht,h0,h1,h2,h3⟩:=H.rowAt hb
  cases hr with
  |row _ _ ad n c hn hlv=>
   obtain⟨had,rfl,rfl⟩:=hlv.2 _ ht
   by_cases hs0:L'.size 0 0=0
   ·have hre:f.r.elems=[]:=List.eq_nil_of_length_eq_zero (by omega)
    rw[hs0,show(f.sz,f.r.elems.length).2=0 by simp[hre]]
    exact .nil f.r _ _ hre
   obtain⟨hpl,cur,h4,h5,h6,h7,h8⟩:=H.curAt hb hs0
   have had:=had hs0
   subst had
   have hl:=H.live 0 0 hpl
   have hpa:=ZaY hp
   refine .list f.r _ rfl ⟨L'.loc 0 0,0,none⟩ _ _ f.sz _ hl.2 (.inr ⟨hl.1,fun a i ht=>absurd rfl ht.tag⟩) rfl hn h3 h6.1.symm h7 (fun j v hj=>h8 j v hj) hpa (fun j u v hu hv=>?_)
   have hsu:u.solid=true:=AV.solidL_mem (Zjr hso) hu
   exact((h6.2 j u v hu hv).pure (AV.pureL_mem hpa hu):Rel w' _ [] L' u v).solid hsu
theorem Zoe{f:FuncId}{args:List AV}{r r':AV}(h:ZaK P f args r fr)(hz:ZpK fr=false)(hs:Frz fr r r'):ZaK P f args r' Zk4:=by
 intro w okA L vs hargs hok hG
 refine(h w okA L vs hargs hok hG).mono ?_
 rintro e w' ⟨x,L',rfl,hb,hp⟩
 unfold Zpe at hp
 rw[hz]at hp
 obtain⟨H,hr⟩:=hp
 refine⟨x,L',rfl,hb,?_⟩
 show Zau (Ctx.of P w (fun _=>False) []) [] L' w' r' x
 cases hs with
 |one hs=>exact Zi0 H hs hr
 |tup hs=>
  obtain⟨e1,e2⟩:=hs.spec
  cases hr with
  |tup xs vs hl hrr=>
   refine .tup _ vs (by rw[←e1];exact hl) (fun j u v hu hv=>?_)
   obtain⟨q,q1,q2⟩:=e2 j u hu
   exact Zi0 H q2 (hrr j q v q1 hv)
end
def Zvg(A:Ar)(T:Tab)(l:List Ctr)(n:Nat)(pa:List Bool)(fs:List AFrame)(h:Zaa):Option (List Bool×List AFrame×Zaa):=
 match fs with
 |[]=>none
 |f::fs=>ZCO A T l n true pa f fs h
def ZLY(A:Ar)(T:Tab)(l:List Ctr)(n:Nat)(pa:List Bool)(fn:FuncId)(fs:List AFrame)(h:Zaa):Option (List Bool×AV×Option Fresh):=
 match fs with
 |[]=>none
 |f::fs=>match Zki A T l n pa [] f fs h with
  |none=>none
  |some (acc,g,gs,h')=>match gs with
   |_::_=>none
   |[]=>match g.ret&&Nat.beq g.fn fn with
    |false=>none
    |true=>match g.rnd with
     |some _=>none
     |none=>match g.defs with
      |_::_=>none
      |[]=>match Zuz A g.env h' g.res with
       |none=>none
       |some (b,vs)=>match Zha h' (ZhP vs)with
        |none=>none
        |some (r,fr)=>some (b::acc,r,fr)
section
variable {C:Ctx}{T:Tab}{l:List Ctr}{n:Nat}{pa acc:List Bool}{fs gs:List AFrame}{h h':Zaa}{Q:List AFrame→Zaa→Prop}
theorem ZMu(hfol:C.P.follows .mixedOrders=true)(hT:ZbM C.P T)(hl:Zar C.P l)(hw:Zvg std T l n pa fs h=some (acc,gs,h'))(hb:AllT acc)(hq:Ev C gs h' Q):Ev C fs h Q:=by
 unfold Zvg at hw
 split at hw
 ·cases hw
 ·exact ZD3 hfol hT hl hw hb hq
theorem ZIK(hfol:C.P.follows .mixedOrders=true)(hT:ZbM C.P T)(hl:Zar C.P l){fn:FuncId}{r r':AV}{fr fr':Option Fresh}(hw:ZLY std T l n pa fn fs h=some (acc,r',fr'))(hb:AllT acc)(hr:r'=r)(hfr:fr'=fr):Ev C fs h (ZaD fn r fr):=by
 subst hr;subst hfr
 unfold ZLY at hw
 split at hw
 ·cases hw
 ·split at hw
  ·cases hw
  ·rename_i acc1 g gs1 h1 hs
   split at hw
   ·cases hw
   ·split at hw
    ·cases hw
    ·rename_i hg
     simp only[Bool.and_eq_true]at hg
     split at hw
     ·cases hw
     ·rename_i hn
      split at hw
      ·cases hw
      ·rename_i hd
       split at hw
       ·cases hw
       ·rename_i b vs hc
        split at hw
        ·cases hw
        ·rename_i hex
         cases hw
         have hb1:b=true:=hb.1
         subst hb1
         exact(ZbS hfol hT hl n _ _ _ _ hs hb.2.mem (.now (by simp) ⟨g,vs,rfl,Nat.eq_of_beq_eq_true hg.2,hg.1,hn,hd,hc,hex⟩)).2
end
end Go.Proofs.YtjhldefnjghcdaaGreat
namespace Go.Proofs.YtjhldefnjghcdaaGreat
@[simp] theorem Zho (a b:Int):std.add a b=a+b:=rfl
@[simp] theorem Zk8 (a b:Int):std.sub a b=a-b:=rfl
@[simp] theorem Zzc (a b:Int):std.mul a b=a*b:=rfl
@[simp] theorem ZvZ (a b:Int):std.quo a b=Int.tdiv a b:=rfl
@[simp] theorem ZND (a b:Int):std.rem a b=Int.tmod a b:=rfl
@[simp] theorem ZQ3 (a:Int):std.neg a= -a:=rfl
@[simp] theorem ZEB (a b:Int):std.lt a b=decide (a<b):=rfl
@[simp] theorem ZQI (a b:Int):std.le a b=decide (a≤b):=rfl
@[simp] theorem ZPM (a b:Int):std.eq a b=decide (a=b):=rfl
@[simp] theorem ZaT (a:Int):std.nat a=a.toNat:=rfl
@[simp] theorem Ze0 (a:Nat):std.int a=(a:Int):=rfl
@[simp] theorem ZQO (a b:Int):std.max a b=Max.max a b:=rfl
@[simp] theorem Zy6 (a b:Int):std.min a b=Min.min a b:=rfl
@[simp] theorem Zbw (l:zI):std.len l=l.length:=rfl
@[simp] theorem Zba (l:zI) (j:Nat):std.nth l j=l.getD j 0:=rfl
@[simp] theorem ZuB (l:zI) (j:Nat) (x:Int):std.set l j x=l.set j x:=rfl
@[simp] theorem ZLZ (a b:zI):std.app a b=a++b:=rfl
@[simp] theorem ZAq (l:zI) (k n:Nat):std.sub3 l k n=(l.drop k).take n:=rfl
@[simp] theorem ZQ8 (n:Nat) (x:Int):std.rep n x=List.replicate n x:=rfl
@[simp] theorem ZQ4 (a:Bool):std.not a=!a:=rfl
@[simp] theorem ZO5 (l:List UInt8):std.lenS l=l.length:=rfl
@[simp] theorem ZOp (l:List UInt8) (j:Nat):std.nthS l j=((l.getD j 0).toNat:Int):=rfl
@[simp] theorem ZOy (a b:List UInt8):std.appS a b=a++b:=rfl
@[simp] theorem ZO8 (l:List UInt8) (k n:Nat):std.subS l k n=sub3 l k n:=rfl
@[simp] theorem ZQg (a b:List UInt8):std.eqS a b=(a==b):=rfl
@[simp] theorem ZO3 (ks:List AV) (s:List UInt8):std.hasS ks s=ks.any fun k=>k.toS==s:=rfl
@[simp] theorem ZPx (s:List UInt8):std.byt s=s.map fun b=>(b.toNat:Int):=rfl
@[simp] theorem ZyR (a b:Int):std.shl a b=a*2^b.toNat:=rfl
@[simp] theorem ZMp (a b:Int):std.shr a b=a.fdiv (2^b.toNat):=rfl
@[simp] theorem ZNl (n:Int):std.inR .i64 n=decide (-9223372036854775808≤n∧n≤9223372036854775807):=rfl
@[simp] theorem ZQt (a b:Bool):Zac a b=(a&&b):=by cases a<;>rfl
@[simp] theorem ZPZ (a b:Nat):Nat.blt a b=decide (a<b):=by rw[Bool.eq_iff_iff];simp
@[simp] theorem ZPH (a b:Nat):Nat.ble a b=decide (a≤b):=by rw[Bool.eq_iff_iff];simp
@[simp] theorem ZQR (a b:Nat):Nat.beq a b=decide (a=b):=by rw[Bool.eq_iff_iff];simp
@[simp] theorem ZLb:AllT []=True:=rfl
@[simp] theorem Zp8 (b:Bool) (l:List Bool):AllT (b::l)=(b=true∧AllT l):=rfl
def tru:Nat→List Bool→List Bool
 |0,l=>l
 |n+1,l=>true::tru n l
def tr:List Nat→List Bool→List Bool
 |k::ks,x::xs=>tru k (x::tr ks xs)
 |k::_,[]=>tru k []
 |[],xs=>xs
theorem Zoq(l:List Bool):∀n,AllT (tru n l)=AllT l
 |0=>rfl
 |n+1=>by simp only[tru,Zp8,Zoq l n,true_and]
@[simp] theorem ZDX:∀ks xs,AllT (tr ks xs)=AllT xs
 |k::ks,x::xs=>by simp only[tr,Zoq,Zp8,ZDX ks xs]
 |k::ks,[]=>by simp only[tr,Zoq]
 |[],xs=>rfl
end Go.Proofs.YtjhldefnjghcdaaGreat
