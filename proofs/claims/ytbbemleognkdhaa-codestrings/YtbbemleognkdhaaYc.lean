/- Every code of the table stands for the program's. Printed by gentab.py. -/
import Derived.Test.YtbbemleognkdhaaTa
import Derived.Test.YtbbemleognkdhaaChecked
import Derived.KernelRfl
namespace Go.Proofs.Ytbbemleognkdhaa
set_option maxRecDepth 100000
theorem m3:Zal Try.prog 3 a3=true:=by kernel_rfl
theorem m4:Zal Try.prog 4 a4=true:=by kernel_rfl
theorem m5:Zal Try.prog 5 a5=true:=by kernel_rfl
theorem m7:Zal Try.prog 7 a7=true:=by kernel_rfl
theorem m8:Zal Try.prog 8 a8=true:=by kernel_rfl
theorem m9:Zal Try.prog 9 a9=true:=by kernel_rfl
theorem m10:Zal Try.prog 10 a10=true:=by kernel_rfl
theorem m11:Zal Try.prog 11 a11=true:=by kernel_rfl
theorem m12:Zal Try.prog 12 a12=true:=by kernel_rfl
theorem m13:Zal Try.prog 13 a13=true:=by kernel_rfl
theorem m14:Zal Try.prog 14 a14=true:=by kernel_rfl
theorem m15:Zal Try.prog 15 a15=true:=by kernel_rfl
theorem m16:Zal Try.prog 16 a16=true:=by kernel_rfl
theorem m17:Zal Try.prog 17 a17=true:=by kernel_rfl
theorem m18:Zal Try.prog 18 a18=true:=by kernel_rfl
theorem m19:Zal Try.prog 19 a19=true:=by kernel_rfl
theorem m20:Zal Try.prog 20 a20=true:=by kernel_rfl
theorem m21:Zal Try.prog 21 a21=true:=by kernel_rfl
theorem m24:Zal Try.prog 24 a24=true:=by kernel_rfl
theorem m25:Zal Try.prog 25 a25=true:=by kernel_rfl
theorem m26:Zal Try.prog 26 a26=true:=by kernel_rfl
theorem m27:Zal Try.prog 27 a27=true:=by kernel_rfl
theorem m28:Zal Try.prog 28 a28=true:=by kernel_rfl
theorem m29:Zal Try.prog 29 a29=true:=by kernel_rfl
theorem m30:Zal Try.prog 30 a30=true:=by kernel_rfl
theorem m31:Zal Try.prog 31 a31=true:=by kernel_rfl
theorem m32:Zal Try.prog 32 a32=true:=by kernel_rfl
theorem m33:Zal Try.prog 33 a33=true:=by kernel_rfl
theorem m34:Zal Try.prog 34 a34=true:=by kernel_rfl
theorem m35:Zal Try.prog 35 a35=true:=by kernel_rfl
theorem m36:Zal Try.prog 36 a36=true:=by kernel_rfl
theorem m37:Zal Try.prog 37 a37=true:=by kernel_rfl
theorem m38:Zal Try.prog 38 a38=true:=by kernel_rfl
theorem m39:Zal Try.prog 39 a39=true:=by kernel_rfl
theorem m40:Zal Try.prog 40 a40=true:=by kernel_rfl
theorem m41:Zal Try.prog 41 a41=true:=by kernel_rfl
theorem m44:Zal Try.prog 44 a44=true:=by kernel_rfl
theorem m45:Zal Try.prog 45 a45=true:=by kernel_rfl
theorem m46:Zal Try.prog 46 a46=true:=by kernel_rfl
theorem m47:Zal Try.prog 47 a47=true:=by kernel_rfl
theorem m48:Zal Try.prog 48 a48=true:=by kernel_rfl
theorem m49:Zal Try.prog 49 a49=true:=by kernel_rfl
theorem m50:Zal Try.prog 50 a50=true:=by kernel_rfl
theorem m51:Zal Try.prog 51 a51=true:=by kernel_rfl
theorem m52:Zal Try.prog 52 a52=true:=by kernel_rfl
theorem m53:Zal Try.prog 53 a53=true:=by kernel_rfl
theorem m56:Zal Try.prog 56 a56=true:=by kernel_rfl
theorem m57:Zal Try.prog 57 a57=true:=by kernel_rfl
theorem m58:Zal Try.prog 58 a58=true:=by kernel_rfl
theorem m59:Zal Try.prog 59 a59=true:=by kernel_rfl
theorem m60:Zal Try.prog 60 a60=true:=by kernel_rfl
theorem m61:Zal Try.prog 61 a61=true:=by kernel_rfl
theorem m62:Zal Try.prog 62 a62=true:=by kernel_rfl
theorem m63:Zal Try.prog 63 a63=true:=by kernel_rfl
theorem m64:Zal Try.prog 64 a64=true:=by kernel_rfl
theorem m65:Zal Try.prog 65 a65=true:=by kernel_rfl
theorem m66:Zal Try.prog 66 a66=true:=by kernel_rfl
theorem m67:Zal Try.prog 67 a67=true:=by kernel_rfl
theorem m68:Zal Try.prog 68 a68=true:=by kernel_rfl
theorem m69:Zal Try.prog 69 a69=true:=by kernel_rfl
theorem m70:Zal Try.prog 70 a70=true:=by kernel_rfl
theorem m71:Zal Try.prog 71 a71=true:=by kernel_rfl
theorem m72:Zal Try.prog 72 a72=true:=by kernel_rfl
theorem m73:Zal Try.prog 73 a73=true:=by kernel_rfl
theorem m74:Zal Try.prog 74 a74=true:=by kernel_rfl
theorem m75:Zal Try.prog 75 a75=true:=by kernel_rfl
theorem m76:Zal Try.prog 76 a76=true:=by kernel_rfl
theorem m77:Zal Try.prog 77 a77=true:=by kernel_rfl
theorem Zac:Zbg Try.prog tab:=FTree.ok (t:=tree) ⟨⟨⟨⟨⟨⟨⟨trivial,m3,trivial⟩,m4,trivial⟩,m5,⟨trivial,m7,trivial⟩⟩,m8,⟨⟨trivial,m9,trivial⟩,m10,⟨trivial,m11,trivial⟩⟩⟩,m12,⟨⟨⟨⟨trivial,m13,trivial⟩,m14,trivial⟩,m15,⟨trivial,m16,trivial⟩⟩,m17,⟨⟨trivial,m18,trivial⟩,m19,⟨trivial,m20,trivial⟩⟩⟩⟩,m21,⟨⟨⟨⟨⟨trivial,m24,trivial⟩,m25,trivial⟩,m26,⟨trivial,m27,trivial⟩⟩,m28,⟨⟨trivial,m29,trivial⟩,m30,⟨trivial,m31,trivial⟩⟩⟩,m32,⟨⟨⟨trivial,m33,trivial⟩,m34,⟨trivial,m35,trivial⟩⟩,m36,⟨⟨trivial,m37,trivial⟩,m38,⟨trivial,m39,trivial⟩⟩⟩⟩⟩,m40,⟨⟨⟨⟨⟨⟨trivial,m41,trivial⟩,m44,trivial⟩,m45,⟨trivial,m46,trivial⟩⟩,m47,⟨⟨trivial,m48,trivial⟩,m49,⟨trivial,m50,trivial⟩⟩⟩,m51,⟨⟨⟨trivial,m52,trivial⟩,m53,⟨trivial,m56,trivial⟩⟩,m57,⟨⟨trivial,m58,trivial⟩,m59,⟨trivial,m60,trivial⟩⟩⟩⟩,m61,⟨⟨⟨⟨⟨trivial,m62,trivial⟩,m63,trivial⟩,m64,⟨trivial,m65,trivial⟩⟩,m66,⟨⟨trivial,m67,trivial⟩,m68,⟨trivial,m69,trivial⟩⟩⟩,m70,⟨⟨⟨trivial,m71,trivial⟩,m72,⟨trivial,m73,trivial⟩⟩,m74,⟨⟨trivial,m75,trivial⟩,m76,⟨trivial,m77,trivial⟩⟩⟩⟩⟩⟩
theorem follows:Try.prog.follows .mixedOrders=true:=by kernel_rfl
end Go.Proofs.Ytbbemleognkdhaa
/- A call that changes a row of the caller's. No condition. -/
namespace Go.Proofs.Ytbbemleognkdhaa
open Go.RowKit (Below)
abbrev Ctx.mut(P:Program)(w:World)(okA:Nat→Prop)(cs:List Frame)(g:Nat):Ctx:=⟨P,w,okA,cs,0,g⟩
def ZsI(P:Program)(f:FuncId)(e:TypeId)(sz:Nat)(x y:Row)(args:List AV)(r:AV):Prop:=
 ∀(w:World) (okA:Nat→Prop) (L:Lay) (vs:Array Value),(∀k,okA k→k<w.heap.size)→
  HRel (Ctx.mut P w okA [] (L.loc 0 0)) (Zak (some ⟨e,sz,x⟩)) L w→
  RelL w (Zaj (Ctx.mut P w okA [] (L.loc 0 0)) (Zak (some ⟨e,sz,x⟩)) L) (Zak (some ⟨e,sz,x⟩)) L (.row 0 0::args) vs.toList→
  Calls P f vs w fun e' w'=>∃v L',e'=.returned v∧Fr (Ctx.mut P w okA [] (L.loc 0 0)) (Zak (some ⟨e,sz,x⟩)) L w (Zak (some ⟨e,sz,y⟩)) L' w'∧
   HRel (Ctx.mut P w okA [] (L.loc 0 0)) (Zak (some ⟨e,sz,y⟩)) L' w'∧Zao (Ctx.mut P w okA [] (L.loc 0 0)) (Zak (some ⟨e,sz,y⟩)) L' w' r v
def Zqk:AV→Bool
 | .row a i=>Nat.beq a 0&&Nat.beq i 0
 | .slc a i _ _ _=>Nat.beq a 0&&Nat.beq i 0
 |v=>v.pure
def Zwf(f:FuncId)(e:TypeId)(sz:Nat)(y:Row)(r:AV)(fs:List AFrame)(h:Zab):Prop:=
 ∃g vs,fs=[g]∧g.fn=f∧g.ret=true∧g.rnd=none∧g.defs=[]∧Zdj std g.env h g.res=some (true,vs)∧Zdu vs=r∧Zqk r=true∧blk h 0 0=.row e sz y∧y.pure=true
section
variable {C:Ctx}{h:Zab}{L:Lay}{w:World}
def Zrs(a i:Nat):AV→AV
 | .row _ _=>.row a i
 | .slc _ _ k n c=>.slc a i k n c
 |v=>v
theorem Zks{f:FuncId}{a i e sz:Nat}{x y:Row}{args:List AV}{vs:Array Value}{r:AV}(H:HRel C h L w)(hb:blk h a i=.row e sz x)(hxn:0<x.elems.length)(hxp:x.pure=true)(hyp:y.pure=true)(hap:AV.pureL args=true)(hrel:RelL w (Zaj C h L) h L (.row a i::args) vs.toList)(hor:Zqk r=true)(hm:ZsI C.P f e sz x y args r):
 Calls C.P f vs w fun e' w'=>∃v L',e'=.returned v∧Step w (Zaj C h L) h L w' (Zaj C (Zav h a i (.row e sz y)) L') (Zav h a i (.row e sz y)) L'∧HRel C (Zav h a i (.row e sz y)) L' w'∧Zao C (Zav h a i (.row e sz y)) L' w' (Zrs a i r) v:=by
 obtain⟨ht,h0,h1,h2,h3⟩:=H.rowAt hb
 have hs0:L.size a i≠0:=by omega
 obtain⟨ht0,cur,h4,h5,h6,h7,h8⟩:=H.curAt hb hs0
 have hnd:blk h a i≠ .dead:=by rw[hb];simp
 let okA:Nat→Prop:=fun k=>Zaj C h L k∧k<w.heap.size
 let L1:Lay:=⟨fun _ _=>L.loc a i,fun _ _=>L.size a i⟩
 have h00:∀(L':Lay) (z:Row) b j,Plc (Zak (some ⟨e,sz,z⟩)) L' b j→b=0∧j=0:=fun L' z b j hx=>by
  have hx:=hx.tag
  rw[Za9]at hx
  split at hx
  ·assumption
  ·exact absurd rfl hx
 have hno:¬okA (L.loc a i):=fun ho=>ZnB H ho.1 ht0 rfl
 have hok1:∀g,g<w.heap.size→Zaj C h L g→Zaj (Ctx.mut C.P w okA [] (L.loc a i)) (Zak (some ⟨e,sz,x⟩)) L1 g:=fun g hg ho=>.inl ⟨hg,ho,hg⟩
 have H1:HRel (Ctx.mut C.P w okA [] (L.loc a i)) (Zak (some ⟨e,sz,x⟩)) L1 w:=by
  refine⟨Below.refl _ _,fun b j _=>⟨Nat.zero_le _,(H.live a i ht0).2⟩,fun b j=>?_,fun b j c k hb1 hb2 _=>?_,fun b j hx=>?_,fun _ _ _=>rfl,Nat.zero_le _,H.good.mut H.below H.low (H.live a i ht0).1 (by rcases H.home a i ht0 with q |⟨_,_,q,_⟩;exact .inl q;exact .inr q)⟩
  ·rw[Za9]
   split
   ·exact⟨h0,h1,h2,h3,fun _=>⟨cur,h4,h5,⟨h6.1,fun j u v hu hv=>((h6.2 j u v hu hv).okmono (fun g hg ho=>hok1 g hg ho)).pure (AV.pureL_mem (ZaJ hxp) hu)⟩,h7⟩⟩
   ·trivial
  ·obtain⟨rfl,rfl⟩:=h00 _ x b j hb1
   obtain⟨rfl,rfl⟩:=h00 _ x c k hb2
   exact⟨rfl,rfl⟩
  ·obtain⟨rfl,rfl⟩:=h00 _ x b j hx
   exact .inr ⟨rfl,rfl,rfl,hno⟩
 have hrel1:RelL w (Zaj (Ctx.mut C.P w okA [] (L.loc a i)) (Zak (some ⟨e,sz,x⟩)) L1) (Zak (some ⟨e,sz,x⟩)) L1 (.row 0 0::args) vs.toList:=by
  refine⟨by have:=hrel.1;simpa using this,fun j u v hu hv=>?_⟩
  cases j with
  |zero=>
   simp at hu;subst hu
   have hr:=hrel.2 0 _ v rfl hv
   cases hr with
   |row _ _ ad n c hn hl=>
    obtain⟨had,rfl,rfl⟩:=hl.2 _ ht
    refine .row 0 0 _ _ _ hn ⟨by show 0<0+1;omega,fun s hs=>?_⟩
    rw[Za9]at hs
    simp only[and_self,if_true,Blk.tag,Option.some.injEq]at hs
    subst hs
    exact⟨had,rfl,rfl⟩
  |succ j=>
   have hu':args[j]? =some u:=by simpa using hu
   exact((hrel.2 (j+1) u v (by simpa using hu') hv).okmono (fun g hg ho=>hok1 g hg ho)).pure (AV.pureL_mem hap hu')
 refine(hm w okA L1 vs (fun k hk=>hk.2) H1 hrel1).mono ?_
 rintro e' w' ⟨v,L',rfl,hF,H2,rr⟩
 have ht2:(blk (Zak (some ⟨e,sz,y⟩)) 0 0).tag=some (sz,y.elems.length):=rfl
 obtain⟨t1,l1,s1⟩:=hF.tags _ (by show 0<0+1;omega) ht2
 have l1:L'.loc 0 0=L.loc a i:=l1
 have s1:L'.size 0 0=L.size a i:=s1
 have hlen:y.elems.length=x.elems.length:=by
  have:(blk (Zak (some ⟨e,sz,x⟩)) 0 0).tag=some (sz,x.elems.length):=rfl
  rw[this]at t1
  simp only[Option.some.injEq,Prod.mk.injEq,true_and]at t1
  exact t1.symm
 have hgr:w.grownBy w' (some (L.loc a i)):=⟨H2.below.os,H2.below.tape,H2.below.output,hF.size,fun k hk hne=>H2.low k hk (fun e=>hne (by rw[e]))⟩
 have hok2:∀(hst:Step w (Zaj C h L) h L w' (Zaj C (Zav h a i (.row e sz y)) L) (Zav h a i (.row e sz y)) L) g,Zaj (Ctx.mut C.P w okA [] (L.loc a i)) (Zak (some ⟨e,sz,y⟩)) L' g→Zaj C (Zav h a i (.row e sz y)) L g:=fun hst g ho=>by
  rcases ho with⟨q1,q2⟩ |⟨q1,q2⟩
  ·exact(hst.mem g q2.2 q2.1).1
  ·have q1:w.heap.size≤g:=q1
   refine .inr ⟨Nat.le_trans H.top q1,fun b j hx hxe=>?_⟩
   have:Plc h L b j:=by
    by_cases e1:a=b∧i=j
    ·obtain⟨rfl,rfl⟩:=e1;exact ht0
    ·exact hx.to (by rw[ZbA hnd,if_neg e1]) rfl
   have:=(H.live b j this).2
   omega
 obtain⟨hst,H3⟩:=H.set (b:=.row e sz y) ht0 (by rw[ht];show some (sz,y.elems.length)=_;rw[hlen]) hgr (fun hst=>by
  have hbr:=H2.blks 0 0
  rw[show blk (Zak (some ⟨e,sz,y⟩)) 0 0=.row e sz y from rfl,l1,s1]at hbr
  obtain⟨g0,g1,g2,g3,hcur⟩:=hbr
  obtain⟨cur2,g4,g5,g6,g7⟩:=hcur hs0
  exact⟨g0,g1,g2,g3,fun _=>⟨cur2,g4,g5,⟨g6.1,fun j u v hu hv=>((g6.2 j u v hu hv).okmono (fun g _ ho=>hok2 hst g ho)).pure (AV.pureL_mem (ZaJ hyp) hu)⟩,g7⟩⟩)
 refine⟨v,L,rfl,hst,H3,?_⟩
 have hbs:blk (Zav h a i (.row e sz y)) a i=.row e sz y:=by rw[ZbA hnd,if_pos ⟨rfl,rfl⟩]
 have hlv:∀ {p p':Nat→Nat×Nat→Prop},Live (Zak (some ⟨e,sz,y⟩)) L' 0 0 p→(∀s,p (L'.loc 0 0) s→p' (L.loc a i) s)→Live (Zav h a i (.row e sz y)) L a i p':=fun hp hpp=>by
  refine⟨ZlR (by rw[hbs];simp),fun s hs=>?_⟩
  rw[hbs]at hs
  simp only[Blk.tag,Option.some.injEq]at hs
  subst hs
  exact hpp _ (hp.2 _ ht2)
 have key:r.pure=true→Zao C (Zav h a i (.row e sz y)) L w' r v:=fun hp=>(rr.okmono (fun g _ ho=>hok2 hst g ho)).pure hp
 cases r with
 |row b j=>
  simp only[Zqk,Bool.and_eq_true]at hor
  have ha:=Nat.eq_of_beq_eq_true hor.1
  have hi:=Nat.eq_of_beq_eq_true hor.2
  subst ha;subst hi
  cases rr with
  |row _ _ ad n c hn hl=>exact .row a i ad n c hn (hlv hl fun s hp=>by rw[←s1,←l1];exact hp)
 |slc b j k n cap=>
  simp only[Zqk,Bool.and_eq_true]at hor
  have ha:=Nat.eq_of_beq_eq_true hor.1
  have hi:=Nat.eq_of_beq_eq_true hor.2
  subst ha;subst hi
  cases rr with
  |slc _ _ _ _ _ ad c hn hl=>exact .slc a i k n cap ad c hn (hlv hl fun s hp=>by rw[←s1,←l1];exact hp)
 |_=>exact key hor
end
section
variable {C:Ctx}{h:Zab}{Q:List AFrame→Zab→Prop}{f:AFrame}{fs:List AFrame}{k:List AItem}
theorem Zjz{o:AOp}{os:List AOp}{g:FuncId}{mm:Bool}{a0 a i e sz:Nat}{args:List Opd}{x y:Row}{rest:List AV}{r:AV}(hr:f.ret=false)(ht:f.todo=.inReg (o::os)::k)(hg:o.g=none)(hk:o.k=.ncall mm a0 g args)
 (ha:args.map (ZaS (Zau f.env))=.row a i::rest) (hb:blk h a i=.row e sz x) (hxn:0<x.elems.length) (hxp:x.pure=true) (hyp:y.pure=true) (hap:AV.pureL rest=true) (hor:Zqk r=true) (hm:ZsI C.P g e sz x y rest r)
 (hq:Ev C ({ f with env:=Zkw f.env o.d (Zrs a i r),todo:=.inReg os::k } ::fs) (Zav h a i (.row e sz y)) Q):Ev C (f::fs) h Q:=by
 intro L fr cs w hf H _
 cases hf with
 |cons hf hkk=>
  rcases hf.mode with⟨e,_⟩ |⟨_,hmo,hi⟩
  ·rw[hr]at e;cases e
  ·rw[ht]at hi
   cases hi':fr.todo with
   |nil=>rw[hi']at hi;cases hi
   |cons z l=>
    rw[hi']at hi
    cases hi with
    |cons hx hki=>
     cases hx with
     |inReg ops ix _ hmc=>
      obtain⟨kk,ix',op,rfl,e1,e2,e3⟩:=Zdg hmc
      have henv:EnvF C h L w (Zau f.env) fr.tmps:=hf.env
      obtain⟨g0,_,_⟩:=Zjf henv e2
      have hwant:=g0 hg
      have e2':=e2
      simp only[ZkQ,Bool.and_eq_true,beq_iff_eq]at e2'
      obtain⟨⟨⟨⟨hnd,hdst⟩,hdN⟩,_⟩,hmop⟩:=e2'
      have hdN':∀d',o.d=some d'→d'<fr.tmps.size:=fun d' e=>by rw[e]at hdN;rw[hf.size];simpa using hdN
      have e1':ops.toArray[kk]? =some op:=by simpa using e1
      have hfin:∀v,fr.finish v= { fr with tmps:=ZgG fr.tmps o.d v,todo:=.inRegion ops.toArray ix'::l } :=fun v=>by rw[ZdM hi' e1',hdst]
      have hρ:=Zsx henv
      rw[hk]at hmop
      simp only[mop]at hmop
      split at hmop
      ·rename_i f' args' ts ho
       simp only[Bool.and_eq_true,beq_iff_eq]at hmop
       obtain⟨⟨rfl,hmop⟩,hcal⟩:=hmop
       have hrel:=ZbC hρ hmop
       rw[ha]at hrel
       have hrun:(execOp fr.eval op).run C.P w=.ok (.enter g (args'.map fr.eval)) w:=by simpa using Zel (w:=w) ho (hρ.fnc g) hcal
       have hcalls:=Zks H hb hxn hxp hyp hap hrel hor hm
       obtain⟨v,w',⟨v',L',e,s,H',hv⟩,hst⟩:=Zhm (cs:=cs) hmo hi' e1' hwant hnd hrun hcalls (fun e w'' hh=>by obtain⟨x,_,e,_⟩:=hh;exact⟨x,e⟩)
       cases e
       rw[hfin]at hst
       have hfs:=hf.step s
       have he':EnvF C (Zav h a i (.row _ sz y)) L' w' (Env.put (Zau f.env) o.d (Zrs a i r)) (ZgG fr.tmps o.d v):=(EnvF.step s henv).put hdN' (fun _=>hv)
       obtain⟨fs2,h2',L2,fr2,cs2,w2,q2,n2,a2,b2,s2⟩:=hq L' { fr with tmps:=ZgG fr.tmps o.d v,todo:=.inRegion ops.toArray ix'::l } cs w'
        (.cons ⟨hf.fn,by rw[Zdo];exact hf.size,by intro t av hta;exact he' t av (by rw[←Zca];exact hta),hf.kind,hfs.defs,hfs.rnd, .inr ⟨hr,hmo, .cons (.inReg ops ix' os e3) (hki.step s)⟩,hf.res⟩ (hkk.step s)) H' (by simp)
       exact⟨fs2,h2',L2,fr2,cs2,w2,q2,n2,a2,b2,hst.trans s2.1,(Fr.of s).trans s2.2⟩
      ·cases hmop
theorem Znz{t a i e sz n:Nat}{r:Row}(ht:Zau f.env t=some (.slc a i 0 n none))(hb:blk h a i=.row e sz r)(hz:ZhT a=false)(hn:n≤r.elems.length)
 (hq:Ev C ({ f with env:=Zb7 f.env t (.row a (nxt h a)) } ::fs) (Zae (Zav h a i .dead) a (.row e sz (r.sub std 0 n))) Q):Ev C (f::fs) h Q:=by
 intro L fr cs w hf H _
 cases hf with
 |cons hf hk=>
  obtain⟨L',s,H',rr⟩:=H.shrink hb (Zb5 hz) hn
  rw[(ZbV (show blk h a i≠ .dead by rw[hb];simp)).1]at rr
  have hfs:=hf.step s
  obtain⟨fs2,h2',L2,fr2,cs2,w2,q2,n2,a2,b2,s2⟩:=hq L' fr cs w (.cons ⟨hf.fn,hf.size,fun t' av ht'=>by
   rw[Zbe]at ht'
   split at ht'
   ·rename_i htt
    subst htt
    cases ht'
    exact rr _ (hf.env _ _ ht)
   ·exact hfs.env t' av ht',hf.kind,hfs.defs,hfs.rnd,hfs.mode,hf.res⟩ (hk.step s)) H' (by simp)
  exact⟨fs2,h2',L2,fr2,cs2,w2,q2,n2,a2,b2,s2.1,(Fr.of s).trans s2.2⟩
end
end Go.Proofs.Ytbbemleognkdhaa
/- Guided runs: where the way hangs on a letter, a list of choices says which way is taken. No condition. -/
namespace Go.Proofs.Ytbbemleognkdhaa
open Go.RowKit (Below)
def Zq1:List (Nat×AV)→Nat→AV→List (Nat×AV)
 |[],_,_=>[]
 |(i,x)::l,t,y=>match Nat.beq i t with |true=>(i,y)::l |false=>(i,x)::Zq1 l t y
theorem Zer:∀ {env:List (Nat×AV)} {t:Nat} {v:AV},Zau env t=some v→Zq1 env t v=env
 |[],t,v,h=>by cases h
 |(i,x)::l,t,v,h=>by
  simp only[Zau]at h
  simp only[Zq1]
  split
  ·rename_i hb;rw[hb]at h;cases h;rfl
  ·rename_i hb;rw[hb]at h;rw[Zer h]
def asB(p b:Bool):Bool:=match p with |true=>b |false=>!b
theorem ZoS{p b:Bool}(h:asB p b=true):b=p:=by cases p<;>cases b<;>first |rfl |cases h
abbrev ZdY:=List (Nat×AV)
def Zk3(env:ZdY)(pa acc:List Bool)(t:Nat):Option (List Bool×List Bool×ZdY):=
 match Zau env t with
 |some v=>(match v with
  | .bool b=>(match pa with
    |p::ps=>some (ps,asB p b::acc,Zq1 env t (.bool p))
    |[]=>none)
  |_=>some (pa,acc,env))
 |none=>some (pa,acc,env)
theorem Zmo{env env':ZdY}{pa pa' acc acc':List Bool}{t:Nat}(h:Zk3 env pa acc t=some (pa',acc',env'))(hb:∀b∈acc',b=true):env'=env∧∀b∈acc,b=true:=by
 unfold Zk3 at h
 split at h
 ·rename_i v hv
  split at h
  ·rename_i b
   split at h
   ·rename_i p ps
    cases h
    have:=ZoS (hb _ List.mem_cons_self)
    subst this
    exact⟨Zer hv,fun b hb'=>hb b (List.mem_cons_of_mem _ hb')⟩
   ·cases h
  ·cases h;exact⟨rfl,hb⟩
 ·cases h;exact⟨rfl,hb⟩
def inN(t:Nat):List Nat→Bool
 |[]=>false
 |x::l=>match Nat.beq x t with |true=>true |false=>inN t l
def ZwT(d:Option Nat)(l:List Nat):List Nat:=match d with |none=>l |some t=>l.filter fun x=>!Nat.beq x t
abbrev Zrz:=Option (List Bool×List Bool×ZdY×List Nat)
def Zgz(st:List Nat)(env:ZdY)(pa acc:List Bool)(t:Nat):Zrz:=
 match inN t st with
 |true=>some (pa,acc,env,st)
 |false=>match Zk3 env pa acc t with
  |none=>none
  |some (pa',acc',env')=>some (pa',acc',env',t::st)
theorem ZdG{st st':List Nat}{env env':ZdY}{pa pa' acc acc':List Bool}{t:Nat}(h:Zgz st env pa acc t=some (pa',acc',env',st'))(hb:∀b∈acc',b=true):env'=env∧∀b∈acc,b=true:=by
 unfold Zgz at h
 split at h
 ·cases h;exact⟨rfl,hb⟩
 ·split at h
  ·cases h
  ·rename_i hs;cases h;exact Zmo hs hb
def Zrn:Nat→List Bool→Option (Nat×List Bool)
 |_,[]=>none
 |j,b::pa=>match b with |true=>some (j,pa) |false=>Zrn (j+1) pa
def ZiA(A:Ar)(st:List Nat)(env:ZdY)(pa acc:List Bool)(t:Nat):Zrz:=
 match Zau env t with
 |some v=>(match v with
  | .int k n=>(match Zrn 0 pa with
    |some (j,ps)=>some (ps,A.eq n (Int.ofNat j)::acc,Zq1 env t (.int k (Int.ofNat j)),st)
    |none=>none)
  |_=>some (pa,acc,env,st))
 |none=>some (pa,acc,env,st)
theorem ZjS{st st':List Nat}{env env':ZdY}{pa pa' acc acc':List Bool}{t:Nat}(h:ZiA std st env pa acc t=some (pa',acc',env',st'))(hb:∀b∈acc',b=true):env'=env∧∀b∈acc,b=true:=by
 unfold ZiA at h
 split at h
 ·rename_i v hv
  split at h
  ·rename_i k n
   split at h
   ·rename_i j ps _
    cases h
    have e:std.eq n (Int.ofNat j)=true:=hb _ List.mem_cons_self
    have e:n=Int.ofNat j:=by simpa[std]using e
    subst e
    exact⟨Zer hv,fun b hb'=>hb b (List.mem_cons_of_mem _ hb')⟩
   ·cases h
  ·cases h;exact⟨rfl,hb⟩
 ·cases h;exact⟨rfl,hb⟩
def Zdy(A:Ar)(st:List Nat)(i:Opd)(env:ZdY)(pa acc:List Bool):Zrz:=
 match i with
 | .s t=>ZiA A st env pa acc t
 |_=>some (pa,acc,env,st)
theorem Zcy{st st':List Nat}{i:Opd}{env env':ZdY}{pa pa' acc acc':List Bool}(h:Zdy std st i env pa acc=some (pa',acc',env',st'))(hb:∀b∈acc',b=true):env'=env∧∀b∈acc,b=true:=by
 unfold Zdy at h
 split at h
 ·exact ZjS h hb
 ·cases h;exact⟨rfl,hb⟩
def Zge(A:Ar)(st:List Nat)(k:OpK)(env:ZdY)(pa acc:List Bool):Zrz:=
 match k with
 | .aaddr _ _ _ i=>Zdy A st i env pa acc
 | .idxa _ _ _ i=>Zdy A st i env pa acc
 | .idx _ _ i=>Zdy A st i env pa acc
 | .iaddr _ _ i=>Zdy A st i env pa acc
 | .pick c _ _=>(match c with | .t n=>Zgz st env pa acc n |_=>some (pa,acc,env,st))
 |_=>some (pa,acc,env,st)
theorem Zfx{st st':List Nat}{k:OpK}{env env':ZdY}{pa pa' acc acc':List Bool}(h:Zge std st k env pa acc=some (pa',acc',env',st'))(hb:∀b∈acc',b=true):env'=env∧∀b∈acc,b=true:=by
 unfold Zge at h
 split at h
 ·exact Zcy h hb
 ·exact Zcy h hb
 ·exact Zcy h hb
 ·exact Zcy h hb
 ·split at h
  ·exact ZdG h hb
  ·cases h;exact⟨rfl,hb⟩
 ·cases h;exact⟨rfl,hb⟩
def ZgH(A:Ar)(st:List Nat)(o:AOp)(env:ZdY)(pa acc:List Bool):Zrz:=
 match o.g with
 |none=>Zge A st o.k env pa acc
 |some p=>match Zgz st env pa acc p.1 with
  |none=>none
  |some (pa1,acc1,env1,st1)=>match Zd5 o env1 with
   |some g=>(match g with |true=>Zge A st1 o.k env1 pa1 acc1 |false=>some (pa1,acc1,env1,st1))
   |none=>none
theorem ZdE{st st':List Nat}{o:AOp}{env env':ZdY}{pa pa' acc acc':List Bool}(h:ZgH std st o env pa acc=some (pa',acc',env',st'))(hb:∀b∈acc',b=true):env'=env∧∀b∈acc,b=true:=by
 unfold ZgH at h
 split at h
 ·exact Zfx h hb
 ·split at h
  ·cases h
  ·rename_i pa1 acc1 env1 st1 hs
   split at h
   ·split at h
    ·obtain⟨e1,h1⟩:=Zfx h hb
     obtain⟨e2,h2⟩:=ZdG hs h1
     exact⟨e1.trans e2,h2⟩
    ·cases h;exact ZdG hs hb
   ·cases h
structure Ctr where
 f:FuncId
 n:Nat
 run:List Bool→List AV→Option (Bool×AV×Option Fresh)
def Zqr(P:Program)(f:FuncId)(args:List AV)(r:AV)(fr:Option Fresh):Prop:=
 match Nat.blt f 1000000 with
 |true=>Zaf P f args r fr
 |false=>∀x rest fs,args=.list x::rest→fr=some fs→ZsI P (f-1000000) fs.e fs.sz x fs.r rest r
def Ctr.OK(P:Program)(c:Ctr):Prop:=∀pa args r fr,c.run pa args=some (true,r,fr)→Zqr P c.f args r fr
def Zkn:List Ctr→List Bool→Con
 |[],_,_,_=>none
 |c::l,pa,f,args=>match Nat.beq c.f f with
  |true=>(match Nat.blt f 1000000 with
   |true=>(match c.run pa args with |some r=>some r |none=>Zkn l pa f args)
   |false=>none)
  |false=>Zkn l pa f args
def Zso:List Ctr→List Bool→FuncId→List AV→Option (Bool×AV×Option Fresh)
 |[],_,_,_=>none
 |c::l,pa,f,args=>match Nat.beq c.f (f+1000000)with
  |true=>(match c.run pa args with |some r=>some r |none=>Zso l pa f args)
  |false=>Zso l pa f args
def Zwc:List Ctr→FuncId→Nat
 |[],_=>0
 |c::l,f=>match Nat.beq c.f f with |true=>c.n |false=>Zwc l f
def ZaX(P:Program):List Ctr→Prop
 |[]=>True
 |c::l=>c.OK P∧ZaX P l
theorem ZeS{P:Program} :∀ {l:List Ctr},ZaX P l→∀pa,Zee P (Zkn l pa)
 |[],_,pa=>fun f args r fr h=>by cases h
 |c::l,⟨h1,h2⟩,pa=>fun f args r fr h=>by
  simp only[Zkn]at h
  split at h
  ·rename_i e
   have e:c.f=f:=Nat.eq_of_beq_eq_true e
   split at h
   ·rename_i hlt
    split at h
    ·rename_i q hq
     cases h
     have:=h1 _ _ _ _ hq
     unfold Zqr at this
     rw[e,hlt]at this
     exact this
    ·exact ZeS h2 pa f args r fr h
   ·cases h
  ·exact ZeS h2 pa f args r fr h
theorem Zgs{P:Program} :∀ {l:List Ctr},ZaX P l→∀ {pa:List Bool} {f:FuncId} {x:Row} {rest:List AV} {r:AV} {fs:Fresh},Zso l pa f (.list x::rest)=some (true,r,some fs)→ZsI P f fs.e fs.sz x fs.r rest r
 |[],_,pa,f,x,rest,r,fs,h=>by cases h
 |c::l,⟨h1,h2⟩,pa,f,x,rest,r,fs,h=>by
  simp only[Zso]at h
  split at h
  ·rename_i e
   have e:c.f=f+1000000:=Nat.eq_of_beq_eq_true e
   split at h
   ·rename_i q hq
    cases h
    have:=h1 _ _ _ _ hq
    unfold Zqr at this
    have hb:Nat.blt c.f 1000000=false:=Zby (by rw[e];exact Nat.le_add_left _ _)
    rw[hb]at this
    have h3:=this x rest fs rfl rfl
    rw[e,Nat.add_sub_cancel]at h3
    exact h3
   ·exact Zgs h2 h
  ·exact Zgs h2 h
theorem ZgO{α:Type}(t:Nat)(x y:α):∀l:List (Nat×α),Zb7 (Zb7 l t x) t y=Zb7 l t y
 |[]=>by have:Nat.beq t t=true:=by simp
         simp only[Zb7,this]
 |(i,z)::l=>by
  have ht:Nat.beq t t=true:=by simp
  cases hb:Nat.beq i t with
  |true=>simp only[Zb7,hb]
  |false=>cases hl:Nat.blt t i with
   |true=>simp only[Zb7,hb,hl,ht]
   |false=>simp only[Zb7,hb,hl,ZgO t x y l]
def Zqv:AV→Option Nat
 | .slc _ _ k n c=>(match Nat.beq k 0,c with |true,none=>some n |_,_=>none)
 |_=>none
theorem ZkC{r:AV}{n a i:Nat}(h:Zqv r=some n):Zrs a i r=.slc a i 0 n none:=by
 unfold Zqv at h
 split at h
 ·rename_i b j k m c
  split at h
  ·rename_i hk
   have:=Nat.eq_of_beq_eq_true hk
   subst this
   cases h;rfl
  ·cases h
 ·cases h
def Zuw(A:Ar)(l:List Ctr)(pa:List Bool)(env:ZdY)(h:Zab)(o:AOp):Option (Bool×AV×Zab):=
 match o.g with
 |some _=>none
 |none=>match o.k with
  | .ncall _ _ g args=>match args.map (ZaS (Zau env))with
    |v::rest=>match v with
     | .row a i=>match blk h a i with
       | .row e sz x=>match AV.pureL rest&&x.pure with
         |true=>match Zso l pa g (.list x::rest)with
          |some (b,r,some fs)=>match fs.r.pure&&Zqk r with
           |true=>(match Zqv r,ZhT a,o.d with
            |some n,false,some _=>some (Zam (Nat.blt 0 (x.len A))<|Zam (Nat.ble n (fs.r.len A)) (Zam b (Zam (Nat.beq fs.e e) (Nat.beq fs.sz sz))), .row a (nxt (Zav h a i (.row e sz fs.r)) a),Zae (Zav (Zav h a i (.row e sz fs.r)) a i .dead) a (.row e sz (fs.r.sub A 0 n)))
            |_,_,_=>some (Zam (Nat.blt 0 (x.len A))<|Zam b (Zam (Nat.beq fs.e e) (Nat.beq fs.sz sz)),Zrs a i r,Zav h a i (.row e sz fs.r)))
           |false=>none
          |_=>none
         |false=>none
       |_=>none
     |_=>none
    |[]=>none
  |_=>none
theorem Zpn{C:Ctx}{l:List Ctr}{pa:List Bool}{h h':Zab}{Q:List AFrame→Zab→Prop}{f:AFrame}{fs:List AFrame}{k:List AItem}{o:AOp}{os:List AOp}{r:AV}(hl:ZaX C.P l)(hr:f.ret=false)(ht:f.todo=.inReg (o::os)::k)(hm:Zuw std l pa f.env h o=some (true,r,h'))
 (hq:Ev C ({ f with env:=Zkw f.env o.d r,todo:=.inReg os::k } ::fs) h' Q):Ev C (f::fs) h Q:=by
 unfold Zuw at hm
 split at hm
 ·cases hm
 ·rename_i hg
  split at hm
  ·rename_i mm a0 g args hk
   split at hm
   ·rename_i v rest ha
    split at hm
    ·rename_i a i
     split at hm
     ·rename_i e sz x hb
      split at hm
      ·rename_i hp
       split at hm
       ·rename_i b r0 fs0 hc
        split at hm
        ·rename_i hp2
         simp only[Bool.and_eq_true]at hp hp2
         split at hm
         ·rename_i n d hpm hfz hd
          simp only[Option.some.injEq,Prod.mk.injEq,std_and]at hm
          obtain⟨⟨hxn,hle,rfl,he,hs⟩,rfl,rfl⟩:=hm
          have hxn:0<x.elems.length:=by rw[Row.len_std]at hxn;simpa[std]using hxn
          have he:fs0.e=e:=by simpa[std]using he
          have hs:fs0.sz=sz:=by simpa[std]using hs
          have hle:n≤fs0.r.elems.length:=by rw[Row.len_std]at hle;simpa[std]using hle
          have hmu:=Zgs hl hc
          rw[he,hs]at hmu
          have hnd:blk h a i≠ .dead:=by rw[hb];simp
          refine Zjz hr ht hg hk ha hb hxn hp.2 hp2.1 hp.1 hp2.2 hmu ?_
          rw[ZkC hpm]
          refine Znz (t:=d) (a:=a) (i:=i) (e:=e) (sz:=sz) (n:=n) (r:=fs0.r) ?_ (by rw[ZbA hnd,if_pos ⟨rfl,rfl⟩]) hfz hle ?_
          ·simp only[hd,Zkw,Zbe,if_true]
          ·simp only[hd,Zkw,ZgO]at hq⊢
           exact hq
         ·simp only[Option.some.injEq,Prod.mk.injEq,std_and]at hm
          obtain⟨⟨hxn,rfl,he,hs⟩,rfl,rfl⟩:=hm
          have hxn:0<x.elems.length:=by rw[Row.len_std]at hxn;simpa[std]using hxn
          have he:fs0.e=e:=by simpa[std]using he
          have hs:fs0.sz=sz:=by simpa[std]using hs
          have hmu:=Zgs hl hc
          rw[he,hs]at hmu
          exact Zjz hr ht hg hk ha hb hxn hp.2 hp2.1 hp.1 hp2.2 hmu hq
        ·cases hm
       ·cases hm
      ·cases hm
     ·cases hm
    ·cases hm
   ·cases hm
  ·cases hm
def Zpi(o:AOp)(env:ZdY):Option FuncId:=
 match o.k with
 | .ncall _ _ f _=>some f
 | .ncallv _ _ x _=>(match Zqh (ZaS (Zau env) x) []with |some (f,_)=>some f |none=>none)
 |_=>none
def Zhi(l:List Ctr)(o:AOp)(env:ZdY)(pa:List Bool):List Bool:=
 match Zpi o env with
 |none=>pa
 |some f=>match Zd5 o env with
  |some g=>(match g with |true=>pa.drop (Zwc l f) |false=>pa)
  |none=>pa
def Zgf(A:Ar)(T:Tab)(l:List Ctr):List AOp→List Nat→List Bool→List Bool→ZdY→Zab→Option (List Bool×List Bool×ZdY×Zab×List Foot)
 |[],_,pa,acc,env,h=>some (pa,acc,env,h,[])
 |o::os,st,pa,acc,env,h=>match ZgH A st o env pa acc with
  |none=>none
  |some (pa1,acc1,env1,st1)=>match Zdx A T (Zkn l pa1) o env1 h with
   |none=>none
   |some (b,r,h1)=>match Zgf A T l os (ZwT o.d st1) (Zhi l o env1 pa1) (b::acc1) (Zkw env1 o.d r) h1 with
    |none=>none
    |some (pa2,acc2,env2,h2,zs)=>some (pa2,acc2,env2,h2,Zfq env1 h o::zs)
def Zi4(fr:List (Nat×Nat))(zs:List Foot):Bool:=match fr with |[]=>true |fr=>Zky zs fr
abbrev ZqS:=Option (List Bool×List Bool×AFrame×List AFrame×Zab)
def Zhe(pa:List Bool):Zlj→ZqS
 |none=>none
 |some (acc,f,fs,h)=>some (pa,acc,f,fs,h)
def ZvX(A:Ar)(T:Tab)(l:List Ctr)(pa acc:List Bool)(f:AFrame)(k:List AItem)(fs:List AFrame)(h:Zab)(fr:List (Nat×Nat))(ops:List AOp):ZqS:=
 match ZhR fr with
 |true=>none
 |false=>match Zhl ops with
  |false=>(match Zgf A T l ops [] pa acc f.env h with
   |none=>none
   |some (pa',acc',env',h',zs)=>match Zi4 fr zs with
    |true=>some (pa',acc',{ f with env:=env',todo:=k },fs,h')
    |false=>none)
  |true=>match Zgf A T l (ops.take (ZbP ops)) [] pa acc f.env h with
   |none=>none
   |some (pa',acc',env',h',zs)=>match Zi4 fr zs with
    |true=>some (pa',acc',{ f with env:=env',todo:=.inReg (ops.drop (ZbP ops))::k },fs,h')
    |false=>none
def opG(A:Ar)(T:Tab)(l:List Ctr)(pa acc:List Bool)(o:AOp)(os:List AOp)(f:AFrame)(k:List AItem)(fs:List AFrame)(h:Zab):ZqS:=
 match Zuw A l pa f.env h o with
 |some (b,r,h2)=>some (pa,b::acc,{ f with env:=Zkw f.env o.d r,todo:=.inReg os::k },fs,h2)
 |none=>match ZgH A [] o f.env pa acc with
 |none=>none
 |some (pa1,acc1,env1,_)=>match opA A T (Zkn l pa1) acc1 o os { f with env:=env1 } k fs h with
  |none=>none
  |some (acc2,f2,fs2,h2)=>some (Zhi l o env1 pa1,acc2,f2,fs2,h2)
def Zrg(pa acc:List Bool)(f:AFrame)(k:List AItem)(fs:List AFrame)(h:Zab)(v:AV)(a b:ACode):ZqS:=
 match v with
 | .bool t=>(match pa with
   |p::ps=>some (ps,asB p t::acc,{ f with todo:=.code (ZtB p a b)::k },fs,h)
   |[]=>none)
 |_=>none
def ZoP(A:Ar)(T:Tab)(l:List Ctr)(pa acc:List Bool)(f:AFrame)(fs:List AFrame)(h:Zab):ZqS:=
 match f.ret with
 |true=>Zhe pa (Zed A T (Zkn l pa) acc f fs h)
 |false=>match f.todo with
  |[]=>Zhe pa (Zed A T (Zkn l pa) acc f fs h)
  |it::k=>match it with
   | .inReg os=>(match os with
     |[]=>Zhe pa (Zed A T (Zkn l pa) acc f fs h)
     |o::os=>opG A T l pa acc o os f k fs h)
   | .code c=>(match c with
     | .cond c a b=>Zrg pa acc f k fs h (ZaS (Zau f.env) c) a b
     | .reg d ops=>(match d with
       |some fr=>ZvX A T l pa acc f k fs h fr ops
       |none=>Zhe pa (Zed A T (Zkn l pa) acc f fs h))
     |_=>Zhe pa (Zed A T (Zkn l pa) acc f fs h))
   |_=>Zhe pa (Zed A T (Zkn l pa) acc f fs h)
def ZeO(A:Ar)(T:Tab)(l:List Ctr):Nat→List Bool→List Bool→AFrame→List AFrame→Zab→Option ASt
 |0,_,acc,f,fs,h=>some (acc,f,fs,h)
 |n+1,pa,acc,f,fs,h=>match ZoP A T l pa acc f fs h with
  |none=>none
  |some (pa',acc',f',fs',h')=>ZeO A T l n pa' acc' f' fs' h'
section
variable {C:Ctx}{T:Tab}{l:List Ctr}{h h':Zab}{f f':AFrame}{fs fs':List AFrame}{k:List AItem}{Q:List AFrame→Zab→Prop}{pa pa' acc acc':List Bool}
theorem Zc6:∀ {os:List AOp} {st:List Nat} {pa pa' acc acc':List Bool} {env env':ZdY} {h h':Zab} {zs:List Foot},Zgf std T l os st pa acc env h=some (pa',acc',env',h',zs)→(∀b∈acc',b=true)→∀b∈acc,b=true
 |[],st,pa,pa',acc,acc',env,env',h,h',zs,hd,hb=>by simp only[Zgf,Option.some.injEq,Prod.mk.injEq]at hd;obtain⟨_,rfl,_⟩:=hd;exact hb
 |o::os,st,pa,pa',acc,acc',env,env',h,h',zs,hd,hb=>by
  simp only[Zgf]at hd
  split at hd
  ·cases hd
  ·rename_i hs
   split at hd
   ·cases hd
   ·split at hd
    ·cases hd
    ·rename_i hr
     cases hd
     have:=Zc6 hr hb
     exact(ZdE hs (fun b hb'=>this b (List.mem_cons_of_mem _ hb'))).2
theorem ZcP(hT:Zbg C.P T)(hl:ZaX C.P l):∀ {os:List AOp} {st:List Nat} {pa pa' acc acc':List Bool} {env env':ZdY} {h h':Zab} {zs:List Foot},Zgf std T l os st pa acc env h=some (pa',acc',env',h',zs)→(∀b∈acc',b=true)→zs.map (·.o)=os∧Runs C.P zs (Zau env) h (Zau env') h'
 |[],st,pa,pa',acc,acc',env,env',h,h',zs,hd,_=>by simp only[Zgf,Option.some.injEq,Prod.mk.injEq]at hd;obtain⟨_,_,rfl,rfl,rfl⟩:=hd;exact⟨rfl, .nil _ _⟩
 |o::os,st,pa,pa',acc,acc',env,env',h,h',zs,hd,hb=>by
  simp only[Zgf]at hd
  split at hd
  ·cases hd
  ·rename_i pa1 acc1 env1 st1 hs
   split at hd
   ·cases hd
   ·rename_i b r h1 ho
    split at hd
    ·cases hd
    ·rename_i hr
     cases hd
     have ha:=Zc6 hr hb
     obtain⟨i1,i2⟩:=ZcP hT hl hr hb
     obtain⟨e,_⟩:=ZdE hs (fun b hb'=>ha b (List.mem_cons_of_mem _ hb'))
     subst e
     have hbt:=ha b List.mem_cons_self
     subst hbt
     rw[Zca]at i2
     have:=Zb1 hT (ZeS hl pa1) ho
     exact⟨by simp[Zfq,i1], .cons ⟨this,fun x hx p hp=>by simp only[Zfq,List.mem_flatMap];exact⟨x,hx,hp⟩,Zg0 this⟩ i2⟩
theorem Ze0{fr:List (Nat×Nat)}{zs:List Foot}(hb:Zi4 fr zs=true):∀(i j:Nat) (x z:Foot),(i,j)∈fr→zs[i]? =some x→zs[j]? =some z→Zku x z:=by
 unfold Zi4 at hb
 split at hb
 ·intro i j x z hm;simp at hm
 ·exact ZdL hb
def Zmu(C:Ctx)(Q:List AFrame→Zab→Prop)(acc:List Bool)(f:AFrame)(fs:List AFrame)(h:Zab)(r:ZqS):Prop:=
 ∀pa' acc' f' fs' h',r=some (pa',acc',f',fs',h')→(∀b∈acc',b=true)→Ev C (f'::fs') h' Q→(∀b∈acc,b=true)∧Ev C (f::fs) h Q
theorem ZhU{r:Zlj}(hs:Ze9 C Q acc f fs h r):Zmu C Q acc f fs h (Zhe pa r):=by
 intro pa' acc' f' fs' h' he hb hq
 cases r with
 |none=>cases he
 |some p=>obtain⟨a,b,c,d⟩:=p;cases he;exact hs _ _ _ _ rfl hb hq
theorem ZeQ(hfol:C.P.follows .mixedOrders=true)(hT:Zbg C.P T)(hl:ZaX C.P l):Zmu C Q acc f fs h (ZoP std T l pa acc f fs h):=by
 have base:Zmu C Q acc f fs h (Zhe pa (Zed std T (Zkn l pa) acc f fs h)):=ZhU (Zev hfol hT (ZeS hl pa))
 unfold ZoP
 split
 ·exact base
 ·rename_i hr
  split
  ·exact base
  ·rename_i it k ht
   split
   ·split
    ·exact base
    ·rename_i o os
     intro pa' acc' f' fs' h' he hb hq
     unfold opG at he
     split at he
     ·rename_i bm rm hm2 hmr
      cases he
      have hbt:=hb bm List.mem_cons_self
      subst hbt
      exact⟨fun b hb'=>hb b (List.mem_cons_of_mem _ hb'),Zpn hl hr ht hmr hq⟩
     split at he
     ·cases he
     ·rename_i pa1 acc1 env1 st1 hs
      split at he
      ·cases he
      ·rename_i acc2 f2 fs2 h2 ho
       cases he
       have key:(∀b∈acc1,b=true)→env1=f.env∧∀b∈acc,b=true:=fun h1=>ZdE hs h1
       have hsd:=Zg7 (Q:=Q) hT (ZeS hl pa1) (f:={ f with env:=env1 }) (acc:=acc1) (fs:=fs) (h:=h) (k:=k) (o:=o) (os:=os) hr ht _ _ _ _ ho hb hq
       obtain⟨e,h3⟩:=key hsd.1
       refine⟨h3,?_⟩
       have:=hsd.2
       rw[e]at this
       exact this
   ·rename_i c
    split
    ·rename_i c a b
     intro pa' acc' f' fs' h' he hb hq
     unfold Zrg at he
     split at he
     ·rename_i t hc
      split at he
      ·rename_i p ps
       cases he
       have:=ZoS (hb _ List.mem_cons_self)
       subst this
       exact⟨fun b hb'=>hb b (List.mem_cons_of_mem _ hb'),ZiI hr ht hc (by cases t<;>exact hq)⟩
      ·cases he
     ·cases he
    ·split
     ·rename_i ops fr
      intro pa' acc' f' fs' h' he hb hq
      unfold ZvX at he
      split at he
      ·cases he
      rename_i hany
      split at he
      ·rename_i hni
       split at he
       ·cases he
       ·rename_i pa1 acc1 env1 h1 zs hd
        split at he
        ·rename_i hfree
         cases he
         obtain⟨d1,d2⟩:=ZcP hT hl hd hb
         have hc:=ZdD hni
         refine⟨Zc6 hd hb,Zgl hfol hany hr ht (by rw[hc,List.take_length];exact d1) (fun i j x z hm hx hz _=>Ze0 hfree i j x z hm hx hz) d2 (fun _ _ e=>e) ?_⟩
         rw[hc,List.drop_length]
         exact ZeM hr rfl hq
        ·cases he
      ·split at he
       ·cases he
       ·rename_i pa1 acc1 env1 h1 zs hd
        split at he
        ·rename_i hfree
         cases he
         obtain⟨d1,d2⟩:=ZcP hT hl hd hb
         exact⟨Zc6 hd hb,Zgl hfol hany hr ht d1 (fun i j x z hm hx hz _=>Ze0 hfree i j x z hm hx hz) d2 (fun _ _ e=>e) hq⟩
        ·cases he
     ·exact base
    ·exact base
   ·exact base
theorem Zbf(hfol:C.P.follows .mixedOrders=true)(hT:Zbg C.P T)(hl:ZaX C.P l):∀(n:Nat) {pa acc:List Bool} {f:AFrame} {fs:List AFrame} {h:Zab},Ze9 C Q acc f fs h (ZeO std T l n pa acc f fs h)
 |0,pa,acc,f,fs,h=>by
  intro acc' f' fs' h' he hb hq
  simp only[ZeO,Option.some.injEq,Prod.mk.injEq]at he
  obtain⟨rfl,rfl,rfl,rfl⟩:=he
  exact⟨hb,hq⟩
 |n+1,pa,acc,f,fs,h=>by
  intro acc' f' fs' h' he hb hq
  simp only[ZeO]at he
  split at he
  ·cases he
  ·rename_i pa1 acc1 f1 fs1 h1 hs
   obtain⟨hb1,hq1⟩:=Zbf hfol hT hl n _ _ _ _ he hb hq
   exact ZeQ hfol hT hl _ _ _ _ _ hs hb1 hq1
end
end Go.Proofs.Ytbbemleognkdhaa
/- Tracked blocks are named anew: those that nothing names are dropped, the others are counted from 0. No condition. -/
namespace Go.Proofs.Ytbbemleognkdhaa
open Go.RowKit (Below)
mutual
def AV.ren(σ:Nat→Nat→Option Nat):AV→AV
 | .ptr a i k o=>match σ a i with |some j=>.ptr a j k o |none=>.top
 | .row a i=>match σ a i with |some j=>.row a j |none=>.top
 | .slc a i k n c=>match σ a i with |some j=>.slc a j k n c |none=>.top
 | .aslc a i k o n=>match σ a i with |some j=>.aslc a j k o n |none=>.top
 | .yld a i=>match σ a i with |some j=>.yld a j |none=>.top
 | .mp a i=>match σ a i with |some j=>.mp a j |none=>.top
 | .emp=>.emp
 | .err b=>.err b
 | .agg r=>.agg (Row.ren σ r)
 | .tup xs=>.tup (AV.renL σ xs)
 | .fn f xs=>.fn f (AV.renL σ xs)
 | .mth f x=>.mth f (AV.ren σ x)
 | .int k n=>.int k n
 | .bool b=>.bool b
 | .str s=>.str s
 | .flt k b=>.flt k b
 | .val v=>.val v
 | .nils=>.nils
 | .list r=>.list r
 | .eptr x o=>.eptr x o
 | .und=>.und
 | .top=>.top
def AV.renL(σ:Nat→Nat→Option Nat):List AV→List AV
 |[]=>[]
 |x::xs=>AV.ren σ x::AV.renL σ xs
def Row.ren(σ:Nat→Nat→Option Nat):Row→Row
 | .gen xs=>.gen (AV.renL σ xs)
 | .ints k l=>.ints k l
 | .flts k l=>.flts k l
 | .big sh xs=>.big sh xs
end
section
variable {σ:Nat→Nat→Option Nat}
theorem Zek:∀xs:List AV,AV.renL σ xs=xs.map (AV.ren σ)
 |[]=>rfl
 |x::xs=>by rw[AV.renL,Zek xs];rfl
theorem ZgT(s:Sh)(v:AV):AV.ren σ (s.view1 v)=s.view1 v:=by cases s<;>rfl
theorem Zg2:∀(ss:List Sh) (i:Nat) (v:AV),AV.renL σ (ZcR ss i v)=ZcR ss i v
 |[],_,_=>rfl
 |s::ss,i,v=>by rw[ZcR,AV.renL,ZgT,Zg2 ss]
theorem Znh(s:Sh)(v:AV):AV.ren σ (s.view v)=s.view v:=by
 cases s with
 |agg ss=>simp only[Sh.view,AV.ren,Row.ren,Zg2]
 |_=>simp only[Sh.view];exact ZgT _ _
theorem ZbB(r:Row):(Row.ren σ r).elems=r.elems.map (AV.ren σ):=by
 cases r with
 |gen xs=>rw[Row.ren,Row.elems,Row.elems,Zek]
 |ints k l=>rw[Row.ren,Row.elems,List.map_map];rfl
 |flts k l=>rw[Row.ren,Row.elems,List.map_map];rfl
 |big sh xs=>rw[Row.ren,Row.elems,List.map_map];exact List.map_congr_left fun v _=>(Znh sh v).symm
theorem ZiO(v:AV):(AV.ren σ v).flat=v.flat.map (AV.ren σ):=by
 cases v with
 |agg r=>simp only[AV.ren,AV.flat,ZbB]
 |ptr a i k o=>simp only[AV.ren];split<;>simp_all[AV.flat,AV.ren]
 |row a i=>simp only[AV.ren];split<;>simp_all[AV.flat,AV.ren]
 |slc a i k n c=>simp only[AV.ren];split<;>simp_all[AV.flat,AV.ren]
 |aslc a i k o n=>simp only[AV.ren];split<;>simp_all[AV.flat,AV.ren]
 |yld a i=>simp only[AV.ren];split<;>simp_all[AV.flat,AV.ren]
 |mp a i=>simp only[AV.ren];split<;>simp_all[AV.flat,AV.ren]
 |_=>rfl
theorem Zib(xs:List AV):Zad (xs.map (AV.ren σ))=(Zad xs).map (AV.ren σ):=by
 induction xs with
 |nil=>rfl
 |cons x xs ih=>rw[List.map_cons,Zar,Zar,List.map_append,ih,ZiO]
end
structure Good (h:Zab) (L:Lay) (h':Zab) (L':Lay) (σ:Nat→Nat→Option Nat):Prop where
 fwd:∀a i j,σ a i=some j→j<nxt h' a∧(∀sz,(blk h' a j).tag=some sz→(blk h a i).tag=some sz)∧L'.loc a j=L.loc a i∧L'.size a j=L.size a i
 bwd:∀a j,Plc h' L' a j→∃i,Plc h L a i∧L'.loc a j=L.loc a i
section
variable {C:Ctx}{h h':Zab}{L L':Lay}{w:World}{σ:Nat→Nat→Option Nat}{ok ok':Nat→Prop}
theorem Good.okk(G:Good h L h' L' σ){g:Nat}(ho:Zaj C h L g):Zaj C h' L' g:=by
 rcases ho with ho |⟨h1,h2⟩
 ·exact .inl ho
 ·refine .inr ⟨h1,fun a j ht e=>?_⟩
  obtain⟨i,hi,hl⟩:=G.bwd a j ht
  exact h2 a i hi (hl.symm.trans e)
theorem Live.ren(G:Good h L h' L' σ){a i j:Nat}(hs:σ a i=some j){p p':Nat→Nat×Nat→Prop}(hl:Live h L a i p)(hp:∀sz,L'.size a j=L.size a i→p (L.loc a i) sz→p' (L.loc a i) sz):Live h' L' a j p':=by
 obtain⟨g1,g2,g3,g4⟩:=G.fwd a i j hs
 exact⟨g1,fun sz ht=>by rw[g3];exact hp sz g4 (hl.2 sz (g2 sz ht))⟩
theorem Rel.ren(G:Good h L h' L' σ)(hok:∀g,ok g→ok' g){av:AV}{v:Value}(hr:Rel w ok h L av v):Rel w ok' h' L' (AV.ren σ av) v:=by
 induction hr with
 |int k n=>exact .int k n
 |bool b=>exact .bool b
 |str x=>exact .str x
 |flt k b=>exact .flt k b
 |val v=>exact .val v
 |nils=>exact .nils
 |nil r a c hr=>exact .nil r a c hr
 |list r xs hx ad n cap sz cs hb ho hn hcap hsz hl h1 hc hp hr ih=>
  exact .list r xs hx ad n cap sz cs hb (hok _ ho) hn hcap hsz hl h1 hc hp (fun j u v hu hv=>((hr j u v hu hv).okmono (fun g _ ho=>hok g ho)).pure (AV.pureL_mem hp hu))
 |eptr x off ad cs hs hb ho hl h1 hc hp hr ih=>
  exact .eptr x off ad cs hs hb (hok _ ho) hl h1 hc hp (fun j u v hu hv=>((hr j u v hu hv).okmono (fun g _ ho=>hok g ho)).pure (AV.pureL_mem hp hu))
 |agg r xs hx vs hl h1 hr ih=>
  rw[AV.ren]
  refine .agg _ (xs.map (AV.ren σ)) (by rw[ZbB,hx]) vs (by simpa using hl) h1 (fun j u v hu hv=>?_)
  rw[List.getElem?_map]at hu
  cases hxj:xs[j]? with
  |none=>rw[hxj]at hu;cases hu
  |some z=>rw[hxj]at hu;simp only[Option.map_some,Option.some.injEq]at hu;subst hu;exact ih j z v hxj hv
 |tup xs vs hl hr ih=>
  rw[AV.ren,Zek]
  refine .tup _ vs (by simpa using hl) (fun j u v hu hv=>?_)
  rw[List.getElem?_map]at hu
  cases hxj:xs[j]? with
  |none=>rw[hxj]at hu;cases hu
  |some z=>rw[hxj]at hu;simp only[Option.map_some,Option.some.injEq]at hu;subst hu;exact ih j z v hxj hv
 |mth f x v hr ih=>exact .mth f _ v ih
 |fn f xs vs hl hr ih=>
  rw[AV.ren,Zek]
  refine .fn f _ vs (by simpa using hl) (fun j u v hu hv=>?_)
  rw[List.getElem?_map]at hu
  cases hxj:xs[j]? with
  |none=>rw[hxj]at hu;cases hu
  |some z=>rw[hxj]at hu;simp only[Option.map_some,Option.some.injEq]at hu;subst hu;exact ih j z v hxj hv
 |ptr a i k off g o hl=>
  rw[AV.ren]
  cases hs:σ a i with
  |none=>exact .top _
  |some j=>exact .ptr a j k off g o (hl.ren G hs fun _ _ h=>h)
 |row a i ad n c hn hl=>
  rw[AV.ren]
  cases hs:σ a i with
  |none=>exact .top _
  |some j=>exact .row a j ad n c hn (hl.ren G hs fun _ e h=>by rw[e];exact h)
 |slc a i k n cap ad c hn hl=>
  rw[AV.ren]
  cases hs:σ a i with
  |none=>exact .top _
  |some j=>exact .slc a j k n cap ad c hn (hl.ren G hs fun _ e h=>by rw[e];exact h)
 |aslc a i k off n g o c hn hl=>
  rw[AV.ren]
  cases hs:σ a i with
  |none=>exact .top _
  |some j=>exact .aslc a j k off n g o c hn (hl.ren G hs fun _ _ h=>h)
 |yld a i g hl=>
  rw[AV.ren]
  cases hs:σ a i with
  |none=>exact .top _
  |some j=>exact .yld a j g (hl.ren G hs fun _ _ h=>h)
 |mp a i g hl=>
  rw[AV.ren]
  cases hs:σ a i with
  |none=>exact .top _
  |some j=>exact .mp a j g (hl.ren G hs fun _ _ h=>h)
 |err b v he=>exact .err b v he
 |emp ad=>exact .emp ad
 |und=>exact .und
 |top v=>exact .top v
def ZeY(σ:Nat→Nat→Option Nat):ZdY→ZdY
 |[]=>[]
 |(t,v)::l=>(t,AV.ren σ v)::ZeY σ l
theorem Ze3:∀(env:ZdY) (t:Nat),Zau (ZeY σ env) t=(Zau env t).map (AV.ren σ)
 |[],t=>rfl
 |(i,x)::l,t=>by
  simp only[ZeY,Zau]
  split
  ·rfl
  ·exact Ze3 l t
theorem EnvRel.ren(G:Good h L h' L' σ){env:ZdY}{tmps:Array Value}(he:EnvRel C h L w env tmps):EnvRel C h' L' w (ZeY σ env) tmps:=by
 intro t av ht
 rw[Ze3]at ht
 cases hx:Zau env t with
 |none=>rw[hx]at ht;cases ht
 |some u=>rw[hx]at ht;simp only[Option.map_some,Option.some.injEq]at ht;subst ht;exact(he t u hx).ren G (fun g ho=>G.okk ho)
def Blk.ren(σ:Nat→Nat→Option Nat):Blk→Blk
 | .row e sz r=>.row e sz (Row.ren σ r)
 | .lp l=>.lp { l with env:=ZeY σ l.env }
 | .dfr=>.dfr
 | .mp ks=>.mp ks
 | .dead=>.dead
theorem Blk.ren_tag(b:Blk):(b.ren σ).tag=b.tag:=by
 cases b with
 |row e sz r=>simp only[Blk.ren,Blk.tag,ZbB,List.length_map]
 |_=>rfl
theorem BRel.ren(G:Good h L h' L' σ){g n:Nat}{b:Blk}(hb:BRel C h L w g n b):BRel C h' L' w g n (b.ren σ):=by
 cases b with
 |row e sz r=>
  obtain⟨h0,h1,h2,h3,hcur⟩:=hb
  refine⟨h0,h1,by rw[ZbB,List.length_map];exact h2,fun x hx=>?_,fun hn=>?_⟩
  ·rw[ZbB]at hx
   obtain⟨y,hy,rfl⟩:=List.mem_map.1 hx
   rw[ZiO,List.length_map];exact h3 y hy
  ·obtain⟨cur,h4,h5,h6,h7⟩:=hcur hn
   refine⟨cur,h4,h5,?_,by rw[ZbB,List.length_map];exact h7⟩
   rw[ZbB,List.length_map,Zib]
   refine⟨by rw[List.length_map];exact h6.1,fun j u v hu hv=>?_⟩
   rw[List.getElem?_map]at hu
   cases hx:(Zad r.elems)[j]? with
   |none=>rw[hx]at hu;cases hu
   |some z=>rw[hx]at hu;simp only[Option.map_some,Option.some.injEq]at hu;subst hu;exact(h6.2 j z v hx hv).ren G (fun g ho=>G.okk ho)
 |lp l=>
  obtain⟨r,h1,h2,h3,h4,h5,h6,h7,h8,h9⟩:=hb
  exact⟨r,h1,h2,h3,h4,h5.ren G,h6,h7,h8,h9⟩
 |dfr=>exact hb
 |mp ks=>exact hb
 |dead=>trivial
def ZoE(σ:Nat→Nat→Option Nat):AItem→Option AItem
 | .inRF a i=>match σ a i with |some j=>some (.inRF a j) |none=>none
 | .endRF a i=>match σ a i with |some j=>some (.endRF a j) |none=>none
 | .code c=>some (.code c)
 | .inBlock i=>some (.inBlock i)
 | .inLoop b=>some (.inLoop b)
 | .inReg os=>some (.inReg os)
 | .beginRound=>some .beginRound
def Zf1(σ:Nat→Nat→Option Nat):List AItem→Option (List AItem)
 |[]=>some []
 |x::k=>match ZoE σ x with
  |none=>none
  |some y=>match Zf1 σ k with |some l=>some (y::l) |none=>none
def ZmA(σ:Nat→Nat→Option Nat):List (Nat×Nat)→Option (List (Nat×Nat))
 |[]=>some []
 |(a,i)::k=>match σ a i with
  |none=>none
  |some j=>match ZmA σ k with |some l=>some ((a,j)::l) |none=>none
def Zo6(σ:Nat→Nat→Option Nat):Option (Nat×Nat)→Option (Option (Nat×Nat))
 |none=>some none
 |some (a,i)=>match σ a i with |some j=>some (some (a,j)) |none=>none
def Zp1:AItem→Bool
 | .inRF _ _=>false
 | .endRF _ _=>false
 |_=>true
def Zds:List AItem→Bool
 |[]=>true
 |x::k=>match Zp1 x with |true=>Zds k |false=>false
def ZuF(σ:Nat→Nat→Option Nat)(f:AFrame):Option AFrame:=
 match ZmA σ f.defs with
 |none=>none
 |some ds=>match Zo6 σ f.rnd with
  |none=>none
  |some rd=>match Zds f.todo with
   |true=>some { f with env:=ZeY σ f.env,defs:=ds,rnd:=rd }
   |false=>match Zf1 σ f.todo with
    |none=>none
    |some td=>some { f with env:=ZeY σ f.env,todo:=td,defs:=ds,rnd:=rd }
def Zk9(σ:Nat→Nat→Option Nat):List AFrame→Option (List AFrame)
 |[]=>some []
 |f::fs=>match ZuF σ f with
  |none=>none
  |some g=>match Zk9 σ fs with |some gs=>some (g::gs) |none=>none
theorem ItRel.ren{P:Program}{N:Nat}(G:Good h L h' L' σ){x x':AItem}{y:Item}(hr:ZoE σ x=some x')(hx:ItRel P h L N x y):ItRel P h' L' N x' y:=by
 cases hx with
 |code a c hm=>cases hr;exact .code a c hm
 |inBlock id=>cases hr;exact .inBlock id
 |inLoop a c hm=>cases hr;exact .inLoop a c hm
 |inReg ops k aos hm=>cases hr;exact .inReg ops k aos hm
 |beginRound=>cases hr;exact .beginRound
 |inRF a i g hl=>
  simp only[ZoE]at hr
  split at hr
  ·rename_i j hs;cases hr;exact .inRF a j g (hl.ren G hs fun _ _ h=>h)
  ·cases hr
 |endRF a i g hl=>
  simp only[ZoE]at hr
  split at hr
  ·rename_i j hs;cases hr;exact .endRF a j g (hl.ren G hs fun _ _ h=>h)
  ·cases hr
theorem ItsRel.ren{P:Program}{N:Nat}(G:Good h L h' L' σ):∀ {x x':List AItem} {y:List Item},Zf1 σ x=some x'→ItsRel P h L N x y→ItsRel P h' L' N x' y
 |[],x',y,hr,hx=>by cases hx;cases hr;exact .nil
 |x::k,x',y,hr,hx=>by
  cases hx with
  |cons hx hk=>
   simp only[Zf1]at hr
   split at hr
   ·cases hr
   ·rename_i z hz
    split at hr
    ·rename_i l hl;cases hr;exact .cons (hx.ren G hz) (ItsRel.ren G hl hk)
    ·cases hr
theorem ZgZ:∀ {x:List AItem},Zds x=true→Zf1 σ x=some x
 |[],_=>rfl
 |x::k,hp=>by
  simp only[Zds]at hp
  split at hp
  ·rename_i h1
   simp only[Zf1,ZgZ hp]
   cases x<;>first |rfl |cases h1
  ·cases hp
theorem Zfn(G:Good h L h' L' σ){p:Nat→Nat×Nat→Prop} :∀ {l l':List (Nat×Nat)},ZmA σ l=some l'→l'.length=l.length∧∀(j:Nat) (d:Nat×Nat),l'[j]? =some d→∃d0:Nat×Nat,l[j]? =some d0∧d0.1=d.1∧σ d0.1 d0.2=some d.2
 |[],l',hr=>by cases hr;exact⟨rfl,fun j d hd=>by simp at hd⟩
 |(a,i)::k,l',hr=>by
  simp only[ZmA]at hr
  split at hr
  ·cases hr
  ·rename_i j hs
   split at hr
   ·rename_i l hl
    cases hr
    obtain⟨h1,h2⟩:=Zfn (p:=p) G hl
    refine⟨by simp[h1],fun q d hd=>?_⟩
    cases q with
    |zero=>simp at hd;subst hd;exact⟨(a,i),rfl,rfl,hs⟩
    |succ q=>obtain⟨d0,e1,e2,e3⟩:=h2 q d (by simpa using hd);exact⟨d0,by simpa using e1,e2,e3⟩
   ·cases hr
theorem FrRel.ren(G:Good h L h' L' σ){af af':AFrame}{fr:Frame}(hr:ZuF σ af=some af')(hf:FrRel C h L w af fr):FrRel C h' L' w af' fr:=by
 unfold ZuF at hr
 split at hr
 ·cases hr
 ·rename_i ds hds
  split at hr
  ·cases hr
  ·rename_i rd hrd
   have hd:DefRel h' L' ds fr.defers:=by
    obtain⟨gs,h1,h2,h3⟩:=hf.defs
    obtain⟨e1,e2⟩:=Zfn (p:=fun _ _=>True) G hds
    refine⟨gs,h1,h2.trans e1.symm,fun j d g hd hg=>?_⟩
    obtain⟨d0,q1,q2,q3⟩:=e2 j d hd
    obtain⟨d1,d2⟩:=d
    obtain⟨d3,d4⟩:=d0
    simp only at q2 q3
    subst q2
    exact(h3 j _ g q1 hg).ren G q3 fun _ _ h=>h
   have hn:RndRel h' L' rd fr.roundOf∧(rd=none→af.rnd=none):=by
    have hrn:=hf.rnd
    unfold Zo6 at hrd
    split at hrd
    ·rename_i e;cases hrd;rw[e]at hrn;exact⟨hrn,fun _=>e⟩
    ·rename_i a i e
     rw[e]at hrn
     split at hrd
     ·rename_i j hs;cases hrd
      obtain⟨g,hg,hl⟩:=hrn
      exact⟨⟨g,hg,hl.ren G hs fun _ _ h=>h⟩,fun e=>by cases e⟩
     ·cases hrd
   split at hr
   ·rename_i hp
    cases hr
    exact⟨hf.fn,hf.size,hf.env.ren G,hf.kind,hd,hn.1,hf.mode.imp id fun⟨a,b,c⟩=>⟨a,b,c.ren G (ZgZ hp)⟩,fun e=>hf.res (hn.2 e)⟩
   ·split at hr
    ·cases hr
    ·rename_i td htd
     cases hr
     exact⟨hf.fn,hf.size,hf.env.ren G,hf.kind,hd,hn.1,hf.mode.imp id fun⟨a,b,c⟩=>⟨a,b,c.ren G htd⟩,fun e=>hf.res (hn.2 e)⟩
theorem FrsRel.ren(G:Good h L h' L' σ):∀ {afs afs':List AFrame} {cs:List Frame},Zk9 σ afs=some afs'→FrsRel C h L w afs cs→FrsRel C h' L' w afs' cs
 |[],afs',cs,hr,hf=>by cases hf;cases hr;exact .base
 |f::fs,afs',cs,hr,hf=>by
  cases hf with
  |cons hf hk=>
   simp only[Zk9]at hr
   split at hr
   ·cases hr
   ·rename_i g hg
    split at hr
    ·rename_i gs hgs;cases hr;exact .cons (hf.ren G hg) (FrsRel.ren G hgs hk)
    ·cases hr
end
abbrev ZqF:=List (Nat×Nat×List Blk)
def ZrN:Blk→Bool
 | .dead=>true
 |_=>false
def Ziv(R:List (Nat×Nat))(a:Nat):Nat→List Blk→List Blk
 |_,[]=>[]
 |i,b::l=>match(match Zpa (a,i) R with |true=>b |false=>.dead),Ziv R a (i+1) l with
  | .dead,[]=>[]
  |b',l'=>b'::l'
def ZkR:Nat→List Blk→Nat×List Blk
 |n,[]=>(n,[])
 |n,b::l=>match ZrN b with |true=>ZkR (n+1) l |false=>(n,b::l)
def Zid(R:List (Nat×Nat))(a:Nat)(f:Fam):Nat×List Blk:=ZkR f.base (Ziv R a f.base f.blks)
def ZaP(R:List (Nat×Nat)):Zab→ZqF
 |[]=>[]
 |(a,f)::rest=>match Zid R a f with
  |(s,l)=>(match l,Zau rest a with
   |[],none=>ZaP R rest
   |l,_=>(a,s,l)::ZaP R rest)
def Zkj(t:ZqF)(a i:Nat):Option Nat:=
 match Zau t a with
 |none=>none
 |some p=>match Nat.ble p.1 i with
  |false=>none
  |true=>match ZrN (p.2.getD (i-p.1) .dead)with |true=>none |false=>some (i-p.1)
def Zfi(σ:Nat→Nat→Option Nat):ZqF→Zab
 |[]=>[]
 |(a,_,l)::t=>(a,⟨0,l.map (Blk.ren σ)⟩)::Zfi σ t
def ZhP(t:ZqF)(L:Lay):Lay:=⟨fun a j=>L.loc a (j+match Zau t a with |some p=>p.1 |none=>0),fun a j=>L.size a (j+match Zau t a with |some p=>p.1 |none=>0)⟩
theorem ZfZ{R:List (Nat×Nat)}{a:Nat} :∀(l:List Blk) (i j:Nat),(Ziv R a i l).getD j .dead=.dead∨(Ziv R a i l).getD j .dead=l.getD j .dead
 |[],i,j=>.inl (by simp[Ziv])
 |b::l,i,j=>by
  have ih:=ZfZ (R:=R) (a:=a) l (i+1)
  simp only[Ziv]
  split
  ·left;simp
  ·cases j with
   |zero=>
    simp only[List.getD_cons_zero]
    split
    ·right;rfl
    ·left;rfl
   |succ j=>simp only[List.getD_cons_succ];exact ih j
theorem ZfG:∀(l:List Blk) (n j:Nat),∃d,(ZkR n l).1=n+d∧(ZkR n l).2.getD j .dead=l.getD (j+d) .dead
 |[],n,j=>⟨0,rfl,rfl⟩
 |b::l,n,j=>by
  simp only[ZkR]
  split
  ·obtain⟨d,h1,h2⟩:=ZfG l (n+1) j
   exact⟨d+1,by rw[h1];omega,by rw[h2,←Nat.add_assoc,List.getD_cons_succ]⟩
  ·exact⟨0,rfl,rfl⟩
theorem ZfK{R:List (Nat×Nat)} :∀ {h:Zab} {a:Nat} {p:Nat×List Blk},Zau (ZaP R h) a=some p→∃f,Zau h a=some f∧Zid R a f=p
 |[],a,p,h=>by cases h
 |(b,f)::rest,a,p,h=>by
  have ih:= @ZfK R rest a p
  have hb:∀x y:Nat,Nat.beq x y=decide (x=y):=fun x y=>by rw[Bool.eq_iff_iff];simp
  simp only[ZaP]at h
  split at h
  ·rename_i hl hr
   obtain⟨f',h1,h2⟩:=ih h
   refine⟨f',?_,h2⟩
   simp only[Zau,hb]
   by_cases hba:b=a
   ·subst hba;rw[hr]at h1;cases h1
   ·simp only[hba,decide_false];exact h1
  ·simp only[Zau,hb]at h⊢
   by_cases hba:b=a
   ·subst hba;simp only[decide_true,Option.some.injEq]at h ⊢;exact⟨f,rfl,h⟩
   ·simp only[hba,decide_false]at h ⊢;exact ih h
theorem ZfV{σ:Nat→Nat→Option Nat} :∀(t:ZqF) (a:Nat),Zau (Zfi σ t) a=(Zau t a).map fun p=>⟨0,p.2.map (Blk.ren σ)⟩
 |[],a=>rfl
 |(b,s,l)::t,a=>by
  simp only[Zfi,Zau]
  split
  ·rfl
  ·exact ZfV t a
theorem Zcc{σ:Nat→Nat→Option Nat}(t:ZqF)(a j:Nat):blk (Zfi σ t) a j=Blk.ren σ (match Zau t a with |some p=>p.2.getD j .dead |none=>.dead)∧nxt (Zfi σ t) a=match Zau t a with |some p=>p.2.length |none=>0:=by
 unfold blk nxt fam
 rw[ZfV]
 cases Zau t a with
 |none=>simp[Fam.get,Zby,Blk.ren]
 |some p=>
  simp only[Option.map_some,Option.getD_some,Fam.get,Zby (Nat.zero_le _),Nat.sub_zero,List.length_map,Nat.zero_add,and_true]
  simp only[List.getD_eq_getElem?_getD,List.getElem?_map]
  cases p.2[j]?<;>rfl
theorem Zci{R:List (Nat×Nat)}{h:Zab}{a:Nat}{p:Nat×List Blk}(hp:Zau (ZaP R h) a=some p)(j:Nat):p.2.getD j .dead=.dead∨p.2.getD j .dead=blk h a (j+p.1):=by
 obtain⟨f,h1,h2⟩:=ZfK hp
 unfold Zid at h2
 obtain⟨d,e1,e2⟩:=ZfG (Ziv R a f.base f.blks) f.base j
 rw[h2]at e1 e2
 rw[e2]
 rcases ZfZ (R:=R) (a:=a) f.blks f.base (j+d)with h3 |h3
 ·exact .inl h3
 ·right
  rw[h3,e1]
  unfold blk fam Fam.get
  rw[h1]
  simp only[Option.getD_some,Zby (show f.base≤j+(f.base+d) by omega)]
  congr 1;omega
theorem pack_good{R:List (Nat×Nat)}{h:Zab}{L:Lay} :Good h L (Zfi (Zkj (ZaP R h)) (ZaP R h)) (ZhP (ZaP R h) L) (Zkj (ZaP R h)):=by
 refine⟨fun a i j hs=>?_,fun a j ht=>?_⟩
 ·obtain⟨hb,hn⟩:=Zcc (σ:=Zkj (ZaP R h)) (ZaP R h) a j
  unfold Zkj at hs
  cases hp:Zau (ZaP R h) a with
  |none=>rw[hp]at hs;cases hs
  |some p=>
   rw[hp]at hs hb hn
   simp only at hs hb hn
   split at hs
   ·cases hs
   ·rename_i hle
    have hle:p.1≤i:=by simpa using hle
    split at hs
    ·cases hs
    ·rename_i hd
     cases hs
     have hlt:i-p.1<p.2.length:=by
      rcases Nat.lt_or_ge (i-p.1) p.2.length with h1 |h1
      ·exact h1
      ·rw[List.getD_eq_getElem?_getD,List.getElem?_eq_none h1]at hd;cases hd
     have hadd:i-p.1+p.1=i:=by omega
     refine⟨by rw[hn];exact hlt,fun sz ht=>?_,by simp only[ZhP,hp,hadd],by simp only[ZhP,hp,hadd]⟩
     rw[hb,Blk.ren_tag]at ht
     rcases Zci hp (i-p.1)with h1 |h1
     ·rw[h1]at hd;cases hd
     ·rw[h1,hadd]at ht;exact ht
 ·obtain⟨hb,_⟩:=Zcc (σ:=Zkj (ZaP R h)) (ZaP R h) a j
  obtain⟨s,ht,hn⟩:=ht
  rw[hb,Blk.ren_tag]at ht
  cases hp:Zau (ZaP R h) a with
  |none=>rw[hp]at ht;cases ht
  |some p=>
   rw[hp]at ht
   simp only at ht
   rcases Zci hp j with h1 |h1
   ·rw[h1]at ht;cases ht
   ·exact⟨j+p.1,⟨s,by rw[←h1];exact ht,by simpa only[ZhP,hp]using hn⟩,by simp only[ZhP,hp]⟩
theorem HRel.packed{C:Ctx}{R:List (Nat×Nat)}{h:Zab}{L:Lay}{w:World}(H:HRel C h L w):HRel C (Zfi (Zkj (ZaP R h)) (ZaP R h)) (ZhP (ZaP R h) L) w:=by
 have key:∀a j,Plc (Zfi (Zkj (ZaP R h)) (ZaP R h)) (ZhP (ZaP R h) L) a j→∃p,Zau (ZaP R h) a=some p∧Plc h L a (j+p.1):=fun a j ht=>by
  obtain⟨hb,_⟩:=Zcc (σ:=Zkj (ZaP R h)) (ZaP R h) a j
  obtain⟨s,ht,hn⟩:=ht
  rw[hb,Blk.ren_tag]at ht
  cases hp:Zau (ZaP R h) a with
  |none=>rw[hp]at ht;cases ht
  |some p=>
   rw[hp]at ht
   simp only at ht
   rcases Zci hp j with h1 |h1
   ·rw[h1]at ht;cases ht
   ·exact⟨p,rfl,s,by rw[←h1];exact ht,by simpa only[ZhP,hp]using hn⟩
 refine⟨H.below,fun a j ht=>?_,fun a j=>?_,fun a i b j h1 h2 e=>?_,fun a j ht=>?_,H.low,H.base,H.good⟩
 rotate_right
 ·obtain⟨p,hp,ht'⟩:=key a j ht
  simp only[ZhP,hp]
  rcases H.home a _ ht' with h9 |⟨h7,h8,h9⟩
  ·exact .inl h9
  ·exact .inr ⟨h7,by omega,h9⟩
 ·obtain⟨p,hp,ht'⟩:=key a j ht
  simp only[ZhP,hp];exact H.live a _ ht'
 ·obtain⟨hb,_⟩:=Zcc (σ:=Zkj (ZaP R h)) (ZaP R h) a j
  rw[hb]
  cases hp:Zau (ZaP R h) a with
  |none=>trivial
  |some p=>
   simp only
   rcases Zci hp j with h1 |h1
   ·rw[h1];trivial
   ·rw[h1];simp only[ZhP,hp];exact(H.blks a _).ren pack_good
 ·obtain⟨p,hp,hp'⟩:=key a i h1
  obtain⟨q,hq,hq'⟩:=key b j h2
  simp only[ZhP,hp,hq]at e
  obtain⟨rfl,e2⟩:=H.inj _ _ _ _ hp' hq' e
  rw[hp]at hq;cases hq
  exact⟨rfl,by omega⟩
def Zr3:AV→List (Nat×Nat)
 | .tup xs=>xs.flatMap ZcN
 |v=>ZcN v
def Zuf:Row→List (Nat×Nat)
 | .gen xs=>xs.flatMap Zr3
 |_=>[]
def Zqu:ZdY→List (Nat×Nat)
 |[]=>[]
 |(_,v)::l=>Zr3 v++Zqu l
def Zs2:Blk→List (Nat×Nat)
 | .row _ _ r=>Zuf r
 | .lp l=>Zqu l.env
 |_=>[]
def Zsp:List AItem→List (Nat×Nat)
 |[]=>[]
 |x::k=>(match x with | .inRF a i=>[(a,i)] | .endRF a i=>[(a,i)] |_=>[])++Zsp k
def Zss:List AFrame→List (Nat×Nat)
 |[]=>[]
 |f::fs=>Zqu f.env++((match Zds f.todo with |true=>[] |false=>Zsp f.todo)++(f.defs++((match f.rnd with |some p=>[p] |none=>[])++Zss fs)))
def ZsH(R:List (Nat×Nat)):List (Nat×Nat)→List (Nat×Nat)
 |[]=>R
 |p::l=>match Zpa p R with |true=>ZsH R l |false=>ZsH (p::R) l
def Zpe(h:Zab):Nat→List (Nat×Nat)→List (Nat×Nat)→List (Nat×Nat)
 |0,R,_=>R
 |n+1,R,new=>match new.flatMap (fun p=>Zs2 (blk h p.1 p.2))with
  |[]=>R
  |l=>Zpe h n (ZsH R l) l
def Zni(h:Zab)(t:ZqF):Bool:=
 match Zau t 0 with
 |none=>Nat.beq (nxt h 0) 0
 |some p=>match Nat.beq p.1 0 with |true=>Nat.ble (nxt h 0) p.2.length |false=>false
def Zu7(fs:List AFrame):List (Nat×Nat):=ZsH [] ((0,0)::Zss fs)
def ZsG(fs:List AFrame)(h:Zab):Option (List AFrame×Zab):=
 match Zu7 fs with
 |R0=>match ZaP (Zpe h 4 R0 R0) h with
  |t=>match Zni h t with
   |false=>none
   |true=>match Zk9 (Zkj t) fs with
    |none=>none
    |some fs'=>some (fs',Zfi (Zkj t) t)
theorem ZqA{C:Ctx}{R:List (Nat×Nat)}{h:Zab}{L:Lay}{w:World}(hk:Zni h (ZaP R h)=true):Fr C h L w (Zfi (Zkj (ZaP R h)) (ZaP R h)) (ZhP (ZaP R h) L) w:=by
 obtain⟨hb,hn⟩:=Zcc (σ:=Zkj (ZaP R h)) (ZaP R h) 0 0
 refine⟨Nat.le_refl _,fun g _ ho=>⟨pack_good.okk ho,rfl⟩,?_,fun sz _ ht=>?_⟩
 ·rw[hn]
  unfold Zni at hk
  cases hp:Zau (ZaP R h) 0 with
  |none=>rw[hp]at hk;have:=Nat.eq_of_beq_eq_true hk;omega
  |some p=>
   rw[hp]at hk
   simp only at hk⊢
   split at hk
   ·simpa using hk
   ·cases hk
 ·rw[hb,Blk.ren_tag]at ht
  unfold Zni at hk
  cases hp:Zau (ZaP R h) 0 with
  |none=>rw[hp]at ht;cases ht
  |some p=>
   rw[hp]at ht hk
   simp only at ht hk
   split at hk
   ·rename_i h0
    have h0:p.1=0:=Nat.eq_of_beq_eq_true h0
    rcases Zci hp 0 with h1 |h1
    ·rw[h1]at ht;cases ht
    ·rw[h1,h0]at ht
     refine⟨ht,?_,?_⟩
     ·simp only[ZhP,hp,h0]
     ·simp only[ZhP,hp,h0]
   ·cases hk
theorem ZkZ{C:Ctx}{fs fs':List AFrame}{h h':Zab}{Q:List AFrame→Zab→Prop}(hp:ZsG fs h=some (fs',h'))(hq:Ev C fs' h' Q):Ev C fs h Q:=by
 intro L fr cs w hf H hne
 unfold ZsG at hp
 dsimp only at hp
 split at hp
 ·cases hp
 ·rename_i hkeep
  split at hp
  ·cases hp
  ·rename_i gs hgs
   cases hp
   obtain⟨fs2,h2',L2,fr2,cs2,w2,q2,n2,a2,b2,s2⟩:=hq _ fr cs w (FrsRel.ren pack_good hgs hf) H.packed (fun e=>by
    subst e
    cases fs with
    |nil=>exact hne rfl
    |cons f fs=>
     simp only[Zk9]at hgs
     split at hgs
     ·cases hgs
     ·split at hgs<;>cases hgs)
   exact⟨fs2,h2',L2,fr2,cs2,w2,q2,n2,a2,b2,s2.1,(ZqA hkeep).trans s2.2⟩
def ZpU(A:Ar)(T:Tab)(l:List Ctr)(n:Nat)(pk:Bool)(pa:List Bool)(f:AFrame)(fs:List AFrame)(h:Zab):Option (List Bool×List AFrame×Zab):=
 match ZeO A T l n pa [] f fs h with
 |none=>none
 |some (acc,f',fs',h')=>match pk with
  |false=>some (acc,f'::fs',h')
  |true=>match ZsG (f'::fs') h' with
   |none=>none
   |some (gs,h2)=>some (acc,gs,h2)
theorem Zpm{C:Ctx}{T:Tab}{l:List Ctr}{n:Nat}{pk:Bool}{pa acc:List Bool}{f:AFrame}{fs gs:List AFrame}{h h':Zab}{Q:List AFrame→Zab→Prop}(hfol:C.P.follows .mixedOrders=true)(hT:Zbg C.P T)(hl:ZaX C.P l)
 (hw:ZpU std T l n pk pa f fs h=some (acc,gs,h')) (hb:AllT acc) (hq:Ev C gs h' Q):Ev C (f::fs) h Q:=by
 unfold ZpU at hw
 split at hw
 ·cases hw
 ·rename_i acc1 f1 fs1 h1 hs
  split at hw
  ·cases hw
   exact(Zbf hfol hT hl n _ _ _ _ hs hb.mem hq).2
  ·split at hw
   ·cases hw
   ·rename_i gs2 h2 hp
    cases hw
    exact(Zbf hfol hT hl n _ _ _ _ hs hb.mem (ZkZ hp hq)).2
end Go.Proofs.Ytbbemleognkdhaa
/- What comes back is read as a value. No condition. -/
namespace Go.Proofs.Ytbbemleognkdhaa
open Go.RowKit (Below)
inductive Frz1 (fr:Option Fresh):AV→AV→Prop
 |row (f:Fresh) (hf:fr=some f) (hp:f.r.pure=true) (hs:f.r.solid=true):Frz1 fr (.row 0 0) (.list f.r)
 |nil (r:Row) (h:r.elems=[]):Frz1 fr .nils (.list r)
 |same (v:AV) (hp:v.pure=true) (hs:v.solid=true):Frz1 fr v v
def FrzL(fr:Option Fresh):List AV→List AV→Prop
 |[],[]=>True
 |x::xs,y::ys=>Frz1 fr x y∧FrzL fr xs ys
 |_,_=>False
inductive Frz (fr:Option Fresh):AV→AV→Prop
 |one {v v':AV} (h:Frz1 fr v v'):Frz fr v v'
 |tup {xs ys:List AV} (h:FrzL fr xs ys):Frz fr (.tup xs) (.tup ys)
theorem FrzL.spec{fr:Option Fresh} :∀ {xs ys:List AV},FrzL fr xs ys→xs.length=ys.length∧∀(j:Nat) (y:AV),ys[j]? =some y→∃x,xs[j]? =some x∧Frz1 fr x y
 |[],[],_=>⟨rfl,fun j y h=>by simp at h⟩
 |x::xs,y::ys,h=>by
  obtain⟨h1,h2⟩:=h
  obtain⟨e1,e2⟩:=FrzL.spec h2
  refine⟨by simp[e1],fun j z hz=>?_⟩
  cases j with
  |zero=>simp at hz;subst hz;exact⟨x,rfl,h1⟩
  |succ j=>obtain⟨q,q1,q2⟩:=e2 j z (by simpa using hz);exact⟨q,by simpa using q1,q2⟩
section
variable {P:Program}{w w':World}{okA:Nat→Prop}{L':Lay}{fr:Option Fresh}
theorem Zjr(H:HRel (Ctx.of P w okA []) (Zak fr) L' w'){v v':AV}{x:Value}(hs:Frz1 fr v v')(hr:Zao (Ctx.of P w okA []) (Zak fr) L' w' v x):Zao (Ctx.of P w (fun _=>False) []) [] L' w' v' x:=by
 cases hs with
 |nil r h=>cases hr with |nils=>exact .nil r none 0 h
 |same _ hp hs=>
  exact((hr.pure hp:Rel w' _ [] L' v x).solid hs)
 |row f hf hp hso=>
  subst hf
  have hb:blk (Zak (some f)) 0 0=.row f.e f.sz f.r:=rfl
  obtain⟨ht,h0,h1,h2,h3⟩:=H.rowAt hb
  cases hr with
  |row _ _ ad n c hn hlv=>
   obtain⟨had,rfl,rfl⟩:=hlv.2 _ ht
   by_cases hs0:L'.size 0 0=0
   ·have hre:f.r.elems=[]:=List.eq_nil_of_length_eq_zero (by omega)
    rw[hs0,show(f.sz,f.r.elems.length).2=0 by simp[hre]]
    exact .nil f.r _ _ hre
   obtain⟨hpl,cur,h4,h5,h6,h7,h8⟩:=H.curAt hb hs0
   have had:=had hs0
   subst had
   have hl:=H.live 0 0 hpl
   have hpa:=ZaJ hp
   refine .list f.r _ rfl ⟨L'.loc 0 0,0,none⟩ _ _ f.sz _ hl.2 (.inr ⟨hl.1,fun a i ht=>absurd rfl ht.tag⟩) rfl hn h3 h6.1.symm h7 (fun j v hj=>h8 j v hj) hpa (fun j u v hu hv=>?_)
   have hsu:u.solid=true:=AV.solidL_mem (ZeG hso) hu
   exact((h6.2 j u v hu hv).pure (AV.pureL_mem hpa hu):Rel w' _ [] L' u v).solid hsu
end
def Zl2(A:Ar)(T:Tab)(l:List Ctr)(n:Nat)(pa:List Bool)(fs:List AFrame)(h:Zab):Option (List Bool×List AFrame×Zab):=
 match fs with
 |[]=>none
 |f::fs=>ZpU A T l n true pa f fs h
def Zs6(A:Ar)(T:Tab)(l:List Ctr)(n:Nat)(pa:List Bool)(fn:FuncId)(fs:List AFrame)(h:Zab):Option (List Bool×AV×Option Fresh):=
 match fs with
 |[]=>none
 |f::fs=>match ZeO A T l n pa [] f fs h with
  |none=>none
  |some (acc,g,gs,h')=>match gs with
   |_::_=>none
   |[]=>match g.ret&&Nat.beq g.fn fn with
    |false=>none
    |true=>match g.rnd with
     |some _=>none
     |none=>match g.defs with
      |_::_=>none
      |[]=>match ZkP A g.env h' g.res with
       |none=>none
       |some (b,vs)=>match ZdB h' (Zdu vs)with
        |none=>none
        |some (r,fr)=>some (b::acc,r,fr)
section
variable {C:Ctx}{T:Tab}{l:List Ctr}{n:Nat}{pa acc:List Bool}{fs gs:List AFrame}{h h':Zab}{Q:List AFrame→Zab→Prop}
theorem ZsR(hfol:C.P.follows .mixedOrders=true)(hT:Zbg C.P T)(hl:ZaX C.P l)(hw:Zl2 std T l n pa fs h=some (acc,gs,h'))(hb:AllT acc)(hq:Ev C gs h' Q):Ev C fs h Q:=by
 unfold Zl2 at hw
 split at hw
 ·cases hw
 ·exact Zpm hfol hT hl hw hb hq
theorem ZrI(hfol:C.P.follows .mixedOrders=true)(hT:Zbg C.P T)(hl:ZaX C.P l){fn:FuncId}{r r':AV}{fr fr':Option Fresh}(hw:Zs6 std T l n pa fn fs h=some (acc,r',fr'))(hb:AllT acc)(hr:r'=r)(hfr:fr'=fr):Ev C fs h (ZiW fn r fr):=by
 subst hr;subst hfr
 unfold Zs6 at hw
 split at hw
 ·cases hw
 ·split at hw
  ·cases hw
  ·rename_i acc1 g gs1 h1 hs
   split at hw
   ·cases hw
   ·split at hw
    ·cases hw
    ·rename_i hg
     simp only[Bool.and_eq_true]at hg
     split at hw
     ·cases hw
     ·rename_i hn
      split at hw
      ·cases hw
      ·rename_i hd
       split at hw
       ·cases hw
       ·rename_i b vs hc
        split at hw
        ·cases hw
        ·rename_i hex
         cases hw
         have hb1:b=true:=hb.1
         subst hb1
         exact(Zbf hfol hT hl n _ _ _ _ hs hb.2.mem (.now (by simp) ⟨g,vs,rfl,Nat.eq_of_beq_eq_true hg.2,hg.1,hn,hd,hc,hex⟩)).2
end
end Go.Proofs.Ytbbemleognkdhaa
namespace Go.Proofs.Ytbbemleognkdhaa
@[simp] theorem ZwG (a b:Int):std.add a b=a+b:=rfl
@[simp] theorem ZwS (a b:Int):std.sub a b=a-b:=rfl
@[simp] theorem Zws (a b:Int):std.mul a b=a*b:=rfl
@[simp] theorem Zwu (a b:Int):std.quo a b=Int.tdiv a b:=rfl
@[simp] theorem ZwK (a b:Int):std.rem a b=Int.tmod a b:=rfl
@[simp] theorem ZwU (a:Int):std.neg a= -a:=rfl
@[simp] theorem ZwW (a b:Int):std.lt a b=decide (a<b):=rfl
@[simp] theorem ZwY (a b:Int):std.le a b=decide (a≤b):=rfl
@[simp] theorem ZwX (a b:Int):std.eq a b=decide (a=b):=rfl
@[simp] theorem Zwp (a:Int):std.nat a=a.toNat:=rfl
@[simp] theorem Zwt (a:Nat):std.int a=(a:Int):=rfl
@[simp] theorem Zwr (a b:Int):std.max a b=Max.max a b:=rfl
@[simp] theorem Zwl (a b:Int):std.min a b=Min.min a b:=rfl
@[simp] theorem ZwO (l:List Int):std.len l=l.length:=rfl
@[simp] theorem ZwC (l:List Int) (j:Nat):std.nth l j=l.getD j 0:=rfl
@[simp] theorem ZwV (l:List Int) (j:Nat) (x:Int):std.set l j x=l.set j x:=rfl
@[simp] theorem ZwL (a b:List Int):std.app a b=a++b:=rfl
@[simp] theorem ZvG (l:List Int) (k n:Nat):std.sub3 l k n=(l.drop k).take n:=rfl
@[simp] theorem Zwq (n:Nat) (x:Int):std.rep n x=List.replicate n x:=rfl
@[simp] theorem ZwA (a:Bool):std.not a=!a:=rfl
@[simp] theorem Zv9 (l:List UInt8):std.lenS l=l.length:=rfl
@[simp] theorem Zwa (l:List UInt8) (j:Nat):std.nthS l j=((l.getD j 0).toNat:Int):=rfl
@[simp] theorem Zv3 (a b:List UInt8):std.appS a b=a++b:=rfl
@[simp] theorem ZvT (l:List UInt8) (k n:Nat):std.subS l k n=sub3 l k n:=rfl
@[simp] theorem Zwv (a b:List UInt8):std.eqS a b=(a==b):=rfl
@[simp] theorem ZvQ (ks:List AV) (s:List UInt8):std.hasS ks s=ks.any fun k=>k.toS==s:=rfl
@[simp] theorem Zwi (s:List UInt8):std.byt s=s.map fun b=>(b.toNat:Int):=rfl
@[simp] theorem ZwJ (a b:Int):std.shl a b=a*2^b.toNat:=rfl
@[simp] theorem ZwP (a b:Int):std.shr a b=a.fdiv (2^b.toNat):=rfl
@[simp] theorem Zt3 (n:Int):std.inR .i64 n=decide (-9223372036854775808≤n∧n≤9223372036854775807):=rfl
@[simp] theorem ZwI (a b:Bool):Zam a b=(a&&b):=by cases a<;>rfl
@[simp] theorem ZwN (a b:Nat):Nat.blt a b=decide (a<b):=by rw[Bool.eq_iff_iff];simp
@[simp] theorem Zww (a b:Nat):Nat.ble a b=decide (a≤b):=by rw[Bool.eq_iff_iff];simp
@[simp] theorem Zwz (a b:Nat):Nat.beq a b=decide (a=b):=by rw[Bool.eq_iff_iff];simp
@[simp] theorem ZsK:AllT []=True:=rfl
@[simp] theorem Zg8 (b:Bool) (l:List Bool):AllT (b::l)=(b=true∧AllT l):=rfl
def tru:Nat→List Bool→List Bool
 |0,l=>l
 |n+1,l=>true::tru n l
def tr:List Nat→List Bool→List Bool
 |k::ks,x::xs=>tru k (x::tr ks xs)
 |k::_,[]=>tru k []
 |[],xs=>xs
theorem ZgF(l:List Bool):∀n,AllT (tru n l)=AllT l
 |0=>rfl
 |n+1=>by simp only[tru,Zg8,ZgF l n,true_and]
@[simp] theorem Zqf:∀ks xs,AllT (tr ks xs)=AllT xs
 |k::ks,x::xs=>by simp only[tr,ZgF,Zg8,Zqf ks xs]
 |k::ks,[]=>by simp only[tr,ZgF]
 |[],xs=>rfl
end Go.Proofs.Ytbbemleognkdhaa
