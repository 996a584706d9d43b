/- Contracts as a list. No condition. -/
import Derived.Test.YtjhdnpmojhkbjaaPI
import Derived.KernelRfl
namespace Go.Proofs.Ytjhdnpmojhkbjaa
theorem ZjZ{f:FuncId}{args:List AV}{e sz:Nat}{r:Row}(h:ZaK Try.prog f args (.row 0 0) (some ⟨e,sz+1,r⟩))(hp:r.pure=true):ZaK Try.prog f args (.list r) none:=by
 intro w okA L vs hargs hok
 refine(h w okA L vs hargs hok).mono ?_
 rintro e' w' ⟨x,L',rfl,hb,hpo⟩
 obtain⟨H,hr⟩:HRel (Ctx.of Try.prog w okA []) (Zaj (some ⟨e,sz+1,r⟩)) L' w'∧ZaA (Ctx.of Try.prog w okA []) (Zaj (some ⟨e,sz+1,r⟩)) L' w' (.row 0 0) x:=hpo
 refine⟨x,L',rfl,hb,?_⟩
 show HRel _ (Zaj none) L' w'∧ZaA _ (Zaj none) L' w' (.list r) x
 refine⟨H.nil,?_⟩
 have hbk:blk (Zaj (some ⟨e,sz+1,r⟩)) 0 0=.row e (sz+1) r:=rfl
 obtain⟨ht,h0,h1,h2,h3,cur,h4,h5,h6,h7,h8⟩:=H.rowAt hbk
 have hl:=H.live 0 0 (by rw[ht];simp)
 cases hr with
 |row _ _ g o n c hn hlv=>
  obtain⟨rfl,rfl,rfl,rfl⟩:=hlv.2 _ ht
  have hpa:=ZaG hp
  exact .list r _ rfl ⟨L'.loc 0 0,0,none⟩ _ _ (sz+1) _ hl.2 (.inr ⟨hl.1,fun a i ht=>absurd rfl ht⟩) rfl hn h3 h6.1.symm h7 (fun j v hj=>h8 j v hj) hpa
   (fun j u v hu hv=>((h6.2 j u v hu hv).okmono (fun g _ ho=>Zcn ho)).pure (AV.pureL_mem hpa hu))
def Znl:List AV→Int
 |[]=>0
 |p::ps=>if pkE (kI p) (kC p) (kD p)=0 then Znl ps else pkE (kI p) (kC p) (kD p)
theorem ZnK:∀ {ps:List AV},ZAD ps=true→∀p∈ps,(kD p).length≤42
 |[],_,p,hp=>absurd hp List.not_mem_nil
 |q::ps,h,p,hp=>by
  rw[ZAD,Bool.and_eq_true,decide_eq_true_eq]at h
  rcases List.mem_cons.1 hp with rfl |hp
  ·exact h.1
  ·exact ZnK h.2 p hp
theorem ZeV{ps:List AV}(h:Zcg ps=true):ps.length≤22∧∀p∈ps,(kD p).length≤42:=by
 rw[Zcg,Bool.and_eq_true,decide_eq_true_eq]at h
 exact⟨h.1,ZnK h.2⟩
theorem ZL5{C:Ctx}(hC:C.P=Try.prog)(ps:List AV)(hlen:ps.length≤22)(hk:∀p∈ps,(kD p).length≤42):∀(d i:Nat),ps.length-i=d→i≤ps.length→
 Ev C (ZcI ps ps.length i) (Zb7 ps ps.length i) (ZeX 129 (.int .i64 (Znl (ps.drop i))) none):=by
 intro d
 induction d with
 |zero=>
  intro i hd hi
  exact fin hC Zbo (ZC0 std ps ps.length i) (by simp;omega) (by rw[List.drop_of_length_le (by omega)];rfl) rfl
 |succ d ih=>
  intro i hd hi
  have hlt:i<ps.length:=by omega
  have e1:std.nthA ps (std.nat (i:Int))=ps[i]:=by simp[hlt]
  have g0:(ps[i].cellAt 0).toI=kI ps[i]:=rfl
  have g1:(ps[i].cellAt 1).toI=kC ps[i]:=rfl
  have g2:(ps[i].cellAt 2).toIs=kD ps[i]:=rfl
  have hb:=hk ps[i] (by simp)
  have hb':(kD ps[i]).length≤1000000:=by omega
  rw[List.drop_eq_getElem_cons hlt,Znl]
  by_cases h:pkE (kI ps[i]) (kC ps[i]) (kD ps[i])=0
  ·rw[if_pos h]
   exact go hC Zbo (ZBy std ps ps.length i) (by simp only[e1,g0,g1,g2,h];simp[hlt,hb'];omega) (ih (i+1) (by omega) (by omega))
  ·rw[if_neg h]
   exact fin hC Zbo (ZGr std ps ps.length i) (by simp only[e1,g0,g1,g2];simp[hlt,hb',h]) (by simp only[e1,g0,g1,g2]) rfl
theorem Zod(ps:List AV)(h:Zcg ps=true):ZaK Try.prog 129 [.list (.big (.agg [.int .i64, .int .i64, .ints .i64]) ps), .fn 30 []] (.int .i64 (Znl ps)) none:=
 start (ZtE ps) fun C hC=>go hC Zbo (ZDl std ps) (by simp) (ZL5 hC ps (ZeV h).1 (ZeV h).2 ps.length 0 (by omega) (by omega))
theorem l36{C:Ctx}(hC:C.P=Try.prog)(ps:List AV)(hlen:ps.length≤22)(hk:∀p∈ps,(kD p).length≤42):∀(d i:Nat),ps.length-i=d→i≤ps.length→
 Ev C (Zee ps i) (Zdp ps i) (ZeX 36 (.int .i64 (Znl (ps.drop i))) none):=by
 intro d
 induction d with
 |zero=>
  intro i hd hi
  exact fin hC Zbo (ZJK std ps i) (by simp;omega) (by rw[List.drop_of_length_le (by omega)];rfl) rfl
 |succ d ih=>
  intro i hd hi
  have hlt:i<ps.length:=by omega
  have e1:std.nthA ps (std.nat (i:Int))=ps[i]:=by simp[hlt]
  have g0:(ps[i].cellAt 0).toI=kI ps[i]:=rfl
  have g1:(ps[i].cellAt 1).toI=kC ps[i]:=rfl
  have g2:(ps[i].cellAt 2).toIs=kD ps[i]:=rfl
  have hb:=hk ps[i] (by simp)
  have hb':(kD ps[i]).length≤1000000:=by omega
  rw[List.drop_eq_getElem_cons hlt,Znl]
  by_cases h:pkE (kI ps[i]) (kC ps[i]) (kD ps[i])=0
  ·rw[if_pos h]
   exact go hC Zbo (ZHX std ps i) (by simp only[e1,g0,g1,g2,h];simp[hlt,hb'];omega) (ih (i+1) (by omega) (by omega))
  ·rw[if_neg h]
   exact fin hC Zbo (ZKC std ps i) (by simp only[e1,g0,g1,g2];simp[hlt,hb',h]) (by simp only[e1,g0,g1,g2]) rfl
def Zbb(ps:List AV):Int:=if 20<ps.length then 8 else Znl ps
theorem ZqQ(ps:List AV)(h:Zcg ps=true):ZaK Try.prog 36 [.list (.big (.agg [.int .i64, .int .i64, .ints .i64]) ps)] (.int .i64 (Zbb ps)) none:=
 start (Zzz ps) fun C hC=>by
  unfold Zbb
  by_cases h2:20<ps.length
  ·rw[if_pos h2];exact fin hC Zbo (ZHQ std ps) (by simp;omega) rfl rfl
  ·rw[if_neg h2];exact go hC Zbo (ZId std ps) (by simp;omega) (l36 hC ps (ZeV h).1 (ZeV h).2 ps.length 0 (by omega) (by omega))
def pkV(p:AV):AV:=.agg (.gen [.int .i64 (kI p), .int .i64 (kC p), .list (.ints .i64 (kD p))])
theorem l34{C:Ctx}(hC:C.P=Try.prog)(ps:List AV)(hlen:ps.length≤22)(hk:∀p∈ps,(kD p).length≤42):∀(d i:Nat),ps.length-i=d→i≤ps.length→
 Ev C (Zfi ps i ((ps.take i).map pkV)) (ZeM ps i ((ps.take i).map pkV)) (ZeX 34 (.row 0 0) (some ⟨57,3, .big (.agg [.int .i64, .int .i64, .ints .i64]) (ps.map pkV)⟩)):=by
 intro d
 induction d with
 |zero=>
  intro i hd hi
  have ht:ps.take i=ps:=List.take_of_length_le (by omega)
  rw[ht]
  exact fin hC Zbo (ZIh std ps i (ps.map pkV)) (by simp;omega) rfl rfl
 |succ d ih=>
  intro i hd hi
  have hlt:i<ps.length:=by omega
  have e1:std.nthA ps (std.nat (i:Int))=ps[i]:=by simp[hlt]
  have g0:(ps[i].cellAt 0).toI=kI ps[i]:=rfl
  have g1:(ps[i].cellAt 1).toI=kC ps[i]:=rfl
  have g2:(ps[i].cellAt 2).toIs=kD ps[i]:=rfl
  have hb:=hk ps[i] (by simp)
  have hb':(kD ps[i]).length≤4294967296:=by omega
  have ih':=ih (i+1) (by omega) (by omega)
  rw[List.take_succ_eq_append_getElem hlt,List.map_append,List.map_singleton]at ih'
  have hlen2:((ps.take i).map pkV).length=i:=by simp;omega
  have e5:std.add (i:Int) 1=((i+1:Nat):Int):=by simp
  generalize (ps.take i).map pkV=X at*
  refine go hC Zbo (ZJx std ps i X) ?_ ?_
  ·simp only[e1,g0,g1,g2];simp[hlt,hb',hlen2,AV.bx,Zac,Row.len];omega
  ·simp only[e1,g0,g1,g2,e5];exact ih'
theorem Zyn(xs:List AV):(Row.big (.agg [.int .i64, .int .i64, .ints .i64]) xs).pure=true:=rfl
theorem Zrl(ps:List AV)(h:Zcg ps=true):ZaK Try.prog 34 [.list (.big (.agg [.int .i64, .int .i64, .ints .i64]) ps)] (.list (.big (.agg [.int .i64, .int .i64, .ints .i64]) ps)) none:=by
 obtain⟨hl,hk⟩:=ZeV h
 cases ps with
 |nil=>exact wk2 (start (ZpO []) fun C hC=>go hC Zbo (ZF6 std []) (by simp) (fin hC Zbo (ZHB std []) (by simp) rfl rfl)) (.one (.nil _ rfl))
 |cons p qs=>
  have key:=ZjZ (e:=57) (sz:=2) (f:=34) (args:=[.list (.big (.agg [.int .i64, .int .i64, .ints .i64]) (p::qs))]) (r:=.big (.agg [.int .i64, .int .i64, .ints .i64]) ((p::qs).map pkV))
   (start (ZpO (p::qs)) fun C hC=>by
     refine go hC Zbo (ZF6 std (p::qs)) (by simp) ?_
     have hb:=hk p (by simp)
     have g0:(p.cellAt 0).toI=kI p:=rfl
     have g1:(p.cellAt 1).toI=kC p:=rfl
     have g2:(p.cellAt 2).toIs=kD p:=rfl
     have e1:std.nthA (p::qs) (std.nat 0)=p:=by simp
     refine go hC Zbo (ZKj std (p::qs)) ?_ ?_
     ·simp only[e1,g0,g1,g2];simp[AV.bx,Zac,Row.len];omega
     ·have:=l34 hC (p::qs) hl hk qs.length 1 (by simp) (by simp)
      simp only[e1,g0,g1,g2]
      simpa[pkV]using this) (Zyn _)
  exact Zkq key (by simp[Row.elems,pkV,kI,kC,kD,Sh.view,ZeQ,Sh.view1,AV.cellAt,AV.toI,AV.toIs])
def pkB(p:AV):List Int:=kI p::kC p::((kD p).length:Int)::kD p
def Zae:List AV→List Int
 |[]=>[]
 |p::ps=>pkB p++Zae ps
def Zai:Nat→List AV→List Int
 |_,[]=>[]
 |n,p::ps=>(n:Int)::Zai (n+(pkB p).length) ps
def ZDk:List AV→Bool
 |[]=>true
 |p::ps=>decide ((kD p).length≤1000)&&ZDk ps
def Zvz(ps:List AV):Bool:=decide (ps.length≤1000)&&ZDk ps
theorem Znc:∀ {ps:List AV},ZDk ps=true→∀p∈ps,(kD p).length≤1000
 |[],_,p,hp=>absurd hp List.not_mem_nil
 |q::ps,h,p,hp=>by
  rw[ZDk,Bool.and_eq_true,decide_eq_true_eq]at h
  rcases List.mem_cons.1 hp with rfl |hp
  ·exact h.1
  ·exact Znc h.2 p hp
theorem l97{C:Ctx}(hC:C.P=Try.prog)(ps:List AV)(hlen:ps.length≤1000)(hk:∀p∈ps,(kD p).length≤1000)(B S:List Int):∀(d i:Nat) (b s:List Int),i+d=ps.length→b.length≤1003*i→s.length≤i→b++Zae (ps.drop i)=B→s++Zai b.length (ps.drop i)=S→
 Ev C (Zfx ps ps.length i s b) (Zet ps ps.length i s b) (ZeX 97 (.tup [.list (.ints .i64 B), .list (.ints .i64 S)]) none):=by
 intro d
 induction d with
 |zero=>
  intro i b s hd hb hs hB hS
  rw[List.drop_of_length_le (by omega),Zae,List.append_nil]at hB
  rw[List.drop_of_length_le (by omega),Zai,List.append_nil]at hS
  exact fin hC Zbo (ZJD std ps ps.length i s b) (by simp;omega) (by rw[hB,hS]) rfl
 |succ d ih=>
  intro i b s hd hb hs hB hS
  have hlt:i<ps.length:=by omega
  have e1:std.nthA ps (std.nat (i:Int))=ps[i]:=by simp[hlt]
  have g0:(ps[i].cellAt 0).toI=kI ps[i]:=rfl
  have g1:(ps[i].cellAt 1).toI=kC ps[i]:=rfl
  have g2:(ps[i].cellAt 2).toIs=kD ps[i]:=rfl
  have hk':=hk ps[i] (by simp)
  have e5:std.add (i:Int) 1=((i+1:Nat):Int):=by simp
  rw[List.drop_eq_getElem_cons hlt]at hB hS
  rw[Zae,←List.append_assoc]at hB
  rw[Zai,List.append_cons]at hS
  have hpl:(pkB ps[i]).length=(kD ps[i]).length+3:=by simp[pkB]
  have ih':=ih (i+1) (b++pkB ps[i]) (s++[(b.length:Int)]) (by omega) (by rw[List.length_append,hpl];omega) (by simp;omega) hB (by rw[List.length_append];exact hS)
  refine go hC Zbo (ZIc std ps ps.length i s b) ?_ ?_
  ·simp only[e1,g0,g1,g2];simp[hlt,AV.bx,Zac];omega
  ·simp only[e1,g0,g1,g2,e5]
   simpa[pkB]using ih'
theorem Zqx(ps:List AV)(h:Zvz ps=true):ZaK Try.prog 97 [.list (.big (.agg [.int .i64, .int .i64, .ints .i64]) ps)] (.tup [.list (.ints .i64 (Zae ps)), .list (.ints .i64 (Zai 0 ps))]) none:=by
 rw[Zvz,Bool.and_eq_true,decide_eq_true_eq]at h
 obtain⟨hl,hk⟩:=h
 have hk:=Znc hk
 cases ps with
 |nil=>exact Znz (xs:=[.nils, .nils]) (start (Zrs []) fun C hC=>go hC Zbo (ZDU std []) (by simp) (fin hC Zbo (ZIO std [] _) (by simp) rfl rfl)) ⟨.nil _ rfl, .nil _ rfl,trivial⟩
 |cons p qs=>
  refine start (Zrs (p::qs)) fun C hC=>?_
  refine go hC Zbo (ZDU std (p::qs)) (by simp) ?_
  have hb:=hk p (by simp)
  have g0:(p.cellAt 0).toI=kI p:=rfl
  have g1:(p.cellAt 1).toI=kC p:=rfl
  have g2:(p.cellAt 2).toIs=kD p:=rfl
  have e1:std.nthA (p::qs) (std.nat 0)=p:=by simp
  refine go hC Zbo (ZIV std (p::qs) _) ?_ ?_
  ·simp only[e1,g0,g1,g2];simp[AV.bx,Zac];omega
  ·have:=l97 hC (p::qs) hl hk (Zae (p::qs)) (Zai 0 (p::qs)) qs.length 1 (pkB p) [0] (by simp;omega) (by simp[pkB];omega) (by simp) rfl (by simp[Zai])
   simp only[e1,g0,g1,g2]
   simpa[pkB]using this
def k129:Ctr:=⟨129,0,fun _ a=>match a with |[.list (.big (.agg [.int .i64, .int .i64, .ints .i64]) ps), .fn 30 []]=>some (decide (Zcg ps=true), .int .i64 (Znl ps),none) |_=>none⟩
theorem Zxh:k129.OK Try.prog:=fun pa args r fr h=>by
 simp only[k129]at h
 split at h
 ·simp only[Option.some.injEq,Prod.mk.injEq,decide_eq_true_eq]at h
  obtain⟨h0,rfl,rfl⟩:=h
  exact Zod _ h0
 ·cases h
def k36:Ctr:=⟨36,0,fun _ a=>match a with |[.list (.big (.agg [.int .i64, .int .i64, .ints .i64]) ps)]=>some (decide (Zcg ps=true), .int .i64 (Zbb ps),none) |_=>none⟩
theorem ZuQ:k36.OK Try.prog:=fun pa args r fr h=>by
 simp only[k36]at h
 split at h
 ·simp only[Option.some.injEq,Prod.mk.injEq,decide_eq_true_eq]at h
  obtain⟨h0,rfl,rfl⟩:=h
  exact ZqQ _ h0
 ·cases h
def k34:Ctr:=⟨34,0,fun _ a=>match a with |[.list (.big (.agg [.int .i64, .int .i64, .ints .i64]) ps)]=>some (decide (Zcg ps=true), .list (.big (.agg [.int .i64, .int .i64, .ints .i64]) ps),none) |_=>none⟩
theorem Zvk:k34.OK Try.prog:=fun pa args r fr h=>by
 simp only[k34]at h
 split at h
 ·simp only[Option.some.injEq,Prod.mk.injEq,decide_eq_true_eq]at h
  obtain⟨h0,rfl,rfl⟩:=h
  exact Zrl _ h0
 ·cases h
def k97:Ctr:=⟨97,0,fun _ a=>match a with |[.list (.big (.agg [.int .i64, .int .i64, .ints .i64]) ps)]=>some (decide (Zvz ps=true), .tup [.list (.ints .i64 (Zae ps)), .list (.ints .i64 (Zai 0 ps))],none) |_=>none⟩
theorem ZCb:k97.OK Try.prog:=fun pa args r fr h=>by
 simp only[k97]at h
 split at h
 ·simp only[Option.some.injEq,Prod.mk.injEq,decide_eq_true_eq]at h
  obtain⟨h0,rfl,rfl⟩:=h
  exact Zqx _ h0
 ·cases h
def BD2:List Ctr:=[k129,k36,k34,k97]++BD1
theorem Zfl:Zap Try.prog BD2:=⟨Zxh,⟨ZuQ,⟨Zvk,⟨ZCb,Zbo⟩⟩⟩⟩
end Go.Proofs.Ytjhdnpmojhkbjaa
/- Paths of functions, printed by the explorer (Gx). No condition. -/
namespace Go.Proofs.Ytjhdnpmojhkbjaa
set_option maxRecDepth 100000
set_option linter.unusedVariables false
def Zvw(ps:List AV):AFrame:={ fn:=130,N:=8,env:=[(0,AV.list (Row.big (Sh.agg [Sh.int .i64,Sh.int .i64,Sh.ints .i64]) ps))],todo:=[.code a130.code],defs:=[],rnd:=none,ret:=false,res:=[ARes.tmp 2] }
def ZI3(ps:List AV):List AFrame:=[(Zvw ps)]
theorem ZtB(ps:List AV):Zam tab 130 [AV.list (Row.big (Sh.agg [Sh.int .i64,Sh.int .i64,Sh.ints .i64]) ps)]=some (Zvw ps):=rfl
theorem ZFA(A:Ar)(ps:List AV):ZaE A tab BD2 20 [false] 130 (ZI3 ps) []=
 some (tr [2,1,1,2] [Nat.ble (0+A.lenA ps) 4294967296,List.all [] fun x=>AV.bx x&&Nat.beq (Zac A x) 3,Nat.blt 0 (A.lenA ps)],
  AV.row 0 0,some { e:=57,sz:=3,r:=Row.big (.agg [.int .i64, .int .i64, .ints .i64]) ps }):=by kernel_rfl
def ZCD(ps:List AV):AFrame:={ fn:=96,N:=11,env:=[(0,AV.list (Row.big (Sh.agg [Sh.int .i64,Sh.int .i64,Sh.ints .i64]) ps))],todo:=[.code a96.code],defs:=[],rnd:=none,ret:=false,res:=[ARes.tmp 2] }
def ZMJ(ps:List AV):List AFrame:=[(ZCD ps)]
theorem Zxl(ps:List AV):Zam tab 96 [AV.list (Row.big (Sh.agg [Sh.int .i64,Sh.int .i64,Sh.ints .i64]) ps)]=some (ZCD ps):=rfl
theorem ZJO(A:Ar)(ps:List AV):ZaE A tab BD2 18 [] 96 (ZMJ ps) []=
 some (tr [2,0,0,6] [decide (List.length [Zak (A.le (A.int (A.lenA ps)) 20) 8,Znl ps]≤1000000),List.all [AV.int .i64 (Zak (A.le (A.int (A.lenA ps)) 20) 8),AV.int .i64 (Znl ps)] fun x=>AV.bx x&&Nat.beq (Zac A x) 1,decide (Zcg ps=true)],
  AV.int .i64 (Zaq [Zak (A.le (A.int (A.lenA ps)) 20) 8,Znl ps]),none):=by kernel_rfl
def Zt7(xs:List Int)(x:Int):AFrame:={ fn:=103,N:=54,env:=[(0,AV.list (.ints .i64 xs)),(1,AV.int .i64 x)],todo:=[.code a103.code],defs:=[],rnd:=none,ret:=false,res:=[ARes.tmp 4,ARes.tmp 5] }
def ZIT(xs:List Int)(x:Int):List AFrame:=[(Zt7 xs x)]
theorem Ztz(xs:List Int)(x:Int):Zam tab 103 [AV.list (.ints .i64 xs),AV.int .i64 x]=some (Zt7 xs x):=rfl
def Zbx(xs:List Int)(x n0 n1 n2:Int):List AFrame:=[{ fn:=103,N:=54,env:=[(0,AV.list (.ints .i64 xs)),(1,AV.int .i64 x),(6,AV.int .i64 n0),(7,AV.int .i64 n2),(8,AV.int .i64 n1)],todo:=.code (ACode.gh [] ZvN)::ZDh,defs:=[],rnd:=none,ret:=false,res:=[ARes.tmp 4,ARes.tmp 5] }]
def Zbj(xs:List Int)(x:Int)(n0:Int)(n1:Int)(n2:Int):Zaa:=[]
abbrev Zeh(xs:List Int)(x:Int)(n0:Int)(n1:Int)(n2:Int):List AFrame×Zaa:=(Zbx xs x n0 n1 n2,Zbj xs x n0 n1 n2)
theorem ZFr(A:Ar)(xs:List Int)(x:Int):Zad A tab BD2 21 [] (ZIT xs x) []=
 some (tr [8] [],
  Zeh (xs) (x) (A.int (A.len xs)) (A.int (A.len xs)) (0)):=by kernel_rfl
theorem ZDD(A:Ar)(xs:List Int)(x n0 n1 n2:Int):Zad A tab BD2 76 [true,false,false,false,false,false,false,false,false,true] (Zbx xs x n0 n1 n2) (Zbj xs x n0 n1 n2)=
 some (tr [1,1,18,11,3,0,0,0,2,3] [A.inR .i64 (A.add (A.shr (A.add n2 n1) 1) 1),A.lt (A.nth xs (A.nat (A.shr (A.add n2 n1) 1))) x,!A.not (A.eq (A.nth xs (A.nat (A.shr (A.add n2 n1) 1))) (A.nth xs (A.nat (A.shr (A.add n2 n1) 1)))),Zab (Zab (A.le 0 (A.shr (A.add n2 n1) 1)) (Nat.blt (A.nat (A.shr (A.add n2 n1) 1)) (A.len xs))) true,A.inR .i64 (A.shr (A.add n2 n1) 1),Zab (A.le 0 1) (Nat.blt (A.nat 1) 64),A.inR .u64 (A.add n2 n1),A.inR .i64 (A.add n2 n1),A.lt n2 n1],
  Zeh (xs) (x) (n0) (n1) (A.add (A.shr (A.add n2 n1) 1) 1)):=by kernel_rfl
theorem ZBc(A:Ar)(xs:List Int)(x n0 n1 n2:Int):Zad A tab BD2 75 [true,false,false,false,false,false,false,false,false,false] (Zbx xs x n0 n1 n2) (Zbj xs x n0 n1 n2)=
 some (tr [2,18,11,3,0,0,0,2,3] [!A.lt (A.nth xs (A.nat (A.shr (A.add n2 n1) 1))) x,!A.not (A.eq (A.nth xs (A.nat (A.shr (A.add n2 n1) 1))) (A.nth xs (A.nat (A.shr (A.add n2 n1) 1)))),Zab (Zab (A.le 0 (A.shr (A.add n2 n1) 1)) (Nat.blt (A.nat (A.shr (A.add n2 n1) 1)) (A.len xs))) true,A.inR .i64 (A.shr (A.add n2 n1) 1),Zab (A.le 0 1) (Nat.blt (A.nat 1) 64),A.inR .u64 (A.add n2 n1),A.inR .i64 (A.add n2 n1),A.lt n2 n1],
  Zeh (xs) (x) (n0) (A.shr (A.add n2 n1) 1) (n2)):=by kernel_rfl
theorem ZG0(A:Ar)(xs:List Int)(x n0 n1 n2:Int):ZaE A tab BD2 40 [false,true,true,true,true,true,true,true,true,true,true,true,true,true,true,true,true,true] 103 (Zbx xs x n0 n1 n2) (Zbj xs x n0 n1 n2)=
 some (tr [23,8,4,5,3] [A.eq (A.nth xs (A.nat n2)) x,Zab (Zab (A.le 0 n2) (Nat.blt (A.nat n2) (A.len xs))) true,A.lt n2 n0,!A.lt n2 n1],
  AV.tup [AV.int .i64 n2,AV.bool true],none):=by kernel_rfl
theorem ZGI(A:Ar)(xs:List Int)(x n0 n1 n2:Int):ZaE A tab BD2 53 [false,true,true,true,true,true,true,true,false,false,false,false,false,false,false,false,false,false,true,false,true] 103 (Zbx xs x n0 n1 n2) (Zbj xs x n0 n1 n2)=
 some (tr [14,11,4,8,4,5,3] [!A.not (A.eq (A.nth xs (A.nat n2)) (A.nth xs (A.nat n2))),Zab (Zab (A.le 0 n2) (Nat.blt (A.nat n2) (A.len xs))) true,!A.eq (A.nth xs (A.nat n2)) x,Zab (Zab (A.le 0 n2) (Nat.blt (A.nat n2) (A.len xs))) true,A.lt n2 n0,!A.lt n2 n1],
  AV.tup [AV.int .i64 n2,AV.bool false],none):=by kernel_rfl
theorem ZBv(A:Ar)(xs:List Int)(x n0 n1 n2:Int):ZaE A tab BD2 40 [false,false,false,false,false,false,false,false,false,false] 103 (Zbx xs x n0 n1 n2) (Zbj xs x n0 n1 n2)=
 some (tr [29,5,3] [!A.lt n2 n0,!A.lt n2 n1],
  AV.tup [AV.int .i64 n2,AV.bool false],none):=by kernel_rfl
end Go.Proofs.Ytjhdnpmojhkbjaa
/- Contracts as a list. No condition. -/
namespace Go.Proofs.Ytjhdnpmojhkbjaa
theorem Zr7(ps:List AV)(h:Zcg ps=true):ZaK Try.prog 96 [.list (.big (.agg [.int .i64, .int .i64, .ints .i64]) ps)] (.int .i64 (Zbb ps)) none:=
 start (Zxl ps) fun C hC=>by
  refine fin hC Zfl (ZJO std ps) (by simp[h,AV.bx,Zac]) ?_ rfl
  unfold Zbb
  by_cases h2:20<ps.length
  ·have:std.le (std.int (std.lenA ps)) 20=false:=by simp;omega
   rw[this,if_pos h2];simp[Zaq]
  ·have:std.le (std.int (std.lenA ps)) 20=true:=by simp;omega
   rw[this,if_neg h2];simp[Zaq];exact fun h=>h.symm
theorem Zmj(ps:List AV)(h:0<ps.length∧ps.length≤1000000):ZaK Try.prog 130 [.list (.big (.agg [.int .i64, .int .i64, .ints .i64]) ps)] (.row 0 0) (some ⟨57,3, .big (.agg [.int .i64, .int .i64, .ints .i64]) ps⟩):=
 start (ZtB ps) fun C hC=>fin hC Zfl (ZFA std ps) (by simp;omega) rfl rfl
def Zme(xs:List Int):Bool:=decide (xs.Pairwise (· < ·))&&decide (xs.length≤1000000)
def loS(xs:List Int)(x:Int):Nat:=(xs.takeWhile fun y=>decide (y<x)).length
theorem ZGD{xs:List Int}{x:Int}{i:Nat}(hi:i≤xs.length)(h1:∀k (h:k<xs.length),k<i→xs[k]<x)(h2:∀k (h:k<xs.length),i≤k→x≤xs[k]):loS xs x=i:=by
 unfold loS
 induction xs generalizing i with
 |nil=>simp at hi;simp[hi]
 |cons y ys ih=>
  cases i with
  |zero=>
   have:=h2 0 (by simp) (by omega)
   rw[List.takeWhile_cons,if_neg (by simpa using this)];rfl
  |succ i=>
   have:=h1 0 (by simp) (by omega)
   rw[List.takeWhile_cons,if_pos (by simpa using this),List.length_cons,ih (i:=i) (by simpa using hi) (fun k h hk=>h1 (k+1) (by simpa using h) (by omega)) (fun k h hk=>h2 (k+1) (by simpa using h) (by omega))]
theorem ZMg{C:Ctx}(hC:C.P=Try.prog)(xs:List Int)(x:Int)(hlen:xs.length≤1000000)(hs:∀i j (hi:i<xs.length) (hj:j<xs.length),i<j→xs[i]<xs[j]):∀(d i j:Nat),j-i=d→i≤j→j≤xs.length→(∀k (h:k<xs.length),k<i→xs[k]<x)→(∀k (h:k<xs.length),j≤k→x≤xs[k])→
 Ev C (Zbx xs x xs.length j i) (Zbj xs x xs.length j i) (ZeX 103 (.tup [.int .i64 (loS xs x), .bool (decide (x∈xs))]) none):=by
 intro d
 induction d using Nat.strongRecOn with
 |_ d ih=>
  intro i j hd hij hj h1 h2
  by_cases hlt:i<j
  ·have hm:std.shr (std.add (i:Int) (j:Int)) 1=(((i+j)/2:Nat):Int):=by
    simp only[ZDr,ZcE]
    rw[Int.fdiv_eq_ediv_of_nonneg _ (by decide)]
    simp
   have hml:(i+j)/2<xs.length:=by omega
   have u:std.inR .u64 (std.add (i:Int) (j:Int))=true:=decide_eq_true ⟨show (0:Int)≤(i:Int)+j by omega,show(i:Int)+j≤18446744073709551615 by omega⟩
   obtain⟨m,hme⟩:∃m,(i+j)/2=m:=⟨_,rfl⟩
   rw[hme]at hm hml
   have e1:std.nth xs (std.nat (m:Int))=xs[m]:=by simp[hml]
   have e5:std.add (m:Int) 1=((m+1:Nat):Int):=by simp
   by_cases hc:xs[m]<x
   ·refine go hC Zfl (ZDD std xs x xs.length j i) ?_ ?_
    ·simp only[hm,e1,u];simp[hml,hc];omega
    ·rw[hm,e5]
     refine ih (j-(m+1)) (by omega) (m+1) j rfl (by omega) hj (fun k h hk=>?_) h2
     by_cases hkm:k=m
     ·subst hkm;exact hc
     ·have:=hs k m h hml (by omega);omega
   ·refine go hC Zfl (ZBc std xs x xs.length j i) ?_ ?_
    ·simp only[hm,e1,u];simp[hml];omega
    ·rw[hm]
     refine ih (m-i) (by omega) i m rfl (by omega) (by omega) h1 (fun k h hk=>?_)
     by_cases hkm:k=m
     ·subst hkm;omega
     ·have:=hs m k hml h (by omega);omega
  ·have hij2:i=j:=by omega
   subst hij2
   have hlo:=ZGD hj h1 h2
   by_cases hn:i<xs.length
   ·have e1:std.nth xs (std.nat (i:Int))=xs[i]:=by simp[hn]
    by_cases he:xs[i]=x
    ·refine fin hC Zfl (ZG0 std xs x xs.length i i) ?_ ?_ rfl
     ·simp only[e1,he];simp[hn]
     ·rw[hlo,decide_eq_true (he▸List.getElem_mem hn)]
    ·refine fin hC Zfl (ZGI std xs x xs.length i i) ?_ ?_ rfl
     ·simp only[e1];simp[hn,he]
     ·have:¬x∈xs:=fun hx=>by
       obtain⟨k,hk,hke⟩:=List.getElem_of_mem hx
       by_cases hki:k<i
       ·have:=h1 k hk hki;omega
       ·by_cases hk2:k=i
        ·subst hk2;exact he hke
        ·have a:=hs i k hn hk (by omega)
         have b:=h2 i hn (by omega)
         omega
      rw[hlo,decide_eq_false this]
   ·refine fin hC Zfl (ZBv std xs x xs.length i i) (by simp;omega) ?_ rfl
    have:¬x∈xs:=fun hx=>by
     obtain⟨k,hk,hke⟩:=List.getElem_of_mem hx
     have:=h1 k hk (by omega)
     omega
    rw[hlo,decide_eq_false this]
theorem Zre(xs:List Int)(x:Int)(h:Zme xs=true):ZaK Try.prog 103 [.list (.ints .i64 xs), .int .i64 x] (.tup [.int .i64 (loS xs x), .bool (decide (x∈xs))]) none:=
 start (Ztz xs x) fun C hC=>by
  rw[Zme,Bool.and_eq_true,decide_eq_true_eq,decide_eq_true_eq]at h
  have hs:=List.pairwise_iff_getElem.1 h.1
  exact go hC Zfl (ZFr std xs x) (by simp) (ZMg hC xs x h.2 hs xs.length 0 xs.length (by omega) (by omega) (by omega) (fun k h hk=>by omega) (fun k h hk=>by omega))
def k96:Ctr:=⟨96,0,fun _ a=>match a with |[.list (.big (.agg [.int .i64, .int .i64, .ints .i64]) ps)]=>some (decide (Zcg ps=true), .int .i64 (Zbb ps),none) |_=>none⟩
theorem ZEQ:k96.OK Try.prog:=fun pa args r fr h=>by
 simp only[k96]at h
 split at h
 ·simp only[Option.some.injEq,Prod.mk.injEq,decide_eq_true_eq]at h
  obtain⟨h0,rfl,rfl⟩:=h
  exact Zr7 _ h0
 ·cases h
def k130:Ctr:=⟨130,0,fun _ a=>match a with |[.list (.big (.agg [.int .i64, .int .i64, .ints .i64]) ps)]=>some (decide (0<ps.length∧ps.length≤1000000), .row 0 0,some ⟨57,3, .big (.agg [.int .i64, .int .i64, .ints .i64]) ps⟩) |_=>none⟩
theorem Zyg:k130.OK Try.prog:=fun pa args r fr h=>by
 simp only[k130]at h
 split at h
 ·simp only[Option.some.injEq,Prod.mk.injEq,decide_eq_true_eq]at h
  obtain⟨h0,rfl,rfl⟩:=h
  exact Zmj _ h0
 ·cases h
def k103:Ctr:=⟨103,0,fun _ a=>match a with |[.list (.ints .i64 xs), .int .i64 x]=>some (decide (Zme xs=true), .tup [.int .i64 (loS xs x), .bool (decide (x∈xs))],none) |_=>none⟩
theorem ZyW:k103.OK Try.prog:=fun pa args r fr h=>by
 simp only[k103]at h
 split at h
 ·simp only[Option.some.injEq,Prod.mk.injEq,decide_eq_true_eq]at h
  obtain⟨h0,rfl,rfl⟩:=h
  exact Zre _ _ h0
 ·cases h
def BD3:List Ctr:=[k96,k130,k103]++BD2
theorem Zjk:Zap Try.prog BD3:=⟨ZEQ,⟨Zyg,⟨ZyW,Zfl⟩⟩⟩
end Go.Proofs.Ytjhdnpmojhkbjaa
/- Paths of functions, printed by the explorer (Gx). No condition. -/
namespace Go.Proofs.Ytjhdnpmojhkbjaa
set_option maxRecDepth 100000
set_option linter.unusedVariables false
def ZEO(n:Int)(c:Int)(ps:List AV):AFrame:={ fn:=98,N:=51,env:=[(0,AV.agg (Row.gen [AV.int .i64 n,AV.int .i64 c])),(1,AV.list (Row.big (Sh.agg [Sh.int .i64,Sh.int .i64,Sh.ints .i64]) ps))],todo:=[.code a98.code],defs:=[],rnd:=none,ret:=false,res:=[ARes.tmp 4] }
def ZNE(n:Int)(c:Int)(ps:List AV):List AFrame:=[(ZEO n c ps)]
theorem Zz2(n:Int)(c:Int)(ps:List AV):Zam tab 98 [AV.agg (Row.gen [AV.int .i64 n,AV.int .i64 c]),AV.list (Row.big (Sh.agg [Sh.int .i64,Sh.int .i64,Sh.ints .i64]) ps)]=some (ZEO n c ps):=rfl
def Zb9(n c:Int)(ps:List AV)(n0 n1 n2:Int):List AFrame:=[{ fn:=98,N:=51,env:=[(1,AV.list (Row.big (Sh.agg [Sh.int .i64,Sh.int .i64,Sh.ints .i64]) ps)),(2,AV.ptr 98003 0 0 0),(5,AV.int .i64 n1),(10,AV.list (Row.big (Sh.agg [Sh.int .i64,Sh.int .i64,Sh.ints .i64]) ps)),(11,AV.int .i64 n0),(12,AV.int .i64 n2)],todo:=.code (ACode.gh [] ZBM)::ZIb,defs:=[],rnd:=none,ret:=false,res:=[ARes.tmp 4] }]
def Zbz(n:Int)(c:Int)(ps:List AV)(n0:Int)(n1:Int)(n2:Int):Zaa:=[(98003,{ base:=0,blks:=[Blk.row 132 2 (Row.gen [AV.agg (Row.gen [AV.int .i64 n,AV.int .i64 c])])] })]
abbrev Zi3(n:Int)(c:Int)(ps:List AV)(n0:Int)(n1:Int)(n2:Int):List AFrame×Zaa:=(Zb9 n c ps n0 n1 n2,Zbz n c ps n0 n1 n2)
theorem ZI2(A:Ar)(n c:Int)(ps:List AV):Zad A tab BD3 19 [] (ZNE n c ps) []=
 some (tr [6] [],
  Zi3 (n) (c) (ps) (A.int (A.lenA ps)) (0) (0)):=by kernel_rfl
theorem ZHI(A:Ar)(n c:Int)(ps:List AV)(n0 n1 n2:Int):Zad A tab BD3 33 [true] (Zb9 n c ps n0 n1 n2) (Zbz n c ps n0 n1 n2)=
 some (tr [1,1,0,7,0,1] [A.inR .i64 (A.add n2 1),A.inR .i64 (A.add n1 (A.add 3 (A.int (A.len ((A.nthA ps (A.nat n2)).cellAt 2).toIs)))),A.inR .i64 (A.add 3 (A.int (A.len ((A.nthA ps (A.nat n2)).cellAt 2).toIs))),Zab (Zab (A.le 0 n2) (Nat.blt (A.nat n2) (A.lenA ps))) true,A.lt n2 n0],
  Zi3 (n) (c) (ps) (n0) (A.add n1 (A.add 3 (A.int (A.len ((A.nthA ps (A.nat n2)).cellAt 2).toIs)))) (A.add n2 1)):=by kernel_rfl
theorem ZIz(A:Ar)(n c:Int)(ps:List AV)(n0 n1 n2:Int):ZaE A tab BD3 30 [false,true] 98 (Zb9 n c ps n0 n1 n2) (Zbz n c ps n0 n1 n2)=
 some (tr [3,3,4,1] [A.eq (A.rem n1 n) 0,A.not (A.eq n 0),!A.lt n2 n0],
  AV.list (Row.big (.agg [.int .i64, .int .i64, .ints .i64]) ps),none):=by kernel_rfl
theorem ZJC(A:Ar)(n c:Int)(ps:List AV)(n0 n1 n2:Int):ZaE A tab BD3 53 [false,false,true] 98 (Zb9 n c ps n0 n1 n2) (Zbz n c ps n0 n1 n2)=
 some (tr [2,0,1,0,1,2,4,3,4,3,4,1] [Nat.ble (A.lenA ps+A.lenA [AV.agg (Row.gen [.int .i64 255, .int .i64 0, .list (.ints .i64 (A.rep (A.nat (A.sub (A.add (A.sub n (A.rem n1 n)) n) 3)) 0))])]) 4294967296,List.all [AV.agg (Row.gen [.int .i64 255, .int .i64 0, .list (.ints .i64 (A.rep (A.nat (A.sub (A.add (A.sub n (A.rem n1 n)) n) 3)) 0))])] fun x=>AV.bx x&&Nat.beq (Zac A x) 3,Zab (A.le 0 (A.sub (A.add (A.sub n (A.rem n1 n)) n) 3)) (A.le (A.sub (A.add (A.sub n (A.rem n1 n)) n) 3) 4294967296),A.inR .i64 (A.sub (A.add (A.sub n (A.rem n1 n)) n) 3),decide (0<List.length ps∧List.length ps≤1000000),A.inR .i64 (A.add (A.sub n (A.rem n1 n)) n),A.lt (A.sub n (A.rem n1 n)) 3,A.inR .i64 (A.sub n (A.rem n1 n)),!A.eq (A.rem n1 n) 0,A.not (A.eq n 0),!A.lt n2 n0],
  AV.row 0 0,some { e:=57,sz:=3,r:=Row.big (.agg [.int .i64, .int .i64, .ints .i64]) (A.appA ps [AV.agg (Row.gen [.int .i64 255, .int .i64 0, .list (.ints .i64 (A.rep (A.nat (A.sub (A.add (A.sub n (A.rem n1 n)) n) 3)) 0))])]) }):=by kernel_rfl
theorem ZJd(A:Ar)(n c:Int)(ps:List AV)(n0 n1 n2:Int):ZaE A tab BD3 46 [false,false,false] 98 (Zb9 n c ps n0 n1 n2) (Zbz n c ps n0 n1 n2)=
 some (tr [2,0,1,0,1,1,3,4,3,4,1] [Nat.ble (A.lenA ps+A.lenA [AV.agg (Row.gen [.int .i64 255, .int .i64 0, .list (.ints .i64 (A.rep (A.nat (A.sub (A.sub n (A.rem n1 n)) 3)) 0))])]) 4294967296,List.all [AV.agg (Row.gen [.int .i64 255, .int .i64 0, .list (.ints .i64 (A.rep (A.nat (A.sub (A.sub n (A.rem n1 n)) 3)) 0))])] fun x=>AV.bx x&&Nat.beq (Zac A x) 3,Zab (A.le 0 (A.sub (A.sub n (A.rem n1 n)) 3)) (A.le (A.sub (A.sub n (A.rem n1 n)) 3) 4294967296),A.inR .i64 (A.sub (A.sub n (A.rem n1 n)) 3),decide (0<List.length ps∧List.length ps≤1000000),!A.lt (A.sub n (A.rem n1 n)) 3,A.inR .i64 (A.sub n (A.rem n1 n)),!A.eq (A.rem n1 n) 0,A.not (A.eq n 0),!A.lt n2 n0],
  AV.row 0 0,some { e:=57,sz:=3,r:=Row.big (.agg [.int .i64, .int .i64, .ints .i64]) (A.appA ps [AV.agg (Row.gen [.int .i64 255, .int .i64 0, .list (.ints .i64 (A.rep (A.nat (A.sub (A.sub n (A.rem n1 n)) 3)) 0))])]) }):=by kernel_rfl
end Go.Proofs.Ytjhdnpmojhkbjaa
/- Contracts as a list. No condition. -/
namespace Go.Proofs.Ytjhdnpmojhkbjaa
def ZaM:List AV→Nat
 |[]=>0
 |p::ps=>(3+(kD p).length)+ZaM ps
def Zip(k:Int):AV:=.agg (.gen [.int .i64 255, .int .i64 0, .list (.ints .i64 (List.replicate k.toNat 0))])
def Za9(n:Int)(ps:List AV):List AV:=
 if(ZaM ps:Int).tmod n=0 then ps
 else if n-(ZaM ps:Int).tmod n<3 then ps++[Zip (n-(ZaM ps:Int).tmod n+n-3)]
 else ps++[Zip (n-(ZaM ps:Int).tmod n-3)]
theorem Zg5:∀ {ps:List AV},(∀p∈ps,(kD p).length≤42)→ZaM ps≤45*ps.length
 |[],_=>by simp[ZaM]
 |p::ps,h=>by
  have:=Zg5 (ps:=ps) (fun q hq=>h q (by simp[hq]))
  have:=h p (by simp)
  simp only[ZaM,List.length_cons]
  omega
theorem l98{C:Ctx}(hC:C.P=Try.prog)(n c:Int)(ps:List AV)(hlen:ps.length≤22)(hk:∀p∈ps,(kD p).length≤42)(Q:AV)(fr:Option Fresh)(hend:Ev C (Zb9 n c ps ps.length (ZaM ps) ps.length) (Zbz n c ps ps.length (ZaM ps) ps.length) (ZeX 98 Q fr)):∀(d i s:Nat),i+d=ps.length→s+ZaM (ps.drop i)=ZaM ps→
 Ev C (Zb9 n c ps ps.length s i) (Zbz n c ps ps.length s i) (ZeX 98 Q fr):=by
 have hsz:=Zg5 hk
 intro d
 induction d with
 |zero=>
  intro i s hd hs
  rw[List.drop_of_length_le (by omega),ZaM]at hs
  have h1:i=ps.length:=by omega
  have h2:s=ZaM ps:=by omega
  rw[h1,h2];exact hend
 |succ d ih=>
  intro i s hd hs
  have hlt:i<ps.length:=by omega
  have e1:std.nthA ps (std.nat (i:Int))=ps[i]:=by simp[hlt]
  have g2:(ps[i].cellAt 2).toIs=kD ps[i]:=rfl
  have hk':=hk ps[i] (by simp)
  rw[List.drop_eq_getElem_cons hlt,ZaM]at hs
  have ih':=ih (i+1) (s+(3+(kD ps[i]).length)) (by omega) (by omega)
  refine go hC Zjk (ZHI std n c ps ps.length s i) ?_ ?_
  ·simp only[e1,g2];simp[hlt];omega
  ·simp only[e1,g2];simpa using ih'
theorem Zr8(n c:Int)(ps:List AV)(h:(3<n∧n≤1000)∧Zcg ps=true):ZaK Try.prog 98 [.agg (.gen [.int .i64 n, .int .i64 c]), .list (.big (.agg [.int .i64, .int .i64, .ints .i64]) ps)] (.list (.big (.agg [.int .i64, .int .i64, .ints .i64]) (Za9 n ps))) none:=by
 obtain⟨⟨hn0,hn⟩,hf⟩:=h
 obtain⟨hlen,hk⟩:=ZeV hf
 have hsz:=Zg5 hk
 have hr0:=Int.tmod_nonneg n (show 0≤(ZaM ps:Int) by omega)
 have hr1:=Int.tmod_lt_of_pos (ZaM ps:Int) (show 0<n by omega)
 have main:∀(Q:AV) (fr:Option Fresh),(∀C:Ctx,C.P=Try.prog→Ev C (Zb9 n c ps ps.length (ZaM ps) ps.length) (Zbz n c ps ps.length (ZaM ps) ps.length) (ZeX 98 Q fr))→ZaK Try.prog 98 [.agg (.gen [.int .i64 n, .int .i64 c]), .list (.big (.agg [.int .i64, .int .i64, .ints .i64]) ps)] Q fr:=fun Q fr hQ=>
  start (Zz2 n c ps) fun C hC=>go hC Zjk (ZI2 std n c ps) (by simp) (l98 hC n c ps hlen hk Q fr (hQ C hC) ps.length 0 0 (by omega) (by simp))
 have hn1:n≠0:=by omega
 unfold Za9
 generalize hR:(ZaM ps:Int).tmod n=R at*
 by_cases h0:R=0
 ·rw[if_pos h0]
  exact main _ _ fun C hC=>fin hC Zjk (ZIz std n c ps _ _ _) (by simp[hR,h0,hn1];try omega) rfl rfl
 ·rw[if_neg h0]
  have hpos:0<ps.length:=by
   cases ps with
   |nil=>exact absurd (by rw[←hR];simp[ZaM]) h0
   |cons=>simp
  by_cases h3:n-R<3
  ·rw[if_pos h3]
   exact ZjZ (e:=57) (sz:=2) (main _ _ fun C hC=>fin hC Zjk (ZJC std n c ps _ _ _) (by simp[hR,h0,hn1,AV.bx,Zac,Row.len];omega) rfl (by simp[hR,Zip])) rfl
  ·rw[if_neg h3]
   exact ZjZ (e:=57) (sz:=2) (main _ _ fun C hC=>fin hC Zjk (ZJd std n c ps _ _ _) (by simp[hR,h0,hn1,AV.bx,Zac,Row.len];omega) rfl (by simp[hR,Zip])) rfl
def k98:Ctr:=⟨98,0,fun _ a=>match a with |[.agg (.gen [.int .i64 n, .int .i64 c]), .list (.big (.agg [.int .i64, .int .i64, .ints .i64]) ps)]=>some (decide ((3<n∧n≤1000)∧Zcg ps=true), .list (.big (.agg [.int .i64, .int .i64, .ints .i64]) (Za9 n ps)),none) |_=>none⟩
theorem ZEw:k98.OK Try.prog:=fun pa args r fr h=>by
 simp only[k98]at h
 split at h
 ·simp only[Option.some.injEq,Prod.mk.injEq,decide_eq_true_eq]at h
  obtain⟨h0,rfl,rfl⟩:=h
  exact Zr8 _ _ _ h0
 ·cases h
def BD4:List Ctr:=[k98]++BD3
theorem ZCH:Zap Try.prog BD4:=⟨ZEw,Zjk⟩
end Go.Proofs.Ytjhdnpmojhkbjaa
/- Contracts as a list. No condition. -/
namespace Go.Proofs.Ytjhdnpmojhkbjaa
theorem Zmt(p:AV):(pkB p).length=(kD p).length+3:=by simp[pkB]
theorem ZnM(n:Int)(ps:List AV):ps.length≤(Za9 n ps).length∧(Za9 n ps).length≤ps.length+1:=by
 unfold Za9
 split
 ·omega
 ·split<;>simp
theorem Zr0{n:Int}{ps:List AV}(hn:3<n∧n≤500)(hk:∀p∈ps,(kD p).length≤42):∀p∈Za9 n ps,(kD p).length≤1000:=by
 have h2:=Int.tmod_lt_of_pos (ZaM ps:Int) (show 0<n by omega)
 have h1:=Int.tmod_nonneg n (show 0≤(ZaM ps:Int) by omega)
 have hi:∀k:Int,k≤1000→(kD (Zip k)).length≤1000:=fun k hk=>by
  have:kD (Zip k)=List.replicate k.toNat 0:=rfl
  rw[this,List.length_replicate];omega
 unfold Za9
 intro p
 split
 ·intro hp;have:=hk p hp;omega
 ·split
  ·intro hp
   rcases List.mem_append.1 hp with hp |hp
   ·have:=hk p hp;omega
   ·rw[List.mem_singleton]at hp;subst hp;exact hi _ (by omega)
  ·intro hp
   rcases List.mem_append.1 hp with hp |hp
   ·have:=hk p hp;omega
   ·rw[List.mem_singleton]at hp;subst hp;exact hi _ (by omega)
theorem Zul{n:Int}{ps:List AV}(hn:3<n∧n≤500)(hf:Zcg ps=true):Zvz (Za9 n ps)=true:=by
 obtain⟨hlen,hk⟩:=ZeV hf
 have h1:=(ZnM n ps).2
 have h2:=Zr0 hn hk
 rw[Zvz,Bool.and_eq_true,decide_eq_true_eq]
 refine⟨by omega,?_⟩
 generalize Za9 n ps=qs at*
 clear h1
 induction qs with
 |nil=>rfl
 |cons q qs ih=>rw[ZDk,Bool.and_eq_true,decide_eq_true_eq];exact⟨h2 q (by simp),ih fun p hp=>h2 p (by simp[hp])⟩
def BD5:List Ctr:=BD4
theorem Zdr:Zap Try.prog BD5:=ZCH
end Go.Proofs.Ytjhdnpmojhkbjaa
/- Paths of functions, printed by the explorer (Gx). No condition. -/
namespace Go.Proofs.Ytjhdnpmojhkbjaa
set_option maxRecDepth 100000
set_option linter.unusedVariables false
def ZFH(a:Int)(b:Int)(ps:List AV):AFrame:={ fn:=33,N:=36,env:=[(0,AV.agg (Row.gen [AV.int .i64 a,AV.int .i64 b])),(1,AV.list (Row.big (Sh.agg [Sh.int .i64,Sh.int .i64,Sh.ints .i64]) ps))],todo:=[.code a33.code],defs:=[],rnd:=none,ret:=false,res:=[ARes.tmp 4,ARes.tmp 5] }
def ZLw(a:Int)(b:Int)(ps:List AV):List AFrame:=[(ZFH a b ps)]
theorem ZwO(a:Int)(b:Int)(ps:List AV):Zam tab 33 [AV.agg (Row.gen [AV.int .i64 a,AV.int .i64 b]),AV.list (Row.big (Sh.agg [Sh.int .i64,Sh.int .i64,Sh.ints .i64]) ps)]=some (ZFH a b ps):=rfl
theorem ZLa(A:Ar)(a b:Int)(ps:List AV):ZaE A tab BD5 50 [true] 33 (ZLw a b ps) []=
 some (tr [4,3,0,0,22] [A.not (A.eq (Zaq [Zao a b,Zbb ps]) 0),decide (List.length [Zao a b,Zbb ps]≤1000000),List.all [AV.int .i64 (Zao a b),AV.int .i64 (Zbb ps)] fun x=>AV.bx x&&Nat.beq (Zac A x) 1,decide (Zcg ps=true)],
  AV.tup [AV.int .i64 0,AV.int .i64 (Zaq [Zao a b,Zbb ps])],none):=by kernel_rfl
theorem ZKA(A:Ar)(a b:Int)(ps:List AV):ZaE A tab BD5 70 [false] 33 (ZLw a b ps) []=
 some (tr [3,10,0,2,3,0,0,22] [Zab (A.not (A.eq a 0)) (A.inR .i64 (A.quo (A.int (A.len (Zae (Za9 a ps)))) a)),decide (Zvz (Za9 a ps)=true),decide ((3<a∧a≤1000)∧Zcg ps=true),!A.not (A.eq (Zaq [Zao a b,Zbb ps]) 0),decide (List.length [Zao a b,Zbb ps]≤1000000),List.all [AV.int .i64 (Zao a b),AV.int .i64 (Zbb ps)] fun x=>AV.bx x&&Nat.beq (Zac A x) 1,decide (Zcg ps=true)],
  AV.tup [AV.int .i64 (A.quo (A.int (A.len (Zae (Za9 a ps)))) a),AV.int .i64 0],none):=by kernel_rfl
def ZDL(a:Int)(b:Int)(c:Int)(d:Int)(ps:List AV):AFrame:={ fn:=35,N:=108,env:=[(0,AV.agg (Row.gen [AV.int .i64 a,AV.int .i64 b])),(1,AV.agg (Row.gen [AV.int .i64 c,AV.int .i64 d])),(2,AV.list (Row.big (Sh.agg [Sh.int .i64,Sh.int .i64,Sh.ints .i64]) ps))],todo:=[.code a35.code],defs:=[],rnd:=none,ret:=false,res:=[ARes.tmp 6,ARes.tmp 7] }
def ZHl(a:Int)(b:Int)(c:Int)(d:Int)(ps:List AV):List AFrame:=[(ZDL a b c d ps)]
theorem Zkb(a:Int)(b:Int)(c:Int)(d:Int)(ps:List AV):Zam tab 35 [AV.agg (Row.gen [AV.int .i64 a,AV.int .i64 b]),AV.agg (Row.gen [AV.int .i64 c,AV.int .i64 d]),AV.list (Row.big (Sh.agg [Sh.int .i64,Sh.int .i64,Sh.ints .i64]) ps)]=some (ZDL a b c d ps):=rfl
def ZbF(a b c d:Int)(l0:List Int)(b1:Bool)(l2 l3 l4:List Int)(b5:Bool)(l6 l7:List Int):List AFrame:=[{ fn:=132,N:=31,env:=[(0,AV.yld 35901 1),(1,AV.ptr 101003 0 0 0),(2,AV.ptr 101004 0 0 0),(4,AV.int .i64 0)],todo:=.code (ACode.gh [] Zqv)::Zvg,defs:=[],rnd:=none,ret:=false,res:=[] },{ fn:=35,N:=108,env:=[(4,AV.ptr 35005 0 0 0),(6,AV.nils),(7,AV.int .i64 0),(8,AV.ptr 35009 0 0 0),(10,AV.list (.ints .i64 l0)),(11,AV.ptr 35012 0 0 0),(12,AV.ptr 35013 0 0 0),(50,AV.bool b1),(51,AV.list (.ints .i64 l2)),(52,AV.ptr 35009 0 0 0),(53,AV.ptr 35009 0 0 0),(54,AV.int .i64 a),(55,AV.fn 132 [AV.ptr 101003 0 0 0,AV.ptr 101004 0 0 0])],todo:=[AItem.inRF 35901 1,AItem.inBlock 0, .code (ACode.seq (ACode.reg none [oN 107 (OpK.load false 1 (Opd.t 12)),mV 6 107,oN 7 (OpK.mov (cI 0))]) ACode.ret)],defs:=[(35901,0)],rnd:=none,ret:=false,res:=[ARes.tmp 6,ARes.tmp 7] }]
def Zbi(a:Int)(b:Int)(c:Int)(d:Int)(l0:List Int)(b1:Bool)(l2:List Int)(l3:List Int)(l4:List Int)(b5:Bool)(l6:List Int)(l7:List Int):Zaa:=[(35005,{ base:=0,blks:=[Blk.row 52 2 (Row.gen [AV.agg (Row.gen [AV.int .i64 c,AV.int .i64 d])])] }),(35009,{ base:=0,blks:=[Blk.row 132 2 (Row.gen [AV.agg (Row.gen [AV.int .i64 a,AV.int .i64 b])])] }),(35012,{ base:=0,blks:=[Blk.row 55 1 (Row.gen [AV.list (.ints .i64 l3)])] }),(35013,{ base:=0,blks:=[Blk.row 24 1 (Row.gen [AV.nils])] }),(35901,{ base:=0,blks:=[Blk.dfr,Blk.lp { st:=RSt.ready,fn:=35,N:=108,env:=[(4,AV.ptr 35005 0 0 0),(6,AV.nils),(7,AV.int .i64 0),(8,AV.ptr 35009 0 0 0),(10,AV.list (.ints .i64 l4)),(11,AV.ptr 35012 0 0 0),(12,AV.ptr 35013 0 0 0),(50,AV.bool b5),(51,AV.list (.ints .i64 l6)),(52,AV.ptr 35009 0 0 0),(53,AV.ptr 35009 0 0 0),(54,AV.int .i64 a),(55,AV.fn 132 [AV.ptr 101003 0 0 0,AV.ptr 101004 0 0 0])],params:=[56],asg:=ACode.reg none [mV 13 56],body:=ACode.block 1 (ACode.seq (ACode.reg none [oN 57 (OpK.load false 1 (Opd.t 12)),oN 58 (OpK.len (Opd.t 57)),oN 59 (OpK.faddr 0 (Opd.t 8)),oN 60 (OpK.faddr 0 (Opd.t 59)),oN 61 (OpK.load false 1 (Opd.t 60)),oN 62 (OpK.bin Go.BinOp.mul (Opd.t 58) (Opd.t 61)),mV 14 62]) (ACode.gh [Ghost.keep [4,6,7,8,11,12,13,14]] (ACode.seq (ACode.reg (some [(0,9),(0,11),(1,9),(1,11),(2,9),(2,11),(3,9),(3,11),(4,9),(4,11),(5,9),(5,11),(6,9),(6,11),(7,9),(7,11),(8,11),(9,11),(10,11)]) [oN 63 (OpK.faddr 0 (Opd.t 4)),oN 64 (OpK.load false 1 (Opd.t 63)),oN 65 (OpK.faddr 1 (Opd.t 4)),oN 66 (OpK.load false 1 (Opd.t 65)),oN 67 (OpK.load false 1 (Opd.t 12)),oN 68 (OpK.len (Opd.t 67)),oN 69 (OpK.bin Go.BinOp.add (Opd.t 66) (Opd.t 68)),oN 70 (OpK.bin Go.BinOp.rem (Opd.t 69) (cI 64)),mV 71 13,oN 72 (OpK.ncall true 35073 102 [Opd.t 71]),oN 73 (OpK.build (Row.gen [AV.int .i64 0,AV.int .i64 0,AV.int .i64 0,AV.nils]) [(0,1,Opd.t 64),(1,1,Opd.t 70),(2,1,cI 255),(3,1,Opd.t 72)]),oN 15 (OpK.alloc 35016 74 (AV.agg (Row.gen [AV.int .i64 0,AV.int .i64 0,AV.int .i64 0,AV.nils]))),{ d:=none,g:=none,k:=OpK.store 4 (Opd.t 15) (Opd.t 73) }]) (ACode.gh [Ghost.keep [4,6,7,8,11,12,14,15]] (ACode.seq (ACode.seq (ACode.reg none [oN 75 (OpK.load false 1 (Opd.t 11)),mV 76 14,oN 77 (OpK.ncall true 0 103 [Opd.t 75,Opd.t 76]),mV 74 77,oN 78 (OpK.ext 0 (Opd.t 74)),oN 79 (OpK.ext 1 (Opd.t 74)),mV 16 78,mV 17 79]) (ACode.gh [Ghost.keep [4,6,7,8,11,12,14,15,16]] (ACode.seq (ACode.reg (some []) [mV 80 16,oN 81 (OpK.load false 1 (Opd.t 11)),oN 82 (OpK.len (Opd.t 81)),oN 83 (OpK.bin Go.BinOp.lss (Opd.t 80) (Opd.t 82)),mV 84 83,{ d:=some 85,g:=some (84,true),k:=OpK.load false 1 (Opd.t 11) },{ d:=some 86,g:=some (84,true),k:=OpK.mov (Opd.t 16) },{ d:=some 87,g:=some (84,true),k:=OpK.iaddr 1 (Opd.t 85) (Opd.t 86) },{ d:=some 88,g:=some (84,true),k:=OpK.load false 1 (Opd.t 87) },{ d:=some 89,g:=some (84,true),k:=OpK.mov (Opd.t 14) },{ d:=some 90,g:=some (84,true),k:=OpK.faddr 0 (Opd.t 8) },{ d:=some 91,g:=some (84,true),k:=OpK.faddr 0 (Opd.t 90) },{ d:=some 92,g:=some (84,true),k:=OpK.load false 1 (Opd.t 91) },{ d:=some 93,g:=some (84,true),k:=OpK.bin Go.BinOp.add (Opd.t 89) (Opd.t 92) },{ d:=some 94,g:=some (84,true),k:=OpK.bin Go.BinOp.lss (Opd.t 88) (Opd.t 93) },oN 95 (OpK.pick (Opd.t 84) (Opd.t 94) (Opd.c (AV.bool false)))]) (ACode.gh [Ghost.keep [4,6,7,8,11,12,14,15,16,95]] (ACode.cond (Opd.t 95) (ACode.reg none [oN 96 (OpK.load false 1 (Opd.t 11)),mV 97 16,oN 98 (OpK.iaddr 1 (Opd.t 96) (Opd.t 97)),oN 99 (OpK.load false 1 (Opd.t 98)),mV 100 14,oN 101 (OpK.bin Go.BinOp.sub (Opd.t 99) (Opd.t 100)),oN 102 (OpK.faddr 2 (Opd.t 15)),{ d:=none,g:=none,k:=OpK.store 1 (Opd.t 102) (Opd.t 101) }]) ACode.skip))))) (ACode.reg none [oN 103 (OpK.load false 1 (Opd.t 12)),oN 104 (OpK.load true 4 (Opd.t 15)),oN 105 (OpK.bslice 35106 74 4 [Opd.t 104]),oN 106 (OpK.append 35107 74 4 (Opd.t 103) (Opd.t 105)),{ d:=none,g:=none,k:=OpK.store 1 (Opd.t 12) (Opd.t 106) }])))))) }] }),(101003,{ base:=0,blks:=[Blk.row 55 1 (Row.gen [AV.list (.ints .i64 l7)])] }),(101004,{ base:=0,blks:=[Blk.row 3 1 (Row.gen [AV.int .i64 a])] })]
abbrev ZmN(a:Int)(b:Int)(c:Int)(d:Int)(l0:List Int)(b1:Bool)(l2:List Int)(l3:List Int)(l4:List Int)(b5:Bool)(l6:List Int)(l7:List Int):List AFrame×Zaa:=(ZbF a b c d l0 b1 l2 l3 l4 b5 l6 l7,Zbi a b c d l0 b1 l2 l3 l4 b5 l6 l7)
def Zbk(a b c d:Int)(l0:List Int)(b1:Bool)(l2 l3 l4:List Int)(b5:Bool)(l6 l7:List Int)(n8:Int)(x9:List AV):List AFrame:=[{ fn:=132,N:=31,env:=[(0,AV.yld 35901 1),(1,AV.ptr 101003 0 0 0),(2,AV.ptr 101004 0 0 0),(4,AV.int .i64 n8)],todo:=.code (ACode.gh [] Zqv)::Zvg,defs:=[],rnd:=none,ret:=false,res:=[] },{ fn:=35,N:=108,env:=[(4,AV.ptr 35005 0 0 0),(6,AV.nils),(7,AV.int .i64 0),(8,AV.ptr 35009 0 0 0),(10,AV.list (.ints .i64 l0)),(11,AV.ptr 35012 0 0 0),(12,AV.ptr 35013 0 0 0),(50,AV.bool b1),(51,AV.list (.ints .i64 l2)),(52,AV.ptr 35009 0 0 0),(53,AV.ptr 35009 0 0 0),(54,AV.int .i64 a),(55,AV.fn 132 [AV.ptr 101003 0 0 0,AV.ptr 101004 0 0 0])],todo:=[AItem.inRF 35901 1,AItem.inBlock 0, .code (ACode.seq (ACode.reg none [oN 107 (OpK.load false 1 (Opd.t 12)),mV 6 107,oN 7 (OpK.mov (cI 0))]) ACode.ret)],defs:=[(35901,0)],rnd:=none,ret:=false,res:=[ARes.tmp 6,ARes.tmp 7] }]
def Za0(a:Int)(b:Int)(c:Int)(d:Int)(l0:List Int)(b1:Bool)(l2:List Int)(l3:List Int)(l4:List Int)(b5:Bool)(l6:List Int)(l7:List Int)(n8:Int)(x9:List AV):Zaa:=[(35005,{ base:=0,blks:=[Blk.row 52 2 (Row.gen [AV.agg (Row.gen [AV.int .i64 c,AV.int .i64 d])])] }),(35009,{ base:=0,blks:=[Blk.row 132 2 (Row.gen [AV.agg (Row.gen [AV.int .i64 a,AV.int .i64 b])])] }),(35012,{ base:=0,blks:=[Blk.row 55 1 (Row.gen [AV.list (.ints .i64 l3)])] }),(35013,{ base:=0,blks:=[Blk.row 24 1 (Row.gen [AV.row 35107 0])] }),(35107,{ base:=0,blks:=[Blk.row 74 4 (Row.big (Sh.agg [Sh.int .i64,Sh.int .i64,Sh.int .i64,Sh.ints .i64]) x9)] }),(35901,{ base:=0,blks:=[Blk.dfr,Blk.lp { st:=RSt.ready,fn:=35,N:=108,env:=[(4,AV.ptr 35005 0 0 0),(6,AV.nils),(7,AV.int .i64 0),(8,AV.ptr 35009 0 0 0),(10,AV.list (.ints .i64 l4)),(11,AV.ptr 35012 0 0 0),(12,AV.ptr 35013 0 0 0),(50,AV.bool b5),(51,AV.list (.ints .i64 l6)),(52,AV.ptr 35009 0 0 0),(53,AV.ptr 35009 0 0 0),(54,AV.int .i64 a),(55,AV.fn 132 [AV.ptr 101003 0 0 0,AV.ptr 101004 0 0 0])],params:=[56],asg:=ACode.reg none [mV 13 56],body:=ACode.block 1 (ACode.seq (ACode.reg none [oN 57 (OpK.load false 1 (Opd.t 12)),oN 58 (OpK.len (Opd.t 57)),oN 59 (OpK.faddr 0 (Opd.t 8)),oN 60 (OpK.faddr 0 (Opd.t 59)),oN 61 (OpK.load false 1 (Opd.t 60)),oN 62 (OpK.bin Go.BinOp.mul (Opd.t 58) (Opd.t 61)),mV 14 62]) (ACode.gh [Ghost.keep [4,6,7,8,11,12,13,14]] (ACode.seq (ACode.reg (some [(0,9),(0,11),(1,9),(1,11),(2,9),(2,11),(3,9),(3,11),(4,9),(4,11),(5,9),(5,11),(6,9),(6,11),(7,9),(7,11),(8,11),(9,11),(10,11)]) [oN 63 (OpK.faddr 0 (Opd.t 4)),oN 64 (OpK.load false 1 (Opd.t 63)),oN 65 (OpK.faddr 1 (Opd.t 4)),oN 66 (OpK.load false 1 (Opd.t 65)),oN 67 (OpK.load false 1 (Opd.t 12)),oN 68 (OpK.len (Opd.t 67)),oN 69 (OpK.bin Go.BinOp.add (Opd.t 66) (Opd.t 68)),oN 70 (OpK.bin Go.BinOp.rem (Opd.t 69) (cI 64)),mV 71 13,oN 72 (OpK.ncall true 35073 102 [Opd.t 71]),oN 73 (OpK.build (Row.gen [AV.int .i64 0,AV.int .i64 0,AV.int .i64 0,AV.nils]) [(0,1,Opd.t 64),(1,1,Opd.t 70),(2,1,cI 255),(3,1,Opd.t 72)]),oN 15 (OpK.alloc 35016 74 (AV.agg (Row.gen [AV.int .i64 0,AV.int .i64 0,AV.int .i64 0,AV.nils]))),{ d:=none,g:=none,k:=OpK.store 4 (Opd.t 15) (Opd.t 73) }]) (ACode.gh [Ghost.keep [4,6,7,8,11,12,14,15]] (ACode.seq (ACode.seq (ACode.reg none [oN 75 (OpK.load false 1 (Opd.t 11)),mV 76 14,oN 77 (OpK.ncall true 0 103 [Opd.t 75,Opd.t 76]),mV 74 77,oN 78 (OpK.ext 0 (Opd.t 74)),oN 79 (OpK.ext 1 (Opd.t 74)),mV 16 78,mV 17 79]) (ACode.gh [Ghost.keep [4,6,7,8,11,12,14,15,16]] (ACode.seq (ACode.reg (some []) [mV 80 16,oN 81 (OpK.load false 1 (Opd.t 11)),oN 82 (OpK.len (Opd.t 81)),oN 83 (OpK.bin Go.BinOp.lss (Opd.t 80) (Opd.t 82)),mV 84 83,{ d:=some 85,g:=some (84,true),k:=OpK.load false 1 (Opd.t 11) },{ d:=some 86,g:=some (84,true),k:=OpK.mov (Opd.t 16) },{ d:=some 87,g:=some (84,true),k:=OpK.iaddr 1 (Opd.t 85) (Opd.t 86) },{ d:=some 88,g:=some (84,true),k:=OpK.load false 1 (Opd.t 87) },{ d:=some 89,g:=some (84,true),k:=OpK.mov (Opd.t 14) },{ d:=some 90,g:=some (84,true),k:=OpK.faddr 0 (Opd.t 8) },{ d:=some 91,g:=some (84,true),k:=OpK.faddr 0 (Opd.t 90) },{ d:=some 92,g:=some (84,true),k:=OpK.load false 1 (Opd.t 91) },{ d:=some 93,g:=some (84,true),k:=OpK.bin Go.BinOp.add (Opd.t 89) (Opd.t 92) },{ d:=some 94,g:=some (84,true),k:=OpK.bin Go.BinOp.lss (Opd.t 88) (Opd.t 93) },oN 95 (OpK.pick (Opd.t 84) (Opd.t 94) (Opd.c (AV.bool false)))]) (ACode.gh [Ghost.keep [4,6,7,8,11,12,14,15,16,95]] (ACode.cond (Opd.t 95) (ACode.reg none [oN 96 (OpK.load false 1 (Opd.t 11)),mV 97 16,oN 98 (OpK.iaddr 1 (Opd.t 96) (Opd.t 97)),oN 99 (OpK.load false 1 (Opd.t 98)),mV 100 14,oN 101 (OpK.bin Go.BinOp.sub (Opd.t 99) (Opd.t 100)),oN 102 (OpK.faddr 2 (Opd.t 15)),{ d:=none,g:=none,k:=OpK.store 1 (Opd.t 102) (Opd.t 101) }]) ACode.skip))))) (ACode.reg none [oN 103 (OpK.load false 1 (Opd.t 12)),oN 104 (OpK.load true 4 (Opd.t 15)),oN 105 (OpK.bslice 35106 74 4 [Opd.t 104]),oN 106 (OpK.append 35107 74 4 (Opd.t 103) (Opd.t 105)),{ d:=none,g:=none,k:=OpK.store 1 (Opd.t 12) (Opd.t 106) }])))))) }] }),(101003,{ base:=0,blks:=[Blk.row 55 1 (Row.gen [AV.list (.ints .i64 l7)])] }),(101004,{ base:=0,blks:=[Blk.row 3 1 (Row.gen [AV.int .i64 a])] })]
abbrev ZbO(a:Int)(b:Int)(c:Int)(d:Int)(l0:List Int)(b1:Bool)(l2:List Int)(l3:List Int)(l4:List Int)(b5:Bool)(l6:List Int)(l7:List Int)(n8:Int)(x9:List AV):List AFrame×Zaa:=(Zbk a b c d l0 b1 l2 l3 l4 b5 l6 l7 n8 x9,Za0 a b c d l0 b1 l2 l3 l4 b5 l6 l7 n8 x9)
theorem ZKE(A:Ar)(a b c d:Int)(ps:List AV):ZaE A tab BD5 81 [true] 35 (ZHl a b c d ps) []=
 some (tr [4,3,0,0,15,0,32] [A.not (A.eq (Zaq [Zaq [Zao a b,ZaP b c],Zak (decide (0≤d∧d≤63)) 2,Zbb ps]) 0),decide (List.length [Zaq [Zao a b,ZaP b c],Zak (decide (0≤d∧d≤63)) 2,Zbb ps]≤1000000),List.all [AV.int .i64 (Zaq [Zao a b,ZaP b c]),AV.int .i64 (Zak (decide (0≤d∧d≤63)) 2),AV.int .i64 (Zbb ps)] fun x=>AV.bx x&&Nat.beq (Zac A x) 1,decide (Zcg ps=true),decide (List.length [Zao a b,ZaP b c]≤1000000),List.all [AV.int .i64 (Zao a b),AV.int .i64 (ZaP b c)] fun x=>AV.bx x&&Nat.beq (Zac A x) 1],
  AV.tup [AV.nils,AV.int .i64 (Zaq [Zaq [Zao a b,ZaP b c],Zak (decide (0≤d∧d≤63)) 2,Zbb ps])],none):=by kernel_rfl
theorem ZIH(A:Ar)(a b c d:Int)(ps:List AV):ZaE A tab BD5 108 [false,true] 35 (ZHl a b c d ps) []=
 some (tr [3,1,11,0,2,3,0,0,15,0,32] [A.lt 40 (A.quo (A.int (A.len (Zae (Za9 a ps)))) a),Zab (A.not (A.eq a 0)) (A.inR .i64 (A.quo (A.int (A.len (Zae (Za9 a ps)))) a)),decide (Zvz (Za9 a ps)=true),decide ((3<a∧a≤1000)∧Zcg ps=true),!A.not (A.eq (Zaq [Zaq [Zao a b,ZaP b c],Zak (decide (0≤d∧d≤63)) 2,Zbb ps]) 0),decide (List.length [Zaq [Zao a b,ZaP b c],Zak (decide (0≤d∧d≤63)) 2,Zbb ps]≤1000000),List.all [AV.int .i64 (Zaq [Zao a b,ZaP b c]),AV.int .i64 (Zak (decide (0≤d∧d≤63)) 2),AV.int .i64 (Zbb ps)] fun x=>AV.bx x&&Nat.beq (Zac A x) 1,decide (Zcg ps=true),decide (List.length [Zao a b,ZaP b c]≤1000000),List.all [AV.int .i64 (Zao a b),AV.int .i64 (ZaP b c)] fun x=>AV.bx x&&Nat.beq (Zac A x) 1],
  AV.tup [AV.nils,AV.int .i64 8],none):=by kernel_rfl
theorem ZKn(A:Ar)(a b c d:Int)(ps:List AV):Zad A tab BD5 146 [false,false,false] (ZHl a b c d ps) []=
 some (tr [4,10,1,11,0,2,3,0,0,15,0,32] [!A.lt a 1,!A.lt 40 (A.quo (A.int (A.len (Zae (Za9 a ps)))) a),Zab (A.not (A.eq a 0)) (A.inR .i64 (A.quo (A.int (A.len (Zae (Za9 a ps)))) a)),decide (Zvz (Za9 a ps)=true),decide ((3<a∧a≤1000)∧Zcg ps=true),!A.not (A.eq (Zaq [Zaq [Zao a b,ZaP b c],Zak (decide (0≤d∧d≤63)) 2,Zbb ps]) 0),decide (List.length [Zaq [Zao a b,ZaP b c],Zak (decide (0≤d∧d≤63)) 2,Zbb ps]≤1000000),List.all [AV.int .i64 (Zaq [Zao a b,ZaP b c]),AV.int .i64 (Zak (decide (0≤d∧d≤63)) 2),AV.int .i64 (Zbb ps)] fun x=>AV.bx x&&Nat.beq (Zac A x) 1,decide (Zcg ps=true),decide (List.length [Zao a b,ZaP b c]≤1000000),List.all [AV.int .i64 (Zao a b),AV.int .i64 (ZaP b c)] fun x=>AV.bx x&&Nat.beq (Zac A x) 1],
  ZmN (a) (b) (c) (d) (Zae (Za9 a ps)) (A.lt 40 (A.quo (A.int (A.len (Zae (Za9 a ps)))) a)) (Zae (Za9 a ps)) (Zai 0 (Za9 a ps)) (Zae (Za9 a ps)) (A.lt 40 (A.quo (A.int (A.len (Zae (Za9 a ps)))) a)) (Zae (Za9 a ps)) (Zae (Za9 a ps))):=by kernel_rfl
theorem ZIo(A:Ar)(a b c d:Int)(l0:List Int)(b1:Bool)(l2 l3 l4:List Int)(b5:Bool)(l6 l7:List Int):Zad A tab BD5 98 [true,true,true,false] (ZbF a b c d l0 b1 l2 l3 l4 b5 l6 l7) (Zbi a b c d l0 b1 l2 l3 l4 b5 l6 l7)=
 some (tr [1,2,2,0,4,2,2,2,5,2,10,5,1,0,7,6,0,2,8,3,4] [A.inR .i64 (A.add 0 a),!A.not true,Zab (Nat.ble (A.lenA [AV.agg (Row.gen [.int .i64 c, .int .i64 (A.rem (A.add d (A.int 0)) 64), .int .i64 (A.sub (A.nth l3 (A.nat ↑(loS l3 (A.mul (A.int 0) a)))) (A.mul (A.int 0) a)), .list (.ints .i64 (A.sub3 l7 (A.nat 0) (A.nat (A.add 0 (A.min a (A.int (A.len (A.sub3 l7 (A.nat 0) (A.len l7-A.nat 0))))))-A.nat 0)))])]) 4294967296) (Nat.blt 0 (A.lenA [AV.agg (Row.gen [.int .i64 c, .int .i64 (A.rem (A.add d (A.int 0)) 64), .int .i64 (A.sub (A.nth l3 (A.nat ↑(loS l3 (A.mul (A.int 0) a)))) (A.mul (A.int 0) a)), .list (.ints .i64 (A.sub3 l7 (A.nat 0) (A.nat (A.add 0 (A.min a (A.int (A.len (A.sub3 l7 (A.nat 0) (A.len l7-A.nat 0))))))-A.nat 0)))])])),List.all [AV.agg (Row.gen [.int .i64 c, .int .i64 (A.rem (A.add d (A.int 0)) 64), .int .i64 (A.sub (A.nth l3 (A.nat ↑(loS l3 (A.mul (A.int 0) a)))) (A.mul (A.int 0) a)), .list (.ints .i64 (A.sub3 l7 (A.nat 0) (A.nat (A.add 0 (A.min a (A.int (A.len (A.sub3 l7 (A.nat 0) (A.len l7-A.nat 0))))))-A.nat 0)))])] fun x=>AV.bx x&&Nat.beq (Zac A x) 4,A.inR .i64 (A.sub (A.nth l3 (A.nat ↑(loS l3 (A.mul (A.int 0) a)))) (A.mul (A.int 0) a)),Zab (Zab (A.le 0 ↑(loS l3 (A.mul (A.int 0) a))) (Nat.blt (A.nat ↑(loS l3 (A.mul (A.int 0) a))) (A.len l3))) true,A.lt (A.nth l3 (A.nat ↑(loS l3 (A.mul (A.int 0) a)))) (A.add (A.mul (A.int 0) a) a),A.inR .i64 (A.add (A.mul (A.int 0) a) a),Zab (Zab (A.le 0 ↑(loS l3 (A.mul (A.int 0) a))) (Nat.blt (A.nat ↑(loS l3 (A.mul (A.int 0) a))) (A.len l3))) true,A.lt (↑(loS l3 (A.mul (A.int 0) a))) (A.int (A.len l3)),decide (Zme l3=true),decide (List.length (A.sub3 l7 (A.nat 0) (A.nat (A.add 0 (A.min a (A.int (A.len (A.sub3 l7 (A.nat 0) (A.len l7-A.nat 0))))))-A.nat 0))≤4294967296),A.not (A.eq 64 0),A.inR .i64 (A.add d (A.int 0)),A.inR .i64 (A.mul (A.int 0) a),Zab (Zab (A.le 0 0) (A.le 0 (A.add 0 (A.min a (A.int (A.len (A.sub3 l7 (A.nat 0) (A.len l7-A.nat 0)))))))) (Zab (Zab (Nat.ble (A.nat 0) (A.nat (A.add 0 (A.min a (A.int (A.len (A.sub3 l7 (A.nat 0) (A.len l7-A.nat 0)))))))) (Nat.ble (A.nat (A.add 0 (A.min a (A.int (A.len (A.sub3 l7 (A.nat 0) (A.len l7-A.nat 0))))))) (A.len l7))) (Zab (A.le 0 (A.add 0 (A.min a (A.int (A.len (A.sub3 l7 (A.nat 0) (A.len l7-A.nat 0))))))) (Zab (Nat.ble (A.nat (A.add 0 (A.min a (A.int (A.len (A.sub3 l7 (A.nat 0) (A.len l7-A.nat 0))))))) (A.nat (A.add 0 (A.min a (A.int (A.len (A.sub3 l7 (A.nat 0) (A.len l7-A.nat 0)))))))) (Nat.ble (A.nat (A.add 0 (A.min a (A.int (A.len (A.sub3 l7 (A.nat 0) (A.len l7-A.nat 0))))))) (A.len l7))))),A.inR .i64 (A.add 0 (A.min a (A.int (A.len (A.sub3 l7 (A.nat 0) (A.len l7-A.nat 0)))))),A.inR .i64 (A.add 0 (A.min a (A.int (A.len (A.sub3 l7 (A.nat 0) (A.len l7-A.nat 0)))))),Zab (Zab (A.le 0 0) true) (Zab (Zab (Nat.ble (A.nat 0) (A.len l7)) (Nat.ble (A.len l7) (A.len l7))) true),A.lt 0 (A.int (A.len l7))],
  ZbO (a) (b) (c) (d) (l0) (b1) (l2) (l3) (l4) (b5) (l6) (l7) (A.add 0 a) ([AV.agg (Row.gen [.int .i64 c, .int .i64 (A.rem (A.add d (A.int 0)) 64), .int .i64 (A.sub (A.nth l3 (A.nat ↑(loS l3 (A.mul (A.int 0) a)))) (A.mul (A.int 0) a)), .list (.ints .i64 (A.sub3 l7 (A.nat 0) (A.nat (A.add 0 (A.min a (A.int (A.len (A.sub3 l7 (A.nat 0) (A.len l7-A.nat 0))))))-A.nat 0)))])])):=by kernel_rfl
theorem ZLd(A:Ar)(a b c d:Int)(l0:List Int)(b1:Bool)(l2 l3 l4:List Int)(b5:Bool)(l6 l7:List Int):Zad A tab BD5 89 [true,true,false,false] (ZbF a b c d l0 b1 l2 l3 l4 b5 l6 l7) (Zbi a b c d l0 b1 l2 l3 l4 b5 l6 l7)=
 some (tr [1,2,2,0,2,2,5,2,10,5,1,0,7,6,0,2,8,3,4] [A.inR .i64 (A.add 0 a),!A.not true,Zab (Nat.ble (A.lenA [AV.agg (Row.gen [.int .i64 c, .int .i64 (A.rem (A.add d (A.int 0)) 64), .int .i64 255, .list (.ints .i64 (A.sub3 l7 (A.nat 0) (A.nat (A.add 0 (A.min a (A.int (A.len (A.sub3 l7 (A.nat 0) (A.len l7-A.nat 0))))))-A.nat 0)))])]) 4294967296) (Nat.blt 0 (A.lenA [AV.agg (Row.gen [.int .i64 c, .int .i64 (A.rem (A.add d (A.int 0)) 64), .int .i64 255, .list (.ints .i64 (A.sub3 l7 (A.nat 0) (A.nat (A.add 0 (A.min a (A.int (A.len (A.sub3 l7 (A.nat 0) (A.len l7-A.nat 0))))))-A.nat 0)))])])),List.all [AV.agg (Row.gen [.int .i64 c, .int .i64 (A.rem (A.add d (A.int 0)) 64), .int .i64 255, .list (.ints .i64 (A.sub3 l7 (A.nat 0) (A.nat (A.add 0 (A.min a (A.int (A.len (A.sub3 l7 (A.nat 0) (A.len l7-A.nat 0))))))-A.nat 0)))])] fun x=>AV.bx x&&Nat.beq (Zac A x) 4,!A.lt (A.nth l3 (A.nat ↑(loS l3 (A.mul (A.int 0) a)))) (A.add (A.mul (A.int 0) a) a),A.inR .i64 (A.add (A.mul (A.int 0) a) a),Zab (Zab (A.le 0 ↑(loS l3 (A.mul (A.int 0) a))) (Nat.blt (A.nat ↑(loS l3 (A.mul (A.int 0) a))) (A.len l3))) true,A.lt (↑(loS l3 (A.mul (A.int 0) a))) (A.int (A.len l3)),decide (Zme l3=true),decide (List.length (A.sub3 l7 (A.nat 0) (A.nat (A.add 0 (A.min a (A.int (A.len (A.sub3 l7 (A.nat 0) (A.len l7-A.nat 0))))))-A.nat 0))≤4294967296),A.not (A.eq 64 0),A.inR .i64 (A.add d (A.int 0)),A.inR .i64 (A.mul (A.int 0) a),Zab (Zab (A.le 0 0) (A.le 0 (A.add 0 (A.min a (A.int (A.len (A.sub3 l7 (A.nat 0) (A.len l7-A.nat 0)))))))) (Zab (Zab (Nat.ble (A.nat 0) (A.nat (A.add 0 (A.min a (A.int (A.len (A.sub3 l7 (A.nat 0) (A.len l7-A.nat 0)))))))) (Nat.ble (A.nat (A.add 0 (A.min a (A.int (A.len (A.sub3 l7 (A.nat 0) (A.len l7-A.nat 0))))))) (A.len l7))) (Zab (A.le 0 (A.add 0 (A.min a (A.int (A.len (A.sub3 l7 (A.nat 0) (A.len l7-A.nat 0))))))) (Zab (Nat.ble (A.nat (A.add 0 (A.min a (A.int (A.len (A.sub3 l7 (A.nat 0) (A.len l7-A.nat 0))))))) (A.nat (A.add 0 (A.min a (A.int (A.len (A.sub3 l7 (A.nat 0) (A.len l7-A.nat 0)))))))) (Nat.ble (A.nat (A.add 0 (A.min a (A.int (A.len (A.sub3 l7 (A.nat 0) (A.len l7-A.nat 0))))))) (A.len l7))))),A.inR .i64 (A.add 0 (A.min a (A.int (A.len (A.sub3 l7 (A.nat 0) (A.len l7-A.nat 0)))))),A.inR .i64 (A.add 0 (A.min a (A.int (A.len (A.sub3 l7 (A.nat 0) (A.len l7-A.nat 0)))))),Zab (Zab (A.le 0 0) true) (Zab (Zab (Nat.ble (A.nat 0) (A.len l7)) (Nat.ble (A.len l7) (A.len l7))) true),A.lt 0 (A.int (A.len l7))],
  ZbO (a) (b) (c) (d) (l0) (b1) (l2) (l3) (l4) (b5) (l6) (l7) (A.add 0 a) ([AV.agg (Row.gen [.int .i64 c, .int .i64 (A.rem (A.add d (A.int 0)) 64), .int .i64 255, .list (.ints .i64 (A.sub3 l7 (A.nat 0) (A.nat (A.add 0 (A.min a (A.int (A.len (A.sub3 l7 (A.nat 0) (A.len l7-A.nat 0))))))-A.nat 0)))])])):=by kernel_rfl
theorem ZID(A:Ar)(a b c d:Int)(l0:List Int)(b1:Bool)(l2 l3 l4:List Int)(b5:Bool)(l6 l7:List Int):Zad A tab BD5 89 [true,false,false,false] (ZbF a b c d l0 b1 l2 l3 l4 b5 l6 l7) (Zbi a b c d l0 b1 l2 l3 l4 b5 l6 l7)=
 some (tr [1,2,2,0,14,10,5,1,0,7,6,0,2,8,3,4] [A.inR .i64 (A.add 0 a),!A.not true,Zab (Nat.ble (A.lenA [AV.agg (Row.gen [.int .i64 c, .int .i64 (A.rem (A.add d (A.int 0)) 64), .int .i64 255, .list (.ints .i64 (A.sub3 l7 (A.nat 0) (A.nat (A.add 0 (A.min a (A.int (A.len (A.sub3 l7 (A.nat 0) (A.len l7-A.nat 0))))))-A.nat 0)))])]) 4294967296) (Nat.blt 0 (A.lenA [AV.agg (Row.gen [.int .i64 c, .int .i64 (A.rem (A.add d (A.int 0)) 64), .int .i64 255, .list (.ints .i64 (A.sub3 l7 (A.nat 0) (A.nat (A.add 0 (A.min a (A.int (A.len (A.sub3 l7 (A.nat 0) (A.len l7-A.nat 0))))))-A.nat 0)))])])),List.all [AV.agg (Row.gen [.int .i64 c, .int .i64 (A.rem (A.add d (A.int 0)) 64), .int .i64 255, .list (.ints .i64 (A.sub3 l7 (A.nat 0) (A.nat (A.add 0 (A.min a (A.int (A.len (A.sub3 l7 (A.nat 0) (A.len l7-A.nat 0))))))-A.nat 0)))])] fun x=>AV.bx x&&Nat.beq (Zac A x) 4,!A.lt (↑(loS l3 (A.mul (A.int 0) a))) (A.int (A.len l3)),decide (Zme l3=true),decide (List.length (A.sub3 l7 (A.nat 0) (A.nat (A.add 0 (A.min a (A.int (A.len (A.sub3 l7 (A.nat 0) (A.len l7-A.nat 0))))))-A.nat 0))≤4294967296),A.not (A.eq 64 0),A.inR .i64 (A.add d (A.int 0)),A.inR .i64 (A.mul (A.int 0) a),Zab (Zab (A.le 0 0) (A.le 0 (A.add 0 (A.min a (A.int (A.len (A.sub3 l7 (A.nat 0) (A.len l7-A.nat 0)))))))) (Zab (Zab (Nat.ble (A.nat 0) (A.nat (A.add 0 (A.min a (A.int (A.len (A.sub3 l7 (A.nat 0) (A.len l7-A.nat 0)))))))) (Nat.ble (A.nat (A.add 0 (A.min a (A.int (A.len (A.sub3 l7 (A.nat 0) (A.len l7-A.nat 0))))))) (A.len l7))) (Zab (A.le 0 (A.add 0 (A.min a (A.int (A.len (A.sub3 l7 (A.nat 0) (A.len l7-A.nat 0))))))) (Zab (Nat.ble (A.nat (A.add 0 (A.min a (A.int (A.len (A.sub3 l7 (A.nat 0) (A.len l7-A.nat 0))))))) (A.nat (A.add 0 (A.min a (A.int (A.len (A.sub3 l7 (A.nat 0) (A.len l7-A.nat 0)))))))) (Nat.ble (A.nat (A.add 0 (A.min a (A.int (A.len (A.sub3 l7 (A.nat 0) (A.len l7-A.nat 0))))))) (A.len l7))))),A.inR .i64 (A.add 0 (A.min a (A.int (A.len (A.sub3 l7 (A.nat 0) (A.len l7-A.nat 0)))))),A.inR .i64 (A.add 0 (A.min a (A.int (A.len (A.sub3 l7 (A.nat 0) (A.len l7-A.nat 0)))))),Zab (Zab (A.le 0 0) true) (Zab (Zab (Nat.ble (A.nat 0) (A.len l7)) (Nat.ble (A.len l7) (A.len l7))) true),A.lt 0 (A.int (A.len l7))],
  ZbO (a) (b) (c) (d) (l0) (b1) (l2) (l3) (l4) (b5) (l6) (l7) (A.add 0 a) ([AV.agg (Row.gen [.int .i64 c, .int .i64 (A.rem (A.add d (A.int 0)) 64), .int .i64 255, .list (.ints .i64 (A.sub3 l7 (A.nat 0) (A.nat (A.add 0 (A.min a (A.int (A.len (A.sub3 l7 (A.nat 0) (A.len l7-A.nat 0))))))-A.nat 0)))])])):=by kernel_rfl
theorem ZJJ(A:Ar)(a b c d:Int)(l0:List Int)(b1:Bool)(l2 l3 l4:List Int)(b5:Bool)(l6 l7:List Int):ZaE A tab BD5 23 [false] 35 (ZbF a b c d l0 b1 l2 l3 l4 b5 l6 l7) (Zbi a b c d l0 b1 l2 l3 l4 b5 l6 l7)=
 some (tr [5,4] [!A.lt 0 (A.int (A.len l7))],
  AV.tup [AV.nils,AV.int .i64 0],none):=by kernel_rfl
theorem ZJV(A:Ar)(a b c d:Int)(l0:List Int)(b1:Bool)(l2 l3 l4:List Int)(b5:Bool)(l6 l7:List Int)(n8:Int)(x9:List AV):Zad A tab BD5 98 [true,true,true,false] (Zbk a b c d l0 b1 l2 l3 l4 b5 l6 l7 n8 x9) (Za0 a b c d l0 b1 l2 l3 l4 b5 l6 l7 n8 x9)=
 some (tr [1,2,2,0,4,2,2,2,5,2,10,5,1,0,7,6,0,2,8,3,4] [A.inR .i64 (A.add n8 a),!A.not true,Nat.ble (A.lenA x9+A.lenA [AV.agg (Row.gen [.int .i64 c, .int .i64 (A.rem (A.add d (A.int (A.lenA x9))) 64), .int .i64 (A.sub (A.nth l3 (A.nat ↑(loS l3 (A.mul (A.int (A.lenA x9)) a)))) (A.mul (A.int (A.lenA x9)) a)), .list (.ints .i64 (A.sub3 l7 (A.nat n8) (A.nat (A.add n8 (A.min a (A.int (A.len (A.sub3 l7 (A.nat n8) (A.len l7-A.nat n8))))))-A.nat n8)))])]) 4294967296,List.all [AV.agg (Row.gen [.int .i64 c, .int .i64 (A.rem (A.add d (A.int (A.lenA x9))) 64), .int .i64 (A.sub (A.nth l3 (A.nat ↑(loS l3 (A.mul (A.int (A.lenA x9)) a)))) (A.mul (A.int (A.lenA x9)) a)), .list (.ints .i64 (A.sub3 l7 (A.nat n8) (A.nat (A.add n8 (A.min a (A.int (A.len (A.sub3 l7 (A.nat n8) (A.len l7-A.nat n8))))))-A.nat n8)))])] fun x=>AV.bx x&&Nat.beq (Zac A x) 4,A.inR .i64 (A.sub (A.nth l3 (A.nat ↑(loS l3 (A.mul (A.int (A.lenA x9)) a)))) (A.mul (A.int (A.lenA x9)) a)),Zab (Zab (A.le 0 ↑(loS l3 (A.mul (A.int (A.lenA x9)) a))) (Nat.blt (A.nat ↑(loS l3 (A.mul (A.int (A.lenA x9)) a))) (A.len l3))) true,A.lt (A.nth l3 (A.nat ↑(loS l3 (A.mul (A.int (A.lenA x9)) a)))) (A.add (A.mul (A.int (A.lenA x9)) a) a),A.inR .i64 (A.add (A.mul (A.int (A.lenA x9)) a) a),Zab (Zab (A.le 0 ↑(loS l3 (A.mul (A.int (A.lenA x9)) a))) (Nat.blt (A.nat ↑(loS l3 (A.mul (A.int (A.lenA x9)) a))) (A.len l3))) true,A.lt (↑(loS l3 (A.mul (A.int (A.lenA x9)) a))) (A.int (A.len l3)),decide (Zme l3=true),decide (List.length (A.sub3 l7 (A.nat n8) (A.nat (A.add n8 (A.min a (A.int (A.len (A.sub3 l7 (A.nat n8) (A.len l7-A.nat n8))))))-A.nat n8))≤4294967296),A.not (A.eq 64 0),A.inR .i64 (A.add d (A.int (A.lenA x9))),A.inR .i64 (A.mul (A.int (A.lenA x9)) a),Zab (Zab (A.le 0 n8) (A.le 0 (A.add n8 (A.min a (A.int (A.len (A.sub3 l7 (A.nat n8) (A.len l7-A.nat n8)))))))) (Zab (Zab (Nat.ble (A.nat n8) (A.nat (A.add n8 (A.min a (A.int (A.len (A.sub3 l7 (A.nat n8) (A.len l7-A.nat n8)))))))) (Nat.ble (A.nat (A.add n8 (A.min a (A.int (A.len (A.sub3 l7 (A.nat n8) (A.len l7-A.nat n8))))))) (A.len l7))) (Zab (A.le 0 (A.add n8 (A.min a (A.int (A.len (A.sub3 l7 (A.nat n8) (A.len l7-A.nat n8))))))) (Zab (Nat.ble (A.nat (A.add n8 (A.min a (A.int (A.len (A.sub3 l7 (A.nat n8) (A.len l7-A.nat n8))))))) (A.nat (A.add n8 (A.min a (A.int (A.len (A.sub3 l7 (A.nat n8) (A.len l7-A.nat n8)))))))) (Nat.ble (A.nat (A.add n8 (A.min a (A.int (A.len (A.sub3 l7 (A.nat n8) (A.len l7-A.nat n8))))))) (A.len l7))))),A.inR .i64 (A.add n8 (A.min a (A.int (A.len (A.sub3 l7 (A.nat n8) (A.len l7-A.nat n8)))))),A.inR .i64 (A.add n8 (A.min a (A.int (A.len (A.sub3 l7 (A.nat n8) (A.len l7-A.nat n8)))))),Zab (Zab (A.le 0 n8) true) (Zab (Zab (Nat.ble (A.nat n8) (A.len l7)) (Nat.ble (A.len l7) (A.len l7))) true),A.lt n8 (A.int (A.len l7))],
  ZbO (a) (b) (c) (d) (l0) (b1) (l2) (l3) (l4) (b5) (l6) (l7) (A.add n8 a) (A.appA x9 [AV.agg (Row.gen [.int .i64 c, .int .i64 (A.rem (A.add d (A.int (A.lenA x9))) 64), .int .i64 (A.sub (A.nth l3 (A.nat ↑(loS l3 (A.mul (A.int (A.lenA x9)) a)))) (A.mul (A.int (A.lenA x9)) a)), .list (.ints .i64 (A.sub3 l7 (A.nat n8) (A.nat (A.add n8 (A.min a (A.int (A.len (A.sub3 l7 (A.nat n8) (A.len l7-A.nat n8))))))-A.nat n8)))])])):=by kernel_rfl
theorem ZJs(A:Ar)(a b c d:Int)(l0:List Int)(b1:Bool)(l2 l3 l4:List Int)(b5:Bool)(l6 l7:List Int)(n8:Int)(x9:List AV):Zad A tab BD5 89 [true,true,false,false] (Zbk a b c d l0 b1 l2 l3 l4 b5 l6 l7 n8 x9) (Za0 a b c d l0 b1 l2 l3 l4 b5 l6 l7 n8 x9)=
 some (tr [1,2,2,0,2,2,5,2,10,5,1,0,7,6,0,2,8,3,4] [A.inR .i64 (A.add n8 a),!A.not true,Nat.ble (A.lenA x9+A.lenA [AV.agg (Row.gen [.int .i64 c, .int .i64 (A.rem (A.add d (A.int (A.lenA x9))) 64), .int .i64 255, .list (.ints .i64 (A.sub3 l7 (A.nat n8) (A.nat (A.add n8 (A.min a (A.int (A.len (A.sub3 l7 (A.nat n8) (A.len l7-A.nat n8))))))-A.nat n8)))])]) 4294967296,List.all [AV.agg (Row.gen [.int .i64 c, .int .i64 (A.rem (A.add d (A.int (A.lenA x9))) 64), .int .i64 255, .list (.ints .i64 (A.sub3 l7 (A.nat n8) (A.nat (A.add n8 (A.min a (A.int (A.len (A.sub3 l7 (A.nat n8) (A.len l7-A.nat n8))))))-A.nat n8)))])] fun x=>AV.bx x&&Nat.beq (Zac A x) 4,!A.lt (A.nth l3 (A.nat ↑(loS l3 (A.mul (A.int (A.lenA x9)) a)))) (A.add (A.mul (A.int (A.lenA x9)) a) a),A.inR .i64 (A.add (A.mul (A.int (A.lenA x9)) a) a),Zab (Zab (A.le 0 ↑(loS l3 (A.mul (A.int (A.lenA x9)) a))) (Nat.blt (A.nat ↑(loS l3 (A.mul (A.int (A.lenA x9)) a))) (A.len l3))) true,A.lt (↑(loS l3 (A.mul (A.int (A.lenA x9)) a))) (A.int (A.len l3)),decide (Zme l3=true),decide (List.length (A.sub3 l7 (A.nat n8) (A.nat (A.add n8 (A.min a (A.int (A.len (A.sub3 l7 (A.nat n8) (A.len l7-A.nat n8))))))-A.nat n8))≤4294967296),A.not (A.eq 64 0),A.inR .i64 (A.add d (A.int (A.lenA x9))),A.inR .i64 (A.mul (A.int (A.lenA x9)) a),Zab (Zab (A.le 0 n8) (A.le 0 (A.add n8 (A.min a (A.int (A.len (A.sub3 l7 (A.nat n8) (A.len l7-A.nat n8)))))))) (Zab (Zab (Nat.ble (A.nat n8) (A.nat (A.add n8 (A.min a (A.int (A.len (A.sub3 l7 (A.nat n8) (A.len l7-A.nat n8)))))))) (Nat.ble (A.nat (A.add n8 (A.min a (A.int (A.len (A.sub3 l7 (A.nat n8) (A.len l7-A.nat n8))))))) (A.len l7))) (Zab (A.le 0 (A.add n8 (A.min a (A.int (A.len (A.sub3 l7 (A.nat n8) (A.len l7-A.nat n8))))))) (Zab (Nat.ble (A.nat (A.add n8 (A.min a (A.int (A.len (A.sub3 l7 (A.nat n8) (A.len l7-A.nat n8))))))) (A.nat (A.add n8 (A.min a (A.int (A.len (A.sub3 l7 (A.nat n8) (A.len l7-A.nat n8)))))))) (Nat.ble (A.nat (A.add n8 (A.min a (A.int (A.len (A.sub3 l7 (A.nat n8) (A.len l7-A.nat n8))))))) (A.len l7))))),A.inR .i64 (A.add n8 (A.min a (A.int (A.len (A.sub3 l7 (A.nat n8) (A.len l7-A.nat n8)))))),A.inR .i64 (A.add n8 (A.min a (A.int (A.len (A.sub3 l7 (A.nat n8) (A.len l7-A.nat n8)))))),Zab (Zab (A.le 0 n8) true) (Zab (Zab (Nat.ble (A.nat n8) (A.len l7)) (Nat.ble (A.len l7) (A.len l7))) true),A.lt n8 (A.int (A.len l7))],
  ZbO (a) (b) (c) (d) (l0) (b1) (l2) (l3) (l4) (b5) (l6) (l7) (A.add n8 a) (A.appA x9 [AV.agg (Row.gen [.int .i64 c, .int .i64 (A.rem (A.add d (A.int (A.lenA x9))) 64), .int .i64 255, .list (.ints .i64 (A.sub3 l7 (A.nat n8) (A.nat (A.add n8 (A.min a (A.int (A.len (A.sub3 l7 (A.nat n8) (A.len l7-A.nat n8))))))-A.nat n8)))])])):=by kernel_rfl
theorem ZHP(A:Ar)(a b c d:Int)(l0:List Int)(b1:Bool)(l2 l3 l4:List Int)(b5:Bool)(l6 l7:List Int)(n8:Int)(x9:List AV):Zad A tab BD5 89 [true,false,false,false] (Zbk a b c d l0 b1 l2 l3 l4 b5 l6 l7 n8 x9) (Za0 a b c d l0 b1 l2 l3 l4 b5 l6 l7 n8 x9)=
 some (tr [1,2,2,0,14,10,5,1,0,7,6,0,2,8,3,4] [A.inR .i64 (A.add n8 a),!A.not true,Nat.ble (A.lenA x9+A.lenA [AV.agg (Row.gen [.int .i64 c, .int .i64 (A.rem (A.add d (A.int (A.lenA x9))) 64), .int .i64 255, .list (.ints .i64 (A.sub3 l7 (A.nat n8) (A.nat (A.add n8 (A.min a (A.int (A.len (A.sub3 l7 (A.nat n8) (A.len l7-A.nat n8))))))-A.nat n8)))])]) 4294967296,List.all [AV.agg (Row.gen [.int .i64 c, .int .i64 (A.rem (A.add d (A.int (A.lenA x9))) 64), .int .i64 255, .list (.ints .i64 (A.sub3 l7 (A.nat n8) (A.nat (A.add n8 (A.min a (A.int (A.len (A.sub3 l7 (A.nat n8) (A.len l7-A.nat n8))))))-A.nat n8)))])] fun x=>AV.bx x&&Nat.beq (Zac A x) 4,!A.lt (↑(loS l3 (A.mul (A.int (A.lenA x9)) a))) (A.int (A.len l3)),decide (Zme l3=true),decide (List.length (A.sub3 l7 (A.nat n8) (A.nat (A.add n8 (A.min a (A.int (A.len (A.sub3 l7 (A.nat n8) (A.len l7-A.nat n8))))))-A.nat n8))≤4294967296),A.not (A.eq 64 0),A.inR .i64 (A.add d (A.int (A.lenA x9))),A.inR .i64 (A.mul (A.int (A.lenA x9)) a),Zab (Zab (A.le 0 n8) (A.le 0 (A.add n8 (A.min a (A.int (A.len (A.sub3 l7 (A.nat n8) (A.len l7-A.nat n8)))))))) (Zab (Zab (Nat.ble (A.nat n8) (A.nat (A.add n8 (A.min a (A.int (A.len (A.sub3 l7 (A.nat n8) (A.len l7-A.nat n8)))))))) (Nat.ble (A.nat (A.add n8 (A.min a (A.int (A.len (A.sub3 l7 (A.nat n8) (A.len l7-A.nat n8))))))) (A.len l7))) (Zab (A.le 0 (A.add n8 (A.min a (A.int (A.len (A.sub3 l7 (A.nat n8) (A.len l7-A.nat n8))))))) (Zab (Nat.ble (A.nat (A.add n8 (A.min a (A.int (A.len (A.sub3 l7 (A.nat n8) (A.len l7-A.nat n8))))))) (A.nat (A.add n8 (A.min a (A.int (A.len (A.sub3 l7 (A.nat n8) (A.len l7-A.nat n8)))))))) (Nat.ble (A.nat (A.add n8 (A.min a (A.int (A.len (A.sub3 l7 (A.nat n8) (A.len l7-A.nat n8))))))) (A.len l7))))),A.inR .i64 (A.add n8 (A.min a (A.int (A.len (A.sub3 l7 (A.nat n8) (A.len l7-A.nat n8)))))),A.inR .i64 (A.add n8 (A.min a (A.int (A.len (A.sub3 l7 (A.nat n8) (A.len l7-A.nat n8)))))),Zab (Zab (A.le 0 n8) true) (Zab (Zab (Nat.ble (A.nat n8) (A.len l7)) (Nat.ble (A.len l7) (A.len l7))) true),A.lt n8 (A.int (A.len l7))],
  ZbO (a) (b) (c) (d) (l0) (b1) (l2) (l3) (l4) (b5) (l6) (l7) (A.add n8 a) (A.appA x9 [AV.agg (Row.gen [.int .i64 c, .int .i64 (A.rem (A.add d (A.int (A.lenA x9))) 64), .int .i64 255, .list (.ints .i64 (A.sub3 l7 (A.nat n8) (A.nat (A.add n8 (A.min a (A.int (A.len (A.sub3 l7 (A.nat n8) (A.len l7-A.nat n8))))))-A.nat n8)))])])):=by kernel_rfl
theorem ZCj(A:Ar)(a b c d:Int)(l0:List Int)(b1:Bool)(l2 l3 l4:List Int)(b5:Bool)(l6 l7:List Int)(n8:Int)(x9:List AV):ZaE A tab BD5 23 [false] 35 (Zbk a b c d l0 b1 l2 l3 l4 b5 l6 l7 n8 x9) (Za0 a b c d l0 b1 l2 l3 l4 b5 l6 l7 n8 x9)=
 some (tr [5,4] [!A.lt n8 (A.int (A.len l7))],
  AV.tup [AV.row 0 0,AV.int .i64 0],some { e:=74,sz:=4,r:=Row.big (.agg [.int .i64, .int .i64, .int .i64, .ints .i64]) x9 }):=by kernel_rfl
end Go.Proofs.Ytjhdnpmojhkbjaa
