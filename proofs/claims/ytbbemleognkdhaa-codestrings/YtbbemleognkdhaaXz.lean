/- The machine runs. No condition. -/
import Derived.Test.YtbbemleognkdhaaXq
namespace Go.Proofs.Ytbbemleognkdhaa
open Go.RowKit (Below)
abbrev Con:=FuncId→List AV→Option (Bool×AV×Option Fresh)
def Zee(P:Program)(K:Con):Prop:=∀f args r fr,K f args=some (true,r,fr)→Zaf P f args r fr
def Zr7(a:Nat)(r:AV)(m:Bool):Option Fresh→Bool
 |none=>r.pure&&(!m||r.solid)
 |some f=>match Nat.beq f.sz 0 with |true=>r.pure |false=>Nat.blt 0 a&&(Zma r&&(f.r.pure&&(!m||(r.solid&&f.r.solid))))
def Zsg(A:Ar)(h:Zab)(m:Bool)(avs:List AV):Option (Bool×List AV):=
 match m with
 |true=>Zj4 A h avs
 |false=>match AV.pureL avs with |true=>some (true,avs) |false=>none
def Znu(A:Ar)(K:Con)(h:Zab)(a:Nat)(f:FuncId)(avs:List AV):Option (Bool×AV×Zab):=
 match Zsg A h (!AV.pureL avs) avs with
 |none=>none
 |some (b0,avs')=>match K f avs' with
  |none=>none
  |some (b,r0,fr)=>match Zr7 a r0 (!AV.pureL avs) fr with
   |true=>some (Zam b0 b,Zbt h a r0 fr)
   |false=>none
def isF(T:Tab)(f:FuncId):Bool:=match T f with |some _=>true |none=>false
def ZlE(A:Ar)(T:Tab)(K:Con)(ρ:Opd→AV)(h:Zab):OpK→Option (Bool×AV×Zab)
 | .ncall _ a f args=>Znu A K h a f (args.map ρ)
 | .ncallv _ a x args=>match Zqh (ρ x) (args.map ρ)with
   |some (f,avs)=>(match isF T f with |true=>Znu A K h a f avs |false=>none)
   |none=>none
 |k=>Zag A ρ h k
def Zd5(o:AOp)(env:List (Nat×AV)):Option Bool:=
 match o.g with
 |none=>some true
 |some (t,want)=>match Zau env t with
  |some (.bool b)=>(match want with |true=>some b |false=>some (!b))
  |some .und=>some false
  |_=>none
def Zdx(A:Ar)(T:Tab)(K:Con)(o:AOp)(env:List (Nat×AV))(h:Zab):Option (Bool×AV×Zab):=
 match Zd5 o env with
 |none=>none
 |some g=>match g with
  |true=>ZlE A T K (ZaS (Zau env)) h o.k
  |false=>some (true, .und,h)
def wOf(ρ:Opd→AV)(h:Zab):OpK→List (Nat×Nat)
 | .store _ p _=>ZaK (ρ p)
 | .stores _ p x=>(match ρ x with | .slc a i _ _ _=>[(a,nxt h a),(a,i)] |_=>[])++ZaK (ρ p)
 | .box a _ _=>[(a,nxt h a)]
 | .alloc a _ _=>[(a,nxt h a)]
 | .bslice a _ _ _=>[(a,nxt h a)]
 | .mkslice a _ _ _ _=>[(a,nxt h a)]
 | .mklst a _ _ _ _=>[(a,nxt h a)]
 | .append a _ _ x _=>(a,nxt h a)::ZaK (ρ x)
 | .appz a _ _ _ x _=>(a,nxt h a)::ZaK (ρ x)
 | .copy _ x _=>ZaK (ρ x)
 | .clr _ _ _ x=>ZaK (ρ x)
 | .mkmap a=>[(a,nxt h a)]
 | .mupd x _=>ZaK (ρ x)
 | .ncall _ a _ _=>[(a,nxt h a)]
 | .ncallv _ a _ _=>[(a,nxt h a)]
 |_=>[]
def Zfq(env:List (Nat×AV))(h:Zab)(o:AOp):Foot:=⟨o,o.k.looks.flatMap fun x=>Zb0 h o.k (ZaS (Zau env) x),wOf (ZaS (Zau env)) h o.k⟩
def Zpa(p:Nat×Nat):List (Nat×Nat)→Bool
 |[]=>false
 |q::l=>match Nat.beq p.1 q.1 with |true=>(match Nat.beq p.2 q.2 with |true=>true |false=>Zpa p l) |false=>Zpa p l
def Zkm(m:List (Nat×Nat)):List (Nat×Nat)→Bool
 |[]=>true
 |p::l=>match Zpa p m with |true=>false |false=>Zkm m l
def Zky(zs:List Foot):List (Nat×Nat)→Bool
 |[]=>true
 |(i,j)::fr=>match zs[i]?,zs[j]? with
  |some x,some z=>(match (z.o.k.neutral&&Zkm x.w z.r)||(x.o.k.neutral&&Zkm z.w x.r)||(x.o.frees z.o&&Zkm z.w x.r)with |true=>Zky zs fr |false=>false)
  |_,_=>Zky zs fr
def ZgK(A:Ar)(T:Tab)(K:Con):List AOp→List Bool→List (Nat×AV)→Zab→Option (List Bool×List (Nat×AV)×Zab)
 |[],acc,env,h=>some (acc,env,h)
 |o::os,acc,env,h=>match Zdx A T K o env h with
  |some (b,r,h')=>ZgK A T K os (b::acc) (Zkw env o.d r) h'
  |none=>none
def Zio(A:Ar)(T:Tab)(K:Con):List AOp→List (Nat×AV)→Zab→List Foot
 |[],_,_=>[]
 |o::os,env,h=>Zfq env h o::match Zdx A T K o env h with
  |some (_,r,h')=>Zio A T K os (Zkw env o.d r) h'
  |none=>[]
def Zot(A:Ar)(T:Tab)(K:Con)(fr:List (Nat×Nat))(os:List AOp)(env:List (Nat×AV))(h:Zab):Bool:=
 match fr with
 |[]=>true
 |fr=>Zky (Zio A T K os env h) fr
section
variable {C:Ctx}{T:Tab}{K:Con}{h h':Zab}{f:AFrame}{fs:List AFrame}{k:List AItem}{Q:List AFrame→Zab→Prop}
theorem ZdC:∀(l:List AV),(∀z∈l,z.solid=true)→AV.solidL l=true
 |[],_=>rfl
 |z::zs,hz=>by simp only[AV.solidL,Bool.and_eq_true];exact⟨hz z List.mem_cons_self,ZdC zs (fun q hq=>hz q (List.mem_cons_of_mem _ hq))⟩
theorem ZeX:∀ {l:List AV},AV.solidL l=true→∀z∈l,z.solid=true
 |y::ys,h,z,hz=>by
  simp only[AV.solidL,Bool.and_eq_true]at h
  rcases List.mem_cons.1 hz with e |e
  ·rw[e];exact h.1
  ·exact ZeX h.2 z e
theorem Zj2{a b:List AV}(ha:AV.solidL a=true)(hb:AV.solidL b=true):AV.solidL (a++b)=true:=
 ZdC _ (fun z hz=>(List.mem_append.1 hz).elim (ZeX ha z) (ZeX hb z))
theorem ZhC{r:Row}(hs:r.solid=true):∀z∈r.elems,z.solid=true:=fun z hz=>by
 obtain⟨j,hj⟩:=List.mem_iff_getElem?.1 hz
 exact Row.solid_mem hs hj
theorem ZeG{r:Row}(hs:r.solid=true):r.allSolid:=by
 have hm:=ZhC hs
 unfold Row.allSolid
 generalize r.elems=l at hm
 induction l with
 |nil=>rfl
 |cons y ys ih=>
  rw[Zar]
  refine Zj2 ?_ (ih (fun z hz=>hm z (List.mem_cons_of_mem _ hz)))
  have h1:=hm y List.mem_cons_self
  cases y with
  |agg q=>exact ZdC _ (ZhC (by simpa[AV.solid]using h1))
  |_=>simp only[AV.flat,AV.solidL,Bool.and_true];exact h1
theorem ZpT{a:Nat}{r:AV}{m:Bool}{fr:Option Fresh}(h:Zr7 a r m fr=true):ZoM a r m fr:=by
 cases fr with
 |none=>
  simp only[Zr7,Bool.and_eq_true,Bool.or_eq_true,Bool.not_eq_true']at h
  exact⟨h.1,fun e=>by rcases h.2 with h2 |h2<;>simp_all⟩
 |some f=>
  cases hz:Nat.beq f.sz 0 with
  |true=>simp only[Zr7,hz]at h;exact .inl ⟨Nat.eq_of_beq_eq_true hz,h⟩
  |false=>
   simp only[Zr7,hz,Bool.and_eq_true,Bool.or_eq_true,Bool.not_eq_true',Nat.blt_eq]at h
   obtain⟨h1,h2,h3,h4⟩:=h
   exact .inr ⟨(fun e=>by rw[e]at hz;cases hz),(by omega),h2,ZaJ h3,fun e=>by rcases h4 with h4 |h4<;>simp_all[ZeG]⟩
theorem ZeI{P:Program}(hK:Zee P K){a:Nat}{f:FuncId}{avs:List AV}{r:AV}(hc:Znu std K h a f avs=some (true,r,h')):∃m,Zb6 P h m a f avs r h':=by
 unfold Znu at hc
 split at hc
 ·cases hc
 ·rename_i b0 avs' ha
  split at hc
  ·cases hc
  ·rename_i b r0 fr hk
   split at hc
   ·rename_i hask
    simp only[Option.some.injEq,Prod.mk.injEq,std_and]at hc
    obtain⟨⟨rfl,rfl⟩,hc⟩:=hc
    refine⟨!AV.pureL avs,avs',r0,fr,?_,hK _ _ _ _ hk,ZpT hask,hc⟩
    unfold Zsg at ha
    generalize hm:(!AV.pureL avs)=m at ha
    cases m with
    |true=>simpa using ha
    |false=>
     simp only at ha
     split at ha
     ·rename_i hp;cases ha;simp[hp]
     ·cases ha
   ·cases hc
theorem Zmb(hT:Zbg C.P T){f:FuncId}(hi:isF T f=true):ZaZ C.P f=true:=by
 unfold isF at hi
 split at hi
 ·rename_i af hf
  have:=hT f af hf
  unfold Zal at this
  split at this
  ·simp only[Bool.and_eq_true]at this;exact this.2
  ·cases this
 ·cases hi
theorem Zb8(hT:Zbg C.P T)(hK:Zee C.P K){ρ:Opd→AV}{kk:OpK}{r:AV}(hc:ZlE std T K ρ h kk=some (true,r,h')):Zbz C.P ρ h kk r h':=by
 cases kk with
 |ncall m a f args=>exact ZeI hK hc
 |ncallv m a x args=>
  simp only[ZlE]at hc
  split at hc
  ·rename_i f avs hx
   split at hc
   ·rename_i hi
    obtain⟨m',hc⟩:=ZeI hK hc
    exact⟨f,avs,m',hx,Zmb hT hi,hc⟩
   ·cases hc
  ·cases hc
 |_=>exact hc
theorem Zb1(hT:Zbg C.P T)(hK:Zee C.P K){o:AOp}{env:List (Nat×AV)}{r:AV}(hc:Zdx std T K o env h=some (true,r,h')):ZbS C.P o (Zau env) h r h':=by
 unfold Zdx at hc
 unfold ZbS
 split at hc
 ·cases hc
 ·rename_i g hg
  unfold Zd5 at hg
  split at hc
  ·split at hg
   ·rename_i hgg;rw[hgg];exact Zb8 hT hK hc
   ·rename_i t want hgg
    rw[hgg]
    split at hg
    ·rename_i b hb
     split at hg
     ·simp only[Option.some.injEq]at hg;subst hg;exact .inl ⟨hb,Zb8 hT hK hc⟩
     ·simp only[Option.some.injEq,Bool.not_eq_true']at hg;subst hg;exact .inl ⟨hb,Zb8 hT hK hc⟩
    ·simp at hg
    ·cases hg
  ·simp only[Option.some.injEq,Prod.mk.injEq,true_and]at hc
   obtain⟨rfl,rfl⟩:=hc
   split at hg
   ·simp at hg
   ·rename_i t want hgg
    rw[hgg]
    split at hg
    ·rename_i b hb
     split at hg
     ·simp only[Option.some.injEq]at hg;subst hg;exact .inr (.inl ⟨hb,rfl,rfl⟩)
     ·simp only[Option.some.injEq,Bool.not_eq_false']at hg;subst hg;exact .inr (.inl ⟨hb,rfl,rfl⟩)
    ·rename_i hb;exact .inr (.inr ⟨hb,rfl,rfl⟩)
    ·cases hg
theorem Zdb{A:Ar} :∀ {os:List AOp} {acc acc':List Bool} {env env':List (Nat×AV)} {h h':Zab},ZgK A T K os acc env h=some (acc',env',h')→∀b∈acc,b∈acc'
 |[],acc,acc',env,env',h,h',hd,b,hb=>by simp only[ZgK,Option.some.injEq,Prod.mk.injEq]at hd;obtain⟨rfl,_,_⟩:=hd;exact hb
 |o::os,acc,acc',env,env',h,h',hd,b,hb=>by
  simp only[ZgK]at hd
  split at hd
  ·exact Zdb hd b (List.mem_cons_of_mem _ hb)
  ·cases hd
theorem memB_iff{p:Nat×Nat} :∀ {l:List (Nat×Nat)},Zpa p l=true↔p∈l
 |[]=>by simp[Zpa]
 |q::l=>by
  obtain⟨a,i⟩:=p;obtain⟨b,j⟩:=q
  have ih:=memB_iff (p:=(a,i)) (l:=l)
  have hb:∀a b:Nat,Nat.beq a b=decide (a=b):=fun a b=>by rw[Bool.eq_iff_iff];simp
  simp only[Zpa,hb,List.mem_cons,Prod.mk.injEq]
  by_cases h1:a=b
  ·subst h1
   by_cases h2:i=j
   ·subst h2;simp
   ·simp[h2,ih]
  ·simp[h1,ih]
theorem Zcx{m:List (Nat×Nat)} :∀ {l:List (Nat×Nat)},Zkm m l=true→ZrO l m
 |[],_=>fun p hp=>by simp at hp
 |q::l,h=>by
  simp only[Zkm]at h
  split at h
  ·cases h
  ·rename_i hq
   intro p hp
   rcases List.mem_cons.1 hp with e |e
   ·rw[e];intro hm;rw[memB_iff.2 hm]at hq;cases hq
   ·exact Zcx h p e
theorem ZdL{zs:List Foot} :∀ {fr:List (Nat×Nat)},Zky zs fr=true→∀(i j:Nat) (x z:Foot),(i,j)∈fr→zs[i]? =some x→zs[j]? =some z→Zku x z
 |[],_,i,j,x,z,hm,_,_=>by simp at hm
 |(a,b)::fr,h,i,j,x,z,hm,hx,hz=>by
  simp only[Zky]at h
  rcases List.mem_cons.1 hm with e |e
  ·cases e
   rw[hx,hz]at h
   simp only at h
   split at h
   ·rename_i hc
    simp only[Bool.or_eq_true,Bool.and_eq_true]at hc
    rcases hc with(h |h) |h
    ·exact .inl ⟨h.1,Zcx h.2⟩
    ·exact .inr (.inl ⟨h.1,Zcx h.2⟩)
    ·exact .inr (.inr ⟨h.1,Zcx h.2⟩)
   ·cases h
  ·refine ZdL (fr:=fr) ?_ i j x z e hx hz
   split at h
   ·split at h
    ·exact h
    ·cases h
   ·exact h
theorem Zbw{h:Zab}{c i:Nat}{b:Blk}(hb:blk h c i≠ .dead){p:Nat×Nat}(hp:p≠(c,i)):blk (Zav h c i b) p.1 p.2=blk h p.1 p.2:=by
 rw[ZbA hb,if_neg (fun e=>hp (by obtain⟨a,j⟩:=p;simp only at e;rw[e.1,e.2]))]
theorem Za1{h:Zab}{a:Nat}{b:Blk}{p:Nat×Nat}(hp:p≠(a,nxt h a)):blk (Zae h a b) p.1 p.2=blk h p.1 p.2:=by
 rw[ZaB,if_neg (fun e=>hp (by obtain⟨c,j⟩:=p;simp only at e;rw[←e.1,e.2]))]
theorem Zi5{P:Program}{m:Bool}{a:Nat}{f:FuncId}{avs:List AV}{r:AV}(hd:Zb6 P h m a f avs r h'){p:Nat×Nat}(hp:p≠(a,nxt h a)):blk h' p.1 p.2=blk h p.1 p.2:=by
 obtain⟨avs',r0,fr,_,_,_,had⟩:=hd
 cases fr with
 |none=>simp only[Zbt,Prod.mk.injEq]at had;rw[←had.2]
 |some f=>
  simp only[Zbt]at had
  split at had
  ·simp only[Prod.mk.injEq]at had;rw[←had.2]
  ·simp only[Prod.mk.injEq]at had;rw[←had.2];exact Za1 hp
theorem ZfM{A:Ar}{n:Nat}{q x v:AV}{b:Bool}(hd:Zd1 A h n q x=some (b,v,h')){p:Nat×Nat}(hp:p∉ZaK q):blk h' p.1 p.2=blk h p.1 p.2:=by
 unfold Zd1 at hd
 split at hd
 ·split at hd
  ·rename_i e sz rr hb
   split at hd
   ·simp only[Option.some.injEq,Prod.mk.injEq]at hd
    rw[←hd.2.2];exact Zbw (by rw[hb];simp) (by simpa[ZaK]using hp)
   ·cases hd
  ·cases hd
 ·cases hd
theorem ZjM{P:Program}{k:OpK}{ρ:Opd→AV}{r:AV}(hd:Zbz P ρ h k r h'):∀p:Nat×Nat,p∉wOf ρ h k→blk h' p.1 p.2=blk h p.1 p.2:=by
 intro p hp
 by_cases hn:k.neutral=true
 ·rw[Zce hn hd]
 have row_ne:∀ {c i e sz:Nat} {r:Row},blk h c i=.row e sz r→blk h c i≠ .dead:=fun hb=>by rw[hb];simp
 cases k with
 |ncall m a f args=>obtain⟨m',hd⟩:=hd;exact Zi5 hd (by simpa[wOf]using hp)
 |ncallv m a x args=>obtain⟨f,avs,m',_,_,hc⟩:=hd;exact Zi5 hc (by simpa[wOf]using hp)
 |box a e x=>
  simp only[Zbz,Zag,Option.some.injEq,Prod.mk.injEq]at hd
  rw[←hd.2.2];exact Za1 (by simpa[wOf]using hp)
 |alloc a e z=>
  simp only[Zbz,Zag,Option.some.injEq,Prod.mk.injEq]at hd
  rw[←hd.2.2];exact Za1 (by simpa[wOf]using hp)
 |bslice a e sz ps=>
  simp only[Zbz,Zag,Option.some.injEq,Prod.mk.injEq]at hd
  rw[←hd.2.2];exact Za1 (by simpa[wOf]using hp)
 |mklst a e sz z ln=>
  simp only[Zbz,Zag]at hd
  split at hd
  ·split at hd
   ·simp only[Option.some.injEq,Prod.mk.injEq]at hd
    rw[←hd.2.2];exact Za1 (by simpa[wOf]using hp)
   ·cases hd
  ·cases hd
 |mkslice a e sz z ln=>
  simp only[Zbz,Zag]at hd
  split at hd
  ·simp only[Option.some.injEq,Prod.mk.injEq]at hd
   rw[←hd.2.2];exact Za1 (by simpa[wOf]using hp)
  ·cases hd
 |store n q x=>
  simp only[Zbz,Zag,Zd1,wOf]at hd hp
  split at hd
  ·rename_i a i k off hq
   rw[hq]at hp
   split at hd
   ·rename_i e sz rr hb
    split at hd
    ·simp only[Option.some.injEq,Prod.mk.injEq]at hd
     rw[←hd.2.2];exact Zbw (row_ne hb) (by simpa[ZaK]using hp)
    ·cases hd
   ·cases hd
  ·cases hd
 |stores n q x=>
  simp only[Zbz,Zag,Ziw,wOf]at hd hp
  split at hd
  ·rename_i a i m hx
   rw[hx]at hp
   simp only[List.mem_append,List.mem_cons,List.not_mem_nil,or_false,not_or]at hp
   split at hd
   ·rename_i e sz rr hz hb
    obtain⟨k1,_⟩:=ZbV (row_ne hb)
    split at hd
    ·rename_i b v h2 hst
     simp only[Option.some.injEq,Prod.mk.injEq]at hd
     obtain⟨_,_,rfl⟩:=hd
     rw[ZfM hst hp.2,Za1 (by rw[k1];exact hp.1.1),Zbw (row_ne hb) hp.1.2]
    ·cases hd
   ·cases hd
  ·exact ZfM hd (fun e=>hp (List.mem_append_right _ e))
 |copy sz x y=>
  simp only[Zbz,Zag,ZnJ,wOf]at hd hp
  split at hd
  ·cases hd
  ·split at hd
   ·rename_i c i hx
    rw[hx]at hp
    split at hd
    ·rename_i hb
     simp only[Option.some.injEq,Prod.mk.injEq]at hd
     rw[←hd.2.2];exact Zbw (row_ne hb) (by simpa[ZaK]using hp)
    ·cases hd
   ·rename_i c i k n q hx
    rw[hx]at hp
    split at hd
    ·rename_i hb
     simp only[Option.some.injEq,Prod.mk.injEq]at hd
     rw[←hd.2.2];exact Zbw (row_ne hb) (by simpa[ZaK]using hp)
    ·cases hd
   ·rename_i c i k off n hx
    rw[hx]at hp
    split at hd
    ·rename_i hb
     split at hd
     ·simp only[Option.some.injEq,Prod.mk.injEq]at hd
      rw[←hd.2.2];exact Zbw (row_ne hb) (by simpa[ZaK]using hp)
     ·cases hd
    ·cases hd
   ·cases hd
 |clr e sz z x=>
  simp only[Zbz,Zag,ZsC,wOf]at hd hp
  split at hd
  ·rename_i c i k n q hx
   rw[hx]at hp
   split at hd
   ·rename_i hb
    split at hd
    ·simp only[Option.some.injEq,Prod.mk.injEq]at hd
     rw[←hd.2.2];exact Zbw (row_ne hb) (by simpa[ZaK]using hp)
    ·cases hd
   ·cases hd
  ·cases hd
 |append a e sz x y=>
  simp only[Zbz,Zag,ZsE,wOf,List.mem_cons,not_or]at hd hp
  obtain⟨hp1,hp2⟩:=hp
  split at hd
  ·cases hd
  ·split at hd
   ·split at hd
    ·simp only[Option.some.injEq,Prod.mk.injEq]at hd;rw[←hd.2.2]
    ·simp only[Option.some.injEq,Prod.mk.injEq]at hd;rw[←hd.2.2];exact Za1 hp1
   ·rename_i c i hx
    rw[hx]at hp2
    split at hd
    ·rename_i hb
     simp only[Option.some.injEq,Prod.mk.injEq]at hd
     rw[←hd.2.2]
     rw[Za1 (by rw[ZcU];exact hp1),Zbw (row_ne hb) (by simpa[ZaK]using hp2)]
    ·cases hd
   ·rename_i c i n hx
    rw[hx]at hp2
    split at hd
    ·rename_i hb
     simp only[Option.some.injEq,Prod.mk.injEq]at hd
     rw[←hd.2.2];exact Zbw (row_ne hb) (by simpa[ZaK]using hp2)
    ·cases hd
   ·cases hd
 |appz a e sz z x ln=>
  simp only[Zbz,Zag,wOf,List.mem_cons,not_or]at hd hp
  obtain⟨hp1,hp2⟩:=hp
  split at hd
  ·unfold Zog at hd
   split at hd
   ·simp only[Option.some.injEq,Prod.mk.injEq]at hd;rw[←hd.2.2];exact Za1 hp1
   ·rename_i c i hx
    rw[hx]at hp2
    split at hd
    ·rename_i hb
     simp only[Option.some.injEq,Prod.mk.injEq]at hd
     rw[←hd.2.2]
     rw[Za1 (by rw[ZcU];exact hp1),Zbw (row_ne hb) (by simpa[ZaK]using hp2)]
    ·cases hd
   ·cases hd
  ·cases hd
 |s2b x=>
  simp only[Zbz,Zag]at hd
  split at hd
  ·simp only[Option.some.injEq,Prod.mk.injEq]at hd
   rw[←hd.2.2]
  ·cases hd
 |mkmap a=>
  simp only[Zbz,Zag,Option.some.injEq,Prod.mk.injEq]at hd
  rw[←hd.2.2];exact Za1 (by simpa[wOf]using hp)
 |mupd x k=>
  simp only[Zbz,Zag,wOf]at hd hp
  split at hd
  ·rename_i a i s hx _
   rw[hx]at hp
   split at hd
   ·rename_i ks hb
    simp only[Option.some.injEq,Prod.mk.injEq]at hd
    rw[←hd.2.2];exact Zbw (by rw[hb];intro e;cases e) (by simpa[ZaK]using hp)
   ·cases hd
  ·cases hd
 |_=>first |(exact absurd rfl hn) |(simp [Zbz,Zag]at hd)
theorem Zg0{P:Program}{o:AOp}{ε:Env}{r:AV}(hd:ZbS P o ε h r h'):∀p:Nat×Nat,p∉wOf (ZaS ε) h o.k→blk h' p.1 p.2=blk h p.1 p.2:=by
 unfold ZbS at hd
 split at hd
 ·exact ZjM hd
 ·rcases hd with⟨_,h3⟩ |⟨_,_,h3⟩ |⟨_,_,h3⟩
  ·exact ZjM h3
  ·rw[h3];exact fun _ _=>rfl
  ·rw[h3];exact fun _ _=>rfl
theorem ZcT(hT:Zbg C.P T)(hK:Zee C.P K):∀ {os:List AOp} {acc acc':List Bool} {env env':List (Nat×AV)} {h h':Zab},ZgK std T K os acc env h=some (acc',env',h')→(∀b∈acc',b=true)→(Zio std T K os env h).map (·.o)=os∧Runs C.P (Zio std T K os env h) (Zau env) h (Zau env') h'
 |[],acc,acc',env,env',h,h',hd,_=>by simp only[ZgK,Option.some.injEq,Prod.mk.injEq]at hd;obtain⟨_,rfl,rfl⟩:=hd;exact⟨rfl, .nil _ _⟩
 |o::os,acc,acc',env,env',h,h',hd,hb=>by
  simp only[ZgK]at hd
  split at hd
  ·rename_i b r h1 hs
   have hbt:b=true:=hb b (Zdb hd b List.mem_cons_self)
   subst hbt
   obtain⟨i1,i2⟩:=ZcT hT hK hd hb
   rw[Zca]at i2
   simp only[Zio,hs]
   have:=Zb1 hT hK hs
   exact⟨by simp[Zfq,i1], .cons ⟨this,fun x hx p hp=>by simp only[Zfq,List.mem_flatMap];exact⟨x,hx,hp⟩,Zg0 this⟩ i2⟩
  ·cases hd
theorem Zft{fr:List (Nat×Nat)}{os:List AOp}{env:List (Nat×AV)}(hb:Zot std T K fr os env h=true):∀(i j:Nat) (x z:Foot),(i,j)∈fr→(Zio std T K os env h)[i]? =some x→(Zio std T K os env h)[j]? =some z→Zku x z:=by
 unfold Zot at hb
 split at hb
 ·intro i j x z hm;simp at hm
 ·exact ZdL hb
end
end Go.Proofs.Ytbbemleognkdhaa
/- A step of the machine. No condition. -/
namespace Go.Proofs.Ytbbemleognkdhaa
open Go.RowKit (Below)
abbrev Zlj:=Option (List Bool×AFrame×List AFrame×Zab)
def Zhp(acc:List Bool)(fs:List AFrame)(h:Zab)(rnd:Option (Nat×Nat))(jump:Option ACode):Zlj:=
 match rnd with
 |none=>none
 |some (a,i)=>match fs with
  |[]=>none
  |c::fs'=>match blk h a i with
   | .lp l=>(match ZqV c (.bool jump.isNone)with
     |some c'=>some (acc,c',fs',Zav h a i (.lp { l with st:=ZsA jump }))
     |none=>none)
   |_=>none
def Zlg(acc:List Bool)(o:AOp)(f:AFrame)(fs:List AFrame)(h:Zab)(x:AV)(args:List Opd):Zlj:=
 match Zd5 o f.env with
 |some true=>(match x with
  | .yld a i=>(match blk h a i with
    | .lp l=>(match Nat.beq args.length l.params.length with
      |true=>some (acc,{ fn:=l.fn,N:=l.N,env:=Zh0 l.env l.params (args.map (ZaS (Zau f.env))),todo:=[.code l.asg, .beginRound, .code l.body],defs:=[],rnd:=some (a,i),ret:=false,res:=[] },f::fs,h)
      |false=>none)
    |_=>none)
  |_=>none)
 |_=>none
def ZfA(T:Tab)(acc:List Bool)(o:AOp)(f:AFrame)(fs:List AFrame)(h:Zab)(g:FuncId)(avs:List AV):Zlj:=
 match Zd5 o f.env with
 |some true=>(match ZaG T g avs with
  |some af=>some (acc,af,f::fs,h)
  |none=>none)
 |_=>none
def opA(A:Ar)(T:Tab)(K:Con)(acc:List Bool)(o:AOp)(os:List AOp)(f:AFrame)(k:List AItem)(fs:List AFrame)(h:Zab):Zlj:=
 match Zdx A T K o f.env h with
 |some (b,r,h')=>some (b::acc,{ f with env:=Zkw f.env o.d r,todo:=.inReg os::k },fs,h')
 |none=>match o.k with
  | .icall g args=>ZfA T acc o f fs h g (args.map (ZaS (Zau f.env)))
  | .ncall _ _ g args=>ZfA T acc o f fs h g (args.map (ZaS (Zau f.env)))
  | .ncallv _ _ x args=>(match ZaS (Zau f.env) x with
    | .fn g caps=>ZfA T acc o f fs h g (args.map (ZaS (Zau f.env))++caps)
    |_=>none)
  | .icallv x args=>(match ZaS (Zau f.env) x with
    | .fn g caps=>ZfA T acc o f fs h g (args.map (ZaS (Zau f.env))++caps)
    |v=>Zlg acc o f fs h v args)
  |_=>none
def rfA(T:Tab)(acc:List Bool)(f:AFrame)(k:List AItem)(fs:List AFrame)(h:Zab)(a:Nat)(x:AV)(ps:List Nat)(asg body:ACode):Zlj:=
 match f.rnd with
 |none=>(match Zr5 x (.yld a (nxt (Zae h a .dfr) a))with
  |some (g,avs)=>(match ZaG T g avs with
   |some af=>some (acc,af,{ f with todo:=.inRF a (nxt (Zae h a .dfr) a)::k,defs:=(a,nxt h a)::f.defs } ::fs,Zae (Zae h a .dfr) a (.lp { st:=.ready,fn:=f.fn,N:=f.N,env:=f.env,params:=ps,asg:=asg,body:=body }))
   |none=>none)
  |none=>none)
 |some (a0,i0)=>(match blk h a0 i0 with
  | .lp _=>(match Zr5 x (.yld a (nxt h a))with
    |some (g,avs)=>(match ZaG T g avs with
     |some af=>some (acc,af,{ f with todo:=.inRF a (nxt h a)::k } ::fs,Zae h a (.lp { st:=.ready,fn:=f.fn,N:=f.N,env:=f.env,params:=ps,asg:=asg,body:=body }))
     |none=>none)
    |none=>none)
  |_=>none)
def Zhl:List AOp→Bool
 |[]=>false
 |o::os=>match o.k.inl with |true=>true |false=>Zhl os
theorem ZdD:∀ {os:List AOp},Zhl os=false→ZbP os=os.length
 |[],_=>rfl
 |o::os,h=>by
  simp only[Zhl]at h
  split at h
  ·cases h
  ·rename_i e;simp only[ZbP,e,List.length_cons];rw[ZdD h]
def Zir(A:Ar)(T:Tab)(K:Con)(acc:List Bool)(f:AFrame)(k:List AItem)(fs:List AFrame)(h:Zab):ACode→Zlj
 | .skip=>some (acc,{ f with todo:=k },fs,h)
 | .reg d ops=>(match d with
   |none=>some (acc,{ f with todo:=.inReg ops::k },fs,h)
   |some fr=>match ZhR fr with
    |true=>none
    |false=>match Zhl ops with
     |false=>(match ZgK A T K ops acc f.env h with
      |some (acc',env',h')=>(match Zot A T K fr ops f.env h with
       |true=>some (acc',{ f with env:=env',todo:=k },fs,h')
       |false=>none)
      |none=>none)
     |true=>match ZgK A T K (ops.take (ZbP ops)) acc f.env h with
      |some (acc',env',h')=>(match Zot A T K fr (ops.take (ZbP ops)) f.env h with
       |true=>some (acc',{ f with env:=env',todo:=.inReg (ops.drop (ZbP ops))::k },fs,h')
       |false=>none)
      |none=>none)
 | .seq a b=>some (acc,{ f with todo:=.code a::.code b::k },fs,h)
 | .cond c a b=>(match ZaS (Zau f.env) c with
   | .bool t=>(match t with
     |true=>some (acc,{ f with todo:=.code a::k },fs,h)
     |false=>some (acc,{ f with todo:=.code b::k },fs,h))
   |_=>none)
 | .block id b=>some (acc,{ f with todo:=.code b::.inBlock id::k },fs,h)
 | .loop b=>some (acc,{ f with todo:=.code b::.inLoop b::k },fs,h)
 | .rf a x ps asg body=>rfA T acc f k fs h a (ZaS (Zau f.env) x) ps asg body
 | .exit id=>(match ZbL id k with
   |some k'=>some (acc,{ f with todo:=k' },fs,h)
   |none=>Zhp acc fs h f.rnd (some (.exit id)))
 | .ret=>(match f.rnd with
   |none=>some (acc,{ f with ret:=true,todo:=[] },fs,h)
   |some p=>Zhp acc fs h (some p) (some .ret))
 | .junk=>none
 | .gh gs c=>(match ZcW f.env h gs with
   |some (env',h')=>some (acc,{ f with env:=env',todo:=.code c::k },fs,h')
   |none=>none)
def Zvl(A:Ar)(acc:List Bool)(f:AFrame)(fs:List AFrame)(h:Zab):Zlj:=
 match f.defs with
 |(a,i)::ds=>(match blk h a i with
  | .dfr=>some (acc,{ f with defs:=ds },fs,Zav h a i .dead)
  |_=>none)
 |[]=>match f.rnd with
  |some _=>none
  |none=>match fs with
   |[]=>none
   |c::fs'=>match Zdj A f.env h f.res with
    |some (b,vs)=>(match ZqV c (Zdu vs)with
     |some c'=>some (b::acc,c',fs',h)
     |none=>none)
    |none=>none
def Zed(A:Ar)(T:Tab)(K:Con)(acc:List Bool)(f:AFrame)(fs:List AFrame)(h:Zab):Zlj:=
 match f.ret with
 |true=>Zvl A acc f fs h
 |false=>match f.todo with
  |[]=>(match f.rnd with
   |none=>some (acc,{ f with ret:=true,todo:=[] },fs,h)
   |some p=>Zhp acc fs h (some p) none)
  |it::k=>match it with
   | .inBlock _=>some (acc,{ f with todo:=k },fs,h)
   | .inLoop b=>some (acc,{ f with todo:=.code b::.inLoop b::k },fs,h)
   | .inReg os=>(match os with
     |[]=>some (acc,{ f with todo:=k },fs,h)
     |o::os=>opA A T K acc o os f k fs h)
   | .inRF _ _=>none
   | .endRF a i=>(match blk h a i with
     | .lp l=>(match Nat.beq l.N f.N with
       |true=>(match l.st with
        | .ready=>some (acc,{ f with todo:=k },fs,Zav h a i .dead)
        | .done j=>some (acc,{ f with todo:=.code j::k },fs,Zav h a i .dead)
        | .busy=>none)
       |false=>none)
     |_=>none)
   | .beginRound=>(match f.rnd with
     |some (a,i)=>(match blk h a i with
      | .lp l=>(match l.st with
        | .ready=>some (acc,{ f with todo:=k },fs,Zav h a i (.lp { l with st:=.busy }))
        |_=>none)
      |_=>none)
     |none=>none)
   | .code c=>Zir A T K acc f k fs h c
section
variable {C:Ctx}{T:Tab}{K:Con}{h h':Zab}{f f':AFrame}{fs fs':List AFrame}{k:List AItem}{Q:List AFrame→Zab→Prop}{acc acc':List Bool}
def Ze9(C:Ctx)(Q:List AFrame→Zab→Prop)(acc:List Bool)(f:AFrame)(fs:List AFrame)(h:Zab)(r:Zlj):Prop:=
 ∀acc' f' fs' h',r=some (acc',f',fs',h')→(∀b∈acc',b=true)→Ev C (f'::fs') h' Q→(∀b∈acc,b=true)∧Ev C (f::fs) h Q
theorem Zcd{jump:Option ACode}(hr:f.ret=false)
 (ht:(jump=none∧f.todo=[])∨(jump=some .ret∧∃k,f.todo=.code .ret::k)∨∃id k,jump=some (.exit id)∧f.todo=.code (.exit id)::k∧ZbL id k=none):Ze9 C Q acc f fs h (Zhp acc fs h f.rnd jump):=by
 intro acc' f' fs' h' he hb hq
 unfold Zhp at he
 split at he
 ·cases he
 ·rename_i a i hn
  split at he
  ·cases he
  ·rename_i c fs2
   split at he
   ·rename_i l hbl
    split at he
    ·rename_i c' hfin
     cases he
     exact⟨hb,Zn9 jump hr hn hbl ht hfin hq⟩
    ·cases he
   ·cases he
theorem ZfE{o:AOp}(hg:Zd5 o f.env=some true):ZdI o f.env:=by
 unfold Zd5 at hg
 unfold ZdI
 split
 ·trivial
 ·rename_i t want hgg
  rw[hgg]at hg
  simp only at hg
  split at hg
  ·rename_i b hb
   rw[hb]
   cases want<;>simp at hg<;>simp[hg]
  ·simp at hg
  ·cases hg
theorem ZbG(hT:Zbg C.P T){o:AOp}{os:List AOp}{g:FuncId}{avs:List AV}(hr:f.ret=false)(ht:f.todo=.inReg (o::os)::k)
 (ho:(∃args m a,(o.k=.icall g args∨o.k=.ncall m a g args)∧avs=args.map (ZaS (Zau f.env)))∨(∃x args caps m a,(o.k=.icallv x args∨o.k=.ncallv m a x args)∧ZaS (Zau f.env) x=.fn g caps∧avs=args.map (ZaS (Zau f.env))++caps)):
 Ze9 C Q acc f fs h (ZfA T acc o f fs h g avs):=by
 intro acc' f' fs' h' he hb hq
 unfold ZfA at he
 split at he
 ·rename_i hg
  split at he
  ·rename_i af haf
   cases he
   exact⟨hb,ZqB hT hr ht (ZfE hg) ho haf hq⟩
  ·cases he
 ·cases he
theorem Zhd{o:AOp}{os:List AOp}{x:Opd}{args:List Opd}(hr:f.ret=false)(ht:f.todo=.inReg (o::os)::k)(ho:o.k=.icallv x args):Ze9 C Q acc f fs h (Zlg acc o f fs h (ZaS (Zau f.env) x) args):=by
 intro acc' f' fs' h' he hb hq
 unfold Zlg at he
 split at he
 ·rename_i hg
  split at he
  ·rename_i a i hx
   split at he
   ·rename_i l hbl
    split at he
    ·rename_i hlen
     cases he
     exact⟨hb,ZnE hr ht (ZfE hg) ho hx hbl (by simpa using hlen) hq⟩
    ·cases he
   ·cases he
  ·cases he
 ·cases he
theorem Zg7(hT:Zbg C.P T)(hK:Zee C.P K){o:AOp}{os:List AOp}(hr:f.ret=false)(ht:f.todo=.inReg (o::os)::k):Ze9 C Q acc f fs h (opA std T K acc o os f k fs h):=by
 intro acc' f' fs' h' he hb hq
 unfold opA at he
 split at he
 ·rename_i b r h1 hs
  cases he
  have hbt:b=true:=hb b List.mem_cons_self
  subst hbt
  exact⟨fun b hb'=>hb b (List.mem_cons_of_mem _ hb'),Zux hr ht (Zb1 hT hK hs) hq⟩
 ·split at he
  ·rename_i g args ho
   exact ZbG hT hr ht (.inl ⟨args,false,0, .inl ho,rfl⟩) _ _ _ _ he hb hq
  ·rename_i m a g args ho
   exact ZbG hT hr ht (.inl ⟨args,m,a, .inr ho,rfl⟩) _ _ _ _ he hb hq
  ·rename_i m a x args ho
   split at he
   ·rename_i g caps hx
    exact ZbG hT hr ht (.inr ⟨x,args,caps,m,a, .inr ho,hx,rfl⟩) _ _ _ _ he hb hq
   ·cases he
  ·rename_i x args ho
   split at he
   ·rename_i g caps hx
    exact ZbG hT hr ht (.inr ⟨x,args,caps,false,0, .inl ho,hx,rfl⟩) _ _ _ _ he hb hq
   ·exact Zhd hr ht ho _ _ _ _ he hb hq
  ·cases he
theorem ZlN(hT:Zbg C.P T){a:Nat}{x:Opd}{ps:List Nat}{asg body:ACode}(hr:f.ret=false)(ht:f.todo=.code (.rf a x ps asg body)::k):Ze9 C Q acc f fs h (rfA T acc f k fs h a (ZaS (Zau f.env) x) ps asg body):=by
 intro acc' f' fs' h' he hb hq
 unfold rfA at he
 split at he
 ·rename_i hn
  split at he
  ·rename_i g avs hx
   split at he
   ·rename_i af haf
    cases he
    exact⟨hb,Zrk hT hr ht hx (.inl ⟨hn,rfl,rfl⟩) haf hq⟩
   ·cases he
  ·cases he
 ·rename_i a0 i0 hn
  split at he
  ·rename_i l0 hl0
   split at he
   ·rename_i g avs hx
    split at he
    ·rename_i af haf
     cases he
     exact⟨hb,Zrk hT hr ht hx (.inr ⟨⟨a0,i0,l0,hn,hl0⟩,rfl,rfl⟩) haf hq⟩
    ·cases he
   ·cases he
  ·cases he
theorem Zkq(hr:f.ret=true):Ze9 C Q acc f fs h (Zvl std acc f fs h):=by
 intro acc' f' fs' h' he hb hq
 unfold Zvl at he
 split at he
 ·rename_i a i ds hd
  split at he
  ·rename_i hbl
   cases he
   exact⟨hb,Zlk hr hd hbl hq⟩
  ·cases he
 ·rename_i hd
  split at he
  ·cases he
  ·rename_i hn
   split at he
   ·cases he
   ·rename_i c fs2
    split at he
    ·rename_i b vs hc
     split at he
     ·rename_i c' hfin
      cases he
      have hbt:b=true:=hb b List.mem_cons_self
      subst hbt
      exact⟨fun b hb'=>hb b (List.mem_cons_of_mem _ hb'),Zrw hr hn hd hc hfin hq⟩
     ·cases he
    ·cases he
theorem Zis(hfol:C.P.follows .mixedOrders=true)(hT:Zbg C.P T)(hK:Zee C.P K){c:ACode}(hr:f.ret=false)(ht:f.todo=.code c::k):Ze9 C Q acc f fs h (Zir std T K acc f k fs h c):=by
 intro acc' f' fs' h' he hb hq
 cases c with
 |skip=>cases he;exact⟨hb,Zpk hr ht hq⟩
 |reg d ops=>
  simp only[Zir]at he
  split at he
  ·cases he;exact⟨hb,Zsz hr ht hq⟩
  ·split at he
   ·cases he
   rename_i hany
   split at he
   ·rename_i hni
    split at he
    ·rename_i acc1 env1 h1 hd
     split at he
     ·rename_i hfree
      cases he
      obtain⟨d1,d2⟩:=ZcT hT hK hd hb
      have hc:=ZdD hni
      refine⟨fun b hb'=>hb b (Zdb hd b hb'),Zgl hfol hany hr ht (by rw[hc,List.take_length];exact d1) (fun i j x z hm hx hz _=>Zft hfree i j x z hm hx hz) d2 (fun _ _ e=>e) ?_⟩
      rw[hc,List.drop_length]
      exact ZeM hr rfl hq
     ·cases he
    ·cases he
   ·split at he
    ·rename_i acc1 env1 h1 hd
     split at he
     ·rename_i hfree
      cases he
      obtain⟨d1,d2⟩:=ZcT hT hK hd hb
      exact⟨fun b hb'=>hb b (Zdb hd b hb'),Zgl hfol hany hr ht d1 (fun i j x z hm hx hz _=>Zft hfree i j x z hm hx hz) d2 (fun _ _ e=>e) hq⟩
     ·cases he
    ·cases he
 |seq a b=>cases he;exact⟨hb,Zsy hr ht hq⟩
 |cond c a b=>
  simp only[Zir]at he
  split at he
  ·rename_i t hc
   split at he
   ·cases he;exact⟨hb,ZiI hr ht hc hq⟩
   ·cases he;exact⟨hb,ZiI hr ht hc hq⟩
  ·cases he
 |block id b=>cases he;exact⟨hb,Zm9 hr ht hq⟩
 |loop b=>cases he;exact⟨hb,ZpR hr ht hq⟩
 |rf a x ps asg body=>exact ZlN hT hr ht _ _ _ _ he hb hq
 |exit id=>
  simp only[Zir]at he
  split at he
  ·rename_i k' hk
   cases he;exact⟨hb,ZqD hr ht hk hq⟩
  ·rename_i hk
   exact Zcd hr (.inr (.inr ⟨id,k,rfl,ht,hk⟩)) _ _ _ _ he hb hq
 |ret=>
  simp only[Zir]at he
  split at he
  ·rename_i hn
   cases he;exact⟨hb,Zms hr hn (.inr ⟨k,ht⟩) hq⟩
  ·rename_i p hn
   rw[←hn]at he
   exact Zcd hr (.inr (.inl ⟨rfl,k,ht⟩)) _ _ _ _ he hb hq
 |junk=>cases he
 |gh gs c=>
  simp only[Zir]at he
  split at he
  ·rename_i env1 h1 hg
   cases he
   exact⟨hb,ZvA hr ht hg hq⟩
  ·cases he
theorem Zev(hfol:C.P.follows .mixedOrders=true)(hT:Zbg C.P T)(hK:Zee C.P K):Ze9 C Q acc f fs h (Zed std T K acc f fs h):=by
 intro acc' f' fs' h' he hb hq
 unfold Zed at he
 split at he
 ·rename_i hr
  exact Zkq hr _ _ _ _ he hb hq
 ·rename_i hr
  split at he
  ·rename_i ht
   split at he
   ·rename_i hn
    cases he;exact⟨hb,Zms hr hn (.inl ht) hq⟩
   ·rename_i p hn
    rw[←hn]at he
    exact Zcd hr (.inl ⟨rfl,ht⟩) _ _ _ _ he hb hq
  ·rename_i it k ht
   split at he
   ·cases he;exact⟨hb,ZkF hr ht hq⟩
   ·cases he;exact⟨hb,Zl1 hr ht hq⟩
   ·split at he
    ·cases he;exact⟨hb,ZeM hr ht hq⟩
    ·exact Zg7 hT hK hr ht _ _ _ _ he hb hq
   ·cases he
   ·rename_i a i
    split at he
    ·rename_i l hbl
     split at he
     ·rename_i hN
      have hN:l.N=f.N:=by simpa using hN
      split at he
      ·rename_i hst
       cases he
       exact⟨hb,ZiS hr ht hbl hN (.inl hst) (by rw[hst];exact hq)⟩
      ·rename_i j hst
       cases he
       exact⟨hb,ZiS hr ht hbl hN (.inr ⟨j,hst⟩) (by rw[hst];exact hq)⟩
      ·cases he
     ·cases he
    ·cases he
   ·split at he
    ·rename_i a i hn
     split at he
     ·rename_i l hbl
      split at he
      ·rename_i hst
       cases he
       exact⟨hb,ZnM hr hn ht hbl hst hq⟩
      ·cases he
     ·cases he
    ·cases he
   ·rename_i c
    exact Zis hfol hT hK hr ht _ _ _ _ he hb hq
end
end Go.Proofs.Ytbbemleognkdhaa
/- Runs of the machine; a contract out of a run. No condition. -/
namespace Go.Proofs.Ytbbemleognkdhaa
open Go.RowKit (Below)
def ZqL(f:AFrame):Bool:=
 match f.ret with
 |true=>false
 |false=>match f.todo with
  |it::_=>(match it with
   | .code c=>(match c with | .gh gs _=>(match gs with |[]=>true |_=>false) |_=>false)
   |_=>false)
  |[]=>false
abbrev ASt:=List Bool×AFrame×List AFrame×Zab
def Ztf(A:Ar)(T:Tab)(K:Con)(stop:Bool):Nat→List Bool→AFrame→List AFrame→Zab→ASt
 |0,acc,f,fs,h=>(acc,f,fs,h)
 |n+1,acc,f,fs,h=>match Zed A T K acc f fs h with
  |none=>(acc,f,fs,h)
  |some (acc',f',fs',h')=>match stop with
   |false=>Ztf A T K stop n acc' f' fs' h'
   |true=>match ZqL f with
    |true=>(acc',f',fs',h')
    |false=>Ztf A T K stop n acc' f' fs' h'
section
variable {C:Ctx}{T:Tab}{K:Con}{h h':Zab}{f f':AFrame}{fs fs':List AFrame}{k:List AItem}{Q:List AFrame→Zab→Prop}{acc acc':List Bool}
def Zsa:List AV→Option (Nat×Nat)
 |[]=>none
 | .row a i::_=>some (a,i)
 |_::xs=>Zsa xs
def Zjl(a i:Nat):AV→AV
 | .row b j=>match Nat.beq b a with |true=>(match Nat.beq j i with |true=>.row 0 0 |false=>.top) |false=>.top
 |v=>v
def ZjG(h:Zab)(p:Nat×Nat)(v:AV):Option (AV×Option Fresh):=
 match blk h p.1 p.2 with
 | .row e sz r=>(match r.pure with
   |true=>(match Zma v with |true=>some (v,some ⟨e,sz,r⟩) |false=>none)
   |false=>none)
 |_=>none
def ZhI(p:Nat×Nat):List AV→Bool
 |[]=>true
 | .row a i::xs=>match Nat.beq a p.1 with |true=>(match Nat.beq i p.2 with |true=>ZhI p xs |false=>false) |false=>false
 |_::xs=>ZhI p xs
def Zil(h:Zab):AV→Option (AV×Option Fresh)
 | .tup xs=>match Zsa xs with
   |none=>(match AV.pureL xs with |true=>some (.tup xs,none) |false=>none)
   |some p=>match ZhI p xs with |true=>ZjG h p (.tup (xs.map (Zjl p.1 p.2))) |false=>none
 | .row a i=>ZjG h (a,i) (.row 0 0)
 |v=>match v.pure with |true=>some (v,none) |false=>none
def Zpb:AV→Bool
 | .slc .. =>false
 | .aslc .. =>false
 | .ptr .. =>false
 | .fn .. =>false
 |_=>true
def ZoY:AV→Bool
 | .tup xs=>xs.all Zpb
 |v=>Zpb v
def ZrE(h:Zab):AV→Option (AV×Option Fresh)
 | .tup xs=>match ZgM std (Za7 std h 4) xs with |some (b,ys)=>(match b with |true=>some (.tup ys,none) |false=>none) |none=>none
 |v=>match Za7 std h 4 v with |some (b,u)=>(match b with |true=>some (u,none) |false=>none) |none=>none
def ZdB(h:Zab)(v:AV):Option (AV×Option Fresh):=
 match Zil h v with
 |some r=>some r
 |none=>match ZoY v with |true=>ZrE h v |false=>none
theorem HRel.nil{L L':Lay}{w:World}(H:HRel C h L w):HRel C [] L' w:=
 ⟨H.below,fun _ _ ht=>absurd rfl ht.tag,fun _ _=>trivial,fun _ _ _ _ ht=>absurd rfl ht.tag,fun _ _ ht=>absurd rfl ht.tag,H.low,H.base,H.good⟩
theorem Za9(f:Fresh)(a i:Nat):blk (Zak (some f)) a i=if a=0∧i=0 then .row f.e f.sz f.r else .dead:=by
 by_cases ha:a=0
 ·subst ha
  by_cases hi:i=0
  ·subst hi;rfl
  ·rw[if_neg (by simp[hi])]
   exact Zhv (by show 0+1≤i;omega)
 ·rw[if_neg (by simp[ha])]
  have:Zau (Zak (some f)) a=none:=by
   have hb:Nat.beq 0 a=false:=by cases hb:Nat.beq 0 a with |false=>rfl |true=>exact absurd (Nat.eq_of_beq_eq_true hb).symm ha
   simp[Zak,Zau,hb]
  unfold blk fam
  rw[this]
  exact Zhv (h:=[]) (a:=0) (Nat.zero_le _)
theorem Zly{L:Lay}{w:World}(H:HRel C h L w){a i e sz:Nat}{r:Row}(hb:blk h a i=.row e sz r)(hp:r.pure=true):∃L',HRel C (Zak (some ⟨e,sz,r⟩)) L' w∧(∀g,Zaj C h L g→Zaj C (Zak (some ⟨e,sz,r⟩)) L' g)∧
 ∀x,Zao C h L w (.row a i) x→Zao C (Zak (some ⟨e,sz,r⟩)) L' w (.row 0 0) x:=by
 obtain⟨ht,h0,h1,h2,h3⟩:=H.rowAt hb
 have hpp:∀ {b j:Nat},Plc (Zak (some ⟨e,sz,r⟩)) ⟨fun _ _=>L.loc a i,fun _ _=>L.size a i⟩ b j→(b=0∧j=0)∧Plc h L a i:=fun {b j} p=>by
  by_cases h00:b=0∧j=0
  ·refine⟨h00,?_⟩
   obtain⟨s,e1,e2⟩:=p
   rw[Za9,if_pos h00]at e1
   exact⟨s,ht.trans e1,e2⟩
  ·exact absurd (by rw[Za9,if_neg h00];rfl) p.tag
 refine⟨⟨fun _ _=>L.loc a i,fun _ _=>L.size a i⟩,?_,?_,?_⟩
 ·have hok:∀g,Zaj C h L g→Zaj C (Zak (some ⟨e,sz,r⟩)) ⟨fun _ _=>L.loc a i,fun _ _=>L.size a i⟩ g:=fun g ho=>by
   rcases ho with ho |⟨q1,q2⟩
   ·exact .inl ho
   ·exact .inr ⟨q1,fun b j p=>q2 a i (hpp p).2⟩
  refine⟨H.below,fun b j p=>H.live a i (hpp p).2,fun b j=>?_,fun b j c k hb1 hb2 _=>?_,fun b j hb1=>?_,H.low,H.base,H.good⟩
  rotate_right
  ·obtain⟨e1,hp1⟩:=hpp hb1
   rcases H.home a i hp1 with h9 |⟨_,_,h9⟩
   ·exact .inl h9
   ·exact .inr ⟨e1.1,e1.2,h9⟩
  ·rw[Za9]
   split
   ·refine⟨h0,h1,h2,h3,fun hn=>?_⟩
    obtain⟨_,cur,h4,h5,h6,h7,h8⟩:=H.curAt hb hn
    exact⟨cur,h4,h5,⟨h6.1,fun j u v hu hv=>((h6.2 j u v hu hv).okmono (fun g _ ho=>hok g ho)).pure (AV.pureL_mem (ZaJ hp) hu)⟩,h7⟩
   ·trivial
  ·obtain⟨e1,_⟩:=hpp hb1
   obtain⟨e2,_⟩:=hpp hb2
   exact⟨e1.1.trans e2.1.symm,e1.2.trans e2.2.symm⟩
 ·intro g ho
  rcases ho with ho |⟨q1,q2⟩
  ·exact .inl ho
  ·exact .inr ⟨q1,fun b j p=>q2 a i (hpp p).2⟩
 ·intro x hx
  cases hx with
  |row _ _ ad n c hn hl=>
   have:=hl.2 _ ht
   refine .row 0 0 ad n c hn ⟨by show 0<0+1;omega,fun sz' hsz'=>?_⟩
   rw[Za9]at hsz'
   simp only[and_self,if_true,Blk.tag,Option.some.injEq]at hsz'
   subst hsz'
   exact this
theorem ZlH{L L':Lay}{w:World}{a i:Nat}{h2:Zab}(hok:∀g,Zaj C h L g→Zaj C h2 L' g)(hrow:∀x,Zao C h L w (.row a i) x→Zao C h2 L' w (.row 0 0) x){v:AV}{x:Value}(hr:Zao C h L w v x)(hp:ZhY (Zjl a i v)=true):Zao C h2 L' w (Zjl a i v) x:=by
 have base:∀ {v:AV},Zao C h L w v x→v.pure=true→Zao C h2 L' w v x:=fun hr hp=>(hr.okmono (fun g _ ho=>hok g ho)).pure hp
 unfold Zjl at hp⊢
 split
 ·rename_i b j
  split
  ·rename_i hba
   split
   ·rename_i hji
    have:=Nat.eq_of_beq_eq_true hba
    have:=Nat.eq_of_beq_eq_true hji
    subst b;subst j
    exact hrow x hr
   ·exact .top _
  ·exact .top _
 ·rename_i hne
  have hpp:v.pure=true:=by
   cases v<;>first |exact hp |exact absurd rfl (hne _ _)
  exact base hr hpp
theorem ZgE{L:Lay}{w:World}(H:HRel C h L w){v r:AV}{fr:Option Fresh}{x:Value}(hr:Zao C h L w v x)(he:Zil h v=some (r,fr)):∃L',HRel C (Zak fr) L' w∧Zao C (Zak fr) L' w r x:=by
 have base:∀ {v:AV},Zao C h L w v x→v.pure=true→∃L',HRel C (Zak none) L' w∧Zao C (Zak none) L' w v x:=fun hr hp=>⟨L,H.nil,(hr.okmono (fun g _ ho=>Zdm ho)).pure hp⟩
 unfold Zil at he
 split at he
 ·rename_i xs
  split at he
  ·split at he
   ·rename_i hp
    cases he
    exact base hr (by simpa[AV.pure]using hp)
   ·cases he
  ·rename_i p hp
   split at he
   case h_2=>cases he
   unfold ZjG at he
   split at he
   ·rename_i e sz rr hb
    split at he
    ·rename_i hrp
     split at he
     ·rename_i hpt
      cases he
      obtain⟨L',H',hok,hrow⟩:=Zly H hb hrp
      refine⟨L',H',?_⟩
      cases hr with
      |tup _ vs hl hh=>
       refine .tup _ vs (by simpa using hl) (fun j u v hu hv=>?_)
       rw[List.getElem?_map]at hu
       cases hx:xs[j]? with
       |none=>rw[hx]at hu;cases hu
       |some u0=>
        rw[hx]at hu
        simp only[Option.map_some,Option.some.injEq]at hu
        subst hu
        refine ZlH hok hrow (hh j u0 v hx hv) ?_
        simp only[Zma,List.all_eq_true,List.mem_map,forall_exists_index,and_imp,forall_apply_eq_imp_iff₂]at hpt
        exact hpt u0 (List.mem_of_getElem? hx)
     ·cases he
    ·cases he
   ·cases he
 ·rename_i a i
  unfold ZjG at he
  split at he
  ·rename_i e sz rr hb
   split at he
   ·rename_i hrp
    split at he
    ·cases he
     obtain⟨L',H',hok,hrow⟩:=Zly H hb hrp
     exact⟨L',H',hrow x hr⟩
    ·cases he
   ·cases he
  ·cases he
 ·split at he
  ·rename_i hp;cases he;exact base hr hp
  ·cases he
theorem Zd8{L:Lay}{w:World}(H:HRel C h L w){v r:AV}{fr:Option Fresh}{x:Value}(hr:Zao C h L w v x)(he:ZdB h v=some (r,fr)):∃L',HRel C (Zak fr) L' w∧Zao C (Zak fr) L' w r x:=by
 unfold ZdB at he
 split at he
 ·rename_i q hq
  cases he
  exact ZgE H hr hq
 ·rename_i hnone
  clear hnone
  generalize ZoY v=ww at he
  cases ww
  case false=>cases he
  dsimp only at he
  unfold ZrE at he
  split at he
  ·rename_i xs
   split at he
   ·rename_i b ys hm
    split at he
    ·cases he
     refine⟨L,H.nil,?_⟩
     cases hr with
     |tup _ vs hl hh=>
      obtain⟨g1,g2⟩:=ZbQ hm
      refine .tup _ vs (by rw[←g1];exact hl) (fun j u v hu hv=>?_)
      have hlt:j<xs.length:=by rw[g1];exact(List.getElem?_eq_some_iff.1 hu).1
      exact Zc8 H 4 _ _ _ (hh j _ v (List.getElem?_eq_getElem hlt) hv) (g2 j _ u (List.getElem?_eq_getElem hlt) hu)
    ·cases he
   ·cases he
  ·split at he
   ·rename_i b u hm
    split at he
    ·cases he
     exact⟨L,H.nil,Zc8 H 4 _ _ _ hr hm⟩
    ·cases he
   ·cases he
def Zk4(A:Ar)(h:Zab):AV→Bool×AV
 | .slc a i k n c=>match Nat.beq k 0,c with
   |true,none=>(match blk h a i with | .row _ _ r=>(Nat.beq n (r.len A), .row a i) |_=>(true, .slc a i k n none))
   |_,c=>(true, .slc a i k n c)
 |v=>(true,v)
def ZbH(A:Ar)(h:Zab):List AV→Bool×List AV
 |[]=>(true,[])
 |v::vs=>match Zk4 A h v,ZbH A h vs with |(b,u),(c,us)=>(Zam b c,u::us)
def ZkP(A:Ar)(env:List (Nat×AV))(h:Zab)(rs:List ARes):Option (Bool×List AV):=
 match Zdj A env h rs with
 |some (b,vs)=>match ZbH A h vs with |(c,us)=>some (Zam b c,us)
 |none=>none
theorem Zkb{L:Lay}{w:World}(H:HRel C h L w){v u:AV}{x:Value}(hw:Zk4 std h v=(true,u))(hr:Zao C h L w v x):Zao C h L w u x:=by
 unfold Zk4 at hw
 split at hw
 ·rename_i a i k n c
  split at hw
  ·rename_i hk
   have hk:=Nat.eq_of_beq_eq_true hk
   subst hk
   split at hw
   ·rename_i e sz r hb
    simp only[Prod.mk.injEq]at hw
    obtain⟨hn,rfl⟩:=hw
    have hn:n=r.elems.length:=by rw[Row.len_std]at hn;simpa[std]using hn
    have htg:=H.tagAt hb
    cases hr with
    |slc _ _ _ _ _ ad c hnc hl=>
     rcases hl.2 _ htg with⟨hne,_⟩ |⟨h0,rfl⟩ |⟨rfl,hc1,hc2⟩
     ·exact absurd rfl hne
     ·refine .row a i ad n 0 hnc ⟨hl.1,fun s hs=>?_⟩
      rw[htg]at hs
      cases hs
      exact⟨fun hh=>absurd rfl hh,hn,h0.symm⟩
     ·refine .row a i _ n c hnc ⟨hl.1,fun s hs=>?_⟩
      rw[htg]at hs
      cases hs
      exact⟨fun _=>by simp,hn,by simpa using hc2⟩
   ·cases hw;exact hr
  ·cases hw;exact hr
 ·cases hw;exact hr
theorem ZdV{L:Lay}{w:World}(H:HRel C h L w):∀ {vs us:List AV} {xs:List Value},ZbH std h vs=(true,us)→RelL w (Zaj C h L) h L vs xs→RelL w (Zaj C h L) h L us xs
 |[],us,xs,hw,hr=>by
  simp only[ZbH,Prod.mk.injEq]at hw
  rw[←hw.2];exact hr
 |v::vs,us,xs,hw,hr=>by
  simp only[ZbH,Prod.mk.injEq,std_and]at hw
  obtain⟨⟨h1,h2⟩,rfl⟩:=hw
  cases xs with
  |nil=>have:=hr.1;simp at this
  |cons x xs=>
   refine RelL.cons (Zkb H (v:=v) (by rw[←h1]) (hr.2 0 v x rfl rfl)) (ZdV H (vs:=vs) (by rw[←h2]) ⟨by have:=hr.1;simpa using this,fun j a b ha hb=>hr.2 (j+1) a b (by simpa using ha) (by simpa using hb)⟩)
theorem ZfT(h:Zab):∀ {vs us:List AV} {b:Bool},ZbH std h vs=(b,us)→us.length=vs.length
 |[],us,b,hw=>by
  simp only[ZbH,Prod.mk.injEq]at hw
  rw[←hw.2]
 |v::vs,us,b,hw=>by
  simp only[ZbH,Prod.mk.injEq]at hw
  rw[←hw.2,List.length_cons,List.length_cons,ZfT h (vs:=vs) rfl]
theorem Zfz{L:Lay}{w:World}(H:HRel C h L w){vs us:List AV}{x:Value}(hw:ZbH std h vs=(true,us))(hr:Zao C h L w (Zdu vs) x):Zao C h L w (Zdu us) x:=by
 have hl:=ZfT h hw
 have tup:∀ {vs us:List AV},ZbH std h vs=(true,us)→us.length=vs.length→Zao C h L w (.tup vs) x→Zao C h L w (.tup us) x:=fun hw hl hr=>by
  cases hr with
  |tup _ xs h1 h2=>
   have:=ZdV H hw (xs:=xs.toList) ⟨by simpa using h1,fun j u v hu hv=>h2 j u v hu (by simpa using hv)⟩
   exact .tup _ xs (by rw[hl];exact h1) (fun j u v hu hv=>this.2 j u v hu (by simpa using hv))
 match vs,us,hl with
 |[],[],_=>exact hr
 |[v],[u],_=>
  have:=ZdV H hw (xs:=[x]) (RelL.cons hr RelL.nil)
  exact this.2 0 u x rfl rfl
 |v::v2::vs,u::u2::us,hl=>exact tup hw hl hr
def ZiW(f:FuncId)(r:AV)(fr:Option Fresh)(fs:List AFrame)(h:Zab):Prop:=
 ∃g vs,fs=[g]∧g.fn=f∧g.ret=true∧g.rnd=none∧g.defs=[]∧ZkP std g.env h g.res=some (true,vs)∧ZdB h (Zdu vs)=some (r,fr)
theorem ZfS{P:Program}{T:Tab}(hT:Zbg P T){f:FuncId}{args:List AV}{af:AFrame}{r:AV}{fr:Option Fresh}(he:ZaG T f args=some af)
 (hq:∀w okA cs,Ev (Ctx.of P w okA cs) [af] [] (ZiW f r fr)):Zaf P f args r fr:=by
 intro w okA L vs hargs hok hG cs
 have H0:HRel (Ctx.of P w okA cs) [] L w:=⟨Below.refl _ _,fun _ _ ht=>absurd rfl ht.tag,fun _ _=>trivial,fun _ _ _ _ ht=>absurd rfl ht.tag,fun _ _ ht=>absurd rfl ht.tag,fun _ _ _=>rfl,Nat.le_refl _,hG⟩
 obtain⟨hfr,_⟩:=Zda (C:=(Ctx.of P w okA cs)) (h:=[]) (L:=L) (w:=w) hT he (by
  refine⟨hargs.1,fun j u v hu hv=>(hargs.2 j u v hu hv).okmono (fun g hg ho=>.inl ⟨hok g ho,ho⟩)⟩)
 obtain⟨fs',h',L',fr',cs',w',⟨g,us,rfl,hfn,hret,hrnd,hdefs,hc,hex⟩,_,hf',H',hst,_⟩:=hq w okA cs L _ cs w (.cons hfr .base) H0 (by simp)
 cases hf' with
 |cons hf' hk=>
  cases hk
  obtain⟨fn,hfn',hmr⟩:=hf'.res hrnd
  obtain⟨vs0,hc0,hwl⟩:∃vs0,Zdj std g.env h' g.res=some (true,vs0)∧ZbH std h' vs0=(true,us):=by
   unfold ZkP at hc
   split at hc
   ·rename_i b vs hq
    generalize hz:ZbH std h' vs=z at hc
    obtain⟨c,us'⟩:=z
    simp only[Option.some.injEq,Prod.mk.injEq,std_and]at hc
    obtain⟨⟨rfl,rfl⟩,rfl⟩:=hc
    exact⟨vs,hq,hz⟩
   ·cases hc
  obtain⟨x,e1,e2⟩:=ZcS H' hf'.env hmr hc0
  replace e2:=Zfz H' hwl e2
  obtain⟨L2,H2,r2⟩:=Zd8 H' e2 hex
  have hnew:Zfj fr=false:=by
   cases fr with
   |none=>rfl
   |some f=>
    have hbr:=H2.blks 0 0
    rw[show blk (Zak (some f)) 0 0=.row f.e f.sz f.r from rfl]at hbr
    have:=hbr.1
    show Nat.beq f.sz 0=false
    cases hb:Nat.beq f.sz 0 with
    |false=>rfl
    |true=>have:=Nat.eq_of_beq_eq_true hb;omega
  refine⟨.returned x,w',fr',⟨x,L2,rfl,H2.below,by unfold Zic;rw[hnew];exact⟨⟨H2.below,H2.live,H2.blks,H2.inj,H2.home,H2.low,H2.base,H2.good⟩,r2⟩⟩,hst,hf'.fn.trans hfn,?_⟩
  rcases hf'.mode with⟨_,hm⟩ |⟨e,_⟩
  ·refine⟨hm,?_,hf'.kind,fn,?_,e1⟩
   ·obtain⟨gs,g1,g2,_⟩:=hf'.defs
    rw[hdefs]at g2
    rw[g1,List.eq_nil_of_length_eq_zero g2];rfl
   ·rw[hf'.fn];exact hfn'
  ·rw[hret]at e;cases e
end
end Go.Proofs.Ytbbemleognkdhaa
/- A function called at given values, run to its end. No condition. -/
namespace Go.Proofs.Ytbbemleognkdhaa
open Go.RowKit (Below)
def Zto(A:Ar)(f:FuncId)(s:ASt):Option (Bool×AV×Option Fresh):=
 match s with
 |(acc,g,fs,h)=>match fs with
  |_::_=>none
  |[]=>match g.ret&&Nat.beq g.fn f with
   |false=>none
   |true=>match g.rnd with
    |some _=>none
    |none=>match g.defs with
     |_::_=>none
     |[]=>match ZkP A g.env h g.res with
      |none=>none
      |some (b,vs)=>match ZdB h (Zdu vs)with
       |none=>none
       |some (r,fr)=>match acc.all (fun b=>b)with
        |true=>(match b with |true=>some (true,r,fr) |false=>none)
        |false=>none
section
variable {P:Program}{T:Tab}{K:Con}
theorem Zmg{f:FuncId}{s:ASt}{r:AV}{fr:Option Fresh}(h:Zto std f s=some (true,r,fr)):∃acc g h',s=(acc,g,[],h')∧acc.all (fun b=>b)=true∧ZiW f r fr [g] h':=by
 obtain⟨acc,g,fs,hp⟩:=s
 unfold Zto at h
 dsimp only at h
 split at h
 ·cases h
 ·split at h
  ·cases h
  ·rename_i hg
   simp only[Bool.and_eq_true]at hg
   split at h
   ·cases h
   ·rename_i hn
    split at h
    ·cases h
    ·rename_i hd
     split at h
     ·cases h
     ·rename_i b vs hc
      split at h
      ·cases h
      ·rename_i r' fr' hex
       split at h
       ·rename_i hacc
        cases b
        case false=>cases h
        simp only[Option.some.injEq,Prod.mk.injEq,true_and]at h
        obtain⟨rfl,rfl⟩:=h
        exact⟨acc,g,hp,rfl,hacc,g,vs,rfl,Nat.eq_of_beq_eq_true hg.2,hg.1,hn,hd,hc,hex⟩
       ·cases h
end
end Go.Proofs.Ytbbemleognkdhaa
/- The same arithmetic, ZlA for the kernel. No condition. -/
namespace Go.Proofs.Ytbbemleognkdhaa
def Q.addI:Int→Int→Int
 | .ofNat a, .ofNat b=>.ofNat (Nat.add a b)
 |a,b=>a+b
def Q.subI:Int→Int→Int
 | .ofNat a, .ofNat b=>(match Nat.ble b a with |true=>.ofNat (Nat.sub a b) |false=>.negSucc (Nat.pred (Nat.sub b a)))
 |a,b=>a-b
def Q.mulI:Int→Int→Int
 | .ofNat a, .ofNat b=>.ofNat (Nat.mul a b)
 |a,b=>a*b
def Q.ltI:Int→Int→Bool
 | .ofNat a, .ofNat b=>Nat.blt a b
 | .ofNat _, .negSucc _=>false
 | .negSucc _, .ofNat _=>true
 | .negSucc a, .negSucc b=>Nat.blt b a
def Q.leI:Int→Int→Bool
 | .ofNat a, .ofNat b=>Nat.ble a b
 | .ofNat _, .negSucc _=>false
 | .negSucc _, .ofNat _=>true
 | .negSucc a, .negSucc b=>Nat.ble b a
def Q.eqI:Int→Int→Bool
 | .ofNat a, .ofNat b=>Nat.beq a b
 | .ofNat _, .negSucc _=>false
 | .negSucc _, .ofNat _=>false
 | .negSucc a, .negSucc b=>Nat.beq a b
def Q.inR:IntKind→Int→Bool
 | .i64, .ofNat a=>Nat.ble a 9223372036854775807
 | .i64, .negSucc a=>Nat.ble a 9223372036854775807
 |k,n=>decide (k.min≤n∧n≤k.max)
def ZlA:Ar:={ std with
 add:=Q.addI,sub:=Q.subI,mul:=Q.mulI,lt:=Q.ltI,le:=Q.leI,eq:=Q.eqI,inR:=Q.inR }
theorem ZnF:ZlA=std:=by
 have hb:∀a b:Nat,Nat.beq a b=decide (a=b):=fun a b=>by rw[Bool.eq_iff_iff];simp
 have hl:∀a b:Nat,Nat.ble a b=decide (a≤b):=fun a b=>by rw[Bool.eq_iff_iff];simp
 have ht:∀a b:Nat,Nat.blt a b=decide (a<b):=fun a b=>by rw[Bool.eq_iff_iff];simp
 have dec:∀ {p q:Prop} [Decidable p] [Decidable q],(p↔q)→decide p=decide q:=fun h=>by simp[h]
 have decF:∀ {p:Prop} [Decidable p],¬p→false=decide p:=fun h=>by simp[h]
 have decT:∀ {p:Prop} [Decidable p],p→true=decide p:=fun h=>by simp[h]
 have h1:Q.addI=fun a b=>a+b:=by funext a b;cases a<;>cases b<;>rfl
 have h2:Q.subI=fun a b=>a-b:=by
  funext a b
  cases a with
  |ofNat a=>
   cases b with
   |ofNat b=>
    simp only[Q.subI,hl]
    by_cases h:b≤a
    ·simp only[h,decide_true,Int.ofNat_eq_natCast];exact Int.ofNat_sub h
    ·simp only[h,decide_false,Int.negSucc_eq,Int.ofNat_eq_natCast,Nat.pred_eq_sub_one,Nat.sub_eq];omega
   |negSucc b=>rfl
  |negSucc a=>cases b<;>rfl
 have h3:Q.mulI=fun a b=>a*b:=by funext a b;cases a<;>cases b<;>rfl
 have h4:Q.ltI=fun a b=>decide (a<b):=by
  funext a b
  cases a<;>cases b<;>simp only[Q.ltI,ht,Int.ofNat_eq_natCast,Int.negSucc_eq]
  ·exact dec (by omega)
  ·exact decF (by omega)
  ·exact decT (by omega)
  ·exact dec (by omega)
 have h5:Q.leI=fun a b=>decide (a≤b):=by
  funext a b
  cases a<;>cases b<;>simp only[Q.leI,hl,Int.ofNat_eq_natCast,Int.negSucc_eq]
  ·exact dec (by omega)
  ·exact decF (by omega)
  ·exact decT (by omega)
  ·exact dec (by omega)
 have h6:Q.eqI=fun a b=>decide (a=b):=by
  funext a b
  cases a<;>cases b<;>simp only[Q.eqI,hb,Int.ofNat_eq_natCast,Int.negSucc_eq]
  ·exact dec (by omega)
  ·exact decF (by omega)
  ·exact decF (by omega)
  ·exact dec (by omega)
 have h7:Q.inR=fun k n=>decide (k.min≤n∧n≤k.max):=by
  funext k n
  have e1:IntKind.i64.min= -9223372036854775808:=by decide
  have e2:IntKind.i64.max=9223372036854775807:=by decide
  unfold Q.inR
  split
  ·simp only[hl,Int.ofNat_eq_natCast]
   exact dec (by rw[e1,e2];omega)
  ·simp only[hl,Int.negSucc_eq]
   exact dec (by rw[e1,e2];omega)
  ·rfl
 unfold ZlA
 rw[h1,h2,h3,h4,h5,h6,h7]
 rfl
end Go.Proofs.Ytbbemleognkdhaa
namespace Go.Proofs.Ytbbemleognkdhaa
inductive FTree where
 |leaf
 |node (l:FTree) (k:Nat) (v:AFunc) (r:FTree)
def FTree.find:FTree→Nat→Option AFunc
 | .leaf,_=>none
 | .node l k v r,f=>match Nat.beq f k with |true=>some v |false=>match Nat.blt f k with |true=>l.find f |false=>r.find f
def FTree.All(P:Program):FTree→Prop
 | .leaf=>True
 | .node l k v r=>l.All P∧Zal P k v=true∧r.All P
theorem FTree.ok{P:Program} :∀ {t:FTree},t.All P→Zbg P t.find
 | .leaf,_,f,af,h=>by cases h
 | .node l k v r,⟨h1,h2,h3⟩,f,af,h=>by
   simp only[FTree.find]at h
   split at h
   ·rename_i e
    have e:f=k:=Nat.eq_of_beq_eq_true e
    cases h;rw[e];exact h2
   ·split at h
    ·exact FTree.ok h1 f af h
    ·exact FTree.ok h3 f af h
end Go.Proofs.Ytbbemleognkdhaa
/- Runs that keep their states small, for the kernel. No condition. -/
namespace Go.Proofs.Ytbbemleognkdhaa
section
variable {β:Type}
def fN(n:Nat)(k:Nat→β):β:=match n with |0=>k 0 |m+1=>k (Nat.succ m)
def fZ(z:Int)(k:Int→β):β:=match z with | .ofNat n=>fN n fun n=>k (.ofNat n) | .negSucc n=>fN n fun n=>k (.negSucc n)
def fB(b:Bool)(k:Bool→β):β:=match b with |true=>k true |false=>k false
def fL{α:Type}(fa:α→(α→β)→β):List α→(List α→β)→β
 |[],k=>k []
 |x::xs,k=>fa x fun x=>fL fa xs fun xs=>k (x::xs)
def ZsB(fa:AV→(AV→β)→β)(r:Row)(k:Row→β):β:=
 match r with
 | .ints kd l=>fL fZ l fun l=>k (.ints kd l)
 | .flts kd l=>fL fN l fun l=>k (.flts kd l)
 | .gen xs=>fL fa xs fun xs=>k (.gen xs)
 | .big sh xs=>fL fa xs fun xs=>k (.big sh xs)
def fA:Nat→AV→(AV→β)→β
 |0,v,k=>k v
 |d+1,v,k=>match v with
  | .int kd n=>fZ n fun n=>k (.int kd n)
  | .bool b=>fB b fun b=>k (.bool b)
  | .list r=>ZsB (fA d) r fun r=>k (.list r)
  | .agg r=>ZsB (fA d) r fun r=>k (.agg r)
  | .tup xs=>fL (fA d) xs fun xs=>k (.tup xs)
  | .fn f xs=>fL (fA d) xs fun xs=>k (.fn f xs)
  | .eptr u o=>fA d u fun u=>fN o fun o=>k (.eptr u o)
  | .ptr a i j o=>fN i fun i=>fN j fun j=>fN o fun o=>k (.ptr a i j o)
  | .row a i=>fN i fun i=>k (.row a i)
  | .slc a i j n c=>fN i fun i=>fN j fun j=>fN n fun n=>(match c with |none=>k (.slc a i j n none) |some c=>fN c fun c=>k (.slc a i j n (some c)))
  | .aslc a i j o n=>fN i fun i=>fN j fun j=>fN o fun o=>fN n fun n=>k (.aslc a i j o n)
  | .yld a i=>fN i fun i=>k (.yld a i)
  |v=>k v
def ZuM(b:Blk)(k:Blk→β):β:=
 match b with
 | .row e sz r=>ZsB (fA 3) r fun r=>k (.row e sz r)
 |b=>k b
def Zua(f:Fam)(k:Fam→β):β:=match f with |⟨b,l⟩=>fN b fun b=>fL ZuM l fun l=>k ⟨b,l⟩
def Zpg(h:Zab)(k:Zab→β):β:=fL (fun p k=>match p with |(a,f)=>Zua f fun f=>k (a,f)) h k
def Zv5(e:List (Nat×AV))(k:List (Nat×AV)→β):β:=fL (fun p k=>match p with |(t,v)=>fA 4 v fun v=>k (t,v)) e k
def fO(o:Option (Nat×Nat))(k:Option (Nat×Nat)→β):β:=match o with |none=>k none |some p=>match p with |(a,i)=>fN a fun a=>fN i fun i=>k (some (a,i))
def fH{α:Type}(l:List α)(k:List α→β):β:=match l with |[]=>k [] |x::xs=>k (x::xs)
def fFr(f:AFrame)(k:AFrame→β):β:=
 match f with
 |⟨fn,N,env,todo,defs,rnd,ret,res⟩=>fN fn fun fn=>fN N fun N=>fH defs fun defs=>fO rnd fun rnd=>fB ret fun ret=>fH res fun res=>k ⟨fn,N,env,todo,defs,rnd,ret,res⟩
def Znm(f:AFrame)(k:AFrame→β):β:=
 match f with
 |⟨fn,N,env,todo,defs,rnd,ret,res⟩=>Zv5 env fun env=>k ⟨fn,N,env,todo,defs,rnd,ret,res⟩
theorem ZeV(n:Nat)(k:Nat→β):fN n k=k n:=by cases n<;>rfl
theorem Zsm(z:Int)(k:Int→β):fZ z k=k z:=by cases z<;>simp only[fZ,ZeV]
theorem ZrG(b:Bool)(k:Bool→β):fB b k=k b:=by cases b<;>rfl
theorem Zfh{α:Type}{fa:α→(α→β)→β}(hf:∀x k,fa x k=k x):∀(l:List α) (k:List α→β),fL fa l k=k l
 |[],k=>rfl
 |x::xs,k=>by simp only[fL,hf];exact Zfh hf xs _
theorem Zh8{fa:AV→(AV→β)→β}(hf:∀x k,fa x k=k x)(r:Row)(k:Row→β):ZsB fa r k=k r:=by
 cases r with
 |gen xs=>exact Zfh hf xs _
 |ints kd l=>exact Zfh Zsm l _
 |flts kd l=>exact Zfh ZeV l _
 |big sh xs=>exact Zfh hf xs _
theorem Zp9:∀(d:Nat) (v:AV) (k:AV→β),fA d v k=k v
 |0,v,k=>rfl
 |d+1,v,k=>by
  have ih:=Zp9 d
  cases v with
  |int kd n=>simp only[fA,Zsm]
  |bool b=>simp only[fA,ZrG]
  |list r=>simp only[fA,Zh8 ih]
  |agg r=>simp only[fA,Zh8 ih]
  |tup xs=>simp only[fA,Zfh ih]
  |fn f xs=>simp only[fA,Zfh ih]
  |eptr u o=>simp only[fA,ih,ZeV]
  |ptr a i j o=>simp only[fA,ZeV]
  |row a i=>simp only[fA,ZeV]
  |slc a i j n c=>simp only[fA,ZeV];cases c<;>rfl
  |aslc a i j o n=>simp only[fA,ZeV]
  |yld a i=>simp only[fA,ZeV]
  |_=>rfl
theorem Zps(b:Blk)(k:Blk→β):ZuM b k=k b:=by cases b<;>first |rfl |simp only[ZuM,Zh8 (Zp9 3)]
theorem Zqb(f:Fam)(k:Fam→β):Zua f k=k f:=by obtain⟨b,l⟩:=f;simp only[Zua,ZeV];exact Zfh Zps l _
theorem Zi3(h:Zab)(k:Zab→β):Zpg h k=k h:=Zfh (fun p k=>by obtain⟨a,f⟩:=p;exact Zqb f _) h k
theorem ZqE(e:List (Nat×AV))(k:List (Nat×AV)→β):Zv5 e k=k e:=Zfh (fun p k=>by obtain⟨t,v⟩:=p;exact Zp9 4 v _) e k
theorem ZuN(o:Option (Nat×Nat))(k:Option (Nat×Nat)→β):fO o k=k o:=by cases o<;>simp only[fO,ZeV]
theorem Zt1{α:Type}(l:List α)(k:List α→β):fH l k=k l:=by cases l<;>rfl
theorem Zsf(f:AFrame)(k:AFrame→β):fFr f k=k f:=by simp only[fFr,ZeV,Zt1,ZuN,ZrG]
theorem ZiT(f:AFrame)(k:AFrame→β):Znm f k=k f:=by simp only[Znm,ZqE]
end
def Zvk(acc:List Bool)(k:List Bool→ASt):ASt:=match acc.all (fun b=>b)with |true=>k [] |false=>k acc
def ZkL(A:Ar)(T:Tab)(K:Con)(n:Nat):List Bool→AFrame→List AFrame→Zab→ASt:=
 Nat.rec (motive:=fun _=>List Bool→AFrame→List AFrame→Zab→ASt) (fun acc f fs h=>(acc,f,fs,h))
  (fun _ ih acc f fs h=>match Zed A T K acc f fs h with
    |none=>(acc,f,fs,h)
    |some (acc',f',fs',h')=>fFr f' fun f'=>match ZqL f with
     |true=>Zvk acc' fun acc'=>Znm f' fun f'=>Zpg h' fun h'=>ih acc' f' fs' h'
     |false=>ih acc' f' fs' h') n
theorem ZkH{A:Ar}{T:Tab}{K:Con}{n:Nat}{acc:List Bool}{f:AFrame}{fs:List AFrame}{h:Zab} :ZkL A T K (n+1) acc f fs h=match Zed A T K acc f fs h with
 |none=>(acc,f,fs,h)
 |some (acc',f',fs',h')=>fFr f' fun f'=>match ZqL f with
  |true=>Zvk acc' fun acc'=>Znm f' fun f'=>Zpg h' fun h'=>ZkL A T K n acc' f' fs' h'
  |false=>ZkL A T K n acc' f' fs' h':=rfl
section
variable {C:Ctx}{T:Tab}{K:Con}{Q:List AFrame→Zab→Prop}
theorem ZeK(hfol:C.P.follows .mixedOrders=true)(hT:Zbg C.P T)(hK:Zee C.P K):∀(n:Nat) {acc:List Bool} {f:AFrame} {fs:List AFrame} {h:Zab},Ze9 C Q acc f fs h (some (ZkL std T K n acc f fs h))
 |0,acc,f,fs,h=>by
  intro acc' f' fs' h' he hb hq
  have he:some (acc,f,fs,h)=some (acc',f',fs',h'):=he
  simp only[Option.some.injEq,Prod.mk.injEq]at he
  obtain⟨rfl,rfl,rfl,rfl⟩:=he
  exact⟨hb,hq⟩
 |n+1,acc,f,fs,h=>by
  intro acc' f' fs' h' he hb hq
  rw[ZkH]at he
  split at he
  ·simp only[Option.some.injEq,Prod.mk.injEq]at he
   obtain⟨rfl,rfl,rfl,rfl⟩:=he
   exact⟨hb,hq⟩
  ·rename_i acc1 f1 fs1 h1 hs
   rw[Zsf]at he
   have go:∀acc2,((∀ b∈acc2,b=true)→∀b∈acc1,b=true)→some (ZkL std T K n acc2 f1 fs1 h1)=some (acc',f',fs',h')→(∀b∈acc,b=true)∧Ev C (f::fs) h Q:=fun acc2 ha he=>by
    obtain⟨hb1,hq1⟩:=ZeK hfol hT hK n _ _ _ _ he hb hq
    exact Zev hfol hT hK _ _ _ _ hs (ha hb1) hq1
   split at he
   ·unfold Zvk at he
    split at he
    ·rename_i hall
     simp only[ZiT,Zi3]at he
     exact go [] (fun _ b hb=>by have:=List.all_eq_true.1 hall b hb;simpa using this) he
    ·simp only[ZiT,Zi3]at he
     exact go acc1 (fun h=>h) he
   ·exact go acc1 (fun h=>h) he
end
def ZsN(A:Ar)(T:Tab)(K:Con)(n:Nat)(f:FuncId)(args:List AV):Option (Bool×AV×Option Fresh):=
 match ZaG T f args with
 |none=>none
 |some af=>Zto A f (ZkL A T K n [] af [] [])
theorem Zkz{P:Program}{T:Tab}{K:Con}(hfol:P.follows .mixedOrders=true)(hT:Zbg P T)(hK:Zee P K){n:Nat} :Zee P (ZsN std T K n):=fun f args r fr h=>by
 unfold ZsN at h
 split at h
 ·cases h
 ·rename_i af haf
  obtain⟨acc,g,h',hs,hacc,hfin⟩:=Zmg h
  refine ZfS hT haf (fun w okA cs=>?_)
  refine(ZeK (C:=(Ctx.of P w okA cs)) hfol hT hK n (Q:=ZiW f r fr) acc g [] h' (by rw[hs]) (fun b hb=>?_) (.now (by simp) hfin)).2
  have:=List.all_eq_true.1 hacc b hb
  simpa using this
end Go.Proofs.Ytbbemleognkdhaa
/- Contracts at given values, kept in a list. No condition. -/
namespace Go.Proofs.Ytbbemleognkdhaa
def eqL{α:Type}(f:α→α→Bool):List α→List α→Bool
 |[],[]=>true
 |x::xs,y::ys=>match f x y with |true=>eqL f xs ys |false=>false
 |_,_=>false
def eqZ:Int→Int→Bool
 | .ofNat a, .ofNat b=>Nat.beq a b
 | .negSucc a, .negSucc b=>Nat.beq a b
 |_,_=>false
def Zr9:IntKind→IntKind→Bool
 | .i64, .i64=>true
 |k,k'=>decide (k=k')
def ZmI(f:AV→AV→Bool):Row→Row→Bool
 | .ints k l, .ints k' l'=>match Zr9 k k' with |true=>eqL eqZ l l' |false=>false
 | .flts k l, .flts k' l'=>(match decide (k=k')with |true=>eqL Nat.beq l l' |false=>false)
 | .gen xs, .gen ys=>eqL f xs ys
 | .big s xs, .big t ys=>(match Zbc s t with |true=>eqL f xs ys |false=>false)
 |_,_=>false
def eqV:Nat→Value→Value→Bool
 |0,_,_=>false
 |d+1,x,y=>match x,y with
  | .int k a, .int k' b=>(match eqZ a b with |true=>Zr9 k k' |false=>false)
  | .agg ⟨l⟩, .agg ⟨m⟩=>eqL (eqV d) l m
  | .func (.func f) ⟨l⟩ ⟨[]⟩, .func (.func g) ⟨m⟩ ⟨[]⟩=>(match Nat.beq f g with |true=>eqL (eqV d) l m |false=>false)
  |_,_=>false
def eqU(a b:UInt8):Bool:=Nat.beq a.toNat b.toNat
theorem Zr8(a b:UInt8)(h:eqU a b=true):a=b:=UInt8.toNat.inj (Nat.eq_of_beq_eq_true h)
def eqA:Nat→AV→AV→Bool
 |0,_,_=>false
 |d+1,x,y=>match x,y with
  | .int k a, .int k' b=>(match eqZ a b with |true=>Zr9 k k' |false=>false)
  | .bool a, .bool b=>a==b
  | .flt k a, .flt k' b=>(match Nat.beq a b with |true=>decide (k=k') |false=>false)
  | .nils, .nils=>true
  | .str a, .str b=>eqL eqU a b
  | .tup r, .tup s=>eqL (eqA d) r s
  | .val v, .val u=>eqV 4 v u
  | .list r, .list s=>ZmI (eqA d) r s
  | .agg r, .agg s=>ZmI (eqA d) r s
  | .fn f xs, .fn g ys=>(match Nat.beq f g with |true=>eqL (eqA d) xs ys |false=>false)
  | .eptr u o, .eptr v q=>(match Nat.beq o q with |true=>eqA d u v |false=>false)
  |_,_=>false
theorem Zck{α:Type}{f:α→α→Bool}(hf:∀x y,f x y=true→x=y):∀ {l m:List α},eqL f l m=true→l=m
 |[],[],_=>rfl
 |x::xs,y::ys,h=>by
  simp only[eqL]at h
  split at h
  ·rename_i e;rw[hf _ _ e,Zck hf h]
  ·cases h
 |[],_::_,h=>by cases h
 |_::_,[],h=>by cases h
theorem Zl9{a b:Int}(h:eqZ a b=true):a=b:=by
 cases a<;>cases b<;>simp only[eqZ,Bool.false_eq_true]at h
 ·rw[Nat.eq_of_beq_eq_true h]
 ·rw[Nat.eq_of_beq_eq_true h]
theorem Zix{a b:IntKind}(h:Zr9 a b=true):a=b:=by
 unfold Zr9 at h
 split at h
 ·rfl
 ·simpa using h
theorem Zjh{f:AV→AV→Bool}(hf:∀x y,f x y=true→x=y){r s:Row}(h:ZmI f r s=true):r=s:=by
 cases r<;>cases s<;>simp only[ZmI,Bool.false_eq_true]at h
 ·rw[Zck hf h]
 ·split at h
  ·rename_i e;rw[Zix e,Zck (fun _ _=>Zl9) h]
  ·cases h
 ·split at h
  ·rename_i e;rw[of_decide_eq_true e,Zck (fun _ _=>Nat.eq_of_beq_eq_true) h]
  ·cases h
 ·split at h
  ·rename_i e;rw[Zdv e,Zck hf h]
  ·cases h
theorem Zo4:∀ {d:Nat} {x y:Value},eqV d x y=true→x=y
 |0,_,_,h=>by cases h
 |d+1,x,y,h=>by
  have ih:∀x y,eqV d x y=true→x=y:=fun _ _ h=>Zo4 h
  unfold eqV at h
  split at h
  ·split at h
   ·rename_i e;rw[Zl9 e,Zix h]
   ·cases h
  ·rw[Zck ih h]
  ·split at h
   ·rename_i e
    have e:=Nat.eq_of_beq_eq_true e
    rw[e,Zck ih h]
   ·cases h
  ·cases h
theorem Zk2:∀ {d:Nat} {x y:AV},eqA d x y=true→x=y
 |0,_,_,h=>by cases h
 |d+1,x,y,h=>by
  have ih:∀x y,eqA d x y=true→x=y:=fun _ _ h=>Zk2 h
  unfold eqA at h
  split at h
  ·split at h
   ·rename_i e;rw[Zl9 e,Zix h]
   ·cases h
  ·rename_i a b;have:a=b:=by simpa using h
   rw[this]
  ·split at h
   ·rename_i e;rw[Nat.eq_of_beq_eq_true e,of_decide_eq_true h]
   ·cases h
  ·rfl
  ·rw[Zck Zr8 h]
  ·rw[Zck ih h]
  ·rw[Zo4 h]
  ·rw[Zjh ih h]
  ·rw[Zjh ih h]
  ·split at h
   ·rename_i e
    have e:=Nat.eq_of_beq_eq_true e
    rw[e,Zck ih h]
   ·cases h
  ·split at h
   ·rename_i e;rw[Nat.eq_of_beq_eq_true e,Zk2 h]
   ·cases h
  ·cases h
structure Fact where
 f:FuncId
 args:List AV
 r:AV
 fr:Option Fresh
def Zq2:List Fact→Con
 |[],_,_=>none
 |q::qs,f,args=>match Nat.beq q.f f with
  |true=>(match eqL (eqA 8) q.args args with |true=>some (true,q.r,q.fr) |false=>Zq2 qs f args)
  |false=>Zq2 qs f args
def ZiN(P:Program):List Fact→Prop
 |[]=>True
 |q::qs=>Zaf P q.f q.args q.r q.fr∧ZiN P qs
theorem Zh9{P:Program} :∀ {l:List Fact},ZiN P l→Zee P (Zq2 l)
 |[],_,f,args,r,fr,h=>by cases h
 |q::qs,⟨h1,h2⟩,f,args,r,fr,h=>by
  simp only[Zq2]at h
  split at h
  ·rename_i e
   have e:q.f=f:=Nat.eq_of_beq_eq_true e
   split at h
   ·rename_i e2
    have e2:=Zck (fun _ _=>Zk2) e2
    simp only[Option.some.injEq,Prod.mk.injEq,true_and]at h
    obtain⟨rfl,rfl⟩:=h
    rw[←e,←e2];exact h1
   ·exact Zh9 h2 f args r fr h
  ·exact Zh9 h2 f args r fr h
theorem Zaa{P:Program}{T:Tab}(hfol:P.follows .mixedOrders=true)(hT:Zbg P T){l:List Fact}(hl:ZiN P l){n:Nat}{f:FuncId}{args:List AV}{r:AV}{fr:Option Fresh}
 (h:ZsN ZlA T (Zq2 l) n f args=some (true,r,fr)):Zaf P f args r fr:=by
 rw[ZnF]at h
 exact Zkz hfol hT (Zh9 hl) f args r fr h
end Go.Proofs.Ytbbemleognkdhaa
/- All of a list of truths. No condition. -/
namespace Go.Proofs.Ytbbemleognkdhaa
def AllT:List Bool→Prop
 |[]=>True
 |b::l=>b=true∧AllT l
theorem AllT.mem:∀ {l:List Bool},AllT l→∀b∈l,b=true
 |_::_,⟨h1,h2⟩,b,hb=>by
  rcases List.mem_cons.1 hb with e |e
  ·rw[e];exact h1
  ·exact AllT.mem h2 b e
def oN(d:Nat)(k:OpK):AOp:=⟨some d,none,k⟩
def mV(d s:Nat):AOp:=⟨some d,none, .mov (.t s)⟩
def cI(n:Int):Opd:=.c (.int .i64 n)
end Go.Proofs.Ytbbemleognkdhaa
