/- The machine runs. No condition. -/
import Derived.Test.YtjhldefnjghcdaaGreatXq
namespace Go.Proofs.YtjhldefnjghcdaaGreat
open Go.RowKit (Below)
abbrev Con:=FuncId→List AV→Option (Bool×AV×Option Fresh)
def Zg0(P:Program)(K:Con):Prop:=∀f args r fr,K f args=some (true,r,fr)→ZaK P f args r fr
def ZHW(a:Nat)(r:AV)(m:Bool):Option Fresh→Bool
 |none=>r.pure&&(!m||r.solid)
 |some f=>match Nat.beq f.sz 0 with |true=>r.pure |false=>Nat.blt 0 a&&(Zxg r&&(f.r.pure&&(!m||(r.solid&&f.r.solid))))
def ZEZ(A:Ar)(h:Zaa)(m:Bool)(avs:List AV):Option (Bool×List AV):=
 match m with
 |true=>ZtR A h avs
 |false=>match AV.pureL avs with |true=>some (true,avs) |false=>none
def ZyQ(A:Ar)(K:Con)(h:Zaa)(a:Nat)(f:FuncId)(avs:List AV):Option (Bool×AV×Zaa):=
 match ZEZ A h (!AV.pureL avs) avs with
 |none=>none
 |some (b0,avs')=>match K f avs' with
  |none=>none
  |some (b,r0,fr)=>match ZHW a r0 (!AV.pureL avs) fr with
   |true=>some (Zac b0 b,Zck h a r0 fr)
   |false=>none
def isF(T:Tab)(f:FuncId):Bool:=match T f with |some _=>true |none=>false
def Zpy(A:Ar)(T:Tab)(K:Con)(ρ:Opd→AV)(h:Zaa):OpK→Option (Bool×AV×Zaa)
 | .ncall _ a f args=>ZyQ A K h a f (args.map ρ)
 | .ncallv _ a x args=>match ZB8 (ρ x) (args.map ρ)with
   |some (f,avs)=>(match isF T f with |true=>ZyQ A K h a f avs |false=>none)
   |none=>none
 |k=>Zal A ρ h k
def ZfE(o:AOp)(env:List (Nat×AV)):Option Bool:=
 match o.g with
 |none=>some true
 |some (t,want)=>match ZaA env t with
  |some (.bool b)=>(match want with |true=>some b |false=>some (!b))
  |some .und=>some false
  |_=>none
def Zfm(A:Ar)(T:Tab)(K:Con)(o:AOp)(env:List (Nat×AV))(h:Zaa):Option (Bool×AV×Zaa):=
 match ZfE o env with
 |none=>none
 |some g=>match g with
  |true=>Zpy A T K (Zbf (ZaA env)) h o.k
  |false=>some (true, .und,h)
def wOf(ρ:Opd→AV)(h:Zaa):OpK→List (Nat×Nat)
 | .store _ p _=>ZaW (ρ p)
 | .stores _ p x=>(match ρ x with | .slc a i _ _ _=>[(a,nxt h a),(a,i)] |_=>[])++ZaW (ρ p)
 | .box a _ _=>[(a,nxt h a)]
 | .alloc a _ _=>[(a,nxt h a)]
 | .bslice a _ _ _=>[(a,nxt h a)]
 | .mkslice a _ _ _ _=>[(a,nxt h a)]
 | .mklst a _ _ _ _=>[(a,nxt h a)]
 | .append a _ _ x _=>(a,nxt h a)::ZaW (ρ x)
 | .appz a _ _ _ x _=>(a,nxt h a)::ZaW (ρ x)
 | .copy _ x _=>ZaW (ρ x)
 | .clr _ _ _ x=>ZaW (ρ x)
 | .mkmap a=>[(a,nxt h a)]
 | .mkrefs b _ _ a _ _=>[(b,nxt h b),(a,0)]
 | .mupd x _=>ZaW (ρ x)
 | .ncall _ a _ _=>[(a,nxt h a)]
 | .ncallv _ a _ _=>[(a,nxt h a)]
 |_=>[]
def Znw(env:List (Nat×AV))(h:Zaa)(o:AOp):Foot:=⟨o,o.k.looks.flatMap fun x=>Zdn h o.k (Zbf (ZaA env) x),wOf (Zbf (ZaA env)) h o.k⟩
def ZAk(p:Nat×Nat):List (Nat×Nat)→Bool
 |[]=>false
 |q::l=>match Nat.beq p.1 q.1 with |true=>(match Nat.beq p.2 q.2 with |true=>true |false=>ZAk p l) |false=>ZAk p l
def ZtT(m:List (Nat×Nat)):List (Nat×Nat)→Bool
 |[]=>true
 |p::l=>match ZAk p m with |true=>false |false=>ZtT m l
def ZtG(zs:List Foot):List (Nat×Nat)→Bool
 |[]=>true
 |(i,j)::fr=>match zs[i]?,zs[j]? with
  |some x,some z=>(match (z.o.k.neutral&&ZtT x.w z.r)||(x.o.k.neutral&&ZtT z.w x.r)||(x.o.frees z.o&&ZtT z.w x.r)with |true=>ZtG zs fr |false=>false)
  |_,_=>ZtG zs fr
def ZnR(A:Ar)(T:Tab)(K:Con):List AOp→List Bool→List (Nat×AV)→Zaa→Option (List Bool×List (Nat×AV)×Zaa)
 |[],acc,env,h=>some (acc,env,h)
 |o::os,acc,env,h=>match Zfm A T K o env h with
  |some (b,r,h')=>ZnR A T K os (b::acc) (Zr2 env o.d r) h'
  |none=>none
def ZqA(A:Ar)(T:Tab)(K:Con):List AOp→List (Nat×AV)→Zaa→List Foot
 |[],_,_=>[]
 |o::os,env,h=>Znw env h o::match Zfm A T K o env h with
  |some (_,r,h')=>ZqA A T K os (Zr2 env o.d r) h'
  |none=>[]
def Zzx(A:Ar)(T:Tab)(K:Con)(fr:List (Nat×Nat))(os:List AOp)(env:List (Nat×AV))(h:Zaa):Bool:=
 match fr with
 |[]=>true
 |fr=>ZtG (ZqA A T K os env h) fr
section
variable {C:Ctx}{T:Tab}{K:Con}{h h':Zaa}{f:AFrame}{fs:List AFrame}{k:List AItem}{Q:List AFrame→Zaa→Prop}
theorem ZhS:∀(l:List AV),(∀z∈l,z.solid=true)→AV.solidL l=true
 |[],_=>rfl
 |z::zs,hz=>by simp only[AV.solidL,Bool.and_eq_true];exact⟨hz z List.mem_cons_self,ZhS zs (fun q hq=>hz q (List.mem_cons_of_mem _ hq))⟩
theorem ZjA:∀ {l:List AV},AV.solidL l=true→∀z∈l,z.solid=true
 |y::ys,h,z,hz=>by
  simp only[AV.solidL,Bool.and_eq_true]at h
  rcases List.mem_cons.1 hz with e |e
  ·rw[e];exact h.1
  ·exact ZjA h.2 z e
theorem Zup{a b:List AV}(ha:AV.solidL a=true)(hb:AV.solidL b=true):AV.solidL (a++b)=true:=
 ZhS _ (fun z hz=>(List.mem_append.1 hz).elim (ZjA ha z) (ZjA hb z))
theorem ZpT{r:Row}(hs:r.solid=true):∀z∈r.elems,z.solid=true:=fun z hz=>by
 obtain⟨j,hj⟩:=List.mem_iff_getElem?.1 hz
 exact Row.solid_mem hs hj
theorem Zjr{r:Row}(hs:r.solid=true):r.allSolid:=by
 have hm:=ZpT hs
 unfold Row.allSolid
 generalize r.elems=l at hm
 induction l with
 |nil=>rfl
 |cons y ys ih=>
  rw[Zay]
  refine Zup ?_ (ih (fun z hz=>hm z (List.mem_cons_of_mem _ hz)))
  have h1:=hm y List.mem_cons_self
  cases y with
  |agg q=>exact ZhS _ (ZpT (by simpa[AV.solid]using h1))
  |_=>simp only[AV.flat,AV.solidL,Bool.and_true];exact h1
theorem ZD9{a:Nat}{r:AV}{m:Bool}{fr:Option Fresh}(h:ZHW a r m fr=true):ZxP a r m fr:=by
 cases fr with
 |none=>
  simp only[ZHW,Bool.and_eq_true,Bool.or_eq_true,Bool.not_eq_true']at h
  exact⟨h.1,fun e=>by rcases h.2 with h2 |h2<;>simp_all⟩
 |some f=>
  cases hz:Nat.beq f.sz 0 with
  |true=>simp only[ZHW,hz]at h;exact .inl ⟨Nat.eq_of_beq_eq_true hz,h⟩
  |false=>
   simp only[ZHW,hz,Bool.and_eq_true,Bool.or_eq_true,Bool.not_eq_true',Nat.blt_eq]at h
   obtain⟨h1,h2,h3,h4⟩:=h
   exact .inr ⟨(fun e=>by rw[e]at hz;cases hz),(by omega),h2,ZaY h3,fun e=>by rcases h4 with h4 |h4<;>simp_all[Zjr]⟩
theorem ZjD{P:Program}(hK:Zg0 P K){a:Nat}{f:FuncId}{avs:List AV}{r:AV}(hc:ZyQ std K h a f avs=some (true,r,h')):∃m,Zdy P h m a f avs r h':=by
 unfold ZyQ at hc
 split at hc
 ·cases hc
 ·rename_i b0 avs' ha
  split at hc
  ·cases hc
  ·rename_i b r0 fr hk
   split at hc
   ·rename_i hask
    simp only[Option.some.injEq,Prod.mk.injEq,std_and]at hc
    obtain⟨⟨rfl,rfl⟩,hc⟩:=hc
    refine⟨!AV.pureL avs,avs',r0,fr,?_,hK _ _ _ _ hk,ZD9 hask,hc⟩
    unfold ZEZ at ha
    generalize hm:(!AV.pureL avs)=m at ha
    cases m with
    |true=>simpa using ha
    |false=>
     simp only at ha
     split at ha
     ·rename_i hp;cases ha;simp[hp]
     ·cases ha
   ·cases hc
theorem ZwG(hT:ZbM C.P T){f:FuncId}(hi:isF T f=true):Zbo C.P f=true:=by
 unfold isF at hi
 split at hi
 ·rename_i af hf
  have:=hT f af hf
  unfold Zam at this
  split at this
  ·simp only[Bool.and_eq_true]at this;exact this.2
  ·cases this
 ·cases hi
theorem Zd0(hT:ZbM C.P T)(hK:Zg0 C.P K){ρ:Opd→AV}{kk:OpK}{r:AV}(hc:Zpy std T K ρ h kk=some (true,r,h')):Zb9 C.P ρ h kk r h':=by
 cases kk with
 |ncall m a f args=>exact ZjD hK hc
 |ncallv m a x args=>
  simp only[Zpy]at hc
  split at hc
  ·rename_i f avs hx
   split at hc
   ·rename_i hi
    obtain⟨m',hc⟩:=ZjD hK hc
    exact⟨f,avs,m',hx,ZwG hT hi,hc⟩
   ·cases hc
  ·cases hc
 |_=>exact hc
theorem Zb8(hT:ZbM C.P T)(hK:Zg0 C.P K){o:AOp}{env:List (Nat×AV)}{r:AV}(hc:Zfm std T K o env h=some (true,r,h')):ZcV C.P o (ZaA env) h r h':=by
 unfold Zfm at hc
 unfold ZcV
 split at hc
 ·cases hc
 ·rename_i g hg
  unfold ZfE at hg
  split at hc
  ·split at hg
   ·rename_i hgg;rw[hgg];exact Zd0 hT hK hc
   ·rename_i t want hgg
    rw[hgg]
    split at hg
    ·rename_i b hb
     split at hg
     ·simp only[Option.some.injEq]at hg;subst hg;exact .inl ⟨hb,Zd0 hT hK hc⟩
     ·simp only[Option.some.injEq,Bool.not_eq_true']at hg;subst hg;exact .inl ⟨hb,Zd0 hT hK hc⟩
    ·simp at hg
    ·cases hg
  ·simp only[Option.some.injEq,Prod.mk.injEq,true_and]at hc
   obtain⟨rfl,rfl⟩:=hc
   split at hg
   ·simp at hg
   ·rename_i t want hgg
    rw[hgg]
    split at hg
    ·rename_i b hb
     split at hg
     ·simp only[Option.some.injEq]at hg;subst hg;exact .inr (.inl ⟨hb,rfl,rfl⟩)
     ·simp only[Option.some.injEq,Bool.not_eq_false']at hg;subst hg;exact .inr (.inl ⟨hb,rfl,rfl⟩)
    ·rename_i hb;exact .inr (.inr ⟨hb,rfl,rfl⟩)
    ·cases hg
theorem ZfU{A:Ar} :∀ {os:List AOp} {acc acc':List Bool} {env env':List (Nat×AV)} {h h':Zaa},ZnR A T K os acc env h=some (acc',env',h')→∀b∈acc,b∈acc'
 |[],acc,acc',env,env',h,h',hd,b,hb=>by simp only[ZnR,Option.some.injEq,Prod.mk.injEq]at hd;obtain⟨rfl,_,_⟩:=hd;exact hb
 |o::os,acc,acc',env,env',h,h',hd,b,hb=>by
  simp only[ZnR]at hd
  split at hd
  ·exact ZfU hd b (List.mem_cons_of_mem _ hb)
  ·cases hd
theorem memB_iff{p:Nat×Nat} :∀ {l:List (Nat×Nat)},ZAk p l=true↔p∈l
 |[]=>by simp[ZAk]
 |q::l=>by
  obtain⟨a,i⟩:=p;obtain⟨b,j⟩:=q
  have ih:=memB_iff (p:=(a,i)) (l:=l)
  have hb:∀a b:Nat,Nat.beq a b=decide (a=b):=fun a b=>by rw[Bool.eq_iff_iff];simp
  simp only[ZAk,hb,List.mem_cons,Prod.mk.injEq]
  by_cases h1:a=b
  ·subst h1
   by_cases h2:i=j
   ·subst h2;simp
   ·simp[h2,ih]
  ·simp[h1,ih]
theorem Zed{m:List (Nat×Nat)} :∀ {l:List (Nat×Nat)},ZtT m l=true→ZHZ l m
 |[],_=>fun p hp=>by simp at hp
 |q::l,h=>by
  simp only[ZtT]at h
  split at h
  ·cases h
  ·rename_i hq
   intro p hp
   rcases List.mem_cons.1 hp with e |e
   ·rw[e];intro hm;rw[memB_iff.2 hm]at hq;cases hq
   ·exact Zed h p e
theorem Zh0{zs:List Foot} :∀ {fr:List (Nat×Nat)},ZtG zs fr=true→∀(i j:Nat) (x z:Foot),(i,j)∈fr→zs[i]? =some x→zs[j]? =some z→Ztv x z
 |[],_,i,j,x,z,hm,_,_=>by simp at hm
 |(a,b)::fr,h,i,j,x,z,hm,hx,hz=>by
  simp only[ZtG]at h
  rcases List.mem_cons.1 hm with e |e
  ·cases e
   rw[hx,hz]at h
   simp only at h
   split at h
   ·rename_i hc
    simp only[Bool.or_eq_true,Bool.and_eq_true]at hc
    rcases hc with(h |h) |h
    ·exact .inl ⟨h.1,Zed h.2⟩
    ·exact .inr (.inl ⟨h.1,Zed h.2⟩)
    ·exact .inr (.inr ⟨h.1,Zed h.2⟩)
   ·cases h
  ·refine Zh0 (fr:=fr) ?_ i j x z e hx hz
   split at h
   ·split at h
    ·exact h
    ·cases h
   ·exact h
theorem Zcj{h:Zaa}{c i:Nat}{b:Blk}(hb:blk h c i≠ .dead){p:Nat×Nat}(hp:p≠(c,i)):blk (ZaE h c i b) p.1 p.2=blk h p.1 p.2:=by
 rw[Zb0 hb,if_neg (fun e=>hp (by obtain⟨a,j⟩:=p;simp only at e;rw[e.1,e.2]))]
theorem Za5{h:Zaa}{a:Nat}{b:Blk}{p:Nat×Nat}(hp:p≠(a,nxt h a)):blk (Zai h a b) p.1 p.2=blk h p.1 p.2:=by
 rw[ZaM,if_neg (fun e=>hp (by obtain⟨c,j⟩:=p;simp only at e;rw[←e.1,e.2]))]
theorem ZsS{P:Program}{m:Bool}{a:Nat}{f:FuncId}{avs:List AV}{r:AV}(hd:Zdy P h m a f avs r h'){p:Nat×Nat}(hp:p≠(a,nxt h a)):blk h' p.1 p.2=blk h p.1 p.2:=by
 obtain⟨avs',r0,fr,_,_,_,had⟩:=hd
 cases fr with
 |none=>simp only[Zck,Prod.mk.injEq]at had;rw[←had.2]
 |some f=>
  simp only[Zck]at had
  split at had
  ·simp only[Prod.mk.injEq]at had;rw[←had.2]
  ·simp only[Prod.mk.injEq]at had;rw[←had.2];exact Za5 hp
theorem Zlz{A:Ar}{n:Nat}{q x v:AV}{b:Bool}(hd:ZdD A h n q x=some (b,v,h')){p:Nat×Nat}(hp:p∉ZaW q):blk h' p.1 p.2=blk h p.1 p.2:=by
 unfold ZdD at hd
 split at hd
 ·split at hd
  ·rename_i e sz rr hb
   split at hd
   ·simp only[Option.some.injEq,Prod.mk.injEq]at hd
    rw[←hd.2.2];exact Zcj (by rw[hb];simp) (by simpa[ZaW]using hp)
   ·cases hd
  ·cases hd
 ·cases hd
theorem Zsd{P:Program}{k:OpK}{ρ:Opd→AV}{r:AV}(hd:Zb9 P ρ h k r h'):∀p:Nat×Nat,p∉wOf ρ h k→blk h' p.1 p.2=blk h p.1 p.2:=by
 intro p hp
 by_cases hn:k.neutral=true
 ·rw[Zd4 hn hd]
 have row_ne:∀ {c i e sz:Nat} {r:Row},blk h c i=.row e sz r→blk h c i≠ .dead:=fun hb=>by rw[hb];simp
 cases k with
 |ncall m a f args=>obtain⟨m',hd⟩:=hd;exact ZsS hd (by simpa[wOf]using hp)
 |ncallv m a x args=>obtain⟨f,avs,m',_,_,hc⟩:=hd;exact ZsS hc (by simpa[wOf]using hp)
 |box a e x=>
  simp only[Zb9,Zal,Option.some.injEq,Prod.mk.injEq]at hd
  rw[←hd.2.2];exact Za5 (by simpa[wOf]using hp)
 |alloc a e z=>
  simp only[Zb9,Zal,Option.some.injEq,Prod.mk.injEq]at hd
  rw[←hd.2.2];exact Za5 (by simpa[wOf]using hp)
 |bslice a e sz ps=>
  simp only[Zb9,Zal,Option.some.injEq,Prod.mk.injEq]at hd
  rw[←hd.2.2];exact Za5 (by simpa[wOf]using hp)
 |mklst a e sz z ln=>
  simp only[Zb9,Zal]at hd
  split at hd
  ·split at hd
   ·simp only[Option.some.injEq,Prod.mk.injEq]at hd
    rw[←hd.2.2];exact Za5 (by simpa[wOf]using hp)
   ·cases hd
  ·cases hd
 |mkslice a e sz z ln=>
  simp only[Zb9,Zal]at hd
  split at hd
  ·simp only[Option.some.injEq,Prod.mk.injEq]at hd
   rw[←hd.2.2];exact Za5 (by simpa[wOf]using hp)
  ·cases hd
 |store n q x=>
  simp only[Zb9,Zal,ZdD,wOf]at hd hp
  split at hd
  ·rename_i a i k off hq
   rw[hq]at hp
   split at hd
   ·rename_i e sz rr hb
    split at hd
    ·simp only[Option.some.injEq,Prod.mk.injEq]at hd
     rw[←hd.2.2];exact Zcj (row_ne hb) (by simpa[ZaW]using hp)
    ·cases hd
   ·cases hd
  ·cases hd
 |stores n q x=>
  simp only[Zb9,Zal,ZrQ,wOf]at hd hp
  split at hd
  ·rename_i a i m hx
   rw[hx]at hp
   simp only[List.mem_append,List.mem_cons,List.not_mem_nil,or_false,not_or]at hp
   split at hd
   ·rename_i e sz rr hz hb
    obtain⟨k1,_⟩:=ZcK (row_ne hb)
    split at hd
    ·rename_i b v h2 hst
     simp only[Option.some.injEq,Prod.mk.injEq]at hd
     obtain⟨_,_,rfl⟩:=hd
     rw[Zlz hst hp.2,Za5 (by rw[k1];exact hp.1.1),Zcj (row_ne hb) hp.1.2]
    ·cases hd
   ·cases hd
  ·exact Zlz hd (fun e=>hp (List.mem_append_right _ e))
 |copy sz x y=>
  simp only[Zb9,Zal,Zzs,wOf]at hd hp
  split at hd
  ·cases hd
  ·split at hd
   ·rename_i c i hx
    rw[hx]at hp
    split at hd
    ·rename_i hb
     simp only[Option.some.injEq,Prod.mk.injEq]at hd
     rw[←hd.2.2];exact Zcj (row_ne hb) (by simpa[ZaW]using hp)
    ·cases hd
   ·rename_i c i k n q hx
    rw[hx]at hp
    split at hd
    ·rename_i hb
     simp only[Option.some.injEq,Prod.mk.injEq]at hd
     rw[←hd.2.2];exact Zcj (row_ne hb) (by simpa[ZaW]using hp)
    ·cases hd
   ·rename_i c i k off n hx
    rw[hx]at hp
    split at hd
    ·rename_i hb
     split at hd
     ·simp only[Option.some.injEq,Prod.mk.injEq]at hd
      rw[←hd.2.2];exact Zcj (row_ne hb) (by simpa[ZaW]using hp)
     ·cases hd
    ·cases hd
   ·cases hd
 |clr e sz z x=>
  simp only[Zb9,Zal,ZLh,wOf]at hd hp
  split at hd
  ·rename_i c i k n q hx
   rw[hx]at hp
   split at hd
   ·rename_i hb
    split at hd
    ·simp only[Option.some.injEq,Prod.mk.injEq]at hd
     rw[←hd.2.2];exact Zcj (row_ne hb) (by simpa[ZaW]using hp)
    ·cases hd
   ·cases hd
  ·cases hd
 |append a e sz x y=>
  simp only[Zb9,Zal,ZLj,wOf,List.mem_cons,not_or]at hd hp
  obtain⟨hp1,hp2⟩:=hp
  split at hd
  ·cases hd
  ·split at hd
   ·split at hd
    ·simp only[Option.some.injEq,Prod.mk.injEq]at hd;rw[←hd.2.2]
    ·simp only[Option.some.injEq,Prod.mk.injEq]at hd;rw[←hd.2.2];exact Za5 hp1
   ·rename_i c i hx
    rw[hx]at hp2
    split at hd
    ·rename_i hb
     simp only[Option.some.injEq,Prod.mk.injEq]at hd
     rw[←hd.2.2]
     rw[Za5 (by rw[ZdT];exact hp1),Zcj (row_ne hb) (by simpa[ZaW]using hp2)]
    ·cases hd
   ·rename_i c i n hx
    rw[hx]at hp2
    split at hd
    ·rename_i hb
     simp only[Option.some.injEq,Prod.mk.injEq]at hd
     rw[←hd.2.2];exact Zcj (row_ne hb) (by simpa[ZaW]using hp2)
    ·cases hd
   ·cases hd
 |appz a e sz z x ln=>
  simp only[Zb9,Zal,wOf,List.mem_cons,not_or]at hd hp
  obtain⟨hp1,hp2⟩:=hp
  split at hd
  ·unfold ZxL at hd
   split at hd
   ·simp only[Option.some.injEq,Prod.mk.injEq]at hd;rw[←hd.2.2];exact Za5 hp1
   ·rename_i c i hx
    rw[hx]at hp2
    split at hd
    ·rename_i hb
     simp only[Option.some.injEq,Prod.mk.injEq]at hd
     rw[←hd.2.2]
     rw[Za5 (by rw[ZdT];exact hp1),Zcj (row_ne hb) (by simpa[ZaW]using hp2)]
    ·cases hd
   ·cases hd
  ·cases hd
 |s2b x=>
  simp only[Zb9,Zal]at hd
  split at hd
  ·simp only[Option.some.injEq,Prod.mk.injEq]at hd
   rw[←hd.2.2]
  ·cases hd
 |mkmap a=>
  simp only[Zb9,Zal,Option.some.injEq,Prod.mk.injEq]at hd
  rw[←hd.2.2];exact Za5 (by simpa[wOf]using hp)
 |mkrefs b e sz a s ln=>
  simp only[Zb9,Zal]at hd
  split at hd
  ·rename_i kd n ie isz r hln hnf hsy hab
   simp only[Option.some.injEq,Prod.mk.injEq]at hd
   simp only[wOf,List.mem_cons,List.not_mem_nil,or_false,not_or]at hp
   obtain⟨hs1,_⟩:=ZjL hsy
   obtain⟨o1,o2⟩:=ZfI hnf hs1
   have hne2:a≠b:=fun e=>by subst e;simp at hab
   obtain⟨q1,q2⟩:=Zs5 (x:=.row ie isz r) hnf hs1 hne2
   rw[←hd.2.2,Za5 (by rw[q2];exact hp.1),Za5 (by rw[q1];exact hp.2),o2]
  ·cases hd
 |mupd x k=>
  simp only[Zb9,Zal,wOf]at hd hp
  split at hd
  ·rename_i a i s hx _
   rw[hx]at hp
   split at hd
   ·rename_i ks hb
    simp only[Option.some.injEq,Prod.mk.injEq]at hd
    rw[←hd.2.2];exact Zcj (by rw[hb];intro e;cases e) (by simpa[ZaW]using hp)
   ·cases hd
  ·cases hd
 |_=>first |(exact absurd rfl hn) |(simp [Zb9,Zal]at hd)
theorem ZoU{P:Program}{o:AOp}{ε:Env}{r:AV}(hd:ZcV P o ε h r h'):∀p:Nat×Nat,p∉wOf (Zbf ε) h o.k→blk h' p.1 p.2=blk h p.1 p.2:=by
 unfold ZcV at hd
 split at hd
 ·exact Zsd hd
 ·rcases hd with⟨_,h3⟩ |⟨_,_,h3⟩ |⟨_,_,h3⟩
  ·exact Zsd h3
  ·rw[h3];exact fun _ _=>rfl
  ·rw[h3];exact fun _ _=>rfl
theorem Zff(hT:ZbM C.P T)(hK:Zg0 C.P K):∀ {os:List AOp} {acc acc':List Bool} {env env':List (Nat×AV)} {h h':Zaa},ZnR std T K os acc env h=some (acc',env',h')→(∀b∈acc',b=true)→(ZqA std T K os env h).map (·.o)=os∧Runs C.P (ZqA std T K os env h) (ZaA env) h (ZaA env') h'
 |[],acc,acc',env,env',h,h',hd,_=>by simp only[ZnR,Option.some.injEq,Prod.mk.injEq]at hd;obtain⟨_,rfl,rfl⟩:=hd;exact⟨rfl, .nil _ _⟩
 |o::os,acc,acc',env,env',h,h',hd,hb=>by
  simp only[ZnR]at hd
  split at hd
  ·rename_i b r h1 hs
   have hbt:b=true:=hb b (ZfU hd b List.mem_cons_self)
   subst hbt
   obtain⟨i1,i2⟩:=Zff hT hK hd hb
   rw[ZdW]at i2
   simp only[ZqA,hs]
   have:=Zb8 hT hK hs
   exact⟨by simp[Znw,i1], .cons ⟨this,fun x hx p hp=>by simp only[Znw,List.mem_flatMap];exact⟨x,hx,hp⟩,ZoU this⟩ i2⟩
  ·cases hd
theorem Zl7{fr:List (Nat×Nat)}{os:List AOp}{env:List (Nat×AV)}(hb:Zzx std T K fr os env h=true):∀(i j:Nat) (x z:Foot),(i,j)∈fr→(ZqA std T K os env h)[i]? =some x→(ZqA std T K os env h)[j]? =some z→Ztv x z:=by
 unfold Zzx at hb
 split at hb
 ·intro i j x z hm;simp at hm
 ·exact Zh0 hb
end
end Go.Proofs.YtjhldefnjghcdaaGreat
namespace Go.Proofs.YtjhldefnjghcdaaGreat
open Go.RowKit (Below)
abbrev Zur:=Option (List Bool×AFrame×List AFrame×Zaa)
def Zo2(acc:List Bool)(fs:List AFrame)(h:Zaa)(rnd:Option (Nat×Nat))(jump:Option ACode):Zur:=
 match rnd with
 |none=>none
 |some (a,i)=>match fs with
  |[]=>none
  |c::fs'=>match blk h a i with
   | .lp l=>(match ZED c (.bool jump.isNone)with
     |some c'=>some (acc,c',fs',ZaE h a i (.lp { l with st:=ZK8 jump }))
     |none=>none)
   |_=>none
def Zu7(acc:List Bool)(o:AOp)(f:AFrame)(fs:List AFrame)(h:Zaa)(x:AV)(args:List Opd):Zur:=
 match ZfE o f.env with
 |some true=>(match x with
  | .yld a i=>(match blk h a i with
    | .lp l=>(match Nat.beq args.length l.params.length with
      |true=>some (acc,{ fn:=l.fn,N:=l.N,env:=ZqW l.env l.params (args.map (Zbf (ZaA f.env))),todo:=[.code l.asg, .beginRound, .code l.body],defs:=[],rnd:=some (a,i),ret:=false,res:=[] },f::fs,h)
      |false=>none)
    |_=>none)
  |_=>none)
 |_=>none
def Zmi(T:Tab)(acc:List Bool)(o:AOp)(f:AFrame)(fs:List AFrame)(h:Zaa)(g:FuncId)(avs:List AV):Zur:=
 match ZfE o f.env with
 |some true=>(match Zak T g avs with
  |some af=>some (acc,af,f::fs,h)
  |none=>none)
 |_=>none
def opA(A:Ar)(T:Tab)(K:Con)(acc:List Bool)(o:AOp)(os:List AOp)(f:AFrame)(k:List AItem)(fs:List AFrame)(h:Zaa):Zur:=
 match Zfm A T K o f.env h with
 |some (b,r,h')=>some (b::acc,{ f with env:=Zr2 f.env o.d r,todo:=.inReg os::k },fs,h')
 |none=>match o.k with
  | .icall g args=>Zmi T acc o f fs h g (args.map (Zbf (ZaA f.env)))
  | .ncall _ _ g args=>Zmi T acc o f fs h g (args.map (Zbf (ZaA f.env)))
  | .ncallv _ _ x args=>(match Zbf (ZaA f.env) x with
    | .fn g caps=>Zmi T acc o f fs h g (args.map (Zbf (ZaA f.env))++caps)
    |_=>none)
  | .icallv x args=>(match Zbf (ZaA f.env) x with
    | .fn g caps=>Zmi T acc o f fs h g (args.map (Zbf (ZaA f.env))++caps)
    |v=>Zu7 acc o f fs h v args)
  |_=>none
def ZEu(a:Nat):List (Nat×Nat)→Nat
 |(d,_)::_=>(match ZuD d with |true=>d |false=>a)
 |[]=>a
def Zz6(d n:Nat)(ds:List (Nat×Nat)):List (Nat×Nat):=match ZuD d with |true=>ds |false=>(d,n)::ds
def ZC0:List Ghost→List (Nat×Nat)→List (Nat×Nat)
 | .sym d (.dfrs _)::_,[]=>(match ZuD d with |true=>[(d,0)] |false=>[])
 |_,ds=>ds
def rfB(T:Tab)(acc:List Bool)(f:AFrame)(k:List AItem)(fs:List AFrame)(h:Zaa)(a d:Nat)(x:AV)(ps:List Nat)(asg body:ACode):Zur:=
 match ZET x (.yld a (nxt (Zai h d .dfr) a))with
  |some (g,avs)=>(match Zak T g avs with
   |some af=>some (acc,af,{ f with todo:=.inRF a (nxt (Zai h d .dfr) a)::k,defs:=Zz6 d (nxt h d) f.defs } ::fs,Zai (Zai h d .dfr) a (.lp { st:=.ready,fn:=f.fn,N:=f.N,env:=f.env,params:=ps,asg:=asg,body:=body }))
   |none=>none)
  |none=>none
def rfA(T:Tab)(acc:List Bool)(f:AFrame)(k:List AItem)(fs:List AFrame)(h:Zaa)(a:Nat)(x:AV)(ps:List Nat)(asg body:ACode):Zur:=
 match f.rnd with
 |none=>(match ZuD a with
  |true=>none
  |false=>rfB T acc f k fs h a (ZEu a f.defs) x ps asg body)
 |some (a0,i0)=>(match blk h a0 i0 with
  | .lp _=>(match ZET x (.yld a (nxt h a))with
    |some (g,avs)=>(match Zak T g avs with
     |some af=>some (acc,af,{ f with todo:=.inRF a (nxt h a)::k } ::fs,Zai h a (.lp { st:=.ready,fn:=f.fn,N:=f.N,env:=f.env,params:=ps,asg:=asg,body:=body }))
     |none=>none)
    |none=>none)
  |_=>none)
def Zp0:List AOp→Bool
 |[]=>false
 |o::os=>match o.k.inl with |true=>true |false=>Zp0 os
theorem Zij:∀ {os:List AOp},Zp0 os=false→ZcE os=os.length
 |[],_=>rfl
 |o::os,h=>by
  simp only[Zp0]at h
  split at h
  ·cases h
  ·rename_i e;simp only[ZcE,e,List.length_cons];rw[Zij h]
def ZqX(A:Ar)(T:Tab)(K:Con)(acc:List Bool)(f:AFrame)(k:List AItem)(fs:List AFrame)(h:Zaa):ACode→Zur
 | .skip=>some (acc,{ f with todo:=k },fs,h)
 | .reg d ops=>(match d with
   |none=>some (acc,{ f with todo:=.inReg ops::k },fs,h)
   |some fr=>match ZqN fr with
    |true=>none
    |false=>match Zp0 ops with
     |false=>(match ZnR A T K ops acc f.env h with
      |some (acc',env',h')=>(match Zzx A T K fr ops f.env h with
       |true=>some (acc',{ f with env:=env',todo:=k },fs,h')
       |false=>none)
      |none=>none)
     |true=>match ZnR A T K (ops.take (ZcE ops)) acc f.env h with
      |some (acc',env',h')=>(match Zzx A T K fr (ops.take (ZcE ops)) f.env h with
       |true=>some (acc',{ f with env:=env',todo:=.inReg (ops.drop (ZcE ops))::k },fs,h')
       |false=>none)
      |none=>none)
 | .seq a b=>some (acc,{ f with todo:=.code a::.code b::k },fs,h)
 | .cond c a b=>(match Zbf (ZaA f.env) c with
   | .bool t=>(match t with
     |true=>some (acc,{ f with todo:=.code a::k },fs,h)
     |false=>some (acc,{ f with todo:=.code b::k },fs,h))
   |_=>none)
 | .block id b=>some (acc,{ f with todo:=.code b::.inBlock id::k },fs,h)
 | .loop b=>some (acc,{ f with todo:=.code b::.inLoop b::k },fs,h)
 | .rf a x ps asg body=>rfA T acc f k fs h a (Zbf (ZaA f.env) x) ps asg body
 | .exit id=>(match ZcA id k with
   |some k'=>some (acc,{ f with todo:=k' },fs,h)
   |none=>Zo2 acc fs h f.rnd (some (.exit id)))
 | .ret=>(match f.rnd with
   |none=>some (acc,{ f with ret:=true,todo:=[] },fs,h)
   |some p=>Zo2 acc fs h (some p) (some .ret))
 | .junk=>none
 | .gh gs c=>(match Zfd f.env h gs with
   |some (env',h')=>some (acc,{ f with env:=env',todo:=.code c::k,defs:=ZC0 gs f.defs },fs,h')
   |none=>none)
def ZMv(A:Ar)(acc:List Bool)(f:AFrame)(fs:List AFrame)(h:Zaa):Zur:=
 match f.defs with
 |(a,i)::ds=>(match ZuD a with
  |false=>(match blk h a i with
   | .dfr=>some (acc,{ f with defs:=ds },fs,ZaE h a i .dead)
   |_=>none)
  |true=>(match fam h a with
   |⟨0,[], .dfrs _⟩=>some (acc,{ f with defs:=ds },fs,Zox h a)
   |_=>none))
 |[]=>match f.rnd with
  |some _=>none
  |none=>match fs with
   |[]=>none
   |c::fs'=>match Zf6 A f.env h f.res with
    |some (b,vs)=>(match ZED c (ZhP vs)with
     |some c'=>some (b::acc,c',fs',h)
     |none=>none)
    |none=>none
def ZiL(A:Ar)(T:Tab)(K:Con)(acc:List Bool)(f:AFrame)(fs:List AFrame)(h:Zaa):Zur:=
 match f.ret with
 |true=>ZMv A acc f fs h
 |false=>match f.todo with
  |[]=>(match f.rnd with
   |none=>some (acc,{ f with ret:=true,todo:=[] },fs,h)
   |some p=>Zo2 acc fs h (some p) none)
  |it::k=>match it with
   | .inBlock _=>some (acc,{ f with todo:=k },fs,h)
   | .inLoop b=>some (acc,{ f with todo:=.code b::.inLoop b::k },fs,h)
   | .inReg os=>(match os with
     |[]=>some (acc,{ f with todo:=k },fs,h)
     |o::os=>opA A T K acc o os f k fs h)
   | .inRF _ _=>none
   | .endRF a i=>(match blk h a i with
     | .lp l=>(match Nat.beq l.N f.N with
       |true=>(match l.st with
        | .ready=>some (acc,{ f with todo:=k },fs,ZaE h a i .dead)
        | .done j=>some (acc,{ f with todo:=.code j::k },fs,ZaE h a i .dead)
        | .busy=>none)
       |false=>none)
     |_=>none)
   | .beginRound=>(match f.rnd with
     |some (a,i)=>(match blk h a i with
      | .lp l=>(match l.st with
        | .ready=>some (acc,{ f with todo:=k },fs,ZaE h a i (.lp { l with st:=.busy }))
        |_=>none)
      |_=>none)
     |none=>none)
   | .code c=>ZqX A T K acc f k fs h c
section
variable {C:Ctx}{T:Tab}{K:Con}{h h':Zaa}{f f':AFrame}{fs fs':List AFrame}{k:List AItem}{Q:List AFrame→Zaa→Prop}{acc acc':List Bool}
def ZiK(C:Ctx)(Q:List AFrame→Zaa→Prop)(acc:List Bool)(f:AFrame)(fs:List AFrame)(h:Zaa)(r:Zur):Prop:=
 ∀acc' f' fs' h',r=some (acc',f',fs',h')→(∀b∈acc',b=true)→Ev C (f'::fs') h' Q→(∀b∈acc,b=true)∧Ev C (f::fs) h Q
theorem Zd2{jump:Option ACode}(hr:f.ret=false)
 (ht:(jump=none∧f.todo=[])∨(jump=some .ret∧∃k,f.todo=.code .ret::k)∨∃id k,jump=some (.exit id)∧f.todo=.code (.exit id)::k∧ZcA id k=none):ZiK C Q acc f fs h (Zo2 acc fs h f.rnd jump):=by
 intro acc' f' fs' h' he hb hq
 unfold Zo2 at he
 split at he
 ·cases he
 ·rename_i a i hn
  split at he
  ·cases he
  ·rename_i c fs2
   split at he
   ·rename_i l hbl
    split at he
    ·rename_i c' hfin
     cases he
     exact⟨hb,ZxJ jump hr hn hbl ht hfin hq⟩
    ·cases he
   ·cases he
theorem Zmo{o:AOp}(hg:ZfE o f.env=some true):ZhR o f.env:=by
 unfold ZfE at hg
 unfold ZhR
 split
 ·trivial
 ·rename_i t want hgg
  rw[hgg]at hg
  simp only at hg
  split at hg
  ·rename_i b hb
   rw[hb]
   cases want<;>simp at hg<;>simp[hg]
  ·simp at hg
  ·cases hg
theorem Zcu(hT:ZbM C.P T){o:AOp}{os:List AOp}{g:FuncId}{avs:List AV}(hr:f.ret=false)(ht:f.todo=.inReg (o::os)::k)
 (ho:(∃args m a,(o.k=.icall g args∨o.k=.ncall m a g args)∧avs=args.map (Zbf (ZaA f.env)))∨(∃x args caps m a,(o.k=.icallv x args∨o.k=.ncallv m a x args)∧Zbf (ZaA f.env) x=.fn g caps∧avs=args.map (Zbf (ZaA f.env))++caps)):
 ZiK C Q acc f fs h (Zmi T acc o f fs h g avs):=by
 intro acc' f' fs' h' he hb hq
 unfold Zmi at he
 split at he
 ·rename_i hg
  split at he
  ·rename_i af haf
   cases he
   exact⟨hb,ZDS hT hr ht (Zmo hg) ho haf hq⟩
  ·cases he
 ·cases he
theorem ZoT{o:AOp}{os:List AOp}{x:Opd}{args:List Opd}(hr:f.ret=false)(ht:f.todo=.inReg (o::os)::k)(ho:o.k=.icallv x args):ZiK C Q acc f fs h (Zu7 acc o f fs h (Zbf (ZaA f.env) x) args):=by
 intro acc' f' fs' h' he hb hq
 unfold Zu7 at he
 split at he
 ·rename_i hg
  split at he
  ·rename_i a i hx
   split at he
   ·rename_i l hbl
    split at he
    ·rename_i hlen
     cases he
     exact⟨hb,Zzy hr ht (Zmo hg) ho hx hbl (by simpa using hlen) hq⟩
    ·cases he
   ·cases he
  ·cases he
 ·cases he
theorem Zp9(hT:ZbM C.P T)(hK:Zg0 C.P K){o:AOp}{os:List AOp}(hr:f.ret=false)(ht:f.todo=.inReg (o::os)::k):ZiK C Q acc f fs h (opA std T K acc o os f k fs h):=by
 intro acc' f' fs' h' he hb hq
 unfold opA at he
 split at he
 ·rename_i b r h1 hs
  cases he
  have hbt:b=true:=hb b List.mem_cons_self
  subst hbt
  exact⟨fun b hb'=>hb b (List.mem_cons_of_mem _ hb'),ZJ9 hr ht (Zb8 hT hK hs) hq⟩
 ·split at he
  ·rename_i g args ho
   exact Zcu hT hr ht (.inl ⟨args,false,0, .inl ho,rfl⟩) _ _ _ _ he hb hq
  ·rename_i m a g args ho
   exact Zcu hT hr ht (.inl ⟨args,m,a, .inr ho,rfl⟩) _ _ _ _ he hb hq
  ·rename_i m a x args ho
   split at he
   ·rename_i g caps hx
    exact Zcu hT hr ht (.inr ⟨x,args,caps,m,a, .inr ho,hx,rfl⟩) _ _ _ _ he hb hq
   ·cases he
  ·rename_i x args ho
   split at he
   ·rename_i g caps hx
    exact Zcu hT hr ht (.inr ⟨x,args,caps,false,0, .inl ho,hx,rfl⟩) _ _ _ _ he hb hq
   ·exact ZoT hr ht ho _ _ _ _ he hb hq
  ·cases he
theorem ZxW{f:AFrame}{gs:List Ghost}(hq:Ev C ({ f with defs:=ZC0 gs f.defs } ::fs) h Q):Ev C (f::fs) h Q:=by
 obtain⟨fn,N,env,todo,defs,rnd,ret,res⟩:=f
 dsimp only at hq
 unfold ZC0 at hq
 split at hq
 ·rename_i d n tl
  split at hq
  ·rename_i hb
   intro L fr cs w hf H _
   cases hf with
   |cons hf hk=>
    have e:=hf.defs.nil_inv
    refine hq L fr cs w (.cons ⟨hf.fn,hf.size,hf.env,hf.kind,?_,hf.rnd,hf.mode,hf.res⟩ hk) H (by simp)
    rw[e]
    exact .pool d 0 [] [] hb rfl .nil (fun k j g h1 _=>by simp at h1) .nil
  ·exact hq
 ·exact hq
theorem ZwF(hT:ZbM C.P T){a:Nat}{x:Opd}{ps:List Nat}{asg body:ACode}(hr:f.ret=false)(ht:f.todo=.code (.rf a x ps asg body)::k):ZiK C Q acc f fs h (rfA T acc f k fs h a (Zbf (ZaA f.env) x) ps asg body):=by
 intro acc' f' fs' h' he hb hq
 unfold rfA at he
 split at he
 ·rename_i hn
  split at he
  ·cases he
  ·rename_i hba
   unfold rfB at he
   split at he
   ·rename_i g avs hx
    split at he
    ·rename_i af haf
     cases he
     refine⟨hb,ZH0 hT hr ht hx (.inl ⟨hn,ZEu a f.defs,rfl,?_⟩) haf hq⟩
     unfold ZEu Zz6
     split
     ·rename_i d i ds hfd
      cases hbd:ZuD d with
      |true=>simp only[hbd];exact .inr ⟨trivial,trivial,i,ds,hfd⟩
      |false=>simp only[hba];exact .inl ⟨trivial,trivial⟩
     ·simp only[hba];exact .inl ⟨trivial,trivial⟩
    ·cases he
   ·cases he
 ·rename_i a0 i0 hn
  split at he
  ·rename_i l0 hl0
   split at he
   ·rename_i g avs hx
    split at he
    ·rename_i af haf
     cases he
     exact⟨hb,ZH0 hT hr ht hx (.inr ⟨⟨a0,i0,l0,hn,hl0⟩,rfl,rfl⟩) haf hq⟩
    ·cases he
   ·cases he
  ·cases he
theorem Zuo(hr:f.ret=true):ZiK C Q acc f fs h (ZMv std acc f fs h):=by
 intro acc' f' fs' h' he hb hq
 unfold ZMv at he
 split at he
 ·rename_i a i ds hd
  split at he
  ·rename_i hbig
   split at he
   ·rename_i hbl
    cases he
    exact⟨hb,ZuT hr hd hbig hbl hq⟩
   ·cases he
  ·rename_i hbig
   split at he
   ·rename_i n hbl
    cases he
    exact⟨hb,Zue hr hd hbig hbl hq⟩
   ·cases he
 ·rename_i hd
  split at he
  ·cases he
  ·rename_i hn
   split at he
   ·cases he
   ·rename_i c fs2
    split at he
    ·rename_i b vs hc
     split at he
     ·rename_i c' hfin
      cases he
      have hbt:b=true:=hb b List.mem_cons_self
      subst hbt
      exact⟨fun b hb'=>hb b (List.mem_cons_of_mem _ hb'),ZHA hr hn hd hc hfin hq⟩
     ·cases he
    ·cases he
theorem Zqo(hfol:C.P.follows .mixedOrders=true)(hT:ZbM C.P T)(hK:Zg0 C.P K){c:ACode}(hr:f.ret=false)(ht:f.todo=.code c::k):ZiK C Q acc f fs h (ZqX std T K acc f k fs h c):=by
 intro acc' f' fs' h' he hb hq
 cases c with
 |skip=>cases he;exact⟨hb,ZBh hr ht hq⟩
 |reg d ops=>
  simp only[ZqX]at he
  split at he
  ·cases he;exact⟨hb,ZJX hr ht hq⟩
  ·split at he
   ·cases he
   rename_i hany
   split at he
   ·rename_i hni
    split at he
    ·rename_i acc1 env1 h1 hd
     split at he
     ·rename_i hfree
      cases he
      obtain⟨d1,d2⟩:=Zff hT hK hd hb
      have hc:=Zij hni
      refine⟨fun b hb'=>hb b (ZfU hd b hb'),Zot hfol hany hr ht (by rw[hc,List.take_length];exact d1) (fun i j x z hm hx hz _=>Zl7 hfree i j x z hm hx hz) d2 (fun _ _ e=>e) ?_⟩
      rw[hc,List.drop_length]
      exact Zja hr rfl hq
     ·cases he
    ·cases he
   ·split at he
    ·rename_i acc1 env1 h1 hd
     split at he
     ·rename_i hfree
      cases he
      obtain⟨d1,d2⟩:=Zff hT hK hd hb
      exact⟨fun b hb'=>hb b (ZfU hd b hb'),Zot hfol hany hr ht d1 (fun i j x z hm hx hz _=>Zl7 hfree i j x z hm hx hz) d2 (fun _ _ e=>e) hq⟩
     ·cases he
    ·cases he
 |seq a b=>cases he;exact⟨hb,ZFE hr ht hq⟩
 |cond c a b=>
  simp only[ZqX]at he
  split at he
  ·rename_i t hc
   split at he
   ·cases he;exact⟨hb,Zq4 hr ht hc hq⟩
   ·cases he;exact⟨hb,Zq4 hr ht hc hq⟩
  ·cases he
 |block id b=>cases he;exact⟨hb,Zx6 hr ht hq⟩
 |loop b=>cases he;exact⟨hb,ZCt hr ht hq⟩
 |rf a x ps asg body=>exact ZwF hT hr ht _ _ _ _ he hb hq
 |exit id=>
  simp only[ZqX]at he
  split at he
  ·rename_i k' hk
   cases he;exact⟨hb,ZA5 hr ht hk hq⟩
  ·rename_i hk
   exact Zd2 hr (.inr (.inr ⟨id,k,rfl,ht,hk⟩)) _ _ _ _ he hb hq
 |ret=>
  simp only[ZqX]at he
  split at he
  ·rename_i hn
   cases he;exact⟨hb,Zwh hr hn (.inr ⟨k,ht⟩) hq⟩
  ·rename_i p hn
   rw[←hn]at he
   exact Zd2 hr (.inr (.inl ⟨rfl,k,ht⟩)) _ _ _ _ he hb hq
 |junk=>cases he
 |gh gs c=>
  simp only[ZqX]at he
  split at he
  ·rename_i env1 h1 hg
   cases he
   exact⟨hb,ZNw hr ht hg (ZxW (f:={ f with env:=env1,todo:=.code c::k }) hq)⟩
  ·cases he
theorem Zkf(hfol:C.P.follows .mixedOrders=true)(hT:ZbM C.P T)(hK:Zg0 C.P K):ZiK C Q acc f fs h (ZiL std T K acc f fs h):=by
 intro acc' f' fs' h' he hb hq
 unfold ZiL at he
 split at he
 ·rename_i hr
  exact Zuo hr _ _ _ _ he hb hq
 ·rename_i hr
  split at he
  ·rename_i ht
   split at he
   ·rename_i hn
    cases he;exact⟨hb,Zwh hr hn (.inl ht) hq⟩
   ·rename_i p hn
    rw[←hn]at he
    exact Zd2 hr (.inl ⟨rfl,ht⟩) _ _ _ _ he hb hq
  ·rename_i it k ht
   split at he
   ·cases he;exact⟨hb,ZtF hr ht hq⟩
   ·cases he;exact⟨hb,ZvD hr ht hq⟩
   ·split at he
    ·cases he;exact⟨hb,Zja hr ht hq⟩
    ·exact Zp9 hT hK hr ht _ _ _ _ he hb hq
   ·cases he
   ·rename_i a i
    split at he
    ·rename_i l hbl
     split at he
     ·rename_i hN
      have hN:l.N=f.N:=by simpa using hN
      split at he
      ·rename_i hst
       cases he
       exact⟨hb,Ztj hr ht hbl hN (.inl hst) (by rw[hst];exact hq)⟩
      ·rename_i j hst
       cases he
       exact⟨hb,Ztj hr ht hbl hN (.inr ⟨j,hst⟩) (by rw[hst];exact hq)⟩
      ·cases he
     ·cases he
    ·cases he
   ·split at he
    ·rename_i a i hn
     split at he
     ·rename_i l hbl
      split at he
      ·rename_i hst
       cases he
       exact⟨hb,ZxO hr hn ht hbl hst hq⟩
      ·cases he
     ·cases he
    ·cases he
   ·rename_i c
    exact Zqo hfol hT hK hr ht _ _ _ _ he hb hq
end
end Go.Proofs.YtjhldefnjghcdaaGreat
namespace Go.Proofs.YtjhldefnjghcdaaGreat
def Zz2(h:Zaa)(a i:Nat):Option (Bool×TypeId×Nat×Row):=
 match fam h a with
 |⟨0,_, .ints e sz k rows⟩=>some (Nat.blt i rows.length,e,sz, .ints k (rows.getD i []))
 |⟨0,_, .flts e sz k rows⟩=>some (Nat.blt i rows.length,e,sz, .flts k (rows.getD i []))
 |_=>none
theorem Zon{h:Zaa}{a i e sz:Nat}{r:Row}(hs:Zz2 h a i=some (true,e,sz,r)):blk h a i=.row e sz r:=by
 unfold Zz2 at hs
 split at hs
 ·rename_i l e' sz' k rows hy
  simp only[Option.some.injEq,Prod.mk.injEq]at hs
  obtain⟨h1,rfl,rfl,rfl⟩:=hs
  have hi:i<rows.length:=by simpa using h1
  unfold blk Fam.get
  rw[hy,Zbd (Nat.zero_le _)]
  simp[Fam.xs,hi]
 ·rename_i l e' sz' k rows hy
  simp only[Option.some.injEq,Prod.mk.injEq]at hs
  obtain⟨h1,rfl,rfl,rfl⟩:=hs
  have hi:i<rows.length:=by simpa using h1
  unfold blk Fam.get
  rw[hy,Zbd (Nat.zero_le _)]
  simp[Fam.xs,hi]
 ·cases hs
def ZHN(A:Ar)(h:Zaa)(n:Nat)(p:AV):Option (Bool×AV×Zaa):=
 match p with
 | .ptr a i k off=>(match Zz2 h a i with
   |some (b,_,_,r)=>some (Zac b (Zac (Nat.blt k (r.len A)) (Nat.beq off 0)),r.get A k,h)
   |none=>Ze5 h (Zk7 A h false n p))
 |p=>Ze5 h (Zk7 A h false n p)
def ZAv:AV→Bool
 | .int _ _=>true
 | .flt _ _=>true
 |_=>false
def ZAe(A:Ar)(h:Zaa)(n:Nat)(p x:AV):Option (Bool×AV×Zaa):=
 match p with
 | .ptr a i k off=>(match Zz2 h a i with
   |some (b,e,sz,r)=>(match ZAv x with
    |true=>some (Zac b (Zac (Zac (Nat.beq off 0) (Zac (Nat.beq n sz) (Nat.beq 1 n))) (Nat.blt k (r.len A))), .und,ZaE h a i (.row e sz (r.set A k x)))
    |false=>none)
   |none=>ZdD A h n p x)
 |p=>ZdD A h n p x
def ZzM(A:Ar)(h:Zaa)(sz:Nat)(x i:AV):Option (Bool×AV×Zaa):=
 match x with
 | .row a j=>(match Zz2 h a j with
   |some (b,_,sz',r)=>(match i with
    | .int _ n=>some (Zac b (Zac (Nat.beq sz' sz) (Zac (A.le 0 n) (Nat.blt (A.nat n) (r.len A)))), .ptr a j (A.nat n) 0,h)
    |_=>none)
   |none=>Ze5 h (Zby A h sz x i))
 |x=>Ze5 h (Zby A h sz x i)
def ZOx(A:Ar)(h:Zaa)(x:AV):Option (Bool×AV×Zaa):=
 match x with
 | .row a j=>(match Zz2 h a j with
   |some (b,_,_,r)=>some (b, .int .i64 (A.int (r.len A)),h)
   |none=>(match ZbA A h x with |some (b,r)=>some (b, .int .i64 (A.int (r.len A)),h) |none=>none))
 |x=>(match ZbA A h x with |some (b,r)=>some (b, .int .i64 (A.int (r.len A)),h) |none=>none)
def opU(A:Ar)(ρ:Opd→AV)(h:Zaa):OpK→Option (Bool×AV×Zaa)
 | .load ag n p=>(match ag with
   |false=>ZHN A h n (ρ p)
   |true=>Zal A ρ h (.load true n p))
 | .store n p x=>ZAe A h n (ρ p) (ρ x)
 | .iaddr sz x i=>(match isS i with
   |false=>ZzM A h sz (ρ x) (ρ i)
   |true=>Zal A ρ h (.iaddr sz x i))
 | .len x=>ZOx A h (ρ x)
 |k=>Zal A ρ h k
theorem Zvx{h:Zaa}{a i e sz:Nat}{r:Row}{b:Bool}(hs:Zz2 h a i=some (b,e,sz,r))(A:Ar)(k:Nat):ZAv (r.get A k)=true:=by
 unfold Zz2 at hs
 split at hs
 ·cases hs;rfl
 ·cases hs;rfl
 ·cases hs
theorem ZoC{ρ:Opd→AV}{h h':Zaa}{k:OpK}{r:AV}(hr:opU std ρ h k=some (true,r,h')):Zal std ρ h k=some (true,r,h'):=by
 cases k with
 |load ag n p=>
  simp only[opU]at hr
  split at hr
  ·simp only[Zal]
   generalize ρ p=q at hr⊢
   unfold ZHN at hr
   split at hr
   ·rename_i a i k off
    split at hr
    ·rename_i b e sz x hs
     simp only[Option.some.injEq,Prod.mk.injEq,std_and]at hr
     obtain⟨⟨rfl,h2,h3⟩,rfl,rfl⟩:=hr
     have hp:=Zvx hs std k
     simp only[Zk7,Zon hs]
     generalize x.get std k=u at hp⊢
     cases u<;>first |(cases hp;done) |(simp only[ZDw,Ze5,Option.some.injEq,Prod.mk.injEq,std_and,h2,h3,and_self])
    ·exact hr
   ·exact hr
  ·exact hr
 |store n p x=>
  simp only[opU]at hr
  simp only[Zal]
  generalize ρ p=q at hr⊢
  generalize ρ x=y at hr⊢
  unfold ZAe at hr
  split at hr
  ·rename_i a i k off
   split at hr
   ·rename_i b e sz z hs
    split at hr
    ·rename_i hy
     simp only[Option.some.injEq,Prod.mk.injEq,std_and]at hr
     obtain⟨⟨rfl,⟨h2,h3,h4⟩,h5⟩,rfl,rfl⟩:=hr
     have hp:=Zvx hs std k
     simp only[ZdD,Zon hs]
     generalize z.get std k=u at hp⊢
     cases u<;>first |(cases hp;done) |(cases y<;>first |(cases hy;done) |(simp only[ZLc,AV.bx,Zad,Option.some.injEq,Prod.mk.injEq,std_and,h2,h3,h4,h5,and_self]))
    ·cases hr
   ·exact hr
  ·exact hr
 |iaddr sz x i=>
  simp only[opU]at hr
  split at hr
  ·rename_i hi
   simp only[Zal,hi]
   generalize ρ x=q at hr⊢
   generalize ρ i=j at hr⊢
   unfold ZzM at hr
   split at hr
   ·rename_i a m
    split at hr
    ·rename_i b e sz' z hs
     split at hr
     ·rename_i kd n
      simp only[Option.some.injEq,Prod.mk.injEq,std_and]at hr
      obtain⟨⟨rfl,h2,h3,h4⟩,rfl,rfl⟩:=hr
      simp only[Zby,Zon hs,Ze5,Option.some.injEq,Prod.mk.injEq,std_and,h2,h3,h4,and_self]
     ·cases hr
    ·exact hr
   ·exact hr
  ·exact hr
 |len x=>
  simp only[opU]at hr
  simp only[Zal]
  generalize ρ x=q at hr⊢
  unfold ZOx at hr
  split at hr
  ·rename_i a m
   split at hr
   ·rename_i b e sz' z hs
    simp only[Option.some.injEq,Prod.mk.injEq]at hr
    obtain⟨rfl,rfl,rfl⟩:=hr
    simp only[ZbA,Zon hs]
   ·exact hr
  ·exact hr
 |_=>exact hr
def Zrs(A:Ar)(T:Tab)(K:Con)(ρ:Opd→AV)(h:Zaa)(k:OpK):Option (Bool×AV×Zaa):=
 match k with
 | .load ag n p=>opU A ρ h (.load ag n p)
 | .store n p x=>opU A ρ h (.store n p x)
 | .iaddr sz x i=>opU A ρ h (.iaddr sz x i)
 | .len x=>opU A ρ h (.len x)
 |k=>Zpy A T K ρ h k
theorem ZrO{T:Tab}{K:Con}{ρ:Opd→AV}{h h':Zaa}{k:OpK}{r:AV}(hr:Zrs std T K ρ h k=some (true,r,h')):Zpy std T K ρ h k=some (true,r,h'):=by
 unfold Zrs at hr
 split at hr
 ·exact ZoC hr
 ·exact ZoC hr
 ·exact ZoC hr
 ·exact ZoC hr
 ·exact hr
def ZiU(A:Ar)(T:Tab)(K:Con)(o:AOp)(env:List (Nat×AV))(h:Zaa):Option (Bool×AV×Zaa):=
 match ZfE o env with
 |none=>none
 |some g=>match g with
  |true=>Zrs A T K (Zbf (ZaA env)) h o.k
  |false=>some (true, .und,h)
theorem ZiA{T:Tab}{K:Con}{o:AOp}{env:List (Nat×AV)}{h h':Zaa}{r:AV}(hr:ZiU std T K o env h=some (true,r,h')):Zfm std T K o env h=some (true,r,h'):=by
 unfold ZiU at hr
 unfold Zfm
 split at hr
 ·cases hr
 ·rename_i g hg
  try rw[hg]
  split at hr
  ·exact ZrO hr
  ·exact hr
def ZM4(A:Ar)(T:Tab)(K:Con)(acc:List Bool)(o:AOp)(os:List AOp)(f:AFrame)(k:List AItem)(fs:List AFrame)(h:Zaa):Zur:=
 match ZiU A T K o f.env h with
 |some (b,r,h')=>some (b::acc,{ f with env:=Zr2 f.env o.d r,todo:=.inReg os::k },fs,h')
 |none=>opA A T K acc o os f k fs h
section
variable {C:Ctx}{T:Tab}{K:Con}{acc:List Bool}{f:AFrame}{k:List AItem}{fs:List AFrame}{h:Zaa}{Q:List AFrame→Zaa→Prop}
theorem Zt7(hT:ZbM C.P T)(hK:Zg0 C.P K){o:AOp}{os:List AOp}(hr:f.ret=false)(ht:f.todo=.inReg (o::os)::k):ZiK C Q acc f fs h (ZM4 std T K acc o os f k fs h):=by
 intro acc' f' fs' h' he hb hq
 unfold ZM4 at he
 split at he
 ·rename_i b r h1 hs
  cases he
  have hbt:b=true:=hb b List.mem_cons_self
  subst hbt
  exact⟨fun b hb'=>hb b (List.mem_cons_of_mem _ hb'),ZJ9 hr ht (Zb8 hT hK (ZiA hs)) hq⟩
 ·exact Zp9 hT hK hr ht _ _ _ _ he hb hq
end
end Go.Proofs.YtjhldefnjghcdaaGreat
namespace Go.Proofs.YtjhldefnjghcdaaGreat
open Go.RowKit (Below)
def ZBv(f:AFrame):Bool:=
 match f.ret with
 |true=>false
 |false=>match f.todo with
  |it::_=>(match it with
   | .code c=>(match c with | .gh gs _=>(match gs with |[]=>true |_=>false) |_=>false)
   |_=>false)
  |[]=>false
abbrev ASt:=List Bool×AFrame×List AFrame×Zaa
def ZNF(A:Ar)(T:Tab)(K:Con)(stop:Bool):Nat→List Bool→AFrame→List AFrame→Zaa→ASt
 |0,acc,f,fs,h=>(acc,f,fs,h)
 |n+1,acc,f,fs,h=>match ZiL A T K acc f fs h with
  |none=>(acc,f,fs,h)
  |some (acc',f',fs',h')=>match stop with
   |false=>ZNF A T K stop n acc' f' fs' h'
   |true=>match ZBv f with
    |true=>(acc',f',fs',h')
    |false=>ZNF A T K stop n acc' f' fs' h'
section
variable {C:Ctx}{T:Tab}{K:Con}{h h':Zaa}{f f':AFrame}{fs fs':List AFrame}{k:List AItem}{Q:List AFrame→Zaa→Prop}{acc acc':List Bool}
def ZFz:List AV→Option (Nat×Nat)
 |[]=>none
 | .row a i::_=>some (a,i)
 |_::xs=>ZFz xs
def ZsX(a i:Nat):AV→AV
 | .row b j=>match Nat.beq b a with |true=>(match Nat.beq j i with |true=>.row 0 0 |false=>.top) |false=>.top
 |v=>v
def ZsU(h:Zaa)(p:Nat×Nat)(v:AV):Option (AV×Option Fresh):=
 match blk h p.1 p.2 with
 | .row e sz r=>(match r.pure with
   |true=>(match Zxg v with |true=>some (v,some ⟨e,sz,r⟩) |false=>none)
   |false=>none)
 |_=>none
def Zq0(p:Nat×Nat):List AV→Bool
 |[]=>true
 | .row a i::xs=>match Nat.beq a p.1 with |true=>(match Nat.beq i p.2 with |true=>Zq0 p xs |false=>false) |false=>false
 |_::xs=>Zq0 p xs
def Zq3(h:Zaa):AV→Option (AV×Option Fresh)
 | .tup xs=>match ZFz xs with
   |none=>(match AV.pureL xs with |true=>some (.tup xs,none) |false=>none)
   |some p=>match Zq0 p xs with |true=>ZsU h p (.tup (xs.map (ZsX p.1 p.2))) |false=>none
 | .row a i=>ZsU h (a,i) (.row 0 0)
 |v=>match v.pure with |true=>some (v,none) |false=>none
def ZzW:AV→Bool
 | .slc .. =>false
 | .aslc .. =>false
 | .ptr .. =>false
 | .fn .. =>false
 |_=>true
def ZzE:AV→Bool
 | .tup xs=>xs.all ZzW
 |v=>ZzW v
def Zn2(h:Zaa)(a i:Nat):Option AV:=match blk h a i with
 | .row _ _ (.refs b p)=>match Zos b with
   |true=>none
   |false=>match fam h b with
    |⟨0,[], .ints _ _ k rows⟩=>some (.list (.gen (p.map fun j=>.list (.ints k (rows.getD j [])))))
    |_=>none
 |_=>none
def Zx2(h:Zaa)(v:AV):Option (Bool×AV):=match v with
 | .row a i=>(match Zos a with
   |true=>ZbD std h 4 v
   |false=>match Zn2 h a i with
    |some u=>some (true,u)
    |none=>ZbD std h 4 v)
 |v=>ZbD std h 4 v
def ZJc(h:Zaa):AV→Option (AV×Option Fresh)
 | .tup xs=>match ZoN std (Zx2 h) xs with |some (b,ys)=>(match b with |true=>some (.tup ys,none) |false=>none) |none=>none
 |v=>match Zx2 h v with |some (b,u)=>(match b with |true=>some (u,none) |false=>none) |none=>none
theorem Zpo{L:Lay}{w:World}(H:HRel C h L w){a i:Nat}{u:AV}{x:Value}(hz:Zos a=false)(hr:Zau C h L w (.row a i) x)(hs:Zn2 h a i=some u):ZJY C w L u x:=by
 unfold Zn2 at hs
 split at hs
 ·rename_i e sz0 b p hb
  split at hs
  ·cases hs
  ·rename_i hzb
   split at hs
   ·rename_i e2 sz2 k rows hf
    cases hs
    have hc:ZbA std h (.row a i)=some (true, .refs b p):=by simp only[ZbA,hb]
    obtain⟨ad,n,c,rfl,hn,hnc,hsome,hnone,sz,hsz⟩:=ZbY H hr hc
    have hel:(Row.refs b p).elems=p.map fun j=>AV.row b j:=rfl
    have hfa:∀q:List Nat,Zag (q.map fun j=>AV.row b j)=q.map fun j=>AV.row b j:=by
     intro q;induction q with
     |nil=>rfl
     |cons y q ih=>rw[List.map_cons];show AV.flat _++Zag _=_;rw[ih];rfl
    have hfb:∀q:List Nat,Zag (q.map fun j=>AV.list (.ints k (rows.getD j [])))=q.map fun j=>AV.list (.ints k (rows.getD j [])):=by
     intro q;induction q with
     |nil=>rfl
     |cons y q ih=>rw[List.map_cons];show AV.flat _++Zag _=_;rw[ih];rfl
    have hpu:∀q:List Nat,AV.pureL (q.map fun j=>AV.list (.ints k (rows.getD j [])))=true:=by
     intro q;induction q with
     |nil=>rfl
     |cons y q ih=>rw[List.map_cons];simp only[AV.pureL,ih,AV.pure,Bool.and_self]
    have hnx:nxt h b=rows.length:=by unfold nxt;rw[hf];simp[Fam.xs]
    have hbk:∀j,j<rows.length→blk h b j=.row e2 sz2 (.ints k (rows.getD j [])):=fun j hj=>by
     unfold blk Fam.get;rw[hf]
     rw[Zbd (Nat.zero_le _)]
     show(rows.map fun l=>Blk.row e2 sz2 (.ints k l)).getD (j-0) .dead=_
     rw[Nat.sub_zero,List.getD_eq_getElem?_getD,List.getElem?_map,List.getD_eq_getElem?_getD,List.getElem?_eq_getElem hj];rfl
    by_cases he:p=[]
    ·subst he
     have:n=0:=by rw[hn];rfl
     subst this
     exact .nil _ _ _ rfl
    ·have hne:(Row.refs b p).elems≠[]:=by rw[hel];simpa using he
     cases ad with
     |none=>exact absurd (hnone rfl) hne
     |some a'=>
      obtain⟨cs,e1,e2',e3,e4,e5⟩:=hsome a' rfl hne
      rw[hel,hfa]at e1 e4
      have hl:cs.length=p.length:=by rw[e1,List.length_map]
      have hnp:n=(p.map fun j=>AV.list (.ints k (rows.getD j []))).length:=by rw[hn,hel,List.length_map,List.length_map]
      have hfc:=hfb p
      refine .list (.gen (p.map fun j=>AV.list (.ints k (rows.getD j [])))) (p.map fun j=>AV.list (.ints k (rows.getD j []))) rfl a' n c 1 cs e5 (Zfc H hr hc (by simp only[nzV];show(!Zos _)=true;rw[hz];rfl) _ _ _ rfl hne) hnp hnc (fun z hz=>?_) (by rw[hfc,List.length_map,hl]) e2' e3 ?_ (fun j z v hj hv=>?_)
      ·obtain⟨j,_,rfl⟩:=List.mem_map.1 hz;rfl
      ·rw[hfc]
       exact hpu p
      ·rw[hfc,List.getElem?_map]at hj
       cases hq:p[j]? with
       |none=>rw[hq]at hj;cases hj
       |some y=>
        rw[hq]at hj
        cases hj
        have hrel:=e4.2 j (.row b y) v (by rw[List.getElem?_map,hq];rfl) hv
        have hy:y<rows.length:=by
         cases hrel with
         |row _ _ _ _ _ _ hlv=>rw[←hnx];exact hlv.1
        refine Zc3 H 1 (.row b y) _ v hrel ?_
        simp only[ZbD,hzb,ZbA,hbk y hy,Ze4,ZqV,Row.pure]
   ·cases hs
 ·cases hs
theorem ZpX{L:Lay}{w:World}(H:HRel C h L w){u u':AV}{x:Value}(hr:Zau C h L w u x)(hs:Zx2 h u=some (true,u')):ZJY C w L u' x:=by
 unfold Zx2 at hs
 split at hs
 ·split at hs
  ·exact Zc3 H 4 _ _ _ hr hs
  ·rename_i hz
   split at hs
   ·rename_i hq;cases hs;exact Zpo H hz hr hq
   ·exact Zc3 H 4 _ _ _ hr hs
 ·exact Zc3 H 4 _ _ _ hr hs
def Zha(h:Zaa)(v:AV):Option (AV×Option Fresh):=
 match Zq3 h v with
 |some r=>some r
 |none=>match ZzE v with |true=>ZJc h v |false=>none
theorem HRel.nil{L L':Lay}{w:World}(H:HRel C h L w):HRel C [] L' w:=
 ⟨H.below,fun _ _ ht=>absurd rfl ht.tag,fun _ _=>trivial,fun _ _ _ _ ht=>absurd rfl ht.tag,fun _ _ ht=>absurd rfl ht.tag,H.low,H.base,H.good⟩
theorem ZbK(f:Fresh)(a i:Nat):blk (Zat (some f)) a i=if a=0∧i=0 then .row f.e f.sz f.r else .dead:=by
 by_cases ha:a=0
 ·subst ha
  by_cases hi:i=0
  ·subst hi;rfl
  ·rw[if_neg (by simp[hi])]
   exact Zpc (by show 0+1≤i;omega)
 ·rw[if_neg (by simp[ha])]
  have:ZaA (Zat (some f)) a=none:=by
   have hb:Nat.beq 0 a=false:=by cases hb:Nat.beq 0 a with |false=>rfl |true=>exact absurd (Nat.eq_of_beq_eq_true hb).symm ha
   simp[Zat,ZaA,hb]
  unfold blk fam
  rw[this]
  exact Zpc (h:=[]) (a:=0) (Nat.zero_le _)
theorem Zxr{L:Lay}{w:World}(H:HRel C h L w){a i e sz:Nat}{r:Row}(hb:blk h a i=.row e sz r)(hp:r.pure=true):∃L',HRel C (Zat (some ⟨e,sz,r⟩)) L' w∧(∀g,Zaq C h L g→Zaq C (Zat (some ⟨e,sz,r⟩)) L' g)∧
 ∀x,Zau C h L w (.row a i) x→Zau C (Zat (some ⟨e,sz,r⟩)) L' w (.row 0 0) x:=by
 obtain⟨ht,h0,h1,h2,h3⟩:=H.rowAt hb
 have hpp:∀ {b j:Nat},Plc (Zat (some ⟨e,sz,r⟩)) ⟨fun _ _=>L.loc a i,fun _ _=>L.size a i⟩ b j→(b=0∧j=0)∧Plc h L a i:=fun {b j} p=>by
  by_cases h00:b=0∧j=0
  ·refine⟨h00,?_⟩
   obtain⟨s,e1,e2⟩:=p
   rw[ZbK,if_pos h00]at e1
   exact⟨s,ht.trans e1,e2⟩
  ·exact absurd (by rw[ZbK,if_neg h00];rfl) p.tag
 refine⟨⟨fun _ _=>L.loc a i,fun _ _=>L.size a i⟩,?_,?_,?_⟩
 ·have hok:∀g,Zaq C h L g→Zaq C (Zat (some ⟨e,sz,r⟩)) ⟨fun _ _=>L.loc a i,fun _ _=>L.size a i⟩ g:=fun g ho=>by
   rcases ho with ho |⟨q1,q2⟩
   ·exact .inl ho
   ·exact .inr ⟨q1,fun b j p=>q2 a i (hpp p).2⟩
  refine⟨H.below,fun b j p=>H.live a i (hpp p).2,fun b j=>?_,fun b j c k hb1 hb2 _=>?_,fun b j hb1=>?_,H.low,H.base,H.good⟩
  rotate_right
  ·obtain⟨e1,hp1⟩:=hpp hb1
   rcases H.home a i hp1 with h9 |⟨_,_,h9⟩
   ·exact .inl h9
   ·exact .inr ⟨e1.1,e1.2,h9⟩
  ·rw[ZbK]
   split
   ·refine⟨h0,h1,h2,h3,fun hn=>?_⟩
    obtain⟨_,cur,h4,h5,h6,h7,h8⟩:=H.curAt hb hn
    exact⟨cur,h4,h5,⟨h6.1,fun j u v hu hv=>((h6.2 j u v hu hv).okmono (fun g _ ho=>hok g ho)).pure (AV.pureL_mem (ZaY hp) hu)⟩,h7⟩
   ·trivial
  ·obtain⟨e1,_⟩:=hpp hb1
   obtain⟨e2,_⟩:=hpp hb2
   exact⟨e1.1.trans e2.1.symm,e1.2.trans e2.2.symm⟩
 ·intro g ho
  rcases ho with ho |⟨q1,q2⟩
  ·exact .inl ho
  ·exact .inr ⟨q1,fun b j p=>q2 a i (hpp p).2⟩
 ·intro x hx
  cases hx with
  |row _ _ ad n c hn hl=>
   have:=hl.2 _ ht
   refine .row 0 0 ad n c hn ⟨by show 0<0+1;omega,fun sz' hsz'=>?_⟩
   rw[ZbK]at hsz'
   simp only[and_self,if_true,Blk.tag,Option.some.injEq]at hsz'
   subst hsz'
   exact this
theorem Zwg{L L':Lay}{w:World}{a i:Nat}{h2:Zaa}(hok:∀g,Zaq C h L g→Zaq C h2 L' g)(hrow:∀x,Zau C h L w (.row a i) x→Zau C h2 L' w (.row 0 0) x){v:AV}{x:Value}(hr:Zau C h L w v x)(hp:ZqT (ZsX a i v)=true):Zau C h2 L' w (ZsX a i v) x:=by
 have base:∀ {v:AV},Zau C h L w v x→v.pure=true→Zau C h2 L' w v x:=fun hr hp=>(hr.okmono (fun g _ ho=>hok g ho)).pure hp
 unfold ZsX at hp⊢
 split
 ·rename_i b j
  split
  ·rename_i hba
   split
   ·rename_i hji
    have:=Nat.eq_of_beq_eq_true hba
    have:=Nat.eq_of_beq_eq_true hji
    subst b;subst j
    exact hrow x hr
   ·exact .top _
  ·exact .top _
 ·rename_i hne
  have hpp:v.pure=true:=by
   cases v<;>first |exact hp |exact absurd rfl (hne _ _)
  exact base hr hpp
theorem Zn5{L:Lay}{w:World}(H:HRel C h L w){v r:AV}{fr:Option Fresh}{x:Value}(hr:Zau C h L w v x)(he:Zq3 h v=some (r,fr)):∃L',HRel C (Zat fr) L' w∧Zau C (Zat fr) L' w r x:=by
 have base:∀ {v:AV},Zau C h L w v x→v.pure=true→∃L',HRel C (Zat none) L' w∧Zau C (Zat none) L' w v x:=fun hr hp=>⟨L,H.nil,(hr.okmono (fun g _ ho=>ZfZ ho)).pure hp⟩
 unfold Zq3 at he
 split at he
 ·rename_i xs
  split at he
  ·split at he
   ·rename_i hp
    cases he
    exact base hr (by simpa[AV.pure]using hp)
   ·cases he
  ·rename_i p hp
   split at he
   case h_2=>cases he
   unfold ZsU at he
   split at he
   ·rename_i e sz rr hb
    split at he
    ·rename_i hrp
     split at he
     ·rename_i hpt
      cases he
      obtain⟨L',H',hok,hrow⟩:=Zxr H hb hrp
      refine⟨L',H',?_⟩
      cases hr with
      |tup _ vs hl hh=>
       refine .tup _ vs (by simpa using hl) (fun j u v hu hv=>?_)
       rw[List.getElem?_map]at hu
       cases hx:xs[j]? with
       |none=>rw[hx]at hu;cases hu
       |some u0=>
        rw[hx]at hu
        simp only[Option.map_some,Option.some.injEq]at hu
        subst hu
        refine Zwg hok hrow (hh j u0 v hx hv) ?_
        simp only[Zxg,List.all_eq_true,List.mem_map,forall_exists_index,and_imp,forall_apply_eq_imp_iff₂]at hpt
        exact hpt u0 (List.mem_of_getElem? hx)
     ·cases he
    ·cases he
   ·cases he
 ·rename_i a i
  unfold ZsU at he
  split at he
  ·rename_i e sz rr hb
   split at he
   ·rename_i hrp
    split at he
    ·cases he
     obtain⟨L',H',hok,hrow⟩:=Zxr H hb hrp
     exact⟨L',H',hrow x hr⟩
    ·cases he
   ·cases he
  ·cases he
 ·split at he
  ·rename_i hp;cases he;exact base hr hp
  ·cases he
theorem Zip{L:Lay}{w:World}(H:HRel C h L w){v r:AV}{fr:Option Fresh}{x:Value}(hr:Zau C h L w v x)(he:Zha h v=some (r,fr)):∃L',HRel C (Zat fr) L' w∧Zau C (Zat fr) L' w r x:=by
 unfold Zha at he
 split at he
 ·rename_i q hq
  cases he
  exact Zn5 H hr hq
 ·rename_i hnone
  clear hnone
  generalize ZzE v=ww at he
  cases ww
  case false=>cases he
  dsimp only at he
  unfold ZJc at he
  split at he
  ·rename_i xs
   split at he
   ·rename_i b ys hm
    split at he
    ·cases he
     refine⟨L,H.nil,?_⟩
     cases hr with
     |tup _ vs hl hh=>
      obtain⟨g1,g2⟩:=ZcZ hm
      refine .tup _ vs (by rw[←g1];exact hl) (fun j u v hu hv=>?_)
      have hlt:j<xs.length:=by rw[g1];exact(List.getElem?_eq_some_iff.1 hu).1
      exact ZpX H (hh j _ v (List.getElem?_eq_getElem hlt) hv) (g2 j _ u (List.getElem?_eq_getElem hlt) hu)
    ·cases he
   ·cases he
  ·split at he
   ·rename_i b u hm
    split at he
    ·cases he
     exact⟨L,H.nil,ZpX H hr hm⟩
    ·cases he
   ·cases he
def ZwM(A:Ar)(h:Zaa):AV→Bool×AV
 | .slc a i k n c=>match Nat.beq k 0,c with
   |true,none=>(match blk h a i with | .row _ _ r=>(Nat.beq n (r.len A), .row a i) |_=>(true, .slc a i k n none))
   |_,c=>(true, .slc a i k n c)
 |v=>(true,v)
def Zcs(A:Ar)(h:Zaa):List AV→Bool×List AV
 |[]=>(true,[])
 |v::vs=>match ZwM A h v,Zcs A h vs with |(b,u),(c,us)=>(Zac b c,u::us)
def Zuz(A:Ar)(env:List (Nat×AV))(h:Zaa)(rs:List ARes):Option (Bool×List AV):=
 match Zf6 A env h rs with
 |some (b,vs)=>match Zcs A h vs with |(c,us)=>some (Zac b c,us)
 |none=>none
theorem Ztx{L:Lay}{w:World}(H:HRel C h L w){v u:AV}{x:Value}(hw:ZwM std h v=(true,u))(hr:Zau C h L w v x):Zau C h L w u x:=by
 unfold ZwM at hw
 split at hw
 ·rename_i a i k n c
  split at hw
  ·rename_i hk
   have hk:=Nat.eq_of_beq_eq_true hk
   subst hk
   split at hw
   ·rename_i e sz r hb
    simp only[Prod.mk.injEq]at hw
    obtain⟨hn,rfl⟩:=hw
    have hn:n=r.elems.length:=by rw[Row.len_std]at hn;simpa[std]using hn
    have htg:=H.tagAt hb
    cases hr with
    |slc _ _ _ _ _ ad c hnc hl=>
     rcases hl.2 _ htg with⟨hne,_⟩ |⟨h0,rfl⟩ |⟨rfl,hc1,hc2⟩
     ·exact absurd rfl hne
     ·refine .row a i ad n 0 hnc ⟨hl.1,fun s hs=>?_⟩
      rw[htg]at hs
      cases hs
      exact⟨fun hh=>absurd rfl hh,hn,h0.symm⟩
     ·refine .row a i _ n c hnc ⟨hl.1,fun s hs=>?_⟩
      rw[htg]at hs
      cases hs
      exact⟨fun _=>by simp,hn,by simpa using hc2⟩
   ·cases hw;exact hr
  ·cases hw;exact hr
 ·cases hw;exact hr
theorem ZhT{L:Lay}{w:World}(H:HRel C h L w):∀ {vs us:List AV} {xs:List Value},Zcs std h vs=(true,us)→RelL w (Zaq C h L) h L vs xs→RelL w (Zaq C h L) h L us xs
 |[],us,xs,hw,hr=>by
  simp only[Zcs,Prod.mk.injEq]at hw
  rw[←hw.2];exact hr
 |v::vs,us,xs,hw,hr=>by
  simp only[Zcs,Prod.mk.injEq,std_and]at hw
  obtain⟨⟨h1,h2⟩,rfl⟩:=hw
  cases xs with
  |nil=>have:=hr.1;simp at this
  |cons x xs=>
   refine RelL.cons (Ztx H (v:=v) (by rw[←h1]) (hr.2 0 v x rfl rfl)) (ZhT H (vs:=vs) (by rw[←h2]) ⟨by have:=hr.1;simpa using this,fun j a b ha hb=>hr.2 (j+1) a b (by simpa using ha) (by simpa using hb)⟩)
theorem ZnB(h:Zaa):∀ {vs us:List AV} {b:Bool},Zcs std h vs=(b,us)→us.length=vs.length
 |[],us,b,hw=>by
  simp only[Zcs,Prod.mk.injEq]at hw
  rw[←hw.2]
 |v::vs,us,b,hw=>by
  simp only[Zcs,Prod.mk.injEq]at hw
  rw[←hw.2,List.length_cons,List.length_cons,ZnB h (vs:=vs) rfl]
theorem ZnH{L:Lay}{w:World}(H:HRel C h L w){vs us:List AV}{x:Value}(hw:Zcs std h vs=(true,us))(hr:Zau C h L w (ZhP vs) x):Zau C h L w (ZhP us) x:=by
 have hl:=ZnB h hw
 have tup:∀ {vs us:List AV},Zcs std h vs=(true,us)→us.length=vs.length→Zau C h L w (.tup vs) x→Zau C h L w (.tup us) x:=fun hw hl hr=>by
  cases hr with
  |tup _ xs h1 h2=>
   have:=ZhT H hw (xs:=xs.toList) ⟨by simpa using h1,fun j u v hu hv=>h2 j u v hu (by simpa using hv)⟩
   exact .tup _ xs (by rw[hl];exact h1) (fun j u v hu hv=>this.2 j u v hu (by simpa using hv))
 match vs,us,hl with
 |[],[],_=>exact hr
 |[v],[u],_=>
  have:=ZhT H hw (xs:=[x]) (RelL.cons hr RelL.nil)
  exact this.2 0 u x rfl rfl
 |v::v2::vs,u::u2::us,hl=>exact tup hw hl hr
def ZaD(f:FuncId)(r:AV)(fr:Option Fresh)(fs:List AFrame)(h:Zaa):Prop:=
 ∃g vs,fs=[g]∧g.fn=f∧g.ret=true∧g.rnd=none∧g.defs=[]∧Zuz std g.env h g.res=some (true,vs)∧Zha h (ZhP vs)=some (r,fr)
theorem Zm9{P:Program}{T:Tab}(hT:ZbM P T){f:FuncId}{args:List AV}{af:AFrame}{r:AV}{fr:Option Fresh}(he:Zak T f args=some af)
 (hq:∀w okA cs,Ev (Ctx.of P w okA cs) [af] [] (ZaD f r fr)):ZaK P f args r fr:=by
 intro w okA L vs hargs hok hG cs
 have H0:HRel (Ctx.of P w okA cs) [] L w:=⟨Below.refl _ _,fun _ _ ht=>absurd rfl ht.tag,fun _ _=>trivial,fun _ _ _ _ ht=>absurd rfl ht.tag,fun _ _ ht=>absurd rfl ht.tag,fun _ _ _=>rfl,Nat.le_refl _,hG⟩
 obtain⟨hfr,_⟩:=ZfK (C:=(Ctx.of P w okA cs)) (h:=[]) (L:=L) (w:=w) hT he (by
  refine⟨hargs.1,fun j u v hu hv=>(hargs.2 j u v hu hv).okmono (fun g hg ho=>.inl ⟨hok g ho,ho⟩)⟩)
 obtain⟨fs',h',L',fr',cs',w',⟨g,us,rfl,hfn,hret,hrnd,hdefs,hc,hex⟩,_,hf',H',hst,_⟩:=hq w okA cs L _ cs w (.cons hfr .base) H0 (by simp)
 cases hf' with
 |cons hf' hk=>
  cases hk
  obtain⟨fn,hfn',hmr⟩:=hf'.res hrnd
  obtain⟨vs0,hc0,hwl⟩:∃vs0,Zf6 std g.env h' g.res=some (true,vs0)∧Zcs std h' vs0=(true,us):=by
   unfold Zuz at hc
   split at hc
   ·rename_i b vs hq
    generalize hz:Zcs std h' vs=z at hc
    obtain⟨c,us'⟩:=z
    simp only[Option.some.injEq,Prod.mk.injEq,std_and]at hc
    obtain⟨⟨rfl,rfl⟩,rfl⟩:=hc
    exact⟨vs,hq,hz⟩
   ·cases hc
  obtain⟨x,e1,e2⟩:=Ze7 H' hf'.env hmr hc0
  replace e2:=ZnH H' hwl e2
  obtain⟨L2,H2,r2⟩:=Zip H' e2 hex
  have hnew:ZpK fr=false:=by
   cases fr with
   |none=>rfl
   |some f=>
    have hbr:=H2.blks 0 0
    rw[show blk (Zat (some f)) 0 0=.row f.e f.sz f.r from rfl]at hbr
    have:=hbr.1
    show Nat.beq f.sz 0=false
    cases hb:Nat.beq f.sz 0 with
    |false=>rfl
    |true=>have:=Nat.eq_of_beq_eq_true hb;omega
  refine⟨.returned x,w',fr',⟨x,L2,rfl,H2.below,by unfold Zpe;rw[hnew];exact⟨⟨H2.below,H2.live,H2.blks,H2.inj,H2.home,H2.low,H2.base,H2.good⟩,r2⟩⟩,hst,hf'.fn.trans hfn,?_⟩
  rcases hf'.mode with⟨_,hm⟩ |⟨e,_⟩
  ·refine⟨hm,?_,hf'.kind,fn,?_,e1⟩
   ·have e:=hf'.defs
    rw[hdefs]at e
    rw[e.nil_inv]
   ·rw[hf'.fn];exact hfn'
  ·rw[hret]at e;cases e
end
end Go.Proofs.YtjhldefnjghcdaaGreat
namespace Go.Proofs.YtjhldefnjghcdaaGreat
open Go.RowKit (Below)
def ZNB(A:Ar)(f:FuncId)(s:ASt):Option (Bool×AV×Option Fresh):=
 match s with
 |(acc,g,fs,h)=>match fs with
  |_::_=>none
  |[]=>match g.ret&&Nat.beq g.fn f with
   |false=>none
   |true=>match g.rnd with
    |some _=>none
    |none=>match g.defs with
     |_::_=>none
     |[]=>match Zuz A g.env h g.res with
      |none=>none
      |some (b,vs)=>match Zha h (ZhP vs)with
       |none=>none
       |some (r,fr)=>match acc.all (fun b=>b)with
        |true=>(match b with |true=>some (true,r,fr) |false=>none)
        |false=>none
section
variable {P:Program}{T:Tab}{K:Con}
theorem Zvc{f:FuncId}{s:ASt}{r:AV}{fr:Option Fresh}(h:ZNB std f s=some (true,r,fr)):∃acc g h',s=(acc,g,[],h')∧acc.all (fun b=>b)=true∧ZaD f r fr [g] h':=by
 obtain⟨acc,g,fs,hp⟩:=s
 unfold ZNB at h
 dsimp only at h
 split at h
 ·cases h
 ·split at h
  ·cases h
  ·rename_i hg
   simp only[Bool.and_eq_true]at hg
   split at h
   ·cases h
   ·rename_i hn
    split at h
    ·cases h
    ·rename_i hd
     split at h
     ·cases h
     ·rename_i b vs hc
      split at h
      ·cases h
      ·rename_i r' fr' hex
       split at h
       ·rename_i hacc
        cases b
        case false=>cases h
        simp only[Option.some.injEq,Prod.mk.injEq,true_and]at h
        obtain⟨rfl,rfl⟩:=h
        exact⟨acc,g,hp,rfl,hacc,g,vs,rfl,Nat.eq_of_beq_eq_true hg.2,hg.1,hn,hd,hc,hex⟩
       ·cases h
end
end Go.Proofs.YtjhldefnjghcdaaGreat
