/- The machine runs. No condition. -/
import Derived.Test.YtkeoeooghhjibaaGreatDoorXq
namespace Go.Proofs.YtkeoeooghhjibaaGreatDoor
open Go.RowKit (Below)
abbrev Con:=FuncId→zA→Option (Bool×AV×Option Fresh)
def ZfZ(P:Program)(K:Con):Prop:=∀f args r fr,K f args=some (true,r,fr)→Zan P f args r fr
def ZEA(a:Nat)(r:AV)(m:Bool):Option Fresh→Bool
 |none=>r.pure&&(!m||r.solid)
 |some f=>match Nat.beq f.sz 0 with |true=>r.pure |false=>Nat.blt 0 a&&(Zrh r&&(f.r.pure&&(!m||(r.solid&&f.r.solid))))
def ZHf(A:Ar)(h:Zad)(m:Bool)(avs:zA):Option (Bool×zA):=
 match m with
 |true=>Zqx A h avs
 |false=>match AV.pureL avs with |true=>some (true,avs) |false=>none
def Zuv(A:Ar)(K:Con)(h:Zad)(a:Nat)(f:FuncId)(avs:zA):Option (Bool×AV×Zad):=
 match ZHf A h (!AV.pureL avs) avs with
 |none=>none
 |some (b0,avs')=>match K f avs' with
  |none=>none
  |some (b,r0,fr)=>match ZEA a r0 (!AV.pureL avs) fr with
   |true=>some (Zag b0 b,ZcC h a r0 fr)
   |false=>none
def isF(T:Tab)(f:FuncId):Bool:=match T f with |some _=>true |none=>false
def ZlG(A:Ar)(T:Tab)(K:Con)(ρ:Opd→AV)(h:Zad):OpK→Option (Bool×AV×Zad)
 | .ncall _ a f args=>Zuv A K h a f (args.map ρ)
 | .ncallv _ a x args=>match ZAv (ρ x) (args.map ρ)with
   |some (f,avs)=>(match isF T f with |true=>Zuv A K h a f avs |false=>none)
   |none=>none
 |k=>Zat A ρ h k
def Zfu(o:AOp)(env:List (Nat×AV)):Option Bool:=
 match o.g with
 |none=>some true
 |some (t,want)=>match ZaP env t with
  |some (.bool b)=>(match want with |true=>some b |false=>some (!b))
  |some .und=>some false
  |_=>none
def Ze5(A:Ar)(T:Tab)(K:Con)(o:AOp)(env:List (Nat×AV))(h:Zad):Option (Bool×AV×Zad):=
 match Zfu o env with
 |none=>none
 |some g=>match g with
  |true=>ZlG A T K (Zbw (ZaP env)) h o.k
  |false=>some (true, .und,h)
def wOf(ρ:Opd→AV)(h:Zad):OpK→List (Nat×Nat)
 | .store _ p _=>Zbk (ρ p)
 | .stores _ p x=>(match ρ x with | .slc a i _ _ _=>[(a,nxt h a),(a,i)] |_=>[])++Zbk (ρ p)
 | .box a _ _=>[(a,nxt h a)]
 | .alloc a _ _=>[(a,nxt h a)]
 | .bslice a _ _ _=>[(a,nxt h a)]
 | .mkslice a _ _ _ _=>[(a,nxt h a)]
 | .mklst a _ _ _ _=>[(a,nxt h a)]
 | .append a _ _ x _=>(a,nxt h a)::Zbk (ρ x)
 | .appz a _ _ _ x _=>(a,nxt h a)::Zbk (ρ x)
 | .copy _ x _=>Zbk (ρ x)
 | .clr _ _ _ x=>Zbk (ρ x)
 | .mkmap a=>[(a,nxt h a)]
 | .mkrefs b _ _ a _ _=>[(b,nxt h b),(a,0)]
 | .mupd x _=>Zbk (ρ x)
 | .ncall _ a _ _=>[(a,nxt h a)]
 | .ncallv _ a _ _=>[(a,nxt h a)]
 |_=>[]
def Zkb(env:List (Nat×AV))(h:Zad)(o:AOp):Foot:=⟨o,o.k.looks.flatMap fun x=>Zdq h o.k (Zbw (ZaP env) x),wOf (Zbw (ZaP env)) h o.k⟩
def ZwK(p:Nat×Nat):List (Nat×Nat)→Bool
 |[]=>false
 |q::l=>match Nat.beq p.1 q.1 with |true=>(match Nat.beq p.2 q.2 with |true=>true |false=>ZwK p l) |false=>ZwK p l
def ZpB(m:List (Nat×Nat)):List (Nat×Nat)→Bool
 |[]=>true
 |p::l=>match ZwK p m with |true=>false |false=>ZpB m l
def Zqu(zs:List Foot):List (Nat×Nat)→Bool
 |[]=>true
 |(i,j)::fr=>match zs[i]?,zs[j]? with
  |some x,some z=>(match (z.o.k.neutral&&ZpB x.w z.r)||(x.o.k.neutral&&ZpB z.w x.r)||(x.o.frees z.o&&ZpB z.w x.r)with |true=>Zqu zs fr |false=>false)
  |_,_=>Zqu zs fr
def Zlo(A:Ar)(T:Tab)(K:Con):List AOp→List Bool→List (Nat×AV)→Zad→Option (List Bool×List (Nat×AV)×Zad)
 |[],acc,env,h=>some (acc,env,h)
 |o::os,acc,env,h=>match Ze5 A T K o env h with
  |some (b,r,h')=>Zlo A T K os (b::acc) (Zos env o.d r) h'
  |none=>none
def Znp(A:Ar)(T:Tab)(K:Con):List AOp→List (Nat×AV)→Zad→List Foot
 |[],_,_=>[]
 |o::os,env,h=>Zkb env h o::match Ze5 A T K o env h with
  |some (_,r,h')=>Znp A T K os (Zos env o.d r) h'
  |none=>[]
def Zuj(A:Ar)(T:Tab)(K:Con)(fr:List (Nat×Nat))(os:List AOp)(env:List (Nat×AV))(h:Zad):Bool:=
 match fr with
 |[]=>true
 |fr=>Zqu (Znp A T K os env h) fr
section
variable {C:Ctx}{T:Tab}{K:Con}{h h':Zad}{f:AFrame}{fs:List AFrame}{k:List AItem}{Q:List AFrame→Zad→Prop}
theorem Zgz:∀(l:zA),(∀z∈l,z.solid=true)→AV.solidL l=true
 |[],_=>rfl
 |z::zs,hz=>by simp only[AV.solidL,Bool.and_eq_true];exact⟨hz z List.mem_cons_self,Zgz zs (fun q hq=>hz q (List.mem_cons_of_mem _ hq))⟩
theorem ZhZ:∀ {l:zA},AV.solidL l=true→∀z∈l,z.solid=true
 |y::ys,h,z,hz=>by
  simp only[AV.solidL,Bool.and_eq_true]at h
  rcases List.mem_cons.1 hz with e |e
  ·rw[e];exact h.1
  ·exact ZhZ h.2 z e
theorem Zp2{a b:zA}(ha:AV.solidL a=true)(hb:AV.solidL b=true):AV.solidL (a++b)=true:=
 Zgz _ (fun z hz=>(List.mem_append.1 hz).elim (ZhZ ha z) (ZhZ hb z))
theorem ZlZ{r:Row}(hs:r.solid=true):∀z∈r.elems,z.solid=true:=fun z hz=>by
 obtain⟨j,hj⟩:=List.mem_iff_getElem?.1 hz
 exact Row.solid_mem hs hj
theorem Zi1{r:Row}(hs:r.solid=true):r.allSolid:=by
 have hm:=ZlZ hs
 unfold Row.allSolid
 generalize r.elems=l at hm
 induction l with
 |nil=>rfl
 |cons y ys ih=>
  rw[ZaL]
  refine Zp2 ?_ (ih (fun z hz=>hm z (List.mem_cons_of_mem _ hz)))
  have h1:=hm y List.mem_cons_self
  cases y with
  |agg q=>exact Zgz _ (ZlZ (by simpa[AV.solid]using h1))
  |_=>simp only[AV.flat,AV.solidL,Bool.and_true];exact h1
theorem Zzk{a:Nat}{r:AV}{m:Bool}{fr:Option Fresh}(h:ZEA a r m fr=true):Zt8 a r m fr:=by
 cases fr with
 |none=>
  simp only[ZEA,Bool.and_eq_true,Bool.or_eq_true,Bool.not_eq_true']at h
  exact⟨h.1,fun e=>by rcases h.2 with h2 |h2<;>simp_all⟩
 |some f=>
  cases hz:Nat.beq f.sz 0 with
  |true=>simp only[ZEA,hz]at h;exact .inl ⟨Nat.eq_of_beq_eq_true hz,h⟩
  |false=>
   simp only[ZEA,hz,Bool.and_eq_true,Bool.or_eq_true,Bool.not_eq_true',Nat.blt_eq]at h
   obtain⟨h1,h2,h3,h4⟩:=h
   exact .inr ⟨(fun e=>by rw[e]at hz;cases hz),(by omega),h2,Zbj h3,fun e=>by rcases h4 with h4 |h4<;>simp_all[Zi1]⟩
theorem ZhW{P:Program}(hK:ZfZ P K){a:Nat}{f:FuncId}{avs:zA}{r:AV}(hc:Zuv std K h a f avs=some (true,r,h')):∃m,ZdH P h m a f avs r h':=by
 unfold Zuv at hc
 split at hc
 ·cases hc
 ·rename_i b0 avs' ha
  split at hc
  ·cases hc
  ·rename_i b r0 fr hk
   split at hc
   ·rename_i hask
    simp only[zS,zP,std_and]at hc
    obtain⟨⟨rfl,rfl⟩,hc⟩:=hc
    refine⟨!AV.pureL avs,avs',r0,fr,?_,hK _ _ _ _ hk,Zzk hask,hc⟩
    unfold ZHf at ha
    generalize hm:(!AV.pureL avs)=m at ha
    cases m with
    |true=>simpa using ha
    |false=>
     simp only at ha
     split at ha
     ·rename_i hp;cases ha;simp[hp]
     ·cases ha
   ·cases hc
theorem Zs5(hT:ZbH C.P T){f:FuncId}(hi:isF T f=true):ZbF C.P f=true:=by
 unfold isF at hi
 split at hi
 ·rename_i af hf
  have:=hT f af hf
  unfold Zas at this
  split at this
  ·simp only[Bool.and_eq_true]at this;exact this.2
  ·cases this
 ·cases hi
theorem ZdM(hT:ZbH C.P T)(hK:ZfZ C.P K){ρ:Opd→AV}{kk:OpK}{r:AV}(hc:ZlG std T K ρ h kk=some (true,r,h')):Zcw C.P ρ h kk r h':=by
 cases kk with
 |ncall m a f args=>exact ZhW hK hc
 |ncallv m a x args=>
  simp only[ZlG]at hc
  split at hc
  ·rename_i f avs hx
   split at hc
   ·rename_i hi
    obtain⟨m',hc⟩:=ZhW hK hc
    exact⟨f,avs,m',hx,Zs5 hT hi,hc⟩
   ·cases hc
  ·cases hc
 |_=>exact hc
theorem Zct(hT:ZbH C.P T)(hK:ZfZ C.P K){o:AOp}{env:List (Nat×AV)}{r:AV}(hc:Ze5 std T K o env h=some (true,r,h')):Zdk C.P o (ZaP env) h r h':=by
 unfold Ze5 at hc
 unfold Zdk
 split at hc
 ·cases hc
 ·rename_i g hg
  unfold Zfu at hg
  split at hc
  ·split at hg
   ·rename_i hgg;rw[hgg];exact ZdM hT hK hc
   ·rename_i t want hgg
    rw[hgg]
    split at hg
    ·rename_i b hb
     split at hg
     ·simp only[zS]at hg;subst hg;exact .inl ⟨hb,ZdM hT hK hc⟩
     ·simp only[zS,Bool.not_eq_true']at hg;subst hg;exact .inl ⟨hb,ZdM hT hK hc⟩
    ·simp at hg
    ·cases hg
  ·simp only[zS,zP,true_and]at hc
   obtain⟨rfl,rfl⟩:=hc
   split at hg
   ·simp at hg
   ·rename_i t want hgg
    rw[hgg]
    split at hg
    ·rename_i b hb
     split at hg
     ·simp only[zS]at hg;subst hg;exact .inr (.inl ⟨hb,rfl,rfl⟩)
     ·simp only[zS,Bool.not_eq_false']at hg;subst hg;exact .inr (.inl ⟨hb,rfl,rfl⟩)
    ·rename_i hb;exact .inr (.inr ⟨hb,rfl,rfl⟩)
    ·cases hg
theorem ZfI{A:Ar} :∀ {os:List AOp} {acc acc':List Bool} {env env':List (Nat×AV)} {h h':Zad},Zlo A T K os acc env h=some (acc',env',h')→∀b∈acc,b∈acc'
 |[],acc,acc',env,env',h,h',hd,b,hb=>by simp only[Zlo,zS,zP]at hd;obtain⟨rfl,_,_⟩:=hd;exact hb
 |o::os,acc,acc',env,env',h,h',hd,b,hb=>by
  simp only[Zlo]at hd
  split at hd
  ·exact ZfI hd b (List.mem_cons_of_mem _ hb)
  ·cases hd
theorem memB_iff{p:Nat×Nat} :∀ {l:List (Nat×Nat)},ZwK p l=true↔p∈l
 |[]=>by simp[ZwK]
 |q::l=>by
  obtain⟨a,i⟩:=p;obtain⟨b,j⟩:=q
  have ih:=memB_iff (p:=(a,i)) (l:=l)
  have hb:∀a b:Nat,Nat.beq a b=decide (a=b):=fun a b=>by rw[Bool.eq_iff_iff];simp
  simp only[ZwK,hb,List.mem_cons,zP]
  by_cases h1:a=b
  ·subst h1
   by_cases h2:i=j
   ·subst h2;simp
   ·simp[h2,ih]
  ·simp[h1,ih]
theorem ZeF{m:List (Nat×Nat)} :∀ {l:List (Nat×Nat)},ZpB m l=true→ZFA l m
 |[],_=>fun p hp=>by simp at hp
 |q::l,h=>by
  simp only[ZpB]at h
  split at h
  ·cases h
  ·rename_i hq
   intro p hp
   rcases List.mem_cons.1 hp with e |e
   ·rw[e];intro hm;rw[memB_iff.2 hm]at hq;cases hq
   ·exact ZeF h p e
theorem ZgE{zs:List Foot} :∀ {fr:List (Nat×Nat)},Zqu zs fr=true→∀(i j:Nat) (x z:Foot),(i,j)∈fr→zs[i]? =some x→zs[j]? =some z→ZpU x z
 |[],_,i,j,x,z,hm,_,_=>by simp at hm
 |(a,b)::fr,h,i,j,x,z,hm,hx,hz=>by
  simp only[Zqu]at h
  rcases List.mem_cons.1 hm with e |e
  ·cases e
   rw[hx,hz]at h
   simp only at h
   split at h
   ·rename_i hc
    simp only[Bool.or_eq_true,Bool.and_eq_true]at hc
    rcases hc with(h |h) |h
    ·exact .inl ⟨h.1,ZeF h.2⟩
    ·exact .inr (.inl ⟨h.1,ZeF h.2⟩)
    ·exact .inr (.inr ⟨h.1,ZeF h.2⟩)
   ·cases h
  ·refine ZgE (fr:=fr) ?_ i j x z e hx hz
   split at h
   ·split at h
    ·exact h
    ·cases h
   ·exact h
theorem ZcF{h:Zad}{c i:Nat}{b:Blk}(hb:blk h c i≠ .dead){p:Nat×Nat}(hp:p≠(c,i)):blk (ZaY h c i b) p.1 p.2=blk h p.1 p.2:=by
 rw[Zcm hb,if_neg (fun e=>hp (by obtain⟨a,j⟩:=p;simp only at e;rw[e.1,e.2]))]
theorem Zbq{h:Zad}{a:Nat}{b:Blk}{p:Nat×Nat}(hp:p≠(a,nxt h a)):blk (Zal h a b) p.1 p.2=blk h p.1 p.2:=by
 rw[Za3,if_neg (fun e=>hp (by obtain⟨c,j⟩:=p;simp only at e;rw[←e.1,e.2]))]
theorem Zo8{P:Program}{m:Bool}{a:Nat}{f:FuncId}{avs:zA}{r:AV}(hd:ZdH P h m a f avs r h'){p:Nat×Nat}(hp:p≠(a,nxt h a)):blk h' p.1 p.2=blk h p.1 p.2:=by
 obtain⟨avs',r0,fr,_,_,_,had⟩:=hd
 cases fr with
 |none=>simp only[ZcC,zP]at had;rw[←had.2]
 |some f=>
  simp only[ZcC]at had
  split at had
  ·simp only[zP]at had;rw[←had.2]
  ·simp only[zP]at had;rw[←had.2];exact Zbq hp
theorem ZjB{A:Ar}{n:Nat}{q x v:AV}{b:Bool}(hd:ZdK A h n q x=some (b,v,h')){p:Nat×Nat}(hp:p∉Zbk q):blk h' p.1 p.2=blk h p.1 p.2:=by
 unfold ZdK at hd
 split at hd
 ·split at hd
  ·rename_i e sz rr hb
   split at hd
   ·simp only[zS,zP]at hd
    rw[←hd.2.2];exact ZcF (by rw[hb];simp) (by simpa[Zbk]using hp)
   ·cases hd
  ·cases hd
 ·cases hd
theorem ZoB{P:Program}{k:OpK}{ρ:Opd→AV}{r:AV}(hd:Zcw P ρ h k r h'):∀p:Nat×Nat,p∉wOf ρ h k→blk h' p.1 p.2=blk h p.1 p.2:=by
 intro p hp
 by_cases hn:k.neutral=true
 ·rw[ZdQ hn hd]
 have row_ne:∀ {c i e sz:Nat} {r:Row},blk h c i=.row e sz r→blk h c i≠ .dead:=fun hb=>by rw[hb];simp
 cases k with
 |ncall m a f args=>obtain⟨m',hd⟩:=hd;exact Zo8 hd (by simpa[wOf]using hp)
 |ncallv m a x args=>obtain⟨f,avs,m',_,_,hc⟩:=hd;exact Zo8 hc (by simpa[wOf]using hp)
 |box a e x=>
  simp only[Zcw,Zat,zS,zP]at hd
  rw[←hd.2.2];exact Zbq (by simpa[wOf]using hp)
 |alloc a e z=>
  simp only[Zcw,Zat,zS,zP]at hd
  rw[←hd.2.2];exact Zbq (by simpa[wOf]using hp)
 |bslice a e sz ps=>
  simp only[Zcw,Zat,zS,zP]at hd
  rw[←hd.2.2];exact Zbq (by simpa[wOf]using hp)
 |mklst a e sz z ln=>
  simp only[Zcw,Zat]at hd
  split at hd
  ·split at hd
   ·simp only[zS,zP]at hd
    rw[←hd.2.2];exact Zbq (by simpa[wOf]using hp)
   ·cases hd
  ·cases hd
 |mkslice a e sz z ln=>
  simp only[Zcw,Zat]at hd
  split at hd
  ·simp only[zS,zP]at hd
   rw[←hd.2.2];exact Zbq (by simpa[wOf]using hp)
  ·cases hd
 |store n q x=>
  simp only[Zcw,Zat,ZdK,wOf]at hd hp
  split at hd
  ·rename_i a i k off hq
   rw[hq]at hp
   split at hd
   ·rename_i e sz rr hb
    split at hd
    ·simp only[zS,zP]at hd
     rw[←hd.2.2];exact ZcF (row_ne hb) (by simpa[Zbk]using hp)
    ·cases hd
   ·cases hd
  ·cases hd
 |stores n q x=>
  simp only[Zcw,Zat,ZnF,wOf]at hd hp
  split at hd
  ·rename_i a i m hx
   rw[hx]at hp
   simp only[List.mem_append,List.mem_cons,List.not_mem_nil,or_false,not_or]at hp
   split at hd
   ·rename_i e sz rr hz hb
    obtain⟨k1,_⟩:=Zdb (row_ne hb)
    split at hd
    ·rename_i b v h2 hst
     simp only[zS,zP]at hd
     obtain⟨_,_,rfl⟩:=hd
     rw[ZjB hst hp.2,Zbq (by rw[k1];exact hp.1.1),ZcF (row_ne hb) hp.1.2]
    ·cases hd
   ·cases hd
  ·exact ZjB hd (fun e=>hp (List.mem_append_right _ e))
 |copy sz x y=>
  simp only[Zcw,Zat,ZuP,wOf]at hd hp
  split at hd
  ·cases hd
  ·split at hd
   ·rename_i c i hx
    rw[hx]at hp
    split at hd
    ·rename_i hb
     simp only[zS,zP]at hd
     rw[←hd.2.2];exact ZcF (row_ne hb) (by simpa[Zbk]using hp)
    ·cases hd
   ·rename_i c i k n q hx
    rw[hx]at hp
    split at hd
    ·rename_i hb
     simp only[zS,zP]at hd
     rw[←hd.2.2];exact ZcF (row_ne hb) (by simpa[Zbk]using hp)
    ·cases hd
   ·rename_i c i k off n hx
    rw[hx]at hp
    split at hd
    ·rename_i hb
     split at hd
     ·simp only[zS,zP]at hd
      rw[←hd.2.2];exact ZcF (row_ne hb) (by simpa[Zbk]using hp)
     ·cases hd
    ·cases hd
   ·cases hd
 |clr e sz z x=>
  simp only[Zcw,Zat,ZHS,wOf]at hd hp
  split at hd
  ·rename_i c i k n q hx
   rw[hx]at hp
   split at hd
   ·rename_i hb
    split at hd
    ·simp only[zS,zP]at hd
     rw[←hd.2.2];exact ZcF (row_ne hb) (by simpa[Zbk]using hp)
    ·cases hd
   ·cases hd
  ·cases hd
 |append a e sz x y=>
  simp only[Zcw,Zat,ZHN,wOf,List.mem_cons,not_or]at hd hp
  obtain⟨hp1,hp2⟩:=hp
  split at hd
  ·cases hd
  ·split at hd
   ·split at hd
    ·simp only[zS,zP]at hd;rw[←hd.2.2]
    ·simp only[zS,zP]at hd;rw[←hd.2.2];exact Zbq hp1
   ·rename_i c i hx
    rw[hx]at hp2
    split at hd
    ·rename_i hb
     simp only[zS,zP]at hd
     rw[←hd.2.2]
     rw[Zbq (by rw[ZdJ];exact hp1),ZcF (row_ne hb) (by simpa[Zbk]using hp2)]
    ·cases hd
   ·rename_i c i n hx
    rw[hx]at hp2
    split at hd
    ·rename_i hb
     simp only[zS,zP]at hd
     rw[←hd.2.2];exact ZcF (row_ne hb) (by simpa[Zbk]using hp2)
    ·cases hd
   ·cases hd
 |appz a e sz z x ln=>
  simp only[Zcw,Zat,wOf,List.mem_cons,not_or]at hd hp
  obtain⟨hp1,hp2⟩:=hp
  split at hd
  ·unfold ZtZ at hd
   split at hd
   ·simp only[zS,zP]at hd;rw[←hd.2.2];exact Zbq hp1
   ·rename_i c i hx
    rw[hx]at hp2
    split at hd
    ·rename_i hb
     simp only[zS,zP]at hd
     rw[←hd.2.2]
     rw[Zbq (by rw[ZdJ];exact hp1),ZcF (row_ne hb) (by simpa[Zbk]using hp2)]
    ·cases hd
   ·cases hd
  ·cases hd
 |s2b x=>
  simp only[Zcw,Zat]at hd
  split at hd
  ·simp only[zS,zP]at hd
   rw[←hd.2.2]
  ·cases hd
 |mkmap a=>
  simp only[Zcw,Zat,zS,zP]at hd
  rw[←hd.2.2];exact Zbq (by simpa[wOf]using hp)
 |mkrefs b e sz a s ln=>
  simp only[Zcw,Zat]at hd
  split at hd
  ·rename_i kd n ie isz r hln hnf hsy hab
   simp only[zS,zP]at hd
   simp only[wOf,List.mem_cons,List.not_mem_nil,or_false,not_or]at hp
   obtain⟨hs1,_⟩:=Zin hsy
   obtain⟨o1,o2⟩:=Zfr hnf hs1
   have hne2:a≠b:=fun e=>by subst e;simp at hab
   obtain⟨q1,q2⟩:=ZoM (x:=.row ie isz r) hnf hs1 hne2
   rw[←hd.2.2,Zbq (by rw[q2];exact hp.1),Zbq (by rw[q1];exact hp.2),o2]
  ·cases hd
 |mupd x k=>
  simp only[Zcw,Zat,wOf]at hd hp
  split at hd
  ·rename_i a i s hx _
   rw[hx]at hp
   split at hd
   ·rename_i ks hb
    simp only[zS,zP]at hd
    rw[←hd.2.2];exact ZcF (by rw[hb];intro e;cases e) (by simpa[Zbk]using hp)
   ·cases hd
  ·cases hd
 |_=>first |(exact absurd rfl hn) |(simp [Zcw,Zat]at hd)
theorem Zmb{P:Program}{o:AOp}{ε:Env}{r:AV}(hd:Zdk P o ε h r h'):∀p:Nat×Nat,p∉wOf (Zbw ε) h o.k→blk h' p.1 p.2=blk h p.1 p.2:=by
 unfold Zdk at hd
 split at hd
 ·exact ZoB hd
 ·rcases hd with⟨_,h3⟩ |⟨_,_,h3⟩ |⟨_,_,h3⟩
  ·exact ZoB h3
  ·rw[h3];exact fun _ _=>rfl
  ·rw[h3];exact fun _ _=>rfl
theorem ZeW(hT:ZbH C.P T)(hK:ZfZ C.P K):∀ {os:List AOp} {acc acc':List Bool} {env env':List (Nat×AV)} {h h':Zad},Zlo std T K os acc env h=some (acc',env',h')→(∀b∈acc',b=true)→(Znp std T K os env h).map (·.o)=os∧Runs C.P (Znp std T K os env h) (ZaP env) h (ZaP env') h'
 |[],acc,acc',env,env',h,h',hd,_=>by simp only[Zlo,zS,zP]at hd;obtain⟨_,rfl,rfl⟩:=hd;exact⟨rfl, .nil _ _⟩
 |o::os,acc,acc',env,env',h,h',hd,hb=>by
  simp only[Zlo]at hd
  split at hd
  ·rename_i b r h1 hs
   have hbt:b=true:=hb b (ZfI hd b List.mem_cons_self)
   subst hbt
   obtain⟨i1,i2⟩:=ZeW hT hK hd hb
   rw[ZdX]at i2
   simp only[Znp,hs]
   have:=Zct hT hK hs
   exact⟨by simp[Zkb,i1], .cons ⟨this,fun x hx p hp=>by simp only[Zkb,List.mem_flatMap];exact⟨x,hx,hp⟩,Zmb this⟩ i2⟩
  ·cases hd
theorem Zkv{fr:List (Nat×Nat)}{os:List AOp}{env:List (Nat×AV)}(hb:Zuj std T K fr os env h=true):∀(i j:Nat) (x z:Foot),(i,j)∈fr→(Znp std T K os env h)[i]? =some x→(Znp std T K os env h)[j]? =some z→ZpU x z:=by
 unfold Zuj at hb
 split at hb
 ·intro i j x z hm;simp at hm
 ·exact ZgE hb
end
end Go.Proofs.YtkeoeooghhjibaaGreatDoor
namespace Go.Proofs.YtkeoeooghhjibaaGreatDoor
open Go.RowKit (Below)
abbrev Zqs:=Option (List Bool×AFrame×List AFrame×Zad)
def ZlF(acc:List Bool)(fs:List AFrame)(h:Zad)(rnd:Option (Nat×Nat))(jump:Option ACode):Zqs:=
 match rnd with
 |none=>none
 |some (a,i)=>match fs with
  |[]=>none
  |c::fs'=>match blk h a i with
   | .lp l=>(match ZBF c (.bool jump.isNone)with
     |some c'=>some (acc,c',fs',ZaY h a i (.lp { l with st:=ZHL jump }))
     |none=>none)
   |_=>none
def Zrc(acc:List Bool)(o:AOp)(f:AFrame)(fs:List AFrame)(h:Zad)(x:AV)(args:List Opd):Zqs:=
 match Zfu o f.env with
 |some true=>(match x with
  | .yld a i=>(match blk h a i with
    | .lp l=>(match Nat.beq args.length l.params.length with
      |true=>some (acc,{ fn:=l.fn,N:=l.N,env:=Znt l.env l.params (args.map (Zbw (ZaP f.env))),todo:=[.code l.asg, .beginRound, .code l.body],defs:=[],rnd:=some (a,i),ret:=false,res:=[] },f::fs,h)
      |false=>none)
    |_=>none)
  |_=>none)
 |_=>none
def Zko(T:Tab)(acc:List Bool)(o:AOp)(f:AFrame)(fs:List AFrame)(h:Zad)(g:FuncId)(avs:zA):Zqs:=
 match Zfu o f.env with
 |some true=>(match Zam T g avs with
  |some af=>some (acc,af,f::fs,h)
  |none=>none)
 |_=>none
def opA(A:Ar)(T:Tab)(K:Con)(acc:List Bool)(o:AOp)(os:List AOp)(f:AFrame)(k:List AItem)(fs:List AFrame)(h:Zad):Zqs:=
 match Ze5 A T K o f.env h with
 |some (b,r,h')=>some (b::acc,{ f with env:=Zos f.env o.d r,todo:=.inReg os::k },fs,h')
 |none=>match o.k with
  | .icall g args=>Zko T acc o f fs h g (args.map (Zbw (ZaP f.env)))
  | .ncall _ _ g args=>Zko T acc o f fs h g (args.map (Zbw (ZaP f.env)))
  | .ncallv _ _ x args=>(match Zbw (ZaP f.env) x with
    | .fn g caps=>Zko T acc o f fs h g (args.map (Zbw (ZaP f.env))++caps)
    |_=>none)
  | .icallv x args=>(match Zbw (ZaP f.env) x with
    | .fn g caps=>Zko T acc o f fs h g (args.map (Zbw (ZaP f.env))++caps)
    |v=>Zrc acc o f fs h v args)
  |_=>none
def Zxc(a:Nat):List (Nat×Nat)→Nat
 |(d,_)::_=>(match ZqS d with |true=>d |false=>a)
 |[]=>a
def ZvS(d n:Nat)(ds:List (Nat×Nat)):List (Nat×Nat):=match ZqS d with |true=>ds |false=>(d,n)::ds
def ZBp:List Ghost→List (Nat×Nat)→List (Nat×Nat)
 | .sym d (.dfrs _)::_,[]=>(match ZqS d with |true=>[(d,0)] |false=>[])
 |_,ds=>ds
def rfB(T:Tab)(acc:List Bool)(f:AFrame)(k:List AItem)(fs:List AFrame)(h:Zad)(a d:Nat)(x:AV)(ps:List Nat)(asg body:ACode):Zqs:=
 match ZEj x (.yld a (nxt (Zal h d .dfr) a))with
  |some (g,avs)=>(match Zam T g avs with
   |some af=>some (acc,af,{ f with todo:=.inRF a (nxt (Zal h d .dfr) a)::k,defs:=ZvS d (nxt h d) f.defs } ::fs,Zal (Zal h d .dfr) a (.lp { st:=.ready,fn:=f.fn,N:=f.N,env:=f.env,params:=ps,asg:=asg,body:=body }))
   |none=>none)
  |none=>none
def rfA(T:Tab)(acc:List Bool)(f:AFrame)(k:List AItem)(fs:List AFrame)(h:Zad)(a:Nat)(x:AV)(ps:List Nat)(asg body:ACode):Zqs:=
 match f.rnd with
 |none=>(match ZqS a with
  |true=>none
  |false=>rfB T acc f k fs h a (Zxc a f.defs) x ps asg body)
 |some (a0,i0)=>(match blk h a0 i0 with
  | .lp _=>(match ZEj x (.yld a (nxt h a))with
    |some (g,avs)=>(match Zam T g avs with
     |some af=>some (acc,af,{ f with todo:=.inRF a (nxt h a)::k } ::fs,Zal h a (.lp { st:=.ready,fn:=f.fn,N:=f.N,env:=f.env,params:=ps,asg:=asg,body:=body }))
     |none=>none)
    |none=>none)
  |_=>none)
def ZlI:List AOp→Bool
 |[]=>false
 |o::os=>match o.k.inl with |true=>true |false=>ZlI os
theorem Zf5:∀ {os:List AOp},ZlI os=false→Zdd os=os.length
 |[],_=>rfl
 |o::os,h=>by
  simp only[ZlI]at h
  split at h
  ·cases h
  ·rename_i e;simp only[Zdd,e,List.length_cons];rw[Zf5 h]
def Zn5(A:Ar)(T:Tab)(K:Con)(acc:List Bool)(f:AFrame)(k:List AItem)(fs:List AFrame)(h:Zad):ACode→Zqs
 | .skip=>some (acc,{ f with todo:=k },fs,h)
 | .reg d ops=>(match d with
   |none=>some (acc,{ f with todo:=.inReg ops::k },fs,h)
   |some fr=>match ZmB fr with
    |true=>none
    |false=>match ZlI ops with
     |false=>(match Zlo A T K ops acc f.env h with
      |some (acc',env',h')=>(match Zuj A T K fr ops f.env h with
       |true=>some (acc',{ f with env:=env',todo:=k },fs,h')
       |false=>none)
      |none=>none)
     |true=>match Zlo A T K (ops.take (Zdd ops)) acc f.env h with
      |some (acc',env',h')=>(match Zuj A T K fr (ops.take (Zdd ops)) f.env h with
       |true=>some (acc',{ f with env:=env',todo:=.inReg (ops.drop (Zdd ops))::k },fs,h')
       |false=>none)
      |none=>none)
 | .seq a b=>some (acc,{ f with todo:=.code a::.code b::k },fs,h)
 | .cond c a b=>(match Zbw (ZaP f.env) c with
   | .bool t=>(match t with
     |true=>some (acc,{ f with todo:=.code a::k },fs,h)
     |false=>some (acc,{ f with todo:=.code b::k },fs,h))
   |_=>none)
 | .block id b=>some (acc,{ f with todo:=.code b::.inBlock id::k },fs,h)
 | .loop b=>some (acc,{ f with todo:=.code b::.inLoop b::k },fs,h)
 | .rf a x ps asg body=>rfA T acc f k fs h a (Zbw (ZaP f.env) x) ps asg body
 | .exit id=>(match Zc3 id k with
   |some k'=>some (acc,{ f with todo:=k' },fs,h)
   |none=>ZlF acc fs h f.rnd (some (.exit id)))
 | .ret=>(match f.rnd with
   |none=>some (acc,{ f with ret:=true,todo:=[] },fs,h)
   |some p=>ZlF acc fs h (some p) (some .ret))
 | .junk=>none
 | .gh gs c=>(match Ze2 f.env h gs with
   |some (env',h')=>some (acc,{ f with env:=env',todo:=.code c::k,defs:=ZBp gs f.defs },fs,h')
   |none=>none)
def ZJT(A:Ar)(acc:List Bool)(f:AFrame)(fs:List AFrame)(h:Zad):Zqs:=
 match f.defs with
 |(a,i)::ds=>(match ZqS a with
  |false=>(match blk h a i with
   | .dfr=>some (acc,{ f with defs:=ds },fs,ZaY h a i .dead)
   |_=>none)
  |true=>(match fam h a with
   |⟨0,[], .dfrs _⟩=>some (acc,{ f with defs:=ds },fs,ZkV h a)
   |_=>none))
 |[]=>match f.rnd with
  |some _=>none
  |none=>match fs with
   |[]=>none
   |c::fs'=>match Zfk A f.env h f.res with
    |some (b,vs)=>(match ZBF c (Zgw vs)with
     |some c'=>some (b::acc,c',fs',h)
     |none=>none)
    |none=>none
def ZhI(A:Ar)(T:Tab)(K:Con)(acc:List Bool)(f:AFrame)(fs:List AFrame)(h:Zad):Zqs:=
 match f.ret with
 |true=>ZJT A acc f fs h
 |false=>match f.todo with
  |[]=>(match f.rnd with
   |none=>some (acc,{ f with ret:=true,todo:=[] },fs,h)
   |some p=>ZlF acc fs h (some p) none)
  |it::k=>match it with
   | .inBlock _=>some (acc,{ f with todo:=k },fs,h)
   | .inLoop b=>some (acc,{ f with todo:=.code b::.inLoop b::k },fs,h)
   | .inReg os=>(match os with
     |[]=>some (acc,{ f with todo:=k },fs,h)
     |o::os=>opA A T K acc o os f k fs h)
   | .inRF _ _=>none
   | .endRF a i=>(match blk h a i with
     | .lp l=>(match Nat.beq l.N f.N with
       |true=>(match l.st with
        | .ready=>some (acc,{ f with todo:=k },fs,ZaY h a i .dead)
        | .done j=>some (acc,{ f with todo:=.code j::k },fs,ZaY h a i .dead)
        | .busy=>none)
       |false=>none)
     |_=>none)
   | .beginRound=>(match f.rnd with
     |some (a,i)=>(match blk h a i with
      | .lp l=>(match l.st with
        | .ready=>some (acc,{ f with todo:=k },fs,ZaY h a i (.lp { l with st:=.busy }))
        |_=>none)
      |_=>none)
     |none=>none)
   | .code c=>Zn5 A T K acc f k fs h c
section
variable {C:Ctx}{T:Tab}{K:Con}{h h':Zad}{f f':AFrame}{fs fs':List AFrame}{k:List AItem}{Q:List AFrame→Zad→Prop}{acc acc':List Bool}
def ZgD(C:Ctx)(Q:List AFrame→Zad→Prop)(acc:List Bool)(f:AFrame)(fs:List AFrame)(h:Zad)(r:Zqs):Prop:=
 ∀acc' f' fs' h',r=some (acc',f',fs',h')→(∀b∈acc',b=true)→Ev C (f'::fs') h' Q→(∀b∈acc,b=true)∧Ev C (f::fs) h Q
theorem ZdT{jump:Option ACode}(hr:f.ret=false)
 (ht:(jump=none∧f.todo=[])∨(jump=some .ret∧∃k,f.todo=.code .ret::k)∨∃id k,jump=some (.exit id)∧f.todo=.code (.exit id)::k∧Zc3 id k=none):ZgD C Q acc f fs h (ZlF acc fs h f.rnd jump):=by
 intro acc' f' fs' h' he hb hq
 unfold ZlF at he
 split at he
 ·cases he
 ·rename_i a i hn
  split at he
  ·cases he
  ·rename_i c fs2
   split at he
   ·rename_i l hbl
    split at he
    ·rename_i c' hfin
     cases he
     exact⟨hb,ZtJ jump hr hn hbl ht hfin hq⟩
    ·cases he
   ·cases he
theorem ZkD{o:AOp}(hg:Zfu o f.env=some true):Zgy o f.env:=by
 unfold Zfu at hg
 unfold Zgy
 split
 ·trivial
 ·rename_i t want hgg
  rw[hgg]at hg
  simp only at hg
  split at hg
  ·rename_i b hb
   rw[hb]
   cases want<;>simp at hg<;>simp[hg]
  ·simp at hg
  ·cases hg
theorem ZcW(hT:ZbH C.P T){o:AOp}{os:List AOp}{g:FuncId}{avs:zA}(hr:f.ret=false)(ht:f.todo=.inReg (o::os)::k)
 (ho:(∃args m a,(o.k=.icall g args∨o.k=.ncall m a g args)∧avs=args.map (Zbw (ZaP f.env)))∨(∃x args caps m a,(o.k=.icallv x args∨o.k=.ncallv m a x args)∧Zbw (ZaP f.env) x=.fn g caps∧avs=args.map (Zbw (ZaP f.env))++caps)):
 ZgD C Q acc f fs h (Zko T acc o f fs h g avs):=by
 intro acc' f' fs' h' he hb hq
 unfold Zko at he
 split at he
 ·rename_i hg
  split at he
  ·rename_i af haf
   cases he
   exact⟨hb,ZAz hT hr ht (ZkD hg) ho haf hq⟩
  ·cases he
 ·cases he
theorem ZmI{o:AOp}{os:List AOp}{x:Opd}{args:List Opd}(hr:f.ret=false)(ht:f.todo=.inReg (o::os)::k)(ho:o.k=.icallv x args):ZgD C Q acc f fs h (Zrc acc o f fs h (Zbw (ZaP f.env) x) args):=by
 intro acc' f' fs' h' he hb hq
 unfold Zrc at he
 split at he
 ·rename_i hg
  split at he
  ·rename_i a i hx
   split at he
   ·rename_i l hbl
    split at he
    ·rename_i hlen
     cases he
     exact⟨hb,Zvj hr ht (ZkD hg) ho hx hbl (by simpa using hlen) hq⟩
    ·cases he
   ·cases he
  ·cases he
 ·cases he
theorem Zmt(hT:ZbH C.P T)(hK:ZfZ C.P K){o:AOp}{os:List AOp}(hr:f.ret=false)(ht:f.todo=.inReg (o::os)::k):ZgD C Q acc f fs h (opA std T K acc o os f k fs h):=by
 intro acc' f' fs' h' he hb hq
 unfold opA at he
 split at he
 ·rename_i b r h1 hs
  cases he
  have hbt:b=true:=hb b List.mem_cons_self
  subst hbt
  exact⟨fun b hb'=>hb b (List.mem_cons_of_mem _ hb'),ZGp hr ht (Zct hT hK hs) hq⟩
 ·split at he
  ·rename_i g args ho
   exact ZcW hT hr ht (.inl ⟨args,false,0, .inl ho,rfl⟩) _ _ _ _ he hb hq
  ·rename_i m a g args ho
   exact ZcW hT hr ht (.inl ⟨args,m,a, .inr ho,rfl⟩) _ _ _ _ he hb hq
  ·rename_i m a x args ho
   split at he
   ·rename_i g caps hx
    exact ZcW hT hr ht (.inr ⟨x,args,caps,m,a, .inr ho,hx,rfl⟩) _ _ _ _ he hb hq
   ·cases he
  ·rename_i x args ho
   split at he
   ·rename_i g caps hx
    exact ZcW hT hr ht (.inr ⟨x,args,caps,false,0, .inl ho,hx,rfl⟩) _ _ _ _ he hb hq
   ·exact ZmI hr ht ho _ _ _ _ he hb hq
  ·cases he
theorem Zui{f:AFrame}{gs:List Ghost}(hq:Ev C ({ f with defs:=ZBp gs f.defs } ::fs) h Q):Ev C (f::fs) h Q:=by
 obtain⟨fn,N,env,todo,defs,rnd,ret,res⟩:=f
 dsimp only at hq
 unfold ZBp at hq
 split at hq
 ·rename_i d n tl
  split at hq
  ·rename_i hb
   intro L fr cs w hf H _
   cases hf with
   |cons hf hk=>
    have e:=hf.defs.nil_inv
    refine hq L fr cs w (.cons ⟨hf.fn,hf.size,hf.env,hf.kind,?_,hf.rnd,hf.mode,hf.res⟩ hk) H (by simp)
    rw[e]
    exact .pool d 0 [] [] hb rfl .nil (fun k j g h1 _=>by simp at h1) .nil
  ·exact hq
 ·exact hq
theorem Zr2(hT:ZbH C.P T){a:Nat}{x:Opd}{ps:List Nat}{asg body:ACode}(hr:f.ret=false)(ht:f.todo=.code (.rf a x ps asg body)::k):ZgD C Q acc f fs h (rfA T acc f k fs h a (Zbw (ZaP f.env) x) ps asg body):=by
 intro acc' f' fs' h' he hb hq
 unfold rfA at he
 split at he
 ·rename_i hn
  split at he
  ·cases he
  ·rename_i hba
   unfold rfB at he
   split at he
   ·rename_i g avs hx
    split at he
    ·rename_i af haf
     cases he
     refine⟨hb,ZHo hT hr ht hx (.inl ⟨hn,Zxc a f.defs,rfl,?_⟩) haf hq⟩
     unfold Zxc ZvS
     split
     ·rename_i d i ds hfd
      cases hbd:ZqS d with
      |true=>simp only[hbd];exact .inr ⟨trivial,trivial,i,ds,hfd⟩
      |false=>simp only[hba];exact .inl ⟨trivial,trivial⟩
     ·simp only[hba];exact .inl ⟨trivial,trivial⟩
    ·cases he
   ·cases he
 ·rename_i a0 i0 hn
  split at he
  ·rename_i l0 hl0
   split at he
   ·rename_i g avs hx
    split at he
    ·rename_i af haf
     cases he
     exact⟨hb,ZHo hT hr ht hx (.inr ⟨⟨a0,i0,l0,hn,hl0⟩,rfl,rfl⟩) haf hq⟩
    ·cases he
   ·cases he
  ·cases he
theorem Zqw(hr:f.ret=true):ZgD C Q acc f fs h (ZJT std acc f fs h):=by
 intro acc' f' fs' h' he hb hq
 unfold ZJT at he
 split at he
 ·rename_i a i ds hd
  split at he
  ·rename_i hbig
   split at he
   ·rename_i hbl
    cases he
    exact⟨hb,ZrM hr hd hbig hbl hq⟩
   ·cases he
  ·rename_i hbig
   split at he
   ·rename_i n hbl
    cases he
    exact⟨hb,ZpF hr hd hbig hbl hq⟩
   ·cases he
 ·rename_i hd
  split at he
  ·cases he
  ·rename_i hn
   split at he
   ·cases he
   ·rename_i c fs2
    split at he
    ·rename_i b vs hc
     split at he
     ·rename_i c' hfin
      cases he
      have hbt:b=true:=hb b List.mem_cons_self
      subst hbt
      exact⟨fun b hb'=>hb b (List.mem_cons_of_mem _ hb'),ZGw hr hn hd hc hfin hq⟩
     ·cases he
    ·cases he
theorem Zni(hfol:C.P.follows .mixedOrders=true)(hT:ZbH C.P T)(hK:ZfZ C.P K){c:ACode}(hr:f.ret=false)(ht:f.todo=.code c::k):ZgD C Q acc f fs h (Zn5 std T K acc f k fs h c):=by
 intro acc' f' fs' h' he hb hq
 cases c with
 |skip=>cases he;exact⟨hb,Zy9 hr ht hq⟩
 |reg d ops=>
  simp only[Zn5]at he
  split at he
  ·cases he;exact⟨hb,ZBY hr ht hq⟩
  ·split at he
   ·cases he
   rename_i hany
   split at he
   ·rename_i hni
    split at he
    ·rename_i acc1 env1 h1 hd
     split at he
     ·rename_i hfree
      cases he
      obtain⟨d1,d2⟩:=ZeW hT hK hd hb
      have hc:=Zf5 hni
      refine⟨fun b hb'=>hb b (ZfI hd b hb'),Zk4 hfol hany hr ht (by rw[hc,List.take_length];exact d1) (fun i j x z hm hx hz _=>Zkv hfree i j x z hm hx hz) d2 (fun _ _ e=>e) ?_⟩
      rw[hc,List.drop_length]
      exact ZiQ hr rfl hq
     ·cases he
    ·cases he
   ·split at he
    ·rename_i acc1 env1 h1 hd
     split at he
     ·rename_i hfree
      cases he
      obtain⟨d1,d2⟩:=ZeW hT hK hd hb
      exact⟨fun b hb'=>hb b (ZfI hd b hb'),Zk4 hfol hany hr ht d1 (fun i j x z hm hx hz _=>Zkv hfree i j x z hm hx hz) d2 (fun _ _ e=>e) hq⟩
     ·cases he
    ·cases he
 |seq a b=>cases he;exact⟨hb,ZHn hr ht hq⟩
 |cond c a b=>
  simp only[Zn5]at he
  split at he
  ·rename_i t hc
   split at he
   ·cases he;exact⟨hb,Zn4 hr ht hc hq⟩
   ·cases he;exact⟨hb,Zn4 hr ht hc hq⟩
  ·cases he
 |block id b=>cases he;exact⟨hb,ZtB hr ht hq⟩
 |loop b=>cases he;exact⟨hb,ZxR hr ht hq⟩
 |rf a x ps asg body=>exact Zr2 hT hr ht _ _ _ _ he hb hq
 |exit id=>
  simp only[Zn5]at he
  split at he
  ·rename_i k' hk
   cases he;exact⟨hb,ZAo hr ht hk hq⟩
  ·rename_i hk
   exact ZdT hr (.inr (.inr ⟨id,k,rfl,ht,hk⟩)) _ _ _ _ he hb hq
 |ret=>
  simp only[Zn5]at he
  split at he
  ·rename_i hn
   cases he;exact⟨hb,Zrs hr hn (.inr ⟨k,ht⟩) hq⟩
  ·rename_i p hn
   rw[←hn]at he
   exact ZdT hr (.inr (.inl ⟨rfl,k,ht⟩)) _ _ _ _ he hb hq
 |junk=>cases he
 |gh gs c=>
  simp only[Zn5]at he
  split at he
  ·rename_i env1 h1 hg
   cases he
   exact⟨hb,ZKn hr ht hg (Zui (f:={ f with env:=env1,todo:=.code c::k }) hq)⟩
  ·cases he
theorem Zh7(hfol:C.P.follows .mixedOrders=true)(hT:ZbH C.P T)(hK:ZfZ C.P K):ZgD C Q acc f fs h (ZhI std T K acc f fs h):=by
 intro acc' f' fs' h' he hb hq
 unfold ZhI at he
 split at he
 ·rename_i hr
  exact Zqw hr _ _ _ _ he hb hq
 ·rename_i hr
  split at he
  ·rename_i ht
   split at he
   ·rename_i hn
    cases he;exact⟨hb,Zrs hr hn (.inl ht) hq⟩
   ·rename_i p hn
    rw[←hn]at he
    exact ZdT hr (.inl ⟨rfl,ht⟩) _ _ _ _ he hb hq
  ·rename_i it k ht
   split at he
   ·cases he;exact⟨hb,Zp5 hr ht hq⟩
   ·cases he;exact⟨hb,Zsf hr ht hq⟩
   ·split at he
    ·cases he;exact⟨hb,ZiQ hr ht hq⟩
    ·exact Zmt hT hK hr ht _ _ _ _ he hb hq
   ·cases he
   ·rename_i a i
    split at he
    ·rename_i l hbl
     split at he
     ·rename_i hN
      have hN:l.N=f.N:=by simpa using hN
      split at he
      ·rename_i hst
       cases he
       exact⟨hb,ZpA hr ht hbl hN (.inl hst) (by rw[hst];exact hq)⟩
      ·rename_i j hst
       cases he
       exact⟨hb,ZpA hr ht hbl hN (.inr ⟨j,hst⟩) (by rw[hst];exact hq)⟩
      ·cases he
     ·cases he
    ·cases he
   ·split at he
    ·rename_i a i hn
     split at he
     ·rename_i l hbl
      split at he
      ·rename_i hst
       cases he
       exact⟨hb,Zt2 hr hn ht hbl hst hq⟩
      ·cases he
     ·cases he
    ·cases he
   ·rename_i c
    exact Zni hfol hT hK hr ht _ _ _ _ he hb hq
end
end Go.Proofs.YtkeoeooghhjibaaGreatDoor
namespace Go.Proofs.YtkeoeooghhjibaaGreatDoor
def Zwu(h:Zad)(a i:Nat):Option (Bool×TypeId×Nat×Row):=
 match fam h a with
 |⟨0,_, .ints e sz k rows⟩=>some (Nat.blt i rows.length,e,sz, .ints k (rows.getD i []))
 |⟨0,_, .flts e sz k rows⟩=>some (Nat.blt i rows.length,e,sz, .flts k (rows.getD i []))
 |_=>none
theorem Zk1{h:Zad}{a i e sz:Nat}{r:Row}(hs:Zwu h a i=some (true,e,sz,r)):blk h a i=.row e sz r:=by
 unfold Zwu at hs
 split at hs
 ·rename_i l e' sz' k rows hy
  simp only[zS,zP]at hs
  obtain⟨h1,rfl,rfl,rfl⟩:=hs
  have hi:i<rows.length:=by simpa using h1
  unfold blk Fam.get
  rw[hy,Zbu (Nat.zero_le _)]
  simp[Fam.xs,hi]
 ·rename_i l e' sz' k rows hy
  simp only[zS,zP]at hs
  obtain⟨h1,rfl,rfl,rfl⟩:=hs
  have hi:i<rows.length:=by simpa using h1
  unfold blk Fam.get
  rw[hy,Zbu (Nat.zero_le _)]
  simp[Fam.xs,hi]
 ·cases hs
def ZGG(A:Ar)(h:Zad)(n:Nat)(p:AV):Option (Bool×AV×Zad):=
 match p with
 | .ptr a i k off=>(match Zwu h a i with
   |some (b,_,_,r)=>some (Zag b (Zag (Nat.blt k (r.len A)) (Nat.beq off 0)),r.get A k,h)
   |none=>ZeQ h (Zjg A h false n p))
 |p=>ZeQ h (Zjg A h false n p)
def ZwF:AV→Bool
 | .int _ _=>true
 | .flt _ _=>true
 |_=>false
def Zwk(A:Ar)(h:Zad)(n:Nat)(p x:AV):Option (Bool×AV×Zad):=
 match p with
 | .ptr a i k off=>(match Zwu h a i with
   |some (b,e,sz,r)=>(match ZwF x with
    |true=>some (Zag b (Zag (Zag (Nat.beq off 0) (Zag (Nat.beq n sz) (Nat.beq 1 n))) (Nat.blt k (r.len A))), .und,ZaY h a i (.row e sz (r.set A k x)))
    |false=>none)
   |none=>ZdK A h n p x)
 |p=>ZdK A h n p x
def ZwG(A:Ar)(h:Zad)(sz:Nat)(x i:AV):Option (Bool×AV×Zad):=
 match x with
 | .row a j=>(match Zwu h a j with
   |some (b,_,sz',r)=>(match i with
    | .int _ n=>some (Zag b (Zag (Nat.beq sz' sz) (Zag (A.le 0 n) (Nat.blt (A.nat n) (r.len A)))), .ptr a j (A.nat n) 0,h)
    |_=>none)
   |none=>ZeQ h (ZbS A h sz x i))
 |x=>ZeQ h (ZbS A h sz x i)
def ZKY(A:Ar)(h:Zad)(x:AV):Option (Bool×AV×Zad):=
 match x with
 | .row a j=>(match Zwu h a j with
   |some (b,_,_,r)=>some (b, .int .i64 (A.int (r.len A)),h)
   |none=>(match ZbP A h x with |some (b,r)=>some (b, .int .i64 (A.int (r.len A)),h) |none=>none))
 |x=>(match ZbP A h x with |some (b,r)=>some (b, .int .i64 (A.int (r.len A)),h) |none=>none)
def opU(A:Ar)(ρ:Opd→AV)(h:Zad):OpK→Option (Bool×AV×Zad)
 | .load ag n p=>(match ag with
   |false=>ZGG A h n (ρ p)
   |true=>Zat A ρ h (.load true n p))
 | .store n p x=>Zwk A h n (ρ p) (ρ x)
 | .iaddr sz x i=>(match isS i with
   |false=>ZwG A h sz (ρ x) (ρ i)
   |true=>Zat A ρ h (.iaddr sz x i))
 | .len x=>ZKY A h (ρ x)
 |k=>Zat A ρ h k
theorem ZrU{h:Zad}{a i e sz:Nat}{r:Row}{b:Bool}(hs:Zwu h a i=some (b,e,sz,r))(A:Ar)(k:Nat):ZwF (r.get A k)=true:=by
 unfold Zwu at hs
 split at hs
 ·cases hs;rfl
 ·cases hs;rfl
 ·cases hs
theorem ZkM{ρ:Opd→AV}{h h':Zad}{k:OpK}{r:AV}(hr:opU std ρ h k=some (true,r,h')):Zat std ρ h k=some (true,r,h'):=by
 cases k with
 |load ag n p=>
  simp only[opU]at hr
  split at hr
  ·simp only[Zat]
   generalize ρ p=q at hr⊢
   unfold ZGG at hr
   split at hr
   ·rename_i a i k off
    split at hr
    ·rename_i b e sz x hs
     simp only[zS,zP,std_and]at hr
     obtain⟨⟨rfl,h2,h3⟩,rfl,rfl⟩:=hr
     have hp:=ZrU hs std k
     simp only[Zjg,Zk1 hs]
     generalize x.get std k=u at hp⊢
     cases u<;>first |(cases hp;done) |(simp only[ZAb,ZeQ,zS,zP,std_and,h2,h3,and_self])
    ·exact hr
   ·exact hr
  ·exact hr
 |store n p x=>
  simp only[opU]at hr
  simp only[Zat]
  generalize ρ p=q at hr⊢
  generalize ρ x=y at hr⊢
  unfold Zwk at hr
  split at hr
  ·rename_i a i k off
   split at hr
   ·rename_i b e sz z hs
    split at hr
    ·rename_i hy
     simp only[zS,zP,std_and]at hr
     obtain⟨⟨rfl,⟨h2,h3,h4⟩,h5⟩,rfl,rfl⟩:=hr
     have hp:=ZrU hs std k
     simp only[ZdK,Zk1 hs]
     generalize z.get std k=u at hp⊢
     cases u<;>first |(cases hp;done) |(cases y<;>first |(cases hy;done) |(simp only[ZHM,AV.bx,Zac,zS,zP,std_and,h2,h3,h4,h5,and_self]))
    ·cases hr
   ·exact hr
  ·exact hr
 |iaddr sz x i=>
  simp only[opU]at hr
  split at hr
  ·rename_i hi
   simp only[Zat,hi]
   generalize ρ x=q at hr⊢
   generalize ρ i=j at hr⊢
   unfold ZwG at hr
   split at hr
   ·rename_i a m
    split at hr
    ·rename_i b e sz' z hs
     split at hr
     ·rename_i kd n
      simp only[zS,zP,std_and]at hr
      obtain⟨⟨rfl,h2,h3,h4⟩,rfl,rfl⟩:=hr
      simp only[ZbS,Zk1 hs,ZeQ,zS,zP,std_and,h2,h3,h4,and_self]
     ·cases hr
    ·exact hr
   ·exact hr
  ·exact hr
 |len x=>
  simp only[opU]at hr
  simp only[Zat]
  generalize ρ x=q at hr⊢
  unfold ZKY at hr
  split at hr
  ·rename_i a m
   split at hr
   ·rename_i b e sz' z hs
    simp only[zS,zP]at hr
    obtain⟨rfl,rfl,rfl⟩:=hr
    simp only[ZbP,Zk1 hs]
   ·exact hr
  ·exact hr
 |_=>exact hr
def Zoe(A:Ar)(T:Tab)(K:Con)(ρ:Opd→AV)(h:Zad)(k:OpK):Option (Bool×AV×Zad):=
 match k with
 | .load ag n p=>opU A ρ h (.load ag n p)
 | .store n p x=>opU A ρ h (.store n p x)
 | .iaddr sz x i=>opU A ρ h (.iaddr sz x i)
 | .len x=>opU A ρ h (.len x)
 |k=>ZlG A T K ρ h k
theorem Zod{T:Tab}{K:Con}{ρ:Opd→AV}{h h':Zad}{k:OpK}{r:AV}(hr:Zoe std T K ρ h k=some (true,r,h')):ZlG std T K ρ h k=some (true,r,h'):=by
 unfold Zoe at hr
 split at hr
 ·exact ZkM hr
 ·exact ZkM hr
 ·exact ZkM hr
 ·exact ZkM hr
 ·exact hr
def ZhR(A:Ar)(T:Tab)(K:Con)(o:AOp)(env:List (Nat×AV))(h:Zad):Option (Bool×AV×Zad):=
 match Zfu o env with
 |none=>none
 |some g=>match g with
  |true=>Zoe A T K (Zbw (ZaP env)) h o.k
  |false=>some (true, .und,h)
theorem Zhv{T:Tab}{K:Con}{o:AOp}{env:List (Nat×AV)}{h h':Zad}{r:AV}(hr:ZhR std T K o env h=some (true,r,h')):Ze5 std T K o env h=some (true,r,h'):=by
 unfold ZhR at hr
 unfold Ze5
 split at hr
 ·cases hr
 ·rename_i g hg
  try rw[hg]
  split at hr
  ·exact Zod hr
  ·exact hr
def ZIF(A:Ar)(T:Tab)(K:Con)(acc:List Bool)(o:AOp)(os:List AOp)(f:AFrame)(k:List AItem)(fs:List AFrame)(h:Zad):Zqs:=
 match ZhR A T K o f.env h with
 |some (b,r,h')=>some (b::acc,{ f with env:=Zos f.env o.d r,todo:=.inReg os::k },fs,h')
 |none=>opA A T K acc o os f k fs h
section
variable {C:Ctx}{T:Tab}{K:Con}{acc:List Bool}{f:AFrame}{k:List AItem}{fs:List AFrame}{h:Zad}{Q:List AFrame→Zad→Prop}
theorem Zqy(hT:ZbH C.P T)(hK:ZfZ C.P K){o:AOp}{os:List AOp}(hr:f.ret=false)(ht:f.todo=.inReg (o::os)::k):ZgD C Q acc f fs h (ZIF std T K acc o os f k fs h):=by
 intro acc' f' fs' h' he hb hq
 unfold ZIF at he
 split at he
 ·rename_i b r h1 hs
  cases he
  have hbt:b=true:=hb b List.mem_cons_self
  subst hbt
  exact⟨fun b hb'=>hb b (List.mem_cons_of_mem _ hb'),ZGp hr ht (Zct hT hK (Zhv hs)) hq⟩
 ·exact Zmt hT hK hr ht _ _ _ _ he hb hq
end
end Go.Proofs.YtkeoeooghhjibaaGreatDoor
namespace Go.Proofs.YtkeoeooghhjibaaGreatDoor
open Go.RowKit (Below)
def ZBd(f:AFrame):Bool:=
 match f.ret with
 |true=>false
 |false=>match f.todo with
  |it::_=>(match it with
   | .code c=>(match c with | .gh gs _=>(match gs with |[]=>true |_=>false) |_=>false)
   |_=>false)
  |[]=>false
abbrev ASt:=List Bool×AFrame×List AFrame×Zad
def ZJn(A:Ar)(T:Tab)(K:Con)(stop:Bool):Nat→List Bool→AFrame→List AFrame→Zad→ASt
 |0,acc,f,fs,h=>(acc,f,fs,h)
 |n+1,acc,f,fs,h=>match ZhI A T K acc f fs h with
  |none=>(acc,f,fs,h)
  |some (acc',f',fs',h')=>match stop with
   |false=>ZJn A T K stop n acc' f' fs' h'
   |true=>match ZBd f with
    |true=>(acc',f',fs',h')
    |false=>ZJn A T K stop n acc' f' fs' h'
section
variable {C:Ctx}{T:Tab}{K:Con}{h h':Zad}{f f':AFrame}{fs fs':List AFrame}{k:List AItem}{Q:List AFrame→Zad→Prop}{acc acc':List Bool}
def ZD9:zA→Option (Nat×Nat)
 |[]=>none
 | .row a i::_=>some (a,i)
 |_::xs=>ZD9 xs
def Zok(a i:Nat):AV→AV
 | .row b j=>match Nat.beq b a with |true=>(match Nat.beq j i with |true=>.row 0 0 |false=>.top) |false=>.top
 |v=>v
def ZoX(h:Zad)(p:Nat×Nat)(v:AV):Option (AV×Option Fresh):=
 match blk h p.1 p.2 with
 | .row e sz r=>(match r.pure with
   |true=>(match Zrh v with |true=>some (v,some ⟨e,sz,r⟩) |false=>none)
   |false=>none)
 |_=>none
def Zm9(p:Nat×Nat):zA→Bool
 |[]=>true
 | .row a i::xs=>match Nat.beq a p.1 with |true=>(match Nat.beq i p.2 with |true=>Zm9 p xs |false=>false) |false=>false
 |_::xs=>Zm9 p xs
def Znr(h:Zad):AV→Option (AV×Option Fresh)
 | .tup xs=>match ZD9 xs with
   |none=>(match AV.pureL xs with |true=>some (.tup xs,none) |false=>none)
   |some p=>match Zm9 p xs with |true=>ZoX h p (.tup (xs.map (Zok p.1 p.2))) |false=>none
 | .row a i=>ZoX h (a,i) (.row 0 0)
 |v=>match v.pure with |true=>some (v,none) |false=>none
def ZvN:AV→Bool
 | .slc .. =>false
 | .aslc .. =>false
 | .ptr .. =>false
 | .fn .. =>false
 |_=>true
def ZwD:AV→Bool
 | .tup xs=>xs.all ZvN
 |v=>ZvN v
def Zlc(h:Zad)(a i:Nat):Option AV:=match blk h a i with
 | .row _ _ (.refs b p)=>match ZkW b with
   |true=>none
   |false=>match fam h b with
    |⟨0,[], .ints _ _ k rows⟩=>some (.list (.gen (p.map fun j=>.list (.ints k (rows.getD j [])))))
    |_=>none
 |_=>none
def ZuD(h:Zad)(v:AV):Option (Bool×AV):=match v with
 | .row a i=>(match ZkW a with
   |true=>ZbQ std h 4 v
   |false=>match Zlc h a i with
    |some u=>some (true,u)
    |none=>ZbQ std h 4 v)
 |v=>ZbQ std h 4 v
def ZGr(h:Zad):AV→Option (AV×Option Fresh)
 | .tup xs=>match Zlv std (ZuD h) xs with |some (b,ys)=>(match b with |true=>some (.tup ys,none) |false=>none) |none=>none
 |v=>match ZuD h v with |some (b,u)=>(match b with |true=>some (u,none) |false=>none) |none=>none
theorem ZlH{L:Lay}{w:World}(H:HRel C h L w){a i:Nat}{u:AV}{x:Value}(hz:ZkW a=false)(hr:ZaH C h L w (.row a i) x)(hs:Zlc h a i=some u):ZFI C w L u x:=by
 unfold Zlc at hs
 split at hs
 ·rename_i e sz0 b p hb
  split at hs
  ·cases hs
  ·rename_i hzb
   split at hs
   ·rename_i e2 sz2 k rows hf
    cases hs
    have hc:ZbP std h (.row a i)=some (true, .refs b p):=by simp only[ZbP,hb]
    obtain⟨ad,n,c,rfl,hn,hnc,hsome,hnone,sz,hsz⟩:=Zcd H hr hc
    have hel:(Row.refs b p).elems=p.map fun j=>AV.row b j:=rfl
    have hfa:∀q:List Nat,Zai (q.map fun j=>AV.row b j)=q.map fun j=>AV.row b j:=by
     intro q;induction q with
     |nil=>rfl
     |cons y q ih=>rw[List.map_cons];show AV.flat _++Zai _=_;rw[ih];rfl
    have hfb:∀q:List Nat,Zai (q.map fun j=>AV.list (.ints k (rows.getD j [])))=q.map fun j=>AV.list (.ints k (rows.getD j [])):=by
     intro q;induction q with
     |nil=>rfl
     |cons y q ih=>rw[List.map_cons];show AV.flat _++Zai _=_;rw[ih];rfl
    have hpu:∀q:List Nat,AV.pureL (q.map fun j=>AV.list (.ints k (rows.getD j [])))=true:=by
     intro q;induction q with
     |nil=>rfl
     |cons y q ih=>rw[List.map_cons];simp only[AV.pureL,ih,AV.pure,Bool.and_self]
    have hnx:nxt h b=rows.length:=by unfold nxt;rw[hf];simp[Fam.xs]
    have hbk:∀j,j<rows.length→blk h b j=.row e2 sz2 (.ints k (rows.getD j [])):=fun j hj=>by
     unfold blk Fam.get;rw[hf]
     rw[Zbu (Nat.zero_le _)]
     show(rows.map fun l=>Blk.row e2 sz2 (.ints k l)).getD (j-0) .dead=_
     rw[Nat.sub_zero,List.getD_eq_getElem?_getD,List.getElem?_map,List.getD_eq_getElem?_getD,List.getElem?_eq_getElem hj];rfl
    by_cases he:p=[]
    ·subst he
     have:n=0:=by rw[hn];rfl
     subst this
     exact .nil _ _ _ rfl
    ·have hne:(Row.refs b p).elems≠[]:=by rw[hel];simpa using he
     cases ad with
     |none=>exact absurd (hnone rfl) hne
     |some a'=>
      obtain⟨cs,e1,e2',e3,e4,e5⟩:=hsome a' rfl hne
      rw[hel,hfa]at e1 e4
      have hl:cs.length=p.length:=by rw[e1,List.length_map]
      have hnp:n=(p.map fun j=>AV.list (.ints k (rows.getD j []))).length:=by rw[hn,hel,List.length_map,List.length_map]
      have hfc:=hfb p
      refine .list (.gen (p.map fun j=>AV.list (.ints k (rows.getD j [])))) (p.map fun j=>AV.list (.ints k (rows.getD j []))) rfl a' n c 1 cs e5 (Zfd H hr hc (by simp only[nzV];show(!ZkW _)=true;rw[hz];rfl) _ _ _ rfl hne) hnp hnc (fun z hz=>?_) (by rw[hfc,List.length_map,hl]) e2' e3 ?_ (fun j z v hj hv=>?_)
      ·obtain⟨j,_,rfl⟩:=List.mem_map.1 hz;rfl
      ·rw[hfc]
       exact hpu p
      ·rw[hfc,List.getElem?_map]at hj
       cases hq:p[j]? with
       |none=>rw[hq]at hj;cases hj
       |some y=>
        rw[hq]at hj
        cases hj
        have hrel:=e4.2 j (.row b y) v (by rw[List.getElem?_map,hq];rfl) hv
        have hy:y<rows.length:=by
         cases hrel with
         |row _ _ _ _ _ _ hlv=>rw[←hnx];exact hlv.1
        refine Zdo H 1 (.row b y) _ v hrel ?_
        simp only[ZbQ,hzb,ZbP,hbk y hy,ZeO,Znf,Row.pure]
   ·cases hs
 ·cases hs
theorem ZlY{L:Lay}{w:World}(H:HRel C h L w){u u':AV}{x:Value}(hr:ZaH C h L w u x)(hs:ZuD h u=some (true,u')):ZFI C w L u' x:=by
 unfold ZuD at hs
 split at hs
 ·split at hs
  ·exact Zdo H 4 _ _ _ hr hs
  ·rename_i hz
   split at hs
   ·rename_i hq;cases hs;exact ZlH H hz hr hq
   ·exact Zdo H 4 _ _ _ hr hs
 ·exact Zdo H 4 _ _ _ hr hs
def Zgm(h:Zad)(v:AV):Option (AV×Option Fresh):=
 match Znr h v with
 |some r=>some r
 |none=>match ZwD v with |true=>ZGr h v |false=>none
theorem HRel.nil{L L':Lay}{w:World}(H:HRel C h L w):HRel C [] L' w:=
 ⟨H.below,fun _ _ ht=>absurd rfl ht.tag,fun _ _=>trivial,fun _ _ _ _ ht=>absurd rfl ht.tag,fun _ _ ht=>absurd rfl ht.tag,H.low,H.base,H.good⟩
theorem Zb3(f:Fresh)(a i:Nat):blk (ZaB (some f)) a i=if a=0∧i=0 then .row f.e f.sz f.r else .dead:=by
 by_cases ha:a=0
 ·subst ha
  by_cases hi:i=0
  ·subst hi;rfl
  ·rw[if_neg (by simp[hi])]
   exact ZmF (by show 0+1≤i;omega)
 ·rw[if_neg (by simp[ha])]
  have:ZaP (ZaB (some f)) a=none:=by
   have hb:Nat.beq 0 a=false:=by cases hb:Nat.beq 0 a with |false=>rfl |true=>exact absurd (Nat.eq_of_beq_eq_true hb).symm ha
   simp[ZaB,ZaP,hb]
  unfold blk fam
  rw[this]
  exact ZmF (h:=[]) (a:=0) (Nat.zero_le _)
theorem Zte{L:Lay}{w:World}(H:HRel C h L w){a i e sz:Nat}{r:Row}(hb:blk h a i=.row e sz r)(hp:r.pure=true):∃L',HRel C (ZaB (some ⟨e,sz,r⟩)) L' w∧(∀g,Zaz C h L g→Zaz C (ZaB (some ⟨e,sz,r⟩)) L' g)∧
 ∀x,ZaH C h L w (.row a i) x→ZaH C (ZaB (some ⟨e,sz,r⟩)) L' w (.row 0 0) x:=by
 obtain⟨ht,h0,h1,h2,h3⟩:=H.rowAt hb
 have hpp:∀ {b j:Nat},Plc (ZaB (some ⟨e,sz,r⟩)) ⟨fun _ _=>L.loc a i,fun _ _=>L.size a i⟩ b j→(b=0∧j=0)∧Plc h L a i:=fun {b j} p=>by
  by_cases h00:b=0∧j=0
  ·refine⟨h00,?_⟩
   obtain⟨s,e1,e2⟩:=p
   rw[Zb3,if_pos h00]at e1
   exact⟨s,ht.trans e1,e2⟩
  ·exact absurd (by rw[Zb3,if_neg h00];rfl) p.tag
 refine⟨⟨fun _ _=>L.loc a i,fun _ _=>L.size a i⟩,?_,?_,?_⟩
 ·have hok:∀g,Zaz C h L g→Zaz C (ZaB (some ⟨e,sz,r⟩)) ⟨fun _ _=>L.loc a i,fun _ _=>L.size a i⟩ g:=fun g ho=>by
   rcases ho with ho |⟨q1,q2⟩
   ·exact .inl ho
   ·exact .inr ⟨q1,fun b j p=>q2 a i (hpp p).2⟩
  refine⟨H.below,fun b j p=>H.live a i (hpp p).2,fun b j=>?_,fun b j c k hb1 hb2 _=>?_,fun b j hb1=>?_,H.low,H.base,H.good⟩
  rotate_right
  ·obtain⟨e1,hp1⟩:=hpp hb1
   rcases H.home a i hp1 with h9 |⟨_,_,h9⟩
   ·exact .inl h9
   ·exact .inr ⟨e1.1,e1.2,h9⟩
  ·rw[Zb3]
   split
   ·refine⟨h0,h1,h2,h3,fun hn=>?_⟩
    obtain⟨_,cur,h4,h5,h6,h7,h8⟩:=H.curAt hb hn
    exact⟨cur,h4,h5,⟨h6.1,fun j u v hu hv=>((h6.2 j u v hu hv).okmono (fun g _ ho=>hok g ho)).pure (AV.pureL_mem (Zbj hp) hu)⟩,h7⟩
   ·trivial
  ·obtain⟨e1,_⟩:=hpp hb1
   obtain⟨e2,_⟩:=hpp hb2
   exact⟨e1.1.trans e2.1.symm,e1.2.trans e2.2.symm⟩
 ·intro g ho
  rcases ho with ho |⟨q1,q2⟩
  ·exact .inl ho
  ·exact .inr ⟨q1,fun b j p=>q2 a i (hpp p).2⟩
 ·intro x hx
  cases hx with
  |row _ _ ad n c hn hl=>
   have:=hl.2 _ ht
   refine .row 0 0 ad n c hn ⟨by show 0<0+1;omega,fun sz' hsz'=>?_⟩
   rw[Zb3]at hsz'
   simp only[and_self,if_true,Blk.tag,zS]at hsz'
   subst hsz'
   exact this
theorem Zth{L L':Lay}{w:World}{a i:Nat}{h2:Zad}(hok:∀g,Zaz C h L g→Zaz C h2 L' g)(hrow:∀x,ZaH C h L w (.row a i) x→ZaH C h2 L' w (.row 0 0) x){v:AV}{x:Value}(hr:ZaH C h L w v x)(hp:Zng (Zok a i v)=true):ZaH C h2 L' w (Zok a i v) x:=by
 have base:∀ {v:AV},ZaH C h L w v x→v.pure=true→ZaH C h2 L' w v x:=fun hr hp=>(hr.okmono (fun g _ ho=>hok g ho)).pure hp
 unfold Zok at hp⊢
 split
 ·rename_i b j
  split
  ·rename_i hba
   split
   ·rename_i hji
    have:=Nat.eq_of_beq_eq_true hba
    have:=Nat.eq_of_beq_eq_true hji
    subst b;subst j
    exact hrow x hr
   ·exact .top _
  ·exact .top _
 ·rename_i hne
  have hpp:v.pure=true:=by
   cases v<;>first |exact hp |exact absurd rfl (hne _ _)
  exact base hr hpp
theorem ZkL{L:Lay}{w:World}(H:HRel C h L w){v r:AV}{fr:Option Fresh}{x:Value}(hr:ZaH C h L w v x)(he:Znr h v=some (r,fr)):∃L',HRel C (ZaB fr) L' w∧ZaH C (ZaB fr) L' w r x:=by
 have base:∀ {v:AV},ZaH C h L w v x→v.pure=true→∃L',HRel C (ZaB none) L' w∧ZaH C (ZaB none) L' w v x:=fun hr hp=>⟨L,H.nil,(hr.okmono (fun g _ ho=>Zfq ho)).pure hp⟩
 unfold Znr at he
 split at he
 ·rename_i xs
  split at he
  ·split at he
   ·rename_i hp
    cases he
    exact base hr (by simpa[AV.pure]using hp)
   ·cases he
  ·rename_i p hp
   split at he
   case h_2=>cases he
   unfold ZoX at he
   split at he
   ·rename_i e sz rr hb
    split at he
    ·rename_i hrp
     split at he
     ·rename_i hpt
      cases he
      obtain⟨L',H',hok,hrow⟩:=Zte H hb hrp
      refine⟨L',H',?_⟩
      cases hr with
      |tup _ vs hl hh=>
       refine .tup _ vs (by simpa using hl) (fun j u v hu hv=>?_)
       rw[List.getElem?_map]at hu
       cases hx:xs[j]? with
       |none=>rw[hx]at hu;cases hu
       |some u0=>
        rw[hx]at hu
        simp only[Option.map_some,zS]at hu
        subst hu
        refine Zth hok hrow (hh j u0 v hx hv) ?_
        simp only[Zrh,List.all_eq_true,List.mem_map,forall_exists_index,and_imp,forall_apply_eq_imp_iff₂]at hpt
        exact hpt u0 (List.mem_of_getElem? hx)
     ·cases he
    ·cases he
   ·cases he
 ·rename_i a i
  unfold ZoX at he
  split at he
  ·rename_i e sz rr hb
   split at he
   ·rename_i hrp
    split at he
    ·cases he
     obtain⟨L',H',hok,hrow⟩:=Zte H hb hrp
     exact⟨L',H',hrow x hr⟩
    ·cases he
   ·cases he
  ·cases he
 ·split at he
  ·rename_i hp;cases he;exact base hr hp
  ·cases he
theorem ZdO{L:Lay}{w:World}(H:HRel C h L w){v r:AV}{fr:Option Fresh}{x:Value}(hr:ZaH C h L w v x)(he:Zgm h v=some (r,fr)):∃L',HRel C (ZaB fr) L' w∧ZaH C (ZaB fr) L' w r x:=by
 unfold Zgm at he
 split at he
 ·rename_i q hq
  cases he
  exact ZkL H hr hq
 ·rename_i hnone
  clear hnone
  generalize ZwD v=ww at he
  cases ww
  case false=>cases he
  dsimp only at he
  unfold ZGr at he
  split at he
  ·rename_i xs
   split at he
   ·rename_i b ys hm
    split at he
    ·cases he
     refine⟨L,H.nil,?_⟩
     cases hr with
     |tup _ vs hl hh=>
      obtain⟨g1,g2⟩:=Zde hm
      refine .tup _ vs (by rw[←g1];exact hl) (fun j u v hu hv=>?_)
      have hlt:j<xs.length:=by rw[g1];exact(List.getElem?_eq_some_iff.1 hu).1
      exact ZlY H (hh j _ v (List.getElem?_eq_getElem hlt) hv) (g2 j _ u (List.getElem?_eq_getElem hlt) hu)
    ·cases he
   ·cases he
  ·split at he
   ·rename_i b u hm
    split at he
    ·cases he
     exact⟨L,H.nil,ZlY H hr hm⟩
    ·cases he
   ·cases he
def Ztt(A:Ar)(h:Zad):AV→Bool×AV
 | .slc a i k n c=>match Nat.beq k 0,c with
   |true,none=>(match blk h a i with | .row _ _ r=>(Nat.beq n (r.len A), .row a i) |_=>(true, .slc a i k n none))
   |_,c=>(true, .slc a i k n c)
 |v=>(true,v)
def Zcn(A:Ar)(h:Zad):zA→Bool×zA
 |[]=>(true,[])
 |v::vs=>match Ztt A h v,Zcn A h vs with |(b,u),(c,us)=>(Zag b c,u::us)
def ZnY(A:Ar)(env:List (Nat×AV))(h:Zad)(rs:List ARes):Option (Bool×zA):=
 match Zfk A env h rs with
 |some (b,vs)=>match Zcn A h vs with |(c,us)=>some (Zag b c,us)
 |none=>none
theorem ZqN{L:Lay}{w:World}(H:HRel C h L w){v u:AV}{x:Value}(hw:Ztt std h v=(true,u))(hr:ZaH C h L w v x):ZaH C h L w u x:=by
 unfold Ztt at hw
 split at hw
 ·rename_i a i k n c
  split at hw
  ·rename_i hk
   have hk:=Nat.eq_of_beq_eq_true hk
   subst hk
   split at hw
   ·rename_i e sz r hb
    simp only[zP]at hw
    obtain⟨hn,rfl⟩:=hw
    have hn:n=r.elems.length:=by rw[Row.len_std]at hn;simpa[std]using hn
    have htg:=H.tagAt hb
    cases hr with
    |slc _ _ _ _ _ ad c hnc hl=>
     rcases hl.2 _ htg with⟨hne,_⟩ |⟨h0,rfl⟩ |⟨rfl,hc1,hc2⟩
     ·exact absurd rfl hne
     ·refine .row a i ad n 0 hnc ⟨hl.1,fun s hs=>?_⟩
      rw[htg]at hs
      cases hs
      exact⟨fun hh=>absurd rfl hh,hn,h0.symm⟩
     ·refine .row a i _ n c hnc ⟨hl.1,fun s hs=>?_⟩
      rw[htg]at hs
      cases hs
      exact⟨fun _=>by simp,hn,by simpa using hc2⟩
   ·cases hw;exact hr
  ·cases hw;exact hr
 ·cases hw;exact hr
theorem ZgC{L:Lay}{w:World}(H:HRel C h L w):∀ {vs us:zA} {xs:List Value},Zcn std h vs=(true,us)→RelL w (Zaz C h L) h L vs xs→RelL w (Zaz C h L) h L us xs
 |[],us,xs,hw,hr=>by
  simp only[Zcn,zP]at hw
  rw[←hw.2];exact hr
 |v::vs,us,xs,hw,hr=>by
  simp only[Zcn,zP,std_and]at hw
  obtain⟨⟨h1,h2⟩,rfl⟩:=hw
  cases xs with
  |nil=>have:=hr.1;simp at this
  |cons x xs=>
   refine RelL.cons (ZqN H (v:=v) (by rw[←h1]) (hr.2 0 v x rfl rfl)) (ZgC H (vs:=vs) (by rw[←h2]) ⟨by have:=hr.1;simpa using this,fun j a b ha hb=>hr.2 (j+1) a b (by simpa using ha) (by simpa using hb)⟩)
theorem Zkf(h:Zad):∀ {vs us:zA} {b:Bool},Zcn std h vs=(b,us)→us.length=vs.length
 |[],us,b,hw=>by
  simp only[Zcn,zP]at hw
  rw[←hw.2]
 |v::vs,us,b,hw=>by
  simp only[Zcn,zP]at hw
  rw[←hw.2,List.length_cons,List.length_cons,Zkf h (vs:=vs) rfl]
theorem Zf9{L:Lay}{w:World}(H:HRel C h L w){vs us:zA}{x:Value}(hw:Zcn std h vs=(true,us))(hr:ZaH C h L w (Zgw vs) x):ZaH C h L w (Zgw us) x:=by
 have hl:=Zkf h hw
 have tup:∀ {vs us:zA},Zcn std h vs=(true,us)→us.length=vs.length→ZaH C h L w (.tup vs) x→ZaH C h L w (.tup us) x:=fun hw hl hr=>by
  cases hr with
  |tup _ xs h1 h2=>
   have:=ZgC H hw (xs:=xs.toList) ⟨by simpa using h1,fun j u v hu hv=>h2 j u v hu (by simpa using hv)⟩
   exact .tup _ xs (by rw[hl];exact h1) (fun j u v hu hv=>this.2 j u v hu (by simpa using hv))
 match vs,us,hl with
 |[],[],_=>exact hr
 |[v],[u],_=>
  have:=ZgC H hw (xs:=[x]) (RelL.cons hr RelL.nil)
  exact this.2 0 u x rfl rfl
 |v::v2::vs,u::u2::us,hl=>exact tup hw hl hr
def Zco(f:FuncId)(r:AV)(fr:Option Fresh)(fs:List AFrame)(h:Zad):Prop:=
 ∃g vs,fs=[g]∧g.fn=f∧g.ret=true∧g.rnd=none∧g.defs=[]∧ZnY std g.env h g.res=some (true,vs)∧Zgm h (Zgw vs)=some (r,fr)
theorem Zg1{P:Program}{T:Tab}(hT:ZbH P T){f:FuncId}{args:zA}{af:AFrame}{r:AV}{fr:Option Fresh}(he:Zam T f args=some af)
 (hq:∀w okA cs,Ev (Ctx.of P w okA cs) [af] [] (Zco f r fr)):Zan P f args r fr:=by
 intro w okA L vs hargs hok hG cs
 have H0:HRel (Ctx.of P w okA cs) [] L w:=⟨Below.refl _ _,fun _ _ ht=>absurd rfl ht.tag,fun _ _=>trivial,fun _ _ _ _ ht=>absurd rfl ht.tag,fun _ _ ht=>absurd rfl ht.tag,fun _ _ _=>rfl,Nat.le_refl _,hG⟩
 obtain⟨hfr,_⟩:=Zed (C:=(Ctx.of P w okA cs)) (h:=[]) (L:=L) (w:=w) hT he (by
  refine⟨hargs.1,fun j u v hu hv=>(hargs.2 j u v hu hv).okmono (fun g hg ho=>.inl ⟨hok g ho,ho⟩)⟩)
 obtain⟨fs',h',L',fr',cs',w',⟨g,us,rfl,hfn,hret,hrnd,hdefs,hc,hex⟩,_,hf',H',hst,_⟩:=hq w okA cs L _ cs w (.cons hfr .base) H0 (by simp)
 cases hf' with
 |cons hf' hk=>
  cases hk
  obtain⟨fn,hfn',hmr⟩:=hf'.res hrnd
  obtain⟨vs0,hc0,hwl⟩:∃vs0,Zfk std g.env h' g.res=some (true,vs0)∧Zcn std h' vs0=(true,us):=by
   unfold ZnY at hc
   split at hc
   ·rename_i b vs hq
    generalize hz:Zcn std h' vs=z at hc
    obtain⟨c,us'⟩:=z
    simp only[zS,zP,std_and]at hc
    obtain⟨⟨rfl,rfl⟩,rfl⟩:=hc
    exact⟨vs,hq,hz⟩
   ·cases hc
  obtain⟨x,e1,e2⟩:=Zdu H' hf'.env hmr hc0
  replace e2:=Zf9 H' hwl e2
  obtain⟨L2,H2,r2⟩:=ZdO H' e2 hex
  have hnew:ZhH fr=false:=by
   cases fr with
   |none=>rfl
   |some f=>
    have hbr:=H2.blks 0 0
    rw[show blk (ZaB (some f)) 0 0=.row f.e f.sz f.r from rfl]at hbr
    have:=hbr.1
    show Nat.beq f.sz 0=false
    cases hb:Nat.beq f.sz 0 with
    |false=>rfl
    |true=>have:=Nat.eq_of_beq_eq_true hb;omega
  refine⟨.returned x,w',fr',⟨x,L2,rfl,H2.below,by unfold ZkP;rw[hnew];exact⟨⟨H2.below,H2.live,H2.blks,H2.inj,H2.home,H2.low,H2.base,H2.good⟩,r2⟩⟩,hst,hf'.fn.trans hfn,?_⟩
  rcases hf'.mode with⟨_,hm⟩ |⟨e,_⟩
  ·refine⟨hm,?_,hf'.kind,fn,?_,e1⟩
   ·have e:=hf'.defs
    rw[hdefs]at e
    rw[e.nil_inv]
   ·rw[hf'.fn];exact hfn'
  ·rw[hret]at e;cases e
end
end Go.Proofs.YtkeoeooghhjibaaGreatDoor
namespace Go.Proofs.YtkeoeooghhjibaaGreatDoor
open Go.RowKit (Below)
def ZHR(A:Ar)(f:FuncId)(s:ASt):Option (Bool×AV×Option Fresh):=
 match s with
 |(acc,g,fs,h)=>match fs with
  |_::_=>none
  |[]=>match g.ret&&Nat.beq g.fn f with
   |false=>none
   |true=>match g.rnd with
    |some _=>none
    |none=>match g.defs with
     |_::_=>none
     |[]=>match ZnY A g.env h g.res with
      |none=>none
      |some (b,vs)=>match Zgm h (Zgw vs)with
       |none=>none
       |some (r,fr)=>match acc.all (fun b=>b)with
        |true=>(match b with |true=>some (true,r,fr) |false=>none)
        |false=>none
section
variable {P:Program}{T:Tab}{K:Con}
theorem ZmL{f:FuncId}{s:ASt}{r:AV}{fr:Option Fresh}(h:ZHR std f s=some (true,r,fr)):∃acc g h',s=(acc,g,[],h')∧acc.all (fun b=>b)=true∧Zco f r fr [g] h':=by
 obtain⟨acc,g,fs,hp⟩:=s
 unfold ZHR at h
 dsimp only at h
 split at h
 ·cases h
 ·split at h
  ·cases h
  ·rename_i hg
   simp only[Bool.and_eq_true]at hg
   split at h
   ·cases h
   ·rename_i hn
    split at h
    ·cases h
    ·rename_i hd
     split at h
     ·cases h
     ·rename_i b vs hc
      split at h
      ·cases h
      ·rename_i r' fr' hex
       split at h
       ·rename_i hacc
        cases b
        case false=>cases h
        simp only[zS,zP,true_and]at h
        obtain⟨rfl,rfl⟩:=h
        exact⟨acc,g,hp,rfl,hacc,g,vs,rfl,Nat.eq_of_beq_eq_true hg.2,hg.1,hn,hd,hc,hex⟩
       ·cases h
end
end Go.Proofs.YtkeoeooghhjibaaGreatDoor
