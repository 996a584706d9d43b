/- Guided runs: where the way hangs on a letter, a list of choices says which way is taken. No condition. -/
import Derived.Test.YtkeoeooghhjibaaGreatDoorXw
namespace Go.Proofs.YtkeoeooghhjibaaGreatDoor
open Go.RowKit (Below)
def ZAW:List (Nat×AV)→Nat→AV→List (Nat×AV)
 |[],_,_=>[]
 |(i,x)::l,t,y=>match Nat.beq i t with |true=>(i,y)::l |false=>(i,x)::ZAW l t y
theorem Zhq:∀ {env:List (Nat×AV)} {t:Nat} {v:AV},ZaL env t=some v→ZAW env t v=env
 |[],t,v,h=>by cases h
 |(i,x)::l,t,v,h=>by
  simp only[ZaL]at h
  simp only[ZAW]
  split
  ·rename_i hb;rw[hb]at h;cases h;rfl
  ·rename_i hb;rw[hb]at h;rw[Zhq h]
def asB(p b:Bool):Bool:=match p with |true=>b |false=>!b
theorem Zrv{p b:Bool}(h:asB p b=true):b=p:=by cases p<;>cases b<;>first |rfl |cases h
abbrev Zf7:=List (Nat×AV)
def Zo9(env:Zf7)(pa acc:List Bool)(t:Nat):Option (List Bool×List Bool×Zf7):=
 match ZaL env t with
 |some v=>(match v with
  | .bool b=>(match pa with
    |p::ps=>some (ps,asB p b::acc,ZAW env t (.bool p))
    |[]=>none)
  |_=>some (pa,acc,env))
 |none=>some (pa,acc,env)
theorem ZoP{env env':Zf7}{pa pa' acc acc':List Bool}{t:Nat}(h:Zo9 env pa acc t=some (pa',acc',env'))(hb:∀b∈acc',b=true):env'=env∧∀b∈acc,b=true:=by
 unfold Zo9 at h
 split at h
 ·rename_i v hv
  split at h
  ·rename_i b
   split at h
   ·rename_i p ps
    cases h
    have:=Zrv (hb _ List.mem_cons_self)
    subst this
    exact⟨Zhq hv,fun b hb'=>hb b (List.mem_cons_of_mem _ hb')⟩
   ·cases h
  ·cases h;exact⟨rfl,hb⟩
 ·cases h;exact⟨rfl,hb⟩
def inN(t:Nat):List Nat→Bool
 |[]=>false
 |x::l=>match Nat.beq x t with |true=>true |false=>inN t l
def ZFB(d:Option Nat)(l:List Nat):List Nat:=match d with |none=>l |some t=>l.filter fun x=>!Nat.beq x t
abbrev Zxp:=Option (List Bool×List Bool×Zf7×List Nat)
def Zjk(st:List Nat)(env:Zf7)(pa acc:List Bool)(t:Nat):Zxp:=
 match inN t st with
 |true=>some (pa,acc,env,st)
 |false=>match Zo9 env pa acc t with
  |none=>none
  |some (pa',acc',env')=>some (pa',acc',env',t::st)
theorem ZeV{st st':List Nat}{env env':Zf7}{pa pa' acc acc':List Bool}{t:Nat}(h:Zjk st env pa acc t=some (pa',acc',env',st'))(hb:∀b∈acc',b=true):env'=env∧∀b∈acc,b=true:=by
 unfold Zjk at h
 split at h
 ·cases h;exact⟨rfl,hb⟩
 ·split at h
  ·cases h
  ·rename_i hs;cases h;exact ZoP hs hb
def ZAm:Nat→List Bool→Option (Nat×List Bool)
 |_,[]=>none
 |j,b::pa=>match b with |true=>some (j,pa) |false=>ZAm (j+1) pa
def Zlc(A:Ar)(st:List Nat)(env:Zf7)(pa acc:List Bool)(t:Nat):Zxp:=
 match ZaL env t with
 |some v=>(match v with
  | .int k n=>(match ZAm 0 pa with
    |some (j,ps)=>some (ps,A.eq n (Int.ofNat j)::acc,ZAW env t (.int k (Int.ofNat j)),st)
    |none=>none)
  |_=>some (pa,acc,env,st))
 |none=>some (pa,acc,env,st)
theorem ZmV{st st':List Nat}{env env':Zf7}{pa pa' acc acc':List Bool}{t:Nat}(h:Zlc std st env pa acc t=some (pa',acc',env',st'))(hb:∀b∈acc',b=true):env'=env∧∀b∈acc,b=true:=by
 unfold Zlc at h
 split at h
 ·rename_i v hv
  split at h
  ·rename_i k n
   split at h
   ·rename_i j ps _
    cases h
    have e:std.eq n (Int.ofNat j)=true:=hb _ List.mem_cons_self
    have e:n=Int.ofNat j:=by simpa[std]using e
    subst e
    exact⟨Zhq hv,fun b hb'=>hb b (List.mem_cons_of_mem _ hb')⟩
   ·cases h
  ·cases h;exact⟨rfl,hb⟩
 ·cases h;exact⟨rfl,hb⟩
def ZiR(A:Ar)(st:List Nat)(i:Opd)(env:Zf7)(pa acc:List Bool):Zxp:=
 match i with
 | .s t=>Zlc A st env pa acc t
 |_=>some (pa,acc,env,st)
theorem Ziy{st st':List Nat}{i:Opd}{env env':Zf7}{pa pa' acc acc':List Bool}(h:ZiR std st i env pa acc=some (pa',acc',env',st'))(hb:∀b∈acc',b=true):env'=env∧∀b∈acc,b=true:=by
 unfold ZiR at h
 split at h
 ·exact ZmV h hb
 ·cases h;exact⟨rfl,hb⟩
def Zjo(A:Ar)(st:List Nat)(k:OpK)(env:Zf7)(pa acc:List Bool):Zxp:=
 match k with
 | .aaddr _ _ _ i=>ZiR A st i env pa acc
 | .idxa _ _ _ i=>ZiR A st i env pa acc
 | .pick c _ _=>(match c with | .t n=>Zjk st env pa acc n |_=>some (pa,acc,env,st))
 |_=>some (pa,acc,env,st)
theorem Zh2{st st':List Nat}{k:OpK}{env env':Zf7}{pa pa' acc acc':List Bool}(h:Zjo std st k env pa acc=some (pa',acc',env',st'))(hb:∀b∈acc',b=true):env'=env∧∀b∈acc,b=true:=by
 unfold Zjo at h
 split at h
 ·exact Ziy h hb
 ·exact Ziy h hb
 ·split at h
  ·exact ZeV h hb
  ·cases h;exact⟨rfl,hb⟩
 ·cases h;exact⟨rfl,hb⟩
def Zi9(A:Ar)(st:List Nat)(o:AOp)(env:Zf7)(pa acc:List Bool):Zxp:=
 match o.g with
 |none=>Zjo A st o.k env pa acc
 |some p=>match Zjk st env pa acc p.1 with
  |none=>none
  |some (pa1,acc1,env1,st1)=>match ZfQ o env1 with
   |some g=>(match g with |true=>Zjo A st1 o.k env1 pa1 acc1 |false=>some (pa1,acc1,env1,st1))
   |none=>none
theorem ZfB{st st':List Nat}{o:AOp}{env env':Zf7}{pa pa' acc acc':List Bool}(h:Zi9 std st o env pa acc=some (pa',acc',env',st'))(hb:∀b∈acc',b=true):env'=env∧∀b∈acc,b=true:=by
 unfold Zi9 at h
 split at h
 ·exact Zh2 h hb
 ·split at h
  ·cases h
  ·rename_i pa1 acc1 env1 st1 hs
   split at h
   ·split at h
    ·obtain⟨e1,h1⟩:=Zh2 h hb
     obtain⟨e2,h2⟩:=ZeV hs h1
     exact⟨e1.trans e2,h2⟩
    ·cases h;exact ZeV hs hb
   ·cases h
structure Ctr where
 f:FuncId
 n:Nat
 run:List Bool→List AV→Option (Bool×AV×Option Fresh)
def ZtI(P:Program)(f:FuncId)(args:List AV)(r:AV)(fr:Option Fresh):Prop:=
 match Nat.blt f 1000000 with
 |true=>Zan P f args r fr
 |false=>∀x rest fs,args=.list x::rest→fr=some fs→ZBc P (f-1000000) fs.e fs.sz x fs.r rest r
def Ctr.OK(P:Program)(c:Ctr):Prop:=∀pa args r fr,c.run pa args=some (true,r,fr)→ZtI P c.f args r fr
def ZnB:List Ctr→List Bool→Con
 |[],_,_,_=>none
 |c::l,pa,f,args=>match Nat.beq c.f f with
  |true=>(match Nat.blt f 1000000 with
   |true=>(match c.run pa args with |some r=>some r |none=>ZnB l pa f args)
   |false=>none)
  |false=>ZnB l pa f args
def ZAG:List Ctr→List Bool→FuncId→List AV→Option (Bool×AV×Option Fresh)
 |[],_,_,_=>none
 |c::l,pa,f,args=>match Nat.beq c.f (f+1000000)with
  |true=>(match c.run pa args with |some r=>some r |none=>ZAG l pa f args)
  |false=>ZAG l pa f args
def ZDx:List Ctr→FuncId→Nat
 |[],_=>0
 |c::l,f=>match Nat.beq c.f f with |true=>c.n |false=>ZDx l f
def ZaK(P:Program):List Ctr→Prop
 |[]=>True
 |c::l=>c.OK P∧ZaK P l
theorem ZgH{P:Program} :∀ {l:List Ctr},ZaK P l→∀pa,Zfv P (ZnB l pa)
 |[],_,pa=>fun f args r fr h=>by cases h
 |c::l,⟨h1,h2⟩,pa=>fun f args r fr h=>by
  simp only[ZnB]at h
  split at h
  ·rename_i e
   have e:c.f=f:=Nat.eq_of_beq_eq_true e
   split at h
   ·rename_i hlt
    split at h
    ·rename_i q hq
     cases h
     have:=h1 _ _ _ _ hq
     unfold ZtI at this
     rw[e,hlt]at this
     exact this
    ·exact ZgH h2 pa f args r fr h
   ·cases h
  ·exact ZgH h2 pa f args r fr h
theorem Zjj{P:Program} :∀ {l:List Ctr},ZaK P l→∀ {pa:List Bool} {f:FuncId} {x:Row} {rest:List AV} {r:AV} {fs:Fresh},ZAG l pa f (.list x::rest)=some (true,r,some fs)→ZBc P f fs.e fs.sz x fs.r rest r
 |[],_,pa,f,x,rest,r,fs,h=>by cases h
 |c::l,⟨h1,h2⟩,pa,f,x,rest,r,fs,h=>by
  simp only[ZAG]at h
  split at h
  ·rename_i e
   have e:c.f=f+1000000:=Nat.eq_of_beq_eq_true e
   split at h
   ·rename_i q hq
    cases h
    have:=h1 _ _ _ _ hq
    unfold ZtI at this
    have hb:Nat.blt c.f 1000000=false:=Zca (by rw[e];exact Nat.le_add_left _ _)
    rw[hb]at this
    have h3:=this x rest fs rfl rfl
    rw[e,Nat.add_sub_cancel]at h3
    exact h3
   ·exact Zjj h2 h
  ·exact Zjj h2 h
theorem Zju{α:Type}(t:Nat)(x y:α):∀l:List (Nat×α),Zc8 (Zc8 l t x) t y=Zc8 l t y
 |[]=>by have:Nat.beq t t=true:=by simp
         simp only[Zc8,this]
 |(i,z)::l=>by
  have ht:Nat.beq t t=true:=by simp
  cases hb:Nat.beq i t with
  |true=>simp only[Zc8,hb]
  |false=>cases hl:Nat.blt t i with
   |true=>simp only[Zc8,hb,hl,ht]
   |false=>simp only[Zc8,hb,hl,Zju t x y l]
def Ztp:AV→Option Nat
 | .slc _ _ k n c=>(match Nat.beq k 0,c with |true,none=>some n |_,_=>none)
 |_=>none
theorem ZmT{r:AV}{n a i:Nat}(h:Ztp r=some n):Zzg a i r=.slc a i 0 n none:=by
 unfold Ztp at h
 split at h
 ·rename_i b j k m c
  split at h
  ·rename_i hk
   have:=Nat.eq_of_beq_eq_true hk
   subst this
   cases h;rfl
  ·cases h
 ·cases h
def ZCF(A:Ar)(l:List Ctr)(pa:List Bool)(env:Zf7)(h:Zab)(o:AOp):Option (Bool×AV×Zab):=
 match o.g with
 |some _=>none
 |none=>match o.k with
  | .ncall _ _ g args=>match args.map (Zbd (ZaL env))with
    |v::rest=>match v with
     | .row a i=>match blk h a i with
       | .row e sz x=>match AV.pureL rest&&x.pure with
         |true=>match ZAG l pa g (.list x::rest)with
          |some (b,r,some fs)=>match fs.r.pure&&Zwh r with
           |true=>(match Ztp r,Zl9 a,o.d with
            |some n,false,some _=>some (Zaf (Nat.ble n (fs.r.len A)) (Zaf b (Zaf (Nat.beq fs.e e) (Nat.beq fs.sz sz))), .row a (nxt (ZaW h a i (.row e sz fs.r)) a),Zam (ZaW (ZaW h a i (.row e sz fs.r)) a i .dead) a (.row e sz (fs.r.sub A 0 n)))
            |_,_,_=>some (Zaf b (Zaf (Nat.beq fs.e e) (Nat.beq fs.sz sz)),Zzg a i r,ZaW h a i (.row e sz fs.r)))
           |false=>none
          |_=>none
         |false=>none
       |_=>none
     |_=>none
    |[]=>none
  |_=>none
theorem Zt5{C:Ctx}{l:List Ctr}{pa:List Bool}{h h':Zab}{Q:List AFrame→Zab→Prop}{f:AFrame}{fs:List AFrame}{k:List AItem}{o:AOp}{os:List AOp}{r:AV}(hl:ZaK C.P l)(hr:f.ret=false)(ht:f.todo=.inReg (o::os)::k)(hm:ZCF std l pa f.env h o=some (true,r,h'))
 (hq:Ev C ({ f with env:=ZmE f.env o.d r,todo:=.inReg os::k } ::fs) h' Q):Ev C (f::fs) h Q:=by
 unfold ZCF at hm
 split at hm
 ·cases hm
 ·rename_i hg
  split at hm
  ·rename_i mm a0 g args hk
   split at hm
   ·rename_i v rest ha
    split at hm
    ·rename_i a i
     split at hm
     ·rename_i e sz x hb
      split at hm
      ·rename_i hp
       split at hm
       ·rename_i b r0 fs0 hc
        split at hm
        ·rename_i hp2
         simp only[Bool.and_eq_true]at hp hp2
         split at hm
         ·rename_i n d hpm hfz hd
          simp only[Option.some.injEq,Prod.mk.injEq,std_and]at hm
          obtain⟨⟨hle,rfl,he,hs⟩,rfl,rfl⟩:=hm
          have he:fs0.e=e:=by simpa[std]using he
          have hs:fs0.sz=sz:=by simpa[std]using hs
          have hle:n≤fs0.r.elems.length:=by rw[Row.len_std]at hle;simpa[std]using hle
          have hmu:=Zjj hl hc
          rw[he,hs]at hmu
          have hnd:blk h a i≠ .dead:=by rw[hb];simp
          refine ZlI hr ht hg hk ha hb hp.2 hp2.1 hp.1 hp2.2 hmu ?_
          rw[ZmT hpm]
          refine Zp1 (t:=d) (a:=a) (i:=i) (e:=e) (sz:=sz) (n:=n) (r:=fs0.r) ?_ (by rw[Zc3 hnd,if_pos ⟨rfl,rfl⟩]) hfz hle ?_
          ·simp only[hd,ZmE,Zcb,if_true]
          ·simp only[hd,ZmE,Zju]at hq⊢
           exact hq
         ·simp only[Option.some.injEq,Prod.mk.injEq,std_and]at hm
          obtain⟨⟨rfl,he,hs⟩,rfl,rfl⟩:=hm
          have he:fs0.e=e:=by simpa[std]using he
          have hs:fs0.sz=sz:=by simpa[std]using hs
          have hmu:=Zjj hl hc
          rw[he,hs]at hmu
          exact ZlI hr ht hg hk ha hb hp.2 hp2.1 hp.1 hp2.2 hmu hq
        ·cases hm
       ·cases hm
      ·cases hm
     ·cases hm
    ·cases hm
   ·cases hm
  ·cases hm
def ZuK(o:AOp)(env:Zf7):Option FuncId:=
 match o.k with
 | .ncall _ _ f _=>some f
 | .ncallv _ _ x _=>(match Zwj (Zbd (ZaL env) x) []with |some (f,_)=>some f |none=>none)
 |_=>none
def Zkh(l:List Ctr)(o:AOp)(env:Zf7)(pa:List Bool):List Bool:=
 match ZuK o env with
 |none=>pa
 |some f=>match ZfQ o env with
  |some g=>(match g with |true=>pa.drop (ZDx l f) |false=>pa)
  |none=>pa
def Zjb(A:Ar)(T:Tab)(l:List Ctr):List AOp→List Nat→List Bool→List Bool→Zf7→Zab→Option (List Bool×List Bool×Zf7×Zab×List Foot)
 |[],_,pa,acc,env,h=>some (pa,acc,env,h,[])
 |o::os,st,pa,acc,env,h=>match Zi9 A st o env pa acc with
  |none=>none
  |some (pa1,acc1,env1,st1)=>match Zfr A T (ZnB l pa1) o env1 h with
   |none=>none
   |some (b,r,h1)=>match Zjb A T l os (ZFB o.d st1) (Zkh l o env1 pa1) (b::acc1) (ZmE env1 o.d r) h1 with
    |none=>none
    |some (pa2,acc2,env2,h2,zs)=>some (pa2,acc2,env2,h2,ZiP env1 h o::zs)
def Zms(fr:List (Nat×Nat))(zs:List Foot):Bool:=match fr with |[]=>true |fr=>ZnR zs fr
abbrev Zwu:=Option (List Bool×List Bool×AFrame×List AFrame×Zab)
def Zj8(pa:List Bool):ZpH→Zwu
 |none=>none
 |some (acc,f,fs,h)=>some (pa,acc,f,fs,h)
def ZD2(A:Ar)(T:Tab)(l:List Ctr)(pa acc:List Bool)(f:AFrame)(k:List AItem)(fs:List AFrame)(h:Zab)(fr:List (Nat×Nat))(ops:List AOp):Zwu:=
 match Zkq fr with
 |true=>none
 |false=>match Zke ops with
  |false=>(match Zjb A T l ops [] pa acc f.env h with
   |none=>none
   |some (pa',acc',env',h',zs)=>match Zms fr zs with
    |true=>some (pa',acc',{ f with env:=env',todo:=k },fs,h')
    |false=>none)
  |true=>match Zjb A T l (ops.take (ZcF ops)) [] pa acc f.env h with
   |none=>none
   |some (pa',acc',env',h',zs)=>match Zms fr zs with
    |true=>some (pa',acc',{ f with env:=env',todo:=.inReg (ops.drop (ZcF ops))::k },fs,h')
    |false=>none
def opG(A:Ar)(T:Tab)(l:List Ctr)(pa acc:List Bool)(o:AOp)(os:List AOp)(f:AFrame)(k:List AItem)(fs:List AFrame)(h:Zab):Zwu:=
 match ZCF A l pa f.env h o with
 |some (b,r,h2)=>some (pa,b::acc,{ f with env:=ZmE f.env o.d r,todo:=.inReg os::k },fs,h2)
 |none=>match Zi9 A [] o f.env pa acc with
 |none=>none
 |some (pa1,acc1,env1,_)=>match opA A T (ZnB l pa1) acc1 o os { f with env:=env1 } k fs h with
  |none=>none
  |some (acc2,f2,fs2,h2)=>some (Zkh l o env1 pa1,acc2,f2,fs2,h2)
def ZxR(pa acc:List Bool)(f:AFrame)(k:List AItem)(fs:List AFrame)(h:Zab)(v:AV)(a b:ACode):Zwu:=
 match v with
 | .bool t=>(match pa with
   |p::ps=>some (ps,asB p t::acc,{ f with todo:=.code (ZB3 p a b)::k },fs,h)
   |[]=>none)
 |_=>none
def Zqa(A:Ar)(T:Tab)(l:List Ctr)(pa acc:List Bool)(f:AFrame)(fs:List AFrame)(h:Zab):Zwu:=
 match f.ret with
 |true=>Zj8 pa (Zge A T (ZnB l pa) acc f fs h)
 |false=>match f.todo with
  |[]=>Zj8 pa (Zge A T (ZnB l pa) acc f fs h)
  |it::k=>match it with
   | .inReg os=>(match os with
     |[]=>Zj8 pa (Zge A T (ZnB l pa) acc f fs h)
     |o::os=>opG A T l pa acc o os f k fs h)
   | .code c=>(match c with
     | .cond c a b=>ZxR pa acc f k fs h (Zbd (ZaL f.env) c) a b
     | .reg d ops=>(match d with
       |some fr=>ZD2 A T l pa acc f k fs h fr ops
       |none=>Zj8 pa (Zge A T (ZnB l pa) acc f fs h))
     |_=>Zj8 pa (Zge A T (ZnB l pa) acc f fs h))
   |_=>Zj8 pa (Zge A T (ZnB l pa) acc f fs h)
def ZgZ(A:Ar)(T:Tab)(l:List Ctr):Nat→List Bool→List Bool→AFrame→List AFrame→Zab→Option ASt
 |0,_,acc,f,fs,h=>some (acc,f,fs,h)
 |n+1,pa,acc,f,fs,h=>match Zqa A T l pa acc f fs h with
  |none=>none
  |some (pa',acc',f',fs',h')=>ZgZ A T l n pa' acc' f' fs' h'
section
variable {C:Ctx}{T:Tab}{l:List Ctr}{h h':Zab}{f f':AFrame}{fs fs':List AFrame}{k:List AItem}{Q:List AFrame→Zab→Prop}{pa pa' acc acc':List Bool}
theorem ZeA:∀ {os:List AOp} {st:List Nat} {pa pa' acc acc':List Bool} {env env':Zf7} {h h':Zab} {zs:List Foot},Zjb std T l os st pa acc env h=some (pa',acc',env',h',zs)→(∀b∈acc',b=true)→∀b∈acc,b=true
 |[],st,pa,pa',acc,acc',env,env',h,h',zs,hd,hb=>by simp only[Zjb,Option.some.injEq,Prod.mk.injEq]at hd;obtain⟨_,rfl,_⟩:=hd;exact hb
 |o::os,st,pa,pa',acc,acc',env,env',h,h',zs,hd,hb=>by
  simp only[Zjb]at hd
  split at hd
  ·cases hd
  ·rename_i hs
   split at hd
   ·cases hd
   ·split at hd
    ·cases hd
    ·rename_i hr
     cases hd
     have:=ZeA hr hb
     exact(ZfB hs (fun b hb'=>this b (List.mem_cons_of_mem _ hb'))).2
theorem Zeo(hT:Zbu C.P T)(hl:ZaK C.P l):∀ {os:List AOp} {st:List Nat} {pa pa' acc acc':List Bool} {env env':Zf7} {h h':Zab} {zs:List Foot},Zjb std T l os st pa acc env h=some (pa',acc',env',h',zs)→(∀b∈acc',b=true)→zs.map (·.o)=os∧Runs C.P zs (ZaL env) h (ZaL env') h'
 |[],st,pa,pa',acc,acc',env,env',h,h',zs,hd,_=>by simp only[Zjb,Option.some.injEq,Prod.mk.injEq]at hd;obtain⟨_,_,rfl,rfl,rfl⟩:=hd;exact⟨rfl, .nil _ _⟩
 |o::os,st,pa,pa',acc,acc',env,env',h,h',zs,hd,hb=>by
  simp only[Zjb]at hd
  split at hd
  ·cases hd
  ·rename_i pa1 acc1 env1 st1 hs
   split at hd
   ·cases hd
   ·rename_i b r h1 ho
    split at hd
    ·cases hd
    ·rename_i hr
     cases hd
     have ha:=ZeA hr hb
     obtain⟨i1,i2⟩:=Zeo hT hl hr hb
     obtain⟨e,_⟩:=ZfB hs (fun b hb'=>ha b (List.mem_cons_of_mem _ hb'))
     subst e
     have hbt:=ha b List.mem_cons_self
     subst hbt
     rw[Zdb]at i2
     have:=ZcR hT (ZgH hl pa1) ho
     exact⟨by simp[ZiP,i1], .cons ⟨this,fun x hx p hp=>by simp only[ZiP,List.mem_flatMap];exact⟨x,hx,hp⟩,ZjA this⟩ i2⟩
theorem ZgS{fr:List (Nat×Nat)}{zs:List Foot}(hb:Zms fr zs=true):∀(i j:Nat) (x z:Foot),(i,j)∈fr→zs[i]? =some x→zs[j]? =some z→Zm0 x z:=by
 unfold Zms at hb
 split at hb
 ·intro i j x z hm;simp at hm
 ·exact Ze0 hb
def Zpi(C:Ctx)(Q:List AFrame→Zab→Prop)(acc:List Bool)(f:AFrame)(fs:List AFrame)(h:Zab)(r:Zwu):Prop:=
 ∀pa' acc' f' fs' h',r=some (pa',acc',f',fs',h')→(∀b∈acc',b=true)→Ev C (f'::fs') h' Q→(∀b∈acc,b=true)∧Ev C (f::fs) h Q
theorem Zk0{r:ZpH}(hs:ZgG C Q acc f fs h r):Zpi C Q acc f fs h (Zj8 pa r):=by
 intro pa' acc' f' fs' h' he hb hq
 cases r with
 |none=>cases he
 |some p=>obtain⟨a,b,c,d⟩:=p;cases he;exact hs _ _ _ _ rfl hb hq
theorem Zhg(hfol:C.P.follows .mixedOrders=true)(hT:Zbu C.P T)(hl:ZaK C.P l):Zpi C Q acc f fs h (Zqa std T l pa acc f fs h):=by
 have base:Zpi C Q acc f fs h (Zj8 pa (Zge std T (ZnB l pa) acc f fs h)):=Zk0 (Zhi hfol hT (ZgH hl pa))
 unfold Zqa
 split
 ·exact base
 ·rename_i hr
  split
  ·exact base
  ·rename_i it k ht
   split
   ·split
    ·exact base
    ·rename_i o os
     intro pa' acc' f' fs' h' he hb hq
     unfold opG at he
     split at he
     ·rename_i bm rm hm2 hmr
      cases he
      have hbt:=hb bm List.mem_cons_self
      subst hbt
      exact⟨fun b hb'=>hb b (List.mem_cons_of_mem _ hb'),Zt5 hl hr ht hmr hq⟩
     split at he
     ·cases he
     ·rename_i pa1 acc1 env1 st1 hs
      split at he
      ·cases he
      ·rename_i acc2 f2 fs2 h2 ho
       cases he
       have key:(∀b∈acc1,b=true)→env1=f.env∧∀b∈acc,b=true:=fun h1=>ZfB hs h1
       have hsd:=ZjQ (Q:=Q) hT (ZgH hl pa1) (f:={ f with env:=env1 }) (acc:=acc1) (fs:=fs) (h:=h) (k:=k) (o:=o) (os:=os) hr ht _ _ _ _ ho hb hq
       obtain⟨e,h3⟩:=key hsd.1
       refine⟨h3,?_⟩
       have:=hsd.2
       rw[e]at this
       exact this
   ·rename_i c
    split
    ·rename_i c a b
     intro pa' acc' f' fs' h' he hb hq
     unfold ZxR at he
     split at he
     ·rename_i t hc
      split at he
      ·rename_i p ps
       cases he
       have:=Zrv (hb _ List.mem_cons_self)
       subst this
       exact⟨fun b hb'=>hb b (List.mem_cons_of_mem _ hb'),ZkO hr ht hc (by cases t<;>exact hq)⟩
      ·cases he
     ·cases he
    ·split
     ·rename_i ops fr
      intro pa' acc' f' fs' h' he hb hq
      unfold ZD2 at he
      split at he
      ·cases he
      rename_i hany
      split at he
      ·rename_i hni
       split at he
       ·cases he
       ·rename_i pa1 acc1 env1 h1 zs hd
        split at he
        ·rename_i hfree
         cases he
         obtain⟨d1,d2⟩:=Zeo hT hl hd hb
         have hc:=Zfa hni
         refine⟨ZeA hd hb,ZiY hfol hany hr ht (by rw[hc,List.take_length];exact d1) (fun i j x z hm hx hz _=>ZgS hfree i j x z hm hx hz) d2 (fun _ _ e=>e) ?_⟩
         rw[hc,List.drop_length]
         exact ZgD hr rfl hq
        ·cases he
      ·split at he
       ·cases he
       ·rename_i pa1 acc1 env1 h1 zs hd
        split at he
        ·rename_i hfree
         cases he
         obtain⟨d1,d2⟩:=Zeo hT hl hd hb
         exact⟨ZeA hd hb,ZiY hfol hany hr ht d1 (fun i j x z hm hx hz _=>ZgS hfree i j x z hm hx hz) d2 (fun _ _ e=>e) hq⟩
        ·cases he
     ·exact base
    ·exact base
   ·exact base
theorem ZbS(hfol:C.P.follows .mixedOrders=true)(hT:Zbu C.P T)(hl:ZaK C.P l):∀(n:Nat) {pa acc:List Bool} {f:AFrame} {fs:List AFrame} {h:Zab},ZgG C Q acc f fs h (ZgZ std T l n pa acc f fs h)
 |0,pa,acc,f,fs,h=>by
  intro acc' f' fs' h' he hb hq
  simp only[ZgZ,Option.some.injEq,Prod.mk.injEq]at he
  obtain⟨rfl,rfl,rfl,rfl⟩:=he
  exact⟨hb,hq⟩
 |n+1,pa,acc,f,fs,h=>by
  intro acc' f' fs' h' he hb hq
  simp only[ZgZ]at he
  split at he
  ·cases he
  ·rename_i pa1 acc1 f1 fs1 h1 hs
   obtain⟨hb1,hq1⟩:=ZbS hfol hT hl n _ _ _ _ he hb hq
   exact Zhg hfol hT hl _ _ _ _ _ hs hb1 hq1
end
end Go.Proofs.YtkeoeooghhjibaaGreatDoor
/- Tracked blocks are named anew: those that nothing names are dropped, the others are counted from 0. No condition. -/
namespace Go.Proofs.YtkeoeooghhjibaaGreatDoor
open Go.RowKit (Below)
mutual
def AV.ren(σ:Nat→Nat→Option Nat):AV→AV
 | .ptr a i k o=>match σ a i with |some j=>.ptr a j k o |none=>.top
 | .row a i=>match σ a i with |some j=>.row a j |none=>.top
 | .slc a i k n c=>match σ a i with |some j=>.slc a j k n c |none=>.top
 | .aslc a i k o n=>match σ a i with |some j=>.aslc a j k o n |none=>.top
 | .yld a i=>match σ a i with |some j=>.yld a j |none=>.top
 | .mp a i=>match σ a i with |some j=>.mp a j |none=>.top
 | .emp=>.emp
 | .agg r=>.agg (Row.ren σ r)
 | .tup xs=>.tup (AV.renL σ xs)
 | .fn f xs=>.fn f (AV.renL σ xs)
 | .int k n=>.int k n
 | .bool b=>.bool b
 | .str s=>.str s
 | .flt k b=>.flt k b
 | .val v=>.val v
 | .nils=>.nils
 | .list r=>.list r
 | .eptr x o=>.eptr x o
 | .und=>.und
 | .top=>.top
def AV.renL(σ:Nat→Nat→Option Nat):List AV→List AV
 |[]=>[]
 |x::xs=>AV.ren σ x::AV.renL σ xs
def Row.ren(σ:Nat→Nat→Option Nat):Row→Row
 | .gen xs=>.gen (AV.renL σ xs)
 | .ints k l=>.ints k l
 | .flts k l=>.flts k l
 | .big sh xs=>.big sh xs
end
section
variable {σ:Nat→Nat→Option Nat}
theorem Zgp:∀xs:List AV,AV.renL σ xs=xs.map (AV.ren σ)
 |[]=>rfl
 |x::xs=>by rw[AV.renL,Zgp xs];rfl
theorem Zjv(s:Sh)(v:AV):AV.ren σ (s.view1 v)=s.view1 v:=by cases s<;>rfl
theorem Zkj:∀(ss:List Sh) (i:Nat) (v:AV),AV.renL σ (Zej ss i v)=Zej ss i v
 |[],_,_=>rfl
 |s::ss,i,v=>by rw[Zej,AV.renL,Zjv,Zkj ss]
theorem ZqW(s:Sh)(v:AV):AV.ren σ (s.view v)=s.view v:=by
 cases s with
 |agg ss=>simp only[Sh.view,AV.ren,Row.ren,Zkj]
 |_=>simp only[Sh.view];exact Zjv _ _
theorem Zb8(r:Row):(Row.ren σ r).elems=r.elems.map (AV.ren σ):=by
 cases r with
 |gen xs=>rw[Row.ren,Row.elems,Row.elems,Zgp]
 |ints k l=>rw[Row.ren,Row.elems,List.map_map];rfl
 |flts k l=>rw[Row.ren,Row.elems,List.map_map];rfl
 |big sh xs=>rw[Row.ren,Row.elems,List.map_map];exact List.map_congr_left fun v _=>(ZqW sh v).symm
theorem ZlU(v:AV):(AV.ren σ v).flat=v.flat.map (AV.ren σ):=by
 cases v with
 |agg r=>simp only[AV.ren,AV.flat,Zb8]
 |ptr a i k o=>simp only[AV.ren];split<;>simp_all[AV.flat,AV.ren]
 |row a i=>simp only[AV.ren];split<;>simp_all[AV.flat,AV.ren]
 |slc a i k n c=>simp only[AV.ren];split<;>simp_all[AV.flat,AV.ren]
 |aslc a i k o n=>simp only[AV.ren];split<;>simp_all[AV.flat,AV.ren]
 |yld a i=>simp only[AV.ren];split<;>simp_all[AV.flat,AV.ren]
 |mp a i=>simp only[AV.ren];split<;>simp_all[AV.flat,AV.ren]
 |_=>rfl
theorem Zlj(xs:List AV):Zah (xs.map (AV.ren σ))=(Zah xs).map (AV.ren σ):=by
 induction xs with
 |nil=>rfl
 |cons x xs ih=>rw[List.map_cons,ZaE,ZaE,List.map_append,ih,ZlU]
end
structure Good (h:Zab) (L:Lay) (h':Zab) (L':Lay) (σ:Nat→Nat→Option Nat):Prop where
 fwd:∀a i j,σ a i=some j→j<nxt h' a∧(∀sz,(blk h' a j).tag=some sz→(blk h a i).tag=some sz)∧L'.loc a j=L.loc a i∧L'.size a j=L.size a i
 bwd:∀a j,(blk h' a j).tag≠none→∃i,(blk h a i).tag≠none∧L'.loc a j=L.loc a i
section
variable {C:Ctx}{h h':Zab}{L L':Lay}{w:World}{σ:Nat→Nat→Option Nat}{ok ok':Nat→Prop}
theorem Good.okk(G:Good h L h' L' σ){g:Nat}(ho:Zaw C h L g):Zaw C h' L' g:=by
 rcases ho with ho |⟨h1,h2⟩
 ·exact .inl ho
 ·refine .inr ⟨h1,fun a j ht e=>?_⟩
  obtain⟨i,hi,hl⟩:=G.bwd a j ht
  exact h2 a i hi (hl.symm.trans e)
theorem Live.ren(G:Good h L h' L' σ){a i j:Nat}(hs:σ a i=some j){p p':Nat→Nat×Nat→Prop}(hl:Live h L a i p)(hp:∀sz,L'.size a j=L.size a i→p (L.loc a i) sz→p' (L.loc a i) sz):Live h' L' a j p':=by
 obtain⟨g1,g2,g3,g4⟩:=G.fwd a i j hs
 exact⟨g1,fun sz ht=>by rw[g3];exact hp sz g4 (hl.2 sz (g2 sz ht))⟩
theorem Rel.ren(G:Good h L h' L' σ)(hok:∀g,ok g→ok' g){av:AV}{v:Value}(hr:Rel w ok h L av v):Rel w ok' h' L' (AV.ren σ av) v:=by
 induction hr with
 |int k n=>exact .int k n
 |bool b=>exact .bool b
 |str x=>exact .str x
 |flt k b=>exact .flt k b
 |val v=>exact .val v
 |nils=>exact .nils
 |nil r a c hr=>exact .nil r a c hr
 |list r xs hx ad n cap sz cs hb ho hn hcap hsz hl h1 hc hp hr ih=>
  exact .list r xs hx ad n cap sz cs hb (hok _ ho) hn hcap hsz hl h1 hc hp (fun j u v hu hv=>((hr j u v hu hv).okmono (fun g _ ho=>hok g ho)).pure (AV.pureL_mem hp hu))
 |eptr x off ad cs hs hb ho hl h1 hc hp hr ih=>
  exact .eptr x off ad cs hs hb (hok _ ho) hl h1 hc hp (fun j u v hu hv=>((hr j u v hu hv).okmono (fun g _ ho=>hok g ho)).pure (AV.pureL_mem hp hu))
 |agg r xs hx vs hl h1 hr ih=>
  rw[AV.ren]
  refine .agg _ (xs.map (AV.ren σ)) (by rw[Zb8,hx]) vs (by simpa using hl) h1 (fun j u v hu hv=>?_)
  rw[List.getElem?_map]at hu
  cases hxj:xs[j]? with
  |none=>rw[hxj]at hu;cases hu
  |some z=>rw[hxj]at hu;simp only[Option.map_some,Option.some.injEq]at hu;subst hu;exact ih j z v hxj hv
 |tup xs vs hl hr ih=>
  rw[AV.ren,Zgp]
  refine .tup _ vs (by simpa using hl) (fun j u v hu hv=>?_)
  rw[List.getElem?_map]at hu
  cases hxj:xs[j]? with
  |none=>rw[hxj]at hu;cases hu
  |some z=>rw[hxj]at hu;simp only[Option.map_some,Option.some.injEq]at hu;subst hu;exact ih j z v hxj hv
 |fn f xs vs hl hr ih=>
  rw[AV.ren,Zgp]
  refine .fn f _ vs (by simpa using hl) (fun j u v hu hv=>?_)
  rw[List.getElem?_map]at hu
  cases hxj:xs[j]? with
  |none=>rw[hxj]at hu;cases hu
  |some z=>rw[hxj]at hu;simp only[Option.map_some,Option.some.injEq]at hu;subst hu;exact ih j z v hxj hv
 |ptr a i k off g o hl=>
  rw[AV.ren]
  cases hs:σ a i with
  |none=>exact .top _
  |some j=>exact .ptr a j k off g o (hl.ren G hs fun _ _ h=>h)
 |row a i g o n c hn hl=>
  rw[AV.ren]
  cases hs:σ a i with
  |none=>exact .top _
  |some j=>exact .row a j g o n c hn (hl.ren G hs fun _ e h=>by rw[e];exact h)
 |slc a i k n cap g o c hn hl=>
  rw[AV.ren]
  cases hs:σ a i with
  |none=>exact .top _
  |some j=>exact .slc a j k n cap g o c hn (hl.ren G hs fun _ e h=>by rw[e];exact h)
 |aslc a i k off n g o c hn hl=>
  rw[AV.ren]
  cases hs:σ a i with
  |none=>exact .top _
  |some j=>exact .aslc a j k off n g o c hn (hl.ren G hs fun _ _ h=>h)
 |yld a i g hl=>
  rw[AV.ren]
  cases hs:σ a i with
  |none=>exact .top _
  |some j=>exact .yld a j g (hl.ren G hs fun _ _ h=>h)
 |mp a i g hl=>
  rw[AV.ren]
  cases hs:σ a i with
  |none=>exact .top _
  |some j=>exact .mp a j g (hl.ren G hs fun _ _ h=>h)
 |emp ad=>exact .emp ad
 |und=>exact .und
 |top v=>exact .top v
def ZgI(σ:Nat→Nat→Option Nat):Zf7→Zf7
 |[]=>[]
 |(t,v)::l=>(t,AV.ren σ v)::ZgI σ l
theorem Zg1:∀(env:Zf7) (t:Nat),ZaL (ZgI σ env) t=(ZaL env t).map (AV.ren σ)
 |[],t=>rfl
 |(i,x)::l,t=>by
  simp only[ZgI,ZaL]
  split
  ·rfl
  ·exact Zg1 l t
theorem EnvRel.ren(G:Good h L h' L' σ){env:Zf7}{tmps:Array Value}(he:EnvRel C h L w env tmps):EnvRel C h' L' w (ZgI σ env) tmps:=by
 intro t av ht
 rw[Zg1]at ht
 cases hx:ZaL env t with
 |none=>rw[hx]at ht;cases ht
 |some u=>rw[hx]at ht;simp only[Option.map_some,Option.some.injEq]at ht;subst ht;exact(he t u hx).ren G (fun g ho=>G.okk ho)
def Blk.ren(σ:Nat→Nat→Option Nat):Blk→Blk
 | .row e sz r=>.row e sz (Row.ren σ r)
 | .lp l=>.lp { l with env:=ZgI σ l.env }
 | .dfr=>.dfr
 | .mp ks=>.mp ks
 | .dead=>.dead
theorem Blk.ren_tag(b:Blk):(b.ren σ).tag=b.tag:=by
 cases b with
 |row e sz r=>simp only[Blk.ren,Blk.tag,Zb8,List.length_map]
 |_=>rfl
theorem BRel.ren(G:Good h L h' L' σ){g n:Nat}{b:Blk}(hb:BRel C h L w g n b):BRel C h' L' w g n (b.ren σ):=by
 cases b with
 |row e sz r=>
  obtain⟨h0,h1,h2,h3,cur,h4,h5,h6,h7⟩:=hb
  refine⟨h0,h1,by rw[Zb8,List.length_map];exact h2,fun x hx=>?_,cur,h4,h5,?_,by rw[Zb8,List.length_map];exact h7⟩
  ·rw[Zb8]at hx
   obtain⟨y,hy,rfl⟩:=List.mem_map.1 hx
   rw[ZlU,List.length_map];exact h3 y hy
  ·rw[Zb8,List.length_map,Zlj]
   refine⟨by rw[List.length_map];exact h6.1,fun j u v hu hv=>?_⟩
   rw[List.getElem?_map]at hu
   cases hx:(Zah r.elems)[j]? with
   |none=>rw[hx]at hu;cases hu
   |some z=>rw[hx]at hu;simp only[Option.map_some,Option.some.injEq]at hu;subst hu;exact(h6.2 j z v hx hv).ren G (fun g ho=>G.okk ho)
 |lp l=>
  obtain⟨r,h1,h2,h3,h4,h5,h6,h7,h8,h9⟩:=hb
  exact⟨r,h1,h2,h3,h4,h5.ren G,h6,h7,h8,h9⟩
 |dfr=>exact hb
 |mp ks=>exact hb
 |dead=>trivial
def Zro(σ:Nat→Nat→Option Nat):AItem→Option AItem
 | .inRF a i=>match σ a i with |some j=>some (.inRF a j) |none=>none
 | .endRF a i=>match σ a i with |some j=>some (.endRF a j) |none=>none
 | .code c=>some (.code c)
 | .inBlock i=>some (.inBlock i)
 | .inLoop b=>some (.inLoop b)
 | .inReg os=>some (.inReg os)
 | .beginRound=>some .beginRound
def Zh0(σ:Nat→Nat→Option Nat):List AItem→Option (List AItem)
 |[]=>some []
 |x::k=>match Zro σ x with
  |none=>none
  |some y=>match Zh0 σ k with |some l=>some (y::l) |none=>none
def Zqk(σ:Nat→Nat→Option Nat):List (Nat×Nat)→Option (List (Nat×Nat))
 |[]=>some []
 |(a,i)::k=>match σ a i with
  |none=>none
  |some j=>match Zqk σ k with |some l=>some ((a,j)::l) |none=>none
def ZrT(σ:Nat→Nat→Option Nat):Option (Nat×Nat)→Option (Option (Nat×Nat))
 |none=>some none
 |some (a,i)=>match σ a i with |some j=>some (some (a,j)) |none=>none
def ZtN:AItem→Bool
 | .inRF _ _=>false
 | .endRF _ _=>false
 |_=>true
def ZeL:List AItem→Bool
 |[]=>true
 |x::k=>match ZtN x with |true=>ZeL k |false=>false
def ZBi(σ:Nat→Nat→Option Nat)(f:AFrame):Option AFrame:=
 match Zqk σ f.defs with
 |none=>none
 |some ds=>match ZrT σ f.rnd with
  |none=>none
  |some rd=>match ZeL f.todo with
   |true=>some { f with env:=ZgI σ f.env,defs:=ds,rnd:=rd }
   |false=>match Zh0 σ f.todo with
    |none=>none
    |some td=>some { f with env:=ZgI σ f.env,todo:=td,defs:=ds,rnd:=rd }
def ZoS(σ:Nat→Nat→Option Nat):List AFrame→Option (List AFrame)
 |[]=>some []
 |f::fs=>match ZBi σ f with
  |none=>none
  |some g=>match ZoS σ fs with |some gs=>some (g::gs) |none=>none
theorem ItRel.ren{P:Program}{N:Nat}(G:Good h L h' L' σ){x x':AItem}{y:Item}(hr:Zro σ x=some x')(hx:ItRel P h L N x y):ItRel P h' L' N x' y:=by
 cases hx with
 |code a c hm=>cases hr;exact .code a c hm
 |inBlock id=>cases hr;exact .inBlock id
 |inLoop a c hm=>cases hr;exact .inLoop a c hm
 |inReg ops k aos hm=>cases hr;exact .inReg ops k aos hm
 |beginRound=>cases hr;exact .beginRound
 |inRF a i g hl=>
  simp only[Zro]at hr
  split at hr
  ·rename_i j hs;cases hr;exact .inRF a j g (hl.ren G hs fun _ _ h=>h)
  ·cases hr
 |endRF a i g hl=>
  simp only[Zro]at hr
  split at hr
  ·rename_i j hs;cases hr;exact .endRF a j g (hl.ren G hs fun _ _ h=>h)
  ·cases hr
theorem ItsRel.ren{P:Program}{N:Nat}(G:Good h L h' L' σ):∀ {x x':List AItem} {y:List Item},Zh0 σ x=some x'→ItsRel P h L N x y→ItsRel P h' L' N x' y
 |[],x',y,hr,hx=>by cases hx;cases hr;exact .nil
 |x::k,x',y,hr,hx=>by
  cases hx with
  |cons hx hk=>
   simp only[Zh0]at hr
   split at hr
   ·cases hr
   ·rename_i z hz
    split at hr
    ·rename_i l hl;cases hr;exact .cons (hx.ren G hz) (ItsRel.ren G hl hk)
    ·cases hr
theorem Zkp:∀ {x:List AItem},ZeL x=true→Zh0 σ x=some x
 |[],_=>rfl
 |x::k,hp=>by
  simp only[ZeL]at hp
  split at hp
  ·rename_i h1
   simp only[Zh0,Zkp hp]
   cases x<;>first |rfl |cases h1
  ·cases hp
theorem ZhT(G:Good h L h' L' σ){p:Nat→Nat×Nat→Prop} :∀ {l l':List (Nat×Nat)},Zqk σ l=some l'→l'.length=l.length∧∀(j:Nat) (d:Nat×Nat),l'[j]? =some d→∃d0:Nat×Nat,l[j]? =some d0∧d0.1=d.1∧σ d0.1 d0.2=some d.2
 |[],l',hr=>by cases hr;exact⟨rfl,fun j d hd=>by simp at hd⟩
 |(a,i)::k,l',hr=>by
  simp only[Zqk]at hr
  split at hr
  ·cases hr
  ·rename_i j hs
   split at hr
   ·rename_i l hl
    cases hr
    obtain⟨h1,h2⟩:=ZhT (p:=p) G hl
    refine⟨by simp[h1],fun q d hd=>?_⟩
    cases q with
    |zero=>simp at hd;subst hd;exact⟨(a,i),rfl,rfl,hs⟩
    |succ q=>obtain⟨d0,e1,e2,e3⟩:=h2 q d (by simpa using hd);exact⟨d0,by simpa using e1,e2,e3⟩
   ·cases hr
theorem FrRel.ren(G:Good h L h' L' σ){af af':AFrame}{fr:Frame}(hr:ZBi σ af=some af')(hf:FrRel C h L w af fr):FrRel C h' L' w af' fr:=by
 unfold ZBi at hr
 split at hr
 ·cases hr
 ·rename_i ds hds
  split at hr
  ·cases hr
  ·rename_i rd hrd
   have hd:DefRel h' L' ds fr.defers:=by
    obtain⟨gs,h1,h2,h3⟩:=hf.defs
    obtain⟨e1,e2⟩:=ZhT (p:=fun _ _=>True) G hds
    refine⟨gs,h1,h2.trans e1.symm,fun j d g hd hg=>?_⟩
    obtain⟨d0,q1,q2,q3⟩:=e2 j d hd
    obtain⟨d1,d2⟩:=d
    obtain⟨d3,d4⟩:=d0
    simp only at q2 q3
    subst q2
    exact(h3 j _ g q1 hg).ren G q3 fun _ _ h=>h
   have hn:RndRel h' L' rd fr.roundOf∧(rd=none→af.rnd=none):=by
    have hrn:=hf.rnd
    unfold ZrT at hrd
    split at hrd
    ·rename_i e;cases hrd;rw[e]at hrn;exact⟨hrn,fun _=>e⟩
    ·rename_i a i e
     rw[e]at hrn
     split at hrd
     ·rename_i j hs;cases hrd
      obtain⟨g,hg,hl⟩:=hrn
      exact⟨⟨g,hg,hl.ren G hs fun _ _ h=>h⟩,fun e=>by cases e⟩
     ·cases hrd
   split at hr
   ·rename_i hp
    cases hr
    exact⟨hf.fn,hf.size,hf.env.ren G,hf.kind,hd,hn.1,hf.mode.imp id fun⟨a,b,c⟩=>⟨a,b,c.ren G (Zkp hp)⟩,fun e=>hf.res (hn.2 e)⟩
   ·split at hr
    ·cases hr
    ·rename_i td htd
     cases hr
     exact⟨hf.fn,hf.size,hf.env.ren G,hf.kind,hd,hn.1,hf.mode.imp id fun⟨a,b,c⟩=>⟨a,b,c.ren G htd⟩,fun e=>hf.res (hn.2 e)⟩
theorem FrsRel.ren(G:Good h L h' L' σ):∀ {afs afs':List AFrame} {cs:List Frame},ZoS σ afs=some afs'→FrsRel C h L w afs cs→FrsRel C h' L' w afs' cs
 |[],afs',cs,hr,hf=>by cases hf;cases hr;exact .base
 |f::fs,afs',cs,hr,hf=>by
  cases hf with
  |cons hf hk=>
   simp only[ZoS]at hr
   split at hr
   ·cases hr
   ·rename_i g hg
    split at hr
    ·rename_i gs hgs;cases hr;exact .cons (hf.ren G hg) (FrsRel.ren G hgs hk)
    ·cases hr
end
abbrev ZsY:=List (Nat×Nat×List Blk)
def Zxt:Blk→Bool
 | .dead=>true
 |_=>false
def Zlo(R:List (Nat×Nat))(a:Nat):Nat→List Blk→List Blk
 |_,[]=>[]
 |i,b::l=>match(match Zr5 (a,i) R with |true=>b |false=>.dead),Zlo R a (i+1) l with
  | .dead,[]=>[]
  |b',l'=>b'::l'
def ZoR:Nat→List Blk→Nat×List Blk
 |n,[]=>(n,[])
 |n,b::l=>match Zxt b with |true=>ZoR (n+1) l |false=>(n,b::l)
def ZkR(R:List (Nat×Nat))(a:Nat)(f:Fam):Nat×List Blk:=ZoR f.base (Zlo R a f.base f.blks)
def Za7(R:List (Nat×Nat)):Zab→ZsY
 |[]=>[]
 |(a,f)::rest=>match ZkR R a f with
  |(s,l)=>(match l,ZaL rest a with
   |[],none=>Za7 R rest
   |l,_=>(a,s,l)::Za7 R rest)
def Zna(t:ZsY)(a i:Nat):Option Nat:=
 match ZaL t a with
 |none=>none
 |some p=>match Nat.ble p.1 i with
  |false=>none
  |true=>match Zxt (p.2.getD (i-p.1) .dead)with |true=>none |false=>some (i-p.1)
def Zhz(σ:Nat→Nat→Option Nat):ZsY→Zab
 |[]=>[]
 |(a,_,l)::t=>(a,⟨0,l.map (Blk.ren σ)⟩)::Zhz σ t
def ZnV(t:ZsY)(L:Lay):Lay:=⟨fun a j=>L.loc a (j+match ZaL t a with |some p=>p.1 |none=>0),fun a j=>L.size a (j+match ZaL t a with |some p=>p.1 |none=>0)⟩
theorem Zh8{R:List (Nat×Nat)}{a:Nat} :∀(l:List Blk) (i j:Nat),(Zlo R a i l).getD j .dead=.dead∨(Zlo R a i l).getD j .dead=l.getD j .dead
 |[],i,j=>.inl (by simp[Zlo])
 |b::l,i,j=>by
  have ih:=Zh8 (R:=R) (a:=a) l (i+1)
  simp only[Zlo]
  split
  ·left;simp
  ·cases j with
   |zero=>
    simp only[List.getD_cons_zero]
    split
    ·right;rfl
    ·left;rfl
   |succ j=>simp only[List.getD_cons_succ];exact ih j
theorem Zij:∀(l:List Blk) (n j:Nat),∃d,(ZoR n l).1=n+d∧(ZoR n l).2.getD j .dead=l.getD (j+d) .dead
 |[],n,j=>⟨0,rfl,rfl⟩
 |b::l,n,j=>by
  simp only[ZoR]
  split
  ·obtain⟨d,h1,h2⟩:=Zij l (n+1) j
   exact⟨d+1,by rw[h1];omega,by rw[h2,←Nat.add_assoc,List.getD_cons_succ]⟩
  ·exact⟨0,rfl,rfl⟩
theorem ZiO{R:List (Nat×Nat)} :∀ {h:Zab} {a:Nat} {p:Nat×List Blk},ZaL (Za7 R h) a=some p→∃f,ZaL h a=some f∧ZkR R a f=p
 |[],a,p,h=>by cases h
 |(b,f)::rest,a,p,h=>by
  have ih:= @ZiO R rest a p
  have hb:∀x y:Nat,Nat.beq x y=decide (x=y):=fun x y=>by rw[Bool.eq_iff_iff];simp
  simp only[Za7]at h
  split at h
  ·rename_i hl hr
   obtain⟨f',h1,h2⟩:=ih h
   refine⟨f',?_,h2⟩
   simp only[ZaL,hb]
   by_cases hba:b=a
   ·subst hba;rw[hr]at h1;cases h1
   ·simp only[hba,decide_false];exact h1
  ·simp only[ZaL,hb]at h⊢
   by_cases hba:b=a
   ·subst hba;simp only[decide_true,Option.some.injEq]at h ⊢;exact⟨f,rfl,h⟩
   ·simp only[hba,decide_false]at h ⊢;exact ih h
theorem ZhD{σ:Nat→Nat→Option Nat} :∀(t:ZsY) (a:Nat),ZaL (Zhz σ t) a=(ZaL t a).map fun p=>⟨0,p.2.map (Blk.ren σ)⟩
 |[],a=>rfl
 |(b,s,l)::t,a=>by
  simp only[Zhz,ZaL]
  split
  ·rfl
  ·exact ZhD t a
theorem Zc9{σ:Nat→Nat→Option Nat}(t:ZsY)(a j:Nat):blk (Zhz σ t) a j=Blk.ren σ (match ZaL t a with |some p=>p.2.getD j .dead |none=>.dead)∧nxt (Zhz σ t) a=match ZaL t a with |some p=>p.2.length |none=>0:=by
 unfold blk nxt fam
 rw[ZhD]
 cases ZaL t a with
 |none=>simp[Fam.get,Zca,Blk.ren]
 |some p=>
  simp only[Option.map_some,Option.getD_some,Fam.get,Zca (Nat.zero_le _),Nat.sub_zero,List.length_map,Nat.zero_add,and_true]
  simp only[List.getD_eq_getElem?_getD,List.getElem?_map]
  cases p.2[j]?<;>rfl
theorem ZdE{R:List (Nat×Nat)}{h:Zab}{a:Nat}{p:Nat×List Blk}(hp:ZaL (Za7 R h) a=some p)(j:Nat):p.2.getD j .dead=.dead∨p.2.getD j .dead=blk h a (j+p.1):=by
 obtain⟨f,h1,h2⟩:=ZiO hp
 unfold ZkR at h2
 obtain⟨d,e1,e2⟩:=Zij (Zlo R a f.base f.blks) f.base j
 rw[h2]at e1 e2
 rw[e2]
 rcases Zh8 (R:=R) (a:=a) f.blks f.base (j+d)with h3 |h3
 ·exact .inl h3
 ·right
  rw[h3,e1]
  unfold blk fam Fam.get
  rw[h1]
  simp only[Option.getD_some,Zca (show f.base≤j+(f.base+d) by omega)]
  congr 1;omega
theorem pack_good{R:List (Nat×Nat)}{h:Zab}{L:Lay} :Good h L (Zhz (Zna (Za7 R h)) (Za7 R h)) (ZnV (Za7 R h) L) (Zna (Za7 R h)):=by
 refine⟨fun a i j hs=>?_,fun a j ht=>?_⟩
 ·obtain⟨hb,hn⟩:=Zc9 (σ:=Zna (Za7 R h)) (Za7 R h) a j
  unfold Zna at hs
  cases hp:ZaL (Za7 R h) a with
  |none=>rw[hp]at hs;cases hs
  |some p=>
   rw[hp]at hs hb hn
   simp only at hs hb hn
   split at hs
   ·cases hs
   ·rename_i hle
    have hle:p.1≤i:=by simpa using hle
    split at hs
    ·cases hs
    ·rename_i hd
     cases hs
     have hlt:i-p.1<p.2.length:=by
      rcases Nat.lt_or_ge (i-p.1) p.2.length with h1 |h1
      ·exact h1
      ·rw[List.getD_eq_getElem?_getD,List.getElem?_eq_none h1]at hd;cases hd
     have hadd:i-p.1+p.1=i:=by omega
     refine⟨by rw[hn];exact hlt,fun sz ht=>?_,by simp only[ZnV,hp,hadd],by simp only[ZnV,hp,hadd]⟩
     rw[hb,Blk.ren_tag]at ht
     rcases ZdE hp (i-p.1)with h1 |h1
     ·rw[h1]at hd;cases hd
     ·rw[h1,hadd]at ht;exact ht
 ·obtain⟨hb,_⟩:=Zc9 (σ:=Zna (Za7 R h)) (Za7 R h) a j
  rw[hb,Blk.ren_tag]at ht
  cases hp:ZaL (Za7 R h) a with
  |none=>rw[hp]at ht;exact absurd rfl ht
  |some p=>
   rw[hp]at ht
   simp only at ht
   rcases ZdE hp j with h1 |h1
   ·rw[h1]at ht;exact absurd rfl ht
   ·exact⟨j+p.1,by rw[←h1];exact ht,by simp only[ZnV,hp]⟩
theorem HRel.packed{C:Ctx}{R:List (Nat×Nat)}{h:Zab}{L:Lay}{w:World}(H:HRel C h L w):HRel C (Zhz (Zna (Za7 R h)) (Za7 R h)) (ZnV (Za7 R h) L) w:=by
 have key:∀a j,(blk (Zhz (Zna (Za7 R h)) (Za7 R h)) a j).tag≠none→∃p,ZaL (Za7 R h) a=some p∧(blk h a (j+p.1)).tag≠none:=fun a j ht=>by
  obtain⟨hb,_⟩:=Zc9 (σ:=Zna (Za7 R h)) (Za7 R h) a j
  rw[hb,Blk.ren_tag]at ht
  cases hp:ZaL (Za7 R h) a with
  |none=>rw[hp]at ht;exact absurd rfl ht
  |some p=>
   rw[hp]at ht
   simp only at ht
   rcases ZdE hp j with h1 |h1
   ·rw[h1]at ht;exact absurd rfl ht
   ·exact⟨p,rfl,by rw[←h1];exact ht⟩
 refine⟨H.below,fun a j ht=>?_,fun a j=>?_,fun a i b j h1 h2 e=>?_,fun a j ht=>?_,H.low,H.base⟩
 rotate_right
 ·obtain⟨p,hp,ht'⟩:=key a j ht
  simp only[ZnV,hp]
  rcases H.home a _ ht' with h9 |⟨h7,h8,h9⟩
  ·exact .inl h9
  ·exact .inr ⟨h7,by omega,h9⟩
 ·obtain⟨p,hp,ht'⟩:=key a j ht
  simp only[ZnV,hp];exact H.live a _ ht'
 ·obtain⟨hb,_⟩:=Zc9 (σ:=Zna (Za7 R h)) (Za7 R h) a j
  rw[hb]
  cases hp:ZaL (Za7 R h) a with
  |none=>trivial
  |some p=>
   simp only
   rcases ZdE hp j with h1 |h1
   ·rw[h1];trivial
   ·rw[h1];simp only[ZnV,hp];exact(H.blks a _).ren pack_good
 ·obtain⟨p,hp,hp'⟩:=key a i h1
  obtain⟨q,hq,hq'⟩:=key b j h2
  simp only[ZnV,hp,hq]at e
  obtain⟨rfl,e2⟩:=H.inj _ _ _ _ hp' hq' e
  rw[hp]at hq;cases hq
  exact⟨rfl,by omega⟩
def Zyq:AV→List (Nat×Nat)
 | .tup xs=>xs.flatMap Zgf
 |v=>Zgf v
def ZCh:Row→List (Nat×Nat)
 | .gen xs=>xs.flatMap Zyq
 |_=>[]
def ZuM:Zf7→List (Nat×Nat)
 |[]=>[]
 |(_,v)::l=>Zyq v++ZuM l
def ZCw:Blk→List (Nat×Nat)
 | .row _ _ r=>ZCh r
 | .lp l=>ZuM l.env
 |_=>[]
def Zy8:List AItem→List (Nat×Nat)
 |[]=>[]
 |x::k=>(match x with | .inRF a i=>[(a,i)] | .endRF a i=>[(a,i)] |_=>[])++Zy8 k
def Zzn:List AFrame→List (Nat×Nat)
 |[]=>[]
 |f::fs=>ZuM f.env++((match ZeL f.todo with |true=>[] |false=>Zy8 f.todo)++(f.defs++((match f.rnd with |some p=>[p] |none=>[])++Zzn fs)))
def ZA5(R:List (Nat×Nat)):List (Nat×Nat)→List (Nat×Nat)
 |[]=>R
 |p::l=>match Zr5 p R with |true=>ZA5 R l |false=>ZA5 (p::R) l
def Zr0(h:Zab):Nat→List (Nat×Nat)→List (Nat×Nat)→List (Nat×Nat)
 |0,R,_=>R
 |n+1,R,new=>match new.flatMap (fun p=>ZCw (blk h p.1 p.2))with
  |[]=>R
  |l=>Zr0 h n (ZA5 R l) l
def ZqC(h:Zab)(t:ZsY):Bool:=
 match ZaL t 0 with
 |none=>Nat.beq (nxt h 0) 0
 |some p=>match Nat.beq p.1 0 with |true=>Nat.ble (nxt h 0) p.2.length |false=>false
def ZCP(fs:List AFrame):List (Nat×Nat):=ZA5 [] ((0,0)::Zzn fs)
def ZBb(fs:List AFrame)(h:Zab):Option (List AFrame×Zab):=
 match ZCP fs with
 |R0=>match Za7 (Zr0 h 4 R0 R0) h with
  |t=>match ZqC h t with
   |false=>none
   |true=>match ZoS (Zna t) fs with
    |none=>none
    |some fs'=>some (fs',Zhz (Zna t) t)
theorem Zt3{C:Ctx}{R:List (Nat×Nat)}{h:Zab}{L:Lay}{w:World}(hk:ZqC h (Za7 R h)=true):Fr C h L w (Zhz (Zna (Za7 R h)) (Za7 R h)) (ZnV (Za7 R h) L) w:=by
 obtain⟨hb,hn⟩:=Zc9 (σ:=Zna (Za7 R h)) (Za7 R h) 0 0
 refine⟨Nat.le_refl _,fun g _ ho=>⟨pack_good.okk ho,rfl⟩,?_,fun sz _ ht=>?_⟩
 ·rw[hn]
  unfold ZqC at hk
  cases hp:ZaL (Za7 R h) 0 with
  |none=>rw[hp]at hk;have:=Nat.eq_of_beq_eq_true hk;omega
  |some p=>
   rw[hp]at hk
   simp only at hk⊢
   split at hk
   ·simpa using hk
   ·cases hk
 ·rw[hb,Blk.ren_tag]at ht
  unfold ZqC at hk
  cases hp:ZaL (Za7 R h) 0 with
  |none=>rw[hp]at ht;cases ht
  |some p=>
   rw[hp]at ht hk
   simp only at ht hk
   split at hk
   ·rename_i h0
    have h0:p.1=0:=Nat.eq_of_beq_eq_true h0
    rcases ZdE hp 0 with h1 |h1
    ·rw[h1]at ht;cases ht
    ·rw[h1,h0]at ht
     refine⟨ht,?_,?_⟩
     ·simp only[ZnV,hp,h0]
     ·simp only[ZnV,hp,h0]
   ·cases hk
theorem ZoL{C:Ctx}{fs fs':List AFrame}{h h':Zab}{Q:List AFrame→Zab→Prop}(hp:ZBb fs h=some (fs',h'))(hq:Ev C fs' h' Q):Ev C fs h Q:=by
 intro L fr cs w hf H hne
 unfold ZBb at hp
 dsimp only at hp
 split at hp
 ·cases hp
 ·rename_i hkeep
  split at hp
  ·cases hp
  ·rename_i gs hgs
   cases hp
   obtain⟨fs2,h2',L2,fr2,cs2,w2,q2,n2,a2,b2,s2⟩:=hq _ fr cs w (FrsRel.ren pack_good hgs hf) H.packed (fun e=>by
    subst e
    cases fs with
    |nil=>exact hne rfl
    |cons f fs=>
     simp only[ZoS]at hgs
     split at hgs
     ·cases hgs
     ·split at hgs<;>cases hgs)
   exact⟨fs2,h2',L2,fr2,cs2,w2,q2,n2,a2,b2,s2.1,(Zt3 hkeep).trans s2.2⟩
def ZvS(A:Ar)(T:Tab)(l:List Ctr)(n:Nat)(pk:Bool)(pa:List Bool)(f:AFrame)(fs:List AFrame)(h:Zab):Option (List Bool×List AFrame×Zab):=
 match ZgZ A T l n pa [] f fs h with
 |none=>none
 |some (acc,f',fs',h')=>match pk with
  |false=>some (acc,f'::fs',h')
  |true=>match ZBb (f'::fs') h' with
   |none=>none
   |some (gs,h2)=>some (acc,gs,h2)
theorem Zs9{C:Ctx}{T:Tab}{l:List Ctr}{n:Nat}{pk:Bool}{pa acc:List Bool}{f:AFrame}{fs gs:List AFrame}{h h':Zab}{Q:List AFrame→Zab→Prop}(hfol:C.P.follows .mixedOrders=true)(hT:Zbu C.P T)(hl:ZaK C.P l)
 (hw:ZvS std T l n pk pa f fs h=some (acc,gs,h')) (hb:AllT acc) (hq:Ev C gs h' Q):Ev C (f::fs) h Q:=by
 unfold ZvS at hw
 split at hw
 ·cases hw
 ·rename_i acc1 f1 fs1 h1 hs
  split at hw
  ·cases hw
   exact(ZbS hfol hT hl n _ _ _ _ hs hb.mem hq).2
  ·split at hw
   ·cases hw
   ·rename_i gs2 h2 hp
    cases hw
    exact(ZbS hfol hT hl n _ _ _ _ hs hb.mem (ZoL hp hq)).2
end Go.Proofs.YtkeoeooghhjibaaGreatDoor
/- What comes back is read as a value. No condition. -/
namespace Go.Proofs.YtkeoeooghhjibaaGreatDoor
open Go.RowKit (Below)
inductive Frz1 (fr:Option Fresh):AV→AV→Prop
 |row (f:Fresh) (hf:fr=some f) (hp:f.r.pure=true) (hs:f.r.solid=true):Frz1 fr (.row 0 0) (.list f.r)
 |nil (r:Row) (h:r.elems=[]):Frz1 fr .nils (.list r)
 |same (v:AV) (hp:v.pure=true) (hs:v.solid=true):Frz1 fr v v
def FrzL(fr:Option Fresh):List AV→List AV→Prop
 |[],[]=>True
 |x::xs,y::ys=>Frz1 fr x y∧FrzL fr xs ys
 |_,_=>False
inductive Frz (fr:Option Fresh):AV→AV→Prop
 |one {v v':AV} (h:Frz1 fr v v'):Frz fr v v'
 |tup {xs ys:List AV} (h:FrzL fr xs ys):Frz fr (.tup xs) (.tup ys)
theorem FrzL.spec{fr:Option Fresh} :∀ {xs ys:List AV},FrzL fr xs ys→xs.length=ys.length∧∀(j:Nat) (y:AV),ys[j]? =some y→∃x,xs[j]? =some x∧Frz1 fr x y
 |[],[],_=>⟨rfl,fun j y h=>by simp at h⟩
 |x::xs,y::ys,h=>by
  obtain⟨h1,h2⟩:=h
  obtain⟨e1,e2⟩:=FrzL.spec h2
  refine⟨by simp[e1],fun j z hz=>?_⟩
  cases j with
  |zero=>simp at hz;subst hz;exact⟨x,rfl,h1⟩
  |succ j=>obtain⟨q,q1,q2⟩:=e2 j z (by simpa using hz);exact⟨q,by simpa using q1,q2⟩
section
variable {P:Program}{w w':World}{okA:Nat→Prop}{L':Lay}{fr:Option Fresh}
theorem Zgm(H:HRel (Ctx.of P w okA []) (Zax fr) L' w'){v v':AV}{x:Value}(hs:Frz1 fr v v')(hr:ZaC (Ctx.of P w okA []) (Zax fr) L' w' v x):ZaC (Ctx.of P w (fun _=>False) []) [] L' w' v' x:=by
 cases hs with
 |nil r h=>cases hr with |nils=>exact .nil r none 0 h
 |same _ hp hs=>
  exact((hr.pure hp:Rel w' _ [] L' v x).solid hs)
 |row f hf hp hso=>
  subst hf
  have hb:blk (Zax (some f)) 0 0=.row f.e f.sz f.r:=rfl
  obtain⟨ht,h0,h1,h2,h3,cur,h4,h5,h6,h7,h8⟩:=H.rowAt hb
  have hl:=H.live 0 0 (by rw[ht];simp)
  cases hr with
  |row _ _ g o n c hn hlv=>
   obtain⟨rfl,rfl,rfl,rfl⟩:=hlv.2 _ ht
   have hpa:=Za1 hp
   refine .list f.r _ rfl ⟨L'.loc 0 0,0,none⟩ _ _ f.sz _ hl.2 (.inr ⟨hl.1,fun a i ht=>absurd rfl ht⟩) rfl hn h3 h6.1.symm h7 (fun j v hj=>h8 j v hj) hpa (fun j u v hu hv=>?_)
   have hsu:u.solid=true:=AV.solidL_mem (Zg3 hso) hu
   exact((h6.2 j u v hu hv).pure (AV.pureL_mem hpa hu):Rel w' _ [] L' u v).solid hsu
theorem ZqI{f:FuncId}{args:List AV}{r r':AV}(h:Zan P f args r fr)(hz:Zgj fr=false)(hs:Frz fr r r'):Zan P f args r' Zl2:=by
 intro w okA L vs hargs hok
 refine(h w okA L vs hargs hok).mono ?_
 rintro e w' ⟨x,L',rfl,hb,hp⟩
 unfold ZmU at hp
 rw[hz]at hp
 obtain⟨H,hr⟩:=hp
 refine⟨x,L',rfl,hb,?_⟩
 show ZaC (Ctx.of P w (fun _=>False) []) [] L' w' r' x
 cases hs with
 |one hs=>exact Zgm H hs hr
 |tup hs=>
  obtain⟨e1,e2⟩:=hs.spec
  cases hr with
  |tup xs vs hl hrr=>
   refine .tup _ vs (by rw[←e1];exact hl) (fun j u v hu hv=>?_)
   obtain⟨q,q1,q2⟩:=e2 j u hu
   exact Zgm H q2 (hrr j q v q1 hv)
end
def Zay(A:Ar)(T:Tab)(l:List Ctr)(n:Nat)(pa:List Bool)(fs:List AFrame)(h:Zab):Option (List Bool×List AFrame×Zab):=
 match fs with
 |[]=>none
 |f::fs=>ZvS A T l n true pa f fs h
def ZaT(A:Ar)(T:Tab)(l:List Ctr)(n:Nat)(pa:List Bool)(fn:FuncId)(fs:List AFrame)(h:Zab):Option (List Bool×AV×Option Fresh):=
 match fs with
 |[]=>none
 |f::fs=>match ZgZ A T l n pa [] f fs h with
  |none=>none
  |some (acc,g,gs,h')=>match gs with
   |_::_=>none
   |[]=>match g.ret&&Nat.beq g.fn fn with
    |false=>none
    |true=>match g.rnd with
     |some _=>none
     |none=>match g.defs with
      |_::_=>none
      |[]=>match ZkX A g.env h' g.res with
       |none=>none
       |some (b,vs)=>match ZeZ h' (Ze6 vs)with
        |none=>none
        |some (r,fr)=>some (b::acc,r,fr)
section
variable {C:Ctx}{T:Tab}{l:List Ctr}{n:Nat}{pa acc:List Bool}{fs gs:List AFrame}{h h':Zab}{Q:List AFrame→Zab→Prop}
theorem ZC3(hfol:C.P.follows .mixedOrders=true)(hT:Zbu C.P T)(hl:ZaK C.P l)(hw:Zay std T l n pa fs h=some (acc,gs,h'))(hb:AllT acc)(hq:Ev C gs h' Q):Ev C fs h Q:=by
 unfold Zay at hw
 split at hw
 ·cases hw
 ·exact Zs9 hfol hT hl hw hb hq
theorem Zzo(hfol:C.P.follows .mixedOrders=true)(hT:Zbu C.P T)(hl:ZaK C.P l){fn:FuncId}{r r':AV}{fr fr':Option Fresh}(hw:ZaT std T l n pa fn fs h=some (acc,r',fr'))(hb:AllT acc)(hr:r'=r)(hfr:fr'=fr):Ev C fs h (Zb3 fn r fr):=by
 subst hr;subst hfr
 unfold ZaT at hw
 split at hw
 ·cases hw
 ·split at hw
  ·cases hw
  ·rename_i acc1 g gs1 h1 hs
   split at hw
   ·cases hw
   ·split at hw
    ·cases hw
    ·rename_i hg
     simp only[Bool.and_eq_true]at hg
     split at hw
     ·cases hw
     ·rename_i hn
      split at hw
      ·cases hw
      ·rename_i hd
       split at hw
       ·cases hw
       ·rename_i b vs hc
        split at hw
        ·cases hw
        ·rename_i hex
         cases hw
         have hb1:b=true:=hb.1
         subst hb1
         exact(ZbS hfol hT hl n _ _ _ _ hs hb.2.mem (.now (by simp) ⟨g,vs,rfl,Nat.eq_of_beq_eq_true hg.2,hg.1,hn,hd,hc,hex⟩)).2
end
end Go.Proofs.YtkeoeooghhjibaaGreatDoor
namespace Go.Proofs.YtkeoeooghhjibaaGreatDoor
@[simp] theorem ZEB (a b:Int):std.add a b=a+b:=rfl
@[simp] theorem ZFr (a b:Int):std.sub a b=a-b:=rfl
@[simp] theorem ZEH (a b:Int):std.mul a b=a*b:=rfl
@[simp] theorem ZEn (a b:Int):std.quo a b=Int.tdiv a b:=rfl
@[simp] theorem ZFA (a b:Int):std.rem a b=Int.tmod a b:=rfl
@[simp] theorem ZFe (a:Int):std.neg a= -a:=rfl
@[simp] theorem Zr2 (a b:Int):std.lt a b=decide (a<b):=rfl
@[simp] theorem Zsm (a b:Int):std.le a b=decide (a≤b):=rfl
@[simp] theorem ZA7 (a b:Int):std.eq a b=decide (a=b):=rfl
@[simp] theorem Zzp (a:Int):std.nat a=a.toNat:=rfl
@[simp] theorem Zgc (a:Nat):std.int a=(a:Int):=rfl
@[simp] theorem Zyj (a b:Int):std.max a b=Max.max a b:=rfl
@[simp] theorem ZEa (a b:Int):std.min a b=Min.min a b:=rfl
@[simp] theorem ZES (l:List Int):std.len l=l.length:=rfl
@[simp] theorem ZFV (l:List Int) (j:Nat):std.nth l j=l.getD j 0:=rfl
@[simp] theorem ZF5 (l:List Int) (j:Nat) (x:Int):std.set l j x=l.set j x:=rfl
@[simp] theorem ZFy (a b:List Int):std.app a b=a++b:=rfl
@[simp] theorem ZDe (l:List Int) (k n:Nat):std.sub3 l k n=(l.drop k).take n:=rfl
@[simp] theorem ZGA (n:Nat) (x:Int):std.rep n x=List.replicate n x:=rfl
@[simp] theorem ZFu (a:Bool):std.not a=!a:=rfl
@[simp] theorem ZDh (l:List UInt8):std.lenS l=l.length:=rfl
@[simp] theorem ZDW (l:List UInt8) (j:Nat):std.nthS l j=((l.getD j 0).toNat:Int):=rfl
@[simp] theorem ZDn (a b:List UInt8):std.appS a b=a++b:=rfl
@[simp] theorem ZDd (l:List UInt8) (k n:Nat):std.subS l k n=sub3 l k n:=rfl
@[simp] theorem ZFU (a b:List UInt8):std.eqS a b=(a==b):=rfl
@[simp] theorem Zdi (ks:List AV) (s:List UInt8):std.hasS ks s=ks.any fun k=>k.toS==s:=rfl
@[simp] theorem ZEy (s:List UInt8):std.byt s=s.map fun b=>(b.toNat:Int):=rfl
@[simp] theorem ZEj (a b:Int):std.shl a b=a*2^b.toNat:=rfl
@[simp] theorem ZGw (a b:Int):std.shr a b=a.fdiv (2^b.toNat):=rfl
@[simp] theorem ZCn (n:Int):std.inR .i64 n=decide (-9223372036854775808≤n∧n≤9223372036854775807):=rfl
@[simp] theorem ZEW (a b:Bool):Zaf a b=(a&&b):=by cases a<;>rfl
@[simp] theorem ZEV (a b:Nat):Nat.blt a b=decide (a<b):=by rw[Bool.eq_iff_iff];simp
@[simp] theorem ZFd (a b:Nat):Nat.ble a b=decide (a≤b):=by rw[Bool.eq_iff_iff];simp
@[simp] theorem ZFc (a b:Nat):Nat.beq a b=decide (a=b):=by rw[Bool.eq_iff_iff];simp
@[simp] theorem ZqV:AllT []=True:=rfl
@[simp] theorem Zhp (b:Bool) (l:List Bool):AllT (b::l)=(b=true∧AllT l):=rfl
def tru:Nat→List Bool→List Bool
 |0,l=>l
 |n+1,l=>true::tru n l
def tr:List Nat→List Bool→List Bool
 |k::ks,x::xs=>tru k (x::tr ks xs)
 |k::_,[]=>tru k []
 |[],xs=>xs
theorem ZiS(l:List Bool):∀n,AllT (tru n l)=AllT l
 |0=>rfl
 |n+1=>by simp only[tru,Zhp,ZiS l n,true_and]
@[simp] theorem Zs2:∀ks xs,AllT (tr ks xs)=AllT xs
 |k::ks,x::xs=>by simp only[tr,ZiS,Zhp,Zs2 ks xs]
 |k::ks,[]=>by simp only[tr,ZiS]
 |[],xs=>rfl
end Go.Proofs.YtkeoeooghhjibaaGreatDoor
/- Runs at letters as trees: one theorem for all ways out of a head. No condition. -/
namespace Go.Proofs.YtkeoeooghhjibaaGreatDoor
open Go.RowKit (Below)
inductive Sp where
 |fn |fm |hd |no
 |run (n:Nat) (k:Sp)
 |alt (p:List Bool) (k r:Sp)
 |any (k:Sp)
def Sp.tf(a b:Sp):Sp:=.alt [true] a (.alt [false] b .no)
def Sp.ty(a:Sp):Sp:=.alt [true] a .no
def Sp.fy(a:Sp):Sp:=.alt [false] a .no
def qB:List Bool→Prop→Prop→Prop
 |[],t,_=>t
 |b::l,t,d=>match b with |true=>qB l t d |false=>d
abbrev KT:=List AFrame×Zab→Prop
abbrev FT:=AV→Option Fresh→Prop
abbrev MT:=AV→Nat→Nat→Row→Prop
def ZDs(A:Ar)(fn:FuncId)(F:FT)(g:AFrame)(gs:List AFrame)(h:Zab):Prop:=
 match gs with
 |_::_=>False
 |[]=>match g.ret&&Nat.beq g.fn fn with
  |false=>False
  |true=>match g.rnd with
   |some _=>False
   |none=>match g.defs with
    |_::_=>False
    |[]=>match ZkX A g.env h g.res with
     |none=>False
     |some (b,vs)=>match ZeZ h (Ze6 vs)with
      |none=>False
      |some (r,fr)=>qB [b] (F r fr) False
def ZzD(A:Ar)(fn:FuncId)(M:MT)(g:AFrame)(gs:List AFrame)(h:Zab):Prop:=
 match gs with
 |_::_=>False
 |[]=>match g.ret&&Nat.beq g.fn fn with
  |false=>False
  |true=>match g.rnd with
   |some _=>False
   |none=>match g.defs with
    |_::_=>False
    |[]=>match Zei A g.env h g.res with
     |none=>False
     |some (b,vs)=>match blk h 0 0 with
      | .row e sz y=>match Zwh (Ze6 vs)&&y.pure with
        |true=>qB [b] (M (Ze6 vs) e sz y) False
        |false=>False
      |_=>False
def ZBR:List (List Nat)→(List Nat→Prop)→Prop
 |[],_=>True
 |x::l,p=>p x∧ZBR l p
theorem Zmy{p:List Nat→Prop} :∀ {l:List (List Nat)},ZBR l p→∀x∈l,p x
 |_::_,h,_, .head _=>h.1
 |_::_,h,x, .tail _ hm=>Zmy h.2 x hm
def ZyG:Nat→Prop→Prop
 |0,_=>True
 |n+1,t=>t∧ZyG n t
@[simp] theorem ZtC (t:Prop):∀n:Nat,ZyG (n+1) t=t
 |0=>by simp[ZyG]
 |n+1=>by
  have e:ZyG (n+1+1) t=(t∧ZyG (n+1) t):=rfl
  rw[e,ZtC t n,and_self]
def ZaI(A:Ar)(T:Tab)(l:List Ctr)(fn:FuncId)(K:KT)(F:FT)(M:MT):Sp→List AFrame→Zab→Prop
 | .no,_,_=>False
 | .hd,fs,h=>match ZBb fs h with |none=>False |some p=>K p
 | .fn,fs,h=>match fs with |[]=>False |g::gs=>ZDs A fn F g gs h
 | .fm,fs,h=>match fs with |[]=>False |g::gs=>ZzD A fn M g gs h
 | .run n k,fs,h=>match fs with
   |[]=>False
   |f::fs=>match ZgZ A T l n [] [] f fs h with
    |none=>False
    |some (acc,f',fs',h')=>qB acc (ZaI A T l fn K F M k (f'::fs') h') False
 | .alt p k r,fs,h=>match fs with
   |[]=>False
   |f::gs=>match Zqa A T l p [] f gs h with
    |none=>False
    |some (_,acc,f',fs',h')=>qB acc (ZaI A T l fn K F M k (f'::fs') h') (ZaI A T l fn K F M r (f::gs) h)
 | .any k,fs,h=>match fs with
   |[]=>False
   |f::gs=>match Zq9 f with
    |none=>False
    |some (ops,fr,kk)=>ZBR (ZpN (fr.drop 1) ops.length (List.range ops.length)) fun σ=>ZaI A T l fn K F M k ({ f with todo:=.inReg (ZtE ops σ)::kk } ::gs) h
theorem Zgr{l:List Bool}{t d:Prop}(h:qB l t d):((∀ b∈l,b=true)∧t)∨d:=by
 induction l with
 |nil=>exact .inl ⟨fun b hb=>(by cases hb),h⟩
 |cons b l ih=>
  cases b with
  |false=>exact .inr h
  |true=>rcases ih h with⟨h1,h2⟩ |h1
         ·exact .inl ⟨fun b hb=>(by rcases List.mem_cons.1 hb with rfl |e;rfl;exact h1 b e),h2⟩
         ·exact .inr h1
section
variable {C:Ctx}{T:Tab}{l:List Ctr}{fn:FuncId}{Q:List AFrame→Zab→Prop}{K:KT}{F:FT}{M:MT}
theorem Zbk(hfol:C.P.follows .mixedOrders=true)(hT:Zbu C.P T)(hl:ZaK C.P l)
 (hK:∀p,K p→Ev C p.1 p.2 Q) (hF:∀r fr,F r fr→∀fs h,Zb3 fn r fr fs h→Q fs h) (hM:∀r e sz y,M r e sz y→∀fs h,ZGG fn e sz y r fs h→Q fs h):
 ∀(s:Sp) {fs:List AFrame} {h:Zab},ZaI std T l fn K F M s fs h→Ev C fs h Q
 | .no,fs,h,hg=>hg.elim
 | .hd,fs,h,hg=>by
   unfold ZaI at hg
   split at hg
   ·exact hg.elim
   ·rename_i p hp
    obtain⟨gs,h2⟩:=p
    exact ZoL hp (hK _ hg)
 | .fn,fs,h,hg=>by
   unfold ZaI at hg
   split at hg
   ·exact hg.elim
   ·rename_i g gs
    unfold ZDs at hg
    split at hg
    ·exact hg.elim
    ·split at hg
     ·exact hg.elim
     ·rename_i hr
      simp only[Bool.and_eq_true]at hr
      split at hg
      ·exact hg.elim
      ·rename_i hn
       split at hg
       ·exact hg.elim
       ·rename_i hd
        split at hg
        ·exact hg.elim
        ·rename_i b vs hc
         split at hg
         ·exact hg.elim
         ·rename_i r fr hex
          rcases Zgr hg with⟨h1,h2⟩ |h1
          ·have hb1:b=true:=h1 b List.mem_cons_self
           subst hb1
           exact .now (by simp) (hF r fr h2 _ _ ⟨g,vs,rfl,Nat.eq_of_beq_eq_true hr.2,hr.1,hn,hd,hc,hex⟩)
          ·exact h1.elim
 | .fm,fs,h,hg=>by
   unfold ZaI at hg
   split at hg
   ·exact hg.elim
   ·rename_i g gs
    unfold ZzD at hg
    split at hg
    ·exact hg.elim
    ·split at hg
     ·exact hg.elim
     ·rename_i hr
      simp only[Bool.and_eq_true]at hr
      split at hg
      ·exact hg.elim
      ·rename_i hn
       split at hg
       ·exact hg.elim
       ·rename_i hd
        split at hg
        ·exact hg.elim
        ·rename_i b vs hc
         split at hg
         ·rename_i e sz y hbk
          split at hg
          ·rename_i hp
           simp only[Bool.and_eq_true]at hp
           rcases Zgr hg with⟨h1,h2⟩ |h1
           ·have hb1:b=true:=h1 b List.mem_cons_self
            subst hb1
            exact .now (by simp) (hM _ e sz y h2 _ _ ⟨g,vs,rfl,Nat.eq_of_beq_eq_true hr.2,hr.1,hn,hd,hc,rfl,hp.1,hbk,hp.2⟩)
           ·exact h1.elim
          ·exact hg.elim
         ·exact hg.elim
 | .run n k,fs,h,hg=>by
   unfold ZaI at hg
   split at hg
   ·exact hg.elim
   ·split at hg
    ·exact hg.elim
    ·rename_i acc f' fs' h' hs
     rcases Zgr hg with⟨h1,h2⟩ |h1
     ·exact(ZbS hfol hT hl n _ _ _ _ hs h1 (Zbk hfol hT hl hK hF hM k h2)).2
     ·exact h1.elim
 | .alt p k r,fs,h,hg=>by
   unfold ZaI at hg
   split at hg
   ·exact hg.elim
   ·split at hg
    ·exact hg.elim
    ·rename_i pa' acc f' fs' h' hs
     rcases Zgr hg with⟨h1,h2⟩ |h1
     ·exact(Zhg hfol hT hl _ _ _ _ _ hs h1 (Zbk hfol hT hl hK hF hM k h2)).2
     ·exact Zbk hfol hT hl hK hF hM r h1
 | .any k,fs,h,hg=>by
   unfold ZaI at hg
   split at hg
   ·exact hg.elim
   ·rename_i f gs
    split at hg
    ·exact hg.elim
    ·rename_i ops fr kk ha
     unfold Zq9 at ha
     split at ha
     ·cases ha
     ·rename_i hr
      split at ha
      ·rename_i fr' ops' kk' ht
       split at ha
       ·rename_i hany
        cases ha
        exact Zme hfol hany hr ht fun σ hσ=>Zbk hfol hT hl hK hF hM k (Zmy hg σ hσ)
       ·cases ha
      ·cases ha
end
def bB(b:Bool)(t d:Prop):Prop:=qB [b] t (qB [!b] d False)
def rB(l:List Bool)(t:Prop):Prop:=qB l t False
@[simp] theorem ZDv (t d:Prop):qB [] t d=t:=rfl
@[simp] theorem ZC9 (a b:List AV):std.appA a b=a++b:=rfl
@[simp] theorem ZD0 (l:List AV) (j:Nat) (x:AV):std.setA l j x=l.set j x:=rfl
@[simp] theorem ZD8 (l:List AV) (k n:Nat):std.subA l k n=(l.drop k).take n:=rfl
@[simp] theorem ZDP (n:Nat) (x:AV):std.repA n x=List.replicate n x:=rfl
@[simp] theorem ZBS (b:Bool) (l:List Bool) (t d:Prop):qB (b::l) t d=if b=true then qB l t d else d:=by cases b<;>rfl
theorem ZlX:∀(l:List Bool) (t:Prop),qB l t False=(AllT l∧t)
 |[],t=>by simp[qB]
 |b::l,t=>by
  rw[ZBS,ZlX l]
  cases b<;>simp
@[simp] theorem ZnP (b:Bool) (t d:Prop):bB b t d=if b=true then t else d:=by cases b<;>simp[bB,qB]
@[simp] theorem Zty (l:List Bool) (t:Prop):rB l t=(AllT l∧t):=ZlX l t
inductive Wk:AV→AV→Prop
 |nil (r:Row) (h:r.elems=[]):Wk .nils (.list r)
 |emp (r:Row) (h:r.elems=[]):Wk .emp (.list r)
 |same (v:AV):Wk v v
 |agg (xs ys:List AV) (hl:xs.length=ys.length) (h:∀(j:Nat) (x y:AV),xs[j]? =some x→ys[j]? =some y→Wk x y):Wk (.agg (.gen xs)) (.agg (.gen ys))
 |tup (xs ys:List AV) (hl:xs.length=ys.length) (h:∀(j:Nat) (x y:AV),xs[j]? =some x→ys[j]? =some y→Wk x y):Wk (.tup xs) (.tup ys)
def WkA:List AV→List AV→Prop
 |[],[]=>True
 |x::xs,y::ys=>Wk x y∧WkA xs ys
 |_,_=>False
theorem WkA.spec:∀ {xs ys:List AV},WkA xs ys→xs.length=ys.length∧∀(j:Nat) (x y:AV),xs[j]? =some x→ys[j]? =some y→Wk x y
 |[],[],_=>⟨rfl,fun j x y h=>by simp at h⟩
 |x::xs,y::ys,h=>by
  obtain⟨h1,h2⟩:=h
  obtain⟨e1,e2⟩:=WkA.spec h2
  refine⟨by simp[e1],fun j u v hu hv=>?_⟩
  cases j with
  |zero=>simp at hu hv;subst hu;subst hv;exact h1
  |succ j=>exact e2 j u v (by simpa using hu) (by simpa using hv)
theorem Wk.agg'{xs ys:List AV}(h:WkA xs ys):Wk (.agg (.gen xs)) (.agg (.gen ys)):=.agg _ _ h.spec.1 h.spec.2
theorem Wk.rel{w:World}{ok:Nat→Prop}{h:Zab}{L:Lay}{v v':AV}(hw:Wk v v'):∀ {x:Value},Rel w ok h L v x→Rel w ok h L v' x:=by
 induction hw with
 |nil r h=>intro x hr;cases hr with |nils=>exact .nil r none 0 h
 |emp r h=>intro x hr;cases hr with |emp ad=>exact .nil r (some ad) 0 h
 |same=>intro x hr;exact hr
 |agg xs ys hl _ ih=>
  intro x hr
  cases hr with
  |agg _ xs' hx vs hlv h1 hrr=>
   have hx:xs=xs':=hx.symm
   subst hx
   refine .agg _ ys rfl vs (by rw[←hl];exact hlv) h1 (fun j u v hu hv=>?_)
   have hj:j<xs.length:=by rw[hl];exact(List.getElem?_eq_some_iff.1 hu).1
   exact ih j _ u (List.getElem?_eq_getElem hj) hu (hrr j _ v (List.getElem?_eq_getElem hj) hv)
 |tup xs ys hl _ ih=>
  intro x hr
  cases hr with
  |tup _ vs hlv hrr=>
   refine .tup ys vs (by rw[←hl];exact hlv) (fun j u v hu hv=>?_)
   have hj:j<xs.length:=by rw[hl];exact(List.getElem?_eq_some_iff.1 hu).1
   exact ih j _ u (List.getElem?_eq_getElem hj) hu (hrr j _ v (List.getElem?_eq_getElem hj) hv)
def Zwm(fn:FuncId)(r:AV)(fr:Option Fresh)(fs:List AFrame)(h:Zab):Prop:=∃r',Wk r' r∧Zb3 fn r' fr fs h
theorem Zk8{P:Program}{T:Tab}(hT:Zbu P T){f:FuncId}{args:List AV}{af:AFrame}{r:AV}{fr:Option Fresh}(he:Zat T f args=some af)
 (hq:∀w okA cs,Ev (Ctx.of P w okA cs) [af] [] (Zwm f r fr)):Zan P f args r fr:=by
 intro w okA L vs hargs hok cs
 have H0:HRel (Ctx.of P w okA cs) [] L w:=⟨Below.refl _ _,fun _ _ ht=>absurd rfl ht,fun _ _=>trivial,fun _ _ _ _ ht=>absurd rfl ht,fun _ _ ht=>absurd rfl ht,fun _ _ _=>rfl,Nat.le_refl _⟩
 obtain⟨hfr,_⟩:=ZdH (C:=(Ctx.of P w okA cs)) (h:=[]) (L:=L) (w:=w) hT he (by
  refine⟨hargs.1,fun j u v hu hv=>(hargs.2 j u v hu hv).okmono (fun g hg ho=>.inl ⟨hok g ho,ho⟩)⟩)
 obtain⟨fs',h',L',fr',cs',w',⟨r',hwk,g,us,rfl,hfn,hret,hrnd,hdefs,hc,hex⟩,_,hf',H',hst,_⟩:=hq w okA cs L _ cs w (.cons hfr .base) H0 (by simp)
 cases hf' with
 |cons hf' hk=>
  cases hk
  obtain⟨fn,hfn',hmr⟩:=hf'.res hrnd
  obtain⟨vs0,hc0,hwl⟩:∃vs0,Zei std g.env h' g.res=some (true,vs0)∧ZbU std h' vs0=(true,us):=by
   unfold ZkX at hc
   split at hc
   ·rename_i b vs hq
    generalize hz:ZbU std h' vs=z at hc
    obtain⟨c,us'⟩:=z
    simp only[Option.some.injEq,Prod.mk.injEq,std_and]at hc
    obtain⟨⟨rfl,rfl⟩,rfl⟩:=hc
    exact⟨vs,hq,hz⟩
   ·cases hc
  obtain⟨x,e1,e2⟩:=ZcV H' hf'.env hmr hc0
  replace e2:=Ze3 H' hwl e2
  obtain⟨L2,H2,r2⟩:=ZdF H' e2 hex
  have hnew:Zgj fr=false:=by
   cases fr with
   |none=>rfl
   |some f=>
    have hbr:=H2.blks 0 0
    rw[show blk (Zax (some f)) 0 0=.row f.e f.sz f.r from rfl]at hbr
    have:=hbr.1
    show Nat.beq f.sz 0=false
    cases hb:Nat.beq f.sz 0 with
    |false=>rfl
    |true=>have:=Nat.eq_of_beq_eq_true hb;omega
  refine⟨.returned x,w',fr',⟨x,L2,rfl,H2.below,by unfold ZmU;rw[hnew];exact⟨⟨H2.below,H2.live,H2.blks,H2.inj,H2.home,H2.low,H2.base⟩,hwk.rel r2⟩⟩,hst,hf'.fn.trans hfn,?_⟩
  rcases hf'.mode with⟨_,hm⟩ |⟨e,_⟩
  ·refine⟨hm,?_,hf'.kind,fn,?_,e1⟩
   ·obtain⟨gs,g1,g2,_⟩:=hf'.defs
    rw[hdefs]at g2
    rw[g1,List.eq_nil_of_length_eq_zero g2];rfl
   ·rw[hf'.fn];exact hfn'
  ·rw[hret]at e;cases e
def ZmP(fn:FuncId)(r:AV)(fs:List AFrame)(h:Zab):Prop:=∃r' r'' fr',Wk r' r''∧Frz fr' r'' r∧Zgj fr'=false∧Zb3 fn r' fr' fs h
theorem ZvY{P:Program}{w w':World}{okA:Nat→Prop}{L':Lay}{fr:Option Fresh}(H:HRel (Ctx.of P w okA []) (Zax fr) L' w'){r r':AV}{x:Value}(hs:Frz fr r r')(hr:ZaC (Ctx.of P w okA []) (Zax fr) L' w' r x):ZaC (Ctx.of P w (fun _=>False) []) [] L' w' r' x:=by
 cases hs with
 |one hs=>exact Zgm H hs hr
 |tup hs=>
  obtain⟨e1,e2⟩:=hs.spec
  cases hr with
  |tup xs vs hl hrr=>
   refine .tup _ vs (by rw[←e1];exact hl) (fun j u v hu hv=>?_)
   obtain⟨q,q1,q2⟩:=e2 j u hu
   exact Zgm H q2 (hrr j q v q1 hv)
theorem ZkH{P:Program}{T:Tab}(hT:Zbu P T){f:FuncId}{args:List AV}{af:AFrame}{r:AV}(he:Zat T f args=some af)
 (hq:∀w okA cs,Ev (Ctx.of P w okA cs) [af] [] (ZmP f r)):Zan P f args r Zl2:=by
 intro w okA L vs hargs hok cs
 have H0:HRel (Ctx.of P w okA cs) [] L w:=⟨Below.refl _ _,fun _ _ ht=>absurd rfl ht,fun _ _=>trivial,fun _ _ _ _ ht=>absurd rfl ht,fun _ _ ht=>absurd rfl ht,fun _ _ _=>rfl,Nat.le_refl _⟩
 obtain⟨hfr,_⟩:=ZdH (C:=(Ctx.of P w okA cs)) (h:=[]) (L:=L) (w:=w) hT he (by
  refine⟨hargs.1,fun j u v hu hv=>(hargs.2 j u v hu hv).okmono (fun g hg ho=>.inl ⟨hok g ho,ho⟩)⟩)
 obtain⟨fs',h',L',fr',cs',w',⟨r',r'',fr,hwk,hfz,hnew,g,us,rfl,hfn,hret,hrnd,hdefs,hc,hex⟩,_,hf',H',hst,_⟩:=hq w okA cs L _ cs w (.cons hfr .base) H0 (by simp)
 cases hf' with
 |cons hf' hk=>
  cases hk
  obtain⟨fn,hfn',hmr⟩:=hf'.res hrnd
  obtain⟨vs0,hc0,hwl⟩:∃vs0,Zei std g.env h' g.res=some (true,vs0)∧ZbU std h' vs0=(true,us):=by
   unfold ZkX at hc
   split at hc
   ·rename_i b vs hq
    generalize hz:ZbU std h' vs=z at hc
    obtain⟨c,us'⟩:=z
    simp only[Option.some.injEq,Prod.mk.injEq,std_and]at hc
    obtain⟨⟨rfl,rfl⟩,rfl⟩:=hc
    exact⟨vs,hq,hz⟩
   ·cases hc
  obtain⟨x,e1,e2⟩:=ZcV H' hf'.env hmr hc0
  replace e2:=Ze3 H' hwl e2
  obtain⟨L2,H2,r2⟩:=ZdF H' e2 hex
  refine⟨.returned x,w',fr',⟨x,L2,rfl,H2.below,ZvY ⟨H2.below,H2.live,H2.blks,H2.inj,H2.home,H2.low,H2.base⟩ hfz (hwk.rel r2)⟩,hst,hf'.fn.trans hfn,?_⟩
  rcases hf'.mode with⟨_,hm⟩ |⟨e,_⟩
  ·refine⟨hm,?_,hf'.kind,fn,?_,e1⟩
   ·obtain⟨gs,g1,g2,_⟩:=hf'.defs
    rw[hdefs]at g2
    rw[g1,List.eq_nil_of_length_eq_zero g2];rfl
   ·rw[hf'.fn];exact hfn'
  ·rw[hret]at e;cases e
end Go.Proofs.YtkeoeooghhjibaaGreatDoor
