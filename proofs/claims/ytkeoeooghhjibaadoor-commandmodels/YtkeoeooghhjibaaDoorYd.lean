/- Guided runs: where the way hangs on a letter, a list of choices says which way is taken. No condition. -/
import Derived.Test.YtkeoeooghhjibaaDoorXw
namespace Go.Proofs.YtkeoeooghhjibaaDoor
open Go.RowKit (Below)
def Zts:List (Nat×AV)→Nat→AV→List (Nat×AV)
 |[],_,_=>[]
 |(i,x)::l,t,y=>match Nat.beq i t with |true=>(i,y)::l |false=>(i,x)::Zts l t y
theorem ZhV:∀ {env:List (Nat×AV)} {t:Nat} {v:AV},ZaE env t=some v→Zts env t v=env
 |[],t,v,h=>by cases h
 |(i,x)::l,t,v,h=>by
  simp only[ZaE]at h
  simp only[Zts]
  split
  ·rename_i hb;rw[hb]at h;cases h;rfl
  ·rename_i hb;rw[hb]at h;rw[ZhV h]
def asB(p b:Bool):Bool:=match p with |true=>b |false=>!b
theorem ZnN{p b:Bool}(h:asB p b=true):b=p:=by cases p<;>cases b<;>first |rfl |cases h
abbrev ZfN:=List (Nat×AV)
def Zl5(env:ZfN)(pa acc:List Bool)(t:Nat):Option (List Bool×List Bool×ZfN):=
 match ZaE env t with
 |some v=>(match v with
  | .bool b=>(match pa with
    |p::ps=>some (ps,asB p b::acc,Zts env t (.bool p))
    |[]=>none)
  |_=>some (pa,acc,env))
 |none=>some (pa,acc,env)
theorem Zl6{env env':ZfN}{pa pa' acc acc':List Bool}{t:Nat}(h:Zl5 env pa acc t=some (pa',acc',env'))(hb:∀b∈acc',b=true):env'=env∧∀b∈acc,b=true:=by
 unfold Zl5 at h
 split at h
 ·rename_i v hv
  split at h
  ·rename_i b
   split at h
   ·rename_i p ps
    cases h
    have:=ZnN (hb _ List.mem_cons_self)
    subst this
    exact⟨ZhV hv,fun b hb'=>hb b (List.mem_cons_of_mem _ hb')⟩
   ·cases h
  ·cases h;exact⟨rfl,hb⟩
 ·cases h;exact⟨rfl,hb⟩
def inN(t:Nat):List Nat→Bool
 |[]=>false
 |x::l=>match Nat.beq x t with |true=>true |false=>inN t l
def Zxt(d:Option Nat)(l:List Nat):List Nat:=match d with |none=>l |some t=>l.filter fun x=>!Nat.beq x t
abbrev Zu7:=Option (List Bool×List Bool×ZfN×List Nat)
def Zhe(st:List Nat)(env:ZfN)(pa acc:List Bool)(t:Nat):Zu7:=
 match inN t st with
 |true=>some (pa,acc,env,st)
 |false=>match Zl5 env pa acc t with
  |none=>none
  |some (pa',acc',env')=>some (pa',acc',env',t::st)
theorem Zd1{st st':List Nat}{env env':ZfN}{pa pa' acc acc':List Bool}{t:Nat}(h:Zhe st env pa acc t=some (pa',acc',env',st'))(hb:∀b∈acc',b=true):env'=env∧∀b∈acc,b=true:=by
 unfold Zhe at h
 split at h
 ·cases h;exact⟨rfl,hb⟩
 ·split at h
  ·cases h
  ·rename_i hs;cases h;exact Zl6 hs hb
def ZgY(st:List Nat)(k:OpK)(env:ZfN)(pa acc:List Bool):Zu7:=
 match k with
 | .pick c _ _=>(match c with | .t n=>Zhe st env pa acc n | .c _=>some (pa,acc,env,st))
 |_=>some (pa,acc,env,st)
theorem ZfW{st st':List Nat}{k:OpK}{env env':ZfN}{pa pa' acc acc':List Bool}(h:ZgY st k env pa acc=some (pa',acc',env',st'))(hb:∀b∈acc',b=true):env'=env∧∀b∈acc,b=true:=by
 unfold ZgY at h
 split at h
 ·split at h
  ·exact Zd1 h hb
  ·cases h;exact⟨rfl,hb⟩
 ·cases h;exact⟨rfl,hb⟩
def ZgN(st:List Nat)(o:AOp)(env:ZfN)(pa acc:List Bool):Zu7:=
 match o.g with
 |none=>ZgY st o.k env pa acc
 |some p=>match Zhe st env pa acc p.1 with
  |none=>none
  |some (pa1,acc1,env1,st1)=>match Zeq o env1 with
   |some g=>(match g with |true=>ZgY st1 o.k env1 pa1 acc1 |false=>some (pa1,acc1,env1,st1))
   |none=>none
theorem ZdJ{st st':List Nat}{o:AOp}{env env':ZfN}{pa pa' acc acc':List Bool}(h:ZgN st o env pa acc=some (pa',acc',env',st'))(hb:∀b∈acc',b=true):env'=env∧∀b∈acc,b=true:=by
 unfold ZgN at h
 split at h
 ·exact ZfW h hb
 ·split at h
  ·cases h
  ·rename_i pa1 acc1 env1 st1 hs
   split at h
   ·split at h
    ·obtain⟨e1,h1⟩:=ZfW h hb
     obtain⟨e2,h2⟩:=Zd1 hs h1
     exact⟨e1.trans e2,h2⟩
    ·cases h;exact Zd1 hs hb
   ·cases h
structure Ctr where
 f:FuncId
 n:Nat
 run:List Bool→List AV→Option (Bool×AV×Option Fresh)
def Zol(P:Program)(f:FuncId)(args:List AV)(r:AV)(fr:Option Fresh):Prop:=
 match Nat.blt f 1000000 with
 |true=>Zas P f args r fr
 |false=>∀x rest fs,args=.list x::rest→fr=some fs→Ztn P (f-1000000) fs.e fs.sz x fs.r rest r
def Ctr.OK(P:Program)(c:Ctr):Prop:=∀pa args r fr,c.run pa args=some (true,r,fr)→Zol P c.f args r fr
def ZkG:List Ctr→List Bool→Con
 |[],_,_,_=>none
 |c::l,pa,f,args=>match Nat.beq c.f f with
  |true=>(match Nat.blt f 1000000 with
   |true=>(match c.run pa args with |some r=>some r |none=>ZkG l pa f args)
   |false=>none)
  |false=>ZkG l pa f args
def Zrx:List Ctr→List Bool→FuncId→List AV→Option (Bool×AV×Option Fresh)
 |[],_,_,_=>none
 |c::l,pa,f,args=>match Nat.beq c.f (f+1000000)with
  |true=>(match c.run pa args with |some r=>some r |none=>Zrx l pa f args)
  |false=>Zrx l pa f args
def ZvX:List Ctr→FuncId→Nat
 |[],_=>0
 |c::l,f=>match Nat.beq c.f f with |true=>c.n |false=>ZvX l f
def Za2(P:Program):List Ctr→Prop
 |[]=>True
 |c::l=>c.OK P∧Za2 P l
theorem ZeQ{P:Program} :∀ {l:List Ctr},Za2 P l→∀pa,ZdP P (ZkG l pa)
 |[],_,pa=>fun f args r fr h=>by cases h
 |c::l,⟨h1,h2⟩,pa=>fun f args r fr h=>by
  simp only[ZkG]at h
  split at h
  ·rename_i e
   have e:c.f=f:=Nat.eq_of_beq_eq_true e
   split at h
   ·rename_i hlt
    split at h
    ·rename_i q hq
     cases h
     have:=h1 _ _ _ _ hq
     unfold Zol at this
     rw[e,hlt]at this
     exact this
    ·exact ZeQ h2 pa f args r fr h
   ·cases h
  ·exact ZeQ h2 pa f args r fr h
theorem Zg5{P:Program} :∀ {l:List Ctr},Za2 P l→∀ {pa:List Bool} {f:FuncId} {x:Row} {rest:List AV} {r:AV} {fs:Fresh},Zrx l pa f (.list x::rest)=some (true,r,some fs)→Ztn P f fs.e fs.sz x fs.r rest r
 |[],_,pa,f,x,rest,r,fs,h=>by cases h
 |c::l,⟨h1,h2⟩,pa,f,x,rest,r,fs,h=>by
  simp only[Zrx]at h
  split at h
  ·rename_i e
   have e:c.f=f+1000000:=Nat.eq_of_beq_eq_true e
   split at h
   ·rename_i q hq
    cases h
    have:=h1 _ _ _ _ hq
    unfold Zol at this
    have hb:Nat.blt c.f 1000000=false:=ZbE (by rw[e];exact Nat.le_add_left _ _)
    rw[hb]at this
    have h3:=this x rest fs rfl rfl
    rw[e,Nat.add_sub_cancel]at h3
    exact h3
   ·exact Zg5 h2 h
  ·exact Zg5 h2 h
theorem Zh9{α:Type}(t:Nat)(x y:α):∀l:List (Nat×α),Zck (Zck l t x) t y=Zck l t y
 |[]=>by have:Nat.beq t t=true:=by simp
         simp only[Zck,this]
 |(i,z)::l=>by
  have ht:Nat.beq t t=true:=by simp
  cases hb:Nat.beq i t with
  |true=>simp only[Zck,hb]
  |false=>cases hl:Nat.blt t i with
   |true=>simp only[Zck,hb,hl,ht]
   |false=>simp only[Zck,hb,hl,Zh9 t x y l]
def ZoQ:AV→Option Nat
 | .slc _ _ k n c=>(match Nat.beq k 0,c with |true,none=>some n |_,_=>none)
 |_=>none
theorem ZkH{r:AV}{n a i:Nat}(h:ZoQ r=some n):Zsf a i r=.slc a i 0 n none:=by
 unfold ZoQ at h
 split at h
 ·rename_i b j k m c
  split at h
  ·rename_i hk
   have:=Nat.eq_of_beq_eq_true hk
   subst this
   cases h;rfl
  ·cases h
 ·cases h
def Zu0(A:Ar)(l:List Ctr)(pa:List Bool)(env:ZfN)(h:Zab)(o:AOp):Option (Bool×AV×Zab):=
 match o.g with
 |some _=>none
 |none=>match o.k with
  | .ncall _ _ g args=>match args.map (Za8 (ZaE env))with
    |v::rest=>match v with
     | .row a i=>match blk h a i with
       | .row e sz x=>match AV.pureL rest&&x.pure with
         |true=>match Zrx l pa g (.list x::rest)with
          |some (b,r,some fs)=>match fs.r.pure&&ZoB r with
           |true=>(match ZoQ r,ZjC a,o.d with
            |some n,false,some _=>some (Zag (Nat.ble n (fs.r.len A)) (Zag b (Zag (Nat.beq fs.e e) (Nat.beq fs.sz sz))), .row a (nxt (ZaS h a i (.row e sz fs.r)) a),Zah (ZaS (ZaS h a i (.row e sz fs.r)) a i .dead) a (.row e sz (fs.r.sub A 0 n)))
            |_,_,_=>some (Zag b (Zag (Nat.beq fs.e e) (Nat.beq fs.sz sz)),Zsf a i r,ZaS h a i (.row e sz fs.r)))
           |false=>none
          |_=>none
         |false=>none
       |_=>none
     |_=>none
    |[]=>none
  |_=>none
theorem Zqe{C:Ctx}{l:List Ctr}{pa:List Bool}{h h':Zab}{Q:List AFrame→Zab→Prop}{f:AFrame}{fs:List AFrame}{k:List AItem}{o:AOp}{os:List AOp}{r:AV}(hl:Za2 C.P l)(hr:f.ret=false)(ht:f.todo=.inReg (o::os)::k)(hm:Zu0 std l pa f.env h o=some (true,r,h'))
 (hq:Ev C ({ f with env:=Zj0 f.env o.d r,todo:=.inReg os::k } ::fs) h' Q):Ev C (f::fs) h Q:=by
 unfold Zu0 at hm
 split at hm
 ·cases hm
 ·rename_i hg
  split at hm
  ·rename_i mm a0 g args hk
   split at hm
   ·rename_i v rest ha
    split at hm
    ·rename_i a i
     split at hm
     ·rename_i e sz x hb
      split at hm
      ·rename_i hp
       split at hm
       ·rename_i b r0 fs0 hc
        split at hm
        ·rename_i hp2
         simp only[Bool.and_eq_true]at hp hp2
         split at hm
         ·rename_i n d hpm hfz hd
          simp only[Option.some.injEq,Prod.mk.injEq,std_and]at hm
          obtain⟨⟨hle,rfl,he,hs⟩,rfl,rfl⟩:=hm
          have he:fs0.e=e:=by simpa[std]using he
          have hs:fs0.sz=sz:=by simpa[std]using hs
          have hle:n≤fs0.r.elems.length:=by rw[Row.len_std]at hle;simpa[std]using hle
          have hmu:=Zg5 hl hc
          rw[he,hs]at hmu
          have hnd:blk h a i≠ .dead:=by rw[hb];simp
          refine ZjI hr ht hg hk ha hb hp.2 hp2.1 hp.1 hp2.2 hmu ?_
          rw[ZkH hpm]
          refine Zm7 (t:=d) (a:=a) (i:=i) (e:=e) (sz:=sz) (n:=n) (r:=fs0.r) ?_ (by rw[Zch hnd,if_pos ⟨rfl,rfl⟩]) hfz hle ?_
          ·simp only[hd,Zj0,ZbH,if_true]
          ·simp only[hd,Zj0,Zh9]at hq⊢
           exact hq
         ·simp only[Option.some.injEq,Prod.mk.injEq,std_and]at hm
          obtain⟨⟨rfl,he,hs⟩,rfl,rfl⟩:=hm
          have he:fs0.e=e:=by simpa[std]using he
          have hs:fs0.sz=sz:=by simpa[std]using hs
          have hmu:=Zg5 hl hc
          rw[he,hs]at hmu
          exact ZjI hr ht hg hk ha hb hp.2 hp2.1 hp.1 hp2.2 hmu hq
        ·cases hm
       ·cases hm
      ·cases hm
     ·cases hm
    ·cases hm
   ·cases hm
  ·cases hm
def Zox(o:AOp)(env:ZfN):Option FuncId:=
 match o.k with
 | .ncall _ _ f _=>some f
 | .ncallv _ _ x _=>(match Zoe (Za8 (ZaE env) x) []with |some (f,_)=>some f |none=>none)
 |_=>none
def ZhX(l:List Ctr)(o:AOp)(env:ZfN)(pa:List Bool):List Bool:=
 match Zox o env with
 |none=>pa
 |some f=>match Zeq o env with
  |some g=>(match g with |true=>pa.drop (ZvX l f) |false=>pa)
  |none=>pa
def ZgL(A:Ar)(T:Tab)(l:List Ctr):List AOp→List Nat→List Bool→List Bool→ZfN→Zab→Option (List Bool×List Bool×ZfN×Zab×List Foot)
 |[],_,pa,acc,env,h=>some (pa,acc,env,h,[])
 |o::os,st,pa,acc,env,h=>match ZgN st o env pa acc with
  |none=>none
  |some (pa1,acc1,env1,st1)=>match Zd3 A T (ZkG l pa1) o env1 h with
   |none=>none
   |some (b,r,h1)=>match ZgL A T l os (Zxt o.d st1) (ZhX l o env1 pa1) (b::acc1) (Zj0 env1 o.d r) h1 with
    |none=>none
    |some (pa2,acc2,env2,h2,zs)=>some (pa2,acc2,env2,h2,Zgx env1 h o::zs)
def Zjq(fr:List (Nat×Nat))(zs:List Foot):Bool:=match fr with |[]=>true |fr=>Zj6 zs fr
abbrev Zqh:=Option (List Bool×List Bool×AFrame×List AFrame×Zab)
def Zhi(pa:List Bool):Zlw→Zqh
 |none=>none
 |some (acc,f,fs,h)=>some (pa,acc,f,fs,h)
def Zwh(A:Ar)(T:Tab)(l:List Ctr)(pa acc:List Bool)(f:AFrame)(k:List AItem)(fs:List AFrame)(h:Zab)(fr:List (Nat×Nat))(ops:List AOp):Zqh:=
 match ZhG fr with
 |true=>none
 |false=>match ZhW ops with
  |false=>(match ZgL A T l ops [] pa acc f.env h with
   |none=>none
   |some (pa',acc',env',h',zs)=>match Zjq fr zs with
    |true=>some (pa',acc',{ f with env:=env',todo:=k },fs,h')
    |false=>none)
  |true=>match ZgL A T l (ops.take (Zb3 ops)) [] pa acc f.env h with
   |none=>none
   |some (pa',acc',env',h',zs)=>match Zjq fr zs with
    |true=>some (pa',acc',{ f with env:=env',todo:=.inReg (ops.drop (Zb3 ops))::k },fs,h')
    |false=>none
def opG(A:Ar)(T:Tab)(l:List Ctr)(pa acc:List Bool)(o:AOp)(os:List AOp)(f:AFrame)(k:List AItem)(fs:List AFrame)(h:Zab):Zqh:=
 match Zu0 A l pa f.env h o with
 |some (b,r,h2)=>some (pa,b::acc,{ f with env:=Zj0 f.env o.d r,todo:=.inReg os::k },fs,h2)
 |none=>match ZgN [] o f.env pa acc with
 |none=>none
 |some (pa1,acc1,env1,_)=>match opA A T (ZkG l pa1) acc1 o os { f with env:=env1 } k fs h with
  |none=>none
  |some (acc2,f2,fs2,h2)=>some (ZhX l o env1 pa1,acc2,f2,fs2,h2)
def ZrR(pa acc:List Bool)(f:AFrame)(k:List AItem)(fs:List AFrame)(h:Zab)(v:AV)(a b:ACode):Zqh:=
 match v with
 | .bool t=>(match pa with
   |p::ps=>some (ps,asB p t::acc,{ f with todo:=.code (Zvc p a b)::k },fs,h)
   |[]=>none)
 |_=>none
def Znh(A:Ar)(T:Tab)(l:List Ctr)(pa acc:List Bool)(f:AFrame)(fs:List AFrame)(h:Zab):Zqh:=
 match f.ret with
 |true=>Zhi pa (Zez A T (ZkG l pa) acc f fs h)
 |false=>match f.todo with
  |[]=>Zhi pa (Zez A T (ZkG l pa) acc f fs h)
  |it::k=>match it with
   | .inReg os=>(match os with
     |[]=>Zhi pa (Zez A T (ZkG l pa) acc f fs h)
     |o::os=>opG A T l pa acc o os f k fs h)
   | .code c=>(match c with
     | .cond c a b=>ZrR pa acc f k fs h (Za8 (ZaE f.env) c) a b
     | .reg d ops=>(match d with
       |some fr=>Zwh A T l pa acc f k fs h fr ops
       |none=>Zhi pa (Zez A T (ZkG l pa) acc f fs h))
     |_=>Zhi pa (Zez A T (ZkG l pa) acc f fs h))
   |_=>Zhi pa (Zez A T (ZkG l pa) acc f fs h)
def ZeZ(A:Ar)(T:Tab)(l:List Ctr):Nat→List Bool→List Bool→AFrame→List AFrame→Zab→Option ASt
 |0,_,acc,f,fs,h=>some (acc,f,fs,h)
 |n+1,pa,acc,f,fs,h=>match Znh A T l pa acc f fs h with
  |none=>none
  |some (pa',acc',f',fs',h')=>ZeZ A T l n pa' acc' f' fs' h'
section
variable {C:Ctx}{T:Tab}{l:List Ctr}{h h':Zab}{f f':AFrame}{fs fs':List AFrame}{k:List AItem}{Q:List AFrame→Zab→Prop}{pa pa' acc acc':List Bool}
theorem Zdo:∀ {os:List AOp} {st:List Nat} {pa pa' acc acc':List Bool} {env env':ZfN} {h h':Zab} {zs:List Foot},ZgL std T l os st pa acc env h=some (pa',acc',env',h',zs)→(∀b∈acc',b=true)→∀b∈acc,b=true
 |[],st,pa,pa',acc,acc',env,env',h,h',zs,hd,hb=>by simp only[ZgL,Option.some.injEq,Prod.mk.injEq]at hd;obtain⟨_,rfl,_⟩:=hd;exact hb
 |o::os,st,pa,pa',acc,acc',env,env',h,h',zs,hd,hb=>by
  simp only[ZgL]at hd
  split at hd
  ·cases hd
  ·rename_i hs
   split at hd
   ·cases hd
   ·split at hd
    ·cases hd
    ·rename_i hr
     cases hd
     have:=Zdo hr hb
     exact(ZdJ hs (fun b hb'=>this b (List.mem_cons_of_mem _ hb'))).2
theorem Zdc(hT:Zbj C.P T)(hl:Za2 C.P l):∀ {os:List AOp} {st:List Nat} {pa pa' acc acc':List Bool} {env env':ZfN} {h h':Zab} {zs:List Foot},ZgL std T l os st pa acc env h=some (pa',acc',env',h',zs)→(∀b∈acc',b=true)→zs.map (·.o)=os∧Runs C.P zs (ZaE env) h (ZaE env') h'
 |[],st,pa,pa',acc,acc',env,env',h,h',zs,hd,_=>by simp only[ZgL,Option.some.injEq,Prod.mk.injEq]at hd;obtain⟨_,_,rfl,rfl,rfl⟩:=hd;exact⟨rfl, .nil _ _⟩
 |o::os,st,pa,pa',acc,acc',env,env',h,h',zs,hd,hb=>by
  simp only[ZgL]at hd
  split at hd
  ·cases hd
  ·rename_i pa1 acc1 env1 st1 hs
   split at hd
   ·cases hd
   ·rename_i b r h1 ho
    split at hd
    ·cases hd
    ·rename_i hr
     cases hd
     have ha:=Zdo hr hb
     obtain⟨i1,i2⟩:=Zdc hT hl hr hb
     obtain⟨e,_⟩:=ZdJ hs (fun b hb'=>ha b (List.mem_cons_of_mem _ hb'))
     subst e
     have hbt:=ha b List.mem_cons_self
     subst hbt
     rw[ZcG]at i2
     have:=Zcd hT (ZeQ hl pa1) ho
     exact⟨by simp[Zgx,i1], .cons ⟨this,fun x hx p hp=>by simp only[Zgx,List.mem_flatMap];exact⟨x,hx,hp⟩,ZhN this⟩ i2⟩
theorem ZfJ{fr:List (Nat×Nat)}{zs:List Foot}(hb:Zjq fr zs=true):∀(i j:Nat) (x z:Foot),(i,j)∈fr→zs[i]? =some x→zs[j]? =some z→Zj2 x z:=by
 unfold Zjq at hb
 split at hb
 ·intro i j x z hm;simp at hm
 ·exact Zej hb
def Zml(C:Ctx)(Q:List AFrame→Zab→Prop)(acc:List Bool)(f:AFrame)(fs:List AFrame)(h:Zab)(r:Zqh):Prop:=
 ∀pa' acc' f' fs' h',r=some (pa',acc',f',fs',h')→(∀b∈acc',b=true)→Ev C (f'::fs') h' Q→(∀b∈acc,b=true)∧Ev C (f::fs) h Q
theorem ZiX{r:Zlw}(hs:Zfh C Q acc f fs h r):Zml C Q acc f fs h (Zhi pa r):=by
 intro pa' acc' f' fs' h' he hb hq
 cases r with
 |none=>cases he
 |some p=>obtain⟨a,b,c,d⟩:=p;cases he;exact hs _ _ _ _ rfl hb hq
theorem Zfx(hfol:C.P.follows .mixedOrders=true)(hT:Zbj C.P T)(hl:Za2 C.P l):Zml C Q acc f fs h (Znh std T l pa acc f fs h):=by
 have base:Zml C Q acc f fs h (Zhi pa (Zez std T (ZkG l pa) acc f fs h)):=ZiX (ZeO hfol hT (ZeQ hl pa))
 unfold Znh
 split
 ·exact base
 ·rename_i hr
  split
  ·exact base
  ·rename_i it k ht
   split
   ·split
    ·exact base
    ·rename_i o os
     intro pa' acc' f' fs' h' he hb hq
     unfold opG at he
     split at he
     ·rename_i bm rm hm2 hmr
      cases he
      have hbt:=hb bm List.mem_cons_self
      subst hbt
      exact⟨fun b hb'=>hb b (List.mem_cons_of_mem _ hb'),Zqe hl hr ht hmr hq⟩
     split at he
     ·cases he
     ·rename_i pa1 acc1 env1 st1 hs
      split at he
      ·cases he
      ·rename_i acc2 f2 fs2 h2 ho
       cases he
       have key:(∀b∈acc1,b=true)→env1=f.env∧∀b∈acc,b=true:=fun h1=>ZdJ hs h1
       have hsd:=Zhn (Q:=Q) hT (ZeQ hl pa1) (f:={ f with env:=env1 }) (acc:=acc1) (fs:=fs) (h:=h) (k:=k) (o:=o) (os:=os) hr ht _ _ _ _ ho hb hq
       obtain⟨e,h3⟩:=key hsd.1
       refine⟨h3,?_⟩
       have:=hsd.2
       rw[e]at this
       exact this
   ·rename_i c
    split
    ·rename_i c a b
     intro pa' acc' f' fs' h' he hb hq
     unfold ZrR at he
     split at he
     ·rename_i t hc
      split at he
      ·rename_i p ps
       cases he
       have:=ZnN (hb _ List.mem_cons_self)
       subst this
       exact⟨fun b hb'=>hb b (List.mem_cons_of_mem _ hb'),ZiE hr ht hc (by cases t<;>exact hq)⟩
      ·cases he
     ·cases he
    ·split
     ·rename_i ops fr
      intro pa' acc' f' fs' h' he hb hq
      unfold Zwh at he
      split at he
      ·cases he
      rename_i hany
      split at he
      ·rename_i hni
       split at he
       ·cases he
       ·rename_i pa1 acc1 env1 h1 zs hd
        split at he
        ·rename_i hfree
         cases he
         obtain⟨d1,d2⟩:=Zdc hT hl hd hb
         have hc:=ZdO hni
         refine⟨Zdo hd hb,ZgX hfol hany hr ht (by rw[hc,List.take_length];exact d1) (fun i j x z hm hx hz _=>ZfJ hfree i j x z hm hx hz) d2 (fun _ _ e=>e) ?_⟩
         rw[hc,List.drop_length]
         exact Ze8 hr rfl hq
        ·cases he
      ·split at he
       ·cases he
       ·rename_i pa1 acc1 env1 h1 zs hd
        split at he
        ·rename_i hfree
         cases he
         obtain⟨d1,d2⟩:=Zdc hT hl hd hb
         exact⟨Zdo hd hb,ZgX hfol hany hr ht d1 (fun i j x z hm hx hz _=>ZfJ hfree i j x z hm hx hz) d2 (fun _ _ e=>e) hq⟩
        ·cases he
     ·exact base
    ·exact base
   ·exact base
theorem Zbr(hfol:C.P.follows .mixedOrders=true)(hT:Zbj C.P T)(hl:Za2 C.P l):∀(n:Nat) {pa acc:List Bool} {f:AFrame} {fs:List AFrame} {h:Zab},Zfh C Q acc f fs h (ZeZ std T l n pa acc f fs h)
 |0,pa,acc,f,fs,h=>by
  intro acc' f' fs' h' he hb hq
  simp only[ZeZ,Option.some.injEq,Prod.mk.injEq]at he
  obtain⟨rfl,rfl,rfl,rfl⟩:=he
  exact⟨hb,hq⟩
 |n+1,pa,acc,f,fs,h=>by
  intro acc' f' fs' h' he hb hq
  simp only[ZeZ]at he
  split at he
  ·cases he
  ·rename_i pa1 acc1 f1 fs1 h1 hs
   obtain⟨hb1,hq1⟩:=Zbr hfol hT hl n _ _ _ _ he hb hq
   exact Zfx hfol hT hl _ _ _ _ _ hs hb1 hq1
end
end Go.Proofs.YtkeoeooghhjibaaDoor
/- Tracked blocks are named anew: those that nothing names are dropped, the others are counted from 0. No condition. -/
namespace Go.Proofs.YtkeoeooghhjibaaDoor
open Go.RowKit (Below)
mutual
def AV.ren(σ:Nat→Nat→Option Nat):AV→AV
 | .ptr a i k o=>match σ a i with |some j=>.ptr a j k o |none=>.top
 | .row a i=>match σ a i with |some j=>.row a j |none=>.top
 | .slc a i k n c=>match σ a i with |some j=>.slc a j k n c |none=>.top
 | .aslc a i k o n=>match σ a i with |some j=>.aslc a j k o n |none=>.top
 | .yld a i=>match σ a i with |some j=>.yld a j |none=>.top
 | .mp a i=>match σ a i with |some j=>.mp a j |none=>.top
 | .emp=>.emp
 | .agg r=>.agg (Row.ren σ r)
 | .tup xs=>.tup (AV.renL σ xs)
 | .fn f xs=>.fn f (AV.renL σ xs)
 | .int k n=>.int k n
 | .bool b=>.bool b
 | .str s=>.str s
 | .flt k b=>.flt k b
 | .val v=>.val v
 | .nils=>.nils
 | .list r=>.list r
 | .eptr x o=>.eptr x o
 | .und=>.und
 | .top=>.top
def AV.renL(σ:Nat→Nat→Option Nat):List AV→List AV
 |[]=>[]
 |x::xs=>AV.ren σ x::AV.renL σ xs
def Row.ren(σ:Nat→Nat→Option Nat):Row→Row
 | .gen xs=>.gen (AV.renL σ xs)
 | .ints k l=>.ints k l
 | .flts k l=>.flts k l
 | .big sh xs=>.big sh xs
end
section
variable {σ:Nat→Nat→Option Nat}
theorem ZeL:∀xs:List AV,AV.renL σ xs=xs.map (AV.ren σ)
 |[]=>rfl
 |x::xs=>by rw[AV.renL,ZeL xs];rfl
theorem Zhl(s:Sh)(v:AV):AV.ren σ (s.view1 v)=s.view1 v:=by cases s<;>rfl
theorem ZhZ:∀(ss:List Sh) (i:Nat) (v:AV),AV.renL σ (Zde ss i v)=Zde ss i v
 |[],_,_=>rfl
 |s::ss,i,v=>by rw[Zde,AV.renL,Zhl,ZhZ ss]
theorem Znd(s:Sh)(v:AV):AV.ren σ (s.view v)=s.view v:=by
 cases s with
 |agg ss=>simp only[Sh.view,AV.ren,Row.ren,ZhZ]
 |_=>simp only[Sh.view];exact Zhl _ _
theorem ZbD(r:Row):(Row.ren σ r).elems=r.elems.map (AV.ren σ):=by
 cases r with
 |gen xs=>rw[Row.ren,Row.elems,Row.elems,ZeL]
 |ints k l=>rw[Row.ren,Row.elems,List.map_map];rfl
 |flts k l=>rw[Row.ren,Row.elems,List.map_map];rfl
 |big sh xs=>rw[Row.ren,Row.elems,List.map_map];exact List.map_congr_left fun v _=>(Znd sh v).symm
theorem Zjh(v:AV):(AV.ren σ v).flat=v.flat.map (AV.ren σ):=by
 cases v with
 |agg r=>simp only[AV.ren,AV.flat,ZbD]
 |ptr a i k o=>simp only[AV.ren];split<;>simp_all[AV.flat,AV.ren]
 |row a i=>simp only[AV.ren];split<;>simp_all[AV.flat,AV.ren]
 |slc a i k n c=>simp only[AV.ren];split<;>simp_all[AV.flat,AV.ren]
 |aslc a i k o n=>simp only[AV.ren];split<;>simp_all[AV.flat,AV.ren]
 |yld a i=>simp only[AV.ren];split<;>simp_all[AV.flat,AV.ren]
 |mp a i=>simp only[AV.ren];split<;>simp_all[AV.flat,AV.ren]
 |_=>rfl
theorem Ziu(xs:List AV):Zae (xs.map (AV.ren σ))=(Zae xs).map (AV.ren σ):=by
 induction xs with
 |nil=>rfl
 |cons x xs ih=>rw[List.map_cons,ZaA,ZaA,List.map_append,ih,Zjh]
end
structure Good (h:Zab) (L:Lay) (h':Zab) (L':Lay) (σ:Nat→Nat→Option Nat):Prop where
 fwd:∀a i j,σ a i=some j→j<nxt h' a∧(∀sz,(blk h' a j).tag=some sz→(blk h a i).tag=some sz)∧L'.loc a j=L.loc a i∧L'.size a j=L.size a i
 bwd:∀a j,(blk h' a j).tag≠none→∃i,(blk h a i).tag≠none∧L'.loc a j=L.loc a i
section
variable {C:Ctx}{h h':Zab}{L L':Lay}{w:World}{σ:Nat→Nat→Option Nat}{ok ok':Nat→Prop}
theorem Good.okk(G:Good h L h' L' σ){g:Nat}(ho:Zap C h L g):Zap C h' L' g:=by
 rcases ho with ho |⟨h1,h2⟩
 ·exact .inl ho
 ·refine .inr ⟨h1,fun a j ht e=>?_⟩
  obtain⟨i,hi,hl⟩:=G.bwd a j ht
  exact h2 a i hi (hl.symm.trans e)
theorem Live.ren(G:Good h L h' L' σ){a i j:Nat}(hs:σ a i=some j){p p':Nat→Nat×Nat→Prop}(hl:Live h L a i p)(hp:∀sz,L'.size a j=L.size a i→p (L.loc a i) sz→p' (L.loc a i) sz):Live h' L' a j p':=by
 obtain⟨g1,g2,g3,g4⟩:=G.fwd a i j hs
 exact⟨g1,fun sz ht=>by rw[g3];exact hp sz g4 (hl.2 sz (g2 sz ht))⟩
theorem Rel.ren(G:Good h L h' L' σ)(hok:∀g,ok g→ok' g){av:AV}{v:Value}(hr:Rel w ok h L av v):Rel w ok' h' L' (AV.ren σ av) v:=by
 induction hr with
 |int k n=>exact .int k n
 |bool b=>exact .bool b
 |str x=>exact .str x
 |flt k b=>exact .flt k b
 |val v=>exact .val v
 |nils=>exact .nils
 |nil r a c hr=>exact .nil r a c hr
 |list r xs hx ad n cap sz cs hb ho hn hcap hsz hl h1 hc hp hr ih=>
  exact .list r xs hx ad n cap sz cs hb (hok _ ho) hn hcap hsz hl h1 hc hp (fun j u v hu hv=>((hr j u v hu hv).okmono (fun g _ ho=>hok g ho)).pure (AV.pureL_mem hp hu))
 |eptr x off ad cs hs hb ho hl h1 hc hp hr ih=>
  exact .eptr x off ad cs hs hb (hok _ ho) hl h1 hc hp (fun j u v hu hv=>((hr j u v hu hv).okmono (fun g _ ho=>hok g ho)).pure (AV.pureL_mem hp hu))
 |agg r xs hx vs hl h1 hr ih=>
  rw[AV.ren]
  refine .agg _ (xs.map (AV.ren σ)) (by rw[ZbD,hx]) vs (by simpa using hl) h1 (fun j u v hu hv=>?_)
  rw[List.getElem?_map]at hu
  cases hxj:xs[j]? with
  |none=>rw[hxj]at hu;cases hu
  |some z=>rw[hxj]at hu;simp only[Option.map_some,Option.some.injEq]at hu;subst hu;exact ih j z v hxj hv
 |tup xs vs hl hr ih=>
  rw[AV.ren,ZeL]
  refine .tup _ vs (by simpa using hl) (fun j u v hu hv=>?_)
  rw[List.getElem?_map]at hu
  cases hxj:xs[j]? with
  |none=>rw[hxj]at hu;cases hu
  |some z=>rw[hxj]at hu;simp only[Option.map_some,Option.some.injEq]at hu;subst hu;exact ih j z v hxj hv
 |fn f xs vs hl hr ih=>
  rw[AV.ren,ZeL]
  refine .fn f _ vs (by simpa using hl) (fun j u v hu hv=>?_)
  rw[List.getElem?_map]at hu
  cases hxj:xs[j]? with
  |none=>rw[hxj]at hu;cases hu
  |some z=>rw[hxj]at hu;simp only[Option.map_some,Option.some.injEq]at hu;subst hu;exact ih j z v hxj hv
 |ptr a i k off g o hl=>
  rw[AV.ren]
  cases hs:σ a i with
  |none=>exact .top _
  |some j=>exact .ptr a j k off g o (hl.ren G hs fun _ _ h=>h)
 |row a i g o n c hn hl=>
  rw[AV.ren]
  cases hs:σ a i with
  |none=>exact .top _
  |some j=>exact .row a j g o n c hn (hl.ren G hs fun _ e h=>by rw[e];exact h)
 |slc a i k n cap g o c hn hl=>
  rw[AV.ren]
  cases hs:σ a i with
  |none=>exact .top _
  |some j=>exact .slc a j k n cap g o c hn (hl.ren G hs fun _ e h=>by rw[e];exact h)
 |aslc a i k off n g o c hn hl=>
  rw[AV.ren]
  cases hs:σ a i with
  |none=>exact .top _
  |some j=>exact .aslc a j k off n g o c hn (hl.ren G hs fun _ _ h=>h)
 |yld a i g hl=>
  rw[AV.ren]
  cases hs:σ a i with
  |none=>exact .top _
  |some j=>exact .yld a j g (hl.ren G hs fun _ _ h=>h)
 |mp a i g hl=>
  rw[AV.ren]
  cases hs:σ a i with
  |none=>exact .top _
  |some j=>exact .mp a j g (hl.ren G hs fun _ _ h=>h)
 |emp ad=>exact .emp ad
 |und=>exact .und
 |top v=>exact .top v
def ZeV(σ:Nat→Nat→Option Nat):ZfN→ZfN
 |[]=>[]
 |(t,v)::l=>(t,AV.ren σ v)::ZeV σ l
theorem Zfd:∀(env:ZfN) (t:Nat),ZaE (ZeV σ env) t=(ZaE env t).map (AV.ren σ)
 |[],t=>rfl
 |(i,x)::l,t=>by
  simp only[ZeV,ZaE]
  split
  ·rfl
  ·exact Zfd l t
theorem EnvRel.ren(G:Good h L h' L' σ){env:ZfN}{tmps:Array Value}(he:EnvRel C h L w env tmps):EnvRel C h' L' w (ZeV σ env) tmps:=by
 intro t av ht
 rw[Zfd]at ht
 cases hx:ZaE env t with
 |none=>rw[hx]at ht;cases ht
 |some u=>rw[hx]at ht;simp only[Option.map_some,Option.some.injEq]at ht;subst ht;exact(he t u hx).ren G (fun g ho=>G.okk ho)
def Blk.ren(σ:Nat→Nat→Option Nat):Blk→Blk
 | .row e sz r=>.row e sz (Row.ren σ r)
 | .lp l=>.lp { l with env:=ZeV σ l.env }
 | .dfr=>.dfr
 | .mp ks=>.mp ks
 | .dead=>.dead
theorem Blk.ren_tag(b:Blk):(b.ren σ).tag=b.tag:=by
 cases b with
 |row e sz r=>simp only[Blk.ren,Blk.tag,ZbD,List.length_map]
 |_=>rfl
theorem BRel.ren(G:Good h L h' L' σ){g n:Nat}{b:Blk}(hb:BRel C h L w g n b):BRel C h' L' w g n (b.ren σ):=by
 cases b with
 |row e sz r=>
  obtain⟨h0,h1,h2,h3,cur,h4,h5,h6,h7⟩:=hb
  refine⟨h0,h1,by rw[ZbD,List.length_map];exact h2,fun x hx=>?_,cur,h4,h5,?_,by rw[ZbD,List.length_map];exact h7⟩
  ·rw[ZbD]at hx
   obtain⟨y,hy,rfl⟩:=List.mem_map.1 hx
   rw[Zjh,List.length_map];exact h3 y hy
  ·rw[ZbD,List.length_map,Ziu]
   refine⟨by rw[List.length_map];exact h6.1,fun j u v hu hv=>?_⟩
   rw[List.getElem?_map]at hu
   cases hx:(Zae r.elems)[j]? with
   |none=>rw[hx]at hu;cases hu
   |some z=>rw[hx]at hu;simp only[Option.map_some,Option.some.injEq]at hu;subst hu;exact(h6.2 j z v hx hv).ren G (fun g ho=>G.okk ho)
 |lp l=>
  obtain⟨r,h1,h2,h3,h4,h5,h6,h7,h8,h9⟩:=hb
  exact⟨r,h1,h2,h3,h4,h5.ren G,h6,h7,h8,h9⟩
 |dfr=>exact hb
 |mp ks=>exact hb
 |dead=>trivial
def Znl(σ:Nat→Nat→Option Nat):AItem→Option AItem
 | .inRF a i=>match σ a i with |some j=>some (.inRF a j) |none=>none
 | .endRF a i=>match σ a i with |some j=>some (.endRF a j) |none=>none
 | .code c=>some (.code c)
 | .inBlock i=>some (.inBlock i)
 | .inLoop b=>some (.inLoop b)
 | .inReg os=>some (.inReg os)
 | .beginRound=>some .beginRound
def Zgn(σ:Nat→Nat→Option Nat):List AItem→Option (List AItem)
 |[]=>some []
 |x::k=>match Znl σ x with
  |none=>none
  |some y=>match Zgn σ k with |some l=>some (y::l) |none=>none
def ZmQ(σ:Nat→Nat→Option Nat):List (Nat×Nat)→Option (List (Nat×Nat))
 |[]=>some []
 |(a,i)::k=>match σ a i with
  |none=>none
  |some j=>match ZmQ σ k with |some l=>some ((a,j)::l) |none=>none
def ZnT(σ:Nat→Nat→Option Nat):Option (Nat×Nat)→Option (Option (Nat×Nat))
 |none=>some none
 |some (a,i)=>match σ a i with |some j=>some (some (a,j)) |none=>none
def Zok:AItem→Bool
 | .inRF _ _=>false
 | .endRF _ _=>false
 |_=>true
def ZdC:List AItem→Bool
 |[]=>true
 |x::k=>match Zok x with |true=>ZdC k |false=>false
def Zt2(σ:Nat→Nat→Option Nat)(f:AFrame):Option AFrame:=
 match ZmQ σ f.defs with
 |none=>none
 |some ds=>match ZnT σ f.rnd with
  |none=>none
  |some rd=>match ZdC f.todo with
   |true=>some { f with env:=ZeV σ f.env,defs:=ds,rnd:=rd }
   |false=>match Zgn σ f.todo with
    |none=>none
    |some td=>some { f with env:=ZeV σ f.env,todo:=td,defs:=ds,rnd:=rd }
def Zlx(σ:Nat→Nat→Option Nat):List AFrame→Option (List AFrame)
 |[]=>some []
 |f::fs=>match Zt2 σ f with
  |none=>none
  |some g=>match Zlx σ fs with |some gs=>some (g::gs) |none=>none
theorem ItRel.ren{P:Program}{N:Nat}(G:Good h L h' L' σ){x x':AItem}{y:Item}(hr:Znl σ x=some x')(hx:ItRel P h L N x y):ItRel P h' L' N x' y:=by
 cases hx with
 |code a c hm=>cases hr;exact .code a c hm
 |inBlock id=>cases hr;exact .inBlock id
 |inLoop a c hm=>cases hr;exact .inLoop a c hm
 |inReg ops k aos hm=>cases hr;exact .inReg ops k aos hm
 |beginRound=>cases hr;exact .beginRound
 |inRF a i g hl=>
  simp only[Znl]at hr
  split at hr
  ·rename_i j hs;cases hr;exact .inRF a j g (hl.ren G hs fun _ _ h=>h)
  ·cases hr
 |endRF a i g hl=>
  simp only[Znl]at hr
  split at hr
  ·rename_i j hs;cases hr;exact .endRF a j g (hl.ren G hs fun _ _ h=>h)
  ·cases hr
theorem ItsRel.ren{P:Program}{N:Nat}(G:Good h L h' L' σ):∀ {x x':List AItem} {y:List Item},Zgn σ x=some x'→ItsRel P h L N x y→ItsRel P h' L' N x' y
 |[],x',y,hr,hx=>by cases hx;cases hr;exact .nil
 |x::k,x',y,hr,hx=>by
  cases hx with
  |cons hx hk=>
   simp only[Zgn]at hr
   split at hr
   ·cases hr
   ·rename_i z hz
    split at hr
    ·rename_i l hl;cases hr;exact .cons (hx.ren G hz) (ItsRel.ren G hl hk)
    ·cases hr
theorem Zic:∀ {x:List AItem},ZdC x=true→Zgn σ x=some x
 |[],_=>rfl
 |x::k,hp=>by
  simp only[ZdC]at hp
  split at hp
  ·rename_i h1
   simp only[Zgn,Zic hp]
   cases x<;>first |rfl |cases h1
  ·cases hp
theorem ZgJ(G:Good h L h' L' σ){p:Nat→Nat×Nat→Prop} :∀ {l l':List (Nat×Nat)},ZmQ σ l=some l'→l'.length=l.length∧∀(j:Nat) (d:Nat×Nat),l'[j]? =some d→∃d0:Nat×Nat,l[j]? =some d0∧d0.1=d.1∧σ d0.1 d0.2=some d.2
 |[],l',hr=>by cases hr;exact⟨rfl,fun j d hd=>by simp at hd⟩
 |(a,i)::k,l',hr=>by
  simp only[ZmQ]at hr
  split at hr
  ·cases hr
  ·rename_i j hs
   split at hr
   ·rename_i l hl
    cases hr
    obtain⟨h1,h2⟩:=ZgJ (p:=p) G hl
    refine⟨by simp[h1],fun q d hd=>?_⟩
    cases q with
    |zero=>simp at hd;subst hd;exact⟨(a,i),rfl,rfl,hs⟩
    |succ q=>obtain⟨d0,e1,e2,e3⟩:=h2 q d (by simpa using hd);exact⟨d0,by simpa using e1,e2,e3⟩
   ·cases hr
theorem FrRel.ren(G:Good h L h' L' σ){af af':AFrame}{fr:Frame}(hr:Zt2 σ af=some af')(hf:FrRel C h L w af fr):FrRel C h' L' w af' fr:=by
 unfold Zt2 at hr
 split at hr
 ·cases hr
 ·rename_i ds hds
  split at hr
  ·cases hr
  ·rename_i rd hrd
   have hd:DefRel h' L' ds fr.defers:=by
    obtain⟨gs,h1,h2,h3⟩:=hf.defs
    obtain⟨e1,e2⟩:=ZgJ (p:=fun _ _=>True) G hds
    refine⟨gs,h1,h2.trans e1.symm,fun j d g hd hg=>?_⟩
    obtain⟨d0,q1,q2,q3⟩:=e2 j d hd
    obtain⟨d1,d2⟩:=d
    obtain⟨d3,d4⟩:=d0
    simp only at q2 q3
    subst q2
    exact(h3 j _ g q1 hg).ren G q3 fun _ _ h=>h
   have hn:RndRel h' L' rd fr.roundOf∧(rd=none→af.rnd=none):=by
    have hrn:=hf.rnd
    unfold ZnT at hrd
    split at hrd
    ·rename_i e;cases hrd;rw[e]at hrn;exact⟨hrn,fun _=>e⟩
    ·rename_i a i e
     rw[e]at hrn
     split at hrd
     ·rename_i j hs;cases hrd
      obtain⟨g,hg,hl⟩:=hrn
      exact⟨⟨g,hg,hl.ren G hs fun _ _ h=>h⟩,fun e=>by cases e⟩
     ·cases hrd
   split at hr
   ·rename_i hp
    cases hr
    exact⟨hf.fn,hf.size,hf.env.ren G,hf.kind,hd,hn.1,hf.mode.imp id fun⟨a,b,c⟩=>⟨a,b,c.ren G (Zic hp)⟩,fun e=>hf.res (hn.2 e)⟩
   ·split at hr
    ·cases hr
    ·rename_i td htd
     cases hr
     exact⟨hf.fn,hf.size,hf.env.ren G,hf.kind,hd,hn.1,hf.mode.imp id fun⟨a,b,c⟩=>⟨a,b,c.ren G htd⟩,fun e=>hf.res (hn.2 e)⟩
theorem FrsRel.ren(G:Good h L h' L' σ):∀ {afs afs':List AFrame} {cs:List Frame},Zlx σ afs=some afs'→FrsRel C h L w afs cs→FrsRel C h' L' w afs' cs
 |[],afs',cs,hr,hf=>by cases hf;cases hr;exact .base
 |f::fs,afs',cs,hr,hf=>by
  cases hf with
  |cons hf hk=>
   simp only[Zlx]at hr
   split at hr
   ·cases hr
   ·rename_i g hg
    split at hr
    ·rename_i gs hgs;cases hr;exact .cons (hf.ren G hg) (FrsRel.ren G hgs hk)
    ·cases hr
end
abbrev Zoo:=List (Nat×Nat×List Blk)
def ZrW:Blk→Bool
 | .dead=>true
 |_=>false
def ZiI(R:List (Nat×Nat))(a:Nat):Nat→List Blk→List Blk
 |_,[]=>[]
 |i,b::l=>match(match ZnO (a,i) R with |true=>b |false=>.dead),ZiI R a (i+1) l with
  | .dead,[]=>[]
  |b',l'=>b'::l'
def Zk3:Nat→List Blk→Nat×List Blk
 |n,[]=>(n,[])
 |n,b::l=>match ZrW b with |true=>Zk3 (n+1) l |false=>(n,b::l)
def ZiM(R:List (Nat×Nat))(a:Nat)(f:Fam):Nat×List Blk:=Zk3 f.base (ZiI R a f.base f.blks)
def Za0(R:List (Nat×Nat)):Zab→Zoo
 |[]=>[]
 |(a,f)::rest=>match ZiM R a f with
  |(s,l)=>(match l,ZaE rest a with
   |[],none=>Za0 R rest
   |l,_=>(a,s,l)::Za0 R rest)
def Zkt(t:Zoo)(a i:Nat):Option Nat:=
 match ZaE t a with
 |none=>none
 |some p=>match Nat.ble p.1 i with
  |false=>none
  |true=>match ZrW (p.2.getD (i-p.1) .dead)with |true=>none |false=>some (i-p.1)
def ZfT(σ:Nat→Nat→Option Nat):Zoo→Zab
 |[]=>[]
 |(a,_,l)::t=>(a,⟨0,l.map (Blk.ren σ)⟩)::ZfT σ t
def ZkV(t:Zoo)(L:Lay):Lay:=⟨fun a j=>L.loc a (j+match ZaE t a with |some p=>p.1 |none=>0),fun a j=>L.size a (j+match ZaE t a with |some p=>p.1 |none=>0)⟩
theorem Zgy{R:List (Nat×Nat)}{a:Nat} :∀(l:List Blk) (i j:Nat),(ZiI R a i l).getD j .dead=.dead∨(ZiI R a i l).getD j .dead=l.getD j .dead
 |[],i,j=>.inl (by simp[ZiI])
 |b::l,i,j=>by
  have ih:=Zgy (R:=R) (a:=a) l (i+1)
  simp only[ZiI]
  split
  ·left;simp
  ·cases j with
   |zero=>
    simp only[List.getD_cons_zero]
    split
    ·right;rfl
    ·left;rfl
   |succ j=>simp only[List.getD_cons_succ];exact ih j
theorem Zgo:∀(l:List Blk) (n j:Nat),∃d,(Zk3 n l).1=n+d∧(Zk3 n l).2.getD j .dead=l.getD (j+d) .dead
 |[],n,j=>⟨0,rfl,rfl⟩
 |b::l,n,j=>by
  simp only[Zk3]
  split
  ·obtain⟨d,h1,h2⟩:=Zgo l (n+1) j
   exact⟨d+1,by rw[h1];omega,by rw[h2,←Nat.add_assoc,List.getD_cons_succ]⟩
  ·exact⟨0,rfl,rfl⟩
theorem ZgG{R:List (Nat×Nat)} :∀ {h:Zab} {a:Nat} {p:Nat×List Blk},ZaE (Za0 R h) a=some p→∃f,ZaE h a=some f∧ZiM R a f=p
 |[],a,p,h=>by cases h
 |(b,f)::rest,a,p,h=>by
  have ih:= @ZgG R rest a p
  have hb:∀x y:Nat,Nat.beq x y=decide (x=y):=fun x y=>by rw[Bool.eq_iff_iff];simp
  simp only[Za0]at h
  split at h
  ·rename_i hl hr
   obtain⟨f',h1,h2⟩:=ih h
   refine⟨f',?_,h2⟩
   simp only[ZaE,hb]
   by_cases hba:b=a
   ·subst hba;rw[hr]at h1;cases h1
   ·simp only[hba,decide_false];exact h1
  ·simp only[ZaE,hb]at h⊢
   by_cases hba:b=a
   ·subst hba;simp only[decide_true,Option.some.injEq]at h ⊢;exact⟨f,rfl,h⟩
   ·simp only[hba,decide_false]at h ⊢;exact ih h
theorem ZfZ{σ:Nat→Nat→Option Nat} :∀(t:Zoo) (a:Nat),ZaE (ZfT σ t) a=(ZaE t a).map fun p=>⟨0,p.2.map (Blk.ren σ)⟩
 |[],a=>rfl
 |(b,s,l)::t,a=>by
  simp only[ZfT,ZaE]
  split
  ·rfl
  ·exact ZfZ t a
theorem ZcD{σ:Nat→Nat→Option Nat}(t:Zoo)(a j:Nat):blk (ZfT σ t) a j=Blk.ren σ (match ZaE t a with |some p=>p.2.getD j .dead |none=>.dead)∧nxt (ZfT σ t) a=match ZaE t a with |some p=>p.2.length |none=>0:=by
 unfold blk nxt fam
 rw[ZfZ]
 cases ZaE t a with
 |none=>simp[Fam.get,ZbE,Blk.ren]
 |some p=>
  simp only[Option.map_some,Option.getD_some,Fam.get,ZbE (Nat.zero_le _),Nat.sub_zero,List.length_map,Nat.zero_add,and_true]
  simp only[List.getD_eq_getElem?_getD,List.getElem?_map]
  cases p.2[j]?<;>rfl
theorem Zcu{R:List (Nat×Nat)}{h:Zab}{a:Nat}{p:Nat×List Blk}(hp:ZaE (Za0 R h) a=some p)(j:Nat):p.2.getD j .dead=.dead∨p.2.getD j .dead=blk h a (j+p.1):=by
 obtain⟨f,h1,h2⟩:=ZgG hp
 unfold ZiM at h2
 obtain⟨d,e1,e2⟩:=Zgo (ZiI R a f.base f.blks) f.base j
 rw[h2]at e1 e2
 rw[e2]
 rcases Zgy (R:=R) (a:=a) f.blks f.base (j+d)with h3 |h3
 ·exact .inl h3
 ·right
  rw[h3,e1]
  unfold blk fam Fam.get
  rw[h1]
  simp only[Option.getD_some,ZbE (show f.base≤j+(f.base+d) by omega)]
  congr 1;omega
theorem pack_good{R:List (Nat×Nat)}{h:Zab}{L:Lay} :Good h L (ZfT (Zkt (Za0 R h)) (Za0 R h)) (ZkV (Za0 R h) L) (Zkt (Za0 R h)):=by
 refine⟨fun a i j hs=>?_,fun a j ht=>?_⟩
 ·obtain⟨hb,hn⟩:=ZcD (σ:=Zkt (Za0 R h)) (Za0 R h) a j
  unfold Zkt at hs
  cases hp:ZaE (Za0 R h) a with
  |none=>rw[hp]at hs;cases hs
  |some p=>
   rw[hp]at hs hb hn
   simp only at hs hb hn
   split at hs
   ·cases hs
   ·rename_i hle
    have hle:p.1≤i:=by simpa using hle
    split at hs
    ·cases hs
    ·rename_i hd
     cases hs
     have hlt:i-p.1<p.2.length:=by
      rcases Nat.lt_or_ge (i-p.1) p.2.length with h1 |h1
      ·exact h1
      ·rw[List.getD_eq_getElem?_getD,List.getElem?_eq_none h1]at hd;cases hd
     have hadd:i-p.1+p.1=i:=by omega
     refine⟨by rw[hn];exact hlt,fun sz ht=>?_,by simp only[ZkV,hp,hadd],by simp only[ZkV,hp,hadd]⟩
     rw[hb,Blk.ren_tag]at ht
     rcases Zcu hp (i-p.1)with h1 |h1
     ·rw[h1]at hd;cases hd
     ·rw[h1,hadd]at ht;exact ht
 ·obtain⟨hb,_⟩:=ZcD (σ:=Zkt (Za0 R h)) (Za0 R h) a j
  rw[hb,Blk.ren_tag]at ht
  cases hp:ZaE (Za0 R h) a with
  |none=>rw[hp]at ht;exact absurd rfl ht
  |some p=>
   rw[hp]at ht
   simp only at ht
   rcases Zcu hp j with h1 |h1
   ·rw[h1]at ht;exact absurd rfl ht
   ·exact⟨j+p.1,by rw[←h1];exact ht,by simp only[ZkV,hp]⟩
theorem HRel.packed{C:Ctx}{R:List (Nat×Nat)}{h:Zab}{L:Lay}{w:World}(H:HRel C h L w):HRel C (ZfT (Zkt (Za0 R h)) (Za0 R h)) (ZkV (Za0 R h) L) w:=by
 have key:∀a j,(blk (ZfT (Zkt (Za0 R h)) (Za0 R h)) a j).tag≠none→∃p,ZaE (Za0 R h) a=some p∧(blk h a (j+p.1)).tag≠none:=fun a j ht=>by
  obtain⟨hb,_⟩:=ZcD (σ:=Zkt (Za0 R h)) (Za0 R h) a j
  rw[hb,Blk.ren_tag]at ht
  cases hp:ZaE (Za0 R h) a with
  |none=>rw[hp]at ht;exact absurd rfl ht
  |some p=>
   rw[hp]at ht
   simp only at ht
   rcases Zcu hp j with h1 |h1
   ·rw[h1]at ht;exact absurd rfl ht
   ·exact⟨p,rfl,by rw[←h1];exact ht⟩
 refine⟨H.below,fun a j ht=>?_,fun a j=>?_,fun a i b j h1 h2 e=>?_,fun a j ht=>?_,H.low,H.base⟩
 rotate_right
 ·obtain⟨p,hp,ht'⟩:=key a j ht
  simp only[ZkV,hp]
  rcases H.home a _ ht' with h9 |⟨h7,h8,h9⟩
  ·exact .inl h9
  ·exact .inr ⟨h7,by omega,h9⟩
 ·obtain⟨p,hp,ht'⟩:=key a j ht
  simp only[ZkV,hp];exact H.live a _ ht'
 ·obtain⟨hb,_⟩:=ZcD (σ:=Zkt (Za0 R h)) (Za0 R h) a j
  rw[hb]
  cases hp:ZaE (Za0 R h) a with
  |none=>trivial
  |some p=>
   simp only
   rcases Zcu hp j with h1 |h1
   ·rw[h1];trivial
   ·rw[h1];simp only[ZkV,hp];exact(H.blks a _).ren pack_good
 ·obtain⟨p,hp,hp'⟩:=key a i h1
  obtain⟨q,hq,hq'⟩:=key b j h2
  simp only[ZkV,hp,hq]at e
  obtain⟨rfl,e2⟩:=H.inj _ _ _ _ hp' hq' e
  rw[hp]at hq;cases hq
  exact⟨rfl,by omega⟩
def ZqV:AV→List (Nat×Nat)
 | .tup xs=>xs.flatMap ZeB
 |v=>ZeB v
def Zun:Row→List (Nat×Nat)
 | .gen xs=>xs.flatMap ZqV
 |_=>[]
def ZoR:ZfN→List (Nat×Nat)
 |[]=>[]
 |(_,v)::l=>ZqV v++ZoR l
def ZvH:Blk→List (Nat×Nat)
 | .row _ _ r=>Zun r
 | .lp l=>ZoR l.env
 |_=>[]
def ZqZ:List AItem→List (Nat×Nat)
 |[]=>[]
 |x::k=>(match x with | .inRF a i=>[(a,i)] | .endRF a i=>[(a,i)] |_=>[])++ZqZ k
def ZsC:List AFrame→List (Nat×Nat)
 |[]=>[]
 |f::fs=>ZoR f.env++((match ZdC f.todo with |true=>[] |false=>ZqZ f.todo)++(f.defs++((match f.rnd with |some p=>[p] |none=>[])++ZsC fs)))
def Ztk(R:List (Nat×Nat)):List (Nat×Nat)→List (Nat×Nat)
 |[]=>R
 |p::l=>match ZnO p R with |true=>Ztk R l |false=>Ztk (p::R) l
def ZnK(h:Zab):Nat→List (Nat×Nat)→List (Nat×Nat)→List (Nat×Nat)
 |0,R,_=>R
 |n+1,R,new=>match new.flatMap (fun p=>ZvH (blk h p.1 p.2))with
  |[]=>R
  |l=>ZnK h n (Ztk R l) l
def Zm2(h:Zab)(t:Zoo):Bool:=
 match ZaE t 0 with
 |none=>Nat.beq (nxt h 0) 0
 |some p=>match Nat.beq p.1 0 with |true=>Nat.ble (nxt h 0) p.2.length |false=>false
def ZtA(fs:List AFrame):List (Nat×Nat):=Ztk [] ((0,0)::ZsC fs)
def Ztf(fs:List AFrame)(h:Zab):Option (List AFrame×Zab):=
 match ZtA fs with
 |R0=>match Za0 (ZnK h 4 R0 R0) h with
  |t=>match Zm2 h t with
   |false=>none
   |true=>match Zlx (Zkt t) fs with
    |none=>none
    |some fs'=>some (fs',ZfT (Zkt t) t)
theorem Zog{C:Ctx}{R:List (Nat×Nat)}{h:Zab}{L:Lay}{w:World}(hk:Zm2 h (Za0 R h)=true):Fr C h L w (ZfT (Zkt (Za0 R h)) (Za0 R h)) (ZkV (Za0 R h) L) w:=by
 obtain⟨hb,hn⟩:=ZcD (σ:=Zkt (Za0 R h)) (Za0 R h) 0 0
 refine⟨Nat.le_refl _,fun g _ ho=>⟨pack_good.okk ho,rfl⟩,?_,fun sz _ ht=>?_⟩
 ·rw[hn]
  unfold Zm2 at hk
  cases hp:ZaE (Za0 R h) 0 with
  |none=>rw[hp]at hk;have:=Nat.eq_of_beq_eq_true hk;omega
  |some p=>
   rw[hp]at hk
   simp only at hk⊢
   split at hk
   ·simpa using hk
   ·cases hk
 ·rw[hb,Blk.ren_tag]at ht
  unfold Zm2 at hk
  cases hp:ZaE (Za0 R h) 0 with
  |none=>rw[hp]at ht;cases ht
  |some p=>
   rw[hp]at ht hk
   simp only at ht hk
   split at hk
   ·rename_i h0
    have h0:p.1=0:=Nat.eq_of_beq_eq_true h0
    rcases Zcu hp 0 with h1 |h1
    ·rw[h1]at ht;cases ht
    ·rw[h1,h0]at ht
     refine⟨ht,?_,?_⟩
     ·simp only[ZkV,hp,h0]
     ·simp only[ZkV,hp,h0]
   ·cases hk
theorem Zld{C:Ctx}{fs fs':List AFrame}{h h':Zab}{Q:List AFrame→Zab→Prop}(hp:Ztf fs h=some (fs',h'))(hq:Ev C fs' h' Q):Ev C fs h Q:=by
 intro L fr cs w hf H hne
 unfold Ztf at hp
 dsimp only at hp
 split at hp
 ·cases hp
 ·rename_i hkeep
  split at hp
  ·cases hp
  ·rename_i gs hgs
   cases hp
   obtain⟨fs2,h2',L2,fr2,cs2,w2,q2,n2,a2,b2,s2⟩:=hq _ fr cs w (FrsRel.ren pack_good hgs hf) H.packed (fun e=>by
    subst e
    cases fs with
    |nil=>exact hne rfl
    |cons f fs=>
     simp only[Zlx]at hgs
     split at hgs
     ·cases hgs
     ·split at hgs<;>cases hgs)
   exact⟨fs2,h2',L2,fr2,cs2,w2,q2,n2,a2,b2,s2.1,(Zog hkeep).trans s2.2⟩
def Zor(A:Ar)(T:Tab)(l:List Ctr)(n:Nat)(pk:Bool)(pa:List Bool)(f:AFrame)(fs:List AFrame)(h:Zab):Option (List Bool×List AFrame×Zab):=
 match ZeZ A T l n pa [] f fs h with
 |none=>none
 |some (acc,f',fs',h')=>match pk with
  |false=>some (acc,f'::fs',h')
  |true=>match Ztf (f'::fs') h' with
   |none=>none
   |some (gs,h2)=>some (acc,gs,h2)
theorem ZpD{C:Ctx}{T:Tab}{l:List Ctr}{n:Nat}{pk:Bool}{pa acc:List Bool}{f:AFrame}{fs gs:List AFrame}{h h':Zab}{Q:List AFrame→Zab→Prop}(hfol:C.P.follows .mixedOrders=true)(hT:Zbj C.P T)(hl:Za2 C.P l)
 (hw:Zor std T l n pk pa f fs h=some (acc,gs,h')) (hb:AllT acc) (hq:Ev C gs h' Q):Ev C (f::fs) h Q:=by
 unfold Zor at hw
 split at hw
 ·cases hw
 ·rename_i acc1 f1 fs1 h1 hs
  split at hw
  ·cases hw
   exact(Zbr hfol hT hl n _ _ _ _ hs hb.mem hq).2
  ·split at hw
   ·cases hw
   ·rename_i gs2 h2 hp
    cases hw
    exact(Zbr hfol hT hl n _ _ _ _ hs hb.mem (Zld hp hq)).2
end Go.Proofs.YtkeoeooghhjibaaDoor
/- What comes back is read as a value. No condition. -/
namespace Go.Proofs.YtkeoeooghhjibaaDoor
open Go.RowKit (Below)
inductive Frz1 (fr:Option Fresh):AV→AV→Prop
 |row (f:Fresh) (hf:fr=some f) (hp:f.r.pure=true) (hs:f.r.solid=true):Frz1 fr (.row 0 0) (.list f.r)
 |nil (r:Row) (h:r.elems=[]):Frz1 fr .nils (.list r)
 |same (v:AV) (hp:v.pure=true) (hs:v.solid=true):Frz1 fr v v
def Zws(fr:Option Fresh):List AV→List AV→Prop
 |[],[]=>True
 |x::xs,y::ys=>Frz1 fr x y∧Zws fr xs ys
 |_,_=>False
inductive Frz (fr:Option Fresh):AV→AV→Prop
 |one {v v':AV} (h:Frz1 fr v v'):Frz fr v v'
 |tup {xs ys:List AV} (h:Zws fr xs ys):Frz fr (.tup xs) (.tup ys)
section
variable {P:Program}{w w':World}{okA:Nat→Prop}{L':Lay}{fr:Option Fresh}
end
def Zau(A:Ar)(T:Tab)(l:List Ctr)(n:Nat)(pa:List Bool)(fs:List AFrame)(h:Zab):Option (List Bool×List AFrame×Zab):=
 match fs with
 |[]=>none
 |f::fs=>Zor A T l n true pa f fs h
def ZaQ(A:Ar)(T:Tab)(l:List Ctr)(n:Nat)(pa:List Bool)(fn:FuncId)(fs:List AFrame)(h:Zab):Option (List Bool×AV×Option Fresh):=
 match fs with
 |[]=>none
 |f::fs=>match ZeZ A T l n pa [] f fs h with
  |none=>none
  |some (acc,g,gs,h')=>match gs with
   |_::_=>none
   |[]=>match g.ret&&Nat.beq g.fn fn with
    |false=>none
    |true=>match g.rnd with
     |some _=>none
     |none=>match g.defs with
      |_::_=>none
      |[]=>match Zk2 A g.env h' g.res with
       |none=>none
       |some (b,vs)=>match Zeh h' (ZdU vs)with
        |none=>none
        |some (r,fr)=>some (b::acc,r,fr)
section
variable {C:Ctx}{T:Tab}{l:List Ctr}{n:Nat}{pa acc:List Bool}{fs gs:List AFrame}{h h':Zab}{Q:List AFrame→Zab→Prop}
theorem Zuj(hfol:C.P.follows .mixedOrders=true)(hT:Zbj C.P T)(hl:Za2 C.P l)(hw:Zau std T l n pa fs h=some (acc,gs,h'))(hb:AllT acc)(hq:Ev C gs h' Q):Ev C fs h Q:=by
 unfold Zau at hw
 split at hw
 ·cases hw
 ·exact ZpD hfol hT hl hw hb hq
theorem ZsO(hfol:C.P.follows .mixedOrders=true)(hT:Zbj C.P T)(hl:Za2 C.P l){fn:FuncId}{r r':AV}{fr fr':Option Fresh}(hw:ZaQ std T l n pa fn fs h=some (acc,r',fr'))(hb:AllT acc)(hr:r'=r)(hfr:fr'=fr):Ev C fs h (ZcP fn r fr):=by
 subst hr;subst hfr
 unfold ZaQ at hw
 split at hw
 ·cases hw
 ·split at hw
  ·cases hw
  ·rename_i acc1 g gs1 h1 hs
   split at hw
   ·cases hw
   ·split at hw
    ·cases hw
    ·rename_i hg
     simp only[Bool.and_eq_true]at hg
     split at hw
     ·cases hw
     ·rename_i hn
      split at hw
      ·cases hw
      ·rename_i hd
       split at hw
       ·cases hw
       ·rename_i b vs hc
        split at hw
        ·cases hw
        ·rename_i hex
         cases hw
         have hb1:b=true:=hb.1
         subst hb1
         exact(Zbr hfol hT hl n _ _ _ _ hs hb.2.mem (.now (by simp) ⟨g,vs,rfl,Nat.eq_of_beq_eq_true hg.2,hg.1,hn,hd,hc,hex⟩)).2
end
end Go.Proofs.YtkeoeooghhjibaaDoor
namespace Go.Proofs.YtkeoeooghhjibaaDoor
@[simp] theorem ZwZ (a b:Int):std.add a b=a+b:=rfl
@[simp] theorem Zxd (a b:Int):std.sub a b=a-b:=rfl
@[simp] theorem ZwT (a b:Int):std.mul a b=a*b:=rfl
@[simp] theorem Zxo (a b:Int):std.quo a b=Int.tdiv a b:=rfl
@[simp] theorem Zw4 (a b:Int):std.rem a b=Int.tmod a b:=rfl
@[simp] theorem ZxA (a:Int):std.neg a= -a:=rfl
@[simp] theorem Zv2 (a b:Int):std.lt a b=decide (a<b):=rfl
@[simp] theorem ZnQ (a b:Int):std.le a b=decide (a≤b):=rfl
@[simp] theorem Ztr (a b:Int):std.eq a b=decide (a=b):=rfl
@[simp] theorem Zxr (a:Int):std.nat a=a.toNat:=rfl
@[simp] theorem Zh3 (a:Nat):std.int a=(a:Int):=rfl
@[simp] theorem ZwN (a b:Int):std.max a b=Max.max a b:=rfl
@[simp] theorem Zw6 (a b:Int):std.min a b=Min.min a b:=rfl
@[simp] theorem Zxc (l:List Int):std.len l=l.length:=rfl
@[simp] theorem ZxE (l:List Int) (j:Nat):std.nth l j=l.getD j 0:=rfl
@[simp] theorem Zxx (l:List Int) (j:Nat) (x:Int):std.set l j x=l.set j x:=rfl
@[simp] theorem ZwG (a b:List Int):std.app a b=a++b:=rfl
@[simp] theorem ZvY (l:List Int) (k n:Nat):std.sub3 l k n=(l.drop k).take n:=rfl
@[simp] theorem ZwS (n:Nat) (x:Int):std.rep n x=List.replicate n x:=rfl
@[simp] theorem ZwL (a:Bool):std.not a=!a:=rfl
@[simp] theorem Zwg (l:List UInt8):std.lenS l=l.length:=rfl
@[simp] theorem Zwc (l:List UInt8) (j:Nat):std.nthS l j=((l.getD j 0).toNat:Int):=rfl
@[simp] theorem Zv3 (a b:List UInt8):std.appS a b=a++b:=rfl
@[simp] theorem Zwq (l:List UInt8) (k n:Nat):std.subS l k n=sub3 l k n:=rfl
@[simp] theorem ZwE (a b:List UInt8):std.eqS a b=(a==b):=rfl
@[simp] theorem Zcw (ks:List AV) (s:List UInt8):std.hasS ks s=ks.any fun k=>k.toS==s:=rfl
@[simp] theorem ZxI (s:List UInt8):std.byt s=s.map fun b=>(b.toNat:Int):=rfl
@[simp] theorem Zw5 (a b:Int):std.shl a b=a*2^b.toNat:=rfl
@[simp] theorem Zxf (a b:Int):std.shr a b=a.fdiv (2^b.toNat):=rfl
@[simp] theorem ZtX (n:Int):std.inR .i64 n=decide (-9223372036854775808≤n∧n≤9223372036854775807):=rfl
@[simp] theorem ZwI (a b:Bool):Zag a b=(a&&b):=by cases a<;>rfl
@[simp] theorem Zxq (a b:Nat):Nat.blt a b=decide (a<b):=by rw[Bool.eq_iff_iff];simp
@[simp] theorem ZxM (a b:Nat):Nat.ble a b=decide (a≤b):=by rw[Bool.eq_iff_iff];simp
@[simp] theorem Zxy (a b:Nat):Nat.beq a b=decide (a=b):=by rw[Bool.eq_iff_iff];simp
@[simp] theorem Ztp:AllT []=True:=rfl
@[simp] theorem ZhR (b:Bool) (l:List Bool):AllT (b::l)=(b=true∧AllT l):=rfl
def tru:Nat→List Bool→List Bool
 |0,l=>l
 |n+1,l=>true::tru n l
def tr:List Nat→List Bool→List Bool
 |k::ks,x::xs=>tru k (x::tr ks xs)
 |k::_,[]=>tru k []
 |[],xs=>xs
theorem Zg4(l:List Bool):∀n,AllT (tru n l)=AllT l
 |0=>rfl
 |n+1=>by simp only[tru,ZhR,Zg4 l n,true_and]
@[simp] theorem ZoN:∀ks xs,AllT (tr ks xs)=AllT xs
 |k::ks,x::xs=>by simp only[tr,Zg4,ZhR,ZoN ks xs]
 |k::ks,[]=>by simp only[tr,Zg4]
 |[],xs=>rfl
end Go.Proofs.YtkeoeooghhjibaaDoor
/- Runs at letters as trees: one theorem for all ways out of a head. No condition. -/
namespace Go.Proofs.YtkeoeooghhjibaaDoor
inductive Sp where
 |fn |fm |hd |no
 |run (n:Nat) (k:Sp)
 |alt (p:List Bool) (k r:Sp)
def Sp.tf(a b:Sp):Sp:=.alt [true] a (.alt [false] b .no)
def Sp.ty(a:Sp):Sp:=.alt [true] a .no
def Sp.fy(a:Sp):Sp:=.alt [false] a .no
def qB:List Bool→Prop→Prop→Prop
 |[],t,_=>t
 |b::l,t,d=>match b with |true=>qB l t d |false=>d
abbrev KT:=List AFrame×Zab→Prop
abbrev FT:=AV→Option Fresh→Prop
abbrev MT:=AV→Nat→Nat→Row→Prop
def ZvV(A:Ar)(fn:FuncId)(F:FT)(g:AFrame)(gs:List AFrame)(h:Zab):Prop:=
 match gs with
 |_::_=>False
 |[]=>match g.ret&&Nat.beq g.fn fn with
  |false=>False
  |true=>match g.rnd with
   |some _=>False
   |none=>match g.defs with
    |_::_=>False
    |[]=>match Zk2 A g.env h g.res with
     |none=>False
     |some (b,vs)=>match Zeh h (ZdU vs)with
      |none=>False
      |some (r,fr)=>qB [b] (F r fr) False
def Zsw(A:Ar)(fn:FuncId)(M:MT)(g:AFrame)(gs:List AFrame)(h:Zab):Prop:=
 match gs with
 |_::_=>False
 |[]=>match g.ret&&Nat.beq g.fn fn with
  |false=>False
  |true=>match g.rnd with
   |some _=>False
   |none=>match g.defs with
    |_::_=>False
    |[]=>match Zd2 A g.env h g.res with
     |none=>False
     |some (b,vs)=>match blk h 0 0 with
      | .row e sz y=>match ZoB (ZdU vs)&&y.pure with
        |true=>qB [b] (M (ZdU vs) e sz y) False
        |false=>False
      |_=>False
def ZcA(A:Ar)(T:Tab)(l:List Ctr)(fn:FuncId)(K:KT)(F:FT)(M:MT):Sp→List AFrame→Zab→Prop
 | .no,_,_=>False
 | .hd,fs,h=>match Ztf fs h with |none=>False |some p=>K p
 | .fn,fs,h=>match fs with |[]=>False |g::gs=>ZvV A fn F g gs h
 | .fm,fs,h=>match fs with |[]=>False |g::gs=>Zsw A fn M g gs h
 | .run n k,fs,h=>match fs with
   |[]=>False
   |f::fs=>match ZeZ A T l n [] [] f fs h with
    |none=>False
    |some (acc,f',fs',h')=>qB acc (ZcA A T l fn K F M k (f'::fs') h') False
 | .alt p k r,fs,h=>match fs with
   |[]=>False
   |f::gs=>match Znh A T l p [] f gs h with
    |none=>False
    |some (_,acc,f',fs',h')=>qB acc (ZcA A T l fn K F M k (f'::fs') h') (ZcA A T l fn K F M r (f::gs) h)
theorem ZeN{l:List Bool}{t d:Prop}(h:qB l t d):((∀ b∈l,b=true)∧t)∨d:=by
 induction l with
 |nil=>exact .inl ⟨fun b hb=>(by cases hb),h⟩
 |cons b l ih=>
  cases b with
  |false=>exact .inr h
  |true=>rcases ih h with⟨h1,h2⟩ |h1
         ·exact .inl ⟨fun b hb=>(by rcases List.mem_cons.1 hb with rfl |e;rfl;exact h1 b e),h2⟩
         ·exact .inr h1
section
variable {C:Ctx}{T:Tab}{l:List Ctr}{fn:FuncId}{Q:List AFrame→Zab→Prop}{K:KT}{F:FT}{M:MT}
theorem Zb7(hfol:C.P.follows .mixedOrders=true)(hT:Zbj C.P T)(hl:Za2 C.P l)
 (hK:∀p,K p→Ev C p.1 p.2 Q) (hF:∀r fr,F r fr→∀fs h,ZcP fn r fr fs h→Q fs h) (hM:∀r e sz y,M r e sz y→∀fs h,Zw9 fn e sz y r fs h→Q fs h):
 ∀(s:Sp) {fs:List AFrame} {h:Zab},ZcA std T l fn K F M s fs h→Ev C fs h Q
 | .no,fs,h,hg=>hg.elim
 | .hd,fs,h,hg=>by
   unfold ZcA at hg
   split at hg
   ·exact hg.elim
   ·rename_i p hp
    obtain⟨gs,h2⟩:=p
    exact Zld hp (hK _ hg)
 | .fn,fs,h,hg=>by
   unfold ZcA at hg
   split at hg
   ·exact hg.elim
   ·rename_i g gs
    unfold ZvV at hg
    split at hg
    ·exact hg.elim
    ·split at hg
     ·exact hg.elim
     ·rename_i hr
      simp only[Bool.and_eq_true]at hr
      split at hg
      ·exact hg.elim
      ·rename_i hn
       split at hg
       ·exact hg.elim
       ·rename_i hd
        split at hg
        ·exact hg.elim
        ·rename_i b vs hc
         split at hg
         ·exact hg.elim
         ·rename_i r fr hex
          rcases ZeN hg with⟨h1,h2⟩ |h1
          ·have hb1:b=true:=h1 b List.mem_cons_self
           subst hb1
           exact .now (by simp) (hF r fr h2 _ _ ⟨g,vs,rfl,Nat.eq_of_beq_eq_true hr.2,hr.1,hn,hd,hc,hex⟩)
          ·exact h1.elim
 | .fm,fs,h,hg=>by
   unfold ZcA at hg
   split at hg
   ·exact hg.elim
   ·rename_i g gs
    unfold Zsw at hg
    split at hg
    ·exact hg.elim
    ·split at hg
     ·exact hg.elim
     ·rename_i hr
      simp only[Bool.and_eq_true]at hr
      split at hg
      ·exact hg.elim
      ·rename_i hn
       split at hg
       ·exact hg.elim
       ·rename_i hd
        split at hg
        ·exact hg.elim
        ·rename_i b vs hc
         split at hg
         ·rename_i e sz y hbk
          split at hg
          ·rename_i hp
           simp only[Bool.and_eq_true]at hp
           rcases ZeN hg with⟨h1,h2⟩ |h1
           ·have hb1:b=true:=h1 b List.mem_cons_self
            subst hb1
            exact .now (by simp) (hM _ e sz y h2 _ _ ⟨g,vs,rfl,Nat.eq_of_beq_eq_true hr.2,hr.1,hn,hd,hc,rfl,hp.1,hbk,hp.2⟩)
           ·exact h1.elim
          ·exact hg.elim
         ·exact hg.elim
 | .run n k,fs,h,hg=>by
   unfold ZcA at hg
   split at hg
   ·exact hg.elim
   ·split at hg
    ·exact hg.elim
    ·rename_i acc f' fs' h' hs
     rcases ZeN hg with⟨h1,h2⟩ |h1
     ·exact(Zbr hfol hT hl n _ _ _ _ hs h1 (Zb7 hfol hT hl hK hF hM k h2)).2
     ·exact h1.elim
 | .alt p k r,fs,h,hg=>by
   unfold ZcA at hg
   split at hg
   ·exact hg.elim
   ·split at hg
    ·exact hg.elim
    ·rename_i pa' acc f' fs' h' hs
     rcases ZeN hg with⟨h1,h2⟩ |h1
     ·exact(Zfx hfol hT hl _ _ _ _ _ hs h1 (Zb7 hfol hT hl hK hF hM k h2)).2
     ·exact Zb7 hfol hT hl hK hF hM r h1
end
def bB(b:Bool)(t d:Prop):Prop:=qB [b] t (qB [!b] d False)
def rB(l:List Bool)(t:Prop):Prop:=qB l t False
@[simp] theorem Zwt (t d:Prop):qB [] t d=t:=rfl
@[simp] theorem Zwj (a b:List AV):std.appA a b=a++b:=rfl
@[simp] theorem Zwb (l:List AV) (j:Nat) (x:AV):std.setA l j x=l.set j x:=rfl
@[simp] theorem Zwu (l:List AV) (k n:Nat):std.subA l k n=(l.drop k).take n:=rfl
@[simp] theorem Zww (n:Nat) (x:AV):std.repA n x=List.replicate n x:=rfl
@[simp] theorem Zub (b:Bool) (l:List Bool) (t d:Prop):qB (b::l) t d=if b=true then qB l t d else d:=by cases b<;>rfl
theorem ZjU:∀(l:List Bool) (t:Prop),qB l t False=(AllT l∧t)
 |[],t=>by simp[qB]
 |b::l,t=>by
  rw[Zub,ZjU l]
  cases b<;>simp
@[simp] theorem ZxN (b:Bool) (t d:Prop):bB b t d=if b=true then t else d:=by cases b<;>simp[bB,qB]
@[simp] theorem ZwF (l:List Bool) (t:Prop):rB l t=(AllT l∧t):=ZjU l t
end Go.Proofs.YtkeoeooghhjibaaDoor
