/- Guided runs: where the way hangs on a letter, a list of choices says which way is taken. No condition. -/
import Derived.Test.YtkeoeooghhjibaaDoorXw
namespace Go.Proofs.YtkeoeooghhjibaaDoor
open Go.RowKit (Below)
def ZtZ:List (Nat×AV)→Nat→AV→List (Nat×AV)
 |[],_,_=>[]
 |(i,x)::l,t,y=>match Nat.beq i t with |true=>(i,y)::l |false=>(i,x)::ZtZ l t y
theorem Zh6:∀ {env:List (Nat×AV)} {t:Nat} {v:AV},ZaE env t=some v→ZtZ env t v=env
 |[],t,v,h=>by cases h
 |(i,x)::l,t,v,h=>by
  simp only[ZaE]at h
  simp only[ZtZ]
  split
  ·rename_i hb;rw[hb]at h;cases h;rfl
  ·rename_i hb;rw[hb]at h;rw[Zh6 h]
def asB(p b:Bool):Bool:=match p with |true=>b |false=>!b
theorem Zod{p b:Bool}(h:asB p b=true):b=p:=by cases p<;>cases b<;>first |rfl |cases h
abbrev ZfY:=List (Nat×AV)
def ZlC(env:ZfY)(pa acc:List Bool)(t:Nat):Option (List Bool×List Bool×ZfY):=
 match ZaE env t with
 |some v=>(match v with
  | .bool b=>(match pa with
    |p::ps=>some (ps,asB p b::acc,ZtZ env t (.bool p))
    |[]=>none)
  |_=>some (pa,acc,env))
 |none=>some (pa,acc,env)
theorem Zl7{env env':ZfY}{pa pa' acc acc':List Bool}{t:Nat}(h:ZlC env pa acc t=some (pa',acc',env'))(hb:∀b∈acc',b=true):env'=env∧∀b∈acc,b=true:=by
 unfold ZlC at h
 split at h
 ·rename_i v hv
  split at h
  ·rename_i b
   split at h
   ·rename_i p ps
    cases h
    have:=Zod (hb _ List.mem_cons_self)
    subst this
    exact⟨Zh6 hv,fun b hb'=>hb b (List.mem_cons_of_mem _ hb')⟩
   ·cases h
  ·cases h;exact⟨rfl,hb⟩
 ·cases h;exact⟨rfl,hb⟩
def inN(t:Nat):List Nat→Bool
 |[]=>false
 |x::l=>match Nat.beq x t with |true=>true |false=>inN t l
def Zxu(d:Option Nat)(l:List Nat):List Nat:=match d with |none=>l |some t=>l.filter fun x=>!Nat.beq x t
abbrev ZuX:=Option (List Bool×List Bool×ZfY×List Nat)
def Zhl(st:List Nat)(env:ZfY)(pa acc:List Bool)(t:Nat):ZuX:=
 match inN t st with
 |true=>some (pa,acc,env,st)
 |false=>match ZlC env pa acc t with
  |none=>none
  |some (pa',acc',env')=>some (pa',acc',env',t::st)
theorem Zes{st st':List Nat}{env env':ZfY}{pa pa' acc acc':List Bool}{t:Nat}(h:Zhl st env pa acc t=some (pa',acc',env',st'))(hb:∀b∈acc',b=true):env'=env∧∀b∈acc,b=true:=by
 unfold Zhl at h
 split at h
 ·cases h;exact⟨rfl,hb⟩
 ·split at h
  ·cases h
  ·rename_i hs;cases h;exact Zl7 hs hb
def Zhf(st:List Nat)(k:OpK)(env:ZfY)(pa acc:List Bool):ZuX:=
 match k with
 | .pick c _ _=>(match c with | .t n=>Zhl st env pa acc n | .c _=>some (pa,acc,env,st))
 |_=>some (pa,acc,env,st)
theorem Zgr{st st':List Nat}{k:OpK}{env env':ZfY}{pa pa' acc acc':List Bool}(h:Zhf st k env pa acc=some (pa',acc',env',st'))(hb:∀b∈acc',b=true):env'=env∧∀b∈acc,b=true:=by
 unfold Zhf at h
 split at h
 ·split at h
  ·exact Zes h hb
  ·cases h;exact⟨rfl,hb⟩
 ·cases h;exact⟨rfl,hb⟩
def ZgY(st:List Nat)(o:AOp)(env:ZfY)(pa acc:List Bool):ZuX:=
 match o.g with
 |none=>Zhf st o.k env pa acc
 |some p=>match Zhl st env pa acc p.1 with
  |none=>none
  |some (pa1,acc1,env1,st1)=>match ZeJ o env1 with
   |some g=>(match g with |true=>Zhf st1 o.k env1 pa1 acc1 |false=>some (pa1,acc1,env1,st1))
   |none=>none
theorem Zec{st st':List Nat}{o:AOp}{env env':ZfY}{pa pa' acc acc':List Bool}(h:ZgY st o env pa acc=some (pa',acc',env',st'))(hb:∀b∈acc',b=true):env'=env∧∀b∈acc,b=true:=by
 unfold ZgY at h
 split at h
 ·exact Zgr h hb
 ·split at h
  ·cases h
  ·rename_i pa1 acc1 env1 st1 hs
   split at h
   ·split at h
    ·obtain⟨e1,h1⟩:=Zgr h hb
     obtain⟨e2,h2⟩:=Zes hs h1
     exact⟨e1.trans e2,h2⟩
    ·cases h;exact Zes hs hb
   ·cases h
structure Ctr where
 f:FuncId
 n:Nat
 run:List Bool→List AV→Option (Bool×AV×Option Fresh)
def Zps(P:Program)(f:FuncId)(args:List AV)(r:AV)(fr:Option Fresh):Prop:=
 match Nat.blt f 1000000 with
 |true=>Zat P f args r fr
 |false=>∀x rest fs,args=.list x::rest→fr=some fs→ZtY P (f-1000000) fs.e fs.sz x fs.r rest r
def Ctr.OK(P:Program)(c:Ctr):Prop:=∀pa args r fr,c.run pa args=some (true,r,fr)→Zps P c.f args r fr
def Zko:List Ctr→List Bool→Con
 |[],_,_,_=>none
 |c::l,pa,f,args=>match Nat.beq c.f f with
  |true=>(match Nat.blt f 1000000 with
   |true=>(match c.run pa args with |some r=>some r |none=>Zko l pa f args)
   |false=>none)
  |false=>Zko l pa f args
def Ztw:List Ctr→List Bool→FuncId→List AV→Option (Bool×AV×Option Fresh)
 |[],_,_,_=>none
 |c::l,pa,f,args=>match Nat.beq c.f (f+1000000)with
  |true=>(match c.run pa args with |some r=>some r |none=>Ztw l pa f args)
  |false=>Ztw l pa f args
def Zw2:List Ctr→FuncId→Nat
 |[],_=>0
 |c::l,f=>match Nat.beq c.f f with |true=>c.n |false=>Zw2 l f
def Za3(P:Program):List Ctr→Prop
 |[]=>True
 |c::l=>c.OK P∧Za3 P l
theorem Zfr{P:Program} :∀ {l:List Ctr},Za3 P l→∀pa,ZdZ P (Zko l pa)
 |[],_,pa=>fun f args r fr h=>by cases h
 |c::l,⟨h1,h2⟩,pa=>fun f args r fr h=>by
  simp only[Zko]at h
  split at h
  ·rename_i e
   have e:c.f=f:=Nat.eq_of_beq_eq_true e
   split at h
   ·rename_i hlt
    split at h
    ·rename_i q hq
     cases h
     have:=h1 _ _ _ _ hq
     unfold Zps at this
     rw[e,hlt]at this
     exact this
    ·exact Zfr h2 pa f args r fr h
   ·cases h
  ·exact Zfr h2 pa f args r fr h
theorem Zhd{P:Program} :∀ {l:List Ctr},Za3 P l→∀ {pa:List Bool} {f:FuncId} {x:Row} {rest:List AV} {r:AV} {fs:Fresh},Ztw l pa f (.list x::rest)=some (true,r,some fs)→ZtY P f fs.e fs.sz x fs.r rest r
 |[],_,pa,f,x,rest,r,fs,h=>by cases h
 |c::l,⟨h1,h2⟩,pa,f,x,rest,r,fs,h=>by
  simp only[Ztw]at h
  split at h
  ·rename_i e
   have e:c.f=f+1000000:=Nat.eq_of_beq_eq_true e
   split at h
   ·rename_i q hq
    cases h
    have:=h1 _ _ _ _ hq
    unfold Zps at this
    have hb:Nat.blt c.f 1000000=false:=ZbD (by rw[e];exact Nat.le_add_left _ _)
    rw[hb]at this
    have h3:=this x rest fs rfl rfl
    rw[e,Nat.add_sub_cancel]at h3
    exact h3
   ·exact Zhd h2 h
  ·exact Zhd h2 h
theorem ZhN{α:Type}(t:Nat)(x y:α):∀l:List (Nat×α),Zcr (Zcr l t x) t y=Zcr l t y
 |[]=>by have:Nat.beq t t=true:=by simp
         simp only[Zcr,this]
 |(i,z)::l=>by
  have ht:Nat.beq t t=true:=by simp
  cases hb:Nat.beq i t with
  |true=>simp only[Zcr,hb]
  |false=>cases hl:Nat.blt t i with
   |true=>simp only[Zcr,hb,hl,ht]
   |false=>simp only[Zcr,hb,hl,ZhN t x y l]
def Zqb:AV→Option Nat
 | .slc _ _ k n c=>(match Nat.beq k 0,c with |true,none=>some n |_,_=>none)
 |_=>none
theorem ZkN{r:AV}{n a i:Nat}(h:Zqb r=some n):Ztn a i r=.slc a i 0 n none:=by
 unfold Zqb at h
 split at h
 ·rename_i b j k m c
  split at h
  ·rename_i hk
   have:=Nat.eq_of_beq_eq_true hk
   subst this
   cases h;rfl
  ·cases h
 ·cases h
def Zvd(A:Ar)(l:List Ctr)(pa:List Bool)(env:ZfY)(h:Zab)(o:AOp):Option (Bool×AV×Zab):=
 match o.g with
 |some _=>none
 |none=>match o.k with
  | .ncall _ _ g args=>match args.map (Za9 (ZaE env))with
    |v::rest=>match v with
     | .row a i=>match blk h a i with
       | .row e sz x=>match AV.pureL rest&&x.pure with
         |true=>match Ztw l pa g (.list x::rest)with
          |some (b,r,some fs)=>match fs.r.pure&&ZoX r with
           |true=>(match Zqb r,ZjP a,o.d with
            |some n,false,some _=>some (Zag (Nat.ble n (fs.r.len A)) (Zag b (Zag (Nat.beq fs.e e) (Nat.beq fs.sz sz))), .row a (nxt (ZaS h a i (.row e sz fs.r)) a),Zah (ZaS (ZaS h a i (.row e sz fs.r)) a i .dead) a (.row e sz (fs.r.sub A 0 n)))
            |_,_,_=>some (Zag b (Zag (Nat.beq fs.e e) (Nat.beq fs.sz sz)),Ztn a i r,ZaS h a i (.row e sz fs.r)))
           |false=>none
          |_=>none
         |false=>none
       |_=>none
     |_=>none
    |[]=>none
  |_=>none
theorem ZoR{C:Ctx}{l:List Ctr}{pa:List Bool}{h h':Zab}{Q:List AFrame→Zab→Prop}{f:AFrame}{fs:List AFrame}{k:List AItem}{o:AOp}{os:List AOp}{r:AV}(hl:Za3 C.P l)(hr:f.ret=false)(ht:f.todo=.inReg (o::os)::k)(hm:Zvd std l pa f.env h o=some (true,r,h'))
 (hq:Ev C ({ f with env:=ZkY f.env o.d r,todo:=.inReg os::k } ::fs) h' Q):Ev C (f::fs) h Q:=by
 unfold Zvd at hm
 split at hm
 ·cases hm
 ·rename_i hg
  split at hm
  ·rename_i mm a0 g args hk
   split at hm
   ·rename_i v rest ha
    split at hm
    ·rename_i a i
     split at hm
     ·rename_i e sz x hb
      split at hm
      ·rename_i hp
       split at hm
       ·rename_i b r0 fs0 hc
        split at hm
        ·rename_i hp2
         simp only[Bool.and_eq_true]at hp hp2
         split at hm
         ·rename_i n d hpm hfz hd
          simp only[Option.some.injEq,Prod.mk.injEq,std_and]at hm
          obtain⟨⟨hle,rfl,he,hs⟩,rfl,rfl⟩:=hm
          have he:fs0.e=e:=by simpa[std]using he
          have hs:fs0.sz=sz:=by simpa[std]using hs
          have hle:n≤fs0.r.elems.length:=by rw[Row.len_std]at hle;simpa[std]using hle
          have hmu:=Zhd hl hc
          rw[he,hs]at hmu
          have hnd:blk h a i≠ .dead:=by rw[hb];simp
          refine Zj9 hr ht hg hk ha hb hp.2 hp2.1 hp.1 hp2.2 hmu ?_
          rw[ZkN hpm]
          refine Znt (t:=d) (a:=a) (i:=i) (e:=e) (sz:=sz) (n:=n) (r:=fs0.r) ?_ (by rw[Zcm hnd,if_pos ⟨rfl,rfl⟩]) hfz hle ?_
          ·simp only[hd,ZkY,ZbC,if_true]
          ·simp only[hd,ZkY,ZhN]at hq⊢
           exact hq
         ·simp only[Option.some.injEq,Prod.mk.injEq,std_and]at hm
          obtain⟨⟨rfl,he,hs⟩,rfl,rfl⟩:=hm
          have he:fs0.e=e:=by simpa[std]using he
          have hs:fs0.sz=sz:=by simpa[std]using hs
          have hmu:=Zhd hl hc
          rw[he,hs]at hmu
          exact Zj9 hr ht hg hk ha hb hp.2 hp2.1 hp.1 hp2.2 hmu hq
        ·cases hm
       ·cases hm
      ·cases hm
     ·cases hm
    ·cases hm
   ·cases hm
  ·cases hm
def ZpA(o:AOp)(env:ZfY):Option FuncId:=
 match o.k with
 | .ncall _ _ f _=>some f
 | .ncallv _ _ x _=>(match Zo2 (Za9 (ZaE env) x) []with |some (f,_)=>some f |none=>none)
 |_=>none
def Zh8(l:List Ctr)(o:AOp)(env:ZfY)(pa:List Bool):List Bool:=
 match ZpA o env with
 |none=>pa
 |some f=>match ZeJ o env with
  |some g=>(match g with |true=>pa.drop (Zw2 l f) |false=>pa)
  |none=>pa
def Zg1(A:Ar)(T:Tab)(l:List Ctr):List AOp→List Nat→List Bool→List Bool→ZfY→Zab→Option (List Bool×List Bool×ZfY×Zab×List Foot)
 |[],_,pa,acc,env,h=>some (pa,acc,env,h,[])
 |o::os,st,pa,acc,env,h=>match ZgY st o env pa acc with
  |none=>none
  |some (pa1,acc1,env1,st1)=>match Zek A T (Zko l pa1) o env1 h with
   |none=>none
   |some (b,r,h1)=>match Zg1 A T l os (Zxu o.d st1) (Zh8 l o env1 pa1) (b::acc1) (ZkY env1 o.d r) h1 with
    |none=>none
    |some (pa2,acc2,env2,h2,zs)=>some (pa2,acc2,env2,h2,Zgv env1 h o::zs)
def ZjV(fr:List (Nat×Nat))(zs:List Foot):Bool:=match fr with |[]=>true |fr=>ZkP zs fr
abbrev ZqG:=Option (List Bool×List Bool×AFrame×List AFrame×Zab)
def Zim(pa:List Bool):ZmD→ZqG
 |none=>none
 |some (acc,f,fs,h)=>some (pa,acc,f,fs,h)
def ZwY(A:Ar)(T:Tab)(l:List Ctr)(pa acc:List Bool)(f:AFrame)(k:List AItem)(fs:List AFrame)(h:Zab)(fr:List (Nat×Nat))(ops:List AOp):ZqG:=
 match Zig fr with
 |true=>none
 |false=>match ZhR ops with
  |false=>(match Zg1 A T l ops [] pa acc f.env h with
   |none=>none
   |some (pa',acc',env',h',zs)=>match ZjV fr zs with
    |true=>some (pa',acc',{ f with env:=env',todo:=k },fs,h')
    |false=>none)
  |true=>match Zg1 A T l (ops.take (Zb7 ops)) [] pa acc f.env h with
   |none=>none
   |some (pa',acc',env',h',zs)=>match ZjV fr zs with
    |true=>some (pa',acc',{ f with env:=env',todo:=.inReg (ops.drop (Zb7 ops))::k },fs,h')
    |false=>none
def opG(A:Ar)(T:Tab)(l:List Ctr)(pa acc:List Bool)(o:AOp)(os:List AOp)(f:AFrame)(k:List AItem)(fs:List AFrame)(h:Zab):ZqG:=
 match Zvd A l pa f.env h o with
 |some (b,r,h2)=>some (pa,b::acc,{ f with env:=ZkY f.env o.d r,todo:=.inReg os::k },fs,h2)
 |none=>match ZgY [] o f.env pa acc with
 |none=>none
 |some (pa1,acc1,env1,_)=>match opA A T (Zko l pa1) acc1 o os { f with env:=env1 } k fs h with
  |none=>none
  |some (acc2,f2,fs2,h2)=>some (Zh8 l o env1 pa1,acc2,f2,fs2,h2)
def Zsl(pa acc:List Bool)(f:AFrame)(k:List AItem)(fs:List AFrame)(h:Zab)(v:AV)(a b:ACode):ZqG:=
 match v with
 | .bool t=>(match pa with
   |p::ps=>some (ps,asB p t::acc,{ f with todo:=.code (ZuZ p a b)::k },fs,h)
   |[]=>none)
 |_=>none
def ZnB(A:Ar)(T:Tab)(l:List Ctr)(pa acc:List Bool)(f:AFrame)(fs:List AFrame)(h:Zab):ZqG:=
 match f.ret with
 |true=>Zim pa (ZeQ A T (Zko l pa) acc f fs h)
 |false=>match f.todo with
  |[]=>Zim pa (ZeQ A T (Zko l pa) acc f fs h)
  |it::k=>match it with
   | .inReg os=>(match os with
     |[]=>Zim pa (ZeQ A T (Zko l pa) acc f fs h)
     |o::os=>opG A T l pa acc o os f k fs h)
   | .code c=>(match c with
     | .cond c a b=>Zsl pa acc f k fs h (Za9 (ZaE f.env) c) a b
     | .reg d ops=>(match d with
       |some fr=>ZwY A T l pa acc f k fs h fr ops
       |none=>Zim pa (ZeQ A T (Zko l pa) acc f fs h))
     |_=>Zim pa (ZeQ A T (Zko l pa) acc f fs h))
   |_=>Zim pa (ZeQ A T (Zko l pa) acc f fs h)
def ZfU(A:Ar)(T:Tab)(l:List Ctr):Nat→List Bool→List Bool→AFrame→List AFrame→Zab→Option ASt
 |0,_,acc,f,fs,h=>some (acc,f,fs,h)
 |n+1,pa,acc,f,fs,h=>match ZnB A T l pa acc f fs h with
  |none=>none
  |some (pa',acc',f',fs',h')=>ZfU A T l n pa' acc' f' fs' h'
section
variable {C:Ctx}{T:Tab}{l:List Ctr}{h h':Zab}{f f':AFrame}{fs fs':List AFrame}{k:List AItem}{Q:List AFrame→Zab→Prop}{pa pa' acc acc':List Bool}
theorem ZdM:∀ {os:List AOp} {st:List Nat} {pa pa' acc acc':List Bool} {env env':ZfY} {h h':Zab} {zs:List Foot},Zg1 std T l os st pa acc env h=some (pa',acc',env',h',zs)→(∀b∈acc',b=true)→∀b∈acc,b=true
 |[],st,pa,pa',acc,acc',env,env',h,h',zs,hd,hb=>by simp only[Zg1,Option.some.injEq,Prod.mk.injEq]at hd;obtain⟨_,rfl,_⟩:=hd;exact hb
 |o::os,st,pa,pa',acc,acc',env,env',h,h',zs,hd,hb=>by
  simp only[Zg1]at hd
  split at hd
  ·cases hd
  ·rename_i hs
   split at hd
   ·cases hd
   ·split at hd
    ·cases hd
    ·rename_i hr
     cases hd
     have:=ZdM hr hb
     exact(Zec hs (fun b hb'=>this b (List.mem_cons_of_mem _ hb'))).2
theorem Zdo(hT:Zbm C.P T)(hl:Za3 C.P l):∀ {os:List AOp} {st:List Nat} {pa pa' acc acc':List Bool} {env env':ZfY} {h h':Zab} {zs:List Foot},Zg1 std T l os st pa acc env h=some (pa',acc',env',h',zs)→(∀b∈acc',b=true)→zs.map (·.o)=os∧Runs C.P zs (ZaE env) h (ZaE env') h'
 |[],st,pa,pa',acc,acc',env,env',h,h',zs,hd,_=>by simp only[Zg1,Option.some.injEq,Prod.mk.injEq]at hd;obtain⟨_,_,rfl,rfl,rfl⟩:=hd;exact⟨rfl, .nil _ _⟩
 |o::os,st,pa,pa',acc,acc',env,env',h,h',zs,hd,hb=>by
  simp only[Zg1]at hd
  split at hd
  ·cases hd
  ·rename_i pa1 acc1 env1 st1 hs
   split at hd
   ·cases hd
   ·rename_i b r h1 ho
    split at hd
    ·cases hd
    ·rename_i hr
     cases hd
     have ha:=ZdM hr hb
     obtain⟨i1,i2⟩:=Zdo hT hl hr hb
     obtain⟨e,_⟩:=Zec hs (fun b hb'=>ha b (List.mem_cons_of_mem _ hb'))
     subst e
     have hbt:=ha b List.mem_cons_self
     subst hbt
     rw[ZcL]at i2
     have:=Zck hT (Zfr hl pa1) ho
     exact⟨by simp[Zgv,i1], .cons ⟨this,fun x hx p hp=>by simp only[Zgv,List.mem_flatMap];exact⟨x,hx,hp⟩,ZhL this⟩ i2⟩
theorem ZfV{fr:List (Nat×Nat)}{zs:List Foot}(hb:ZjV fr zs=true):∀(i j:Nat) (x z:Foot),(i,j)∈fr→zs[i]? =some x→zs[j]? =some z→Zk0 x z:=by
 unfold ZjV at hb
 split at hb
 ·intro i j x z hm;simp at hm
 ·exact Zeb hb
def Zl8(C:Ctx)(Q:List AFrame→Zab→Prop)(acc:List Bool)(f:AFrame)(fs:List AFrame)(h:Zab)(r:ZqG):Prop:=
 ∀pa' acc' f' fs' h',r=some (pa',acc',f',fs',h')→(∀b∈acc',b=true)→Ev C (f'::fs') h' Q→(∀b∈acc,b=true)∧Ev C (f::fs) h Q
theorem Zi9{r:ZmD}(hs:ZfT C Q acc f fs h r):Zl8 C Q acc f fs h (Zim pa r):=by
 intro pa' acc' f' fs' h' he hb hq
 cases r with
 |none=>cases he
 |some p=>obtain⟨a,b,c,d⟩:=p;cases he;exact hs _ _ _ _ rfl hb hq
theorem ZfW(hfol:C.P.follows .mixedOrders=true)(hT:Zbm C.P T)(hl:Za3 C.P l):Zl8 C Q acc f fs h (ZnB std T l pa acc f fs h):=by
 have base:Zl8 C Q acc f fs h (Zim pa (ZeQ std T (Zko l pa) acc f fs h)):=Zi9 (Zfc hfol hT (Zfr hl pa))
 unfold ZnB
 split
 ·exact base
 ·rename_i hr
  split
  ·exact base
  ·rename_i it k ht
   split
   ·split
    ·exact base
    ·rename_i o os
     intro pa' acc' f' fs' h' he hb hq
     unfold opG at he
     split at he
     ·rename_i bm rm hm2 hmr
      cases he
      have hbt:=hb bm List.mem_cons_self
      subst hbt
      exact⟨fun b hb'=>hb b (List.mem_cons_of_mem _ hb'),ZoR hl hr ht hmr hq⟩
     split at he
     ·cases he
     ·rename_i pa1 acc1 env1 st1 hs
      split at he
      ·cases he
      ·rename_i acc2 f2 fs2 h2 ho
       cases he
       have key:(∀b∈acc1,b=true)→env1=f.env∧∀b∈acc,b=true:=fun h1=>Zec hs h1
       have hsd:=ZhT (Q:=Q) hT (Zfr hl pa1) (f:={ f with env:=env1 }) (acc:=acc1) (fs:=fs) (h:=h) (k:=k) (o:=o) (os:=os) hr ht _ _ _ _ ho hb hq
       obtain⟨e,h3⟩:=key hsd.1
       refine⟨h3,?_⟩
       have:=hsd.2
       rw[e]at this
       exact this
   ·rename_i c
    split
    ·rename_i c a b
     intro pa' acc' f' fs' h' he hb hq
     unfold Zsl at he
     split at he
     ·rename_i t hc
      split at he
      ·rename_i p ps
       cases he
       have:=Zod (hb _ List.mem_cons_self)
       subst this
       exact⟨fun b hb'=>hb b (List.mem_cons_of_mem _ hb'),Zjd hr ht hc (by cases t<;>exact hq)⟩
      ·cases he
     ·cases he
    ·split
     ·rename_i ops fr
      intro pa' acc' f' fs' h' he hb hq
      unfold ZwY at he
      split at he
      ·cases he
      rename_i hany
      split at he
      ·rename_i hni
       split at he
       ·cases he
       ·rename_i pa1 acc1 env1 h1 zs hd
        split at he
        ·rename_i hfree
         cases he
         obtain⟨d1,d2⟩:=Zdo hT hl hd hb
         have hc:=Zd1 hni
         refine⟨ZdM hd hb,Zhi hfol hany hr ht (by rw[hc,List.take_length];exact d1) (fun i j x z hm hx hz _=>ZfV hfree i j x z hm hx hz) d2 (fun _ _ e=>e) ?_⟩
         rw[hc,List.drop_length]
         exact Zfu hr rfl hq
        ·cases he
      ·split at he
       ·cases he
       ·rename_i pa1 acc1 env1 h1 zs hd
        split at he
        ·rename_i hfree
         cases he
         obtain⟨d1,d2⟩:=Zdo hT hl hd hb
         exact⟨ZdM hd hb,Zhi hfol hany hr ht d1 (fun i j x z hm hx hz _=>ZfV hfree i j x z hm hx hz) d2 (fun _ _ e=>e) hq⟩
        ·cases he
     ·exact base
    ·exact base
   ·exact base
theorem Zbq(hfol:C.P.follows .mixedOrders=true)(hT:Zbm C.P T)(hl:Za3 C.P l):∀(n:Nat) {pa acc:List Bool} {f:AFrame} {fs:List AFrame} {h:Zab},ZfT C Q acc f fs h (ZfU std T l n pa acc f fs h)
 |0,pa,acc,f,fs,h=>by
  intro acc' f' fs' h' he hb hq
  simp only[ZfU,Option.some.injEq,Prod.mk.injEq]at he
  obtain⟨rfl,rfl,rfl,rfl⟩:=he
  exact⟨hb,hq⟩
 |n+1,pa,acc,f,fs,h=>by
  intro acc' f' fs' h' he hb hq
  simp only[ZfU]at he
  split at he
  ·cases he
  ·rename_i pa1 acc1 f1 fs1 h1 hs
   obtain⟨hb1,hq1⟩:=Zbq hfol hT hl n _ _ _ _ he hb hq
   exact ZfW hfol hT hl _ _ _ _ _ hs hb1 hq1
end
end Go.Proofs.YtkeoeooghhjibaaDoor
/- Tracked blocks are named anew: those that nothing names are dropped, the others are counted from 0. No condition. -/
namespace Go.Proofs.YtkeoeooghhjibaaDoor
open Go.RowKit (Below)
mutual
def AV.ren(σ:Nat→Nat→Option Nat):AV→AV
 | .ptr a i k o=>match σ a i with |some j=>.ptr a j k o |none=>.top
 | .row a i=>match σ a i with |some j=>.row a j |none=>.top
 | .slc a i k n c=>match σ a i with |some j=>.slc a j k n c |none=>.top
 | .aslc a i k o n=>match σ a i with |some j=>.aslc a j k o n |none=>.top
 | .yld a i=>match σ a i with |some j=>.yld a j |none=>.top
 | .mp a i=>match σ a i with |some j=>.mp a j |none=>.top
 | .emp=>.emp
 | .agg r=>.agg (Row.ren σ r)
 | .tup xs=>.tup (AV.renL σ xs)
 | .fn f xs=>.fn f (AV.renL σ xs)
 | .int k n=>.int k n
 | .bool b=>.bool b
 | .str s=>.str s
 | .flt k b=>.flt k b
 | .val v=>.val v
 | .nils=>.nils
 | .list r=>.list r
 | .eptr x o=>.eptr x o
 | .und=>.und
 | .top=>.top
def AV.renL(σ:Nat→Nat→Option Nat):List AV→List AV
 |[]=>[]
 |x::xs=>AV.ren σ x::AV.renL σ xs
def Row.ren(σ:Nat→Nat→Option Nat):Row→Row
 | .gen xs=>.gen (AV.renL σ xs)
 | .ints k l=>.ints k l
 | .flts k l=>.flts k l
 | .big sh xs=>.big sh xs
end
section
variable {σ:Nat→Nat→Option Nat}
theorem Ze1:∀xs:List AV,AV.renL σ xs=xs.map (AV.ren σ)
 |[]=>rfl
 |x::xs=>by rw[AV.renL,Ze1 xs];rfl
theorem ZhI(s:Sh)(v:AV):AV.ren σ (s.view1 v)=s.view1 v:=by cases s<;>rfl
theorem ZhF:∀(ss:List Sh) (i:Nat) (v:AV),AV.renL σ (Zdm ss i v)=Zdm ss i v
 |[],_,_=>rfl
 |s::ss,i,v=>by rw[Zdm,AV.renL,ZhI,ZhF ss]
theorem ZmQ(s:Sh)(v:AV):AV.ren σ (s.view v)=s.view v:=by
 cases s with
 |agg ss=>simp only[Sh.view,AV.ren,Row.ren,ZhF]
 |_=>simp only[Sh.view];exact ZhI _ _
theorem ZbJ(r:Row):(Row.ren σ r).elems=r.elems.map (AV.ren σ):=by
 cases r with
 |gen xs=>rw[Row.ren,Row.elems,Row.elems,Ze1]
 |ints k l=>rw[Row.ren,Row.elems,List.map_map];rfl
 |flts k l=>rw[Row.ren,Row.elems,List.map_map];rfl
 |big sh xs=>rw[Row.ren,Row.elems,List.map_map];exact List.map_congr_left fun v _=>(ZmQ sh v).symm
theorem ZjW(v:AV):(AV.ren σ v).flat=v.flat.map (AV.ren σ):=by
 cases v with
 |agg r=>simp only[AV.ren,AV.flat,ZbJ]
 |ptr a i k o=>simp only[AV.ren];split<;>simp_all[AV.flat,AV.ren]
 |row a i=>simp only[AV.ren];split<;>simp_all[AV.flat,AV.ren]
 |slc a i k n c=>simp only[AV.ren];split<;>simp_all[AV.flat,AV.ren]
 |aslc a i k o n=>simp only[AV.ren];split<;>simp_all[AV.flat,AV.ren]
 |yld a i=>simp only[AV.ren];split<;>simp_all[AV.flat,AV.ren]
 |mp a i=>simp only[AV.ren];split<;>simp_all[AV.flat,AV.ren]
 |_=>rfl
theorem Zji(xs:List AV):Zaf (xs.map (AV.ren σ))=(Zaf xs).map (AV.ren σ):=by
 induction xs with
 |nil=>rfl
 |cons x xs ih=>rw[List.map_cons,ZaA,ZaA,List.map_append,ih,ZjW]
end
structure Good (h:Zab) (L:Lay) (h':Zab) (L':Lay) (σ:Nat→Nat→Option Nat):Prop where
 fwd:∀a i j,σ a i=some j→j<nxt h' a∧(∀sz,(blk h' a j).tag=some sz→(blk h a i).tag=some sz)∧L'.loc a j=L.loc a i∧L'.size a j=L.size a i
 bwd:∀a j,(blk h' a j).tag≠none→∃i,(blk h a i).tag≠none∧L'.loc a j=L.loc a i
section
variable {C:Ctx}{h h':Zab}{L L':Lay}{w:World}{σ:Nat→Nat→Option Nat}{ok ok':Nat→Prop}
theorem Good.okk(G:Good h L h' L' σ){g:Nat}(ho:Zap C h L g):Zap C h' L' g:=by
 rcases ho with ho |⟨h1,h2⟩
 ·exact .inl ho
 ·refine .inr ⟨h1,fun a j ht e=>?_⟩
  obtain⟨i,hi,hl⟩:=G.bwd a j ht
  exact h2 a i hi (hl.symm.trans e)
theorem Live.ren(G:Good h L h' L' σ){a i j:Nat}(hs:σ a i=some j){p p':Nat→Nat×Nat→Prop}(hl:Live h L a i p)(hp:∀sz,L'.size a j=L.size a i→p (L.loc a i) sz→p' (L.loc a i) sz):Live h' L' a j p':=by
 obtain⟨g1,g2,g3,g4⟩:=G.fwd a i j hs
 exact⟨g1,fun sz ht=>by rw[g3];exact hp sz g4 (hl.2 sz (g2 sz ht))⟩
theorem Rel.ren(G:Good h L h' L' σ)(hok:∀g,ok g→ok' g){av:AV}{v:Value}(hr:Rel w ok h L av v):Rel w ok' h' L' (AV.ren σ av) v:=by
 induction hr with
 |int k n=>exact .int k n
 |bool b=>exact .bool b
 |str x=>exact .str x
 |flt k b=>exact .flt k b
 |val v=>exact .val v
 |nils=>exact .nils
 |nil r a c hr=>exact .nil r a c hr
 |list r xs hx ad n cap sz cs hb ho hn hcap hsz hl h1 hc hp hr ih=>
  exact .list r xs hx ad n cap sz cs hb (hok _ ho) hn hcap hsz hl h1 hc hp (fun j u v hu hv=>((hr j u v hu hv).okmono (fun g _ ho=>hok g ho)).pure (AV.pureL_mem hp hu))
 |eptr x off ad cs hs hb ho hl h1 hc hp hr ih=>
  exact .eptr x off ad cs hs hb (hok _ ho) hl h1 hc hp (fun j u v hu hv=>((hr j u v hu hv).okmono (fun g _ ho=>hok g ho)).pure (AV.pureL_mem hp hu))
 |agg r xs hx vs hl h1 hr ih=>
  rw[AV.ren]
  refine .agg _ (xs.map (AV.ren σ)) (by rw[ZbJ,hx]) vs (by simpa using hl) h1 (fun j u v hu hv=>?_)
  rw[List.getElem?_map]at hu
  cases hxj:xs[j]? with
  |none=>rw[hxj]at hu;cases hu
  |some z=>rw[hxj]at hu;simp only[Option.map_some,Option.some.injEq]at hu;subst hu;exact ih j z v hxj hv
 |tup xs vs hl hr ih=>
  rw[AV.ren,Ze1]
  refine .tup _ vs (by simpa using hl) (fun j u v hu hv=>?_)
  rw[List.getElem?_map]at hu
  cases hxj:xs[j]? with
  |none=>rw[hxj]at hu;cases hu
  |some z=>rw[hxj]at hu;simp only[Option.map_some,Option.some.injEq]at hu;subst hu;exact ih j z v hxj hv
 |fn f xs vs hl hr ih=>
  rw[AV.ren,Ze1]
  refine .fn f _ vs (by simpa using hl) (fun j u v hu hv=>?_)
  rw[List.getElem?_map]at hu
  cases hxj:xs[j]? with
  |none=>rw[hxj]at hu;cases hu
  |some z=>rw[hxj]at hu;simp only[Option.map_some,Option.some.injEq]at hu;subst hu;exact ih j z v hxj hv
 |ptr a i k off g o hl=>
  rw[AV.ren]
  cases hs:σ a i with
  |none=>exact .top _
  |some j=>exact .ptr a j k off g o (hl.ren G hs fun _ _ h=>h)
 |row a i g o n c hn hl=>
  rw[AV.ren]
  cases hs:σ a i with
  |none=>exact .top _
  |some j=>exact .row a j g o n c hn (hl.ren G hs fun _ e h=>by rw[e];exact h)
 |slc a i k n cap g o c hn hl=>
  rw[AV.ren]
  cases hs:σ a i with
  |none=>exact .top _
  |some j=>exact .slc a j k n cap g o c hn (hl.ren G hs fun _ e h=>by rw[e];exact h)
 |aslc a i k off n g o c hn hl=>
  rw[AV.ren]
  cases hs:σ a i with
  |none=>exact .top _
  |some j=>exact .aslc a j k off n g o c hn (hl.ren G hs fun _ _ h=>h)
 |yld a i g hl=>
  rw[AV.ren]
  cases hs:σ a i with
  |none=>exact .top _
  |some j=>exact .yld a j g (hl.ren G hs fun _ _ h=>h)
 |mp a i g hl=>
  rw[AV.ren]
  cases hs:σ a i with
  |none=>exact .top _
  |some j=>exact .mp a j g (hl.ren G hs fun _ _ h=>h)
 |emp ad=>exact .emp ad
 |und=>exact .und
 |top v=>exact .top v
def Zfw(σ:Nat→Nat→Option Nat):ZfY→ZfY
 |[]=>[]
 |(t,v)::l=>(t,AV.ren σ v)::Zfw σ l
theorem Zfb:∀(env:ZfY) (t:Nat),ZaE (Zfw σ env) t=(ZaE env t).map (AV.ren σ)
 |[],t=>rfl
 |(i,x)::l,t=>by
  simp only[Zfw,ZaE]
  split
  ·rfl
  ·exact Zfb l t
theorem EnvRel.ren(G:Good h L h' L' σ){env:ZfY}{tmps:Array Value}(he:EnvRel C h L w env tmps):EnvRel C h' L' w (Zfw σ env) tmps:=by
 intro t av ht
 rw[Zfb]at ht
 cases hx:ZaE env t with
 |none=>rw[hx]at ht;cases ht
 |some u=>rw[hx]at ht;simp only[Option.map_some,Option.some.injEq]at ht;subst ht;exact(he t u hx).ren G (fun g ho=>G.okk ho)
def Blk.ren(σ:Nat→Nat→Option Nat):Blk→Blk
 | .row e sz r=>.row e sz (Row.ren σ r)
 | .lp l=>.lp { l with env:=Zfw σ l.env }
 | .dfr=>.dfr
 | .mp ks=>.mp ks
 | .dead=>.dead
theorem Blk.ren_tag(b:Blk):(b.ren σ).tag=b.tag:=by
 cases b with
 |row e sz r=>simp only[Blk.ren,Blk.tag,ZbJ,List.length_map]
 |_=>rfl
theorem BRel.ren(G:Good h L h' L' σ){g n:Nat}{b:Blk}(hb:BRel C h L w g n b):BRel C h' L' w g n (b.ren σ):=by
 cases b with
 |row e sz r=>
  obtain⟨h0,h1,h2,h3,cur,h4,h5,h6,h7⟩:=hb
  refine⟨h0,h1,by rw[ZbJ,List.length_map];exact h2,fun x hx=>?_,cur,h4,h5,?_,by rw[ZbJ,List.length_map];exact h7⟩
  ·rw[ZbJ]at hx
   obtain⟨y,hy,rfl⟩:=List.mem_map.1 hx
   rw[ZjW,List.length_map];exact h3 y hy
  ·rw[ZbJ,List.length_map,Zji]
   refine⟨by rw[List.length_map];exact h6.1,fun j u v hu hv=>?_⟩
   rw[List.getElem?_map]at hu
   cases hx:(Zaf r.elems)[j]? with
   |none=>rw[hx]at hu;cases hu
   |some z=>rw[hx]at hu;simp only[Option.map_some,Option.some.injEq]at hu;subst hu;exact(h6.2 j z v hx hv).ren G (fun g ho=>G.okk ho)
 |lp l=>
  obtain⟨r,h1,h2,h3,h4,h5,h6,h7,h8,h9⟩:=hb
  exact⟨r,h1,h2,h3,h4,h5.ren G,h6,h7,h8,h9⟩
 |dfr=>exact hb
 |mp ks=>exact hb
 |dead=>trivial
def Znl(σ:Nat→Nat→Option Nat):AItem→Option AItem
 | .inRF a i=>match σ a i with |some j=>some (.inRF a j) |none=>none
 | .endRF a i=>match σ a i with |some j=>some (.endRF a j) |none=>none
 | .code c=>some (.code c)
 | .inBlock i=>some (.inBlock i)
 | .inLoop b=>some (.inLoop b)
 | .inReg os=>some (.inReg os)
 | .beginRound=>some .beginRound
def Zgz(σ:Nat→Nat→Option Nat):List AItem→Option (List AItem)
 |[]=>some []
 |x::k=>match Znl σ x with
  |none=>none
  |some y=>match Zgz σ k with |some l=>some (y::l) |none=>none
def ZnR(σ:Nat→Nat→Option Nat):List (Nat×Nat)→Option (List (Nat×Nat))
 |[]=>some []
 |(a,i)::k=>match σ a i with
  |none=>none
  |some j=>match ZnR σ k with |some l=>some ((a,j)::l) |none=>none
def Zn9(σ:Nat→Nat→Option Nat):Option (Nat×Nat)→Option (Option (Nat×Nat))
 |none=>some none
 |some (a,i)=>match σ a i with |some j=>some (some (a,j)) |none=>none
def Zop:AItem→Bool
 | .inRF _ _=>false
 | .endRF _ _=>false
 |_=>true
def Zdu:List AItem→Bool
 |[]=>true
 |x::k=>match Zop x with |true=>Zdu k |false=>false
def Zvb(σ:Nat→Nat→Option Nat)(f:AFrame):Option AFrame:=
 match ZnR σ f.defs with
 |none=>none
 |some ds=>match Zn9 σ f.rnd with
  |none=>none
  |some rd=>match Zdu f.todo with
   |true=>some { f with env:=Zfw σ f.env,defs:=ds,rnd:=rd }
   |false=>match Zgz σ f.todo with
    |none=>none
    |some td=>some { f with env:=Zfw σ f.env,todo:=td,defs:=ds,rnd:=rd }
def Zml(σ:Nat→Nat→Option Nat):List AFrame→Option (List AFrame)
 |[]=>some []
 |f::fs=>match Zvb σ f with
  |none=>none
  |some g=>match Zml σ fs with |some gs=>some (g::gs) |none=>none
theorem ItRel.ren{P:Program}{N:Nat}(G:Good h L h' L' σ){x x':AItem}{y:Item}(hr:Znl σ x=some x')(hx:ItRel P h L N x y):ItRel P h' L' N x' y:=by
 cases hx with
 |code a c hm=>cases hr;exact .code a c hm
 |inBlock id=>cases hr;exact .inBlock id
 |inLoop a c hm=>cases hr;exact .inLoop a c hm
 |inReg ops k aos hm=>cases hr;exact .inReg ops k aos hm
 |beginRound=>cases hr;exact .beginRound
 |inRF a i g hl=>
  simp only[Znl]at hr
  split at hr
  ·rename_i j hs;cases hr;exact .inRF a j g (hl.ren G hs fun _ _ h=>h)
  ·cases hr
 |endRF a i g hl=>
  simp only[Znl]at hr
  split at hr
  ·rename_i j hs;cases hr;exact .endRF a j g (hl.ren G hs fun _ _ h=>h)
  ·cases hr
theorem ItsRel.ren{P:Program}{N:Nat}(G:Good h L h' L' σ):∀ {x x':List AItem} {y:List Item},Zgz σ x=some x'→ItsRel P h L N x y→ItsRel P h' L' N x' y
 |[],x',y,hr,hx=>by cases hx;cases hr;exact .nil
 |x::k,x',y,hr,hx=>by
  cases hx with
  |cons hx hk=>
   simp only[Zgz]at hr
   split at hr
   ·cases hr
   ·rename_i z hz
    split at hr
    ·rename_i l hl;cases hr;exact .cons (hx.ren G hz) (ItsRel.ren G hl hk)
    ·cases hr
theorem ZhC:∀ {x:List AItem},Zdu x=true→Zgz σ x=some x
 |[],_=>rfl
 |x::k,hp=>by
  simp only[Zdu]at hp
  split at hp
  ·rename_i h1
   simp only[Zgz,ZhC hp]
   cases x<;>first |rfl |cases h1
  ·cases hp
theorem Zf7(G:Good h L h' L' σ){p:Nat→Nat×Nat→Prop} :∀ {l l':List (Nat×Nat)},ZnR σ l=some l'→l'.length=l.length∧∀(j:Nat) (d:Nat×Nat),l'[j]? =some d→∃d0:Nat×Nat,l[j]? =some d0∧d0.1=d.1∧σ d0.1 d0.2=some d.2
 |[],l',hr=>by cases hr;exact⟨rfl,fun j d hd=>by simp at hd⟩
 |(a,i)::k,l',hr=>by
  simp only[ZnR]at hr
  split at hr
  ·cases hr
  ·rename_i j hs
   split at hr
   ·rename_i l hl
    cases hr
    obtain⟨h1,h2⟩:=Zf7 (p:=p) G hl
    refine⟨by simp[h1],fun q d hd=>?_⟩
    cases q with
    |zero=>simp at hd;subst hd;exact⟨(a,i),rfl,rfl,hs⟩
    |succ q=>obtain⟨d0,e1,e2,e3⟩:=h2 q d (by simpa using hd);exact⟨d0,by simpa using e1,e2,e3⟩
   ·cases hr
theorem FrRel.ren(G:Good h L h' L' σ){af af':AFrame}{fr:Frame}(hr:Zvb σ af=some af')(hf:FrRel C h L w af fr):FrRel C h' L' w af' fr:=by
 unfold Zvb at hr
 split at hr
 ·cases hr
 ·rename_i ds hds
  split at hr
  ·cases hr
  ·rename_i rd hrd
   have hd:DefRel h' L' ds fr.defers:=by
    obtain⟨gs,h1,h2,h3⟩:=hf.defs
    obtain⟨e1,e2⟩:=Zf7 (p:=fun _ _=>True) G hds
    refine⟨gs,h1,h2.trans e1.symm,fun j d g hd hg=>?_⟩
    obtain⟨d0,q1,q2,q3⟩:=e2 j d hd
    obtain⟨d1,d2⟩:=d
    obtain⟨d3,d4⟩:=d0
    simp only at q2 q3
    subst q2
    exact(h3 j _ g q1 hg).ren G q3 fun _ _ h=>h
   have hn:RndRel h' L' rd fr.roundOf∧(rd=none→af.rnd=none):=by
    have hrn:=hf.rnd
    unfold Zn9 at hrd
    split at hrd
    ·rename_i e;cases hrd;rw[e]at hrn;exact⟨hrn,fun _=>e⟩
    ·rename_i a i e
     rw[e]at hrn
     split at hrd
     ·rename_i j hs;cases hrd
      obtain⟨g,hg,hl⟩:=hrn
      exact⟨⟨g,hg,hl.ren G hs fun _ _ h=>h⟩,fun e=>by cases e⟩
     ·cases hrd
   split at hr
   ·rename_i hp
    cases hr
    exact⟨hf.fn,hf.size,hf.env.ren G,hf.kind,hd,hn.1,hf.mode.imp id fun⟨a,b,c⟩=>⟨a,b,c.ren G (ZhC hp)⟩,fun e=>hf.res (hn.2 e)⟩
   ·split at hr
    ·cases hr
    ·rename_i td htd
     cases hr
     exact⟨hf.fn,hf.size,hf.env.ren G,hf.kind,hd,hn.1,hf.mode.imp id fun⟨a,b,c⟩=>⟨a,b,c.ren G htd⟩,fun e=>hf.res (hn.2 e)⟩
theorem FrsRel.ren(G:Good h L h' L' σ):∀ {afs afs':List AFrame} {cs:List Frame},Zml σ afs=some afs'→FrsRel C h L w afs cs→FrsRel C h' L' w afs' cs
 |[],afs',cs,hr,hf=>by cases hf;cases hr;exact .base
 |f::fs,afs',cs,hr,hf=>by
  cases hf with
  |cons hf hk=>
   simp only[Zml]at hr
   split at hr
   ·cases hr
   ·rename_i g hg
    split at hr
    ·rename_i gs hgs;cases hr;exact .cons (hf.ren G hg) (FrsRel.ren G hgs hk)
    ·cases hr
end
abbrev Zo5:=List (Nat×Nat×List Blk)
def Ztf:Blk→Bool
 | .dead=>true
 |_=>false
def Zja(R:List (Nat×Nat))(a:Nat):Nat→List Blk→List Blk
 |_,[]=>[]
 |i,b::l=>match(match Zoa (a,i) R with |true=>b |false=>.dead),Zja R a (i+1) l with
  | .dead,[]=>[]
  |b',l'=>b'::l'
def Zlo:Nat→List Blk→Nat×List Blk
 |n,[]=>(n,[])
 |n,b::l=>match Ztf b with |true=>Zlo (n+1) l |false=>(n,b::l)
def ZiE(R:List (Nat×Nat))(a:Nat)(f:Fam):Nat×List Blk:=Zlo f.base (Zja R a f.base f.blks)
def Za1(R:List (Nat×Nat)):Zab→Zo5
 |[]=>[]
 |(a,f)::rest=>match ZiE R a f with
  |(s,l)=>(match l,ZaE rest a with
   |[],none=>Za1 R rest
   |l,_=>(a,s,l)::Za1 R rest)
def ZkA(t:Zo5)(a i:Nat):Option Nat:=
 match ZaE t a with
 |none=>none
 |some p=>match Nat.ble p.1 i with
  |false=>none
  |true=>match Ztf (p.2.getD (i-p.1) .dead)with |true=>none |false=>some (i-p.1)
def Zf5(σ:Nat→Nat→Option Nat):Zo5→Zab
 |[]=>[]
 |(a,_,l)::t=>(a,⟨0,l.map (Blk.ren σ)⟩)::Zf5 σ t
def Zla(t:Zo5)(L:Lay):Lay:=⟨fun a j=>L.loc a (j+match ZaE t a with |some p=>p.1 |none=>0),fun a j=>L.size a (j+match ZaE t a with |some p=>p.1 |none=>0)⟩
theorem Zgx{R:List (Nat×Nat)}{a:Nat} :∀(l:List Blk) (i j:Nat),(Zja R a i l).getD j .dead=.dead∨(Zja R a i l).getD j .dead=l.getD j .dead
 |[],i,j=>.inl (by simp[Zja])
 |b::l,i,j=>by
  have ih:=Zgx (R:=R) (a:=a) l (i+1)
  simp only[Zja]
  split
  ·left;simp
  ·cases j with
   |zero=>
    simp only[List.getD_cons_zero]
    split
    ·right;rfl
    ·left;rfl
   |succ j=>simp only[List.getD_cons_succ];exact ih j
theorem ZgR:∀(l:List Blk) (n j:Nat),∃d,(Zlo n l).1=n+d∧(Zlo n l).2.getD j .dead=l.getD (j+d) .dead
 |[],n,j=>⟨0,rfl,rfl⟩
 |b::l,n,j=>by
  simp only[Zlo]
  split
  ·obtain⟨d,h1,h2⟩:=ZgR l (n+1) j
   exact⟨d+1,by rw[h1];omega,by rw[h2,←Nat.add_assoc,List.getD_cons_succ]⟩
  ·exact⟨0,rfl,rfl⟩
theorem Zgc{R:List (Nat×Nat)} :∀ {h:Zab} {a:Nat} {p:Nat×List Blk},ZaE (Za1 R h) a=some p→∃f,ZaE h a=some f∧ZiE R a f=p
 |[],a,p,h=>by cases h
 |(b,f)::rest,a,p,h=>by
  have ih:= @Zgc R rest a p
  have hb:∀x y:Nat,Nat.beq x y=decide (x=y):=fun x y=>by rw[Bool.eq_iff_iff];simp
  simp only[Za1]at h
  split at h
  ·rename_i hl hr
   obtain⟨f',h1,h2⟩:=ih h
   refine⟨f',?_,h2⟩
   simp only[ZaE,hb]
   by_cases hba:b=a
   ·subst hba;rw[hr]at h1;cases h1
   ·simp only[hba,decide_false];exact h1
  ·simp only[ZaE,hb]at h⊢
   by_cases hba:b=a
   ·subst hba;simp only[decide_true,Option.some.injEq]at h ⊢;exact⟨f,rfl,h⟩
   ·simp only[hba,decide_false]at h ⊢;exact ih h
theorem ZgW{σ:Nat→Nat→Option Nat} :∀(t:Zo5) (a:Nat),ZaE (Zf5 σ t) a=(ZaE t a).map fun p=>⟨0,p.2.map (Blk.ren σ)⟩
 |[],a=>rfl
 |(b,s,l)::t,a=>by
  simp only[Zf5,ZaE]
  split
  ·rfl
  ·exact ZgW t a
theorem ZcG{σ:Nat→Nat→Option Nat}(t:Zo5)(a j:Nat):blk (Zf5 σ t) a j=Blk.ren σ (match ZaE t a with |some p=>p.2.getD j .dead |none=>.dead)∧nxt (Zf5 σ t) a=match ZaE t a with |some p=>p.2.length |none=>0:=by
 unfold blk nxt fam
 rw[ZgW]
 cases ZaE t a with
 |none=>simp[Fam.get,ZbD,Blk.ren]
 |some p=>
  simp only[Option.map_some,Option.getD_some,Fam.get,ZbD (Nat.zero_le _),Nat.sub_zero,List.length_map,Nat.zero_add,and_true]
  simp only[List.getD_eq_getElem?_getD,List.getElem?_map]
  cases p.2[j]?<;>rfl
theorem Zcx{R:List (Nat×Nat)}{h:Zab}{a:Nat}{p:Nat×List Blk}(hp:ZaE (Za1 R h) a=some p)(j:Nat):p.2.getD j .dead=.dead∨p.2.getD j .dead=blk h a (j+p.1):=by
 obtain⟨f,h1,h2⟩:=Zgc hp
 unfold ZiE at h2
 obtain⟨d,e1,e2⟩:=ZgR (Zja R a f.base f.blks) f.base j
 rw[h2]at e1 e2
 rw[e2]
 rcases Zgx (R:=R) (a:=a) f.blks f.base (j+d)with h3 |h3
 ·exact .inl h3
 ·right
  rw[h3,e1]
  unfold blk fam Fam.get
  rw[h1]
  simp only[Option.getD_some,ZbD (show f.base≤j+(f.base+d) by omega)]
  congr 1;omega
theorem pack_good{R:List (Nat×Nat)}{h:Zab}{L:Lay} :Good h L (Zf5 (ZkA (Za1 R h)) (Za1 R h)) (Zla (Za1 R h) L) (ZkA (Za1 R h)):=by
 refine⟨fun a i j hs=>?_,fun a j ht=>?_⟩
 ·obtain⟨hb,hn⟩:=ZcG (σ:=ZkA (Za1 R h)) (Za1 R h) a j
  unfold ZkA at hs
  cases hp:ZaE (Za1 R h) a with
  |none=>rw[hp]at hs;cases hs
  |some p=>
   rw[hp]at hs hb hn
   simp only at hs hb hn
   split at hs
   ·cases hs
   ·rename_i hle
    have hle:p.1≤i:=by simpa using hle
    split at hs
    ·cases hs
    ·rename_i hd
     cases hs
     have hlt:i-p.1<p.2.length:=by
      rcases Nat.lt_or_ge (i-p.1) p.2.length with h1 |h1
      ·exact h1
      ·rw[List.getD_eq_getElem?_getD,List.getElem?_eq_none h1]at hd;cases hd
     have hadd:i-p.1+p.1=i:=by omega
     refine⟨by rw[hn];exact hlt,fun sz ht=>?_,by simp only[Zla,hp,hadd],by simp only[Zla,hp,hadd]⟩
     rw[hb,Blk.ren_tag]at ht
     rcases Zcx hp (i-p.1)with h1 |h1
     ·rw[h1]at hd;cases hd
     ·rw[h1,hadd]at ht;exact ht
 ·obtain⟨hb,_⟩:=ZcG (σ:=ZkA (Za1 R h)) (Za1 R h) a j
  rw[hb,Blk.ren_tag]at ht
  cases hp:ZaE (Za1 R h) a with
  |none=>rw[hp]at ht;exact absurd rfl ht
  |some p=>
   rw[hp]at ht
   simp only at ht
   rcases Zcx hp j with h1 |h1
   ·rw[h1]at ht;exact absurd rfl ht
   ·exact⟨j+p.1,by rw[←h1];exact ht,by simp only[Zla,hp]⟩
theorem HRel.packed{C:Ctx}{R:List (Nat×Nat)}{h:Zab}{L:Lay}{w:World}(H:HRel C h L w):HRel C (Zf5 (ZkA (Za1 R h)) (Za1 R h)) (Zla (Za1 R h) L) w:=by
 have key:∀a j,(blk (Zf5 (ZkA (Za1 R h)) (Za1 R h)) a j).tag≠none→∃p,ZaE (Za1 R h) a=some p∧(blk h a (j+p.1)).tag≠none:=fun a j ht=>by
  obtain⟨hb,_⟩:=ZcG (σ:=ZkA (Za1 R h)) (Za1 R h) a j
  rw[hb,Blk.ren_tag]at ht
  cases hp:ZaE (Za1 R h) a with
  |none=>rw[hp]at ht;exact absurd rfl ht
  |some p=>
   rw[hp]at ht
   simp only at ht
   rcases Zcx hp j with h1 |h1
   ·rw[h1]at ht;exact absurd rfl ht
   ·exact⟨p,rfl,by rw[←h1];exact ht⟩
 refine⟨H.below,fun a j ht=>?_,fun a j=>?_,fun a i b j h1 h2 e=>?_,fun a j ht=>?_,H.low,H.base⟩
 rotate_right
 ·obtain⟨p,hp,ht'⟩:=key a j ht
  simp only[Zla,hp]
  rcases H.home a _ ht' with h9 |⟨h7,h8,h9⟩
  ·exact .inl h9
  ·exact .inr ⟨h7,by omega,h9⟩
 ·obtain⟨p,hp,ht'⟩:=key a j ht
  simp only[Zla,hp];exact H.live a _ ht'
 ·obtain⟨hb,_⟩:=ZcG (σ:=ZkA (Za1 R h)) (Za1 R h) a j
  rw[hb]
  cases hp:ZaE (Za1 R h) a with
  |none=>trivial
  |some p=>
   simp only
   rcases Zcx hp j with h1 |h1
   ·rw[h1];trivial
   ·rw[h1];simp only[Zla,hp];exact(H.blks a _).ren pack_good
 ·obtain⟨p,hp,hp'⟩:=key a i h1
  obtain⟨q,hq,hq'⟩:=key b j h2
  simp only[Zla,hp,hq]at e
  obtain⟨rfl,e2⟩:=H.inj _ _ _ _ hp' hq' e
  rw[hp]at hq;cases hq
  exact⟨rfl,by omega⟩
def ZrS:AV→List (Nat×Nat)
 | .tup xs=>xs.flatMap ZeO
 |v=>ZeO v
def Zwq:Row→List (Nat×Nat)
 | .gen xs=>xs.flatMap ZrS
 |_=>[]
def Zpn:ZfY→List (Nat×Nat)
 |[]=>[]
 |(_,v)::l=>ZrS v++Zpn l
def Zur:Blk→List (Nat×Nat)
 | .row _ _ r=>Zwq r
 | .lp l=>Zpn l.env
 |_=>[]
def Zq3:List AItem→List (Nat×Nat)
 |[]=>[]
 |x::k=>(match x with | .inRF a i=>[(a,i)] | .endRF a i=>[(a,i)] |_=>[])++Zq3 k
def ZtS:List AFrame→List (Nat×Nat)
 |[]=>[]
 |f::fs=>Zpn f.env++((match Zdu f.todo with |true=>[] |false=>Zq3 f.todo)++(f.defs++((match f.rnd with |some p=>[p] |none=>[])++ZtS fs)))
def Zt1(R:List (Nat×Nat)):List (Nat×Nat)→List (Nat×Nat)
 |[]=>R
 |p::l=>match Zoa p R with |true=>Zt1 R l |false=>Zt1 (p::R) l
def Zn1(h:Zab):Nat→List (Nat×Nat)→List (Nat×Nat)→List (Nat×Nat)
 |0,R,_=>R
 |n+1,R,new=>match new.flatMap (fun p=>Zur (blk h p.1 p.2))with
  |[]=>R
  |l=>Zn1 h n (Zt1 R l) l
def ZmP(h:Zab)(t:Zo5):Bool:=
 match ZaE t 0 with
 |none=>Nat.beq (nxt h 0) 0
 |some p=>match Nat.beq p.1 0 with |true=>Nat.ble (nxt h 0) p.2.length |false=>false
def Zuw(fs:List AFrame):List (Nat×Nat):=Zt1 [] ((0,0)::ZtS fs)
def Zt0(fs:List AFrame)(h:Zab):Option (List AFrame×Zab):=
 match Zuw fs with
 |R0=>match Za1 (Zn1 h 4 R0 R0) h with
  |t=>match ZmP h t with
   |false=>none
   |true=>match Zml (ZkA t) fs with
    |none=>none
    |some fs'=>some (fs',Zf5 (ZkA t) t)
theorem Zqn{C:Ctx}{R:List (Nat×Nat)}{h:Zab}{L:Lay}{w:World}(hk:ZmP h (Za1 R h)=true):Fr C h L w (Zf5 (ZkA (Za1 R h)) (Za1 R h)) (Zla (Za1 R h) L) w:=by
 obtain⟨hb,hn⟩:=ZcG (σ:=ZkA (Za1 R h)) (Za1 R h) 0 0
 refine⟨Nat.le_refl _,fun g _ ho=>⟨pack_good.okk ho,rfl⟩,?_,fun sz _ ht=>?_⟩
 ·rw[hn]
  unfold ZmP at hk
  cases hp:ZaE (Za1 R h) 0 with
  |none=>rw[hp]at hk;have:=Nat.eq_of_beq_eq_true hk;omega
  |some p=>
   rw[hp]at hk
   simp only at hk⊢
   split at hk
   ·simpa using hk
   ·cases hk
 ·rw[hb,Blk.ren_tag]at ht
  unfold ZmP at hk
  cases hp:ZaE (Za1 R h) 0 with
  |none=>rw[hp]at ht;cases ht
  |some p=>
   rw[hp]at ht hk
   simp only at ht hk
   split at hk
   ·rename_i h0
    have h0:p.1=0:=Nat.eq_of_beq_eq_true h0
    rcases Zcx hp 0 with h1 |h1
    ·rw[h1]at ht;cases ht
    ·rw[h1,h0]at ht
     refine⟨ht,?_,?_⟩
     ·simp only[Zla,hp,h0]
     ·simp only[Zla,hp,h0]
   ·cases hk
theorem Zlq{C:Ctx}{fs fs':List AFrame}{h h':Zab}{Q:List AFrame→Zab→Prop}(hp:Zt0 fs h=some (fs',h'))(hq:Ev C fs' h' Q):Ev C fs h Q:=by
 intro L fr cs w hf H hne
 unfold Zt0 at hp
 dsimp only at hp
 split at hp
 ·cases hp
 ·rename_i hkeep
  split at hp
  ·cases hp
  ·rename_i gs hgs
   cases hp
   obtain⟨fs2,h2',L2,fr2,cs2,w2,q2,n2,a2,b2,s2⟩:=hq _ fr cs w (FrsRel.ren pack_good hgs hf) H.packed (fun e=>by
    subst e
    cases fs with
    |nil=>exact hne rfl
    |cons f fs=>
     simp only[Zml]at hgs
     split at hgs
     ·cases hgs
     ·split at hgs<;>cases hgs)
   exact⟨fs2,h2',L2,fr2,cs2,w2,q2,n2,a2,b2,s2.1,(Zqn hkeep).trans s2.2⟩
def Zou(A:Ar)(T:Tab)(l:List Ctr)(n:Nat)(pk:Bool)(pa:List Bool)(f:AFrame)(fs:List AFrame)(h:Zab):Option (List Bool×List AFrame×Zab):=
 match ZfU A T l n pa [] f fs h with
 |none=>none
 |some (acc,f',fs',h')=>match pk with
  |false=>some (acc,f'::fs',h')
  |true=>match Zt0 (f'::fs') h' with
   |none=>none
   |some (gs,h2)=>some (acc,gs,h2)
theorem ZoB{C:Ctx}{T:Tab}{l:List Ctr}{n:Nat}{pk:Bool}{pa acc:List Bool}{f:AFrame}{fs gs:List AFrame}{h h':Zab}{Q:List AFrame→Zab→Prop}(hfol:C.P.follows .mixedOrders=true)(hT:Zbm C.P T)(hl:Za3 C.P l)
 (hw:Zou std T l n pk pa f fs h=some (acc,gs,h')) (hb:AllT acc) (hq:Ev C gs h' Q):Ev C (f::fs) h Q:=by
 unfold Zou at hw
 split at hw
 ·cases hw
 ·rename_i acc1 f1 fs1 h1 hs
  split at hw
  ·cases hw
   exact(Zbq hfol hT hl n _ _ _ _ hs hb.mem hq).2
  ·split at hw
   ·cases hw
   ·rename_i gs2 h2 hp
    cases hw
    exact(Zbq hfol hT hl n _ _ _ _ hs hb.mem (Zlq hp hq)).2
end Go.Proofs.YtkeoeooghhjibaaDoor
/- What comes back is read as a value. No condition. -/
namespace Go.Proofs.YtkeoeooghhjibaaDoor
open Go.RowKit (Below)
inductive Frz1 (fr:Option Fresh):AV→AV→Prop
 |row (f:Fresh) (hf:fr=some f) (hp:f.r.pure=true) (hs:f.r.solid=true):Frz1 fr (.row 0 0) (.list f.r)
 |nil (r:Row) (h:r.elems=[]):Frz1 fr .nils (.list r)
 |same (v:AV) (hp:v.pure=true) (hs:v.solid=true):Frz1 fr v v
def ZwL(fr:Option Fresh):List AV→List AV→Prop
 |[],[]=>True
 |x::xs,y::ys=>Frz1 fr x y∧ZwL fr xs ys
 |_,_=>False
inductive Frz (fr:Option Fresh):AV→AV→Prop
 |one {v v':AV} (h:Frz1 fr v v'):Frz fr v v'
 |tup {xs ys:List AV} (h:ZwL fr xs ys):Frz fr (.tup xs) (.tup ys)
section
variable {P:Program}{w w':World}{okA:Nat→Prop}{L':Lay}{fr:Option Fresh}
end
def Zav(A:Ar)(T:Tab)(l:List Ctr)(n:Nat)(pa:List Bool)(fs:List AFrame)(h:Zab):Option (List Bool×List AFrame×Zab):=
 match fs with
 |[]=>none
 |f::fs=>Zou A T l n true pa f fs h
def ZaT(A:Ar)(T:Tab)(l:List Ctr)(n:Nat)(pa:List Bool)(fn:FuncId)(fs:List AFrame)(h:Zab):Option (List Bool×AV×Option Fresh):=
 match fs with
 |[]=>none
 |f::fs=>match ZfU A T l n pa [] f fs h with
  |none=>none
  |some (acc,g,gs,h')=>match gs with
   |_::_=>none
   |[]=>match g.ret&&Nat.beq g.fn fn with
    |false=>none
    |true=>match g.rnd with
     |some _=>none
     |none=>match g.defs with
      |_::_=>none
      |[]=>match ZmK A g.env h' g.res with
       |none=>none
       |some (b,vs)=>match Zep h' (Zel vs)with
        |none=>none
        |some (r,fr)=>some (b::acc,r,fr)
section
variable {C:Ctx}{T:Tab}{l:List Ctr}{n:Nat}{pa acc:List Bool}{fs gs:List AFrame}{h h':Zab}{Q:List AFrame→Zab→Prop}
theorem ZuQ(hfol:C.P.follows .mixedOrders=true)(hT:Zbm C.P T)(hl:Za3 C.P l)(hw:Zav std T l n pa fs h=some (acc,gs,h'))(hb:AllT acc)(hq:Ev C gs h' Q):Ev C fs h Q:=by
 unfold Zav at hw
 split at hw
 ·cases hw
 ·exact ZoB hfol hT hl hw hb hq
theorem Zq4(hfol:C.P.follows .mixedOrders=true)(hT:Zbm C.P T)(hl:Za3 C.P l){fn:FuncId}{r r':AV}{fr fr':Option Fresh}(hw:ZaT std T l n pa fn fs h=some (acc,r',fr'))(hb:AllT acc)(hr:r'=r)(hfr:fr'=fr):Ev C fs h (Zcp fn r fr):=by
 subst hr;subst hfr
 unfold ZaT at hw
 split at hw
 ·cases hw
 ·split at hw
  ·cases hw
  ·rename_i acc1 g gs1 h1 hs
   split at hw
   ·cases hw
   ·split at hw
    ·cases hw
    ·rename_i hg
     simp only[Bool.and_eq_true]at hg
     split at hw
     ·cases hw
     ·rename_i hn
      split at hw
      ·cases hw
      ·rename_i hd
       split at hw
       ·cases hw
       ·rename_i b vs hc
        split at hw
        ·cases hw
        ·rename_i hex
         cases hw
         have hb1:b=true:=hb.1
         subst hb1
         exact(Zbq hfol hT hl n _ _ _ _ hs hb.2.mem (.now (by simp) ⟨g,vs,rfl,Nat.eq_of_beq_eq_true hg.2,hg.1,hn,hd,hc,hex⟩)).2
end
end Go.Proofs.YtkeoeooghhjibaaDoor
namespace Go.Proofs.YtkeoeooghhjibaaDoor
@[simp] theorem Zxq (a b:Int):std.add a b=a+b:=rfl
@[simp] theorem ZvL (a b:Int):std.sub a b=a-b:=rfl
@[simp] theorem Zyd (a b:Int):std.mul a b=a*b:=rfl
@[simp] theorem Zxi (a b:Int):std.quo a b=Int.tdiv a b:=rfl
@[simp] theorem ZxP (a b:Int):std.rem a b=Int.tmod a b:=rfl
@[simp] theorem Zym (a:Int):std.neg a= -a:=rfl
@[simp] theorem Zyn (a b:Int):std.lt a b=decide (a<b):=rfl
@[simp] theorem ZqC (a b:Int):std.le a b=decide (a≤b):=rfl
@[simp] theorem Zt4 (a b:Int):std.eq a b=decide (a=b):=rfl
@[simp] theorem ZxR (a:Int):std.nat a=a.toNat:=rfl
@[simp] theorem ZiZ (a:Nat):std.int a=(a:Int):=rfl
@[simp] theorem Zyg (a b:Int):std.max a b=Max.max a b:=rfl
@[simp] theorem Zx8 (a b:Int):std.min a b=Min.min a b:=rfl
@[simp] theorem Zxh (l:List Int):std.len l=l.length:=rfl
@[simp] theorem ZxZ (l:List Int) (j:Nat):std.nth l j=l.getD j 0:=rfl
@[simp] theorem Zx5 (l:List Int) (j:Nat) (x:Int):std.set l j x=l.set j x:=rfl
@[simp] theorem Zxl (a b:List Int):std.app a b=a++b:=rfl
@[simp] theorem Zw8 (l:List Int) (k n:Nat):std.sub3 l k n=(l.drop k).take n:=rfl
@[simp] theorem Zyh (n:Nat) (x:Int):std.rep n x=List.replicate n x:=rfl
@[simp] theorem Zuc (a:Bool):std.not a=!a:=rfl
@[simp] theorem ZwW (l:List UInt8):std.lenS l=l.length:=rfl
@[simp] theorem Zw0 (l:List UInt8) (j:Nat):std.nthS l j=((l.getD j 0).toNat:Int):=rfl
@[simp] theorem ZwF (a b:List UInt8):std.appS a b=a++b:=rfl
@[simp] theorem Zw7 (l:List UInt8) (k n:Nat):std.subS l k n=sub3 l k n:=rfl
@[simp] theorem ZxI (a b:List UInt8):std.eqS a b=(a==b):=rfl
@[simp] theorem ZcO (ks:List AV) (s:List UInt8):std.hasS ks s=ks.any fun k=>k.toS==s:=rfl
@[simp] theorem Zyj (s:List UInt8):std.byt s=s.map fun b=>(b.toNat:Int):=rfl
@[simp] theorem Zxv (a b:Int):std.shl a b=a*2^b.toNat:=rfl
@[simp] theorem ZxX (a b:Int):std.shr a b=a.fdiv (2^b.toNat):=rfl
@[simp] theorem Zpk (n:Int):std.inR .i64 n=decide (-9223372036854775808≤n∧n≤9223372036854775807):=rfl
@[simp] theorem Zxz (a b:Bool):Zag a b=(a&&b):=by cases a<;>rfl
@[simp] theorem ZxF (a b:Nat):Nat.blt a b=decide (a<b):=by rw[Bool.eq_iff_iff];simp
@[simp] theorem Zxf (a b:Nat):Nat.ble a b=decide (a≤b):=by rw[Bool.eq_iff_iff];simp
@[simp] theorem ZxQ (a b:Nat):Nat.beq a b=decide (a=b):=by rw[Bool.eq_iff_iff];simp
@[simp] theorem Znj:AllT []=True:=rfl
@[simp] theorem ZfE (b:Bool) (l:List Bool):AllT (b::l)=(b=true∧AllT l):=rfl
def tru:Nat→List Bool→List Bool
 |0,l=>l
 |n+1,l=>true::tru n l
def tr:List Nat→List Bool→List Bool
 |k::ks,x::xs=>tru k (x::tr ks xs)
 |k::_,[]=>tru k []
 |[],xs=>xs
theorem Zg9(l:List Bool):∀n,AllT (tru n l)=AllT l
 |0=>rfl
 |n+1=>by simp only[tru,ZfE,Zg9 l n,true_and]
@[simp] theorem ZoK:∀ks xs,AllT (tr ks xs)=AllT xs
 |k::ks,x::xs=>by simp only[tr,Zg9,ZfE,ZoK ks xs]
 |k::ks,[]=>by simp only[tr,Zg9]
 |[],xs=>rfl
end Go.Proofs.YtkeoeooghhjibaaDoor
/- Runs at letters as trees: one theorem for all ways out of a head. No condition. -/
namespace Go.Proofs.YtkeoeooghhjibaaDoor
inductive Sp where
 |fn |fm |hd |no
 |run (n:Nat) (k:Sp)
 |alt (p:List Bool) (k r:Sp)
def Sp.tf(a b:Sp):Sp:=.alt [true] a (.alt [false] b .no)
def Sp.ty(a:Sp):Sp:=.alt [true] a .no
def Sp.fy(a:Sp):Sp:=.alt [false] a .no
def qB:List Bool→Prop→Prop→Prop
 |[],t,_=>t
 |b::l,t,d=>match b with |true=>qB l t d |false=>d
abbrev KT:=List AFrame×Zab→Prop
abbrev FT:=AV→Option Fresh→Prop
abbrev MT:=AV→Nat→Nat→Row→Prop
def Zwz(A:Ar)(fn:FuncId)(F:FT)(g:AFrame)(gs:List AFrame)(h:Zab):Prop:=
 match gs with
 |_::_=>False
 |[]=>match g.ret&&Nat.beq g.fn fn with
  |false=>False
  |true=>match g.rnd with
   |some _=>False
   |none=>match g.defs with
    |_::_=>False
    |[]=>match ZmK A g.env h g.res with
     |none=>False
     |some (b,vs)=>match Zep h (Zel vs)with
      |none=>False
      |some (r,fr)=>qB [b] (F r fr) False
def Zrv(A:Ar)(fn:FuncId)(M:MT)(g:AFrame)(gs:List AFrame)(h:Zab):Prop:=
 match gs with
 |_::_=>False
 |[]=>match g.ret&&Nat.beq g.fn fn with
  |false=>False
  |true=>match g.rnd with
   |some _=>False
   |none=>match g.defs with
    |_::_=>False
    |[]=>match Zet A g.env h g.res with
     |none=>False
     |some (b,vs)=>match blk h 0 0 with
      | .row e sz y=>match ZoX (Zel vs)&&y.pure with
        |true=>qB [b] (M (Zel vs) e sz y) False
        |false=>False
      |_=>False
def ZbM(A:Ar)(T:Tab)(l:List Ctr)(fn:FuncId)(K:KT)(F:FT)(M:MT):Sp→List AFrame→Zab→Prop
 | .no,_,_=>False
 | .hd,fs,h=>match Zt0 fs h with |none=>False |some p=>K p
 | .fn,fs,h=>match fs with |[]=>False |g::gs=>Zwz A fn F g gs h
 | .fm,fs,h=>match fs with |[]=>False |g::gs=>Zrv A fn M g gs h
 | .run n k,fs,h=>match fs with
   |[]=>False
   |f::fs=>match ZfU A T l n [] [] f fs h with
    |none=>False
    |some (acc,f',fs',h')=>qB acc (ZbM A T l fn K F M k (f'::fs') h') False
 | .alt p k r,fs,h=>match fs with
   |[]=>False
   |f::gs=>match ZnB A T l p [] f gs h with
    |none=>False
    |some (_,acc,f',fs',h')=>qB acc (ZbM A T l fn K F M k (f'::fs') h') (ZbM A T l fn K F M r (f::gs) h)
theorem ZeZ{l:List Bool}{t d:Prop}(h:qB l t d):((∀ b∈l,b=true)∧t)∨d:=by
 induction l with
 |nil=>exact .inl ⟨fun b hb=>(by cases hb),h⟩
 |cons b l ih=>
  cases b with
  |false=>exact .inr h
  |true=>rcases ih h with⟨h1,h2⟩ |h1
         ·exact .inl ⟨fun b hb=>(by rcases List.mem_cons.1 hb with rfl |e;rfl;exact h1 b e),h2⟩
         ·exact .inr h1
section
variable {C:Ctx}{T:Tab}{l:List Ctr}{fn:FuncId}{Q:List AFrame→Zab→Prop}{K:KT}{F:FT}{M:MT}
theorem Zcf(hfol:C.P.follows .mixedOrders=true)(hT:Zbm C.P T)(hl:Za3 C.P l)
 (hK:∀p,K p→Ev C p.1 p.2 Q) (hF:∀r fr,F r fr→∀fs h,Zcp fn r fr fs h→Q fs h) (hM:∀r e sz y,M r e sz y→∀fs h,Zx2 fn e sz y r fs h→Q fs h):
 ∀(s:Sp) {fs:List AFrame} {h:Zab},ZbM std T l fn K F M s fs h→Ev C fs h Q
 | .no,fs,h,hg=>hg.elim
 | .hd,fs,h,hg=>by
   unfold ZbM at hg
   split at hg
   ·exact hg.elim
   ·rename_i p hp
    obtain⟨gs,h2⟩:=p
    exact Zlq hp (hK _ hg)
 | .fn,fs,h,hg=>by
   unfold ZbM at hg
   split at hg
   ·exact hg.elim
   ·rename_i g gs
    unfold Zwz at hg
    split at hg
    ·exact hg.elim
    ·split at hg
     ·exact hg.elim
     ·rename_i hr
      simp only[Bool.and_eq_true]at hr
      split at hg
      ·exact hg.elim
      ·rename_i hn
       split at hg
       ·exact hg.elim
       ·rename_i hd
        split at hg
        ·exact hg.elim
        ·rename_i b vs hc
         split at hg
         ·exact hg.elim
         ·rename_i r fr hex
          rcases ZeZ hg with⟨h1,h2⟩ |h1
          ·have hb1:b=true:=h1 b List.mem_cons_self
           subst hb1
           exact .now (by simp) (hF r fr h2 _ _ ⟨g,vs,rfl,Nat.eq_of_beq_eq_true hr.2,hr.1,hn,hd,hc,hex⟩)
          ·exact h1.elim
 | .fm,fs,h,hg=>by
   unfold ZbM at hg
   split at hg
   ·exact hg.elim
   ·rename_i g gs
    unfold Zrv at hg
    split at hg
    ·exact hg.elim
    ·split at hg
     ·exact hg.elim
     ·rename_i hr
      simp only[Bool.and_eq_true]at hr
      split at hg
      ·exact hg.elim
      ·rename_i hn
       split at hg
       ·exact hg.elim
       ·rename_i hd
        split at hg
        ·exact hg.elim
        ·rename_i b vs hc
         split at hg
         ·rename_i e sz y hbk
          split at hg
          ·rename_i hp
           simp only[Bool.and_eq_true]at hp
           rcases ZeZ hg with⟨h1,h2⟩ |h1
           ·have hb1:b=true:=h1 b List.mem_cons_self
            subst hb1
            exact .now (by simp) (hM _ e sz y h2 _ _ ⟨g,vs,rfl,Nat.eq_of_beq_eq_true hr.2,hr.1,hn,hd,hc,rfl,hp.1,hbk,hp.2⟩)
           ·exact h1.elim
          ·exact hg.elim
         ·exact hg.elim
 | .run n k,fs,h,hg=>by
   unfold ZbM at hg
   split at hg
   ·exact hg.elim
   ·split at hg
    ·exact hg.elim
    ·rename_i acc f' fs' h' hs
     rcases ZeZ hg with⟨h1,h2⟩ |h1
     ·exact(Zbq hfol hT hl n _ _ _ _ hs h1 (Zcf hfol hT hl hK hF hM k h2)).2
     ·exact h1.elim
 | .alt p k r,fs,h,hg=>by
   unfold ZbM at hg
   split at hg
   ·exact hg.elim
   ·split at hg
    ·exact hg.elim
    ·rename_i pa' acc f' fs' h' hs
     rcases ZeZ hg with⟨h1,h2⟩ |h1
     ·exact(ZfW hfol hT hl _ _ _ _ _ hs h1 (Zcf hfol hT hl hK hF hM k h2)).2
     ·exact Zcf hfol hT hl hK hF hM r h1
end
def bB(b:Bool)(t d:Prop):Prop:=qB [b] t (qB [!b] d False)
def rB(l:List Bool)(t:Prop):Prop:=qB l t False
@[simp] theorem ZwK (t d:Prop):qB [] t d=t:=rfl
@[simp] theorem Zw1 (a b:List AV):std.appA a b=a++b:=rfl
@[simp] theorem Zw6 (l:List AV) (j:Nat) (x:AV):std.setA l j x=l.set j x:=rfl
@[simp] theorem ZwI (l:List AV) (k n:Nat):std.subA l k n=(l.drop k).take n:=rfl
@[simp] theorem Zw4 (n:Nat) (x:AV):std.repA n x=List.replicate n x:=rfl
@[simp] theorem ZvF (b:Bool) (l:List Bool) (t d:Prop):qB (b::l) t d=if b=true then qB l t d else d:=by cases b<;>rfl
theorem Zjm:∀(l:List Bool) (t:Prop),qB l t False=(AllT l∧t)
 |[],t=>by simp[qB]
 |b::l,t=>by
  rw[ZvF,Zjm l]
  cases b<;>simp
@[simp] theorem Zwn (b:Bool) (t d:Prop):bB b t d=if b=true then t else d:=by cases b<;>simp[bB,qB]
@[simp] theorem ZvK (l:List Bool) (t:Prop):rB l t=(AllT l∧t):=Zjm l t
end Go.Proofs.YtkeoeooghhjibaaDoor
