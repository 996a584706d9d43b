/- Guided runs: where the way hangs on a letter, a list of choices says which way is taken. No condition. -/
import Derived.Test.YtjhdnpmojhkbjaaXv
namespace Go.Proofs.Ytjhdnpmojhkbjaa
open Go.RowKit (Below)
def ZJR:List (Nat×AV)→Nat→AV→List (Nat×AV)
 |[],_,_=>[]
 |(i,x)::l,t,y=>match Nat.beq i t with |true=>(i,y)::l |false=>(i,x)::ZJR l t y
theorem ZlN:∀ {env:List (Nat×AV)} {t:Nat} {v:AV},ZaJ env t=some v→ZJR env t v=env
 |[],t,v,h=>by cases h
 |(i,x)::l,t,v,h=>by
  simp only[ZaJ]at h
  simp only[ZJR]
  split
  ·rename_i hb;rw[hb]at h;cases h;rfl
  ·rename_i hb;rw[hb]at h;rw[ZlN h]
def asB(p b:Bool):Bool:=match p with |true=>b |false=>!b
theorem Zv8{p b:Bool}(h:asB p b=true):b=p:=by cases p<;>cases b<;>first |rfl |cases h
abbrev ZiZ:=List (Nat×AV)
def Zr0(env:ZiZ)(pa acc:List Bool)(t:Nat):Option (List Bool×List Bool×ZiZ):=
 match ZaJ env t with
 |some v=>(match v with
  | .bool b=>(match pa with
    |p::ps=>some (ps,asB p b::acc,ZJR env t (.bool p))
    |[]=>none)
  |_=>some (pa,acc,env))
 |none=>some (pa,acc,env)
theorem Zrv{env env':ZiZ}{pa pa' acc acc':List Bool}{t:Nat}(h:Zr0 env pa acc t=some (pa',acc',env'))(hb:∀b∈acc',b=true):env'=env∧∀b∈acc,b=true:=by
 unfold Zr0 at h
 split at h
 ·rename_i v hv
  split at h
  ·rename_i b
   split at h
   ·rename_i p ps
    cases h
    have:=Zv8 (hb _ List.mem_cons_self)
    subst this
    exact⟨ZlN hv,fun b hb'=>hb b (List.mem_cons_of_mem _ hb')⟩
   ·cases h
  ·cases h;exact⟨rfl,hb⟩
 ·cases h;exact⟨rfl,hb⟩
def inN(t:Nat):List Nat→Bool
 |[]=>false
 |x::l=>match Nat.beq x t with |true=>true |false=>inN t l
def ZPi(d:Option Nat)(l:List Nat):List Nat:=match d with |none=>l |some t=>l.filter fun x=>!Nat.beq x t
abbrev ZNG:=Option (List Bool×List Bool×ZiZ×List Nat)
def ZkS(st:List Nat)(env:ZiZ)(pa acc:List Bool)(t:Nat):ZNG:=
 match inN t st with
 |true=>some (pa,acc,env,st)
 |false=>match Zr0 env pa acc t with
  |none=>none
  |some (pa',acc',env')=>some (pa',acc',env',t::st)
theorem Zgt{st st':List Nat}{env env':ZiZ}{pa pa' acc acc':List Bool}{t:Nat}(h:ZkS st env pa acc t=some (pa',acc',env',st'))(hb:∀b∈acc',b=true):env'=env∧∀b∈acc,b=true:=by
 unfold ZkS at h
 split at h
 ·cases h;exact⟨rfl,hb⟩
 ·split at h
  ·cases h
  ·rename_i hs;cases h;exact Zrv hs hb
def ZkI(st:List Nat)(k:OpK)(env:ZiZ)(pa acc:List Bool):ZNG:=
 match k with
 | .pick c _ _=>(match c with | .t n=>ZkS st env pa acc n | .c _=>some (pa,acc,env,st))
 |_=>some (pa,acc,env,st)
theorem ZjT{st st':List Nat}{k:OpK}{env env':ZiZ}{pa pa' acc acc':List Bool}(h:ZkI st k env pa acc=some (pa',acc',env',st'))(hb:∀b∈acc',b=true):env'=env∧∀b∈acc,b=true:=by
 unfold ZkI at h
 split at h
 ·split at h
  ·exact Zgt h hb
  ·cases h;exact⟨rfl,hb⟩
 ·cases h;exact⟨rfl,hb⟩
def Zka(st:List Nat)(o:AOp)(env:ZiZ)(pa acc:List Bool):ZNG:=
 match o.g with
 |none=>ZkI st o.k env pa acc
 |some p=>match ZkS st env pa acc p.1 with
  |none=>none
  |some (pa1,acc1,env1,st1)=>match ZgY o env1 with
   |some g=>(match g with |true=>ZkI st1 o.k env1 pa1 acc1 |false=>some (pa1,acc1,env1,st1))
   |none=>none
theorem ZgU{st st':List Nat}{o:AOp}{env env':ZiZ}{pa pa' acc acc':List Bool}(h:Zka st o env pa acc=some (pa',acc',env',st'))(hb:∀b∈acc',b=true):env'=env∧∀b∈acc,b=true:=by
 unfold Zka at h
 split at h
 ·exact ZjT h hb
 ·split at h
  ·cases h
  ·rename_i pa1 acc1 env1 st1 hs
   split at h
   ·split at h
    ·obtain⟨e1,h1⟩:=ZjT h hb
     obtain⟨e2,h2⟩:=Zgt hs h1
     exact⟨e1.trans e2,h2⟩
    ·cases h;exact Zgt hs hb
   ·cases h
structure Ctr where
 f:FuncId
 n:Nat
 run:List Bool→List AV→Option (Bool×AV×Option Fresh)
def ZiT(P:Program)(f:FuncId)(args:List AV)(r:AV)(fr:Option Fresh):Prop:=
 match Nat.blt f 1000000 with
 |true=>ZaH P f args r fr
 |false=>∀x rest fs,args=.list x::rest→fr=some fs→Zmo P (f-1000000) fs.e fs.sz x fs.r rest r
def Ctr.OK(P:Program)(c:Ctr):Prop:=∀pa args r fr,c.run pa args=some (true,r,fr)→ZiT P c.f args r fr
def ZpD:List Ctr→List Bool→Con
 |[],_,_,_=>none
 |c::l,pa,f,args=>match Nat.beq c.f f with
  |true=>(match Nat.blt f 1000000 with
   |true=>(match c.run pa args with |some r=>some r |none=>ZpD l pa f args)
   |false=>none)
  |false=>ZpD l pa f args
def ZCS:List Ctr→List Bool→FuncId→List AV→Option (Bool×AV×Option Fresh)
 |[],_,_,_=>none
 |c::l,pa,f,args=>match Nat.beq c.f (f+1000000)with
  |true=>(match c.run pa args with |some r=>some r |none=>ZCS l pa f args)
  |false=>ZCS l pa f args
def ZN3:List Ctr→FuncId→Nat
 |[],_=>0
 |c::l,f=>match Nat.beq c.f f with |true=>c.n |false=>ZN3 l f
def Zap(P:Program):List Ctr→Prop
 |[]=>True
 |c::l=>c.OK P∧Zap P l
theorem ZiL{P:Program} :∀ {l:List Ctr},Zap P l→∀pa,Zhz P (ZpD l pa)
 |[],_,pa=>fun f args r fr h=>by cases h
 |c::l,⟨h1,h2⟩,pa=>fun f args r fr h=>by
  simp only[ZpD]at h
  split at h
  ·rename_i e
   have e:c.f=f:=Nat.eq_of_beq_eq_true e
   split at h
   ·rename_i hlt
    split at h
    ·rename_i q hq
     cases h
     have:=h1 _ _ _ _ hq
     unfold ZiT at this
     rw[e,hlt]at this
     exact this
    ·exact ZiL h2 pa f args r fr h
   ·cases h
  ·exact ZiL h2 pa f args r fr h
theorem ZkH{P:Program} :∀ {l:List Ctr},Zap P l→∀ {pa:List Bool} {f:FuncId} {x:Row} {rest:List AV} {r:AV} {fs:Fresh},ZCS l pa f (.list x::rest)=some (true,r,some fs)→Zmo P f fs.e fs.sz x fs.r rest r
 |[],_,pa,f,x,rest,r,fs,h=>by cases h
 |c::l,⟨h1,h2⟩,pa,f,x,rest,r,fs,h=>by
  simp only[ZCS]at h
  split at h
  ·rename_i e
   have e:c.f=f+1000000:=Nat.eq_of_beq_eq_true e
   split at h
   ·rename_i q hq
    cases h
    have:=h1 _ _ _ _ hq
    unfold ZiT at this
    have hb:Nat.blt c.f 1000000=false:=Zce (by rw[e];exact Nat.le_add_left _ _)
    rw[hb]at this
    have h3:=this x rest fs rfl rfl
    rw[e,Nat.add_sub_cancel]at h3
    exact h3
   ·exact ZkH h2 h
  ·exact ZkH h2 h
theorem Zml{α:Type}(t:Nat)(x y:α):∀l:List (Nat×α),Zec (Zec l t x) t y=Zec l t y
 |[]=>by have:Nat.beq t t=true:=by simp
         simp only[Zec,this]
 |(i,z)::l=>by
  have ht:Nat.beq t t=true:=by simp
  cases hb:Nat.beq i t with
  |true=>simp only[Zec,hb]
  |false=>cases hl:Nat.blt t i with
   |true=>simp only[Zec,hb,hl,ht]
   |false=>simp only[Zec,hb,hl,Zml t x y l]
def ZxA:AV→Option Nat
 | .slc _ _ k n c=>(match Nat.beq k 0,c with |true,none=>some n |_,_=>none)
 |_=>none
theorem ZpY{r:AV}{n a i:Nat}(h:ZxA r=some n):ZER a i r=.slc a i 0 n none:=by
 unfold ZxA at h
 split at h
 ·rename_i b j k m c
  split at h
  ·rename_i hk
   have:=Nat.eq_of_beq_eq_true hk
   subst this
   cases h;rfl
  ·cases h
 ·cases h
def ZMy(A:Ar)(l:List Ctr)(pa:List Bool)(env:ZiZ)(h:Zaa)(o:AOp):Option (Bool×AV×Zaa):=
 match o.g with
 |some _=>none
 |none=>match o.k with
  | .ncall _ _ g args=>match args.map (Zbz (ZaJ env))with
    |v::rest=>match v with
     | .row a i=>match blk h a i with
       | .row e sz x=>match AV.pureL rest&&x.pure with
         |true=>match ZCS l pa g (.list x::rest)with
          |some (b,r,some fs)=>match fs.r.pure&&Zs3 r with
           |true=>(match ZxA r,ZnJ a,o.d with
            |some n,false,some _=>some (Zab (Nat.ble n (fs.r.len A)) (Zab b (Zab (Nat.beq fs.e e) (Nat.beq fs.sz sz))), .row a (nxt (ZaZ h a i (.row e sz fs.r)) a),Zam (ZaZ (ZaZ h a i (.row e sz fs.r)) a i .dead) a (.row e sz (fs.r.sub A 0 n)))
            |_,_,_=>some (Zab b (Zab (Nat.beq fs.e e) (Nat.beq fs.sz sz)),ZER a i r,ZaZ h a i (.row e sz fs.r)))
           |false=>none
          |_=>none
         |false=>none
       |_=>none
     |_=>none
    |[]=>none
  |_=>none
theorem ZAH{C:Ctx}{l:List Ctr}{pa:List Bool}{h h':Zaa}{Q:List AFrame→Zaa→Prop}{f:AFrame}{fs:List AFrame}{k:List AItem}{o:AOp}{os:List AOp}{r:AV}(hl:Zap C.P l)(hr:f.ret=false)(ht:f.todo=.inReg (o::os)::k)(hm:ZMy std l pa f.env h o=some (true,r,h'))
 (hq:Ev C ({ f with env:=Zp4 f.env o.d r,todo:=.inReg os::k } ::fs) h' Q):Ev C (f::fs) h Q:=by
 unfold ZMy at hm
 split at hm
 ·cases hm
 ·rename_i hg
  split at hm
  ·rename_i mm a0 g args hk
   split at hm
   ·rename_i v rest ha
    split at hm
    ·rename_i a i
     split at hm
     ·rename_i e sz x hb
      split at hm
      ·rename_i hp
       split at hm
       ·rename_i b r0 fs0 hc
        split at hm
        ·rename_i hp2
         simp only[Bool.and_eq_true]at hp hp2
         split at hm
         ·rename_i n d hpm hfz hd
          simp only[Option.some.injEq,Prod.mk.injEq,std_and]at hm
          obtain⟨⟨hle,rfl,he,hs⟩,rfl,rfl⟩:=hm
          have he:fs0.e=e:=by simpa[std]using he
          have hs:fs0.sz=sz:=by simpa[std]using hs
          have hle:n≤fs0.r.elems.length:=by rw[Row.len_std]at hle;simpa[std]using hle
          have hmu:=ZkH hl hc
          rw[he,hs]at hmu
          have hnd:blk h a i≠ .dead:=by rw[hb];simp
          refine ZnK hr ht hg hk ha hb hp.2 hp2.1 hp.1 hp2.2 hmu ?_
          rw[ZpY hpm]
          refine ZuD (t:=d) (a:=a) (i:=i) (e:=e) (sz:=sz) (n:=n) (r:=fs0.r) ?_ (by rw[Zd4 hnd,if_pos ⟨rfl,rfl⟩]) hfz hle ?_
          ·simp only[hd,Zp4,Zc0,if_true]
          ·simp only[hd,Zp4,Zml]at hq⊢
           exact hq
         ·simp only[Option.some.injEq,Prod.mk.injEq,std_and]at hm
          obtain⟨⟨rfl,he,hs⟩,rfl,rfl⟩:=hm
          have he:fs0.e=e:=by simpa[std]using he
          have hs:fs0.sz=sz:=by simpa[std]using hs
          have hmu:=ZkH hl hc
          rw[he,hs]at hmu
          exact ZnK hr ht hg hk ha hb hp.2 hp2.1 hp.1 hp2.2 hmu hq
        ·cases hm
       ·cases hm
      ·cases hm
     ·cases hm
    ·cases hm
   ·cases hm
  ·cases hm
def Zxs(o:AOp)(env:ZiZ):Option FuncId:=
 match o.k with
 | .ncall _ _ f _=>some f
 | .ncallv _ _ x _=>(match ZAM (Zbz (ZaJ env) x) []with |some (f,_)=>some f |none=>none)
 |_=>none
def ZlS(l:List Ctr)(o:AOp)(env:ZiZ)(pa:List Bool):List Bool:=
 match Zxs o env with
 |none=>pa
 |some f=>match ZgY o env with
  |some g=>(match g with |true=>pa.drop (ZN3 l f) |false=>pa)
  |none=>pa
def Zma(A:Ar)(T:Tab)(l:List Ctr):List AOp→List Nat→List Bool→List Bool→ZiZ→Zaa→Option (List Bool×List Bool×ZiZ×Zaa×List Foot)
 |[],_,pa,acc,env,h=>some (pa,acc,env,h,[])
 |o::os,st,pa,acc,env,h=>match Zka st o env pa acc with
  |none=>none
  |some (pa1,acc1,env1,st1)=>match ZgD A T (ZpD l pa1) o env1 h with
   |none=>none
   |some (b,r,h1)=>match Zma A T l os (ZPi o.d st1) (ZlS l o env1 pa1) (b::acc1) (Zp4 env1 o.d r) h1 with
    |none=>none
    |some (pa2,acc2,env2,h2,zs)=>some (pa2,acc2,env2,h2,Zjl env1 h o::zs)
def Zqi(fr:List (Nat×Nat))(zs:List Foot):Bool:=match fr with |[]=>true |fr=>ZoW zs fr
abbrev ZB8:=Option (List Bool×List Bool×AFrame×List AFrame×Zaa)
def Zli(pa:List Bool):Zrl→ZB8
 |none=>none
 |some (acc,f,fs,h)=>some (pa,acc,f,fs,h)
def ZN0(A:Ar)(T:Tab)(l:List Ctr)(pa acc:List Bool)(f:AFrame)(k:List AItem)(fs:List AFrame)(h:Zaa)(fr:List (Nat×Nat))(ops:List AOp):ZB8:=
 match Zma A T l ops [] pa acc f.env h with
 |none=>none
 |some (pa',acc',env',h',zs)=>match Zqi fr zs with
  |true=>some (pa',acc',{ f with env:=env',todo:=k },fs,h')
  |false=>none
def opG(A:Ar)(T:Tab)(l:List Ctr)(pa acc:List Bool)(o:AOp)(os:List AOp)(f:AFrame)(k:List AItem)(fs:List AFrame)(h:Zaa):ZB8:=
 match ZMy A l pa f.env h o with
 |some (b,r,h2)=>some (pa,b::acc,{ f with env:=Zp4 f.env o.d r,todo:=.inReg os::k },fs,h2)
 |none=>match Zka [] o f.env pa acc with
 |none=>none
 |some (pa1,acc1,env1,_)=>match opA A T (ZpD l pa1) acc1 o os { f with env:=env1 } k fs h with
  |none=>none
  |some (acc2,f2,fs2,h2)=>some (ZlS l o env1 pa1,acc2,f2,fs2,h2)
def ZIF(pa acc:List Bool)(f:AFrame)(k:List AItem)(fs:List AFrame)(h:Zaa)(v:AV)(a b:ACode):ZB8:=
 match v with
 | .bool t=>(match pa with
   |p::ps=>some (ps,asB p t::acc,{ f with todo:=.code (ZLj p a b)::k },fs,h)
   |[]=>none)
 |_=>none
def ZAQ(A:Ar)(T:Tab)(l:List Ctr)(pa acc:List Bool)(f:AFrame)(fs:List AFrame)(h:Zaa):ZB8:=
 match f.ret with
 |true=>Zli pa (Zhw A T (ZpD l pa) acc f fs h)
 |false=>match f.todo with
  |[]=>Zli pa (Zhw A T (ZpD l pa) acc f fs h)
  |it::k=>match it with
   | .inReg os=>(match os with
     |[]=>Zli pa (Zhw A T (ZpD l pa) acc f fs h)
     |o::os=>opG A T l pa acc o os f k fs h)
   | .code c=>(match c with
     | .cond c a b=>ZIF pa acc f k fs h (Zbz (ZaJ f.env) c) a b
     | .reg d ops=>(match d with
       |some fr=>ZN0 A T l pa acc f k fs h fr ops
       |none=>Zli pa (Zhw A T (ZpD l pa) acc f fs h))
     |_=>Zli pa (Zhw A T (ZpD l pa) acc f fs h))
   |_=>Zli pa (Zhw A T (ZpD l pa) acc f fs h)
def ZhP(A:Ar)(T:Tab)(l:List Ctr):Nat→List Bool→List Bool→AFrame→List AFrame→Zaa→Option ASt
 |0,_,acc,f,fs,h=>some (acc,f,fs,h)
 |n+1,pa,acc,f,fs,h=>match ZAQ A T l pa acc f fs h with
  |none=>none
  |some (pa',acc',f',fs',h')=>ZhP A T l n pa' acc' f' fs' h'
section
variable {C:Ctx}{T:Tab}{l:List Ctr}{h h':Zaa}{f f':AFrame}{fs fs':List AFrame}{k:List AItem}{Q:List AFrame→Zaa→Prop}{pa pa' acc acc':List Bool}
theorem Zif:∀ {os:List AOp} {st:List Nat} {pa pa' acc acc':List Bool} {env env':ZiZ} {h h':Zaa} {zs:List Foot},Zma std T l os st pa acc env h=some (pa',acc',env',h',zs)→(∀b∈acc',b=true)→∀b∈acc,b=true
 |[],st,pa,pa',acc,acc',env,env',h,h',zs,hd,hb=>by simp only[Zma,Option.some.injEq,Prod.mk.injEq]at hd;obtain⟨_,rfl,_⟩:=hd;exact hb
 |o::os,st,pa,pa',acc,acc',env,env',h,h',zs,hd,hb=>by
  simp only[Zma]at hd
  split at hd
  ·cases hd
  ·rename_i hs
   split at hd
   ·cases hd
   ·split at hd
    ·cases hd
    ·rename_i hr
     cases hd
     have:=Zif hr hb
     exact(ZgU hs (fun b hb'=>this b (List.mem_cons_of_mem _ hb'))).2
theorem Ziw(hT:Zch C.P T)(hl:Zap C.P l):∀ {os:List AOp} {st:List Nat} {pa pa' acc acc':List Bool} {env env':ZiZ} {h h':Zaa} {zs:List Foot},Zma std T l os st pa acc env h=some (pa',acc',env',h',zs)→(∀b∈acc',b=true)→zs.map (·.o)=os∧Runs C.P zs (ZaJ env) h (ZaJ env') h'
 |[],st,pa,pa',acc,acc',env,env',h,h',zs,hd,_=>by simp only[Zma,Option.some.injEq,Prod.mk.injEq]at hd;obtain⟨_,_,rfl,rfl,rfl⟩:=hd;exact⟨rfl, .nil _ _⟩
 |o::os,st,pa,pa',acc,acc',env,env',h,h',zs,hd,hb=>by
  simp only[Zma]at hd
  split at hd
  ·cases hd
  ·rename_i pa1 acc1 env1 st1 hs
   split at hd
   ·cases hd
   ·rename_i b r h1 ho
    split at hd
    ·cases hd
    ·rename_i hr
     cases hd
     have ha:=Zif hr hb
     obtain⟨i1,i2⟩:=Ziw hT hl hr hb
     obtain⟨e,_⟩:=ZgU hs (fun b hb'=>ha b (List.mem_cons_of_mem _ hb'))
     subst e
     have hbt:=ha b List.mem_cons_self
     subst hbt
     rw[Zed]at i2
     have:=ZdX hT (ZiL hl pa1) ho
     exact⟨by simp[Zjl,i1], .cons ⟨this,fun x hx p hp=>by simp only[Zjl,List.mem_flatMap];exact⟨x,hx,hp⟩,Zk7 this⟩ i2⟩
theorem Znb{fr:List (Nat×Nat)}{zs:List Foot}(hb:Zqi fr zs=true):∀(i j:Nat) (x z:Foot),(i,j)∈fr→zs[i]? =some x→zs[j]? =some z→Zpz x z:=by
 unfold Zqi at hb
 split at hb
 ·intro i j x z hm;simp at hm
 ·exact ZgH hb
def Zrf(C:Ctx)(Q:List AFrame→Zaa→Prop)(acc:List Bool)(f:AFrame)(fs:List AFrame)(h:Zaa)(r:ZB8):Prop:=
 ∀pa' acc' f' fs' h',r=some (pa',acc',f',fs',h')→(∀b∈acc',b=true)→Ev C (f'::fs') h' Q→(∀b∈acc,b=true)∧Ev C (f::fs) h Q
theorem Znl{r:Zrl}(hs:ZiJ C Q acc f fs h r):Zrf C Q acc f fs h (Zli pa r):=by
 intro pa' acc' f' fs' h' he hb hq
 cases r with
 |none=>cases he
 |some p=>obtain⟨a,b,c,d⟩:=p;cases he;exact hs _ _ _ _ rfl hb hq
theorem ZmA(hfol:C.P.follows .mixedOrders=true)(hT:Zch C.P T)(hl:Zap C.P l):Zrf C Q acc f fs h (ZAQ std T l pa acc f fs h):=by
 have base:Zrf C Q acc f fs h (Zli pa (Zhw std T (ZpD l pa) acc f fs h)):=Znl (ZhZ hfol hT (ZiL hl pa))
 unfold ZAQ
 split
 ·exact base
 ·rename_i hr
  split
  ·exact base
  ·rename_i it k ht
   split
   ·split
    ·exact base
    ·rename_i o os
     intro pa' acc' f' fs' h' he hb hq
     unfold opG at he
     split at he
     ·rename_i bm rm hm2 hmr
      cases he
      have hbt:=hb bm List.mem_cons_self
      subst hbt
      exact⟨fun b hb'=>hb b (List.mem_cons_of_mem _ hb'),ZAH hl hr ht hmr hq⟩
     split at he
     ·cases he
     ·rename_i pa1 acc1 env1 st1 hs
      split at he
      ·cases he
      ·rename_i acc2 f2 fs2 h2 ho
       cases he
       have key:(∀b∈acc1,b=true)→env1=f.env∧∀b∈acc,b=true:=fun h1=>ZgU hs h1
       have hsd:=ZlV (Q:=Q) hT (ZiL hl pa1) (f:={ f with env:=env1 }) (acc:=acc1) (fs:=fs) (h:=h) (k:=k) (o:=o) (os:=os) hr ht _ _ _ _ ho hb hq
       obtain⟨e,h3⟩:=key hsd.1
       refine⟨h3,?_⟩
       have:=hsd.2
       rw[e]at this
       exact this
   ·rename_i c
    split
    ·rename_i c a b
     intro pa' acc' f' fs' h' he hb hq
     unfold ZIF at he
     split at he
     ·rename_i t hc
      split at he
      ·rename_i p ps
       cases he
       have:=Zv8 (hb _ List.mem_cons_self)
       subst this
       exact⟨fun b hb'=>hb b (List.mem_cons_of_mem _ hb'),ZmR hr ht hc (by cases t<;>exact hq)⟩
      ·cases he
     ·cases he
    ·split
     ·rename_i ops fr
      intro pa' acc' f' fs' h' he hb hq
      unfold ZN0 at he
      split at he
      ·cases he
      ·rename_i pa1 acc1 env1 h1 zs hd
       split at he
       ·rename_i hfree
        cases he
        obtain⟨d1,d2⟩:=Ziw hT hl hd hb
        exact⟨Zif hd hb,ZqI hfol hr ht d1 (fun i j x z hm hx hz _=>Znb hfree i j x z hm hx hz) d2 (fun _ _ e=>e) hq⟩
       ·cases he
     ·exact base
    ·exact base
   ·exact base
theorem Zci(hfol:C.P.follows .mixedOrders=true)(hT:Zch C.P T)(hl:Zap C.P l):∀(n:Nat) {pa acc:List Bool} {f:AFrame} {fs:List AFrame} {h:Zaa},ZiJ C Q acc f fs h (ZhP std T l n pa acc f fs h)
 |0,pa,acc,f,fs,h=>by
  intro acc' f' fs' h' he hb hq
  simp only[ZhP,Option.some.injEq,Prod.mk.injEq]at he
  obtain⟨rfl,rfl,rfl,rfl⟩:=he
  exact⟨hb,hq⟩
 |n+1,pa,acc,f,fs,h=>by
  intro acc' f' fs' h' he hb hq
  simp only[ZhP]at he
  split at he
  ·cases he
  ·rename_i pa1 acc1 f1 fs1 h1 hs
   obtain⟨hb1,hq1⟩:=Zci hfol hT hl n _ _ _ _ he hb hq
   exact ZmA hfol hT hl _ _ _ _ _ hs hb1 hq1
end
end Go.Proofs.Ytjhdnpmojhkbjaa
/- Tracked blocks are named anew: those that nothing names are dropped, the others are counted from 0. No condition. -/
namespace Go.Proofs.Ytjhdnpmojhkbjaa
open Go.RowKit (Below)
mutual
def AV.ren(σ:Nat→Nat→Option Nat):AV→AV
 | .ptr a i k o=>match σ a i with |some j=>.ptr a j k o |none=>.top
 | .row a i=>match σ a i with |some j=>.row a j |none=>.top
 | .slc a i k n c=>match σ a i with |some j=>.slc a j k n c |none=>.top
 | .aslc a i k o n=>match σ a i with |some j=>.aslc a j k o n |none=>.top
 | .yld a i=>match σ a i with |some j=>.yld a j |none=>.top
 | .agg r=>.agg (Row.ren σ r)
 | .tup xs=>.tup (AV.renL σ xs)
 | .fn f xs=>.fn f (AV.renL σ xs)
 | .int k n=>.int k n
 | .bool b=>.bool b
 | .str s=>.str s
 | .flt k b=>.flt k b
 | .val v=>.val v
 | .nils=>.nils
 | .list r=>.list r
 | .eptr x o=>.eptr x o
 | .und=>.und
 | .top=>.top
def AV.renL(σ:Nat→Nat→Option Nat):List AV→List AV
 |[]=>[]
 |x::xs=>AV.ren σ x::AV.renL σ xs
def Row.ren(σ:Nat→Nat→Option Nat):Row→Row
 | .gen xs=>.gen (AV.renL σ xs)
 | .ints k l=>.ints k l
 | .flts k l=>.flts k l
 | .big sh xs=>.big sh xs
end
section
variable {σ:Nat→Nat→Option Nat}
theorem ZhH:∀xs:List AV,AV.renL σ xs=xs.map (AV.ren σ)
 |[]=>rfl
 |x::xs=>by rw[AV.renL,ZhH xs];rfl
theorem Zlk(s:Sh)(v:AV):AV.ren σ (s.view1 v)=s.view1 v:=by cases s<;>rfl
theorem Zlz:∀(ss:List Sh) (i:Nat) (v:AV),AV.renL σ (ZeI ss i v)=ZeI ss i v
 |[],_,_=>rfl
 |s::ss,i,v=>by rw[ZeI,AV.renL,Zlk,Zlz ss]
theorem Zuv(s:Sh)(v:AV):AV.ren σ (s.view v)=s.view v:=by
 cases s with
 |agg ss=>simp only[Sh.view,AV.ren,Row.ren,Zlz]
 |_=>simp only[Sh.view];exact Zlk _ _
theorem Zc2(r:Row):(Row.ren σ r).elems=r.elems.map (AV.ren σ):=by
 cases r with
 |gen xs=>rw[Row.ren,Row.elems,Row.elems,ZhH]
 |ints k l=>rw[Row.ren,Row.elems,List.map_map];rfl
 |flts k l=>rw[Row.ren,Row.elems,List.map_map];rfl
 |big sh xs=>rw[Row.ren,Row.elems,List.map_map];exact List.map_congr_left fun v _=>(Zuv sh v).symm
theorem Zot(v:AV):(AV.ren σ v).flat=v.flat.map (AV.ren σ):=by
 cases v with
 |agg r=>simp only[AV.ren,AV.flat,Zc2]
 |ptr a i k o=>simp only[AV.ren];split<;>simp_all[AV.flat,AV.ren]
 |row a i=>simp only[AV.ren];split<;>simp_all[AV.flat,AV.ren]
 |slc a i k n c=>simp only[AV.ren];split<;>simp_all[AV.flat,AV.ren]
 |aslc a i k o n=>simp only[AV.ren];split<;>simp_all[AV.flat,AV.ren]
 |yld a i=>simp only[AV.ren];split<;>simp_all[AV.flat,AV.ren]
 |_=>rfl
theorem ZmJ(xs:List AV):Zae (xs.map (AV.ren σ))=(Zae xs).map (AV.ren σ):=by
 induction xs with
 |nil=>rfl
 |cons x xs ih=>rw[List.map_cons,ZaE,ZaE,List.map_append,ih,Zot]
end
structure Good (h:Zaa) (L:Lay) (h':Zaa) (L':Lay) (σ:Nat→Nat→Option Nat):Prop where
 fwd:∀a i j,σ a i=some j→j<nxt h' a∧(∀sz,(blk h' a j).tag=some sz→(blk h a i).tag=some sz)∧L'.loc a j=L.loc a i∧L'.size a j=L.size a i
 bwd:∀a j,(blk h' a j).tag≠none→∃i,(blk h a i).tag≠none∧L'.loc a j=L.loc a i
section
variable {C:Ctx}{h h':Zaa}{L L':Lay}{w:World}{σ:Nat→Nat→Option Nat}{ok ok':Nat→Prop}
theorem Good.okk(G:Good h L h' L' σ){g:Nat}(ho:Zas C h L g):Zas C h' L' g:=by
 rcases ho with ho |⟨h1,h2⟩
 ·exact .inl ho
 ·refine .inr ⟨h1,fun a j ht e=>?_⟩
  obtain⟨i,hi,hl⟩:=G.bwd a j ht
  exact h2 a i hi (hl.symm.trans e)
theorem Live.ren(G:Good h L h' L' σ){a i j:Nat}(hs:σ a i=some j){p p':Nat→Nat×Nat→Prop}(hl:Live h L a i p)(hp:∀sz,L'.size a j=L.size a i→p (L.loc a i) sz→p' (L.loc a i) sz):Live h' L' a j p':=by
 obtain⟨g1,g2,g3,g4⟩:=G.fwd a i j hs
 exact⟨g1,fun sz ht=>by rw[g3];exact hp sz g4 (hl.2 sz (g2 sz ht))⟩
theorem Rel.ren(G:Good h L h' L' σ)(hok:∀g,ok g→ok' g){av:AV}{v:Value}(hr:Rel w ok h L av v):Rel w ok' h' L' (AV.ren σ av) v:=by
 induction hr with
 |int k n=>exact .int k n
 |bool b=>exact .bool b
 |str x=>exact .str x
 |flt k b=>exact .flt k b
 |val v=>exact .val v
 |nils=>exact .nils
 |nil r a c hr=>exact .nil r a c hr
 |list r xs hx ad n cap sz cs hb ho hn hcap hsz hl h1 hc hp hr ih=>
  exact .list r xs hx ad n cap sz cs hb (hok _ ho) hn hcap hsz hl h1 hc hp (fun j u v hu hv=>((hr j u v hu hv).okmono (fun g _ ho=>hok g ho)).pure (AV.pureL_mem hp hu))
 |eptr x off ad cs hs hb ho hl h1 hc hp hr ih=>
  exact .eptr x off ad cs hs hb (hok _ ho) hl h1 hc hp (fun j u v hu hv=>((hr j u v hu hv).okmono (fun g _ ho=>hok g ho)).pure (AV.pureL_mem hp hu))
 |agg r xs hx vs hl h1 hr ih=>
  rw[AV.ren]
  refine .agg _ (xs.map (AV.ren σ)) (by rw[Zc2,hx]) vs (by simpa using hl) h1 (fun j u v hu hv=>?_)
  rw[List.getElem?_map]at hu
  cases hxj:xs[j]? with
  |none=>rw[hxj]at hu;cases hu
  |some z=>rw[hxj]at hu;simp only[Option.map_some,Option.some.injEq]at hu;subst hu;exact ih j z v hxj hv
 |tup xs vs hl hr ih=>
  rw[AV.ren,ZhH]
  refine .tup _ vs (by simpa using hl) (fun j u v hu hv=>?_)
  rw[List.getElem?_map]at hu
  cases hxj:xs[j]? with
  |none=>rw[hxj]at hu;cases hu
  |some z=>rw[hxj]at hu;simp only[Option.map_some,Option.some.injEq]at hu;subst hu;exact ih j z v hxj hv
 |fn f xs vs hl hr ih=>
  rw[AV.ren,ZhH]
  refine .fn f _ vs (by simpa using hl) (fun j u v hu hv=>?_)
  rw[List.getElem?_map]at hu
  cases hxj:xs[j]? with
  |none=>rw[hxj]at hu;cases hu
  |some z=>rw[hxj]at hu;simp only[Option.map_some,Option.some.injEq]at hu;subst hu;exact ih j z v hxj hv
 |ptr a i k off g o hl=>
  rw[AV.ren]
  cases hs:σ a i with
  |none=>exact .top _
  |some j=>exact .ptr a j k off g o (hl.ren G hs fun _ _ h=>h)
 |row a i g o n c hn hl=>
  rw[AV.ren]
  cases hs:σ a i with
  |none=>exact .top _
  |some j=>exact .row a j g o n c hn (hl.ren G hs fun _ e h=>by rw[e];exact h)
 |slc a i k n cap g o c hn hl=>
  rw[AV.ren]
  cases hs:σ a i with
  |none=>exact .top _
  |some j=>exact .slc a j k n cap g o c hn (hl.ren G hs fun _ e h=>by rw[e];exact h)
 |aslc a i k off n g o c hn hl=>
  rw[AV.ren]
  cases hs:σ a i with
  |none=>exact .top _
  |some j=>exact .aslc a j k off n g o c hn (hl.ren G hs fun _ _ h=>h)
 |yld a i g hl=>
  rw[AV.ren]
  cases hs:σ a i with
  |none=>exact .top _
  |some j=>exact .yld a j g (hl.ren G hs fun _ _ h=>h)
 |und=>exact .und
 |top v=>exact .top v
def Zia(σ:Nat→Nat→Option Nat):ZiZ→ZiZ
 |[]=>[]
 |(t,v)::l=>(t,AV.ren σ v)::Zia σ l
theorem Zh0:∀(env:ZiZ) (t:Nat),ZaJ (Zia σ env) t=(ZaJ env t).map (AV.ren σ)
 |[],t=>rfl
 |(i,x)::l,t=>by
  simp only[Zia,ZaJ]
  split
  ·rfl
  ·exact Zh0 l t
theorem EnvRel.ren(G:Good h L h' L' σ){env:ZiZ}{tmps:Array Value}(he:EnvRel C h L w env tmps):EnvRel C h' L' w (Zia σ env) tmps:=by
 intro t av ht
 rw[Zh0]at ht
 cases hx:ZaJ env t with
 |none=>rw[hx]at ht;cases ht
 |some u=>rw[hx]at ht;simp only[Option.map_some,Option.some.injEq]at ht;subst ht;exact(he t u hx).ren G (fun g ho=>G.okk ho)
def Blk.ren(σ:Nat→Nat→Option Nat):Blk→Blk
 | .row e sz r=>.row e sz (Row.ren σ r)
 | .lp l=>.lp { l with env:=Zia σ l.env }
 | .dfr=>.dfr
 | .dead=>.dead
theorem Blk.ren_tag(b:Blk):(b.ren σ).tag=b.tag:=by
 cases b with
 |row e sz r=>simp only[Blk.ren,Blk.tag,Zc2,List.length_map]
 |_=>rfl
theorem BRel.ren(G:Good h L h' L' σ){g n:Nat}{b:Blk}(hb:BRel C h L w g n b):BRel C h' L' w g n (b.ren σ):=by
 cases b with
 |row e sz r=>
  obtain⟨h0,h1,h2,h3,cur,h4,h5,h6,h7⟩:=hb
  refine⟨h0,h1,by rw[Zc2,List.length_map];exact h2,fun x hx=>?_,cur,h4,h5,?_,by rw[Zc2,List.length_map];exact h7⟩
  ·rw[Zc2]at hx
   obtain⟨y,hy,rfl⟩:=List.mem_map.1 hx
   rw[Zot,List.length_map];exact h3 y hy
  ·rw[Zc2,List.length_map,ZmJ]
   refine⟨by rw[List.length_map];exact h6.1,fun j u v hu hv=>?_⟩
   rw[List.getElem?_map]at hu
   cases hx:(Zae r.elems)[j]? with
   |none=>rw[hx]at hu;cases hu
   |some z=>rw[hx]at hu;simp only[Option.map_some,Option.some.injEq]at hu;subst hu;exact(h6.2 j z v hx hv).ren G (fun g ho=>G.okk ho)
 |lp l=>
  obtain⟨r,h1,h2,h3,h4,h5,h6,h7,h8,h9⟩:=hb
  exact⟨r,h1,h2,h3,h4,h5.ren G,h6,h7,h8,h9⟩
 |dfr=>exact hb
 |dead=>trivial
def Zty(σ:Nat→Nat→Option Nat):AItem→Option AItem
 | .inRF a i=>match σ a i with |some j=>some (.inRF a j) |none=>none
 | .endRF a i=>match σ a i with |some j=>some (.endRF a j) |none=>none
 | .code c=>some (.code c)
 | .inBlock i=>some (.inBlock i)
 | .inLoop b=>some (.inLoop b)
 | .inReg os=>some (.inReg os)
 | .beginRound=>some .beginRound
def ZjD(σ:Nat→Nat→Option Nat):List AItem→Option (List AItem)
 |[]=>some []
 |x::k=>match Zty σ x with
  |none=>none
  |some y=>match ZjD σ k with |some l=>some (y::l) |none=>none
def ZuO(σ:Nat→Nat→Option Nat):List (Nat×Nat)→Option (List (Nat×Nat))
 |[]=>some []
 |(a,i)::k=>match σ a i with
  |none=>none
  |some j=>match ZuO σ k with |some l=>some ((a,j)::l) |none=>none
def Zvf(σ:Nat→Nat→Option Nat):Option (Nat×Nat)→Option (Option (Nat×Nat))
 |none=>some none
 |some (a,i)=>match σ a i with |some j=>some (some (a,j)) |none=>none
def Zxk:AItem→Bool
 | .inRF _ _=>false
 | .endRF _ _=>false
 |_=>true
def Zf9:List AItem→Bool
 |[]=>true
 |x::k=>match Zxk x with |true=>Zf9 k |false=>false
def ZMh(σ:Nat→Nat→Option Nat)(f:AFrame):Option AFrame:=
 match ZuO σ f.defs with
 |none=>none
 |some ds=>match Zvf σ f.rnd with
  |none=>none
  |some rd=>match Zf9 f.todo with
   |true=>some { f with env:=Zia σ f.env,defs:=ds,rnd:=rd }
   |false=>match ZjD σ f.todo with
    |none=>none
    |some td=>some { f with env:=Zia σ f.env,todo:=td,defs:=ds,rnd:=rd }
def Zrw(σ:Nat→Nat→Option Nat):List AFrame→Option (List AFrame)
 |[]=>some []
 |f::fs=>match ZMh σ f with
  |none=>none
  |some g=>match Zrw σ fs with |some gs=>some (g::gs) |none=>none
theorem ItRel.ren{P:Program}{N:Nat}(G:Good h L h' L' σ){x x':AItem}{y:Item}(hr:Zty σ x=some x')(hx:ItRel P h L N x y):ItRel P h' L' N x' y:=by
 cases hx with
 |code a c hm=>cases hr;exact .code a c hm
 |inBlock id=>cases hr;exact .inBlock id
 |inLoop a c hm=>cases hr;exact .inLoop a c hm
 |inReg ops k aos hm=>cases hr;exact .inReg ops k aos hm
 |beginRound=>cases hr;exact .beginRound
 |inRF a i g hl=>
  simp only[Zty]at hr
  split at hr
  ·rename_i j hs;cases hr;exact .inRF a j g (hl.ren G hs fun _ _ h=>h)
  ·cases hr
 |endRF a i g hl=>
  simp only[Zty]at hr
  split at hr
  ·rename_i j hs;cases hr;exact .endRF a j g (hl.ren G hs fun _ _ h=>h)
  ·cases hr
theorem ItsRel.ren{P:Program}{N:Nat}(G:Good h L h' L' σ):∀ {x x':List AItem} {y:List Item},ZjD σ x=some x'→ItsRel P h L N x y→ItsRel P h' L' N x' y
 |[],x',y,hr,hx=>by cases hx;cases hr;exact .nil
 |x::k,x',y,hr,hx=>by
  cases hx with
  |cons hx hk=>
   simp only[ZjD]at hr
   split at hr
   ·cases hr
   ·rename_i z hz
    split at hr
    ·rename_i l hl;cases hr;exact .cons (hx.ren G hz) (ItsRel.ren G hl hk)
    ·cases hr
theorem Zk4:∀ {x:List AItem},Zf9 x=true→ZjD σ x=some x
 |[],_=>rfl
 |x::k,hp=>by
  simp only[Zf9]at hp
  split at hp
  ·rename_i h1
   simp only[ZjD,Zk4 hp]
   cases x<;>first |rfl |cases h1
  ·cases hp
theorem ZjM(G:Good h L h' L' σ){p:Nat→Nat×Nat→Prop} :∀ {l l':List (Nat×Nat)},ZuO σ l=some l'→l'.length=l.length∧∀(j:Nat) (d:Nat×Nat),l'[j]? =some d→∃d0:Nat×Nat,l[j]? =some d0∧d0.1=d.1∧σ d0.1 d0.2=some d.2
 |[],l',hr=>by cases hr;exact⟨rfl,fun j d hd=>by simp at hd⟩
 |(a,i)::k,l',hr=>by
  simp only[ZuO]at hr
  split at hr
  ·cases hr
  ·rename_i j hs
   split at hr
   ·rename_i l hl
    cases hr
    obtain⟨h1,h2⟩:=ZjM (p:=p) G hl
    refine⟨by simp[h1],fun q d hd=>?_⟩
    cases q with
    |zero=>simp at hd;subst hd;exact⟨(a,i),rfl,rfl,hs⟩
    |succ q=>obtain⟨d0,e1,e2,e3⟩:=h2 q d (by simpa using hd);exact⟨d0,by simpa using e1,e2,e3⟩
   ·cases hr
theorem FrRel.ren(G:Good h L h' L' σ){af af':AFrame}{fr:Frame}(hr:ZMh σ af=some af')(hf:FrRel C h L w af fr):FrRel C h' L' w af' fr:=by
 unfold ZMh at hr
 split at hr
 ·cases hr
 ·rename_i ds hds
  split at hr
  ·cases hr
  ·rename_i rd hrd
   have hd:DefRel h' L' ds fr.defers:=by
    obtain⟨gs,h1,h2,h3⟩:=hf.defs
    obtain⟨e1,e2⟩:=ZjM (p:=fun _ _=>True) G hds
    refine⟨gs,h1,h2.trans e1.symm,fun j d g hd hg=>?_⟩
    obtain⟨d0,q1,q2,q3⟩:=e2 j d hd
    obtain⟨d1,d2⟩:=d
    obtain⟨d3,d4⟩:=d0
    simp only at q2 q3
    subst q2
    exact(h3 j _ g q1 hg).ren G q3 fun _ _ h=>h
   have hn:RndRel h' L' rd fr.roundOf∧(rd=none→af.rnd=none):=by
    have hrn:=hf.rnd
    unfold Zvf at hrd
    split at hrd
    ·rename_i e;cases hrd;rw[e]at hrn;exact⟨hrn,fun _=>e⟩
    ·rename_i a i e
     rw[e]at hrn
     split at hrd
     ·rename_i j hs;cases hrd
      obtain⟨g,hg,hl⟩:=hrn
      exact⟨⟨g,hg,hl.ren G hs fun _ _ h=>h⟩,fun e=>by cases e⟩
     ·cases hrd
   split at hr
   ·rename_i hp
    cases hr
    exact⟨hf.fn,hf.size,hf.env.ren G,hf.kind,hd,hn.1,hf.mode.imp id fun⟨a,b,c⟩=>⟨a,b,c.ren G (Zk4 hp)⟩,fun e=>hf.res (hn.2 e)⟩
   ·split at hr
    ·cases hr
    ·rename_i td htd
     cases hr
     exact⟨hf.fn,hf.size,hf.env.ren G,hf.kind,hd,hn.1,hf.mode.imp id fun⟨a,b,c⟩=>⟨a,b,c.ren G htd⟩,fun e=>hf.res (hn.2 e)⟩
theorem FrsRel.ren(G:Good h L h' L' σ):∀ {afs afs':List AFrame} {cs:List Frame},Zrw σ afs=some afs'→FrsRel C h L w afs cs→FrsRel C h' L' w afs' cs
 |[],afs',cs,hr,hf=>by cases hf;cases hr;exact .base
 |f::fs,afs',cs,hr,hf=>by
  cases hf with
  |cons hf hk=>
   simp only[Zrw]at hr
   split at hr
   ·cases hr
   ·rename_i g hg
    split at hr
    ·rename_i gs hgs;cases hr;exact .cons (hf.ren G hg) (FrsRel.ren G hgs hk)
    ·cases hr
end
abbrev Zyb:=List (Nat×Nat×List Blk)
def ZFL:Blk→Bool
 | .dead=>true
 |_=>false
def Znc(R:List (Nat×Nat))(a:Nat):Nat→List Blk→List Blk
 |_,[]=>[]
 |i,b::l=>match(match Zxb (a,i) R with |true=>b |false=>.dead),Znc R a (i+1) l with
  | .dead,[]=>[]
  |b',l'=>b'::l'
def Zrc:Nat→List Blk→Nat×List Blk
 |n,[]=>(n,[])
 |n,b::l=>match ZFL b with |true=>Zrc (n+1) l |false=>(n,b::l)
def ZmV(R:List (Nat×Nat))(a:Nat)(f:Fam):Nat×List Blk:=Zrc f.base (Znc R a f.base f.blks)
def Zbg(R:List (Nat×Nat)):Zaa→Zyb
 |[]=>[]
 |(a,f)::rest=>match ZmV R a f with
  |(s,l)=>(match l,ZaJ rest a with
   |[],none=>Zbg R rest
   |l,_=>(a,s,l)::Zbg R rest)
def ZoQ(t:Zyb)(a i:Nat):Option Nat:=
 match ZaJ t a with
 |none=>none
 |some p=>match Nat.ble p.1 i with
  |false=>none
  |true=>match ZFL (p.2.getD (i-p.1) .dead)with |true=>none |false=>some (i-p.1)
def Zi0(σ:Nat→Nat→Option Nat):Zyb→Zaa
 |[]=>[]
 |(a,_,l)::t=>(a,⟨0,l.map (Blk.ren σ)⟩)::Zi0 σ t
def Zqb(t:Zyb)(L:Lay):Lay:=⟨fun a j=>L.loc a (j+match ZaJ t a with |some p=>p.1 |none=>0),fun a j=>L.size a (j+match ZaJ t a with |some p=>p.1 |none=>0)⟩
theorem ZjP{R:List (Nat×Nat)}{a:Nat} :∀(l:List Blk) (i j:Nat),(Znc R a i l).getD j .dead=.dead∨(Znc R a i l).getD j .dead=l.getD j .dead
 |[],i,j=>.inl (by simp[Znc])
 |b::l,i,j=>by
  have ih:=ZjP (R:=R) (a:=a) l (i+1)
  simp only[Znc]
  split
  ·left;simp
  ·cases j with
   |zero=>
    simp only[List.getD_cons_zero]
    split
    ·right;rfl
    ·left;rfl
   |succ j=>simp only[List.getD_cons_succ];exact ih j
theorem ZjJ:∀(l:List Blk) (n j:Nat),∃d,(Zrc n l).1=n+d∧(Zrc n l).2.getD j .dead=l.getD (j+d) .dead
 |[],n,j=>⟨0,rfl,rfl⟩
 |b::l,n,j=>by
  simp only[Zrc]
  split
  ·obtain⟨d,h1,h2⟩:=ZjJ l (n+1) j
   exact⟨d+1,by rw[h1];omega,by rw[h2,←Nat.add_assoc,List.getD_cons_succ]⟩
  ·exact⟨0,rfl,rfl⟩
theorem ZjE{R:List (Nat×Nat)} :∀ {h:Zaa} {a:Nat} {p:Nat×List Blk},ZaJ (Zbg R h) a=some p→∃f,ZaJ h a=some f∧ZmV R a f=p
 |[],a,p,h=>by cases h
 |(b,f)::rest,a,p,h=>by
  have ih:= @ZjE R rest a p
  have hb:∀x y:Nat,Nat.beq x y=decide (x=y):=fun x y=>by rw[Bool.eq_iff_iff];simp
  simp only[Zbg]at h
  split at h
  ·rename_i hl hr
   obtain⟨f',h1,h2⟩:=ih h
   refine⟨f',?_,h2⟩
   simp only[ZaJ,hb]
   by_cases hba:b=a
   ·subst hba;rw[hr]at h1;cases h1
   ·simp only[hba,decide_false];exact h1
  ·simp only[ZaJ,hb]at h⊢
   by_cases hba:b=a
   ·subst hba;simp only[decide_true,Option.some.injEq]at h ⊢;exact⟨f,rfl,h⟩
   ·simp only[hba,decide_false]at h ⊢;exact ih h
theorem Zjz{σ:Nat→Nat→Option Nat} :∀(t:Zyb) (a:Nat),ZaJ (Zi0 σ t) a=(ZaJ t a).map fun p=>⟨0,p.2.map (Blk.ren σ)⟩
 |[],a=>rfl
 |(b,s,l)::t,a=>by
  simp only[Zi0,ZaJ]
  split
  ·rfl
  ·exact Zjz t a
theorem Zeo{σ:Nat→Nat→Option Nat}(t:Zyb)(a j:Nat):blk (Zi0 σ t) a j=Blk.ren σ (match ZaJ t a with |some p=>p.2.getD j .dead |none=>.dead)∧nxt (Zi0 σ t) a=match ZaJ t a with |some p=>p.2.length |none=>0:=by
 unfold blk nxt fam
 rw[Zjz]
 cases ZaJ t a with
 |none=>simp[Fam.get,Zce,Blk.ren]
 |some p=>
  simp only[Option.map_some,Option.getD_some,Fam.get,Zce (Nat.zero_le _),Nat.sub_zero,List.length_map,Nat.zero_add,and_true]
  simp only[List.getD_eq_getElem?_getD,List.getElem?_map]
  cases p.2[j]?<;>rfl
theorem ZeP{R:List (Nat×Nat)}{h:Zaa}{a:Nat}{p:Nat×List Blk}(hp:ZaJ (Zbg R h) a=some p)(j:Nat):p.2.getD j .dead=.dead∨p.2.getD j .dead=blk h a (j+p.1):=by
 obtain⟨f,h1,h2⟩:=ZjE hp
 unfold ZmV at h2
 obtain⟨d,e1,e2⟩:=ZjJ (Znc R a f.base f.blks) f.base j
 rw[h2]at e1 e2
 rw[e2]
 rcases ZjP (R:=R) (a:=a) f.blks f.base (j+d)with h3 |h3
 ·exact .inl h3
 ·right
  rw[h3,e1]
  unfold blk fam Fam.get
  rw[h1]
  simp only[Option.getD_some,Zce (show f.base≤j+(f.base+d) by omega)]
  congr 1;omega
theorem pack_good{R:List (Nat×Nat)}{h:Zaa}{L:Lay} :Good h L (Zi0 (ZoQ (Zbg R h)) (Zbg R h)) (Zqb (Zbg R h) L) (ZoQ (Zbg R h)):=by
 refine⟨fun a i j hs=>?_,fun a j ht=>?_⟩
 ·obtain⟨hb,hn⟩:=Zeo (σ:=ZoQ (Zbg R h)) (Zbg R h) a j
  unfold ZoQ at hs
  cases hp:ZaJ (Zbg R h) a with
  |none=>rw[hp]at hs;cases hs
  |some p=>
   rw[hp]at hs hb hn
   simp only at hs hb hn
   split at hs
   ·cases hs
   ·rename_i hle
    have hle:p.1≤i:=by simpa using hle
    split at hs
    ·cases hs
    ·rename_i hd
     cases hs
     have hlt:i-p.1<p.2.length:=by
      rcases Nat.lt_or_ge (i-p.1) p.2.length with h1 |h1
      ·exact h1
      ·rw[List.getD_eq_getElem?_getD,List.getElem?_eq_none h1]at hd;cases hd
     have hadd:i-p.1+p.1=i:=by omega
     refine⟨by rw[hn];exact hlt,fun sz ht=>?_,by simp only[Zqb,hp,hadd],by simp only[Zqb,hp,hadd]⟩
     rw[hb,Blk.ren_tag]at ht
     rcases ZeP hp (i-p.1)with h1 |h1
     ·rw[h1]at hd;cases hd
     ·rw[h1,hadd]at ht;exact ht
 ·obtain⟨hb,_⟩:=Zeo (σ:=ZoQ (Zbg R h)) (Zbg R h) a j
  rw[hb,Blk.ren_tag]at ht
  cases hp:ZaJ (Zbg R h) a with
  |none=>rw[hp]at ht;exact absurd rfl ht
  |some p=>
   rw[hp]at ht
   simp only at ht
   rcases ZeP hp j with h1 |h1
   ·rw[h1]at ht;exact absurd rfl ht
   ·exact⟨j+p.1,by rw[←h1];exact ht,by simp only[Zqb,hp]⟩
theorem HRel.packed{C:Ctx}{R:List (Nat×Nat)}{h:Zaa}{L:Lay}{w:World}(H:HRel C h L w):HRel C (Zi0 (ZoQ (Zbg R h)) (Zbg R h)) (Zqb (Zbg R h) L) w:=by
 have key:∀a j,(blk (Zi0 (ZoQ (Zbg R h)) (Zbg R h)) a j).tag≠none→∃p,ZaJ (Zbg R h) a=some p∧(blk h a (j+p.1)).tag≠none:=fun a j ht=>by
  obtain⟨hb,_⟩:=Zeo (σ:=ZoQ (Zbg R h)) (Zbg R h) a j
  rw[hb,Blk.ren_tag]at ht
  cases hp:ZaJ (Zbg R h) a with
  |none=>rw[hp]at ht;exact absurd rfl ht
  |some p=>
   rw[hp]at ht
   simp only at ht
   rcases ZeP hp j with h1 |h1
   ·rw[h1]at ht;exact absurd rfl ht
   ·exact⟨p,rfl,by rw[←h1];exact ht⟩
 refine⟨H.below,fun a j ht=>?_,fun a j=>?_,fun a i b j h1 h2 e=>?_,fun a j ht=>?_,H.low,H.base⟩
 rotate_right
 ·obtain⟨p,hp,ht'⟩:=key a j ht
  simp only[Zqb,hp]
  rcases H.home a _ ht' with h9 |⟨h7,h8,h9⟩
  ·exact .inl h9
  ·exact .inr ⟨h7,by omega,h9⟩
 ·obtain⟨p,hp,ht'⟩:=key a j ht
  simp only[Zqb,hp];exact H.live a _ ht'
 ·obtain⟨hb,_⟩:=Zeo (σ:=ZoQ (Zbg R h)) (Zbg R h) a j
  rw[hb]
  cases hp:ZaJ (Zbg R h) a with
  |none=>trivial
  |some p=>
   simp only
   rcases ZeP hp j with h1 |h1
   ·rw[h1];trivial
   ·rw[h1];simp only[Zqb,hp];exact(H.blks a _).ren pack_good
 ·obtain⟨p,hp,hp'⟩:=key a i h1
  obtain⟨q,hq,hq'⟩:=key b j h2
  simp only[Zqb,hp,hq]at e
  obtain⟨rfl,e2⟩:=H.inj _ _ _ _ hp' hq' e
  rw[hp]at hq;cases hq
  exact⟨rfl,by omega⟩
def ZFx:AV→List (Nat×Nat)
 | .tup xs=>xs.flatMap Zh4
 |v=>Zh4 v
def ZMv:Row→List (Nat×Nat)
 | .gen xs=>xs.flatMap ZFx
 |_=>[]
def ZAJ:ZiZ→List (Nat×Nat)
 |[]=>[]
 |(_,v)::l=>ZFx v++ZAJ l
def ZKH:Blk→List (Nat×Nat)
 | .row _ _ r=>ZMv r
 | .lp l=>ZAJ l.env
 |_=>[]
def ZI8:List AItem→List (Nat×Nat)
 |[]=>[]
 |x::k=>(match x with | .inRF a i=>[(a,i)] | .endRF a i=>[(a,i)] |_=>[])++ZI8 k
def ZIR:List AFrame→List (Nat×Nat)
 |[]=>[]
 |f::fs=>ZAJ f.env++((match Zf9 f.todo with |true=>[] |false=>ZI8 f.todo)++(f.defs++((match f.rnd with |some p=>[p] |none=>[])++ZIR fs)))
def ZJE(R:List (Nat×Nat)):List (Nat×Nat)→List (Nat×Nat)
 |[]=>R
 |p::l=>match Zxb p R with |true=>ZJE R l |false=>ZJE (p::R) l
def Zu7(h:Zaa):Nat→List (Nat×Nat)→List (Nat×Nat)→List (Nat×Nat)
 |0,R,_=>R
 |n+1,R,new=>match new.flatMap (fun p=>ZKH (blk h p.1 p.2))with
  |[]=>R
  |l=>Zu7 h n (ZJE R l) l
def ZtK(h:Zaa)(t:Zyb):Bool:=
 match ZaJ t 0 with
 |none=>Nat.beq (nxt h 0) 0
 |some p=>match Nat.beq p.1 0 with |true=>Nat.ble (nxt h 0) p.2.length |false=>false
def ZMg(fs:List AFrame):List (Nat×Nat):=ZJE [] ((0,0)::ZIR fs)
def ZNF(fs:List AFrame)(h:Zaa):Option (List AFrame×Zaa):=
 match ZMg fs with
 |R0=>match Zbg (Zu7 h 4 R0 R0) h with
  |t=>match ZtK h t with
   |false=>none
   |true=>match Zrw (ZoQ t) fs with
    |none=>none
    |some fs'=>some (fs',Zi0 (ZoQ t) t)
theorem ZxE{C:Ctx}{R:List (Nat×Nat)}{h:Zaa}{L:Lay}{w:World}(hk:ZtK h (Zbg R h)=true):Fr C h L w (Zi0 (ZoQ (Zbg R h)) (Zbg R h)) (Zqb (Zbg R h) L) w:=by
 obtain⟨hb,hn⟩:=Zeo (σ:=ZoQ (Zbg R h)) (Zbg R h) 0 0
 refine⟨Nat.le_refl _,fun g _ ho=>⟨pack_good.okk ho,rfl⟩,?_,fun sz _ ht=>?_⟩
 ·rw[hn]
  unfold ZtK at hk
  cases hp:ZaJ (Zbg R h) 0 with
  |none=>rw[hp]at hk;have:=Nat.eq_of_beq_eq_true hk;omega
  |some p=>
   rw[hp]at hk
   simp only at hk⊢
   split at hk
   ·simpa using hk
   ·cases hk
 ·rw[hb,Blk.ren_tag]at ht
  unfold ZtK at hk
  cases hp:ZaJ (Zbg R h) 0 with
  |none=>rw[hp]at ht;cases ht
  |some p=>
   rw[hp]at ht hk
   simp only at ht hk
   split at hk
   ·rename_i h0
    have h0:p.1=0:=Nat.eq_of_beq_eq_true h0
    rcases ZeP hp 0 with h1 |h1
    ·rw[h1]at ht;cases ht
    ·rw[h1,h0]at ht
     refine⟨ht,?_,?_⟩
     ·simp only[Zqb,hp,h0]
     ·simp only[Zqb,hp,h0]
   ·cases hk
theorem ZBr{C:Ctx}{fs fs':List AFrame}{h h':Zaa}{Q:List AFrame→Zaa→Prop}(hp:ZNF fs h=some (fs',h'))(hq:Ev C fs' h' Q):Ev C fs h Q:=by
 intro L fr cs w hf H hne
 unfold ZNF at hp
 dsimp only at hp
 split at hp
 ·cases hp
 ·rename_i hkeep
  split at hp
  ·cases hp
  ·rename_i gs hgs
   cases hp
   obtain⟨fs2,h2',L2,fr2,cs2,w2,q2,n2,a2,b2,s2⟩:=hq _ fr cs w (FrsRel.ren pack_good hgs hf) H.packed (fun e=>by
    subst e
    cases fs with
    |nil=>exact hne rfl
    |cons f fs=>
     simp only[Zrw]at hgs
     split at hgs
     ·cases hgs
     ·split at hgs<;>cases hgs)
   exact⟨fs2,h2',L2,fr2,cs2,w2,q2,n2,a2,b2,s2.1,(ZxE hkeep).trans s2.2⟩
def ZA4(A:Ar)(T:Tab)(l:List Ctr)(n:Nat)(pk:Bool)(pa:List Bool)(f:AFrame)(fs:List AFrame)(h:Zaa):Option (List Bool×List AFrame×Zaa):=
 match ZhP A T l n pa [] f fs h with
 |none=>none
 |some (acc,f',fs',h')=>match pk with
  |false=>some (acc,f'::fs',h')
  |true=>match ZNF (f'::fs') h' with
   |none=>none
   |some (gs,h2)=>some (acc,gs,h2)
theorem Zzi{C:Ctx}{T:Tab}{l:List Ctr}{n:Nat}{pk:Bool}{pa acc:List Bool}{f:AFrame}{fs gs:List AFrame}{h h':Zaa}{Q:List AFrame→Zaa→Prop}(hfol:C.P.follows .mixedOrders=true)(hT:Zch C.P T)(hl:Zap C.P l)
 (hw:ZA4 std T l n pk pa f fs h=some (acc,gs,h')) (hb:AllT acc) (hq:Ev C gs h' Q):Ev C (f::fs) h Q:=by
 unfold ZA4 at hw
 split at hw
 ·cases hw
 ·rename_i acc1 f1 fs1 h1 hs
  split at hw
  ·cases hw
   exact(Zci hfol hT hl n _ _ _ _ hs hb.mem hq).2
  ·split at hw
   ·cases hw
   ·rename_i gs2 h2 hp
    cases hw
    exact(Zci hfol hT hl n _ _ _ _ hs hb.mem (ZBr hp hq)).2
end Go.Proofs.Ytjhdnpmojhkbjaa
/- What comes back is read as a value. No condition. -/
namespace Go.Proofs.Ytjhdnpmojhkbjaa
open Go.RowKit (Below)
inductive Frz1 (fr:Option Fresh):AV→AV→Prop
 |row (f:Fresh) (hf:fr=some f) (hp:f.r.pure=true) (hs:f.r.solid=true):Frz1 fr (.row 0 0) (.list f.r)
 |nil (r:Row) (h:r.elems=[]):Frz1 fr .nils (.list r)
 |same (v:AV) (hp:v.pure=true) (hs:v.solid=true):Frz1 fr v v
def FrzL(fr:Option Fresh):List AV→List AV→Prop
 |[],[]=>True
 |x::xs,y::ys=>Frz1 fr x y∧FrzL fr xs ys
 |_,_=>False
inductive Frz (fr:Option Fresh):AV→AV→Prop
 |one {v v':AV} (h:Frz1 fr v v'):Frz fr v v'
 |tup {xs ys:List AV} (h:FrzL fr xs ys):Frz fr (.tup xs) (.tup ys)
theorem FrzL.spec{fr:Option Fresh} :∀ {xs ys:List AV},FrzL fr xs ys→xs.length=ys.length∧∀(j:Nat) (y:AV),ys[j]? =some y→∃x,xs[j]? =some x∧Frz1 fr x y
 |[],[],_=>⟨rfl,fun j y h=>by simp at h⟩
 |x::xs,y::ys,h=>by
  obtain⟨h1,h2⟩:=h
  obtain⟨e1,e2⟩:=FrzL.spec h2
  refine⟨by simp[e1],fun j z hz=>?_⟩
  cases j with
  |zero=>simp at hz;subst hz;exact⟨x,rfl,h1⟩
  |succ j=>obtain⟨q,q1,q2⟩:=e2 j z (by simpa using hz);exact⟨q,by simpa using q1,q2⟩
section
variable {P:Program}{w w':World}{okA:Nat→Prop}{L':Lay}{fr:Option Fresh}
theorem ZoE(H:HRel (Ctx.of P w okA []) (Zaj fr) L' w'){v v':AV}{x:Value}(hs:Frz1 fr v v')(hr:ZaB (Ctx.of P w okA []) (Zaj fr) L' w' v x):ZaB (Ctx.of P w (fun _=>False) []) [] L' w' v' x:=by
 cases hs with
 |nil r h=>cases hr with |nils=>exact .nil r none 0 h
 |same _ hp hs=>
  exact((hr.pure hp:Rel w' _ [] L' v x).solid hs)
 |row f hf hp hso=>
  subst hf
  have hb:blk (Zaj (some f)) 0 0=.row f.e f.sz f.r:=rfl
  obtain⟨ht,h0,h1,h2,h3,cur,h4,h5,h6,h7,h8⟩:=H.rowAt hb
  have hl:=H.live 0 0 (by rw[ht];simp)
  cases hr with
  |row _ _ g o n c hn hlv=>
   obtain⟨rfl,rfl,rfl,rfl⟩:=hlv.2 _ ht
   have hpa:=ZaD hp
   refine .list f.r _ rfl ⟨L'.loc 0 0,0,none⟩ _ _ f.sz _ hl.2 (.inr ⟨hl.1,fun a i ht=>absurd rfl ht⟩) rfl hn h3 h6.1.symm h7 (fun j v hj=>h8 j v hj) hpa (fun j u v hu hv=>?_)
   have hsu:u.solid=true:=AV.solidL_mem (Zie hso) hu
   exact((h6.2 j u v hu hv).pure (AV.pureL_mem hpa hu):Rel w' _ [] L' u v).solid hsu
theorem ZnM{f:FuncId}{args:List AV}{r r':AV}(h:ZaH P f args r fr)(hz:ZB4 fr=false)(hs:Frz fr r r'):ZaH P f args r' Zn2:=by
 intro w okA L vs hargs hok
 refine(h w okA L vs hargs hok).mono ?_
 rintro e w' ⟨x,L',rfl,hb,hp⟩
 unfold Zk3 at hp
 rw[hz]at hp
 obtain⟨H,hr⟩:=hp
 refine⟨x,L',rfl,hb,?_⟩
 show ZaB (Ctx.of P w (fun _=>False) []) [] L' w' r' x
 cases hs with
 |one hs=>exact ZoE H hs hr
 |tup hs=>
  obtain⟨e1,e2⟩:=hs.spec
  cases hr with
  |tup xs vs hl hrr=>
   refine .tup _ vs (by rw[←e1];exact hl) (fun j u v hu hv=>?_)
   obtain⟨q,q1,q2⟩:=e2 j u hu
   exact ZoE H q2 (hrr j q v q1 hv)
end
def Zad(A:Ar)(T:Tab)(l:List Ctr)(n:Nat)(pa:List Bool)(fs:List AFrame)(h:Zaa):Option (List Bool×List AFrame×Zaa):=
 match fs with
 |[]=>none
 |f::fs=>ZA4 A T l n true pa f fs h
def Zaz(A:Ar)(T:Tab)(l:List Ctr)(n:Nat)(pa:List Bool)(fn:FuncId)(fs:List AFrame)(h:Zaa):Option (List Bool×AV×Option Fresh):=
 match fs with
 |[]=>none
 |f::fs=>match ZhP A T l n pa [] f fs h with
  |none=>none
  |some (acc,g,gs,h')=>match gs with
   |_::_=>none
   |[]=>match g.ret&&Nat.beq g.fn fn with
    |false=>none
    |true=>match g.rnd with
     |some _=>none
     |none=>match g.defs with
      |_::_=>none
      |[]=>match Ztp A g.env h' g.res with
       |none=>none
       |some (b,vs)=>match ZiN h' (Zhv vs)with
        |none=>none
        |some (r,fr)=>some (b::acc,r,fr)
def ZaY(A:Ar)(T:Tab)(l:List Ctr)(n:Nat)(pa:List Bool)(fn:FuncId)(fs:List AFrame)(h:Zaa):Option (List Bool×AV×Nat×Nat×Row):=
 match fs with
 |[]=>none
 |f::fs=>match ZhP A T l n pa [] f fs h with
  |none=>none
  |some (acc,g,gs,h')=>match gs with
   |_::_=>none
   |[]=>match g.ret&&Nat.beq g.fn fn with
    |false=>none
    |true=>match g.rnd with
     |some _=>none
     |none=>match g.defs with
      |_::_=>none
      |[]=>match ZgS A g.env h' g.res with
       |none=>none
       |some (b,vs)=>match blk h' 0 0 with
        | .row e sz y=>match Zs3 (Zhv vs)&&y.pure with
          |true=>some (b::acc,Zhv vs,e,sz,y)
          |false=>none
        |_=>none
section
variable {C:Ctx}{T:Tab}{l:List Ctr}{n:Nat}{pa acc:List Bool}{fs gs:List AFrame}{h h':Zaa}{Q:List AFrame→Zaa→Prop}
theorem ZMw(hfol:C.P.follows .mixedOrders=true)(hT:Zch C.P T)(hl:Zap C.P l)(hw:Zad std T l n pa fs h=some (acc,gs,h'))(hb:AllT acc)(hq:Ev C gs h' Q):Ev C fs h Q:=by
 unfold Zad at hw
 split at hw
 ·cases hw
 ·exact Zzi hfol hT hl hw hb hq
theorem ZHW(hfol:C.P.follows .mixedOrders=true)(hT:Zch C.P T)(hl:Zap C.P l){fn:FuncId}{r r':AV}{fr fr':Option Fresh}(hw:Zaz std T l n pa fn fs h=some (acc,r',fr'))(hb:AllT acc)(hr:r'=r)(hfr:fr'=fr):Ev C fs h (ZdV fn r fr):=by
 subst hr;subst hfr
 unfold Zaz at hw
 split at hw
 ·cases hw
 ·split at hw
  ·cases hw
  ·rename_i acc1 g gs1 h1 hs
   split at hw
   ·cases hw
   ·split at hw
    ·cases hw
    ·rename_i hg
     simp only[Bool.and_eq_true]at hg
     split at hw
     ·cases hw
     ·rename_i hn
      split at hw
      ·cases hw
      ·rename_i hd
       split at hw
       ·cases hw
       ·rename_i b vs hc
        split at hw
        ·cases hw
        ·rename_i hex
         cases hw
         have hb1:b=true:=hb.1
         subst hb1
         exact(Zci hfol hT hl n _ _ _ _ hs hb.2.mem (.now (by simp) ⟨g,vs,rfl,Nat.eq_of_beq_eq_true hg.2,hg.1,hn,hd,hc,hex⟩)).2
theorem Zzf(hfol:C.P.follows .mixedOrders=true)(hT:Zch C.P T)(hl:Zap C.P l){fn:FuncId}{r r':AV}{e sz e' sz':Nat}{y y':Row}(hw:ZaY std T l n pa fn fs h=some (acc,r',e',sz',y'))(hb:AllT acc)(hr:r'=r)(he:e'=e)(hs:sz'=sz)(hy:y'=y):Ev C fs h (Zh1 fn e sz y r):=by
 subst hr;subst he;subst hs;subst hy
 unfold ZaY at hw
 split at hw
 ·cases hw
 ·split at hw
  ·cases hw
  ·rename_i acc1 g gs1 h1 hs
   split at hw
   ·cases hw
   ·split at hw
    ·cases hw
    ·rename_i hg
     simp only[Bool.and_eq_true]at hg
     split at hw
     ·cases hw
     ·rename_i hn
      split at hw
      ·cases hw
      ·rename_i hd
       split at hw
       ·cases hw
       ·rename_i b vs hc
        split at hw
        ·rename_i hbk
         split at hw
         ·rename_i hp
          simp only[Bool.and_eq_true]at hp
          cases hw
          have hb1:b=true:=hb.1
          subst hb1
          exact(Zci hfol hT hl n _ _ _ _ hs hb.2.mem (.now (by simp) ⟨g,vs,rfl,Nat.eq_of_beq_eq_true hg.2,hg.1,hn,hd,hc,rfl,hp.1,hbk,hp.2⟩)).2
         ·cases hw
        ·cases hw
end
end Go.Proofs.Ytjhdnpmojhkbjaa
namespace Go.Proofs.Ytjhdnpmojhkbjaa
@[simp] theorem ZbT (a b:Int):std.add a b=a+b:=rfl
@[simp] theorem ZaW (a b:Int):std.sub a b=a-b:=rfl
@[simp] theorem ZOS (a b:Int):std.mul a b=a*b:=rfl
@[simp] theorem ZQa (a b:Int):std.quo a b=Int.tdiv a b:=rfl
@[simp] theorem ZE4 (a b:Int):std.rem a b=Int.tmod a b:=rfl
@[simp] theorem Zqa (a:Int):std.neg a= -a:=rfl
@[simp] theorem Zfj (a b:Int):std.lt a b=decide (a<b):=rfl
@[simp] theorem ZQl (a b:Int):std.le a b=decide (a≤b):=rfl
@[simp] theorem ZQk (a b:Int):std.eq a b=decide (a=b):=rfl
@[simp] theorem ZaC (a:Int):std.nat a=a.toNat:=rfl
@[simp] theorem ZcZ (a:Nat):std.int a=(a:Int):=rfl
@[simp] theorem ZOW (a b:Int):std.max a b=Max.max a b:=rfl
@[simp] theorem ZO1 (a b:Int):std.min a b=Min.min a b:=rfl
@[simp] theorem ZfQ (l:List Int):std.len l=l.length:=rfl
@[simp] theorem Zfw (l:List Int) (j:Nat):std.nth l j=l.getD j 0:=rfl
@[simp] theorem ZPJ (l:List Int) (j:Nat) (x:Int):std.set l j x=l.set j x:=rfl
@[simp] theorem ZOE (a b:List Int):std.app a b=a++b:=rfl
@[simp] theorem Zfo (l:List Int) (k n:Nat):std.sub3 l k n=(l.drop k).take n:=rfl
@[simp] theorem ZPQ (n:Nat) (x:Int):std.rep n x=List.replicate n x:=rfl
@[simp] theorem ZPA (a:Bool):std.not a=!a:=rfl
@[simp] theorem ZPl (a b:Int):std.shl a b=a*2^b.toNat:=rfl
@[simp] theorem ZEu (a b:Int):std.shr a b=a.fdiv (2^b.toNat):=rfl
@[simp] theorem ZAI (n:Int):std.inR .i64 n=decide (-9223372036854775808≤n∧n≤9223372036854775807):=rfl
@[simp] theorem ZPu (a b:Bool):Zab a b=(a&&b):=by cases a<;>rfl
@[simp] theorem ZPT (a b:Nat):Nat.blt a b=decide (a<b):=by rw[Bool.eq_iff_iff];simp
@[simp] theorem ZOX (a b:Nat):Nat.ble a b=decide (a≤b):=by rw[Bool.eq_iff_iff];simp
@[simp] theorem ZPv (a b:Nat):Nat.beq a b=decide (a=b):=by rw[Bool.eq_iff_iff];simp
theorem Zql(a b:Nat):Nat.add a b=a+b:=rfl
theorem ZvW(a b:Nat):Nat.sub a b=a-b:=rfl
@[simp] theorem ZJL:AllT []=True:=rfl
@[simp] theorem ZlD (b:Bool) (l:List Bool):AllT (b::l)=(b=true∧AllT l):=rfl
def tru:Nat→List Bool→List Bool
 |0,l=>l
 |n+1,l=>true::tru n l
def tr:List Nat→List Bool→List Bool
 |k::ks,x::xs=>tru k (x::tr ks xs)
 |k::_,[]=>tru k []
 |[],xs=>xs
theorem Zkk(l:List Bool):∀n,AllT (tru n l)=AllT l
 |0=>rfl
 |n+1=>by simp only[tru,ZlD,Zkk l n,true_and]
@[simp] theorem ZBq:∀ks xs,AllT (tr ks xs)=AllT xs
 |k::ks,x::xs=>by simp only[tr,Zkk,ZlD,ZBq ks xs]
 |k::ks,[]=>by simp only[tr,Zkk]
 |[],xs=>rfl
end Go.Proofs.Ytjhdnpmojhkbjaa
