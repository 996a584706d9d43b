/- Guided runs: where the way hangs on a letter, a list of choices says which way is taken. No condition. -/
import Derived.Test.YtkeoeooghhjibaaGreatDoorXv
namespace Go.Proofs.YtkeoeooghhjibaaGreatDoor
open Go.RowKit (Below)
def ZCr:List (Nat×AV)→Nat→AV→List (Nat×AV)
 |[],_,_=>[]
 |(i,x)::l,t,y=>match Nat.beq i t with |true=>(i,y)::l |false=>(i,x)::ZCr l t y
theorem ZhY:∀ {env:List (Nat×AV)} {t:Nat} {v:AV},ZaP env t=some v→ZCr env t v=env
 |[],t,v,h=>by cases h
 |(i,x)::l,t,v,h=>by
  simp only[ZaP]at h
  simp only[ZCr]
  split
  ·rename_i hb;rw[hb]at h;cases h;rfl
  ·rename_i hb;rw[hb]at h;rw[ZhY h]
def asB(p b:Bool):Bool:=match p with |true=>b |false=>!b
theorem ZvW{p b:Bool}(h:asB p b=true):b=p:=by cases p<;>cases b<;>first |rfl |cases h
abbrev Zhg:=List (Nat×AV)
def Zri(env:Zhg)(pa acc:List Bool)(t:Nat):Option (List Bool×List Bool×Zhg):=
 match ZaP env t with
 |some v=>(match v with
  | .bool b=>(match pa with
    |p::ps=>some (ps,asB p b::acc,ZCr env t (.bool p))
    |[]=>none)
  |_=>some (pa,acc,env))
 |none=>some (pa,acc,env)
theorem Zrw{env env':Zhg}{pa pa' acc acc':List Bool}{t:Nat}(h:Zri env pa acc t=some (pa',acc',env'))(hb:∀b∈acc',b=true):env'=env∧∀b∈acc,b=true:=by
 unfold Zri at h
 split at h
 ·rename_i v hv
  split at h
  ·rename_i b
   split at h
   ·rename_i p ps
    cases h
    have:=ZvW (hb _ List.mem_cons_self)
    subst this
    exact⟨ZhY hv,fun b hb'=>hb b (List.mem_cons_of_mem _ hb')⟩
   ·cases h
  ·cases h;exact⟨rfl,hb⟩
 ·cases h;exact⟨rfl,hb⟩
def inN(t:Nat):List Nat→Bool
 |[]=>false
 |x::l=>match Nat.beq x t with |true=>true |false=>inN t l
def ZNU(d:Option Nat)(l:List Nat):List Nat:=match d with |none=>l |some t=>l.filter fun x=>!Nat.beq x t
abbrev ZGY:=Option (List Bool×List Bool×Zhg×List Nat)
def ZkR(st:List Nat)(env:Zhg)(pa acc:List Bool)(t:Nat):ZGY:=
 match inN t st with
 |true=>some (pa,acc,env,st)
 |false=>match Zri env pa acc t with
  |none=>none
  |some (pa',acc',env')=>some (pa',acc',env',t::st)
theorem Zgq{st st':List Nat}{env env':Zhg}{pa pa' acc acc':List Bool}{t:Nat}(h:ZkR st env pa acc t=some (pa',acc',env',st'))(hb:∀b∈acc',b=true):env'=env∧∀b∈acc,b=true:=by
 unfold ZkR at h
 split at h
 ·cases h;exact⟨rfl,hb⟩
 ·split at h
  ·cases h
  ·rename_i hs;cases h;exact Zrw hs hb
def ZGS:Nat→List Bool→Option (Nat×List Bool)
 |_,[]=>none
 |j,b::pa=>match b with |true=>some (j,pa) |false=>ZGS (j+1) pa
def Zoc(A:Ar)(st:List Nat)(env:Zhg)(pa acc:List Bool)(t:Nat):ZGY:=
 match ZaP env t with
 |some v=>(match v with
  | .int k n=>(match ZGS 0 pa with
    |some (j,ps)=>some (ps,A.eq n (Int.ofNat j)::acc,ZCr env t (.int k (Int.ofNat j)),st)
    |none=>none)
  |_=>some (pa,acc,env,st))
 |none=>some (pa,acc,env,st)
theorem Zp0{st st':List Nat}{env env':Zhg}{pa pa' acc acc':List Bool}{t:Nat}(h:Zoc std st env pa acc t=some (pa',acc',env',st'))(hb:∀b∈acc',b=true):env'=env∧∀b∈acc,b=true:=by
 unfold Zoc at h
 split at h
 ·rename_i v hv
  split at h
  ·rename_i k n
   split at h
   ·rename_i j ps _
    cases h
    have e:std.eq n (Int.ofNat j)=true:=hb _ List.mem_cons_self
    have e:n=Int.ofNat j:=by simpa[std]using e
    subst e
    exact⟨ZhY hv,fun b hb'=>hb b (List.mem_cons_of_mem _ hb')⟩
   ·cases h
  ·cases h;exact⟨rfl,hb⟩
 ·cases h;exact⟨rfl,hb⟩
def Zgi(A:Ar)(st:List Nat)(i:Opd)(env:Zhg)(pa acc:List Bool):ZGY:=
 match i with
 | .s t=>Zoc A st env pa acc t
 |_=>some (pa,acc,env,st)
theorem Zen{st st':List Nat}{i:Opd}{env env':Zhg}{pa pa' acc acc':List Bool}(h:Zgi std st i env pa acc=some (pa',acc',env',st'))(hb:∀b∈acc',b=true):env'=env∧∀b∈acc,b=true:=by
 unfold Zgi at h
 split at h
 ·exact Zp0 h hb
 ·cases h;exact⟨rfl,hb⟩
def Zlm(A:Ar)(st:List Nat)(k:OpK)(env:Zhg)(pa acc:List Bool):ZGY:=
 match k with
 | .aaddr _ _ _ i=>Zgi A st i env pa acc
 | .idxa _ _ _ i=>Zgi A st i env pa acc
 | .idx _ _ i=>Zgi A st i env pa acc
 | .iaddr _ _ i=>Zgi A st i env pa acc
 | .pick c _ _=>(match c with | .t n=>ZkR st env pa acc n |_=>some (pa,acc,env,st))
 |_=>some (pa,acc,env,st)
theorem Zkt{st st':List Nat}{k:OpK}{env env':Zhg}{pa pa' acc acc':List Bool}(h:Zlm std st k env pa acc=some (pa',acc',env',st'))(hb:∀b∈acc',b=true):env'=env∧∀b∈acc,b=true:=by
 unfold Zlm at h
 split at h
 ·exact Zen h hb
 ·exact Zen h hb
 ·exact Zen h hb
 ·exact Zen h hb
 ·split at h
  ·exact Zgq h hb
  ·cases h;exact⟨rfl,hb⟩
 ·cases h;exact⟨rfl,hb⟩
def Zlg(A:Ar)(st:List Nat)(o:AOp)(env:Zhg)(pa acc:List Bool):ZGY:=
 match o.g with
 |none=>Zlm A st o.k env pa acc
 |some p=>match ZkR st env pa acc p.1 with
  |none=>none
  |some (pa1,acc1,env1,st1)=>match Zfu o env1 with
   |some g=>(match g with |true=>Zlm A st1 o.k env1 pa1 acc1 |false=>some (pa1,acc1,env1,st1))
   |none=>none
theorem Zg2{st st':List Nat}{o:AOp}{env env':Zhg}{pa pa' acc acc':List Bool}(h:Zlg std st o env pa acc=some (pa',acc',env',st'))(hb:∀b∈acc',b=true):env'=env∧∀b∈acc,b=true:=by
 unfold Zlg at h
 split at h
 ·exact Zkt h hb
 ·split at h
  ·cases h
  ·rename_i pa1 acc1 env1 st1 hs
   split at h
   ·split at h
    ·obtain⟨e1,h1⟩:=Zkt h hb
     obtain⟨e2,h2⟩:=Zgq hs h1
     exact⟨e1.trans e2,h2⟩
    ·cases h;exact Zgq hs hb
   ·cases h
structure Ctr where
 f:FuncId
 n:Nat
 run:List Bool→zA→Option (Bool×AV×Option Fresh)
def ZzE(P:Program)(f:FuncId)(args:zA)(r:AV)(fr:Option Fresh):Prop:=
 match Nat.blt f 1000000 with
 |true=>Zan P f args r fr
 |false=>∀x rest fs,args=.list x::rest→fr=some fs→ZHI P (f-1000000) fs.e fs.sz x fs.r rest r
def Ctr.OK(P:Program)(c:Ctr):Prop:=∀pa args r fr,c.run pa args=some (true,r,fr)→ZzE P c.f args r fr
def Zqt:List Ctr→List Bool→Con
 |[],_,_,_=>none
 |c::l,pa,f,args=>match Nat.beq c.f f with
  |true=>(match Nat.blt f 1000000 with
   |true=>(match c.run pa args with |some r=>some r |none=>Zqt l pa f args)
   |false=>none)
  |false=>Zqt l pa f args
def ZCR:List Ctr→List Bool→FuncId→zA→Option (Bool×AV×Option Fresh)
 |[],_,_,_=>none
 |c::l,pa,f,args=>match Nat.beq c.f (f+1000000)with
  |true=>(match c.run pa args with |some r=>some r |none=>ZCR l pa f args)
  |false=>ZCR l pa f args
def ZK8:List Ctr→FuncId→Nat
 |[],_=>0
 |c::l,f=>match Nat.beq c.f f with |true=>c.n |false=>ZK8 l f
def ZaF(P:Program):List Ctr→Prop
 |[]=>True
 |c::l=>c.OK P∧ZaF P l
theorem Zi9{P:Program} :∀ {l:List Ctr},ZaF P l→∀pa,ZfZ P (Zqt l pa)
 |[],_,pa=>fun f args r fr h=>by cases h
 |c::l,⟨h1,h2⟩,pa=>fun f args r fr h=>by
  simp only[Zqt]at h
  split at h
  ·rename_i e
   have e:c.f=f:=Nat.eq_of_beq_eq_true e
   split at h
   ·rename_i hlt
    split at h
    ·rename_i q hq
     cases h
     have:=h1 _ _ _ _ hq
     unfold ZzE at this
     rw[e,hlt]at this
     exact this
    ·exact Zi9 h2 pa f args r fr h
   ·cases h
  ·exact Zi9 h2 pa f args r fr h
theorem ZkZ{P:Program} :∀ {l:List Ctr},ZaF P l→∀ {pa:List Bool} {f:FuncId} {x:Row} {rest:zA} {r:AV} {fs:Fresh},ZCR l pa f (.list x::rest)=some (true,r,some fs)→ZHI P f fs.e fs.sz x fs.r rest r
 |[],_,pa,f,x,rest,r,fs,h=>by cases h
 |c::l,⟨h1,h2⟩,pa,f,x,rest,r,fs,h=>by
  simp only[ZCR]at h
  split at h
  ·rename_i e
   have e:c.f=f+1000000:=Nat.eq_of_beq_eq_true e
   split at h
   ·rename_i q hq
    cases h
    have:=h1 _ _ _ _ hq
    unfold ZzE at this
    have hb:Nat.blt c.f 1000000=false:=Zbu (by rw[e];exact Nat.le_add_left _ _)
    rw[hb]at this
    have h3:=this x rest fs rfl rfl
    rw[e,Nat.add_sub_cancel]at h3
    exact h3
   ·exact ZkZ h2 h
  ·exact ZkZ h2 h
theorem Zmr{α:Type}(t:Nat)(x y:α):∀l:List (Nat×α),Zdz (Zdz l t x) t y=Zdz l t y
 |[]=>by have:Nat.beq t t=true:=by simp
         simp only[Zdz,this]
 |(i,z)::l=>by
  have ht:Nat.beq t t=true:=by simp
  cases hb:Nat.beq i t with
  |true=>simp only[Zdz,hb]
  |false=>cases hl:Nat.blt t i with
   |true=>simp only[Zdz,hb,hl,ht]
   |false=>simp only[Zdz,hb,hl,Zmr t x y l]
def ZBi:AV→Option Nat
 | .slc _ _ k n c=>(match Nat.beq k 0,c with |true,none=>some n |_,_=>none)
 |_=>none
theorem ZqF{r:AV}{n a i:Nat}(h:ZBi r=some n):ZG3 a i r=.slc a i 0 n none:=by
 unfold ZBi at h
 split at h
 ·rename_i b j k m c
  split at h
  ·rename_i hk
   have:=Nat.eq_of_beq_eq_true hk
   subst this
   cases h;rfl
  ·cases h
 ·cases h
def ZH1(A:Ar)(l:List Ctr)(pa:List Bool)(env:Zhg)(h:Zad)(o:AOp):Option (Bool×AV×Zad):=
 match o.g with
 |some _=>none
 |none=>match o.k with
  | .ncall _ _ g args=>match args.map (Zbw (ZaP env))with
    |v::rest=>match v with
     | .row a i=>match blk h a i with
       | .row e sz x=>match AV.pureL rest&&x.pure with
         |true=>match ZCR l pa g (.list x::rest)with
          |some (b,r,some fs)=>match fs.r.pure&&Zzz r with
           |true=>(match ZBi r,ZkW a,o.d with
            |some n,false,some _=>some (Zag (Nat.blt 0 (x.len A))<|Zag (Nat.ble n (fs.r.len A)) (Zag b (Zag (Nat.beq fs.e e) (Nat.beq fs.sz sz))), .row a (nxt (ZaY h a i (.row e sz fs.r)) a),Zal (ZaY (ZaY h a i (.row e sz fs.r)) a i .dead) a (.row e sz (fs.r.sub A 0 n)))
            |_,_,_=>some (Zag (Nat.blt 0 (x.len A))<|Zag b (Zag (Nat.beq fs.e e) (Nat.beq fs.sz sz)),ZG3 a i r,ZaY h a i (.row e sz fs.r)))
           |false=>none
          |_=>none
         |false=>none
       |_=>none
     |_=>none
    |[]=>none
  |_=>none
theorem ZBw{C:Ctx}{l:List Ctr}{pa:List Bool}{h h':Zad}{Q:List AFrame→Zad→Prop}{f:AFrame}{fs:List AFrame}{k:List AItem}{o:AOp}{os:List AOp}{r:AV}(hl:ZaF C.P l)(hr:f.ret=false)(ht:f.todo=.inReg (o::os)::k)(hm:ZH1 std l pa f.env h o=some (true,r,h'))
 (hq:Ev C ({ f with env:=Zos f.env o.d r,todo:=.inReg os::k } ::fs) h' Q):Ev C (f::fs) h Q:=by
 unfold ZH1 at hm
 split at hm
 ·cases hm
 ·rename_i hg
  split at hm
  ·rename_i mm a0 g args hk
   split at hm
   ·rename_i v rest ha
    split at hm
    ·rename_i a i
     split at hm
     ·rename_i e sz x hb
      split at hm
      ·rename_i hp
       split at hm
       ·rename_i b r0 fs0 hc
        split at hm
        ·rename_i hp2
         simp only[Bool.and_eq_true]at hp hp2
         split at hm
         ·rename_i n d hpm hfz hd
          simp only[zS,zP,std_and]at hm
          obtain⟨⟨hxn,hle,rfl,he,hs⟩,rfl,rfl⟩:=hm
          have hxn:0<x.elems.length:=by rw[Row.len_std]at hxn;simpa[std]using hxn
          have he:fs0.e=e:=by simpa[std]using he
          have hs:fs0.sz=sz:=by simpa[std]using hs
          have hle:n≤fs0.r.elems.length:=by rw[Row.len_std]at hle;simpa[std]using hle
          have hmu:=ZkZ hl hc
          rw[he,hs]at hmu
          have hnd:blk h a i≠ .dead:=by rw[hb];simp
          refine ZoW hr ht hg hk ha hb hxn hp.2 hp2.1 hp.1 hp2.2 hmu ?_
          rw[ZqF hpm]
          refine Zu2 (t:=d) (a:=a) (i:=i) (e:=e) (sz:=sz) (n:=n) (r:=fs0.r) ?_ (by rw[Zcm hnd,if_pos ⟨rfl,rfl⟩]) hfz hle ?_
          ·simp only[hd,Zos,Zci,if_true]
          ·simp only[hd,Zos,Zmr]at hq⊢
           exact hq
         ·simp only[zS,zP,std_and]at hm
          obtain⟨⟨hxn,rfl,he,hs⟩,rfl,rfl⟩:=hm
          have hxn:0<x.elems.length:=by rw[Row.len_std]at hxn;simpa[std]using hxn
          have he:fs0.e=e:=by simpa[std]using he
          have hs:fs0.sz=sz:=by simpa[std]using hs
          have hmu:=ZkZ hl hc
          rw[he,hs]at hmu
          exact ZoW hr ht hg hk ha hb hxn hp.2 hp2.1 hp.1 hp2.2 hmu hq
        ·cases hm
       ·cases hm
      ·cases hm
     ·cases hm
    ·cases hm
   ·cases hm
  ·cases hm
def ZAS(o:AOp)(env:Zhg):Option FuncId:=
 match o.k with
 | .ncall _ _ f _=>some f
 | .ncallv _ _ x _=>(match ZAv (Zbw (ZaP env) x) []with |some (f,_)=>some f |none=>none)
 |_=>none
def Zmu(l:List Ctr)(o:AOp)(env:Zhg)(pa:List Bool):List Bool:=
 match ZAS o env with
 |none=>pa
 |some f=>match Zfu o env with
  |some g=>(match g with |true=>pa.drop (ZK8 l f) |false=>pa)
  |none=>pa
def ZkN(A:Ar)(T:Tab)(l:List Ctr):List AOp→List Nat→List Bool→List Bool→Zhg→Zad→Option (List Bool×List Bool×Zhg×Zad×List Foot)
 |[],_,pa,acc,env,h=>some (pa,acc,env,h,[])
 |o::os,st,pa,acc,env,h=>match Zlg A st o env pa acc with
  |none=>none
  |some (pa1,acc1,env1,st1)=>match ZhR A T (Zqt l pa1) o env1 h with
   |none=>none
   |some (b,r,h1)=>match ZkN A T l os (ZNU o.d st1) (Zmu l o env1 pa1) (b::acc1) (Zos env1 o.d r) h1 with
    |none=>none
    |some (pa2,acc2,env2,h2,zs)=>some (pa2,acc2,env2,h2,Zkb env1 h o::zs)
def Zov(fr:List (Nat×Nat))(zs:List Foot):Bool:=match fr with |[]=>true |fr=>Zqu zs fr
abbrev ZBz:=Option (List Bool×List Bool×AFrame×List AFrame×Zad)
def Zma(pa:List Bool):Zqs→ZBz
 |none=>none
 |some (acc,f,fs,h)=>some (pa,acc,f,fs,h)
def ZLP(A:Ar)(T:Tab)(l:List Ctr)(pa acc:List Bool)(f:AFrame)(k:List AItem)(fs:List AFrame)(h:Zad)(fr:List (Nat×Nat))(ops:List AOp):ZBz:=
 match ZmB fr with
 |true=>none
 |false=>match ZlI ops with
  |false=>(match ZkN A T l ops [] pa acc f.env h with
   |none=>none
   |some (pa',acc',env',h',zs)=>match Zov fr zs with
    |true=>some (pa',acc',{ f with env:=env',todo:=k },fs,h')
    |false=>none)
  |true=>match ZkN A T l (ops.take (Zdd ops)) [] pa acc f.env h with
   |none=>none
   |some (pa',acc',env',h',zs)=>match Zov fr zs with
    |true=>some (pa',acc',{ f with env:=env',todo:=.inReg (ops.drop (Zdd ops))::k },fs,h')
    |false=>none
def opG(A:Ar)(T:Tab)(l:List Ctr)(pa acc:List Bool)(o:AOp)(os:List AOp)(f:AFrame)(k:List AItem)(fs:List AFrame)(h:Zad):ZBz:=
 match ZH1 A l pa f.env h o with
 |some (b,r,h2)=>some (pa,b::acc,{ f with env:=Zos f.env o.d r,todo:=.inReg os::k },fs,h2)
 |none=>match Zlg A [] o f.env pa acc with
 |none=>none
 |some (pa1,acc1,env1,_)=>match ZIF A T (Zqt l pa1) acc1 o os { f with env:=env1 } k fs h with
  |none=>none
  |some (acc2,f2,fs2,h2)=>some (Zmu l o env1 pa1,acc2,f2,fs2,h2)
def ZCy(pa acc:List Bool)(f:AFrame)(k:List AItem)(fs:List AFrame)(h:Zad)(v:AV)(a b:ACode):ZBz:=
 match v with
 | .bool t=>(match pa with
   |p::ps=>some (ps,asB p t::acc,{ f with todo:=.code (ZJr p a b)::k },fs,h)
   |[]=>none)
 |_=>none
def Zrk(A:Ar)(T:Tab)(l:List Ctr)(pa acc:List Bool)(f:AFrame)(fs:List AFrame)(h:Zad):ZBz:=
 match f.ret with
 |true=>Zma pa (ZhI A T (Zqt l pa) acc f fs h)
 |false=>match f.todo with
  |[]=>Zma pa (ZhI A T (Zqt l pa) acc f fs h)
  |it::k=>match it with
   | .inReg os=>(match os with
     |[]=>Zma pa (ZhI A T (Zqt l pa) acc f fs h)
     |o::os=>opG A T l pa acc o os f k fs h)
   | .code c=>(match c with
     | .cond c a b=>ZCy pa acc f k fs h (Zbw (ZaP f.env) c) a b
     | .reg d ops=>(match d with
       |some fr=>ZLP A T l pa acc f k fs h fr ops
       |none=>Zma pa (ZhI A T (Zqt l pa) acc f fs h))
     |_=>Zma pa (ZhI A T (Zqt l pa) acc f fs h))
   |_=>Zma pa (ZhI A T (Zqt l pa) acc f fs h)
def Zja(A:Ar)(T:Tab)(l:List Ctr):Nat→List Bool→List Bool→AFrame→List AFrame→Zad→Option ASt
 |0,_,acc,f,fs,h=>some (acc,f,fs,h)
 |n+1,pa,acc,f,fs,h=>match Zrk A T l pa acc f fs h with
  |none=>none
  |some (pa',acc',f',fs',h')=>Zja A T l n pa' acc' f' fs' h'
section
variable {C:Ctx}{T:Tab}{l:List Ctr}{h h':Zad}{f f':AFrame}{fs fs':List AFrame}{k:List AItem}{Q:List AFrame→Zad→Prop}{pa pa' acc acc':List Bool}
theorem ZfR:∀ {os:List AOp} {st:List Nat} {pa pa' acc acc':List Bool} {env env':Zhg} {h h':Zad} {zs:List Foot},ZkN std T l os st pa acc env h=some (pa',acc',env',h',zs)→(∀b∈acc',b=true)→∀b∈acc,b=true
 |[],st,pa,pa',acc,acc',env,env',h,h',zs,hd,hb=>by simp only[ZkN,zS,zP]at hd;obtain⟨_,rfl,_⟩:=hd;exact hb
 |o::os,st,pa,pa',acc,acc',env,env',h,h',zs,hd,hb=>by
  simp only[ZkN]at hd
  split at hd
  ·cases hd
  ·rename_i hs
   split at hd
   ·cases hd
   ·split at hd
    ·cases hd
    ·rename_i hr
     cases hd
     have:=ZfR hr hb
     exact(Zg2 hs (fun b hb'=>this b (List.mem_cons_of_mem _ hb'))).2
theorem Ze4(hT:ZbH C.P T)(hl:ZaF C.P l):∀ {os:List AOp} {st:List Nat} {pa pa' acc acc':List Bool} {env env':Zhg} {h h':Zad} {zs:List Foot},ZkN std T l os st pa acc env h=some (pa',acc',env',h',zs)→(∀b∈acc',b=true)→zs.map (·.o)=os∧Runs C.P zs (ZaP env) h (ZaP env') h'
 |[],st,pa,pa',acc,acc',env,env',h,h',zs,hd,_=>by simp only[ZkN,zS,zP]at hd;obtain⟨_,_,rfl,rfl,rfl⟩:=hd;exact⟨rfl, .nil _ _⟩
 |o::os,st,pa,pa',acc,acc',env,env',h,h',zs,hd,hb=>by
  simp only[ZkN]at hd
  split at hd
  ·cases hd
  ·rename_i pa1 acc1 env1 st1 hs
   split at hd
   ·cases hd
   ·rename_i b r h1 ho
    split at hd
    ·cases hd
    ·rename_i hr
     cases hd
     have ha:=ZfR hr hb
     obtain⟨i1,i2⟩:=Ze4 hT hl hr hb
     obtain⟨e,_⟩:=Zg2 hs (fun b hb'=>ha b (List.mem_cons_of_mem _ hb'))
     subst e
     have hbt:=ha b List.mem_cons_self
     subst hbt
     rw[ZdX]at i2
     have:=Zct hT (Zi9 hl pa1) (Zhv ho)
     exact⟨by simp[Zkb,i1], .cons ⟨this,fun x hx p hp=>by simp only[Zkb,List.mem_flatMap];exact⟨x,hx,hp⟩,Zmb this⟩ i2⟩
theorem Zi7{fr:List (Nat×Nat)}{zs:List Foot}(hb:Zov fr zs=true):∀(i j:Nat) (x z:Foot),(i,j)∈fr→zs[i]? =some x→zs[j]? =some z→ZpU x z:=by
 unfold Zov at hb
 split at hb
 ·intro i j x z hm;simp at hm
 ·exact ZgE hb
def ZrX(C:Ctx)(Q:List AFrame→Zad→Prop)(acc:List Bool)(f:AFrame)(fs:List AFrame)(h:Zad)(r:ZBz):Prop:=
 ∀pa' acc' f' fs' h',r=some (pa',acc',f',fs',h')→(∀b∈acc',b=true)→Ev C (f'::fs') h' Q→(∀b∈acc,b=true)∧Ev C (f::fs) h Q
theorem Zn8{r:Zqs}(hs:ZgD C Q acc f fs h r):ZrX C Q acc f fs h (Zma pa r):=by
 intro pa' acc' f' fs' h' he hb hq
 cases r with
 |none=>cases he
 |some p=>obtain⟨a,b,c,d⟩:=p;cases he;exact hs _ _ _ _ rfl hb hq
theorem Zfc(hfol:C.P.follows .mixedOrders=true)(hT:ZbH C.P T)(hl:ZaF C.P l):ZrX C Q acc f fs h (Zrk std T l pa acc f fs h):=by
 have base:ZrX C Q acc f fs h (Zma pa (ZhI std T (Zqt l pa) acc f fs h)):=Zn8 (Zh7 hfol hT (Zi9 hl pa))
 unfold Zrk
 split
 ·exact base
 ·rename_i hr
  split
  ·exact base
  ·rename_i it k ht
   split
   ·split
    ·exact base
    ·rename_i o os
     intro pa' acc' f' fs' h' he hb hq
     unfold opG at he
     split at he
     ·rename_i bm rm hm2 hmr
      cases he
      have hbt:=hb bm List.mem_cons_self
      subst hbt
      exact⟨fun b hb'=>hb b (List.mem_cons_of_mem _ hb'),ZBw hl hr ht hmr hq⟩
     split at he
     ·cases he
     ·rename_i pa1 acc1 env1 st1 hs
      split at he
      ·cases he
      ·rename_i acc2 f2 fs2 h2 ho
       cases he
       have key:(∀b∈acc1,b=true)→env1=f.env∧∀b∈acc,b=true:=fun h1=>Zg2 hs h1
       have hsd:=Zqy (Q:=Q) hT (Zi9 hl pa1) (f:={ f with env:=env1 }) (acc:=acc1) (fs:=fs) (h:=h) (k:=k) (o:=o) (os:=os) hr ht _ _ _ _ ho hb hq
       obtain⟨e,h3⟩:=key hsd.1
       refine⟨h3,?_⟩
       have:=hsd.2
       rw[e]at this
       exact this
   ·rename_i c
    split
    ·rename_i c a b
     intro pa' acc' f' fs' h' he hb hq
     unfold ZCy at he
     split at he
     ·rename_i t hc
      split at he
      ·rename_i p ps
       cases he
       have:=ZvW (hb _ List.mem_cons_self)
       subst this
       exact⟨fun b hb'=>hb b (List.mem_cons_of_mem _ hb'),Zn4 hr ht hc (by cases t<;>exact hq)⟩
      ·cases he
     ·cases he
    ·split
     ·rename_i ops fr
      intro pa' acc' f' fs' h' he hb hq
      unfold ZLP at he
      split at he
      ·cases he
      rename_i hany
      split at he
      ·rename_i hni
       split at he
       ·cases he
       ·rename_i pa1 acc1 env1 h1 zs hd
        split at he
        ·rename_i hfree
         cases he
         obtain⟨d1,d2⟩:=Ze4 hT hl hd hb
         have hc:=Zf5 hni
         refine⟨ZfR hd hb,Zk4 hfol hany hr ht (by rw[hc,List.take_length];exact d1) (fun i j x z hm hx hz _=>Zi7 hfree i j x z hm hx hz) d2 (fun _ _ e=>e) ?_⟩
         rw[hc,List.drop_length]
         exact ZiQ hr rfl hq
        ·cases he
      ·split at he
       ·cases he
       ·rename_i pa1 acc1 env1 h1 zs hd
        split at he
        ·rename_i hfree
         cases he
         obtain⟨d1,d2⟩:=Ze4 hT hl hd hb
         exact⟨ZfR hd hb,Zk4 hfol hany hr ht d1 (fun i j x z hm hx hz _=>Zi7 hfree i j x z hm hx hz) d2 (fun _ _ e=>e) hq⟩
        ·cases he
     ·exact base
    ·exact base
   ·exact base
theorem Zcg(hfol:C.P.follows .mixedOrders=true)(hT:ZbH C.P T)(hl:ZaF C.P l):∀(n:Nat) {pa acc:List Bool} {f:AFrame} {fs:List AFrame} {h:Zad},ZgD C Q acc f fs h (Zja std T l n pa acc f fs h)
 |0,pa,acc,f,fs,h=>by
  intro acc' f' fs' h' he hb hq
  simp only[Zja,zS,zP]at he
  obtain⟨rfl,rfl,rfl,rfl⟩:=he
  exact⟨hb,hq⟩
 |n+1,pa,acc,f,fs,h=>by
  intro acc' f' fs' h' he hb hq
  simp only[Zja]at he
  split at he
  ·cases he
  ·rename_i pa1 acc1 f1 fs1 h1 hs
   obtain⟨hb1,hq1⟩:=Zcg hfol hT hl n _ _ _ _ he hb hq
   exact Zfc hfol hT hl _ _ _ _ _ hs hb1 hq1
end
end Go.Proofs.YtkeoeooghhjibaaGreatDoor
namespace Go.Proofs.YtkeoeooghhjibaaGreatDoor
open Go.RowKit (Below)
def Zoq(a:Nat):Bool:=Nat.ble 1000000 a
mutual
def AV.ren(σ:Nat→Nat→Option Nat):AV→AV
 | .ptr a i k o=>match σ a i with |some j=>.ptr a j k o |none=>.top
 | .row a i=>match σ a i with |some j=>.row a j |none=>.top
 | .slc a i k n c=>match σ a i with |some j=>.slc a j k n c |none=>.top
 | .aslc a i k o n=>match σ a i with |some j=>.aslc a j k o n |none=>.top
 | .yld a i=>match σ a i with |some j=>.yld a j |none=>.top
 | .mp a i=>match σ a i with |some j=>.mp a j |none=>.top
 | .emp=>.emp
 | .err b=>.err b
 | .agg r=>.agg (Row.ren σ r)
 | .tup xs=>.tup (AV.renL σ xs)
 | .fn f xs=>.fn f (AV.renL σ xs)
 | .mth f x=>.mth f (AV.ren σ x)
 | .int k n=>.int k n
 | .bool b=>.bool b
 | .str s=>.str s
 | .flt k b=>.flt k b
 | .val v=>.val v
 | .nils=>.nils
 | .list r=>.list r
 | .eptr x o=>.eptr x o
 | .und=>.und
 | .top=>.top
def AV.renL(σ:Nat→Nat→Option Nat):zA→zA
 |[]=>[]
 |x::xs=>AV.ren σ x::AV.renL σ xs
def Row.ren(σ:Nat→Nat→Option Nat):Row→Row
 | .gen xs=>.gen (AV.renL σ xs)
 | .ints k l=>.ints k l
 | .flts k l=>.flts k l
 | .big sh xs=>.big sh xs
 | .refs a p=>match Zoq a with |true=>.refs a p |false=>.gen (p.map fun i=>match σ a i with |some j=>.row a j |none=>.top)
end
section
variable {σ:Nat→Nat→Option Nat}
theorem ZfY:∀xs:zA,AV.renL σ xs=xs.map (AV.ren σ)
 |[]=>rfl
 |x::xs=>by rw[AV.renL,ZfY xs];rfl
theorem ZlM(s:Sh)(v:AV):AV.ren σ (s.view1 v)=s.view1 v:=by cases s<;>rfl
theorem ZlK:∀(ss:List Sh) (i:Nat) (v:AV),AV.renL σ (Zfa ss i v)=Zfa ss i v
 |[],_,_=>rfl
 |s::ss,i,v=>by rw[Zfa,AV.renL,ZlM,ZlK ss]
theorem Zt6(s:Sh)(v:AV):AV.ren σ (s.view v)=s.view v:=by
 cases s with
 |agg ss=>simp only[Sh.view,AV.ren,Row.ren,ZlK]
 |_=>simp only[Sh.view];exact ZlM _ _
theorem Zdh(hσ:∀a i,Zoq a=true→σ a i=some i)(r:Row):(Row.ren σ r).elems=r.elems.map (AV.ren σ):=by
 cases r with
 |gen xs=>rw[Row.ren,Row.elems,Row.elems,ZfY]
 |ints k l=>rw[Row.ren,Row.elems,List.map_map];rfl
 |flts k l=>rw[Row.ren,Row.elems,List.map_map];rfl
 |big sh xs=>rw[Row.ren,Row.elems,List.map_map];exact List.map_congr_left fun v _=>(Zt6 sh v).symm
 |refs a p=>
  rw[Row.ren]
  cases hb:Zoq a with
  |true=>
   simp only[Row.elems,List.map_map]
   exact List.map_congr_left fun i _=>by simp only[Function.comp,AV.ren,hσ a i hb]
  |false=>
   simp only[Row.elems,List.map_map]
   exact List.map_congr_left fun i _=>by simp only[Function.comp,AV.ren]
theorem Zy8(r:Row):(Row.ren σ r).elems.length=r.elems.length:=by
 cases r with
 |gen xs=>rw[Row.ren,Row.elems,Row.elems,ZfY,List.length_map]
 |refs a p=>rw[Row.ren];cases Zoq a<;>simp[Row.elems]
 |_=>rfl
theorem ZoU(hσ:∀a i,Zoq a=true→σ a i=some i)(v:AV):(AV.ren σ v).flat=v.flat.map (AV.ren σ):=by
 cases v with
 |agg r=>simp only[AV.ren,AV.flat,Zdh hσ]
 |ptr a i k o=>simp only[AV.ren];split<;>simp_all[AV.flat,AV.ren]
 |row a i=>simp only[AV.ren];split<;>simp_all[AV.flat,AV.ren]
 |slc a i k n c=>simp only[AV.ren];split<;>simp_all[AV.flat,AV.ren]
 |aslc a i k o n=>simp only[AV.ren];split<;>simp_all[AV.flat,AV.ren]
 |yld a i=>simp only[AV.ren];split<;>simp_all[AV.flat,AV.ren]
 |mp a i=>simp only[AV.ren];split<;>simp_all[AV.flat,AV.ren]
 |_=>rfl
theorem Znw(hσ:∀a i,Zoq a=true→σ a i=some i)(xs:zA):Zai (xs.map (AV.ren σ))=(Zai xs).map (AV.ren σ):=by
 induction xs with
 |nil=>rfl
 |cons x xs ih=>rw[List.map_cons,ZaL,ZaL,List.map_append,ih,ZoU hσ]
end
structure Good (h:Zad) (L:Lay) (h':Zad) (L':Lay) (σ:Nat→Nat→Option Nat):Prop where
 fwd:∀a i j,σ a i=some j→i<nxt h a→j<nxt h' a∧(∀sz,(blk h' a j).tag=some sz→(blk h a i).tag=some sz)∧L'.loc a j=L.loc a i∧L'.size a j=L.size a i
 bwd:∀a j,Plc h' L' a j→∃i,Plc h L a i∧L'.loc a j=L.loc a i
 big:∀a i,Zoq a=true→σ a i=some i
section
variable {C:Ctx}{h h':Zad}{L L':Lay}{w:World}{σ:Nat→Nat→Option Nat}{ok ok':Nat→Prop}
theorem Good.okk(G:Good h L h' L' σ){g:Nat}(ho:Zaz C h L g):Zaz C h' L' g:=by
 rcases ho with ho |⟨h1,h2⟩
 ·exact .inl ho
 ·refine .inr ⟨h1,fun a j ht e=>?_⟩
  obtain⟨i,hi,hl⟩:=G.bwd a j ht
  exact h2 a i hi (hl.symm.trans e)
theorem Live.ren(G:Good h L h' L' σ){a i j:Nat}(hs:σ a i=some j){p p':Nat→Nat×Nat→Prop}(hl:Live h L a i p)(hp:∀sz,L'.size a j=L.size a i→p (L.loc a i) sz→p' (L.loc a i) sz):Live h' L' a j p':=by
 obtain⟨g1,g2,g3,g4⟩:=G.fwd a i j hs hl.1
 exact⟨g1,fun sz ht=>by rw[g3];exact hp sz g4 (hl.2 sz (g2 sz ht))⟩
theorem Rel.ren(G:Good h L h' L' σ)(hok:∀g,ok g→ok' g){av:AV}{v:Value}(hr:Rel w ok h L av v):Rel w ok' h' L' (AV.ren σ av) v:=by
 induction hr with
 |int k n=>exact .int k n
 |bool b=>exact .bool b
 |str x=>exact .str x
 |flt k b=>exact .flt k b
 |val v=>exact .val v
 |nils=>exact .nils
 |nil r a c hr=>exact .nil r a c hr
 |list r xs hx ad n cap sz cs hb ho hn hcap hsz hl h1 hc hp hr ih=>
  exact .list r xs hx ad n cap sz cs hb (hok _ ho) hn hcap hsz hl h1 hc hp (fun j u v hu hv=>((hr j u v hu hv).okmono (fun g _ ho=>hok g ho)).pure (AV.pureL_mem hp hu))
 |eptr x off ad cs hs hb ho hl h1 hc hp hr ih=>
  exact .eptr x off ad cs hs hb (hok _ ho) hl h1 hc hp (fun j u v hu hv=>((hr j u v hu hv).okmono (fun g _ ho=>hok g ho)).pure (AV.pureL_mem hp hu))
 |agg r xs hx vs hl h1 hr ih=>
  rw[AV.ren]
  refine .agg _ (xs.map (AV.ren σ)) (by rw[Zdh G.big,hx]) vs (by simpa using hl) h1 (fun j u v hu hv=>?_)
  rw[List.getElem?_map]at hu
  cases hxj:xs[j]? with
  |none=>rw[hxj]at hu;cases hu
  |some z=>rw[hxj]at hu;simp only[Option.map_some,zS]at hu;subst hu;exact ih j z v hxj hv
 |tup xs vs hl hr ih=>
  rw[AV.ren,ZfY]
  refine .tup _ vs (by simpa using hl) (fun j u v hu hv=>?_)
  rw[List.getElem?_map]at hu
  cases hxj:xs[j]? with
  |none=>rw[hxj]at hu;cases hu
  |some z=>rw[hxj]at hu;simp only[Option.map_some,zS]at hu;subst hu;exact ih j z v hxj hv
 |mth f x v hr ih=>exact .mth f _ v ih
 |fn f xs vs hl hr ih=>
  rw[AV.ren,ZfY]
  refine .fn f _ vs (by simpa using hl) (fun j u v hu hv=>?_)
  rw[List.getElem?_map]at hu
  cases hxj:xs[j]? with
  |none=>rw[hxj]at hu;cases hu
  |some z=>rw[hxj]at hu;simp only[Option.map_some,zS]at hu;subst hu;exact ih j z v hxj hv
 |ptr a i k off g o hl=>
  rw[AV.ren]
  cases hs:σ a i with
  |none=>exact .top _
  |some j=>exact .ptr a j k off g o (hl.ren G hs fun _ _ h=>h)
 |row a i ad n c hn hl=>
  rw[AV.ren]
  cases hs:σ a i with
  |none=>exact .top _
  |some j=>exact .row a j ad n c hn (hl.ren G hs fun _ e h=>by rw[e];exact h)
 |slc a i k n cap ad c hn hl=>
  rw[AV.ren]
  cases hs:σ a i with
  |none=>exact .top _
  |some j=>exact .slc a j k n cap ad c hn (hl.ren G hs fun _ e h=>by rw[e];exact h)
 |aslc a i k off n g o c hn hl=>
  rw[AV.ren]
  cases hs:σ a i with
  |none=>exact .top _
  |some j=>exact .aslc a j k off n g o c hn (hl.ren G hs fun _ _ h=>h)
 |yld a i g hl=>
  rw[AV.ren]
  cases hs:σ a i with
  |none=>exact .top _
  |some j=>exact .yld a j g (hl.ren G hs fun _ _ h=>h)
 |mp a i g hl=>
  rw[AV.ren]
  cases hs:σ a i with
  |none=>exact .top _
  |some j=>exact .mp a j g (hl.ren G hs fun _ _ h=>h)
 |err b v he=>exact .err b v he
 |emp ad=>exact .emp ad
 |und=>exact .und
 |top v=>exact .top v
def Zit(σ:Nat→Nat→Option Nat):Zhg→Zhg
 |[]=>[]
 |(t,v)::l=>(t,AV.ren σ v)::Zit σ l
theorem Zjb:∀(env:Zhg) (t:Nat),ZaP (Zit σ env) t=(ZaP env t).map (AV.ren σ)
 |[],t=>rfl
 |(i,x)::l,t=>by
  simp only[Zit,ZaP]
  split
  ·rfl
  ·exact Zjb l t
theorem EnvRel.ren(G:Good h L h' L' σ){env:Zhg}{tmps:Array Value}(he:EnvRel C h L w env tmps):EnvRel C h' L' w (Zit σ env) tmps:=by
 intro t av ht
 rw[Zjb]at ht
 cases hx:ZaP env t with
 |none=>rw[hx]at ht;cases ht
 |some u=>rw[hx]at ht;simp only[Option.map_some,zS]at ht;subst ht;exact(he t u hx).ren G (fun g ho=>G.okk ho)
def Blk.ren(σ:Nat→Nat→Option Nat):Blk→Blk
 | .row e sz r=>.row e sz (Row.ren σ r)
 | .lp l=>.lp { l with env:=Zit σ l.env }
 | .dfr=>.dfr
 | .mp ks=>.mp ks
 | .dead=>.dead
theorem Blk.ren_tag(b:Blk):(b.ren σ).tag=b.tag:=by
 cases b with
 |row e sz r=>simp only[Blk.ren,Blk.tag,Zy8]
 |_=>rfl
theorem BRel.ren(G:Good h L h' L' σ){g n:Nat}{b:Blk}(hb:BRel C h L w g n b):BRel C h' L' w g n (b.ren σ):=by
 cases b with
 |row e sz r=>
  obtain⟨h0,h1,h2,h3,hcur⟩:=hb
  refine⟨h0,h1,by rw[Zdh G.big,List.length_map];exact h2,fun x hx=>?_,fun hn=>?_⟩
  ·rw[Zdh G.big]at hx
   obtain⟨y,hy,rfl⟩:=List.mem_map.1 hx
   rw[ZoU G.big,List.length_map];exact h3 y hy
  ·obtain⟨cur,h4,h5,h6,h7⟩:=hcur hn
   refine⟨cur,h4,h5,?_,by rw[Zdh G.big,List.length_map];exact h7⟩
   rw[Zdh G.big,List.length_map,Znw G.big]
   refine⟨by rw[List.length_map];exact h6.1,fun j u v hu hv=>?_⟩
   rw[List.getElem?_map]at hu
   cases hx:(Zai r.elems)[j]? with
   |none=>rw[hx]at hu;cases hu
   |some z=>rw[hx]at hu;simp only[Option.map_some,zS]at hu;subst hu;exact(h6.2 j z v hx hv).ren G (fun g ho=>G.okk ho)
 |lp l=>
  obtain⟨r,h1,h2,h3,h4,h5,h6,h7,h8,h9⟩:=hb
  exact⟨r,h1,h2,h3,h4,h5.ren G,h6,h7,h8,h9⟩
 |dfr=>exact hb
 |mp ks=>exact hb
 |dead=>trivial
def ZtD(σ:Nat→Nat→Option Nat):AItem→Option AItem
 | .inRF a i=>match σ a i with |some j=>some (.inRF a j) |none=>none
 | .endRF a i=>match σ a i with |some j=>some (.endRF a j) |none=>none
 | .code c=>some (.code c)
 | .inBlock i=>some (.inBlock i)
 | .inLoop b=>some (.inLoop b)
 | .inReg os=>some (.inReg os)
 | .beginRound=>some .beginRound
def ZjQ(σ:Nat→Nat→Option Nat):List AItem→Option (List AItem)
 |[]=>some []
 |x::k=>match ZtD σ x with
  |none=>none
  |some y=>match ZjQ σ k with |some l=>some (y::l) |none=>none
def ZtV(σ:Nat→Nat→Option Nat):List (Nat×Nat)→Option (List (Nat×Nat))
 |[]=>some []
 |(a,i)::k=>match σ a i with
  |none=>none
  |some j=>match ZtV σ k with |some l=>some ((a,j)::l) |none=>none
def ZvP(σ:Nat→Nat→Option Nat):Option (Nat×Nat)→Option (Option (Nat×Nat))
 |none=>some none
 |some (a,i)=>match σ a i with |some j=>some (some (a,j)) |none=>none
def Zzm:AItem→Bool
 | .inRF _ _=>false
 | .endRF _ _=>false
 |_=>true
def ZfN:List AItem→Bool
 |[]=>true
 |x::k=>match Zzm x with |true=>ZfN k |false=>false
def ZJe(σ:Nat→Nat→Option Nat)(f:AFrame):Option AFrame:=
 match ZtV σ f.defs with
 |none=>none
 |some ds=>match ZvP σ f.rnd with
  |none=>none
  |some rd=>match ZfN f.todo with
   |true=>some { f with env:=Zit σ f.env,defs:=ds,rnd:=rd }
   |false=>match ZjQ σ f.todo with
    |none=>none
    |some td=>some { f with env:=Zit σ f.env,todo:=td,defs:=ds,rnd:=rd }
def ZsF(σ:Nat→Nat→Option Nat):List AFrame→Option (List AFrame)
 |[]=>some []
 |f::fs=>match ZJe σ f with
  |none=>none
  |some g=>match ZsF σ fs with |some gs=>some (g::gs) |none=>none
theorem ItRel.ren{P:Program}{N:Nat}(G:Good h L h' L' σ){x x':AItem}{y:Item}(hr:ZtD σ x=some x')(hx:ItRel P h L N x y):ItRel P h' L' N x' y:=by
 cases hx with
 |code a c hm=>cases hr;exact .code a c hm
 |inBlock id=>cases hr;exact .inBlock id
 |inLoop a c hm=>cases hr;exact .inLoop a c hm
 |inReg ops k aos hm=>cases hr;exact .inReg ops k aos hm
 |beginRound=>cases hr;exact .beginRound
 |inRF a i g hl=>
  simp only[ZtD]at hr
  split at hr
  ·rename_i j hs;cases hr;exact .inRF a j g (hl.ren G hs fun _ _ h=>h)
  ·cases hr
 |endRF a i g hl=>
  simp only[ZtD]at hr
  split at hr
  ·rename_i j hs;cases hr;exact .endRF a j g (hl.ren G hs fun _ _ h=>h)
  ·cases hr
theorem ItsRel.ren{P:Program}{N:Nat}(G:Good h L h' L' σ):∀ {x x':List AItem} {y:List Item},ZjQ σ x=some x'→ItsRel P h L N x y→ItsRel P h' L' N x' y
 |[],x',y,hr,hx=>by cases hx;cases hr;exact .nil
 |x::k,x',y,hr,hx=>by
  cases hx with
  |cons hx hk=>
   simp only[ZjQ]at hr
   split at hr
   ·cases hr
   ·rename_i z hz
    split at hr
    ·rename_i l hl;cases hr;exact .cons (hx.ren G hz) (ItsRel.ren G hl hk)
    ·cases hr
theorem ZlU:∀ {x:List AItem},ZfN x=true→ZjQ σ x=some x
 |[],_=>rfl
 |x::k,hp=>by
  simp only[ZfN]at hp
  split at hp
  ·rename_i h1
   simp only[ZjQ,ZlU hp]
   cases x<;>first |rfl |cases h1
  ·cases hp
theorem DefRel.ren(G:Good h L h' L' σ):∀ {ds ds':List (Nat×Nat)} {cs:List Deferred},ZtV σ ds=some ds'→DefRel h L ds cs→DefRel h' L' ds' cs
 |[],ds',cs,hr,hd=>by cases hr;cases hd;exact .nil
 |(a,i)::ds,ds',cs,hr,hd=>by
  simp only[ZtV]at hr
  split at hr
  ·cases hr
  ·rename_i j hs
   split at hr
   ·rename_i l hl
    cases hr
    cases hd with
    |one _ _ g hb hlv hrest=>exact .one a j g hb (hlv.ren G hs fun _ _ h=>h) (DefRel.ren G hl hrest)
    |pool _ _ gs js hb hn hnd hlv hrest=>exact .pool a j gs js hb hn hnd (fun k q g h1 h2=>(hlv k q g h1 h2).ren G (G.big a q hb) fun _ _ h=>h) (DefRel.ren G hl hrest)
   ·cases hr
theorem FrRel.ren(G:Good h L h' L' σ){af af':AFrame}{fr:Frame}(hr:ZJe σ af=some af')(hf:FrRel C h L w af fr):FrRel C h' L' w af' fr:=by
 unfold ZJe at hr
 split at hr
 ·cases hr
 ·rename_i ds hds
  split at hr
  ·cases hr
  ·rename_i rd hrd
   have hd:DefRel h' L' ds fr.defers:=DefRel.ren G hds hf.defs
   have hn:RndRel h' L' rd fr.roundOf∧(rd=none→af.rnd=none):=by
    have hrn:=hf.rnd
    unfold ZvP at hrd
    split at hrd
    ·rename_i e;cases hrd;rw[e]at hrn;exact⟨hrn,fun _=>e⟩
    ·rename_i a i e
     rw[e]at hrn
     split at hrd
     ·rename_i j hs;cases hrd
      obtain⟨g,hg,hl⟩:=hrn
      exact⟨⟨g,hg,hl.ren G hs fun _ _ h=>h⟩,fun e=>by cases e⟩
     ·cases hrd
   split at hr
   ·rename_i hp
    cases hr
    exact⟨hf.fn,hf.size,hf.env.ren G,hf.kind,hd,hn.1,hf.mode.imp id fun⟨a,b,c⟩=>⟨a,b,c.ren G (ZlU hp)⟩,fun e=>hf.res (hn.2 e)⟩
   ·split at hr
    ·cases hr
    ·rename_i td htd
     cases hr
     exact⟨hf.fn,hf.size,hf.env.ren G,hf.kind,hd,hn.1,hf.mode.imp id fun⟨a,b,c⟩=>⟨a,b,c.ren G htd⟩,fun e=>hf.res (hn.2 e)⟩
theorem FrsRel.ren(G:Good h L h' L' σ):∀ {afs afs':List AFrame} {cs:List Frame},ZsF σ afs=some afs'→FrsRel C h L w afs cs→FrsRel C h' L' w afs' cs
 |[],afs',cs,hr,hf=>by cases hf;cases hr;exact .base
 |f::fs,afs',cs,hr,hf=>by
  cases hf with
  |cons hf hk=>
   simp only[ZsF]at hr
   split at hr
   ·cases hr
   ·rename_i g hg
    split at hr
    ·rename_i gs hgs;cases hr;exact .cons (hf.ren G hg) (FrsRel.ren G hgs hk)
    ·cases hr
end
abbrev Zzd:=List (Nat×Nat×Fam)
def ZGv:Blk→Bool
 | .dead=>true
 |_=>false
def Zoa(R:List (Nat×Nat))(a:Nat):Nat→List Blk→List Blk
 |_,[]=>[]
 |i,b::l=>match(match ZwK (a,i) R with |true=>b |false=>.dead),Zoa R a (i+1) l with
  | .dead,[]=>[]
  |b',l'=>b'::l'
def ZrS:Nat→List Blk→Nat×List Blk
 |n,[]=>(n,[])
 |n,b::l=>match ZGv b with |true=>ZrS (n+1) l |false=>(n,b::l)
def ZiX(R:List (Nat×Nat))(a:Nat)(f:Fam):Nat×Fam:=match Zoq a with
 |true=>(0,f)
 |false=>(match ZrS f.base (Zoa R a f.base f.xs)with |(n,l)=>(n,⟨0,l, .no⟩))
def Zbg(R:List (Nat×Nat)):Zad→Zzd
 |[]=>[]
 |(a,f)::rest=>match Zoq a with
  |true=>(a,0,f)::Zbg R rest
  |false=>match ZiX R a f with
   |(s,g)=>(match g.blks,ZaP rest a with
    |[],none=>Zbg R rest
    |_,_=>(a,s,g)::Zbg R rest)
def Zpz(t:Zzd)(a i:Nat):Option Nat:=
 match Zoq a with
 |true=>some i
 |false=>match ZaP t a with
  |none=>none
  |some p=>match Nat.ble p.1 i with
   |false=>none
   |true=>(match ZGv (p.2.blks.getD (i-p.1) .dead)with |true=>none |false=>some (i-p.1))
def Zje(σ:Nat→Nat→Option Nat):Zzd→Zad
 |[]=>[]
 |(a,_,g)::t=>(a,⟨g.base,g.blks.map (Blk.ren σ),g.sym⟩)::Zje σ t
def ZlD(t:Zzd)(L:Lay):Lay:=⟨fun a j=>L.loc a (j+match ZaP t a with |some p=>p.1 |none=>0),fun a j=>L.size a (j+match ZaP t a with |some p=>p.1 |none=>0)⟩
theorem Zjv{R:List (Nat×Nat)}{a:Nat} :∀(l:List Blk) (i j:Nat),(Zoa R a i l).getD j .dead=.dead∨(Zoa R a i l).getD j .dead=l.getD j .dead
 |[],i,j=>.inl (by simp[Zoa])
 |b::l,i,j=>by
  have ih:=Zjv (R:=R) (a:=a) l (i+1)
  simp only[Zoa]
  split
  ·left;simp
  ·cases j with
   |zero=>
    simp only[List.getD_cons_zero]
    split
    ·right;rfl
    ·left;rfl
   |succ j=>simp only[List.getD_cons_succ];exact ih j
theorem ZjU:∀(l:List Blk) (n j:Nat),∃d,(ZrS n l).1=n+d∧(ZrS n l).2.getD j .dead=l.getD (j+d) .dead
 |[],n,j=>⟨0,rfl,rfl⟩
 |b::l,n,j=>by
  simp only[ZrS]
  split
  ·obtain⟨d,h1,h2⟩:=ZjU l (n+1) j
   exact⟨d+1,by rw[h1];omega,by rw[h2,←Nat.add_assoc,List.getD_cons_succ]⟩
  ·exact⟨0,rfl,rfl⟩
theorem Zgs(x y:Nat):Nat.beq x y=decide (x=y):=by rw[Bool.eq_iff_iff];simp
theorem Zgc{R:List (Nat×Nat)} :∀ {h:Zad} {a:Nat} {p:Nat×Fam},ZaP (Zbg R h) a=some p→∃f,ZaP h a=some f∧ZiX R a f=p
 |[],a,p,h=>by cases h
 |(b,f)::rest,a,p,h=>by
  have ih:= @Zgc R rest a p
  simp only[Zbg]at h
  split at h
  ·rename_i hbig
   simp only[ZaP,Zgs]at h⊢
   by_cases hba:b=a
   ·subst hba;simp only[decide_true,zS]at h ⊢;exact⟨f,rfl,by unfold ZiX;rw[hbig];exact h⟩
   ·simp only[hba,decide_false]at h ⊢;exact ih h
  split at h
  ·rename_i hl hr
   obtain⟨f',h1,h2⟩:=ih h
   refine⟨f',?_,h2⟩
   simp only[ZaP,Zgs]
   by_cases hba:b=a
   ·subst hba;rw[hr]at h1;cases h1
   ·simp only[hba,decide_false];exact h1
  ·simp only[ZaP,Zgs]at h⊢
   by_cases hba:b=a
   ·subst hba;simp only[decide_true,zS]at h ⊢;exact⟨f,rfl,h⟩
   ·simp only[hba,decide_false]at h ⊢;exact ih h
theorem Zmm{R:List (Nat×Nat)} :∀ {h:Zad} {a:Nat},Zoq a=true→ZaP (Zbg R h) a=(ZaP h a).map fun f=>(0,f)
 |[],a,_=>rfl
 |(b,f)::rest,a,hb=>by
  have ih:= @Zmm R rest a hb
  simp only[Zbg]
  split
  ·simp only[ZaP,Zgs]
   by_cases hba:b=a
   ·subst hba;simp
   ·simp only[hba,decide_false];exact ih
  ·rename_i hbb
   have hba:b≠a:=by rintro rfl;rw[hb]at hbb;cases hbb
   split
   ·simp only[ZaP,Zgs,hba,decide_false];exact ih
   ·simp only[ZaP,Zgs,hba,decide_false];exact ih
theorem Zkz{σ:Nat→Nat→Option Nat} :∀(t:Zzd) (a:Nat),ZaP (Zje σ t) a=(ZaP t a).map fun p=>⟨p.2.base,p.2.blks.map (Blk.ren σ),p.2.sym⟩
 |[],a=>rfl
 |(b,s,l)::t,a=>by
  simp only[Zje,ZaP]
  split
  ·rfl
  ·exact Zkz t a
theorem ZvV{σ:Nat→Nat→Option Nat}(f:Fam):(⟨f.base,f.blks.map (Blk.ren σ),f.sym⟩:Fam).xs=f.xs.map (Blk.ren σ):=by
 obtain⟨b,l,y⟩:=f
 cases y with
 |no=>rfl
 |ints e sz k rows=>simp only[Fam.xs,List.map_map];exact List.map_congr_left fun _ _=>rfl
 |flts e sz k rows=>simp only[Fam.xs,List.map_map];exact List.map_congr_left fun _ _=>rfl
 |dfrs n=>simp only[Fam.xs,List.map_replicate,Blk.ren]
theorem Zyw{σ:Nat→Nat→Option Nat}(f:Fam)(j:Nat):(⟨f.base,f.blks.map (Blk.ren σ),f.sym⟩:Fam).get j=Blk.ren σ (f.get j):=by
 unfold Fam.get
 rw[ZvV]
 simp only
 split
 ·rfl
 ·simp only[List.getD_eq_getElem?_getD,List.getElem?_map]
  cases f.xs[j-f.base]?<;>rfl
theorem Zd1{σ:Nat→Nat→Option Nat}(t:Zzd)(a j:Nat):blk (Zje σ t) a j=Blk.ren σ (match ZaP t a with |some p=>p.2.get j |none=>.dead)∧nxt (Zje σ t) a=match ZaP t a with |some p=>p.2.base+p.2.xs.length |none=>0:=by
 unfold blk nxt fam
 rw[Zkz]
 cases ZaP t a with
 |none=>simp[Fam.get,Fam.xs,Zbu,Blk.ren]
 |some p=>
  simp only[Option.map_some,Option.getD_some]
  exact⟨Zyw _ _,by rw[ZvV,List.length_map]⟩
theorem Zlw(l:List Blk)(j:Nat):(⟨0,l, .no⟩:Fam).get j=l.getD j .dead:=by
 unfold Fam.get
 simp only[Zbu (Nat.zero_le _),Fam.xs,Nat.sub_zero]
theorem ZdS{R:List (Nat×Nat)}{h:Zad}{a:Nat}{p:Nat×Fam}(hp:ZaP (Zbg R h) a=some p)(j:Nat):p.2.get j=.dead∨p.2.get j=blk h a (j+p.1):=by
 obtain⟨f,h1,h2⟩:=Zgc hp
 unfold ZiX at h2
 split at h2
 ·subst h2
  right
  unfold blk fam
  rw[h1];rfl
 ·obtain⟨d,e1,e2⟩:=ZjU (Zoa R a f.base f.xs) f.base j
  split at h2
  rename_i n l hnl
  rw[hnl]at e1 e2
  subst h2
  simp only[Zlw]at e1 e2⊢
  rw[e2]
  rcases Zjv (R:=R) (a:=a) f.xs f.base (j+d)with h3 |h3
  ·exact .inl h3
  ·right
   rw[h3,e1]
   unfold blk fam Fam.get
   rw[h1]
   simp only[Option.getD_some,Zbu (show f.base≤j+(f.base+d) by omega)]
   congr 1;omega
theorem Zno{R:List (Nat×Nat)}{h:Zad}{a:Nat}{p:Nat×Fam}(hp:ZaP (Zbg R h) a=some p)(hb:Zoq a=false):p.2=⟨0,p.2.blks, .no⟩:=by
 obtain⟨f,h1,h2⟩:=Zgc hp
 unfold ZiX at h2
 rw[hb]at h2
 simp only at h2
 subst h2;rfl
theorem pack_good{R:List (Nat×Nat)}{h:Zad}{L:Lay} :Good h L (Zje (Zpz (Zbg R h)) (Zbg R h)) (ZlD (Zbg R h) L) (Zpz (Zbg R h)):=by
 refine⟨fun a i j hs hi=>?_,fun a j ht=>?_,fun a i hb=>by unfold Zpz;rw[hb]⟩
 ·obtain⟨hb,hn⟩:=Zd1 (σ:=Zpz (Zbg R h)) (Zbg R h) a j
  unfold Zpz at hs
  cases hbig:Zoq a with
  |true=>
   rw[hbig]at hs
   cases hs
   have hp:=Zmm (R:=R) (h:=h) hbig
   cases hf:ZaP h a with
   |none=>
    exfalso
    unfold nxt fam at hi
    rw[hf]at hi
    simp[Fam.xs]at hi
   |some f=>
    rw[hf]at hp
    simp only[Option.map_some]at hp
    rw[hp]at hb hn
    simp only at hb hn
    have e1:blk h a i=f.get i:=by unfold blk fam;rw[hf];rfl
    have e2:nxt h a=f.base+f.xs.length:=by unfold nxt fam;rw[hf];rfl
    refine⟨by rw[hn,←e2];exact hi,fun sz ht=>?_,by simp only[ZlD,hp,Nat.add_zero],by simp only[ZlD,hp,Nat.add_zero]⟩
    rw[hb,Blk.ren_tag]at ht
    rw[e1];exact ht
  |false=>
   rw[hbig]at hs
   cases hp:ZaP (Zbg R h) a with
   |none=>rw[hp]at hs;cases hs
   |some p=>
    rw[hp]at hs hb hn
    simp only at hs hb hn
    split at hs
    ·cases hs
    ·rename_i hle
     have hle:p.1≤i:=by simpa using hle
     split at hs
     ·cases hs
     ·rename_i hd
      cases hs
      have hsm:=Zno hp hbig
      have hget:∀k,p.2.get k=p.2.blks.getD k .dead:=fun k=>by rw[hsm,Zlw]
      have hlen:p.2.base+p.2.xs.length=p.2.blks.length:=by rw[hsm];simp[Fam.xs]
      have hlt:i-p.1<p.2.blks.length:=by
       rcases Nat.lt_or_ge (i-p.1) p.2.blks.length with h1 |h1
       ·exact h1
       ·rw[List.getD_eq_getElem?_getD,List.getElem?_eq_none h1]at hd;cases hd
      have hadd:i-p.1+p.1=i:=by omega
      refine⟨by rw[hn,hlen];exact hlt,fun sz ht=>?_,by simp only[ZlD,hp,hadd],by simp only[ZlD,hp,hadd]⟩
      rw[hb,Blk.ren_tag]at ht
      rcases ZdS hp (i-p.1)with h1 |h1
      ·rw[hget]at h1;rw[h1]at hd;cases hd
      ·rw[h1,hadd]at ht;exact ht
 ·obtain⟨hb,_⟩:=Zd1 (σ:=Zpz (Zbg R h)) (Zbg R h) a j
  obtain⟨s,ht,hn⟩:=ht
  rw[hb,Blk.ren_tag]at ht
  cases hp:ZaP (Zbg R h) a with
  |none=>rw[hp]at ht;cases ht
  |some p=>
   rw[hp]at ht
   simp only at ht
   rcases ZdS hp j with h1 |h1
   ·rw[h1]at ht;cases ht
   ·exact⟨j+p.1,⟨s,by rw[←h1];exact ht,by simpa only[ZlD,hp]using hn⟩,by simp only[ZlD,hp]⟩
theorem HRel.packed{C:Ctx}{R:List (Nat×Nat)}{h:Zad}{L:Lay}{w:World}(H:HRel C h L w):HRel C (Zje (Zpz (Zbg R h)) (Zbg R h)) (ZlD (Zbg R h) L) w:=by
 have key:∀a j,Plc (Zje (Zpz (Zbg R h)) (Zbg R h)) (ZlD (Zbg R h) L) a j→∃p,ZaP (Zbg R h) a=some p∧Plc h L a (j+p.1):=fun a j ht=>by
  obtain⟨hb,_⟩:=Zd1 (σ:=Zpz (Zbg R h)) (Zbg R h) a j
  obtain⟨s,ht,hn⟩:=ht
  rw[hb,Blk.ren_tag]at ht
  cases hp:ZaP (Zbg R h) a with
  |none=>rw[hp]at ht;cases ht
  |some p=>
   rw[hp]at ht
   simp only at ht
   rcases ZdS hp j with h1 |h1
   ·rw[h1]at ht;cases ht
   ·exact⟨p,rfl,s,by rw[←h1];exact ht,by simpa only[ZlD,hp]using hn⟩
 refine⟨H.below,fun a j ht=>?_,fun a j=>?_,fun a i b j h1 h2 e=>?_,fun a j ht=>?_,H.low,H.base,H.good⟩
 rotate_right
 ·obtain⟨p,hp,ht'⟩:=key a j ht
  simp only[ZlD,hp]
  rcases H.home a _ ht' with h9 |⟨h7,h8,h9⟩
  ·exact .inl h9
  ·exact .inr ⟨h7,by omega,h9⟩
 ·obtain⟨p,hp,ht'⟩:=key a j ht
  simp only[ZlD,hp];exact H.live a _ ht'
 ·obtain⟨hb,_⟩:=Zd1 (σ:=Zpz (Zbg R h)) (Zbg R h) a j
  rw[hb]
  cases hp:ZaP (Zbg R h) a with
  |none=>trivial
  |some p=>
   simp only
   rcases ZdS hp j with h1 |h1
   ·rw[h1];trivial
   ·rw[h1];simp only[ZlD,hp];exact(H.blks a _).ren pack_good
 ·obtain⟨p,hp,hp'⟩:=key a i h1
  obtain⟨q,hq,hq'⟩:=key b j h2
  simp only[ZlD,hp,hq]at e
  obtain⟨rfl,e2⟩:=H.inj _ _ _ _ hp' hq' e
  rw[hp]at hq;cases hq
  exact⟨rfl,by omega⟩
def ZHt:AV→List (Nat×Nat)
 | .tup xs=>xs.flatMap refs
 |v=>refs v
def ZJi:Row→List (Nat×Nat)
 | .gen xs=>xs.flatMap ZHt
 |_=>[]
def Zyb:Zhg→List (Nat×Nat)
 |[]=>[]
 |(_,v)::l=>ZHt v++Zyb l
def ZJ8:Blk→List (Nat×Nat)
 | .row _ _ r=>ZJi r
 | .lp l=>Zyb l.env
 |_=>[]
def ZFc:List AItem→List (Nat×Nat)
 |[]=>[]
 |x::k=>(match x with | .inRF a i=>[(a,i)] | .endRF a i=>[(a,i)] |_=>[])++ZFc k
def ZD5:List AFrame→List (Nat×Nat)
 |[]=>[]
 |f::fs=>Zyb f.env++((match ZfN f.todo with |true=>[] |false=>ZFc f.todo)++(f.defs++((match f.rnd with |some p=>[p] |none=>[])++ZD5 fs)))
def ZHK(R:List (Nat×Nat)):List (Nat×Nat)→List (Nat×Nat)
 |[]=>R
 |p::l=>match ZwK p R with |true=>ZHK R l |false=>ZHK (p::R) l
def ZoZ:List (Nat×Nat)→List (Nat×Nat)
 |[]=>[]
 |p::l=>match Zoq p.1 with |true=>ZoZ l |false=>p::ZoZ l
def Zv5(h:Zad):Nat→List (Nat×Nat)→List (Nat×Nat)→List (Nat×Nat)
 |0,R,_=>R
 |n+1,R,new=>match new.flatMap (fun p=>ZoZ (ZJ8 (blk h p.1 p.2)))with
  |[]=>R
  |l=>Zv5 h n (ZHK R l) l
def ZuB(h:Zad)(t:Zzd):Bool:=
 match ZaP t 0 with
 |none=>Nat.beq (nxt h 0) 0
 |some p=>match Nat.beq p.1 0 with |true=>Nat.ble (nxt h 0) (p.2.base+p.2.xs.length) |false=>false
def ZJW(fs:List AFrame):List (Nat×Nat):=ZHK [] ((0,0)::ZoZ (ZD5 fs))
def ZHQ(fs:List AFrame)(h:Zad):Option (List AFrame×Zad):=
 match ZJW fs with
 |R0=>match Zbg (Zv5 h 4 R0 R0) h with
  |t=>match ZuB h t with
   |false=>none
   |true=>match ZsF (Zpz t) fs with
    |none=>none
    |some fs'=>some (fs',Zje (Zpz t) t)
theorem Zzh{C:Ctx}{R:List (Nat×Nat)}{h:Zad}{L:Lay}{w:World}(hk:ZuB h (Zbg R h)=true):Fr C h L w (Zje (Zpz (Zbg R h)) (Zbg R h)) (ZlD (Zbg R h) L) w:=by
 obtain⟨hb,hn⟩:=Zd1 (σ:=Zpz (Zbg R h)) (Zbg R h) 0 0
 refine⟨Nat.le_refl _,fun g _ ho=>⟨pack_good.okk ho,rfl⟩,?_,fun sz _ ht=>?_⟩
 ·rw[hn]
  unfold ZuB at hk
  cases hp:ZaP (Zbg R h) 0 with
  |none=>rw[hp]at hk;have:=Nat.eq_of_beq_eq_true hk;omega
  |some p=>
   rw[hp]at hk
   simp only at hk⊢
   split at hk
   ·simpa using hk
   ·cases hk
 ·rw[hb,Blk.ren_tag]at ht
  unfold ZuB at hk
  cases hp:ZaP (Zbg R h) 0 with
  |none=>rw[hp]at ht;cases ht
  |some p=>
   rw[hp]at ht hk
   simp only at ht hk
   split at hk
   ·rename_i h0
    have h0:p.1=0:=Nat.eq_of_beq_eq_true h0
    rcases ZdS hp 0 with h1 |h1
    ·rw[h1]at ht;cases ht
    ·rw[h1,h0]at ht
     refine⟨ht,?_,?_⟩
     ·simp only[ZlD,hp,h0]
     ·simp only[ZlD,hp,h0]
   ·cases hk
theorem Zrf{C:Ctx}{fs fs':List AFrame}{h h':Zad}{Q:List AFrame→Zad→Prop}(hp:ZHQ fs h=some (fs',h'))(hq:Ev C fs' h' Q):Ev C fs h Q:=by
 intro L fr cs w hf H hne
 unfold ZHQ at hp
 dsimp only at hp
 split at hp
 ·cases hp
 ·rename_i hkeep
  split at hp
  ·cases hp
  ·rename_i gs hgs
   cases hp
   obtain⟨fs2,h2',L2,fr2,cs2,w2,q2,n2,a2,b2,s2⟩:=hq _ fr cs w (FrsRel.ren pack_good hgs hf) H.packed (fun e=>by
    subst e
    cases fs with
    |nil=>exact hne rfl
    |cons f fs=>
     simp only[ZsF]at hgs
     split at hgs
     ·cases hgs
     ·split at hgs<;>cases hgs)
   exact⟨fs2,h2',L2,fr2,cs2,w2,q2,n2,a2,b2,s2.1,(Zzh hkeep).trans s2.2⟩
def Zzf(A:Ar)(T:Tab)(l:List Ctr)(n:Nat)(pk:Bool)(pa:List Bool)(f:AFrame)(fs:List AFrame)(h:Zad):Option (List Bool×List AFrame×Zad):=
 match Zja A T l n pa [] f fs h with
 |none=>none
 |some (acc,f',fs',h')=>match pk with
  |false=>some (acc,f'::fs',h')
  |true=>match ZHQ (f'::fs') h' with
   |none=>none
   |some (gs,h2)=>some (acc,gs,h2)
theorem Zy1{C:Ctx}{T:Tab}{l:List Ctr}{n:Nat}{pk:Bool}{pa acc:List Bool}{f:AFrame}{fs gs:List AFrame}{h h':Zad}{Q:List AFrame→Zad→Prop}(hfol:C.P.follows .mixedOrders=true)(hT:ZbH C.P T)(hl:ZaF C.P l)
 (hw:Zzf std T l n pk pa f fs h=some (acc,gs,h')) (hb:AllT acc) (hq:Ev C gs h' Q):Ev C (f::fs) h Q:=by
 unfold Zzf at hw
 split at hw
 ·cases hw
 ·rename_i acc1 f1 fs1 h1 hs
  split at hw
  ·cases hw
   exact(Zcg hfol hT hl n _ _ _ _ hs hb.mem hq).2
  ·split at hw
   ·cases hw
   ·rename_i gs2 h2 hp
    cases hw
    exact(Zcg hfol hT hl n _ _ _ _ hs hb.mem (Zrf hp hq)).2
end Go.Proofs.YtkeoeooghhjibaaGreatDoor
namespace Go.Proofs.YtkeoeooghhjibaaGreatDoor
open Go.RowKit (Below)
inductive Frz1 (fr:Option Fresh):AV→AV→Prop
 |row (f:Fresh) (hf:fr=some f) (hp:f.r.pure=true) (hs:f.r.solid=true):Frz1 fr (.row 0 0) (.list f.r)
 |nil (r:Row) (h:r.elems=[]):Frz1 fr .nils (.list r)
 |same (v:AV) (hp:v.pure=true) (hs:v.solid=true):Frz1 fr v v
def FrzL(fr:Option Fresh):zA→zA→Prop
 |[],[]=>True
 |x::xs,y::ys=>Frz1 fr x y∧FrzL fr xs ys
 |_,_=>False
inductive Frz (fr:Option Fresh):AV→AV→Prop
 |one {v v':AV} (h:Frz1 fr v v'):Frz fr v v'
 |tup {xs ys:zA} (h:FrzL fr xs ys):Frz fr (.tup xs) (.tup ys)
theorem FrzL.spec{fr:Option Fresh} :∀ {xs ys:zA},FrzL fr xs ys→xs.length=ys.length∧∀(j:Nat) (y:AV),ys[j]? =some y→∃x,xs[j]? =some x∧Frz1 fr x y
 |[],[],_=>⟨rfl,fun j y h=>by simp at h⟩
 |x::xs,y::ys,h=>by
  obtain⟨h1,h2⟩:=h
  obtain⟨e1,e2⟩:=FrzL.spec h2
  refine⟨by simp[e1],fun j z hz=>?_⟩
  cases j with
  |zero=>simp at hz;subst hz;exact⟨x,rfl,h1⟩
  |succ j=>obtain⟨q,q1,q2⟩:=e2 j z (by simpa using hz);exact⟨q,by simpa using q1,q2⟩
section
variable {P:Program}{w w':World}{okA:Nat→Prop}{L':Lay}{fr:Option Fresh}
theorem ZhQ(H:HRel (Ctx.of P w okA []) (ZaB fr) L' w'){v v':AV}{x:Value}(hs:Frz1 fr v v')(hr:ZaH (Ctx.of P w okA []) (ZaB fr) L' w' v x):ZaH (Ctx.of P w (fun _=>False) []) [] L' w' v' x:=by
 cases hs with
 |nil r h=>cases hr with |nils=>exact .nil r none 0 h
 |same _ hp hs=>
  exact((hr.pure hp:Rel w' _ [] L' v x).solid hs)
 |row f hf hp hso=>
  subst hf
  have hb:blk (ZaB (some f)) 0 0=.row f.e f.sz f.r:=rfl
  obtain⟨ht,h0,h1,h2,h3⟩:=H.rowAt hb
  cases hr with
  |row _ _ ad n c hn hlv=>
   obtain⟨had,rfl,rfl⟩:=hlv.2 _ ht
   by_cases hs0:L'.size 0 0=0
   ·have hre:f.r.elems=[]:=List.eq_nil_of_length_eq_zero (by omega)
    rw[hs0,show(f.sz,f.r.elems.length).2=0 by simp[hre]]
    exact .nil f.r _ _ hre
   obtain⟨hpl,cur,h4,h5,h6,h7,h8⟩:=H.curAt hb hs0
   have had:=had hs0
   subst had
   have hl:=H.live 0 0 hpl
   have hpa:=Zbj hp
   refine .list f.r _ rfl ⟨L'.loc 0 0,0,none⟩ _ _ f.sz _ hl.2 (.inr ⟨hl.1,fun a i ht=>absurd rfl ht.tag⟩) rfl hn h3 h6.1.symm h7 (fun j v hj=>h8 j v hj) hpa (fun j u v hu hv=>?_)
   have hsu:u.solid=true:=AV.solidL_mem (Zi1 hso) hu
   exact((h6.2 j u v hu hv).pure (AV.pureL_mem hpa hu):Rel w' _ [] L' u v).solid hsu
theorem ZvA{f:FuncId}{args:zA}{r r':AV}(h:Zan P f args r fr)(hz:ZhH fr=false)(hs:Frz fr r r'):Zan P f args r' ZpJ:=by
 intro w okA L vs hargs hok hG
 refine(h w okA L vs hargs hok hG).mono ?_
 rintro e w' ⟨x,L',rfl,hb,hp⟩
 unfold ZkP at hp
 rw[hz]at hp
 obtain⟨H,hr⟩:=hp
 refine⟨x,L',rfl,hb,?_⟩
 show ZaH (Ctx.of P w (fun _=>False) []) [] L' w' r' x
 cases hs with
 |one hs=>exact ZhQ H hs hr
 |tup hs=>
  obtain⟨e1,e2⟩:=hs.spec
  cases hr with
  |tup xs vs hl hrr=>
   refine .tup _ vs (by rw[←e1];exact hl) (fun j u v hu hv=>?_)
   obtain⟨q,q1,q2⟩:=e2 j u hu
   exact ZhQ H q2 (hrr j q v q1 hv)
end
def ZaD(A:Ar)(T:Tab)(l:List Ctr)(n:Nat)(pa:List Bool)(fs:List AFrame)(h:Zad):Option (List Bool×List AFrame×Zad):=
 match fs with
 |[]=>none
 |f::fs=>Zzf A T l n true pa f fs h
def Za9(A:Ar)(T:Tab)(l:List Ctr)(n:Nat)(pa:List Bool)(fn:FuncId)(fs:List AFrame)(h:Zad):Option (List Bool×AV×Option Fresh):=
 match fs with
 |[]=>none
 |f::fs=>match Zja A T l n pa [] f fs h with
  |none=>none
  |some (acc,g,gs,h')=>match gs with
   |_::_=>none
   |[]=>match g.ret&&Nat.beq g.fn fn with
    |false=>none
    |true=>match g.rnd with
     |some _=>none
     |none=>match g.defs with
      |_::_=>none
      |[]=>match ZnY A g.env h' g.res with
       |none=>none
       |some (b,vs)=>match Zgm h' (Zgw vs)with
        |none=>none
        |some (r,fr)=>some (b::acc,r,fr)
section
variable {C:Ctx}{T:Tab}{l:List Ctr}{n:Nat}{pa acc:List Bool}{fs gs:List AFrame}{h h':Zad}{Q:List AFrame→Zad→Prop}
theorem ZKN(hfol:C.P.follows .mixedOrders=true)(hT:ZbH C.P T)(hl:ZaF C.P l)(hw:ZaD std T l n pa fs h=some (acc,gs,h'))(hb:AllT acc)(hq:Ev C gs h' Q):Ev C fs h Q:=by
 unfold ZaD at hw
 split at hw
 ·cases hw
 ·exact Zy1 hfol hT hl hw hb hq
theorem ZDh(hfol:C.P.follows .mixedOrders=true)(hT:ZbH C.P T)(hl:ZaF C.P l){fn:FuncId}{r r':AV}{fr fr':Option Fresh}(hw:Za9 std T l n pa fn fs h=some (acc,r',fr'))(hb:AllT acc)(hr:r'=r)(hfr:fr'=fr):Ev C fs h (Zco fn r fr):=by
 subst hr;subst hfr
 unfold Za9 at hw
 split at hw
 ·cases hw
 ·split at hw
  ·cases hw
  ·rename_i acc1 g gs1 h1 hs
   split at hw
   ·cases hw
   ·split at hw
    ·cases hw
    ·rename_i hg
     simp only[Bool.and_eq_true]at hg
     split at hw
     ·cases hw
     ·rename_i hn
      split at hw
      ·cases hw
      ·rename_i hd
       split at hw
       ·cases hw
       ·rename_i b vs hc
        split at hw
        ·cases hw
        ·rename_i hex
         cases hw
         have hb1:b=true:=hb.1
         subst hb1
         exact(Zcg hfol hT hl n _ _ _ _ hs hb.2.mem (.now (by simp) ⟨g,vs,rfl,Nat.eq_of_beq_eq_true hg.2,hg.1,hn,hd,hc,hex⟩)).2
end
end Go.Proofs.YtkeoeooghhjibaaGreatDoor
namespace Go.Proofs.YtkeoeooghhjibaaGreatDoor
@[simp] theorem ZFb (a b:Int):std.add a b=a+b:=rfl
@[simp] theorem ZMm (a b:Int):std.sub a b=a-b:=rfl
@[simp] theorem ZMo (a b:Int):std.mul a b=a*b:=rfl
@[simp] theorem ZOk (a b:Int):std.quo a b=Int.tdiv a b:=rfl
@[simp] theorem ZMj (a b:Int):std.rem a b=Int.tmod a b:=rfl
@[simp] theorem ZOu (a:Int):std.neg a= -a:=rfl
@[simp] theorem ZF3 (a b:Int):std.lt a b=decide (a<b):=rfl
@[simp] theorem ZvL (a b:Int):std.le a b=decide (a≤b):=rfl
@[simp] theorem ZHD (a b:Int):std.eq a b=decide (a=b):=rfl
@[simp] theorem Zjh (a:Int):std.nat a=a.toNat:=rfl
@[simp] theorem ZiS (a:Nat):std.int a=(a:Int):=rfl
@[simp] theorem ZN6 (a b:Int):std.max a b=Max.max a b:=rfl
@[simp] theorem ZNF (a b:Int):std.min a b=Min.min a b:=rfl
@[simp] theorem ZsW (l:zI):std.len l=l.length:=rfl
@[simp] theorem ZOa (l:zI) (j:Nat):std.nth l j=l.getD j 0:=rfl
@[simp] theorem ZOb (l:zI) (j:Nat) (x:Int):std.set l j x=l.set j x:=rfl
@[simp] theorem ZC1 (a b:zI):std.app a b=a++b:=rfl
@[simp] theorem ZlW (l:zI) (k n:Nat):std.sub3 l k n=(l.drop k).take n:=rfl
@[simp] theorem ZNa (n:Nat) (x:Int):std.rep n x=List.replicate n x:=rfl
@[simp] theorem ZNW (a:Bool):std.not a=!a:=rfl
@[simp] theorem ZL4 (l:List UInt8):std.lenS l=l.length:=rfl
@[simp] theorem ZLZ (l:List UInt8) (j:Nat):std.nthS l j=((l.getD j 0).toNat:Int):=rfl
@[simp] theorem ZK0 (a b:List UInt8):std.appS a b=a++b:=rfl
@[simp] theorem ZLX (l:List UInt8) (k n:Nat):std.subS l k n=sub3 l k n:=rfl
@[simp] theorem ZOK (a b:List UInt8):std.eqS a b=(a==b):=rfl
@[simp] theorem Zd0 (ks:zA) (s:List UInt8):std.hasS ks s=ks.any fun k=>k.toS==s:=rfl
@[simp] theorem ZN8 (s:List UInt8):std.byt s=s.map fun b=>(b.toNat:Int):=rfl
@[simp] theorem ZNK (a b:Int):std.shl a b=a*2^b.toNat:=rfl
@[simp] theorem ZML (a b:Int):std.shr a b=a.fdiv (2^b.toNat):=rfl
@[simp] theorem ZKv (n:Int):std.inR .i64 n=decide (-9223372036854775808≤n∧n≤9223372036854775807):=rfl
@[simp] theorem ZOs (a b:Bool):Zag a b=(a&&b):=by cases a<;>rfl
@[simp] theorem ZMa (a b:Nat):Nat.blt a b=decide (a<b):=by rw[Bool.eq_iff_iff];simp
@[simp] theorem ZNA (a b:Nat):Nat.ble a b=decide (a≤b):=by rw[Bool.eq_iff_iff];simp
@[simp] theorem ZNy (a b:Nat):Nat.beq a b=decide (a=b):=by rw[Bool.eq_iff_iff];simp
@[simp] theorem ZHV:AllT []=True:=rfl
@[simp] theorem ZlR (b:Bool) (l:List Bool):AllT (b::l)=(b=true∧AllT l):=rfl
def tru:Nat→List Bool→List Bool
 |0,l=>l
 |n+1,l=>true::tru n l
def tr:List Nat→List Bool→List Bool
 |k::ks,x::xs=>tru k (x::tr ks xs)
 |k::_,[]=>tru k []
 |[],xs=>xs
theorem ZkX(l:List Bool):∀n,AllT (tru n l)=AllT l
 |0=>rfl
 |n+1=>by simp only[tru,ZlR,ZkX l n,true_and]
@[simp] theorem ZAt:∀ks xs,AllT (tr ks xs)=AllT xs
 |k::ks,x::xs=>by simp only[tr,ZkX,ZlR,ZAt ks xs]
 |k::ks,[]=>by simp only[tr,ZkX]
 |[],xs=>rfl
end Go.Proofs.YtkeoeooghhjibaaGreatDoor
namespace Go.Proofs.YtkeoeooghhjibaaGreatDoor
open Go.RowKit (Below)
def ZIL(es:List (Nat×Nat))(left:List Nat)(i:Nat):Bool:=es.all fun e=>match Nat.beq e.2 i with |true=>left.all (fun j=>!Nat.beq j e.1) |false=>true
def Ztw(es:List (Nat×Nat)):Nat→List Nat→List (List Nat)
 |0,_=>[[]]
 |n+1,left=>(left.filter (ZIL es left)).flatMap fun i=>(Ztw es n (left.filter fun j=>!Nat.beq j i)).map (i:: ·)
def ZyC(aos:List AOp):List Nat→List AOp
 |[]=>[]
 |i::σ=>match aos[i]? with |some o=>o::ZyC aos σ |none=>ZyC aos σ
theorem ZsB{es:List (Nat×Nat)}{m:Nat} :∀(n:Nat) (left:List Nat),(∀i∈left,i<m)→∀σ∈Ztw es n left,∀i∈σ,i<m
 |0,_,_,σ,hσ,i,hi=>by simp only[Ztw,List.mem_singleton]at hσ;subst hσ;cases hi
 |n+1,left,hl,σ,hσ,i,hi=>by
  simp only[Ztw,List.mem_flatMap,List.mem_filter,List.mem_map]at hσ
  obtain⟨j,⟨hj,_⟩,τ,hτ,rfl⟩:=hσ
  rcases List.mem_cons.1 hi with rfl |hi
  ·exact hl _ hj
  ·exact ZsB n _ (fun q hq=>hl q (List.mem_filter.1 hq).1) τ hτ i hi
theorem Zph{P:Program}{N:Nat}{opl:List Oper}{aos:List AOp}(hm:ZdY P N opl opl aos=true):∀(σ:List Nat),(∀i∈σ,i<opl.length)→ZBA P N opl σ (ZyC aos σ)
 |[],_=>trivial
 |i::σ,h=>by
  obtain⟨h1,h2⟩:=Zdn hm
  have hi:=h i (by simp)
  have hia:i<aos.length:=by omega
  simp only[ZyC,List.getElem?_eq_getElem hia]
  exact⟨⟨opl[i],List.getElem?_eq_getElem hi,h2 i _ _ (List.getElem?_eq_getElem hi) (List.getElem?_eq_getElem hia)⟩,Zph hm σ (fun j hj=>h j (by simp[hj]))⟩
theorem ZsA{ops:List Oper}{es:List (Nat×Nat)}(hlin:∀(j:Nat) (o:Oper),ops[j]? =some o→∀e∈o.after,Region.binds .any e=true→e.on<0+j)(hes:∀e∈es,Waits ops.toArray e.2 e.1):
 ∀(fuel t:Nat) (listed:Array Bool),listed.size=ops.length→Downed ops.toArray listed→((List.range ops.length).filter fun i=>!listed.getD i true).length=fuel→
  Region.linearise.go .any ops.toArray fuel t listed []∈Ztw es fuel ((List.range ops.length).filter fun i=>!listed.getD i true)
 |0,t,listed,hls,hdn,hf=>by simp[Region.linearise.go,Ztw]
 |fuel+1,t,listed,hls,hdn,hf=>by
  have hne:Region.ready .any ops.toArray listed≠[]:=by
   have:∃i,i<ops.length∧listed.getD i true=false:=by
    cases hff:(List.range ops.length).filter fun i=>!listed.getD i true with
    |nil=>rw[hff]at hf;simp at hf
    |cons i r=>
     have hi:i∈(List.range ops.length).filter fun i=>!listed.getD i true:=by rw[hff];simp
     simp only[List.mem_filter,List.mem_range,Bool.not_eq_true']at hi
     exact⟨i,hi⟩
   obtain⟨i,hi⟩:=this
   obtain⟨m,⟨h1,h2⟩,h3⟩:=ZjZ (p:=fun i=>i<ops.length∧listed.getD i true=false) i hi
   intro hnil
   have hmr:m∈Region.ready .any ops.toArray listed:=mem_ready.2 ⟨h2,ops[m],by simp[h1],fun e hee hb=>by
    have hlt:=hlin m ops[m] (by simp[h1]) e hee hb
    have h4:=h3 e.on (by omega)
    have h5:¬listed.getD e.on true=false:=fun h6=>h4 ⟨by omega,h6⟩
    rw[unl]at h5
    have h6:e.on<listed.size:=by omega
    simpa using(fun h7=>h5 ⟨h6,h7⟩:¬listed.getD e.on false=false)⟩
   rw[hnil]at hmr;cases hmr
  have hlt:t%(Region.ready .any ops.toArray listed).length<(Region.ready .any ops.toArray listed).length:=Nat.mod_lt _ (List.length_pos_iff.2 hne)
  generalize hi:(Region.ready .any ops.toArray listed)[t%(Region.ready .any ops.toArray listed).length]=i
  have hgi:(Region.ready .any ops.toArray listed)[t%(Region.ready .any ops.toArray listed).length]? =some i:=by rw[List.getElem?_eq_getElem hlt,hi]
  have hir:i∈Region.ready .any ops.toArray listed:=List.mem_of_getElem? hgi
  obtain⟨hun,op,hop,hall⟩:=mem_ready.1 hir
  have hop:ops[i]? =some op:=by simpa using hop
  have hil:i<ops.length:=(List.getElem?_eq_some_iff.1 hop).1
  have hgo:Region.linearise.go .any ops.toArray (fuel+1) t listed []=i::Region.linearise.go .any ops.toArray fuel (t/(Region.ready .any ops.toArray listed).length) (listed.setIfInBounds i true) []:=by
   simp only[Region.linearise.go]
   change (match (Region.ready .any ops.toArray listed)[t%(Region.ready .any ops.toArray listed).length]? with
    |some i=>Region.linearise.go .any ops.toArray fuel (t/(Region.ready .any ops.toArray listed).length) (listed.setIfInBounds i true) [i]
    |none=>[].reverse)=_
   rw[hgi]
   dsimp only
   rw[linearise_go_acc,List.reverse_singleton,List.singleton_append]
  have hleft:((List.range ops.length).filter fun j=>!(listed.setIfInBounds i true).getD j true)=((List.range ops.length).filter fun j=>!listed.getD j true).filter fun j=>!Nat.beq j i:=by
   rw[List.filter_filter]
   apply List.filter_congr
   intro j hj
   by_cases hji:j=i
   ·subst hji
    have e1:(listed.setIfInBounds j true).getD j true=true:=by simp[show j<listed.size by omega]
    rw[e1];simp
   ·rw[getD_set_ne true (Ne.symm hji)]
    have e2:Nat.beq j i=false:=by
     cases h:Nat.beq j i with
     |false=>rfl
     |true=>exact absurd (Nat.eq_of_beq_eq_true h) hji
    rw[e2];simp
  have hmem:i∈(List.range ops.length).filter fun j=>!listed.getD j true:=by simp only[List.mem_filter,List.mem_range,Bool.not_eq_true'];exact⟨hil,hun⟩
  have hf':((List.range ops.length).filter fun j=>!(listed.setIfInBounds i true).getD j true).length=fuel:=by
   have hsplit:=Zix hil
   have hset:∀j,j≠i→(listed.setIfInBounds i true).getD j true=listed.getD j true:=fun j hj=>getD_set_ne true (Ne.symm hj)
   have hseti:(listed.setIfInBounds i true).getD i true=true:=by simp[show i<listed.size by omega]
   have hf1:((List.range i).filter fun j=>!(listed.setIfInBounds i true).getD j true)=(List.range i).filter fun j=>!listed.getD j true:=by
    apply List.filter_congr
    intro j hj
    have:j<i:=by simpa using hj
    rw[hset j (by omega)]
   have hf2:(((List.range ops.length).drop (i+1)).filter fun j=>!(listed.setIfInBounds i true).getD j true)=((List.range ops.length).drop (i+1)).filter fun j=>!listed.getD j true:=by
    apply List.filter_congr
    intro j hj
    obtain⟨q,hq⟩:=List.mem_iff_getElem?.1 hj
    rw[List.getElem?_drop]at hq
    have hqj:j=i+1+q:=by
     have:=(List.getElem?_eq_some_iff.1 hq).2
     simpa using this.symm
    rw[hset j (by omega)]
   rw[hsplit,List.filter_append,List.filter_cons,if_pos (by simp[hun]),List.length_append,List.length_cons]at hf
   rw[hsplit,List.filter_append,List.filter_cons,if_neg (by simp[hseti]),hf1,hf2,List.length_append]
   omega
  have ih:=ZsA hlin hes fuel (t/(Region.ready .any ops.toArray listed).length) (listed.setIfInBounds i true) (by simpa using hls) (hdn.add hir) hf'
  rw[hgo]
  simp only[Ztw,List.mem_flatMap,List.mem_map]
  refine⟨i,?_,_,by rw[←hleft];exact ih,rfl⟩
  rw[List.mem_filter]
  refine⟨hmem,List.all_eq_true.2 fun e he=>?_⟩
  split
  ·rename_i h2
   have h2:=Nat.eq_of_beq_eq_true h2
   have hw:=hes e he
   rw[h2]at hw
   have h3:=ZdE hdn hw hir
   refine List.all_eq_true.2 fun j hj=>?_
   simp only[List.mem_filter,List.mem_range,Bool.not_eq_true']at hj
   cases hb:Nat.beq j e.1 with
   |false=>rfl
   |true=>
    have hb:=Nat.eq_of_beq_eq_true hb
    rw[hb]at hj
    rw[(unl.1 hj.2).2]at h3;cases h3
  ·rfl
section
variable {C:Ctx}{h h':Zad}{L L':Lay}{w w':World}{Q:List AFrame→Zad→Prop}{f:AFrame}{fs:List AFrame}{k:List AItem}
theorem Zpl{fr:List (Nat×Nat)}{ops:List AOp}(hfol:C.P.follows .mixedOrders=true)(hany:ZmB fr=true)(hr:f.ret=false)(ht:f.todo=.code (.reg (some fr) ops)::k)
 (hq:∀σ∈Ztw (fr.drop 1) ops.length (List.range ops.length),Ev C ({ f with todo:=.inReg (ZyC ops σ)::k } ::fs) h Q):Ev C (f::fs) h Q:=by
 intro L fr' cs w hf H _
 cases hf with
 |cons hf hk=>
  rcases hf.mode with⟨e,_⟩ |⟨_,hm,hi⟩
  ·rw[hr]at e;cases e
  ·rw[ht]at hi
   obtain⟨fn,tmps,todo,defers,mode,kind,rnd⟩:=fr'
   cases hi with
   |cons hx hki=>
    cases hx with
    |code _ c hmc=>
     dsimp only at hm;subst hm
     cases c<;>simp only[Zbp,Bool.false_eq_true,Bool.and_eq_true,beq_iff_eq]at hmc
     rename_i l id ops' draw
     obtain⟨⟨rfl,hmc⟩,hdr⟩:=hmc
     obtain⟨hlen0,_⟩:=Zdn hmc
     simp only[ZoH,hany,Bool.and_eq_true]at hdr
     obtain⟨hlin,hes⟩:=hdr
     have hlin:=ZgU ops'.toList 0 hlin
     have hcl:=ZgQ ops'.toList ops'.toList [] (by simp) (fun j i hi=>by simp at hi)
     have hes:∀e∈fr.drop 1,Waits ops'.toList.toArray e.2 e.1:=fun e he=>hcl _ _ (by simpa using List.all_eq_true.1 hes e he)
     obtain⟨s0,H0⟩:=H.grow (w':=w.drew) ((Below.refl _ _).drew)
     have hall:((List.range ops'.toList.length).filter fun i=>!(Array.replicate ops'.size false).getD i true)=List.range ops'.toList.length:=by
      apply List.filter_eq_self.2
      intro i hi
      have:i<ops'.size:=by simpa using hi
      simp[this]
     have hgo:=ZsA hlin hes ops'.size (w.tape w.drawn (.order fn id)) (Array.replicate ops'.size false) (by simp) (fun j o hj hl=>by
      rcases Nat.lt_or_ge j ops'.size with h1 |h1
      ·simp[h1]at hl
      ·simp[Array.getElem?_eq_none (show (Array.replicate ops'.size false).size≤j by simpa using h1)]at hl) (by rw[hall];simp)
     rw[hall]at hgo
     have hsz:ops'.size=ops.length:=by rw[←hlen0];simp
     have hgo2:=hgo
     rw[hlen0]at hgo2
     rw[hsz]at hgo2
     have hf0:=hf.step s0
     obtain⟨fs2,h2',L2,fr2,cs2,w2,q2,n2,a2,b2,s2⟩:=hq _ hgo2 L { fn,tmps,todo:=.inRegion ops'.toList.toArray (Region.linearise.go .any ops'.toList.toArray ops.length (w.tape w.drawn (.order fn id)) (Array.replicate ops.length false) [])::l,defers,mode:=.run,kind,roundOf:=rnd } cs w.drew
      (.cons ⟨hf0.fn,hf.size,hf0.env,hf0.kind,hf0.defs,hf0.rnd, .inr ⟨hr,rfl, .cons (.inReg ops'.toList _ _ (Zph hmc _ (fun i hi=>ZsB _ _ (fun j hj=>by simpa[hlen0]using hj) _ hgo2 i hi))) (hki.step s0)⟩,hf0.res⟩ (hk.step s0)) H0 (by simp)
     refine⟨fs2,h2',L2,fr2,cs2,w2,q2,n2,a2,b2,?_,(Fr.of s0).trans s2.2⟩
     refine Steps.trans (go1 ?_) s2.1
     rw[←hsz]
     simp[stepG,stepG.exec,choose,Sem.run,Question.forced,Question.cut,Region.schedule,hfol,Region.linearise]
end
def ZKH:Option Fresh→Option Fresh→Bool
 |none,none=>true
 |some x,some y=>match Nat.beq x.e y.e with |true=>(match Nat.beq x.sz y.sz with |true=>Zs7 (eqA 8) x.r y.r |false=>false) |false=>false
 |_,_=>false
theorem Zzc{x y:Option Fresh}(h:ZKH x y=true):x=y:=by
 cases x<;>cases y<;>simp only[ZKH,Bool.false_eq_true]at h
 ·rfl
 ·rename_i x y
  split at h
  ·rename_i e1
   split at h
   ·rename_i e2
    obtain⟨a,b,c⟩:=x;obtain⟨a',b',c'⟩:=y
    have:=Nat.eq_of_beq_eq_true e1;have:=Nat.eq_of_beq_eq_true e2;have:=Zk5 (fun _ _ e=>Zmp e) h
    simp_all
   ·cases h
  ·cases h
def ZsQ(f:AFrame):Option (List AOp×List (Nat×Nat)×List AItem):=
 match f.ret with
 |true=>none
 |false=>match f.todo with
  | .code (.reg (some fr) ops)::k=>(match ZmB fr with |true=>some (ops,fr,k) |false=>none)
  |_=>none
def okT(A:Ar)(T:Tab)(K:Con)(n:Nat)(g:FuncId)(r:AV)(fr:Option Fresh):Nat→AFrame→List AFrame→Zad→Bool
 |0,_,_,_=>false
 |d+1,f,fs,h=>match ZmJ A T K n [] f fs h with
  |(acc,f',fs',h')=>match ZsQ f' with
   |some (ops,es,k)=>(match acc.all (fun b=>b)with
    |true=>(Ztw (es.drop 1) ops.length (List.range ops.length)).all fun σ=>okT A T K n g r fr d { f' with todo:=.inReg (ZyC ops σ)::k } fs' h'
    |false=>false)
   |none=>match ZHR A g (acc,f',fs',h')with
    |some (b,r',fr')=>(match b with |true=>(match eqA 8 r' r with |true=>ZKH fr' fr |false=>false) |false=>false)
    |none=>false
theorem ZlJ{T:Tab}{K:Con}{C:Ctx}{n:Nat}{g:FuncId}{r:AV}{fr:Option Fresh}(hfol:C.P.follows .mixedOrders=true)(hT:ZbH C.P T)(hK:ZfZ C.P K):
 ∀(d:Nat) {f:AFrame} {fs:List AFrame} {h:Zad},okT std T K n g r fr d f fs h=true→Ev C (f::fs) h (Zco g r fr)
 |0,_,_,_,h=>by cases h
 |d+1,f,fs,h,ho=>by
  rw[okT]at ho
  generalize hs:ZmJ std T K n [] f fs h=s at ho
  obtain⟨acc,f',fs',h'⟩:=s
  have go:(∀b∈acc,b=true)→Ev C (f'::fs') h' (Zco g r fr)→Ev C (f::fs) h (Zco g r fr):=fun hb hq=>(Ze9 hfol hT hK n _ _ _ _ (by rw[hs]) hb hq).2
  dsimp only at ho
  split at ho
  ·rename_i ops es k hany
   split at ho
   ·rename_i hacc
    refine go (fun b hb=>by have:=List.all_eq_true.1 hacc b hb;simpa using this) ?_
    have hr:f'.ret=false∧f'.todo=.code (.reg (some es) ops)::k∧ZmB es=true:=by
     unfold ZsQ at hany
     split at hany
     ·cases hany
     ·rename_i hret
      split at hany
      ·rename_i fr1 ops1 k1 htodo
       split at hany
       ·rename_i hi
        simp only[zS,zP]at hany
        obtain⟨rfl,rfl,rfl⟩:=hany
        exact⟨hret,htodo,hi⟩
       ·cases hany
      ·cases hany
    exact Zpl hfol hr.2.2 hr.1 hr.2.1 (fun σ hσ=>ZlJ hfol hT hK d (List.all_eq_true.1 ho σ hσ))
   ·cases ho
  ·split at ho
   ·rename_i b r' fr' hfin
    split at ho
    ·split at ho
     ·rename_i e1
      have e1:=Zmp e1
      have e2:=Zzc ho
      subst e1;subst e2
      obtain⟨acc2,g2,h2,hs2,hacc,hq⟩:=ZmL hfin
      simp only[zP]at hs2
      obtain⟨rfl,rfl,rfl,rfl⟩:=hs2
      exact go (fun b hb=>by have:=List.all_eq_true.1 hacc b hb;simpa using this) (.now (by simp) hq)
     ·cases ho
    ·cases ho
   ·cases ho
def ZGg(A:Ar)(T:Tab)(K:Con)(n d:Nat)(f:FuncId)(args:zA)(r:AV)(fr:Option Fresh):Bool:=
 match Zam T f args with
 |none=>false
 |some af=>okT A T K n f r fr d af [] []
theorem Zop{P:Program}{T:Tab}(hfol:P.follows .mixedOrders=true)(hT:ZbH P T){l:List Fact}(hl:Zll P l){n d:Nat}{f:FuncId}{args:zA}{r:AV}{fr:Option Fresh}
 (h:ZGg Zqz T (ZBI l) n d f args r fr=true):Zan P f args r fr:=by
 rw[Zog]at h
 unfold ZGg at h
 split at h
 ·cases h
 ·rename_i af haf
  exact Zg1 hT haf (fun w okA cs=>ZlJ (C:=Ctx.of P w okA cs) hfol hT (Zk3 hl) d h)
end Go.Proofs.YtkeoeooghhjibaaGreatDoor
