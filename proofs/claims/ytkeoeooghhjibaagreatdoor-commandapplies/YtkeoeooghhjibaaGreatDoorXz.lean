/- The same arithmetic, Zqz for the kernel. No condition. -/
import Derived.Test.YtkeoeooghhjibaaGreatDoorXu
namespace Go.Proofs.YtkeoeooghhjibaaGreatDoor
def Q.addI:Int→Int→Int
 | .ofNat a, .ofNat b=>.ofNat (Nat.add a b)
 |a,b=>a+b
def Q.subI:Int→Int→Int
 | .ofNat a, .ofNat b=>(match Nat.ble b a with |true=>.ofNat (Nat.sub a b) |false=>.negSucc (Nat.pred (Nat.sub b a)))
 |a,b=>a-b
def Q.mulI:Int→Int→Int
 | .ofNat a, .ofNat b=>.ofNat (Nat.mul a b)
 |a,b=>a*b
def Q.ltI:Int→Int→Bool
 | .ofNat a, .ofNat b=>Nat.blt a b
 | .ofNat _, .negSucc _=>false
 | .negSucc _, .ofNat _=>true
 | .negSucc a, .negSucc b=>Nat.blt b a
def Q.leI:Int→Int→Bool
 | .ofNat a, .ofNat b=>Nat.ble a b
 | .ofNat _, .negSucc _=>false
 | .negSucc _, .ofNat _=>true
 | .negSucc a, .negSucc b=>Nat.ble b a
def Q.eqI:Int→Int→Bool
 | .ofNat a, .ofNat b=>Nat.beq a b
 | .ofNat _, .negSucc _=>false
 | .negSucc _, .ofNat _=>false
 | .negSucc a, .negSucc b=>Nat.beq a b
def Q.inR:IntKind→Int→Bool
 | .i64, .ofNat a=>Nat.ble a 9223372036854775807
 | .i64, .negSucc a=>Nat.ble a 9223372036854775807
 |k,n=>decide (k.min≤n∧n≤k.max)
def Zqz:Ar:={ std with
 add:=Q.addI,sub:=Q.subI,mul:=Q.mulI,lt:=Q.ltI,le:=Q.leI,eq:=Q.eqI,inR:=Q.inR }
theorem Zog:Zqz=std:=by
 have hb:∀a b:Nat,Nat.beq a b=decide (a=b):=fun a b=>by rw[Bool.eq_iff_iff];simp
 have hl:∀a b:Nat,Nat.ble a b=decide (a≤b):=fun a b=>by rw[Bool.eq_iff_iff];simp
 have ht:∀a b:Nat,Nat.blt a b=decide (a<b):=fun a b=>by rw[Bool.eq_iff_iff];simp
 have dec:∀ {p q:Prop} [Decidable p] [Decidable q],(p↔q)→decide p=decide q:=fun h=>by simp[h]
 have decF:∀ {p:Prop} [Decidable p],¬p→false=decide p:=fun h=>by simp[h]
 have decT:∀ {p:Prop} [Decidable p],p→true=decide p:=fun h=>by simp[h]
 have h1:Q.addI=fun a b=>a+b:=by funext a b;cases a<;>cases b<;>rfl
 have h2:Q.subI=fun a b=>a-b:=by
  funext a b
  cases a with
  |ofNat a=>
   cases b with
   |ofNat b=>
    simp only[Q.subI,hl]
    by_cases h:b≤a
    ·simp only[h,decide_true,Int.ofNat_eq_natCast];exact Int.ofNat_sub h
    ·simp only[h,decide_false,Int.negSucc_eq,Int.ofNat_eq_natCast,Nat.pred_eq_sub_one,Nat.sub_eq];omega
   |negSucc b=>rfl
  |negSucc a=>cases b<;>rfl
 have h3:Q.mulI=fun a b=>a*b:=by funext a b;cases a<;>cases b<;>rfl
 have h4:Q.ltI=fun a b=>decide (a<b):=by
  funext a b
  cases a<;>cases b<;>simp only[Q.ltI,ht,Int.ofNat_eq_natCast,Int.negSucc_eq]
  ·exact dec (by omega)
  ·exact decF (by omega)
  ·exact decT (by omega)
  ·exact dec (by omega)
 have h5:Q.leI=fun a b=>decide (a≤b):=by
  funext a b
  cases a<;>cases b<;>simp only[Q.leI,hl,Int.ofNat_eq_natCast,Int.negSucc_eq]
  ·exact dec (by omega)
  ·exact decF (by omega)
  ·exact decT (by omega)
  ·exact dec (by omega)
 have h6:Q.eqI=fun a b=>decide (a=b):=by
  funext a b
  cases a<;>cases b<;>simp only[Q.eqI,hb,Int.ofNat_eq_natCast,Int.negSucc_eq]
  ·exact dec (by omega)
  ·exact decF (by omega)
  ·exact decF (by omega)
  ·exact dec (by omega)
 have h7:Q.inR=fun k n=>decide (k.min≤n∧n≤k.max):=by
  funext k n
  have e1:IntKind.i64.min= -9223372036854775808:=by decide
  have e2:IntKind.i64.max=9223372036854775807:=by decide
  unfold Q.inR
  split
  ·simp only[hl,Int.ofNat_eq_natCast]
   exact dec (by rw[e1,e2];omega)
  ·simp only[hl,Int.negSucc_eq]
   exact dec (by rw[e1,e2];omega)
  ·rfl
 unfold Zqz
 rw[h1,h2,h3,h4,h5,h6,h7]
 rfl
end Go.Proofs.YtkeoeooghhjibaaGreatDoor
namespace Go.Proofs.YtkeoeooghhjibaaGreatDoor
inductive FTree where
 |leaf
 |node (l:FTree) (k:Nat) (v:AFunc) (r:FTree)
def FTree.find:FTree→Nat→Option AFunc
 | .leaf,_=>none
 | .node l k v r,f=>match Nat.beq f k with |true=>some v |false=>match Nat.blt f k with |true=>l.find f |false=>r.find f
def FTree.All(P:Program):FTree→Prop
 | .leaf=>True
 | .node l k v r=>l.All P∧Zas P k v=true∧r.All P
theorem FTree.ok{P:Program} :∀ {t:FTree},t.All P→ZbH P t.find
 | .leaf,_,f,af,h=>by cases h
 | .node l k v r,⟨h1,h2,h3⟩,f,af,h=>by
   simp only[FTree.find]at h
   split at h
   ·rename_i e
    have e:f=k:=Nat.eq_of_beq_eq_true e
    cases h;rw[e];exact h2
   ·split at h
    ·exact FTree.ok h1 f af h
    ·exact FTree.ok h3 f af h
end Go.Proofs.YtkeoeooghhjibaaGreatDoor
namespace Go.Proofs.YtkeoeooghhjibaaGreatDoor
section
variable {β:Type}
def fN(n:Nat)(k:Nat→β):β:=match n with |0=>k 0 |m+1=>k (Nat.succ m)
def fZ(z:Int)(k:Int→β):β:=match z with | .ofNat n=>fN n fun n=>k (.ofNat n) | .negSucc n=>fN n fun n=>k (.negSucc n)
def fB(b:Bool)(k:Bool→β):β:=match b with |true=>k true |false=>k false
def fL{α:Type}(fa:α→(α→β)→β):List α→(List α→β)→β
 |[],k=>k []
 |x::xs,k=>fa x fun x=>fL fa xs fun xs=>k (x::xs)
def ZHH(fa:AV→(AV→β)→β)(r:Row)(k:Row→β):β:=
 match r with
 | .ints kd l=>fL fZ l fun l=>k (.ints kd l)
 | .flts kd l=>fL fN l fun l=>k (.flts kd l)
 | .gen xs=>fL fa xs fun xs=>k (.gen xs)
 | .big sh xs=>fL fa xs fun xs=>k (.big sh xs)
 | .refs a p=>fL fN p fun p=>k (.refs a p)
def fA:Nat→AV→(AV→β)→β
 |0,v,k=>k v
 |d+1,v,k=>match v with
  | .int kd n=>fZ n fun n=>k (.int kd n)
  | .bool b=>fB b fun b=>k (.bool b)
  | .list r=>ZHH (fA d) r fun r=>k (.list r)
  | .agg r=>ZHH (fA d) r fun r=>k (.agg r)
  | .tup xs=>fL (fA d) xs fun xs=>k (.tup xs)
  | .fn f xs=>fL (fA d) xs fun xs=>k (.fn f xs)
  | .eptr u o=>fA d u fun u=>fN o fun o=>k (.eptr u o)
  | .ptr a i j o=>fN i fun i=>fN j fun j=>fN o fun o=>k (.ptr a i j o)
  | .row a i=>fN i fun i=>k (.row a i)
  | .slc a i j n c=>fN i fun i=>fN j fun j=>fN n fun n=>(match c with |none=>k (.slc a i j n none) |some c=>fN c fun c=>k (.slc a i j n (some c)))
  | .aslc a i j o n=>fN i fun i=>fN j fun j=>fN o fun o=>fN n fun n=>k (.aslc a i j o n)
  | .yld a i=>fN i fun i=>k (.yld a i)
  |v=>k v
def ZJw(b:Blk)(k:Blk→β):β:=
 match b with
 | .row e sz r=>ZHH (fA 3) r fun r=>k (.row e sz r)
 |b=>k b
def ZJ4(s:Sym)(k:Sym→β):β:=match s with
 | .no=>k .no
 | .ints e sz kd rows=>fL (fun l k=>fL fZ l k) rows fun rows=>k (.ints e sz kd rows)
 | .flts e sz kd rows=>fL (fun l k=>fL fN l k) rows fun rows=>k (.flts e sz kd rows)
 | .dfrs n=>fN n fun n=>k (.dfrs n)
def ZIA(f:Fam)(k:Fam→β):β:=match f with |⟨b,l,s⟩=>fN b fun b=>fL ZJw l fun l=>ZJ4 s fun s=>k ⟨b,l,s⟩
def Zx3(h:Zad)(k:Zad→β):β:=fL (fun p k=>match p with |(a,f)=>ZIA f fun f=>k (a,f)) h k
def ZLJ(e:List (Nat×AV))(k:List (Nat×AV)→β):β:=fL (fun p k=>match p with |(t,v)=>fA 4 v fun v=>k (t,v)) e k
def fO(o:Option (Nat×Nat))(k:Option (Nat×Nat)→β):β:=match o with |none=>k none |some p=>match p with |(a,i)=>fN a fun a=>fN i fun i=>k (some (a,i))
def fH{α:Type}(l:List α)(k:List α→β):β:=match l with |[]=>k [] |x::xs=>k (x::xs)
def fFr(f:AFrame)(k:AFrame→β):β:=
 match f with
 |⟨fn,N,env,todo,defs,rnd,ret,res⟩=>fN fn fun fn=>fN N fun N=>fH defs fun defs=>fO rnd fun rnd=>fB ret fun ret=>fH res fun res=>k ⟨fn,N,env,todo,defs,rnd,ret,res⟩
def ZuO(f:AFrame)(k:AFrame→β):β:=
 match f with
 |⟨fn,N,env,todo,defs,rnd,ret,res⟩=>ZLJ env fun env=>k ⟨fn,N,env,todo,defs,rnd,ret,res⟩
theorem ZfX(n:Nat)(k:Nat→β):fN n k=k n:=by cases n<;>rfl
theorem ZxG(z:Int)(k:Int→β):fZ z k=k z:=by cases z<;>simp only[fZ,ZfX]
theorem ZCK(b:Bool)(k:Bool→β):fB b k=k b:=by cases b<;>rfl
theorem Zfh{α:Type}{fa:α→(α→β)→β}(hf:∀x k,fa x k=k x):∀(l:List α) (k:List α→β),fL fa l k=k l
 |[],k=>rfl
 |x::xs,k=>by simp only[fL,hf];exact Zfh hf xs _
theorem Znk{fa:AV→(AV→β)→β}(hf:∀x k,fa x k=k x)(r:Row)(k:Row→β):ZHH fa r k=k r:=by
 cases r with
 |gen xs=>exact Zfh hf xs _
 |ints kd l=>exact Zfh ZxG l _
 |flts kd l=>exact Zfh ZfX l _
 |big sh xs=>exact Zfh hf xs _
 |refs a p=>exact Zfh ZfX p _
theorem Zy4:∀(d:Nat) (v:AV) (k:AV→β),fA d v k=k v
 |0,v,k=>rfl
 |d+1,v,k=>by
  have ih:=Zy4 d
  cases v with
  |int kd n=>simp only[fA,ZxG]
  |bool b=>simp only[fA,ZCK]
  |list r=>simp only[fA,Znk ih]
  |agg r=>simp only[fA,Znk ih]
  |tup xs=>simp only[fA,Zfh ih]
  |fn f xs=>simp only[fA,Zfh ih]
  |eptr u o=>simp only[fA,ih,ZfX]
  |ptr a i j o=>simp only[fA,ZfX]
  |row a i=>simp only[fA,ZfX]
  |slc a i j n c=>simp only[fA,ZfX];cases c<;>rfl
  |aslc a i j o n=>simp only[fA,ZfX]
  |yld a i=>simp only[fA,ZfX]
  |_=>rfl
theorem ZAI(b:Blk)(k:Blk→β):ZJw b k=k b:=by cases b<;>first |rfl |simp only[ZJw,Znk (Zy4 3)]
theorem Zzn(s:Sym)(k:Sym→β):ZJ4 s k=k s:=by
 cases s with
 |no=>rfl
 |ints e sz kd rows=>exact Zfh (fun l k=>Zfh ZxG l k) rows _
 |flts e sz kd rows=>exact Zfh (fun l k=>Zfh ZfX l k) rows _
 |dfrs n=>simp only[ZJ4,ZfX]
theorem Zw1(f:Fam)(k:Fam→β):ZIA f k=k f:=by obtain⟨b,l,s⟩:=f;simp only[ZIA,ZfX];rw[Zfh ZAI,Zzn]
theorem Zoo(h:Zad)(k:Zad→β):Zx3 h k=k h:=Zfh (fun p k=>by obtain⟨a,f⟩:=p;exact Zw1 f _) h k
theorem Zzp(e:List (Nat×AV))(k:List (Nat×AV)→β):ZLJ e k=k e:=Zfh (fun p k=>by obtain⟨t,v⟩:=p;exact Zy4 4 v _) e k
theorem ZKk(o:Option (Nat×Nat))(k:Option (Nat×Nat)→β):fO o k=k o:=by cases o<;>simp only[fO,ZfX]
theorem ZI6{α:Type}(l:List α)(k:List α→β):fH l k=k l:=by cases l<;>rfl
theorem ZEV(f:AFrame)(k:AFrame→β):fFr f k=k f:=by simp only[fFr,ZfX,ZI6,ZKk,ZCK]
theorem ZoI(f:AFrame)(k:AFrame→β):ZuO f k=k f:=by simp only[ZuO,Zzp]
end
def ZJl(acc:List Bool)(k:List Bool→ASt):ASt:=match acc.all (fun b=>b)with |true=>k [] |false=>k acc
def ZmJ(A:Ar)(T:Tab)(K:Con)(n:Nat):List Bool→AFrame→List AFrame→Zad→ASt:=
 Nat.rec (motive:=fun _=>List Bool→AFrame→List AFrame→Zad→ASt) (fun acc f fs h=>(acc,f,fs,h))
  (fun _ ih acc f fs h=>match ZhI A T K acc f fs h with
    |none=>(acc,f,fs,h)
    |some (acc',f',fs',h')=>fFr f' fun f'=>match ZBd f with
     |true=>ZJl acc' fun acc'=>ZuO f' fun f'=>Zx3 h' fun h'=>ih acc' f' fs' h'
     |false=>ih acc' f' fs' h') n
theorem ZpI{A:Ar}{T:Tab}{K:Con}{n:Nat}{acc:List Bool}{f:AFrame}{fs:List AFrame}{h:Zad} :ZmJ A T K (n+1) acc f fs h=match ZhI A T K acc f fs h with
 |none=>(acc,f,fs,h)
 |some (acc',f',fs',h')=>fFr f' fun f'=>match ZBd f with
  |true=>ZJl acc' fun acc'=>ZuO f' fun f'=>Zx3 h' fun h'=>ZmJ A T K n acc' f' fs' h'
  |false=>ZmJ A T K n acc' f' fs' h':=rfl
section
variable {C:Ctx}{T:Tab}{K:Con}{Q:List AFrame→Zad→Prop}
theorem Ze9(hfol:C.P.follows .mixedOrders=true)(hT:ZbH C.P T)(hK:ZfZ C.P K):∀(n:Nat) {acc:List Bool} {f:AFrame} {fs:List AFrame} {h:Zad},ZgD C Q acc f fs h (some (ZmJ std T K n acc f fs h))
 |0,acc,f,fs,h=>by
  intro acc' f' fs' h' he hb hq
  have he:some (acc,f,fs,h)=some (acc',f',fs',h'):=he
  simp only[zS,zP]at he
  obtain⟨rfl,rfl,rfl,rfl⟩:=he
  exact⟨hb,hq⟩
 |n+1,acc,f,fs,h=>by
  intro acc' f' fs' h' he hb hq
  rw[ZpI]at he
  split at he
  ·simp only[zS,zP]at he
   obtain⟨rfl,rfl,rfl,rfl⟩:=he
   exact⟨hb,hq⟩
  ·rename_i acc1 f1 fs1 h1 hs
   rw[ZEV]at he
   have go:∀acc2,((∀ b∈acc2,b=true)→∀b∈acc1,b=true)→some (ZmJ std T K n acc2 f1 fs1 h1)=some (acc',f',fs',h')→(∀b∈acc,b=true)∧Ev C (f::fs) h Q:=fun acc2 ha he=>by
    obtain⟨hb1,hq1⟩:=Ze9 hfol hT hK n _ _ _ _ he hb hq
    exact Zh7 hfol hT hK _ _ _ _ hs (ha hb1) hq1
   split at he
   ·unfold ZJl at he
    split at he
    ·rename_i hall
     simp only[ZoI,Zoo]at he
     exact go [] (fun _ b hb=>by have:=List.all_eq_true.1 hall b hb;simpa using this) he
    ·simp only[ZoI,Zoo]at he
     exact go acc1 (fun h=>h) he
   ·exact go acc1 (fun h=>h) he
end
def ZKP(A:Ar)(T:Tab)(K:Con)(n:Nat)(f:FuncId)(args:zA):Option (Bool×AV×Option Fresh):=
 match Zam T f args with
 |none=>none
 |some af=>ZHR A f (ZmJ A T K n [] af [] [])
theorem ZqA{P:Program}{T:Tab}{K:Con}(hfol:P.follows .mixedOrders=true)(hT:ZbH P T)(hK:ZfZ P K){n:Nat} :ZfZ P (ZKP std T K n):=fun f args r fr h=>by
 unfold ZKP at h
 split at h
 ·cases h
 ·rename_i af haf
  obtain⟨acc,g,h',hs,hacc,hfin⟩:=ZmL h
  refine Zg1 hT haf (fun w okA cs=>?_)
  refine(Ze9 (C:=(Ctx.of P w okA cs)) hfol hT hK n (Q:=Zco f r fr) acc g [] h' (by rw[hs]) (fun b hb=>?_) (.now (by simp) hfin)).2
  have:=List.all_eq_true.1 hacc b hb
  simpa using this
end Go.Proofs.YtkeoeooghhjibaaGreatDoor
namespace Go.Proofs.YtkeoeooghhjibaaGreatDoor
def eqL{α:Type}(f:α→α→Bool):List α→List α→Bool
 |[],[]=>true
 |x::xs,y::ys=>match f x y with |true=>eqL f xs ys |false=>false
 |_,_=>false
def eqZ:Int→Int→Bool
 | .ofNat a, .ofNat b=>Nat.beq a b
 | .negSucc a, .negSucc b=>Nat.beq a b
 |_,_=>false
def ZF1:IntKind→IntKind→Bool
 | .i64, .i64=>true
 |k,k'=>decide (k=k')
def Zs7(f:AV→AV→Bool):Row→Row→Bool
 | .ints k l, .ints k' l'=>match ZF1 k k' with |true=>eqL eqZ l l' |false=>false
 | .flts k l, .flts k' l'=>(match decide (k=k')with |true=>eqL Nat.beq l l' |false=>false)
 | .gen xs, .gen ys=>eqL f xs ys
 | .big s xs, .big t ys=>(match Zb6 s t with |true=>eqL f xs ys |false=>false)
 |_,_=>false
def eqV:Nat→Value→Value→Bool
 |0,_,_=>false
 |d+1,x,y=>match x,y with
  | .int k a, .int k' b=>(match eqZ a b with |true=>ZF1 k k' |false=>false)
  | .agg ⟨l⟩, .agg ⟨m⟩=>eqL (eqV d) l m
  | .func (.func f) ⟨l⟩ ⟨[]⟩, .func (.func g) ⟨m⟩ ⟨[]⟩=>(match Nat.beq f g with |true=>eqL (eqV d) l m |false=>false)
  |_,_=>false
def eqU(a b:UInt8):Bool:=Nat.beq a.toNat b.toNat
theorem ZDe(a b:UInt8)(h:eqU a b=true):a=b:=UInt8.toNat.inj (Nat.eq_of_beq_eq_true h)
def eqA:Nat→AV→AV→Bool
 |0,_,_=>false
 |d+1,x,y=>match x,y with
  | .int k a, .int k' b=>(match eqZ a b with |true=>ZF1 k k' |false=>false)
  | .bool a, .bool b=>a==b
  | .flt k a, .flt k' b=>(match Nat.beq a b with |true=>decide (k=k') |false=>false)
  | .nils, .nils=>true
  | .str a, .str b=>eqL eqU a b
  | .tup r, .tup s=>eqL (eqA d) r s
  | .val v, .val u=>eqV 4 v u
  | .list r, .list s=>Zs7 (eqA d) r s
  | .agg r, .agg s=>Zs7 (eqA d) r s
  | .fn f xs, .fn g ys=>(match Nat.beq f g with |true=>eqL (eqA d) xs ys |false=>false)
  | .eptr u o, .eptr v q=>(match Nat.beq o q with |true=>eqA d u v |false=>false)
  |_,_=>false
theorem ZdN{α:Type}{f:α→α→Bool}(hf:∀x y,f x y=true→x=y):∀ {l m:List α},eqL f l m=true→l=m
 |[],[],_=>rfl
 |x::xs,y::ys,h=>by
  simp only[eqL]at h
  split at h
  ·rename_i e;rw[hf _ _ e,ZdN hf h]
  ·cases h
 |[],_::_,h=>by cases h
 |_::_,[],h=>by cases h
theorem Zr4{a b:Int}(h:eqZ a b=true):a=b:=by
 cases a<;>cases b<;>simp only[eqZ,Bool.false_eq_true]at h
 ·rw[Nat.eq_of_beq_eq_true h]
 ·rw[Nat.eq_of_beq_eq_true h]
theorem Znq{a b:IntKind}(h:ZF1 a b=true):a=b:=by
 unfold ZF1 at h
 split at h
 ·rfl
 ·simpa using h
theorem Zk5{f:AV→AV→Bool}(hf:∀x y,f x y=true→x=y){r s:Row}(h:Zs7 f r s=true):r=s:=by
 cases r<;>cases s<;>simp only[Zs7,Bool.false_eq_true]at h
 ·rw[ZdN hf h]
 ·split at h
  ·rename_i e;rw[Znq e,ZdN (fun _ _=>Zr4) h]
  ·cases h
 ·split at h
  ·rename_i e;rw[of_decide_eq_true e,ZdN (fun _ _=>Nat.eq_of_beq_eq_true) h]
  ·cases h
 ·split at h
  ·rename_i e;rw[Zf2 e,ZdN hf h]
  ·cases h
theorem Zv3:∀ {d:Nat} {x y:Value},eqV d x y=true→x=y
 |0,_,_,h=>by cases h
 |d+1,x,y,h=>by
  have ih:∀x y,eqV d x y=true→x=y:=fun _ _ h=>Zv3 h
  unfold eqV at h
  split at h
  ·split at h
   ·rename_i e;rw[Zr4 e,Znq h]
   ·cases h
  ·rw[ZdN ih h]
  ·split at h
   ·rename_i e
    have e:=Nat.eq_of_beq_eq_true e
    rw[e,ZdN ih h]
   ·cases h
  ·cases h
theorem Zmp:∀ {d:Nat} {x y:AV},eqA d x y=true→x=y
 |0,_,_,h=>by cases h
 |d+1,x,y,h=>by
  have ih:∀x y,eqA d x y=true→x=y:=fun _ _ h=>Zmp h
  unfold eqA at h
  split at h
  ·split at h
   ·rename_i e;rw[Zr4 e,Znq h]
   ·cases h
  ·rename_i a b;have:a=b:=by simpa using h
   rw[this]
  ·split at h
   ·rename_i e;rw[Nat.eq_of_beq_eq_true e,of_decide_eq_true h]
   ·cases h
  ·rfl
  ·rw[ZdN ZDe h]
  ·rw[ZdN ih h]
  ·rw[Zv3 h]
  ·rw[Zk5 ih h]
  ·rw[Zk5 ih h]
  ·split at h
   ·rename_i e
    have e:=Nat.eq_of_beq_eq_true e
    rw[e,ZdN ih h]
   ·cases h
  ·split at h
   ·rename_i e;rw[Nat.eq_of_beq_eq_true e,Zmp h]
   ·cases h
  ·cases h
structure Fact where
 f:FuncId
 args:zA
 r:AV
 fr:Option Fresh
def ZBI:List Fact→Con
 |[],_,_=>none
 |q::qs,f,args=>match Nat.beq q.f f with
  |true=>(match eqL (eqA 8) q.args args with |true=>some (true,q.r,q.fr) |false=>ZBI qs f args)
  |false=>ZBI qs f args
def Zll(P:Program):List Fact→Prop
 |[]=>True
 |q::qs=>Zan P q.f q.args q.r q.fr∧Zll P qs
theorem Zk3{P:Program} :∀ {l:List Fact},Zll P l→ZfZ P (ZBI l)
 |[],_,f,args,r,fr,h=>by cases h
 |q::qs,⟨h1,h2⟩,f,args,r,fr,h=>by
  simp only[ZBI]at h
  split at h
  ·rename_i e
   have e:q.f=f:=Nat.eq_of_beq_eq_true e
   split at h
   ·rename_i e2
    have e2:=ZdN (fun _ _=>Zmp) e2
    simp only[zS,zP,true_and]at h
    obtain⟨rfl,rfl⟩:=h
    rw[←e,←e2];exact h1
   ·exact Zk3 h2 f args r fr h
  ·exact Zk3 h2 f args r fr h
theorem Zaf{P:Program}{T:Tab}(hfol:P.follows .mixedOrders=true)(hT:ZbH P T){l:List Fact}(hl:Zll P l){n:Nat}{f:FuncId}{args:zA}{r:AV}{fr:Option Fresh}
 (h:ZKP Zqz T (ZBI l) n f args=some (true,r,fr)):Zan P f args r fr:=by
 rw[Zog]at h
 exact ZqA hfol hT (Zk3 hl) f args r fr h
end Go.Proofs.YtkeoeooghhjibaaGreatDoor
namespace Go.Proofs.YtkeoeooghhjibaaGreatDoor
def AllT:List Bool→Prop
 |[]=>True
 |b::l=>b=true∧AllT l
theorem AllT.mem:∀ {l:List Bool},AllT l→∀b∈l,b=true
 |_::_,⟨h1,h2⟩,b,hb=>by
  rcases List.mem_cons.1 hb with e |e
  ·rw[e];exact h1
  ·exact AllT.mem h2 b e
def oN(d:Nat)(k:OpK):AOp:=⟨some d,none,k⟩
def mV(d s:Nat):AOp:=⟨some d,none, .mov (.t s)⟩
def cI(n:Int):Opd:=.c (.int .i64 n)
end Go.Proofs.YtkeoeooghhjibaaGreatDoor
