/- The abstract values of the machine, its code and memory, and how values stand to the model's. No condition. -/
import Derived.Test.YtkeoeooghhjibaaGreatDoorXga
import Derived.WalkKit
namespace Go.Proofs.YtkeoeooghhjibaaGreatDoor
open Go.RowKit (Below)
def ZkW(c:Nat):Bool:=Nat.beq c 0
theorem Zdt{c:Nat}(h:ZkW c=false):c≠0:=by rintro rfl;cases h
inductive Sh where
 |int (k:IntKind)
 |bool
 |str
 |flt (k:FloatKind)
 |ints (k:IntKind)
 |big (s:Sh)
 |agg (ss:List Sh)
mutual
inductive AV where
 |int (k:IntKind) (n:Int)
 |bool (b:Bool)
 |str (s:List UInt8)
 |flt (k:FloatKind) (b:Nat)
 |val (v:Value)
 |nils
 |list (r:Row)
 |eptr (x:AV) (off:Nat)
 |agg (r:Row)
 |tup (xs:List AV)
 |fn (f:FuncId) (caps:List AV)
 |mth (f:FuncId) (x:AV)
 |ptr (a i k off:Nat)
 |row (a i:Nat)
 |slc (a i k n:Nat) (cap:Option Nat)
 |aslc (a i k off n:Nat)
 |yld (a i:Nat)
 |mp (a i:Nat)
 |err (b:Bool)
 |emp
 |und
 |top
inductive Row where
 |gen (xs:List AV)
 |ints (k:IntKind) (l:zI)
 |flts (k:FloatKind) (l:List Nat)
 |big (sh:Sh) (xs:List AV)
 |refs (a:Nat) (p:List Nat)
end
def AV.toI:AV→Int
 | .int _ n=>n
 |_=>0
def AV.toB:AV→Bool
 | .bool b=>b
 |_=>false
def AV.toS:AV→List UInt8
 | .str s=>s
 |_=>[]
def AV.toF:AV→Nat
 | .flt _ b=>b
 |_=>0
def AV.toIs:AV→zI
 | .list (.ints _ l)=>l
 |_=>[]
def AV.toL:AV→List AV
 | .list (.big _ xs)=>xs
 |_=>[]
def AV.cellAt(v:AV)(i:Nat):AV:=match v with | .agg (.gen xs)=>xs.getD i .top |_=>.top
def Sh.view1:Sh→AV→AV
 | .int k,v=>.int k v.toI
 | .bool,v=>.bool v.toB
 | .str,v=>.str v.toS
 | .flt k,v=>.flt k v.toF
 | .ints k,v=>.list (.ints k v.toIs)
 | .big s,v=>.list (.big s v.toL)
 | .agg _,_=>.top
def Zfa:List Sh→Nat→AV→List AV
 |[],_,_=>[]
 |s::ss,i,v=>s.view1 (v.cellAt i)::Zfa ss (i+1) v
def Sh.view:Sh→AV→AV
 | .agg ss,v=>.agg (.gen (Zfa ss 0 v))
 |s,v=>s.view1 v
def Sh.len:Sh→Nat
 | .agg ss=>ss.length
 |_=>1
def Sh.single:Sh→Bool
 | .agg _=>false
 |_=>true
def Sh.solid1:Sh→Bool
 | .ints _=>false
 | .big _=>false
 |_=>true
def Sh.solid:Sh→Bool
 | .agg ss=>ss.all Sh.solid1
 |s=>s.solid1
def Row.elems:Row→List AV
 | .gen xs=>xs
 | .ints k l=>l.map (.int k)
 | .flts k l=>l.map (.flt k)
 | .big sh xs=>xs.map sh.view
 | .refs a p=>p.map (.row a)
def AV.flat:AV→List AV
 | .agg r=>r.elems
 |v=>[v]
def Zai(xs:List AV):List AV:=xs.flatMap AV.flat
def AV.single:AV→Bool
 | .agg _=>false
 |_=>true
def AV.bx:AV→Bool
 | .top=>false
 | .und=>false
 | .tup _=>false
 | .val v=>v.oneCell'
 |_=>true
mutual
def AV.pure:AV→Bool
 | .ptr _ _ _ _=>false
 | .row _ _=>false
 | .slc _ _ _ _ _=>false
 | .aslc _ _ _ _ _=>false
 | .yld _ _=>false
 | .mp _ _=>false
 | .agg r=>Row.pure r
 | .tup xs=>AV.pureL xs
 | .fn _ xs=>AV.pureL xs
 | .mth _ x=>AV.pure x
 |_=>true
def AV.pureL:List AV→Bool
 |[]=>true
 |x::xs=>AV.pure x&&AV.pureL xs
def Row.pure:Row→Bool
 | .gen xs=>AV.pureL xs
 | .ints _ _=>true
 | .flts _ _=>true
 | .big _ _=>true
 | .refs _ _=>false
end
def Row.none:Row→Bool
 | .gen xs=>xs.isEmpty
 | .ints _ l=>l.isEmpty
 | .flts _ l=>l.isEmpty
 | .big _ xs=>xs.isEmpty
 | .refs _ p=>p.isEmpty
mutual
def AV.solid:AV→Bool
 | .list r=>r.none
 | .eptr _ _=>false
 | .agg r=>Row.solid r
 | .tup xs=>AV.solidL xs
 | .fn _ xs=>AV.solidL xs
 | .mth _ x=>AV.solid x
 |_=>true
def AV.solidL:List AV→Bool
 |[]=>true
 |x::xs=>AV.solid x&&AV.solidL xs
def Row.solid:Row→Bool
 | .gen xs=>AV.solidL xs
 | .ints _ _=>true
 | .flts _ _=>true
 | .big sh _=>sh.solid
 | .refs _ _=>true
end
inductive Opd where
 |t (n:Nat)
 |c (av:AV)
 |s (n:Nat)
inductive Sym where
 |no
 |ints (e:TypeId) (sz:Nat) (k:IntKind) (rows:List zI)
 |flts (e:TypeId) (sz:Nat) (k:FloatKind) (rows:List (List Nat))
 |dfrs (n:Nat)
inductive Lf where
 |i
 |b
 |s
inductive OpK where
 |mov (x:Opd)
 |pick (c x y:Opd)
 |bin (op:BinOp) (x y:Opd)
 |binw (op:BinOp) (x y:Opd)
 |beq (ne:Bool) (x y:Opd)
 |isnil (ne:Bool) (x:Opd)
 |aeq (ne:Bool) (ls:List Lf) (x y:Opd)
 |capl (x:Opd)
 |idxa (ln sz:Nat) (x i:Opd)
 |mkmth (f:FuncId) (x:Opd)
 |not (x:Opd)
 |neg (x:Opd)
 |conv (k:IntKind) (x:Opd)
 |i2f (k:FloatKind) (x:Opd)
 |f2i (k:IntKind) (x:Opd)
 |len (x:Opd)
 |slen (x:Opd)
 |mm (mx:Bool) (x y:Opd)
 |box (a:Nat) (e:TypeId) (x:Opd)
 |alloc (a:Nat) (e:TypeId) (z:AV)
 |load (ag:Bool) (n:Nat) (p:Opd)
 |store (n:Nat) (p x:Opd)
 |stores (n:Nat) (p x:Opd)
 |faddr (off:Nat) (p:Opd)
 |iaddr (sz:Nat) (x i:Opd)
 |aaddr (ln sz:Nat) (p i:Opd)
 |idx (ln:Nat) (x i:Opd)
 |sidx (x i:Opd)
 |fld (ag:Bool) (off n:Nat) (x:Opd)
 |build (z:Row) (parts:List (Nat×Nat×Opd))
 |bslice (a:Nat) (e:TypeId) (sz:Nat) (parts:List Opd)
 |mkslice (a:Nat) (e:TypeId) (sz:Nat) (z:AV) (ln:Opd)
 |mklst (a:Nat) (e:TypeId) (sz:Nat) (z:AV) (ln:Opd)
 |slc (sz:Nat) (x:Opd) (lo hi mx:Option Opd)
 |asl (ln:Nat) (p:Opd) (lo hi:Option Opd)
 |sslc (x:Opd) (lo hi:Option Opd)
 |append (a:Nat) (e:TypeId) (sz:Nat) (x y:Opd)
 |appz (a:Nat) (e:TypeId) (sz:Nat) (z:AV) (x ln:Opd)
 |copy (sz:Nat) (x y:Opd)
 |clr (e:TypeId) (sz:Nat) (z:AV) (x:Opd)
 |s2a (n:Nat) (x:Opd)
 |s2b (x:Opd)
 |b2s (x:Opd)
 |emptyl
 |pnil (ne:Bool) (x:Opd)
 |inil (ne:Bool) (x:Opd)
 |app0 (sz:Nat) (x y:Opd)
 |mkmap (a:Nat)
 |mkrefs (b:Nat) (e:TypeId) (sz:Nat) (a:Nat) (s:Sym) (ln:Opd)
 |mlook (x k:Opd)
 |mupd (x k:Opd)
 |nilck (x:Opd)
 |ext (i:Nat) (x:Opd)
 |mkfn (f:FuncId) (caps:List Opd)
 |ncall (m:Bool) (a:Nat) (f:FuncId) (args:List Opd)
 |ncallv (m:Bool) (a:Nat) (x:Opd) (args:List Opd)
 |icall (f:FuncId) (args:List Opd)
 |icallv (x:Opd) (args:List Opd)
structure AOp where
 d:Option Nat
 g:Option (Nat×Bool)
 k:OpK
inductive Ghost where
 |keep (ts:List Nat)
 |drop (a:Nat)
 |frz (t:Nat)
 |own (t a:Nat) (e:TypeId) (sz:Nat) (r:Row)
 |ownb (t off a:Nat) (e:TypeId) (sz:Nat) (r:Row)
 |ownc (t a:Nat) (e:TypeId) (sz:Nat) (r:Row)
 |sym (a:Nat) (s:Sym)
inductive ACode where
 |skip
 |reg (draw:Option (List (Nat×Nat))) (ops:List AOp)
 |seq (a b:ACode)
 |cond (c:Opd) (a b:ACode)
 |block (id:Nat) (b:ACode)
 |loop (b:ACode)
 |rf (a:Nat) (f:Opd) (params:List Nat) (asg body:ACode)
 |junk
 |exit (id:Nat)
 |ret
 |gh (gs:List Ghost) (c:ACode)
inductive RSt where
 |ready
 |busy
 |done (j:ACode)
structure ALoop where
 st:RSt
 fn:FuncId
 N:Nat
 env:List (Nat×AV)
 params:List Nat
 asg:ACode
 body:ACode
inductive Blk where
 |row (e:TypeId) (sz:Nat) (r:Row)
 |lp (l:ALoop)
 |dfr
 |mp (ks:List AV)
 |dead
def Blk.tag:Blk→Option (Nat×Nat)
 | .row _ sz r=>some (sz,r.elems.length)
 | .lp _=>some (0,0)
 | .dfr=>some (0,0)
 | .mp _=>some (0,0)
 | .dead=>.none
structure Fam where
 base:Nat
 blks:List Blk
 sym:Sym:=.no
def Fam.xs(f:Fam):List Blk:=match f.sym with
 | .no=>f.blks
 | .ints e sz k rows=>rows.map fun l=>.row e sz (.ints k l)
 | .flts e sz k rows=>rows.map fun l=>.row e sz (.flts k l)
 | .dfrs n=>List.replicate n .dfr
def Zvw(e:TypeId)(sz:Nat)(k:IntKind):Blk→Option zI
 | .row e' sz' (.ints k' l)=>match Nat.beq e e'&&(Nat.beq sz sz'&&decide (k=k'))with |true=>some l |false=>none
 |_=>none
theorem ZjW{e:TypeId}{sz:Nat}{k:IntKind}{b:Blk}{l:zI}(h:Zvw e sz k b=some l):b=.row e sz (.ints k l):=by
 unfold Zvw at h
 split at h
 ·split at h
  ·rename_i hb
   simp only[Bool.and_eq_true,decide_eq_true_eq]at hb
   obtain⟨h1,h2,rfl⟩:=hb
   have h1:=Nat.eq_of_beq_eq_true h1
   have h2:=Nat.eq_of_beq_eq_true h2
   subst h1;subst h2
   cases h;rfl
  ·cases h
 ·cases h
def Zut(e:TypeId)(sz:Nat)(k:FloatKind):Blk→Option (List Nat)
 | .row e' sz' (.flts k' l)=>match Nat.beq e e'&&(Nat.beq sz sz'&&decide (k=k'))with |true=>some l |false=>none
 |_=>none
theorem Zky{e:TypeId}{sz:Nat}{k:FloatKind}{b:Blk}{l:List Nat}(h:Zut e sz k b=some l):b=.row e sz (.flts k l):=by
 unfold Zut at h
 split at h
 ·split at h
  ·rename_i hb
   simp only[Bool.and_eq_true,decide_eq_true_eq]at hb
   obtain⟨h1,h2,rfl⟩:=hb
   have h1:=Nat.eq_of_beq_eq_true h1
   have h2:=Nat.eq_of_beq_eq_true h2
   subst h1;subst h2
   cases h;rfl
  ·cases h
 ·cases h
def Zup(f:Fam)(b:Blk):Fam:=match f.sym with
 | .no=>⟨f.base,f.blks++[b], .no⟩
 | .ints e sz k rows=>match Zvw e sz k b with
   |some l=>⟨f.base,f.blks, .ints e sz k (rows++[l])⟩
   |none=>⟨f.base,f.xs++[b], .no⟩
 | .flts e sz k rows=>match Zut e sz k b with
   |some l=>⟨f.base,f.blks, .flts e sz k (rows++[l])⟩
   |none=>⟨f.base,f.xs++[b], .no⟩
 | .dfrs n=>match b with
   | .dfr=>⟨f.base,f.blks, .dfrs (n+1)⟩
   |_=>⟨f.base,f.xs++[b], .no⟩
def setF(f:Fam)(i:Nat)(b:Blk):Fam:=match f.sym with
 | .no=>⟨f.base,f.blks.set i b, .no⟩
 | .ints e sz k rows=>match Zvw e sz k b with
   |some l=>⟨f.base,f.blks, .ints e sz k (rows.set i l)⟩
   |none=>⟨f.base,f.xs.set i b, .no⟩
 | .flts e sz k rows=>match Zut e sz k b with
   |some l=>⟨f.base,f.blks, .flts e sz k (rows.set i l)⟩
   |none=>⟨f.base,f.xs.set i b, .no⟩
 | .dfrs _=>⟨f.base,f.xs.set i b, .no⟩
theorem Zla(f:Fam)(b:Blk):(Zup f b).xs=f.xs++[b]∧(Zup f b).base=f.base:=by
 unfold Zup
 split
 ·rename_i h;simp[Fam.xs,h]
 ·rename_i e sz k rows h
  split
  ·rename_i l hl
   rw[ZjW hl]
   simp[Fam.xs,h]
  ·simp[Fam.xs,h]
 ·rename_i e sz k rows h
  split
  ·rename_i l hl
   rw[Zky hl]
   simp[Fam.xs,h]
  ·simp[Fam.xs,h]
 ·rename_i n h
  split
  ·simp only[Fam.xs,h,List.replicate_succ',and_self]
  ·simp[Fam.xs,h]
theorem Znx(f:Fam)(i:Nat)(b:Blk):(setF f i b).xs=f.xs.set i b∧(setF f i b).base=f.base:=by
 unfold setF
 split
 ·rename_i h;simp[Fam.xs,h]
 ·rename_i e sz k rows h
  split
  ·rename_i l hl
   rw[ZjW hl]
   simp[Fam.xs,h,List.map_set]
  ·simp[Fam.xs,h]
 ·rename_i e sz k rows h
  split
  ·rename_i l hl
   rw[Zky hl]
   simp[Fam.xs,h,List.map_set]
  ·simp[Fam.xs,h]
 ·rename_i n h
  simp[Fam.xs,h]
abbrev Zad:=List (Nat×Fam)
def ZaP{α:Type} :List (Nat×α)→Nat→Option α
 |[],_=>none
 |(i,x)::l,t=>match Nat.beq i t with |true=>some x |false=>ZaP l t
def Zdz{α:Type} :List (Nat×α)→Nat→α→List (Nat×α)
 |[],t,y=>[(t,y)]
 |(i,x)::l,t,y=>match Nat.beq i t with |true=>(i,y)::l |false=>match Nat.blt t i with |true=>(t,y)::(i,x)::l |false=>(i,x)::Zdz l t y
theorem Zci{α:Type}(l:List (Nat×α))(t u:Nat)(y:α):ZaP (Zdz l t y) u=if t=u then some y else ZaP l u:=by
 have hb:∀a b:Nat,Nat.beq a b=decide (a=b):=fun a b=>by rw[Bool.eq_iff_iff];simp
 induction l with
 |nil=>simp only[Zdz,ZaP,hb];by_cases h:t=u<;>simp[h]
 |cons p l ih=>
  obtain⟨i,x⟩:=p
  by_cases h:i=t
  ·subst h;by_cases h2:i=u<;>simp[Zdz,ZaP,hb,h2]
  ·cases h3:Nat.blt t i with
   |true=>
    simp only[Zdz,hb,h,h3,decide_false,ZaP]
    by_cases h2:t=u<;>simp[h2]
   |false=>
    simp only[Zdz,hb,h,h3,decide_false,ZaP,ih]
    by_cases h2:i=u
    ·subst h2;simp[Ne.symm h]
    ·simp[h2]
def fam(h:Zad)(a:Nat):Fam:=(ZaP h a).getD ⟨0,[], .no⟩
def nxt(h:Zad)(a:Nat):Nat:=(fam h a).base+(fam h a).xs.length
def Fam.get(f:Fam)(i:Nat):Blk:=match Nat.blt i f.base with |true=>.dead |false=>f.xs.getD (i-f.base) .dead
def blk(h:Zad)(a i:Nat):Blk:=(fam h a).get i
def Zal(h:Zad)(a:Nat)(b:Blk):Zad:=Zdz h a (Zup (fam h a) b)
def ZaY(h:Zad)(a i:Nat)(b:Blk):Zad:=Zdz h a (setF (fam h a) (i-(fam h a).base) b)
def ZkV(h:Zad)(a:Nat):Zad:=Zdz h a ⟨nxt h a,[], .no⟩
def ZnQ:Fam→Bool
 |⟨0,[], .no⟩=>true
 |_=>false
def ZBD:Sym→Option (TypeId×Nat×Row)
 | .ints e sz k []=>some (e,sz, .ints k [])
 | .flts e sz k []=>some (e,sz, .flts k [])
 |_=>none
def Ztk:Sym→Bool
 | .dfrs 0=>true
 |s=>(ZBD s).isSome
def ZgF(h:Zad)(a:Nat)(s:Sym):Zad:=Zdz h a ⟨0,[],s⟩
theorem ZbR(h:Zad)(a b:Nat)(f:Fam):fam (Zdz h a f) b=if a=b then f else fam h b:=by
 unfold fam;rw[Zci];split<;>rfl
theorem Zbu{i b:Nat}(h:b≤i):Nat.blt i b=false:=by
 cases hb:Nat.blt i b with
 |false=>rfl
 |true=>rw[Nat.blt_eq]at hb;omega
theorem ZmF{h:Zad}{a i:Nat}(hi:nxt h a≤i):blk h a i=.dead:=by
 unfold blk Fam.get
 unfold nxt at hi
 rw[Zbu (by omega)]
 simp[List.getD_eq_getElem?_getD,List.getElem?_eq_none (show (fam h a).xs.length≤i-(fam h a).base by omega)]
theorem Zof{h:Zad}{a i:Nat}(hl:blk h a i≠ .dead):i<nxt h a:=by
 rcases Nat.lt_or_ge i (nxt h a)with h1 |h1
 ·exact h1
 ·exact absurd (ZmF h1) hl
theorem ZtM{h:Zad}{a i:Nat}(hl:blk h a i≠ .dead):(fam h a).base≤i∧i-(fam h a).base<(fam h a).xs.length:=by
 have h1:=Zof hl
 unfold blk Fam.get at hl
 split at hl
 ·exact absurd rfl hl
 ·rename_i hb
  have:¬i<(fam h a).base:=fun h2=>by rw[←Nat.blt_eq]at h2;rw[h2]at hb;cases hb
  unfold nxt at h1;omega
theorem Zcs(h:Zad)(a b:Nat)(x:Blk):nxt (Zal h a x) b=if a=b then nxt h a+1 else nxt h b:=by
 unfold nxt Zal;rw[ZbR]
 by_cases hab:a=b
 ·subst hab;simp[Zla];omega
 ·simp[hab]
theorem Za3(h:Zad)(a b i:Nat)(x:Blk):blk (Zal h a x) b i=if a=b∧i=nxt h a then x else blk h b i:=by
 unfold blk Zal;rw[ZbR]
 by_cases hab:a=b
 ·subst hab
  simp only[if_true,true_and]
  unfold Fam.get nxt
  rw[(Zla _ _).1,(Zla _ _).2]
  by_cases hb:i<(fam h a).base
  ·have hb':Nat.blt i (fam h a).base=true:=by rw[Nat.blt_eq];exact hb
   simp only[hb']
   rw[if_neg (by omega)]
  ·simp only[Zbu (Nat.le_of_not_lt hb)]
   by_cases hi:i=(fam h a).base+(fam h a).xs.length
   ·subst hi;simp[List.getD_eq_getElem?_getD]
   ·rw[if_neg hi]
    simp only[List.getD_eq_getElem?_getD]
    by_cases hlt:i-(fam h a).base<(fam h a).xs.length
    ·rw[List.getElem?_append_left hlt]
    ·rw[List.getElem?_eq_none (by simp;omega),List.getElem?_eq_none (by omega)]
 ·simp[hab]
theorem ZdJ(h:Zad)(a i b:Nat)(x:Blk):nxt (ZaY h a i x) b=nxt h b:=by
 unfold nxt ZaY;rw[ZbR]
 by_cases hab:a=b
 ·subst hab;simp[Znx]
 ·simp[hab]
theorem Zcm{h:Zad}{a i:Nat}(hl:blk h a i≠ .dead)(b j:Nat)(x:Blk):blk (ZaY h a i x) b j=if a=b∧i=j then x else blk h b j:=by
 obtain⟨h1,h2⟩:=ZtM hl
 unfold blk ZaY;rw[ZbR]
 by_cases hab:a=b
 ·subst hab
  simp only[if_true,true_and]
  unfold Fam.get
  rw[(Znx _ _ _).1,(Znx _ _ _).2]
  by_cases hb:j<(fam h a).base
  ·have hb':Nat.blt j (fam h a).base=true:=by rw[Nat.blt_eq];exact hb
   simp only[hb']
   rw[if_neg (by omega)]
  ·simp only[Zbu (Nat.le_of_not_lt hb),List.getD_eq_getElem?_getD]
   by_cases hij:i=j
   ·subst hij
    rw[if_pos rfl,List.getElem?_set_self h2];rfl
   ·rw[if_neg hij,List.getElem?_set_ne (by omega)]
 ·simp[hab]
theorem Zpj(h:Zad)(a b:Nat):nxt (ZkV h a) b=nxt h b:=by
 unfold ZkV
 by_cases hab:a=b
 ·subst hab;unfold nxt;rw[ZbR];simp[Fam.xs]
 ·unfold nxt;rw[ZbR];simp[hab]
theorem Zor(h:Zad)(a b i:Nat):blk (ZkV h a) b i=if a=b then .dead else blk h b i:=by
 unfold blk ZkV;rw[ZbR]
 by_cases hab:a=b
 ·subst hab
  simp only[if_true]
  unfold Fam.get
  split
  ·rfl
  ·simp[Fam.xs]
 ·simp[hab]
theorem Zke{f:Fam}(h:ZnQ f=true):f=⟨0,[], .no⟩:=by
 unfold ZnQ at h;split at h
 ·rfl
 ·cases h
theorem Zin{s:Sym}{e sz:Nat}{r:Row}(h:ZBD s=some (e,sz,r)):(⟨0,[],s⟩:Fam).xs=[]∧r.elems=[]:=by
 unfold ZBD at h;split at h
 ·cases h;exact⟨rfl,rfl⟩
 ·cases h;exact⟨rfl,rfl⟩
 ·cases h
theorem Znv{s:Sym}(h:Ztk s=true):(⟨0,[],s⟩:Fam).xs=[]:=by
 unfold Ztk at h;split at h
 ·rfl
 ·cases hs:ZBD s with
  |none=>rw[hs]at h;cases h
  |some p=>obtain⟨e,sz,r⟩:=p;exact(Zin hs).1
theorem Zfr{h:Zad}{a:Nat}{s:Sym}(hn:ZnQ (fam h a)=true)(hs:(⟨0,[],s⟩:Fam).xs=[]):(∀b,nxt (ZgF h a s) b=nxt h b)∧∀b i,blk (ZgF h a s) b i=blk h b i:=by
 have hf:=Zke hn
 refine⟨fun b=>?_,fun b i=>?_⟩
 ·unfold nxt ZgF;rw[ZbR]
  by_cases hab:a=b
  ·subst hab;rw[if_pos rfl,hf,hs];rfl
  ·rw[if_neg hab]
 ·unfold blk ZgF;rw[ZbR]
  by_cases hab:a=b
  ·subst hab;rw[if_pos rfl,hf];unfold Fam.get;rw[hs];rfl
  ·rw[if_neg hab]
theorem ZoM{h:Zad}{a b:Nat}{s:Sym}{x:Blk}(hn:ZnQ (fam h a)=true)(hs:(⟨0,[],s⟩:Fam).xs=[])(hab:a≠b):nxt (ZgF h a s) a=0∧nxt (Zal (ZgF h a s) a x) b=nxt h b:=by
 obtain⟨o1,_⟩:=Zfr hn hs
 refine⟨?_,by rw[Zcs,if_neg hab,o1]⟩
 rw[o1];unfold nxt;rw[Zke hn];rfl
structure Lay where
 loc:Nat→Nat→Nat
 size:Nat→Nat→Nat
def Live(h:Zad)(L:Lay)(a i:Nat)(p:Nat→Nat×Nat→Prop):Prop:=i<nxt h a∧∀sz,(blk h a i).tag=some sz→p (L.loc a i) sz
def ZKZ(b:Bool)(v:Value):Prop:=match b with |true=>∃t p,v=.iface t p |false=>v=.nilIface
inductive Rel (w:World) (ok:Nat→Prop) (h:Zad) (L:Lay):AV→Value→Prop
 |int (k n):Rel w ok h L (.int k n) (.int k n)
 |bool (b):Rel w ok h L (.bool b) (.bool b)
 |str (s:List UInt8):Rel w ok h L (.str s) (.string ⟨s.toArray⟩)
 |flt (k b):Rel w ok h L (.flt k b) (.float k b)
 |val (v):Rel w ok h L (.val v) v
 |nils:Rel w ok h L .nils (.slice none 0 0)
 |nil (r:Row) (a c) (hr:r.elems=[]):Rel w ok h L (.list r) (.slice a 0 c)
 |list (r:Row) (xs:List AV) (hx:xs=r.elems) (ad:Addr) (n cap sz:Nat) (cs:List Value) (hb:ad.block<w.heap.size) (hok:ok ad.block) (hn:n=xs.length) (hcap:n≤cap)
   (hsz:∀x∈xs,x.flat.length=sz) (hl:cs.length=(Zai xs).length) (h1:∀v∈cs,v.oneCell'=true) (hc:∀(j:Nat) (v:Value),cs[j]? =some v→w.cell? (ad.add j)=some v)
   (hp:AV.pureL (Zai xs)=true)
   (hr:∀(j:Nat) (u:AV) (v:Value),(Zai xs)[j]? =some u→cs[j]? =some v→Rel w ok h L u v):Rel w ok h L (.list r) (.slice (some ad) n cap)
 |eptr (x:AV) (off:Nat) (ad:Addr) (cs:List Value) (hs:ad.spot=none) (hb:ad.block<w.heap.size) (hok:ok ad.block) (hl:cs.length=x.flat.length) (h1:∀v∈cs,v.oneCell'=true)
   (hc:∀(j:Nat) (v:Value),cs[j]? =some v→w.cell? (ad.add j)=some v) (hp:AV.pureL x.flat=true) (hr:∀(j:Nat) (u:AV) (v:Value),x.flat[j]? =some u→cs[j]? =some v→Rel w ok h L u v):
   Rel w ok h L (.eptr x off) (.pointer (some (ad.add off)))
 |agg (r:Row) (xs:List AV) (hx:xs=r.elems) (vs:Array Value) (hl:xs.length=vs.size) (h1:∀v∈vs,v.oneCell'=true) (hr:∀(j:Nat) (u:AV) (v:Value),xs[j]? =some u→vs[j]? =some v→Rel w ok h L u v):Rel w ok h L (.agg r) (.agg vs)
 |tup (xs:List AV) (vs:Array Value) (hl:xs.length=vs.size) (hr:∀(j:Nat) (u:AV) (v:Value),xs[j]? =some u→vs[j]? =some v→Rel w ok h L u v):Rel w ok h L (.tup xs) (.tuple vs)
 |fn (f:FuncId) (xs:List AV) (vs:Array Value) (hl:xs.length=vs.size) (hr:∀(j:Nat) (u:AV) (v:Value),xs[j]? =some u→vs[j]? =some v→Rel w ok h L u v):Rel w ok h L (.fn f xs) (.func (.func f) #[] vs)
 |mth (f:FuncId) (x:AV) (v:Value) (hr:Rel w ok h L x v):Rel w ok h L (.mth f x) (.func (.func f) #[v] #[])
 |ptr (a i k off g o:Nat) (hl:Live h L a i fun l sz=>g=l∧o=k*sz.1+off):Rel w ok h L (.ptr a i k off) (.pointer (some ⟨g,o,none⟩))
 |row (a i:Nat) (ad:Option Addr) (n c:Nat) (hn:n≤c) (hl:Live h L a i fun l sz=>(c≠0→ad=some ⟨l,0,none⟩)∧n=sz.2∧c=L.size a i):Rel w ok h L (.row a i) (.slice ad n c)
 |slc (a i k n:Nat) (cap:Option Nat) (ad:Option Addr) (c:Nat) (hn:n≤c) (hl:Live h L a i fun l sz=>(k≠0∧n=0∧∃g o,ad=some ⟨g,o,none⟩)∨(L.size a i=0∧c=0)∨(ad=some ⟨l,k*sz.1,none⟩∧k+c≤L.size a i∧c=cap.getD (L.size a i-k))):Rel w ok h L (.slc a i k n cap) (.slice ad n c)
 |aslc (a i k off n g o c:Nat) (hn:n≤c) (hl:Live h L a i fun l sz=>n=0∨(g=l∧o=k*sz.1+off)):Rel w ok h L (.aslc a i k off n) (.slice (some ⟨g,o,none⟩) n c)
 |yld (a i g:Nat) (hl:Live h L a i fun l _=>g=l):Rel w ok h L (.yld a i) (.func (.yield g) #[] #[])
 |mp (a i g:Nat) (hl:Live h L a i fun l _=>g=l):Rel w ok h L (.mp a i) (.map (some g))
 |err (b:Bool) (v:Value) (he:ZKZ b v):Rel w ok h L (.err b) v
 |emp (ad:Addr):Rel w ok h L .emp (.slice (some ad) 0 0)
 |und:Rel w ok h L .und undef
 |top (v):Rel w ok h L .top v
structure Step (w:World) (ok:Nat→Prop) (h:Zad) (L:Lay) (w':World) (ok':Nat→Prop) (h':Zad) (L':Lay):Prop where
 size:w.heap.size≤w'.heap.size
 mem:∀g,g<w.heap.size→ok g→ok' g∧w'.heap[g]? =w.heap[g]?
 nx:∀a,nxt h a≤nxt h' a
 tags:∀a i sz,i<nxt h a→(blk h' a i).tag=some sz→(blk h a i).tag=some sz∧L'.loc a i=L.loc a i∧L'.size a i=L.size a i
theorem Zdg(a:Addr)(n:Nat):(a.add n).block=a.block:=by unfold Addr.add;split<;>rfl
theorem Zgh(a:Addr)(i j:Nat):(a.add i).add j=a.add (i+j):=by
 unfold Addr.add
 by_cases hi:i=0<;>by_cases hj:j=0<;>simp[hi,hj,Nat.add_assoc]
theorem Zbn(g o n:Nat):(⟨g,o,none⟩:Addr).add n=⟨g,o+n,none⟩:=by unfold Addr.add;split<;>simp_all
section
variable {w w':World}{ok ok':Nat→Prop}{h h':Zad}{L L':Lay}
theorem Live.step{a i:Nat}{p p':Nat→Nat×Nat→Prop}(s:Step w ok h L w' ok' h' L')(hl:Live h L a i p)(hp:∀l sz,(blk h' a i).tag=some sz→L'.loc a i=L.loc a i→L'.size a i=L.size a i→p l sz→p' l sz):Live h' L' a i p':=by
 refine⟨Nat.lt_of_lt_of_le hl.1 (s.nx a),fun sz hsz=>?_⟩
 obtain⟨h1,h2,h3⟩:=s.tags a i sz hl.1 hsz
 rw[h2]
 exact hp _ _ hsz h2 h3 (hl.2 sz h1)
theorem Zj0(s:Step w ok h L w' ok' h' L'){ad:Addr}{cs:List Value}(hb:ad.block<w.heap.size)(ho:ok ad.block)(hc:∀(j:Nat) (v:Value),cs[j]? =some v→w.cell? (ad.add j)=some v):∀(j:Nat) (v:Value),cs[j]? =some v→w'.cell? (ad.add j)=some v:=by
 intro j v hj
 rw[←hc j v hj]
 exact World.cell?_of_block (by rw[Zdg];exact(s.mem _ hb ho).2)
theorem Rel.step{av:AV}{v:Value}(s:Step w ok h L w' ok' h' L')(hr:Rel w ok h L av v):Rel w' ok' h' L' av v:=by
 induction hr with
 |int k n=>exact .int k n
 |bool b=>exact .bool b
 |str x=>exact .str x
 |flt k b=>exact .flt k b
 |val v=>exact .val v
 |nils=>exact .nils
 |nil r a c hr=>exact .nil r a c hr
 |list r xs hx ad n cap sz cs hb ho hn hcap hsz hl h1 hc hp hr ih=>exact .list r xs hx ad n cap sz cs (Nat.lt_of_lt_of_le hb s.size) (s.mem _ hb ho).1 hn hcap hsz hl h1 (Zj0 s hb ho hc) hp ih
 |eptr x off ad cs hs hb ho hl h1 hc hp hr ih=>exact .eptr x off ad cs hs (Nat.lt_of_lt_of_le hb s.size) (s.mem _ hb ho).1 hl h1 (Zj0 s hb ho hc) hp ih
 |agg r xs hx vs hl h1 hr ih=>exact .agg r xs hx vs hl h1 ih
 |tup xs vs hl hr ih=>exact .tup xs vs hl ih
 |fn f xs vs hl hr ih=>exact .fn f xs vs hl ih
 |mth f x v hr ih=>exact .mth f x v ih
 |ptr a i k off g o hl=>exact .ptr a i k off g o (hl.step s fun _ _ _ _ _ h=>h)
 |row a i ad n c hn hl=>exact .row a i ad n c hn (hl.step s fun _ _ _ _ h3 h=>by rw[h3];exact h)
 |slc a i k n cap ad c hn hl=>exact .slc a i k n cap ad c hn (hl.step s fun _ _ _ _ h3 h=>by rw[h3];exact h)
 |aslc a i k off n g o c hn hl=>exact .aslc a i k off n g o c hn (hl.step s fun _ _ _ _ _ h=>h)
 |yld a i g hl=>exact .yld a i g (hl.step s fun _ _ _ _ _ h=>h)
 |mp a i g hl=>exact .mp a i g (hl.step s fun _ _ _ _ _ h=>h)
 |err b v he=>exact .err b v he
 |emp ad=>exact .emp ad
 |und=>exact .und
 |top v=>exact .top v
theorem Row.none_elems{r:Row}(h:r.none=true):r.elems=[]:=by
 cases r with
 |gen xs=>simpa[Row.none,Row.elems]using h
 |ints k l=>simpa[Row.none,Row.elems]using h
 |flts k l=>simpa[Row.none,Row.elems]using h
 |big sh xs=>have:xs=[]:=by simpa[Row.none]using h
             subst this;rfl
 |refs a p=>simpa[Row.none,Row.elems]using h
theorem AV.pureL_mem:∀ {xs:List AV} {j:Nat} {u:AV},AV.pureL xs=true→xs[j]? =some u→u.pure=true
 |[],j,u,_,h=>by simp at h
 |x::xs,0,u,hu,h=>by simp[AV.pureL]at hu h;subst h;exact hu.1
 |x::xs,j+1,u,hu,h=>by simp[AV.pureL]at hu h;exact AV.pureL_mem hu.2 h
theorem AV.solidL_mem:∀ {xs:List AV} {j:Nat} {u:AV},AV.solidL xs=true→xs[j]? =some u→u.solid=true
 |[],j,u,_,h=>by simp at h
 |x::xs,0,u,hu,h=>by simp[AV.solidL]at hu h;subst h;exact hu.1
 |x::xs,j+1,u,hu,h=>by simp[AV.solidL]at hu h;exact AV.solidL_mem hu.2 h
theorem Zf6(s:Sh)(v:AV):(s.view1 v).pure=true:=by cases s<;>simp[Sh.view1,AV.pure]
theorem Zjs:∀(ss:List Sh) (i:Nat) (v:AV),AV.pureL (Zfa ss i v)=true
 |[],_,_=>rfl
 |s::ss,i,v=>by simp only[Zfa,AV.pureL,Zf6,Zjs ss,Bool.and_self]
theorem Zre(s:Sh)(v:AV):(s.view v).pure=true:=by
 cases s with
 |agg ss=>simp only[Sh.view,AV.pure,Row.pure,Zjs]
 |_=>simp only[Sh.view];exact Zf6 _ _
theorem ZiP{s:Sh}(h:s.solid1=true)(v:AV):(s.view1 v).solid=true:=by cases s<;>simp[Sh.solid1]at h<;>simp[Sh.view1,AV.solid]
theorem Zid:∀ {ss:List Sh} (i:Nat) (v:AV),ss.all Sh.solid1=true→AV.solidL (Zfa ss i v)=true
 |[],_,_,_=>rfl
 |s::ss,i,v,h=>by
  simp only[List.all_cons,Bool.and_eq_true]at h
  simp only[Zfa,AV.solidL,ZiP h.1,Zid (i+1) v h.2,Bool.and_self]
theorem ZqI{s:Sh}(h:s.solid=true)(v:AV):(s.view v).solid=true:=by
 cases s with
 |agg ss=>simp only[Sh.view,AV.solid,Row.solid];exact Zid 0 v (by simpa[Sh.solid]using h)
 |_=>simp only[Sh.view];exact ZiP (by simpa[Sh.solid]using h) _
theorem Row.pure_mem{r:Row}{j:Nat}{u:AV}(h:r.pure=true)(hu:r.elems[j]? =some u):u.pure=true:=by
 cases r with
 |gen xs=>rw[Row.pure]at h;exact AV.pureL_mem h hu
 |ints k l=>simp[Row.elems]at hu;obtain⟨a,_,rfl⟩:=hu;rfl
 |flts k l=>simp[Row.elems]at hu;obtain⟨a,_,rfl⟩:=hu;rfl
 |big sh xs=>simp[Row.elems]at hu;obtain⟨a,_,rfl⟩:=hu;exact Zre sh a
 |refs a p=>cases h
theorem Row.solid_mem{r:Row}{j:Nat}{u:AV}(h:r.solid=true)(hu:r.elems[j]? =some u):u.solid=true:=by
 cases r with
 |gen xs=>rw[Row.solid]at h;exact AV.solidL_mem h hu
 |ints k l=>simp[Row.elems]at hu;obtain⟨a,_,rfl⟩:=hu;rfl
 |flts k l=>simp[Row.elems]at hu;obtain⟨a,_,rfl⟩:=hu;rfl
 |big sh xs=>simp[Row.elems]at hu;obtain⟨a,_,rfl⟩:=hu;exact ZqI (by simpa[Row.solid]using h) a
 |refs a p=>simp[Row.elems]at hu;obtain⟨i,_,rfl⟩:=hu;rfl
theorem Rel.pure{av:AV}{v:Value}(hr:Rel w ok h L av v)(hp:av.pure=true):Rel w ok h' L' av v:=by
 induction hr with
 |int k n=>exact .int k n
 |bool b=>exact .bool b
 |str x=>exact .str x
 |flt k b=>exact .flt k b
 |val v=>exact .val v
 |nils=>exact .nils
 |nil r a c hr=>exact .nil r a c hr
 |list r xs hx ad n cap sz cs hb ho hn hcap hsz hl h1 hc hp2 hr ih=>exact .list r xs hx ad n cap sz cs hb ho hn hcap hsz hl h1 hc hp2 (fun j u v hu hv=>ih j u v hu hv (AV.pureL_mem hp2 hu))
 |eptr x off ad cs hs hb ho hl h1 hc hp2 hr ih=>exact .eptr x off ad cs hs hb ho hl h1 hc hp2 (fun j u v hu hv=>ih j u v hu hv (AV.pureL_mem hp2 hu))
 |agg r xs hx vs hl h1 hr ih=>exact .agg r xs hx vs hl h1 (fun j u v hu hv=>ih j u v hu hv (Row.pure_mem (by simpa[AV.pure]using hp) (hx▸hu)))
 |tup xs vs hl hr ih=>exact .tup xs vs hl (fun j u v hu hv=>ih j u v hu hv (AV.pureL_mem (by simpa[AV.pure]using hp) hu))
 |fn f xs vs hl hr ih=>exact .fn f xs vs hl (fun j u v hu hv=>ih j u v hu hv (AV.pureL_mem (by simpa[AV.pure]using hp) hu))
 |mth f x v hr ih=>exact .mth f x v (ih (by simpa[AV.pure]using hp))
 |ptr a i k off g o hl=>simp[AV.pure]at hp
 |row a i ad n c hn hl=>simp[AV.pure]at hp
 |slc a i k n cap ad c hn hl=>simp[AV.pure]at hp
 |aslc a i k off n g o c hn hl=>simp[AV.pure]at hp
 |yld a i g hl=>simp[AV.pure]at hp
 |mp a i g hl=>simp[AV.pure]at hp
 |err b v he=>exact .err b v he
 |emp ad=>exact .emp ad
 |und=>exact .und
 |top v=>exact .top v
theorem Rel.solid{av:AV}{v:Value}(hr:Rel w ok h L av v)(hp:av.solid=true):Rel w ok' h L av v:=by
 induction hr with
 |int k n=>exact .int k n
 |bool b=>exact .bool b
 |str x=>exact .str x
 |flt k b=>exact .flt k b
 |val v=>exact .val v
 |nils=>exact .nils
 |nil r a c hr=>exact .nil r a c hr
 |list r xs hx ad n cap sz cs hb ho hn hcap hsz hl h1 hc hp2 hr ih=>
  have he:=Row.none_elems (by simpa[AV.solid]using hp:r.none=true)
  rw[he]at hx;subst hx;simp at hn;subst hn;exact .nil r _ _ he
 |eptr x off ad cs hs hb ho hl h1 hc hp2 hr ih=>simp[AV.solid]at hp
 |agg r xs hx vs hl h1 hr ih=>exact .agg r xs hx vs hl h1 (fun j u v hu hv=>ih j u v hu hv (Row.solid_mem (by simpa[AV.solid]using hp) (hx▸hu)))
 |tup xs vs hl hr ih=>exact .tup xs vs hl (fun j u v hu hv=>ih j u v hu hv (AV.solidL_mem (by simpa[AV.solid]using hp) hu))
 |fn f xs vs hl hr ih=>exact .fn f xs vs hl (fun j u v hu hv=>ih j u v hu hv (AV.solidL_mem (by simpa[AV.solid]using hp) hu))
 |mth f x v hr ih=>exact .mth f x v (ih (by simpa[AV.solid]using hp))
 |ptr a i k off g o hl=>exact .ptr a i k off g o hl
 |row a i ad n c hn hl=>exact .row a i ad n c hn hl
 |slc a i k n cap ad c hn hl=>exact .slc a i k n cap ad c hn hl
 |aslc a i k off n g o c hn hl=>exact .aslc a i k off n g o c hn hl
 |yld a i g hl=>exact .yld a i g hl
 |mp a i g hl=>exact .mp a i g hl
 |err b v he=>exact .err b v he
 |emp ad=>exact .emp ad
 |und=>exact .und
 |top v=>exact .top v
end
def RelL(w:World)(ok:Nat→Prop)(h:Zad)(L:Lay)(us:List AV)(vs:List Value):Prop:=
 us.length=vs.length∧∀(j:Nat) (u:AV) (v:Value),us[j]? =some u→vs[j]? =some v→Rel w ok h L u v
section
variable {w w':World}{ok ok':Nat→Prop}{h h':Zad}{L L':Lay}
theorem RelL.step{us:List AV}{vs:List Value}(s:Step w ok h L w' ok' h' L')(hr:RelL w ok h L us vs):RelL w' ok' h' L' us vs:=⟨hr.1,fun j u v hu hv=>(hr.2 j u v hu hv).step s⟩
theorem RelL.nil:RelL w ok h L [] []:=⟨rfl,fun j u v hu _=>by simp at hu⟩
theorem RelL.cons{u:AV}{v:Value}{us:List AV}{vs:List Value}(h1:Rel w ok h L u v)(h2:RelL w ok h L us vs):RelL w ok h L (u::us) (v::vs):=by
 refine⟨by simp[h2.1],fun j a b ha hb=>?_⟩
 cases j with
 |zero=>simp at ha hb;subst ha;subst hb;exact h1
 |succ j=>exact h2.2 j a b (by simpa using ha) (by simpa using hb)
theorem RelL.append{xs ys:List AV}{vs us:List Value}(h1:RelL w ok h L xs vs)(h2:RelL w ok h L ys us):RelL w ok h L (xs++ys) (vs++us):=by
 refine⟨by simp[h1.1,h2.1],fun j u v hu hv=>?_⟩
 by_cases hj:j<xs.length
 ·rw[List.getElem?_append_left hj]at hu
  rw[List.getElem?_append_left (by rw[←h1.1];exact hj)]at hv
  exact h1.2 j u v hu hv
 ·rw[List.getElem?_append_right (by omega)]at hu
  rw[List.getElem?_append_right (by rw[←h1.1];omega),←h1.1]at hv
  exact h2.2 _ u v hu hv
theorem RelL.take{us:List AV}{vs:List Value}(hr:RelL w ok h L us vs)(n:Nat):RelL w ok h L (us.take n) (vs.take n):=by
 refine⟨by simp only[List.length_take,hr.1],fun j u v hu hv=>?_⟩
 rw[List.getElem?_take]at hu hv
 split at hu
 ·rename_i hj;rw[if_pos hj]at hv;exact hr.2 _ u v hu hv
 ·cases hu
theorem RelL.drop{us:List AV}{vs:List Value}(hr:RelL w ok h L us vs)(n:Nat):RelL w ok h L (us.drop n) (vs.drop n):=by
 refine⟨by simp only[List.length_drop,hr.1],fun j u v hu hv=>?_⟩
 rw[List.getElem?_drop]at hu hv
 exact hr.2 _ u v hu hv
theorem RelL.part{us:List AV}{vs:List Value}(hr:RelL w ok h L us vs)(o n:Nat):RelL w ok h L ((us.drop o).take n) ((vs.drop o).take n):=(hr.drop o).take n
end
theorem ZbG{x:AV}(h:x.single=true):x.flat=[x]:=by cases x<;>first |rfl |(simp [AV.single]at h)
theorem ZaI(xs ys:List AV):Zai (xs++ys)=Zai xs++Zai ys:=by simp[Zai]
theorem ZaL(x:AV)(ys:List AV):Zai (x::ys)=x.flat++Zai ys:=by simp[Zai]
theorem Zbo:∀ {xs:List AV},(∀x∈xs,x.single=true)→Zai xs=xs
 |[],_=>rfl
 |x::xs,h=>by
  rw[ZaL,ZbG (h x List.mem_cons_self),Zbo (xs:=xs) (fun y hy=>h y (List.mem_cons_of_mem _ hy))];rfl
theorem Zax{xs:List AV}{sz:Nat}(h:∀x∈xs,x.flat.length=sz):(Zai xs).length=xs.length*sz:=by
 induction xs with
 |nil=>simp[Zai]
 |cons x xs ih=>
  rw[ZaL,List.length_append,List.length_cons,ih (fun y hy=>h y (by simp[hy])),h x (by simp),Nat.add_mul];omega
theorem Zbh{sz:Nat} :∀(xs:List AV) (k:Nat),(∀x∈xs,x.flat.length=sz)→Zai (xs.drop k)=(Zai xs).drop (k*sz)
 |[],k,_=>by simp[Zai]
 |x::xs,0,_=>by simp
 |x::xs,k+1,hf=>by
  have h:=Zbh xs k (fun y hy=>hf y (by simp[hy]))
  have e:(k+1)*sz=x.flat.length+k*sz:=by rw[hf x (by simp),Nat.add_mul,Nat.one_mul,Nat.add_comm]
  rw[e]
  simp only[Zai,List.drop_succ_cons,List.flatMap_cons]at h⊢
  rw[h,←List.drop_drop,List.drop_left]
theorem Za8{sz:Nat} :∀(xs:List AV) (k:Nat),(∀x∈xs,x.flat.length=sz)→Zai (xs.take k)=(Zai xs).take (k*sz)
 |[],k,_=>by simp[Zai]
 |x::xs,0,_=>by simp[Zai]
 |x::xs,k+1,hf=>by
  have h:=Za8 xs k (fun y hy=>hf y (by simp[hy]))
  have e:(k+1)*sz=x.flat.length+k*sz:=by rw[hf x (by simp),Nat.add_mul,Nat.one_mul,Nat.add_comm]
  rw[e]
  simp only[Zai,List.take_succ_cons,List.flatMap_cons]at h⊢
  rw[h,List.take_length_add_append]
theorem ZeJ{xs:List AV}{sz k:Nat}{u:AV}(hf:∀x∈xs,x.flat.length=sz)(hu:xs[k]? =some u)(j:Nat)(hj:j<sz):(Zai xs)[k*sz+j]? =u.flat[j]?:=by
 induction xs generalizing k with
 |nil=>simp at hu
 |cons x xs ih=>
  rw[ZaL]
  cases k with
  |zero=>
   simp at hu;subst hu
   rw[List.getElem?_append_left (by simp[hf x (by simp)];omega)]
   simp
  |succ k=>
   simp at hu
   rw[List.getElem?_append_right (by rw[hf x (by simp),Nat.add_mul];omega),hf x (by simp)]
   have hh:=ih (fun y hy=>hf y (by simp[hy])) hu
   rw[←hh]
   congr 1
   rw[Nat.add_mul];omega
theorem Rel.cells{w:World}{ok:Nat→Prop}{h:Zad}{L:Lay}{av:AV}{v:Value}(hr:Rel w ok h L av v)(hb:av.bx=true):
 RelL w ok h L av.flat v.cells.toList∧∀c∈v.cells,c.oneCell'=true:=by
 have one:∀ {av:AV} {v:Value},av.flat=[av]→v.cells= #[v]→v.oneCell'=true→Rel w ok h L av v→RelL w ok h L av.flat v.cells.toList∧∀c∈v.cells,c.oneCell'=true:=by
  intro av v e1 e2 h1 hr
  rw[e1,e2]
  refine⟨⟨rfl,fun j u x hu hx=>?_⟩,by simpa using h1⟩
  cases j with
  |zero=>simp at hu hx;subst hu;subst hx;exact hr
  |succ j=>simp at hu
 cases hr with
 |agg r xs hxr vs hl h1 h=>subst hxr;exact⟨⟨by simpa[AV.flat,Value.cells]using hl,fun j u x hu hx=>h j u x hu (by simpa[Value.cells]using hx)⟩,h1⟩
 |tup xs vs hl h=>simp[AV.bx]at hb
 |und=>simp[AV.bx]at hb
 |top v=>simp[AV.bx]at hb
 |val v=>
  have hv:v.oneCell'=true:=by simpa[AV.bx]using hb
  refine one rfl ?_ hv (.val v)
  cases v<;>first |rfl |(simp [Value.oneCell']at hv)
 |int k n=>exact one rfl rfl rfl (.int k n)
 |bool b=>exact one rfl rfl rfl (.bool b)
 |str s=>exact one rfl rfl rfl (.str s)
 |flt k b=>exact one rfl rfl rfl (.flt k b)
 |nils=>exact one rfl rfl rfl .nils
 |nil r a c hr=>exact one rfl rfl rfl (.nil r a c hr)
 |list r xs hx ad n cap sz cs hb2 ho hn hcap hsz hl h1 hc hp hr=>exact one rfl rfl rfl (.list r xs hx ad n cap sz cs hb2 ho hn hcap hsz hl h1 hc hp hr)
 |fn f xs vs hl h=>exact one rfl rfl rfl (.fn f xs vs hl h)
 |mth f x v h=>exact one rfl rfl rfl (.mth f x v h)
 |ptr a i k off g o hl=>exact one rfl rfl rfl (.ptr a i k off g o hl)
 |row a i ad n c hn hl=>exact one rfl rfl rfl (.row a i ad n c hn hl)
 |slc a i k n cap ad c hn hl=>exact one rfl rfl rfl (.slc a i k n cap ad c hn hl)
 |aslc a i k off n g o c hn hl=>exact one rfl rfl rfl (.aslc a i k off n g o c hn hl)
 |yld a i g hl=>exact one rfl rfl rfl (.yld a i g hl)
 |mp a i g hl=>exact one rfl rfl rfl (.mp a i g hl)
 |err b v he=>
  cases b with
  |true=>obtain⟨t,p,rfl⟩:=he;exact one rfl rfl rfl (.err true _ ⟨t,p,rfl⟩)
  |false=>cases he;exact one rfl rfl rfl (.err false _ rfl)
 |emp ad=>exact one rfl rfl rfl (.emp ad)
 |eptr x off ad cs hs hb2 ho hl h1 hc hp hr=>exact one rfl rfl rfl (.eptr x off ad cs hs hb2 ho hl h1 hc hp hr)
abbrev zA:=List AV
end Go.Proofs.YtkeoeooghhjibaaGreatDoor
