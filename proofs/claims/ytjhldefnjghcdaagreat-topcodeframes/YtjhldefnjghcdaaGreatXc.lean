/- Which code and memory of the machine stand for the model's; how memory's standing is kept. No condition. -/
import Derived.Test.YtjhldefnjghcdaaGreatXa
import Derived.Maps.AppendAt
import Derived.Laws.Pointers
import Derived.WalkSpells
namespace Go.Proofs.YtjhldefnjghcdaaGreat
open Go.RowKit (Below)
def Zgb:AV→Value→Bool
 | .int k n, .int k' n'=>decide (k=k')&&decide (n=n')
 | .bool b, .bool b'=>b==b'
 | .str s, .string bs=>decide (bs.data.toList=s)
 | .flt k b, .float k' b'=>decide (k=k')&&decide (b=b')
 | .nils, .slice none 0 0=>true
 | .val .nilFunc, .nilFunc=>true
 | .val .nilIface, .nilIface=>true
 | .val (.pointer none), .pointer none=>true
 | .val (.map none), .map none=>true
 |_,_=>false
theorem Zei{w:World}{ok:Nat→Prop}{h:Zaa}{L:Lay}{av:AV}{v:Value}(hm:Zgb av v=true):Rel w ok h L av v:=by
 unfold Zgb at hm
 split at hm
 ·simp at hm;obtain⟨rfl,rfl⟩:=hm;exact .int _ _
 ·simp at hm;subst hm;exact .bool _
 ·rename_i s bs
  have hm:=of_decide_eq_true hm
  subst hm
  exact .str _
 ·simp at hm;obtain⟨rfl,rfl⟩:=hm;exact .flt _ _
 ·exact .nils
 ·exact .val _
 ·exact .val _
 ·exact .val _
 ·exact .val _
 ·cases hm
def ZdA:AV→Value→Bool
 | .agg r, .agg vs=>r.elems.length==vs.size&&(List.range r.elems.length).all fun j=>match r.elems[j]?,vs[j]? with |some u,some v=>Zgb u v&&v.oneCell' |_,_=>false
 |x,v=>Zgb x v
theorem Zcb{w:World}{ok:Nat→Prop}{h:Zaa}{L:Lay}{z:AV}{v:Value}(hm:ZdA z v=true):Rel w ok h L z v:=by
 unfold ZdA at hm
 split at hm
 ·rename_i r vs
  generalize hx:r.elems=xs at hm
  simp only[Bool.and_eq_true,beq_iff_eq,List.all_eq_true,List.mem_range]at hm
  obtain⟨h1,h2⟩:=hm
  have key:∀j u v,xs[j]? =some u→vs[j]? =some v→Zgb u v=true∧v.oneCell'=true:=fun j u v hu hv=>by
   have:=h2 j (List.getElem?_eq_some_iff.1 hu).1
   rw[hu,hv]at this
   simpa using this
  refine .agg r xs hx.symm vs h1 (fun v hv=>?_) (fun j u v hu hv=>Zei (key j u v hu hv).1)
  obtain⟨j,hj⟩:=Array.mem_iff_getElem?.1 hv
  have hlt:j<xs.length:=by rw[h1];exact(Array.getElem?_eq_some_iff.1 hj).1
  exact(key j _ v (List.getElem?_eq_getElem hlt) hj).2
 ·exact Zei hm
def ZaP:Opd→Operand→Bool
 | .t n, .tmp m=>n==m
 | .s n, .tmp m=>n==m
 | .c av, .const v=>Zgb av v
 | .c (.fn f []), .func g=>f==g
 |_,_=>false
def ZiM:List Opd→List Operand→Bool
 |[],[]=>true
 |x::xs,y::ys=>ZaP x y&&ZiM xs ys
 |_,_=>false
def Zje:Option Opd→Option Operand→Bool
 |none,none=>true
 |some x,some y=>ZaP x y
 |_,_=>false
def ZaO:TypeDesc→Bool
 | .struct _=>true
 | .array _ _=>true
 |_=>false
def Zjs(P:Program)(t:TypeId)(ag:Bool)(n:Nat):Bool:=
 match P.underlying t,P.info? t with
 |some d,some i=>ZaO d==ag&&i.size==n&&(ag||n==1)
 |_,_=>false
def ZfJ(P:Program)(t:TypeId)(n:Nat):Bool:=match P.info? t with |some i=>i.size==n |none=>false
def ZbR(P:Program)(t e:TypeId):Bool:=match P.underlying t with |some (.slice e')=>e'==e |_=>false
def ZpW(P:Program)(t:TypeId)(ln:Nat)(e:TypeId):Bool:=match P.underlying t with |some (.array n e')=>n==ln&&e'==e |_=>false
def Zdi(P:Program)(t:TypeId):Bool:=match P.underlying t with |some .string=>true |_=>false
def ZyJ(P:Program)(t:TypeId):Bool:=match P.underlying t with |some .bool=>true |_=>false
def ZEH(P:Program)(t:TypeId)(k:IntKind):Bool:=match P.underlying t with |some (.int k')=>k'==k |_=>false
def ZL1(P:Program)(t:TypeId)(k:FloatKind):Bool:=match P.underlying t with |some (.float k')=>k'==k |_=>false
def Zr1(P:Program)(t:TypeId):Bool:=(P.underlying t).isSome
def Zsi(P:Program)(t:TypeId)(f:Nat)(off:Nat):Option TypeId:=
 match P.underlying t with
 |some (.struct fs)=>match fs[f]? with |some fd=>if fd.offset==off then some fd.type else none |none=>none
 |_=>none
def Zkp(P:Program)(e:TypeId)(sz:Nat)(z:Option AV):Bool:=
 match P.info? e with
 |some i=>i.size==sz&&i.bytes≤32768&&(match i.zero with |some v=>v.cells.size==sz&&(match z with |some z=>ZdA z v&&z.flat.length==sz |none=>true) |none=>false)
 |none=>false
def Zaz(P:Program)(t:TypeId):TypeId:=match P.underlying t with |some (.slice e)=>e |some (.array _ e)=>e |_=>0
def ZiN(P:Program)(t:TypeId):Option (Value×(Nat→Option (Nat×Nat))):=
 match P.info? t,P.underlying t with
 |some it,some (.array _ e)=>
  match it.zero,P.info? e with
  |some z,some ie=>some (z,fun i=>some (i*ie.size,ie.size))
  |_,_=>none
 |some it,some (.struct fields)=>
  match it.zero,fields.toList.mapM (fun f=>(P.info? f.type).map fun i=>(f.offset,i.size))with
  |some z,some places=>some (z,(places.toArray[·]?))
  |_,_=>none
 |_,_=>none
def Zjw(place:Nat→Option (Nat×Nat)):List (Nat×Nat×Opd)→List (Nat×Operand)→Bool
 |[],[]=>true
 |(o,n,x)::ps,(i,y)::qs=>place i==some (o,n)&&ZaP x y&&Zjw place ps qs
 |_,_=>false
def ZrB:Nat→List Opd→List (Nat×Operand)→Bool
 |_,[],[]=>true
 |k,x::xs,(i,y)::ys=>i==k&&ZaP x y&&ZrB (k+1) xs ys
 |_,_,_=>false
def Zbo(P:Program)(f:FuncId):Bool:=
 match P.funcs[f]? with
 | some fn => fn.name != "runtime.NumGoroutine" && fn.body.isSome
 |none=>false
def Zqt(P:Program)(t:TypeId)(ln:Nat):Bool:=
 match P.underlying t with
 |some (.pointer arr)=>(match P.underlying arr with |some (.array n e)=>n==ln&&ZfJ P e 1&&0<ln |_=>false)
 |_=>false
def ZqB(P:Program)(t:TypeId)(ln:Nat):Bool:=
 match P.underlying t with
 |some (.array n e)=>n==ln&&ZfJ P e 1&&0<ln
 |_=>false
def ZfH(f:TypeId→Option (List Lf)):Nat→List Field→Option (List Lf)
 |_,[]=>some []
 | off, fd :: fds => match fd.name == "_", fd.offset == off with
   |false,true=>(match f fd.type with
    |some l=>(match ZfH f (off+l.length) fds with |some r=>some (l++r) |none=>none)
    |none=>none)
   |_,_=>none
def ZwW(P:Program)(f:TypeId→Option (List Lf))(t:TypeId):TypeDesc→Option (List Lf)
 | .int _=>some [.i]
 | .bool=>some [.b]
 | .string=>some [.s]
 | .struct fs=>match P.stoodInHeld t with |true=>none |false=>ZfH f 0 fs.toList
 | .array n e=>match f e with |some l=>some (List.replicate n l).flatten |none=>none
 |_=>none
def Zfi(P:Program):Nat→TypeId→Option (List Lf)
 |0,_=>none
 |d+1,t=>match P.underlying t,P.info? t with
  |some td,some i=>(match ZwW P (Zfi P d) t td with
   |some ls=>(match i.size==ls.length with |true=>some ls |false=>none)
   |none=>none)
  |_,_=>none
def ZJi:List Lf→List Lf→Bool
 |[],[]=>true
 | .i::l, .i::m=>ZJi l m
 | .b::l, .b::m=>ZJi l m
 | .s::l, .s::m=>ZJi l m
 |_,_=>false
def ZM3(P:Program)(t:TypeId)(ls:List Lf):Bool:=!(P.eqGuardType P.depth t)&&(match P.underlying t with |some td=>ZaO td |none=>false)&&(match Zfi P 8 t with |some l=>ZJi l ls |none=>false)
def ZgY(P:Program)(t:TypeId):Bool:=match P.underlying t with
 |some (.map k e)=>Zdi P k&&ZyJ P e&&(match P.info? e with |some i=>(match i.zero with |some (.bool false)=>true |_=>false) |none=>false)
 |_=>false
def mop(P:Program)(o:Oper):OpK→Bool
 | .mov x=>match o.op with | .move y=>ZaP x y | .assign y=>ZaP x y |_=>false
 | .pick c x y=>match o.op with | .pick c' x' y'=>ZaP c c'&&ZaP x x'&&ZaP y y' |_=>false
 | .bin op x y=>match o.op with | .binOp op' _ x' y' _=>op==op'&&ZaP x x'&&ZaP y y' |_=>false
 | .binw op x y=>match o.op with | .binOp op' _ x' y' _=>op==op'&&ZaP x x'&&ZaP y y' |_=>false
 | .beq ne x y=>match o.op with | .binOp op' t x' y' _=>op'==(if ne then .neq else .eql)&&ZyJ P t&&ZaP x x'&&ZaP y y' |_=>false
 | .isnil ne x=>match o.op with | .binOp op' t x' (.const (.slice none 0 0)) _=>op'==(if ne then .neq else .eql)&&ZbR P t (Zaz P t)&&ZaP x x' |_=>false
 | .aeq ne ls x y=>match o.op with | .binOp op' t x' y' _=>op'==(if ne then .neq else .eql)&&ZM3 P t ls&&ZaP x x'&&ZaP y y' |_=>false
 | .idxa ln sz x i=>match o.op with | .index t x' i'=>ZpW P t ln (Zaz P t)&&Zjs P (Zaz P t) true sz&&ZaP x x'&&ZaP i i' |_=>false
 | .mkmth f x=>match o.op with | .makeFunc (.func f') ⟨[x']⟩ ⟨[]⟩=>f==f'&&ZaP x x' |_=>false
 | .capl x=>match o.op with | .call { callee:=.builtin .cap,args:=⟨[x']⟩,argTypes:=⟨[t]⟩ } =>ZbR P t (Zaz P t)&&ZaP x x' |_=>false
 | .not x=>match o.op with | .unOp .not _ x'=>ZaP x x' |_=>false
 | .neg x=>match o.op with | .unOp .neg _ x'=>ZaP x x' |_=>false
 | .conv k x=>match o.op with | .convert src dst x'=>Zr1 P src&&ZEH P dst k&&ZaP x x' |_=>false
 | .i2f k x=>match o.op with | .convert src dst x'=>Zr1 P src&&ZL1 P dst k&&ZaP x x' |_=>false
 | .f2i k x=>match o.op with | .convert src dst x'=>Zr1 P src&&ZEH P dst k&&ZaP x x' |_=>false
 | .len x=>match o.op with | .call { callee:=.builtin .len,args:=⟨[x']⟩,argTypes:=⟨[t]⟩ } =>ZbR P t (Zaz P t)&&ZaP x x' |_=>false
 | .slen x=>match o.op with | .call { callee:=.builtin .len,args:=⟨[x']⟩,argTypes:=⟨[t]⟩ } =>Zdi P t&&ZaP x x' |_=>false
 | .mm mx x y=>match o.op with | .call { callee:=.builtin b,args:=⟨[x',y']⟩, .. } =>b==(if mx then .max else .min)&&ZaP x x'&&ZaP y y' |_=>false
 | .box _ e x=>match o.op with | .box e' x'=>e==e'&&ZaP x x' |_=>false
 | .alloc _ e z=>match o.op with | .alloc e'=>e==e'&&(match P.info? e with |some i=>(match i.zero with |some v=>ZdA z v |none=>false) |none=>false) |_=>false
 | .load ag n p=>match o.op with | .load t p'=>Zjs P t ag n&&ZaP p p' |_=>false
 | .store n p x=>match o.op with | .store t p' x'=>o.dst.isNone&&ZfJ P t n&&ZaP p p'&&ZaP x x' |_=>false
 | .stores n p x=>match o.op with | .store t p' x'=>o.dst.isNone&&ZfJ P t n&&ZaP p p'&&ZaP x x' |_=>false
 | .faddr off p=>match o.op with | .fieldAddr t p' f=>(match Zsi P t f off with |some ft=>!ZfJ P ft 0&&(P.info? ft).isSome |none=>false)&&ZaP p p' |_=>false
 | .iaddr sz x i=>match o.op with | .indexAddr t x' i'=>ZbR P t (Zaz P t)&&ZfJ P (Zaz P t) sz&&0<sz&&ZaP x x'&&ZaP i i' |_=>false
 | .aaddr ln sz p i=>match o.op with | .indexAddr t p' i'=>ZpW P t ln (Zaz P t)&&ZfJ P (Zaz P t) sz&&ZaP p p'&&ZaP i i' |_=>false
 | .idx ln x i=>match o.op with | .index t x' i'=>ZpW P t ln (Zaz P t)&&Zjs P (Zaz P t) false 1&&ZaP x x'&&ZaP i i' |_=>false
 | .sidx x i=>match o.op with | .index t x' i'=>Zdi P t&&ZaP x x'&&ZaP i i' |_=>false
 | .fld ag off n x=>match o.op with | .field t x' f=>(match Zsi P t f off with |some ft=>Zjs P ft ag n |none=>false)&&ZaP x x' |_=>false
 | .build z parts=>match o.op with | .build t parts'=>(match ZiN P t with |some (zv,place)=>ZdA (.agg z) zv&&Zjw place parts parts'.toList |none=>false) |_=>false
 | .bslice _ e sz parts=>match o.op with | .buildSlice t ln parts'=>ZbR P t e&&Zkp P e sz none&&ZrB 0 parts parts'.toList&&ln==parts.length&&0<sz&&parts.length*sz≤65536 |_=>false
 | .mkslice _ e sz z ln=>match o.op with | .makeSlice t l c=>ZbR P t e&&Zkp P e sz (some z)&&z.pure&&z.bx&&0<sz&&ZaP ln l&&ZaP ln c |_=>false
 | .mklst a e sz z ln=>match o.op with | .makeSlice t l c=>!Zos a&&ZbR P t e&&Zkp P e sz (some z)&&z.pure&&z.bx&&0<sz&&ZaP ln l&&ZaP ln c |_=>false
 | .slc sz x lo hi mx=>match o.op with | .slice t x' lo' hi' mx'=>ZbR P t (Zaz P t)&&ZfJ P (Zaz P t) sz&&0<sz&&ZaP x x'&&Zje lo lo'&&Zje hi hi'&&Zje mx mx'&&(mx.isNone||hi.isSome) |_=>false
 | .asl ln p lo hi=>match o.op with | .slice t p' lo' hi' none=>(Zqt P t ln||ZqB P t ln)&&ZaP p p'&&Zje lo lo'&&Zje hi hi' |_=>false
 | .sslc x lo hi=>match o.op with | .slice t x' lo' hi' none=>Zdi P t&&ZaP x x'&&Zje lo lo'&&Zje hi hi' |_=>false
 | .append _ e sz x y=>match o.op with | .call { callee:=.builtin .append,args:=⟨[x',y']⟩,argTypes:=⟨[t,t']⟩ } =>t==t'&&ZbR P t e&&Zkp P e sz none&&0<sz&&ZaP x x'&&ZaP y y' |_=>false
 | .appz _ e sz z x ln=>match o.op with | .call { callee:=.builtin .append,args:=⟨[x',l']⟩,argTypes:=⟨[t,t']⟩ } =>ZbR P t e&&(match P.underlying t' with |some (.int _)=>true |_=>false)&&Zkp P e sz (some z)&&z.pure&&z.bx&&0<sz&&ZaP x x'&&ZaP ln l' |_=>false
 | .copy sz x y=>match o.op with | .call { callee:=.builtin .copy,args:=⟨[x',y']⟩,argTypes:=⟨[t,t']⟩ } =>t==t'&&ZbR P t (Zaz P t)&&ZfJ P (Zaz P t) sz&&0<sz&&ZaP x x'&&ZaP y y' |_=>false
 | .clr e sz z x=>match o.op with | .call { callee:=.builtin .clear,args:=⟨[x']⟩,argTypes:=⟨[t]⟩ } =>ZbR P t e&&Zkp P e sz (some z)&&z.pure&&z.bx&&0<sz&&ZaP x x' |_=>false
 | .s2a n x=>match o.op with | .sliceToArrayPointer t x'=>(match P.underlying t with |some (.array m e)=>m==n&&ZfJ P e 1&&0<n |_=>false)&&ZaP x x' |_=>false
 | .s2b x=>match o.op with | .convert src dst x'=>Zdi P src&&(match P.underlying dst with |some (.slice e)=>ZEH P e .u8&&ZfJ P e 1 |_=>false)&&ZaP x x' |_=>false
 | .b2s x=>match o.op with | .convert src dst x'=>Zdi P dst&&(match P.underlying src with |some (.slice e)=>ZEH P e .u8 |_=>false)&&ZaP x x' |_=>false
 | .emptyl=>match o.op with | .buildSlice t ln parts'=>ZbR P t (Zaz P t)&&Zkp P (Zaz P t) (((P.info? (Zaz P t)).map (·.size)).getD 0) none&&Nat.beq ln 0&&parts'.isEmpty |_=>false
 | .app0 sz x y=>match o.op with | .call { callee:=.builtin .append,args:=⟨[x',y']⟩,argTypes:=⟨[t,t']⟩ } =>t==t'&&ZbR P t (Zaz P t)&&Zkp P (Zaz P t) sz none&&0<sz&&ZaP x x'&&ZaP y y' |_=>false
 | .inil ne x=>match o.op with | .binOp op' t x' (.const .nilIface) _=>op'==(if ne then .neq else .eql)&&(match P.underlying t with |some (.interface _)=>true |_=>false)&&ZaP x x' |_=>false
 | .fnil ne x=>match o.op with | .binOp op' t x' (.const .nilFunc) _=>op'==(if ne then .neq else .eql)&&(match P.underlying t with |some (.func _ _ _)=>true |_=>false)&&ZaP x x' |_=>false
 | .pnil ne x=>match o.op with | .binOp op' t x' (.const (.pointer none)) _=>op'==(if ne then .neq else .eql)&&(match P.underlying t with |some (.pointer e)=>e==P.pointee t |_=>false)&&ZaP x x' |_=>false
 | .mkmap _=>match o.op with | .makeMap _ none=>true |_=>false
 | .mkrefs _ e sz _ _ ln=>match o.op with | .makeSlice t l c=>ZbR P t e&&Zkp P e sz (some .nils)&&0<sz&&ZaP ln l&&ZaP ln c |_=>false
 | .mlook x k=>match o.op with | .lookup t x' k' false=>ZgY P t&&ZaP x x'&&ZaP k k' |_=>false
 | .mupd x k=>match o.op with | .mapUpdate t x' k' (.const (.bool true))=>o.dst.isNone&&ZgY P t&&ZaP x x'&&ZaP k k' |_=>false
 | .nilck x=>match o.op with | .nilCheck x'=>ZaP x x' |_=>false
 | .ext i x=>match o.op with | .extract x' i'=>i==i'&&ZaP x x' |_=>false
 | .mkfn f caps=>match o.op with | .makeFunc (.func f') ⟨[]⟩ caps'=>f==f'&&ZiM caps caps'.toList |_=>false
 | .ncall _ _ f args=>match o.op with | .call { callee:=.value (.func f'),args:=args', .. } =>f==f'&&ZiM args args'.toList&&Zbo P f |_=>false
 | .ncallv _ _ x args=>match o.op with | .call { callee:=.value x',args:=args', .. } =>ZaP x x'&&ZiM args args'.toList |_=>false
 | .icall f args=>match o.op with | .call { callee:=.value (.func f'),args:=args', .. } =>f==f'&&ZiM args args'.toList&&Zbo P f |_=>false
 | .icallv x args=>match o.op with | .call { callee:=.value x',args:=args', .. } =>ZaP x x'&&ZiM args args'.toList |_=>false
def Ze6:Op→Bool
 | .defer _=>false
 |_=>true
def ZuE(P:Program)(N:Nat)(ops:List Oper)(o:Oper)(ao:AOp):Bool:=
 Ze6 o.op&&(o.dst==ao.d)&&(match ao.d with |some d=>Nat.blt d N |none=>true)&&
 (match o.guard,ao.g with
   |none,none=>true
   |some (j,want),some (t,want')=>want==want'&&(match ops[j]? with |some oj=>oj.dst==some t |none=>false)
   |_,_=>false)&&
 mop P o ao.k
def Zd3(P:Program)(N:Nat)(ops:List Oper):List Oper→List AOp→Bool
 |[],[]=>true
 |o::os,ao::aos=>ZuE P N ops o ao&&Zd3 P N ops os aos
 |_,_=>false
def ZsI:Option Opd→List Opd
 |some x=>[x]
 |none=>[]
def OpK.neutral:OpK→Bool
 | .box .. =>false
 | .alloc .. =>false
 | .store .. =>false
 | .stores .. =>false
 | .bslice .. =>false
 | .mkslice .. =>false
 | .mklst .. =>false
 | .append .. =>false
 | .appz .. =>false
 | .copy .. =>false
 | .clr .. =>false
 | .mkmap .. =>false
 | .mkrefs .. =>false
 | .mupd .. =>false
 | .ncall _ a .. =>Nat.beq a 0
 | .ncallv _ a .. =>Nat.beq a 0
 | .icall .. =>false
 | .icallv .. =>false
 |_=>true
def OpK.inl:OpK→Bool
 | .icall .. =>true
 | .icallv .. =>true
 |_=>false
def OpK.looks:OpK→List Opd
 | .mov x | .not x | .neg x | .conv _ x | .i2f _ x | .f2i _ x | .len x | .slen x | .box _ _ x | .load _ _ x | .faddr _ x | .fld _ _ _ x | .ext _ x | .mkslice _ _ _ _ x | .mklst _ _ _ _ x | .mkrefs _ _ _ _ _ x | .isnil _ x | .s2a _ x | .b2s x | .nilck x | .capl x | .mkmth _ x | .clr _ _ _ x | .s2b x | .pnil _ x | .fnil _ x | .inil _ x=>[x]
 | .pick c x y=>[c,x,y]
 | .bin _ x y | .binw _ x y | .beq _ x y | .mm _ x y | .store _ x y | .stores _ x y | .iaddr _ x y | .aaddr _ _ x y | .idx _ x y | .sidx x y | .append _ _ _ x y | .appz _ _ _ _ x y | .copy _ x y | .aeq _ _ x y | .idxa _ _ x y | .mlook x y | .mupd x y | .app0 _ x y=>[x,y]
 | .alloc .. =>[]
 | .mkmap .. =>[]
 | .emptyl=>[]
 | .build _ parts=>parts.map (·.2.2)
 | .bslice _ _ _ parts=>parts
 | .sslc x lo hi | .asl _ x lo hi=>x::ZsI lo++ZsI hi
 | .slc _ x lo hi mx=>x::ZsI lo++ZsI hi++ZsI mx
 | .mkfn _ caps=>caps
 | .ncall _ _ _ args | .icall _ args=>args
 | .ncallv _ _ x args | .icallv x args=>x::args
def AOp.tmps(o:AOp):List Nat:=(o.k.looks.filterMap fun | .t n=>some n | .s n=>some n | .c _=>none)++(match o.g with |some (t,_)=>[t] |none=>[])
def AOp.apart(x y:AOp):Bool:=
 (match x.d with |some d=>!y.tmps.contains d&&y.d != some d |none=>true)&&
 (match y.d with |some d=>!x.tmps.contains d |none=>true)
def OpK.mkr:OpK→Option Nat
 | .alloc a _ _=>some a
 | .bslice a _ _ _=>some a
 | .mkslice a _ _ _ _=>some a
 | .mklst a _ _ _ _=>some a
 |_=>none
def OpK.thr:OpK→Option Nat
 | .alloc a _ _=>some a
 | .bslice a _ _ _=>some a
 | .mkslice a _ _ _ _=>some a
 | .mklst a _ _ _ _=>some a
 | .ncall _ a _ _=>some a
 | .ncallv _ a _ _=>some a
 |_=>none
def AOp.frees(x z:AOp):Bool:=match x.k.thr,z.k.mkr with
 |some c,some a=>!Nat.beq c a&&z.g.isNone
 |_,_=>false
def Zu2:List Oper→List (List Nat)→List (List Nat)
 |[],acc=>acc
 |o::os,acc=>Zu2 os (acc++[let es:=(o.after.toList.filter fun e=>Region.binds .any e).map (·.on);(es++es.flatMap fun e=>acc.getD e []).eraseDups])
def Zol(fr:List (Nat×Nat))(aos:List AOp)(cl:List (List Nat)):Nat→List AOp→Bool
 |_,[]=>true
 |i,o::os=>((List.range os.length).all fun d=>(cl.getD (i+1+d) []).contains i||(match aos[i+1+d]? with |some oj=>o.apart oj&&((o.k.neutral&&oj.k.neutral)||((o.k.neutral||oj.k.neutral||o.frees oj)&&fr.contains (i,i+1+d))) |none=>false))&&Zol fr aos cl (i+1) os
def Zzn:Nat→List Oper→Bool
 |_,[]=>true
 |k,o::os=>(o.after.all fun e=>!Region.binds .any e||Nat.blt e.on k)&&Zzn (k+1) os
def ZcE:List AOp→Nat
 |[]=>0
 |o::os=>match o.k.inl with |true=>0 |false=>ZcE os+1
def ZJL(cl:List (List Nat))(n c:Nat):Bool:=(List.range n).all fun j=>Nat.blt j c||(List.range j).all fun i=>(cl.getD j []).contains i
def ZqN:List (Nat×Nat)→Bool
 |[]=>false
 |e::_=>Nat.beq e.1 e.2
def ZsV(fr:List (Nat×Nat))(ops:List Oper)(aos:List AOp):Bool:=Zzn 0 ops&&match ZqN fr with
 |true=>(fr.drop 1).all fun e=>((Zu2 ops []).getD e.2 []).contains e.1
 |false=>Zol fr (aos.take (ZcE aos)) (Zu2 ops []) 0 (aos.take (ZcE aos))&&ZJL (Zu2 ops []) aos.length (ZcE aos)
def Zux:List Nat→List Nat→Bool
 |[],[]=>true
 |x::xs,y::ys=>Nat.beq x y&&Zux xs ys
 |_,_=>false
def Za3(P:Program)(N:Nat):ACode→Code→Bool
 | .skip, .skip=>true
 | .reg d aos, .region _ ops draw=>draw==d.isSome&&Zd3 P N ops.toList ops.toList aos&&(match d with |none=>true |some fr=>ZsV fr ops.toList aos)
 | .seq a b, .seq x y=>Za3 P N a x&&Za3 P N b y
 | .cond c' a b, .cond c x y=>ZaP c' c&&Za3 P N a x&&Za3 P N b y
 | .block id' a, .block id x=>id==id'&&Za3 P N a x
 | .loop a, .loop x=>Za3 P N a x
 | .rf _ f' ps' a b, .rangeFunc f ps x y=>ZaP f' f&&Zux ps' ps.toList&&ps'.all (Nat.blt · N)&&Za3 P N a x&&Za3 P N b y
 | .exit j, .exit i=>i==j
 | .ret, .ret=>true
 | .junk,_=>true
 | .gh _ a,c=>Za3 P N a c
 |_,_=>false
def plc(t:Option (Nat×Nat))(n:Nat):Prop:=∃s,t=some s∧(s.1=0∨n≠0)
def Plc(h:Zaa)(L:Lay)(a i:Nat):Prop:=plc (blk h a i).tag (L.size a i)
theorem Plc.tag{h:Zaa}{L:Lay}{a i:Nat}(p:Plc h L a i):(blk h a i).tag≠none:=by
 obtain⟨s,e,_⟩:=p;rw[e];simp
theorem Plc.of{h:Zaa}{L:Lay}{a i:Nat}{s:Nat×Nat}(e:(blk h a i).tag=some s)(hn:s.1=0∨L.size a i≠0):Plc h L a i:=⟨s,e,hn⟩
theorem Plc.to{h h':Zaa}{L L':Lay}{a i:Nat}(p:Plc h L a i)(e:(blk h' a i).tag=(blk h a i).tag)(e2:L'.size a i=L.size a i):Plc h' L' a i:=by
 obtain⟨s,e',hn⟩:=p;exact⟨s,e.trans e',e2▸hn⟩
structure Ctx where
 P:Program
 w0:World
 okA:Nat→Prop
 cs0:List Frame
 b:Nat
 own:Nat
abbrev Ctx.of(P:Program)(w:World)(okA:Nat→Prop)(cs:List Frame):Ctx:=⟨P,w,okA,cs,w.heap.size,0⟩
def Ctx.base(C:Ctx):Nat:=C.b
def Ctx.n0(C:Ctx):Nat:=C.w0.heap.size
def Zaq(C:Ctx)(h:Zaa)(L:Lay)(g:Nat):Prop:=(g<C.n0∧C.okA g)∨(C.n0≤g∧∀a i,Plc h L a i→L.loc a i≠g)
abbrev Zau(C:Ctx)(h:Zaa)(L:Lay)(w:World):AV→Value→Prop:=Rel w (Zaq C h L) h L
def EnvRel(C:Ctx)(h:Zaa)(L:Lay)(w:World)(env:List (Nat×AV))(tmps:Array Value):Prop:=
 ∀t av,ZaA env t=some av→Zau C h L w av (tmps.getD t undef)
def ZK7(P:Program)(N:Nat):RSt→LoopState→Option Code→Prop
 | .ready,st,p=>st=.ready∧p=none
 | .busy,st,_=>st=.busy
 | .done j,st,p=>st=.done∧∃c,p=some c∧Za3 P N j c=true
def BRel(C:Ctx)(h:Zaa)(L:Lay)(w:World)(g n:Nat):Blk→Prop
 | .row e sz r=>0<sz∧n≤maxLen∧r.elems.length≤n∧(∀x∈r.elems,x.flat.length=sz)∧(n≠0→∃cur:Array Value,w.heap[g]? =some (.cells cur e (0,0))∧cur.size=n*sz∧
    RelL w (Zaq C h L) h L (Zag r.elems) (cur.toList.take (r.elems.length*sz))∧∀c∈cur.toList.take (r.elems.length*sz),c.oneCell'=true)
 | .lp l=>∃r:Loop,w.heap[g]? =some (.loop r)∧ZK7 C.P l.N l.st r.state r.pending∧r.fn=l.fn∧r.tmps.size=l.N∧EnvRel C h L w l.env r.tmps∧r.params.toList=l.params∧(∀p∈l.params,p<l.N)∧
    Za3 C.P l.N l.asg r.assign=true∧Za3 C.P l.N l.body r.body=true
 | .dfr=>w.heap[g]? =some (.deferred (some []))
 | .mp ks=>∃(es:Array MapEntry) (clock:Nat),w.heap[g]? =some (.map es clock)∧es.toList.map (fun e=>(e.key,e.val))=ks.map fun k=>(Value.string ⟨k.toS.toArray⟩,Value.bool true)
 | .dead=>True
structure HRel (C:Ctx) (h:Zaa) (L:Lay) (w:World):Prop where
 below:Below C.base C.w0 w
 live:∀a i,Plc h L a i→C.base≤L.loc a i∧L.loc a i<w.heap.size
 blks:∀a i,BRel C h L w (L.loc a i) (L.size a i) (blk h a i)
 inj:∀a i b j,Plc h L a i→Plc h L b j→L.loc a i=L.loc b j→a=b∧i=j
 home:∀a i,Plc h L a i→C.n0≤L.loc a i∨(a=0∧i=0∧L.loc a i=C.own∧¬C.okA (L.loc a i))
 low:∀k,k<C.n0→k≠C.own→w.heap[k]? =C.w0.heap[k]?
 base:C.base≤C.n0
 good:GoodW C.P C.w0 C.base C.own
section
variable {C:Ctx}{h h':Zaa}{L L':Lay}{w w':World}
theorem EnvRel.step{env:List (Nat×AV)}{tmps:Array Value}(s:Step w (Zaq C h L) h L w' (Zaq C h' L') h' L')(he:EnvRel C h L w env tmps):EnvRel C h' L' w' env tmps:=
 fun t av ht=>(he t av ht).step s
theorem HRel.top(H:HRel C h L w):C.n0≤w.heap.size:=H.below.size
theorem HRel.hbase(H:HRel C h L w):C.base≤w.heap.size:=Nat.le_trans H.base H.top
theorem HRel.off(H:HRel C h L w){k a i:Nat}(hk:k<C.n0)(hko:k≠C.own)(ht:Plc h L a i):k≠L.loc a i:=by
 rcases H.home a i ht with h1 |⟨_,_,h1,_⟩
 ·omega
 ·rw[h1];exact hko
theorem BRel.step(s:Step w (Zaq C h L) h L w' (Zaq C h' L') h' L'){g n:Nat}{b:Blk}(hw:plc b.tag n→w'.heap[g]? =w.heap[g]?)
 (hb:BRel C h L w g n b):BRel C h' L' w' g n b:=by
 cases b with
 |row e sz r=>
  obtain⟨h0,h1,h2,h3,hc⟩:=hb
  refine⟨h0,h1,h2,h3,fun hn=>?_⟩
  obtain⟨cur,h4,h5,h6,h7⟩:=hc hn
  exact⟨cur,(hw ⟨_,rfl, .inr hn⟩).trans h4,h5,h6.step s,h7⟩
 |lp l=>
  obtain⟨r,h1,h2,h3,h4,h5,h6,h7,h8,h9⟩:=hb
  exact⟨r,(hw ⟨_,rfl, .inl rfl⟩).trans h1,h2,h3,h4,h5.step s,h6,h7,h8,h9⟩
 |dfr=>exact(hw ⟨_,rfl, .inl rfl⟩).trans hb
 |mp ks=>obtain⟨es,cl,h1,h2⟩:=hb;exact⟨es,cl,(hw ⟨_,rfl, .inl rfl⟩).trans h1,h2⟩
 |dead=>trivial
theorem HRel.one(H:HRel C h L w)(s:Step w (Zaq C h L) h L w' (Zaq C h' L') h' L')(hb:Below C.base w w')(a0 i0:Nat)
 (hk:∀a i,¬(a=a0∧i=i0)→blk h' a i=.dead∨(blk h' a i=blk h a i∧L'.loc a i=L.loc a i∧L'.size a i=L.size a i∧(Plc h L a i→w'.heap[L.loc a i]? =w.heap[L.loc a i]?)))
 (h0l:Plc h' L' a0 i0→C.base≤L'.loc a0 i0∧L'.loc a0 i0<w'.heap.size)
 (h0h:Plc h' L' a0 i0→C.n0≤L'.loc a0 i0∨(a0=0∧i0=0∧L'.loc a0 i0=C.own∧¬C.okA (L'.loc a0 i0)))
 (hlow:∀k,k<C.n0→k≠C.own→w'.heap[k]? =w.heap[k]?)
 (h0:BRel C h' L' w' (L'.loc a0 i0) (L'.size a0 i0) (blk h' a0 i0))
 (hap:∀a i,¬(a=a0∧i=i0)→Plc h' L' a i→Plc h' L' a0 i0→L.loc a i≠L'.loc a0 i0):HRel C h' L' w':=by
 have key:∀a i,¬(a=a0∧i=i0)→Plc h' L' a i→Plc h L a i∧L'.loc a i=L.loc a i:=fun a i ha ht=>by
  rcases hk a i ha with hd |⟨h1,h2,h3,_⟩
  ·exact absurd (by rw[hd];rfl) ht.tag
  ·exact⟨ht.to (by rw[h1]) h3.symm,h2⟩
 refine⟨H.below.trans hb,fun a i ht=>?_,fun a i=>?_,fun a i b j hti htj hl=>?_,fun a i ht=>?_,fun k hk ho=>(hlow k hk ho).trans (H.low k hk ho),H.base,H.good⟩
 rotate_right
 ·by_cases ha:a=a0∧i=i0
  ·obtain⟨rfl,rfl⟩:=ha;exact h0h ht
  ·obtain⟨h1,h2⟩:=key a i ha ht
   rw[h2];exact H.home a i h1
 ·by_cases ha:a=a0∧i=i0
  ·obtain⟨rfl,rfl⟩:=ha;exact h0l ht
  ·obtain⟨h1,h2⟩:=key a i ha ht
   rw[h2]
   obtain⟨g1,g2⟩:=H.live a i h1
   exact⟨g1,Nat.lt_of_lt_of_le g2 s.size⟩
 ·by_cases ha:a=a0∧i=i0
  ·obtain⟨rfl,rfl⟩:=ha;exact h0
  ·rcases hk a i ha with hd |⟨h1,h2,h3,h4⟩
   ·rw[hd];trivial
   ·rw[h1,h2,h3];exact(H.blks a i).step s h4
 ·by_cases ha:a=a0∧i=i0
  ·by_cases hb:b=a0∧j=i0
   ·exact⟨ha.1.trans hb.1.symm,ha.2.trans hb.2.symm⟩
   ·obtain⟨h1,h2⟩:=key b j hb htj
    rw[h2]at hl
    obtain⟨rfl,rfl⟩:=ha
    exact absurd hl.symm (hap b j hb htj hti)
  ·obtain⟨h1,h2⟩:=key a i ha hti
   by_cases hb:b=a0∧j=i0
   ·rw[h2]at hl
    obtain⟨rfl,rfl⟩:=hb
    exact absurd hl (hap a i ha hti htj)
   ·obtain⟨h3,h4⟩:=key b j hb htj
    rw[h2,h4]at hl
    exact H.inj a i b j h1 h3 hl
def Lay.put(L:Lay)(a i g n:Nat):Lay:=⟨fun b j=>if b=a∧j=i then g else L.loc b j,fun b j=>if b=a∧j=i then n else L.size b j⟩
theorem Lay.put_loc(L:Lay)(a i g n:Nat):(L.put a i g n).loc a i=g:=by simp[Lay.put]
theorem Lay.put_size(L:Lay)(a i g n:Nat):(L.put a i g n).size a i=n:=by simp[Lay.put]
theorem Lay.put_ne(L:Lay){a i:Nat}(g n:Nat){b j:Nat}(hne:¬(b=a∧j=i)):(L.put a i g n).loc b j=L.loc b j∧(L.put a i g n).size b j=L.size b j:=by simp[Lay.put,hne]
theorem Zyo(H:HRel C h L w){g:Nat}(ho:Zaq C h L g){a i:Nat}(hl:Plc h L a i):g≠L.loc a i:=by
 rintro rfl
 rcases ho with ho |⟨h1,h2⟩
 ·rcases H.home a i hl with h3 |⟨_,_,_,h3⟩
  ·omega
  ·exact h3 ho.2
 ·exact h2 a i hl rfl
theorem HRel.pushK(H:HRel C h L w)(kill:Nat→Nat→Prop)(hm:Zaa)(hn:∀a,nxt hm a=nxt h a)(hkk:∀a i,blk hm a i=.dead∨(¬kill a i∧blk hm a i=blk h a i))(a:Nat)(b:Blk)(g n:Nat)
 (hb:Below C.base w w') (hsame:∀k,k<w.heap.size→(∀b j,kill b j→Plc h L b j→k≠L.loc b j)→w'.heap[k]? =w.heap[k]?)
 (hg:plc b.tag n→(w.heap.size≤g∧g<w'.heap.size)∨∃b j,kill b j∧Plc h L b j∧g=L.loc b j) (hgn:plc b.tag n→C.n0≤g)
 (h0:Step w (Zaq C h L) h L w' (Zaq C (Zai hm a b) (L.put a (nxt h a) g n)) (Zai hm a b) (L.put a (nxt h a) g n)→BRel C (Zai hm a b) (L.put a (nxt h a) g n) w' g n b):
 Step w (Zaq C h L) h L w' (Zaq C (Zai hm a b) (L.put a (nxt h a) g n)) (Zai hm a b) (L.put a (nxt h a) g n)∧HRel C (Zai hm a b) (L.put a (nxt h a) g n) w':=by
 have hblk:∀c i,blk (Zai hm a b) c i=if a=c∧i=nxt h a then b else blk hm c i:=fun c i=>by rw[ZaM,hn]
 have hold:∀c i,¬(c=a∧i=nxt h a)→blk (Zai hm a b) c i=.dead∨(¬kill c i∧blk (Zai hm a b) c i=blk h c i):=fun c i hne=>by
  rw[hblk,if_neg (fun e=>hne ⟨e.1.symm,e.2⟩)];exact hkk c i
 have hpn:∀c i,c=a∧i=nxt h a→Plc (Zai hm a b) (L.put a (nxt h a) g n) c i→plc b.tag n:=fun c i e p=>by
  obtain⟨rfl,rfl⟩:=e
  unfold Plc at p
  rwa[hblk,if_pos ⟨rfl,rfl⟩,Lay.put_size]at p
 have hpo:∀c i,¬(c=a∧i=nxt h a)→Plc (Zai hm a b) (L.put a (nxt h a) g n) c i→¬kill c i∧Plc h L c i:=fun c i hne p=>by
  rcases hold c i hne with hd |⟨hk,he⟩
  ·exact absurd (by rw[hd];rfl) p.tag
  ·exact⟨hk,p.to (by rw[he]) (L.put_ne g n hne).2.symm⟩
 have hs:Step w (Zaq C h L) h L w' (Zaq C (Zai hm a b) (L.put a (nxt h a) g n)) (Zai hm a b) (L.put a (nxt h a) g n):=by
  refine⟨hb.size,fun k hk ho=>⟨?_,hsame k hk (fun b j _ hl=>Zyo H ho hl)⟩,fun c=>?_,fun c i sz hi ht=>?_⟩
  ·rcases ho with ho |⟨h1,h2⟩
   ·exact .inl ho
   ·refine .inr ⟨h1,fun c i ht=>?_⟩
    by_cases hne:c=a∧i=nxt h a
    ·have hg:=hg (hpn c i hne ht)
     obtain⟨rfl,rfl⟩:=hne
     rw[Lay.put_loc]
     rintro rfl
     rcases hg with⟨hg,_⟩ |⟨b',j',_,hl,hg⟩
     ·omega
     ·exact h2 b' j' hl hg.symm
    ·rw[(L.put_ne g n hne).1]
     exact h2 c i (hpo c i hne ht).2
  ·rw[Zb7]
   split
   ·rename_i e;subst e;rw[hn];omega
   ·rw[hn];exact Nat.le_refl _
  ·have hne:¬(c=a∧i=nxt h a):=by rintro⟨rfl,rfl⟩;omega
   rcases hold c i hne with hd |⟨_,he⟩
   ·rw[hd]at ht;cases ht
   ·rw[he]at ht;exact⟨ht,(L.put_ne g n hne).1,(L.put_ne g n hne).2⟩
 refine⟨hs,H.one hs hb a (nxt h a) (fun c i hne=>?_) (fun p=>?_) (fun p=>.inl (by rw[Lay.put_loc];exact hgn (hpn _ _ ⟨rfl,rfl⟩ p))) (fun k hk ho=>hsame k (Nat.lt_of_lt_of_le hk H.top) (fun b j _ hl=>H.off hk ho hl)) ?_ (fun c i hne ht p=>?_)⟩
 ·rcases hold c i hne with hd |⟨hnk,he⟩
  ·exact .inl hd
  ·refine .inr ⟨he,(L.put_ne g n hne).1,(L.put_ne g n hne).2,fun hp=>hsame _ (H.live c i hp).2 (fun b j hkl hl e=>?_)⟩
   obtain⟨rfl,rfl⟩:=H.inj c i b j hp hl e
   exact hnk hkl
 ·have hg:=hg (hpn _ _ ⟨rfl,rfl⟩ p)
  rw[Lay.put_loc]
  rcases hg with hg |⟨b',j',_,hl,rfl⟩
  ·exact⟨Nat.le_trans H.hbase hg.1,hg.2⟩
  ·exact⟨(H.live b' j' hl).1,Nat.lt_of_lt_of_le (H.live b' j' hl).2 hb.size⟩
 ·rw[Lay.put_loc,Lay.put_size,hblk,if_pos ⟨rfl,rfl⟩];exact h0 hs
 ·have hg:=hg (hpn _ _ ⟨rfl,rfl⟩ p)
  obtain⟨hnk,ht'⟩:=hpo c i hne ht
  rw[Lay.put_loc]
  rcases hg with hg |⟨b',j',hkl,hl,hgg⟩
  ·have:=(H.live c i ht').2;omega
  ·intro e
   obtain⟨rfl,rfl⟩:=H.inj c i b' j' ht' hl (e.trans hgg)
   exact hnk hkl
theorem HRel.pushP(H:HRel C h L w)(a:Nat)(b:Blk)(g n:Nat)(hb:Below w.heap.size w w')(hg:plc b.tag n→w.heap.size≤g∧g<w'.heap.size)
 (h0:Step w (Zaq C h L) h L w' (Zaq C (Zai h a b) (L.put a (nxt h a) g n)) (Zai h a b) (L.put a (nxt h a) g n)→BRel C (Zai h a b) (L.put a (nxt h a) g n) w' g n b):
 Step w (Zaq C h L) h L w' (Zaq C (Zai h a b) (L.put a (nxt h a) g n)) (Zai h a b) (L.put a (nxt h a) g n)∧HRel C (Zai h a b) (L.put a (nxt h a) g n) w':=
 H.pushK (fun _ _=>False) h (fun _=>rfl) (fun _ _=>.inr ⟨fun e=>e,rfl⟩) a b g n (hb.mono H.hbase) (fun k hk _=>hb.block k hk) (fun hp=>.inl (hg hp)) (fun hp=>Nat.le_trans H.top (hg hp).1) h0
theorem HRel.push(H:HRel C h L w)(a:Nat)(b:Blk)(g n:Nat)(hb:Below w.heap.size w w')(hg:w.heap.size≤g∧g<w'.heap.size)
 (h0:Step w (Zaq C h L) h L w' (Zaq C (Zai h a b) (L.put a (nxt h a) g n)) (Zai h a b) (L.put a (nxt h a) g n)→BRel C (Zai h a b) (L.put a (nxt h a) g n) w' g n b):
 Step w (Zaq C h L) h L w' (Zaq C (Zai h a b) (L.put a (nxt h a) g n)) (Zai h a b) (L.put a (nxt h a) g n)∧HRel C (Zai h a b) (L.put a (nxt h a) g n) w':=
 H.pushK (fun _ _=>False) h (fun _=>rfl) (fun _ _=>.inr ⟨fun e=>e,rfl⟩) a b g n (hb.mono H.hbase) (fun k hk _=>hb.block k hk) (fun _=>.inl hg) (fun _=>Nat.le_trans H.top hg.1) h0
theorem HRel.set(H:HRel C h L w){a i:Nat}{b:Blk}(hl:Plc h L a i)(ht:b.tag=(blk h a i).tag)(hg:w.grownBy w' (some (L.loc a i)))
 (h0:Step w (Zaq C h L) h L w' (Zaq C (ZaE h a i b) L) (ZaE h a i b) L→BRel C (ZaE h a i b) L w' (L.loc a i) (L.size a i) b):
 Step w (Zaq C h L) h L w' (Zaq C (ZaE h a i b) L) (ZaE h a i b) L∧HRel C (ZaE h a i b) L w':=by
 have hnd:blk h a i≠ .dead:=fun e=>hl.tag (by rw[e];rfl)
 have hblk:∀c j,blk (ZaE h a i b) c j=if a=c∧i=j then b else blk h c j:=fun c j=>Zb0 hnd c j b
 have htag:∀c j,(blk (ZaE h a i b) c j).tag=(blk h c j).tag:=fun c j=>by
  rw[hblk];split
  ·rename_i e;obtain⟨rfl,rfl⟩:=e;exact ht
  ·rfl
 have hp:∀c j,Plc (ZaE h a i b) L c j→Plc h L c j:=fun c j p=>p.to (htag c j).symm rfl
 have hb:Below C.base w w':=(Below.refl _ _).grown hg H.hbase (fun k hk=>by cases hk;exact(H.live a i hl).1)
 have hs:Step w (Zaq C h L) h L w' (Zaq C (ZaE h a i b) L) (ZaE h a i b) L:=by
  refine⟨hb.size,fun k hk ho=>⟨?_,hg.block k hk (fun e=>Zyo H ho hl (by simpa using e))⟩,fun c=>by rw[ZdT];exact Nat.le_refl _,fun c j sz _ htt=>⟨by rw[←htag];exact htt,rfl,rfl⟩⟩
  rcases ho with ho |⟨h1,h2⟩
  ·exact .inl ho
  ·exact .inr ⟨h1,fun c j hc=>h2 c j (hp c j hc)⟩
 refine⟨hs,H.one hs hb a i (fun c j hne=>?_) (fun _=>⟨(H.live a i hl).1,Nat.lt_of_lt_of_le (H.live a i hl).2 hb.size⟩) (fun _=>H.home a i hl) (fun k hk ho=>hg.block k (Nat.lt_of_lt_of_le hk H.top) (fun e=>H.off hk ho hl (by simpa using e))) (by rw[hblk,if_pos ⟨rfl,rfl⟩];exact h0 hs) (fun c j hne hc _ e=>?_)⟩
 ·have he:blk (ZaE h a i b) c j=blk h c j:=by rw[hblk,if_neg (fun e=>hne ⟨e.1.symm,e.2.symm⟩)]
  refine .inr ⟨he,rfl,rfl,fun hdd=>hg.block _ (H.live c j hdd).2 (fun e=>?_)⟩
  obtain⟨rfl,rfl⟩:=H.inj c j a i hdd hl (by simpa using e)
  exact hne ⟨rfl,rfl⟩
 ·obtain⟨rfl,rfl⟩:=H.inj c j a i (hp c j hc) hl e
  exact hne ⟨rfl,rfl⟩
theorem HRel.kill(H:HRel C h L w)(h':Zaa)(hn:∀a,nxt h' a=nxt h a)(hk:∀a i,blk h' a i=.dead∨blk h' a i=blk h a i):
 Step w (Zaq C h L) h L w (Zaq C h' L) h' L∧HRel C h' L w:=by
 have htag:∀a i,Plc h' L a i→Plc h L a i:=fun a i ht=>by
  rcases hk a i with e |e
  ·exact absurd (by rw[e];rfl) ht.tag
  ·exact ht.to (by rw[e]) rfl
 have hs:Step w (Zaq C h L) h L w (Zaq C h' L) h' L:=by
  refine⟨Nat.le_refl _,fun k hk' ho=>⟨?_,rfl⟩,fun a=>by rw[hn];exact Nat.le_refl _,fun a i sz _ ht=>?_⟩
  ·rcases ho with ho |⟨h1,h2⟩
   ·exact .inl ho
   ·exact .inr ⟨h1,fun a i ht=>h2 a i (htag a i ht)⟩
  ·rcases hk a i with e |e
   ·rw[e]at ht;cases ht
   ·rw[e]at ht;exact⟨ht,rfl,rfl⟩
 refine⟨hs,H.below,fun a i ht=>H.live a i (htag a i ht),fun a i=>?_,fun a i b j h1 h2 e=>H.inj a i b j (htag a i h1) (htag b j h2) e,fun a i ht=>H.home a i (htag a i ht),H.low,H.base,H.good⟩
 rcases hk a i with e |e
 ·rw[e];trivial
 ·rw[e];exact(H.blks a i).step hs fun _=>rfl
theorem HRel.grow(H:HRel C h L w)(hb:Below w.heap.size w w'):Step w (Zaq C h L) h L w' (Zaq C h L) h L∧HRel C h L w':=by
 have hs:Step w (Zaq C h L) h L w' (Zaq C h L) h L:=⟨hb.size,fun k hk ho=>⟨ho,hb.block k hk⟩,fun a=>Nat.le_refl _,fun a i sz _ ht=>⟨ht,rfl,rfl⟩⟩
 exact⟨hs,H.below.trans (hb.mono H.hbase),fun a i ht=>⟨(H.live a i ht).1,Nat.lt_of_lt_of_le (H.live a i ht).2 hb.size⟩,
  fun a i=>(H.blks a i).step hs fun hp=>hb.block _ (H.live a i hp).2,H.inj,H.home,fun k hk ho=>(hb.block k (Nat.lt_of_lt_of_le hk H.top)).trans (H.low k hk ho),H.base,H.good⟩
end
end Go.Proofs.YtjhldefnjghcdaaGreat
namespace Go.Proofs.YtjhldefnjghcdaaGreat
open Go.RowKit (Below)
def Zac:Bool→Bool→Bool
 |true,b=>b
 |false,_=>false
structure Ar where
 add:Int→Int→Int
 sub:Int→Int→Int
 mul:Int→Int→Int
 quo:Int→Int→Int
 rem:Int→Int→Int
 neg:Int→Int
 bits:BinOp→IntKind→Int→Int→Int
 shl:Int→Int→Int
 shr:Int→Int→Int
 lt:Int→Int→Bool
 le:Int→Int→Bool
 eq:Int→Int→Bool
 inR:IntKind→Int→Bool
 nat:Int→Nat
 int:Nat→Int
 max:Int→Int→Int
 min:Int→Int→Int
 len:zI→Nat
 nth:zI→Nat→Int
 set:zI→Nat→Int→zI
 app:zI→zI→zI
 sub3:zI→Nat→Nat→zI
 rep:Nat→Int→zI
 lenF:List Nat→Nat
 nthF:List Nat→Nat→Nat
 setF:List Nat→Nat→Nat→List Nat
 appF:List Nat→List Nat→List Nat
 subF:List Nat→Nat→Nat→List Nat
 repF:Nat→Nat→List Nat
 lenA:List AV→Nat
 nthA:List AV→Nat→AV
 setA:List AV→Nat→AV→List AV
 appA:List AV→List AV→List AV
 subA:List AV→Nat→Nat→List AV
 repA:Nat→AV→List AV
 lenS:List UInt8→Nat
 nthS:List UInt8→Nat→Int
 appS:List UInt8→List UInt8→List UInt8
 subS:List UInt8→Nat→Nat→List UInt8
 eqS:List UInt8→List UInt8→Bool
 ltS:List UInt8→List UInt8→Bool
 hasS:List AV→List UInt8→Bool
 byt:List UInt8→zI
 fadd:FloatKind→Nat→Nat→Option Nat
 fsub:FloatKind→Nat→Nat→Option Nat
 ford:FloatKind→Nat→Nat→Option Ordering
 fneg:FloatKind→Nat→Bool
 i2f:FloatKind→Int→Nat
 f2i:FloatKind→Nat→Option Int
 not:Bool→Bool
def sub3{α:Type}(l:List α)(k n:Nat):List α:=(l.drop k).take n
def std:Ar where
 add:=(· + ·)
 sub:=(· - ·)
 mul:=(· * ·)
 quo:=Int.tdiv
 rem:=Int.tmod
 neg:=fun a=> -a
 bits:=fun op k a b=>match Op.intBits op k a b with | .pure (.int _ n)=>n |_=>0
 shl:=fun a b=>a*2^b.toNat
 shr:=fun a b=>a.fdiv (2^b.toNat)
 lt:=fun a b=>decide (a<b)
 le:=fun a b=>decide (a≤b)
 eq:=fun a b=>decide (a=b)
 inR:=fun k n=>decide (k.min≤n∧n≤k.max)
 nat:=Int.toNat
 int:=fun n=>(n:Int)
 max:=fun a b=>Max.max a b
 min:=fun a b=>Min.min a b
 len:=List.length
 nth:=fun l j=>l.getD j 0
 set:=List.set
 app:=(· ++ ·)
 sub3:=sub3
 rep:=List.replicate
 lenF:=List.length
 nthF:=fun l j=>l.getD j 0
 setF:=List.set
 appF:=(· ++ ·)
 subF:=sub3
 repF:=List.replicate
 lenA:=List.length
 nthA:=fun l j=>l.getD j .top
 setA:=List.set
 appA:=(· ++ ·)
 subA:=sub3
 repA:=List.replicate
 lenS:=List.length
 nthS:=fun l j=>((l.getD j 0).toNat:Int)
 appS:=(· ++ ·)
 subS:=sub3
 eqS:=fun a b=>a==b
 ltS:=Op.bytesLess
 hasS:=fun ks s=>ks.any fun k=>k.toS==s
 byt:=fun s=>s.map fun b=>(b.toNat:Int)
 fadd:=fun k a b=>k.format.add a b
 fsub:=fun k a b=>k.format.sub a b
 ford:=fun k a b=>k.format.order a b
 fneg:=fun k a=>(k.decode a).neg
 i2f:=fun k n=>k.nearest n
 f2i:=fun k b=>(k.decode b).toInt .zero
 not:=fun a=>!a
mutual
def ZbO:Sh→Sh→Bool
 | .int k, .int k'=>decide (k=k')
 | .bool, .bool=>true
 | .str, .str=>true
 | .flt k, .flt k'=>decide (k=k')
 | .ints k, .ints k'=>decide (k=k')
 | .big s, .big t=>ZbO s t
 | .agg ss, .agg ts=>Zud ss ts
 |_,_=>false
def Zud:List Sh→List Sh→Bool
 |[],[]=>true
 |s::ss,t::ts=>match ZbO s t with |true=>Zud ss ts |false=>false
 |_,_=>false
end
def Zxj:Sh→AV→Bool
 | .int k, .int k' _=>decide (k=k')
 | .bool, .bool _=>true
 | .str, .str _=>true
 | .flt k, .flt k' _=>decide (k=k')
 | .ints k, .list (.ints k' _)=>decide (k=k')
 | .big s, .list (.big t _)=>ZbO s t
 |_,_=>false
def ZtQ:List Sh→List AV→Bool
 |[],[]=>true
 |s::ss,x::xs=>match Zxj s x with |true=>ZtQ ss xs |false=>false
 |_,_=>false
def ZEF:Sh→AV→Bool
 | .agg ss, .agg (.gen xs)=>ZtQ ss xs
 | .agg _,_=>false
 |s,v=>Zxj s v
def Zuv(sh:Sh):List AV→Bool
 |[]=>true
 |x::xs=>match ZEF sh x with |true=>Zuv sh xs |false=>false
def ZJj:AV→Option Sh
 | .int k _=>some (.int k)
 | .bool _=>some .bool
 | .str _=>some .str
 | .flt k _=>some (.flt k)
 | .list (.ints k _)=>some (.ints k)
 | .list (.big s _)=>some (.big s)
 |_=>none
def ZJW:List AV→Option (List Sh)
 |[]=>some []
 |x::xs=>match ZJj x,ZJW xs with |some s,some ss=>some (s::ss) |_,_=>none
def ZOH:AV→Option Sh
 | .agg (.gen xs)=>(match ZJW xs with |some ss=>some (.agg ss) |none=>none)
 |v=>ZJj v
def Row.len(A:Ar):Row→Nat
 | .gen xs=>xs.length
 | .ints _ l=>A.len l
 | .flts _ l=>A.lenF l
 | .big _ xs=>A.lenA xs
 | .refs _ p=>A.lenF p
def Row.get(A:Ar)(j:Nat):Row→AV
 | .gen xs=>xs.getD j .top
 | .ints k l=>.int k (A.nth l j)
 | .flts k l=>.flt k (A.nthF l j)
 | .big sh xs=>sh.view (A.nthA xs j)
 | .refs a p=>.row a (A.nthF p j)
def Row.set(A:Ar)(r:Row)(j:Nat)(v:AV):Row:=
 match r,v with
 | .ints k l, .int k' n=>match decide (k=k')with |true=>.ints k (A.set l j n) |false=>.gen (((Row.ints k l).elems).set j v)
 | .flts k l, .flt k' n=>match decide (k=k')with |true=>.flts k (A.setF l j n) |false=>.gen (((Row.flts k l).elems).set j v)
 | .big sh xs,v=>match ZEF sh v with |true=>.big sh (A.setA xs j v) |false=>.gen ((Row.big sh xs).elems.set j v)
 | .refs a p, .row b i=>match Nat.beq a b with |true=>.refs a (A.setF p j i) |false=>.gen ((Row.refs a p).elems.set j (.row b i))
 |r,v=>.gen (r.elems.set j v)
def Row.app(A:Ar)(r s:Row):Row:=
 match r,s with
 | .gen [],s=>s
 |r, .gen []=>r
 | .ints k l, .ints k' l'=>match decide (k=k')with |true=>.ints k (A.app l l') |false=>.gen ((Row.ints k l).elems++(Row.ints k' l').elems)
 | .flts k l, .flts k' l'=>match decide (k=k')with |true=>.flts k (A.appF l l') |false=>.gen ((Row.flts k l).elems++(Row.flts k' l').elems)
 | .big sh xs, .big sh' ys=>match ZbO sh sh' with |true=>.big sh (A.appA xs ys) |false=>.gen ((Row.big sh xs).elems++(Row.big sh' ys).elems)
 | .big sh xs, .gen ys=>match Zuv sh ys with |true=>.big sh (A.appA xs ys) |false=>.gen ((Row.big sh xs).elems++ys)
 | .gen ys, .big sh xs=>match Zuv sh ys with |true=>.big sh (A.appA ys xs) |false=>.gen (ys++(Row.big sh xs).elems)
 | .refs a p, .refs b q=>match Nat.beq a b with |true=>.refs a (A.appF p q) |false=>.gen ((Row.refs a p).elems++(Row.refs b q).elems)
 |r,s=>.gen (r.elems++s.elems)
def Row.sub(A:Ar)(k n:Nat):Row→Row
 | .gen xs=>.gen (sub3 xs k n)
 | .ints kd l=>.ints kd (A.sub3 l k n)
 | .flts kd l=>.flts kd (A.subF l k n)
 | .big sh xs=>.big sh (A.subA xs k n)
 | .refs a p=>.refs a (A.subF p k n)
def Zez(k:IntKind):List AV→Option zI
 |[]=>some []
 | .int k' n::t=>match decide (k'=k)with |true=>(match Zez k t with |some l=>some (n::l) |none=>none) |false=>none
 |_=>none
def Row.toInts:Row→Row
 | .gen (.int k n::t)=>match Zez k t with | .some l=>.ints k (n::l) | .none=>.gen (.int k n::t)
 |r=>r
def Row.blit(A:Ar)(r:Row)(k:Nat)(s:Row):Row:=
 match r,s with
 | .ints kd l, .ints kd' m=>match decide (kd=kd')with
   |true=>.ints kd (A.app (A.app (A.sub3 l 0 k) m) (A.sub3 l (k+(A.len m)) (A.len l)))
   |false=>.gen ((Row.ints kd l).elems.take k++(Row.ints kd' m).elems++(Row.ints kd l).elems.drop (k+(Row.ints kd' m).elems.length))
 | .flts kd l, .flts kd' m=>match decide (kd=kd')with
   |true=>.flts kd (A.appF (A.appF (A.subF l 0 k) m) (A.subF l (k+(A.lenF m)) (A.lenF l)))
   |false=>.gen ((Row.flts kd l).elems.take k++(Row.flts kd' m).elems++(Row.flts kd l).elems.drop (k+(Row.flts kd' m).elems.length))
 | .big sh xs, .big sh' ys=>match ZbO sh sh' with
   |true=>.big sh (A.appA (A.appA (A.subA xs 0 k) ys) (A.subA xs (k+(A.lenA ys)) (A.lenA xs)))
   |false=>.gen ((Row.big sh xs).elems.take k++(Row.big sh' ys).elems++(Row.big sh xs).elems.drop (k+(Row.big sh' ys).elems.length))
 |r, .gen []=>r
 |r,s=>.gen (r.elems.take k++s.elems++r.elems.drop (k+s.elems.length))
def Ztd(k:IntKind):List AV→Option zI
 |[]=>some []
 | .int k' n::r=>match decide (k=k')with |true=>(match Ztd k r with |some l=>some (n::l) |none=>none) |false=>none
 |_::_=>none
def ZsD(k:FloatKind):List AV→Option (List Nat)
 |[]=>some []
 | .flt k' n::r=>match decide (k=k')with |true=>(match ZsD k r with |some l=>some (n::l) |none=>none) |false=>none
 |_::_=>none
def ZsT(a:Nat):List AV→Option (List Nat)
 |[]=>some []
 | .row b i::r=>match Nat.beq a b with |true=>(match ZsT a r with |some l=>some (i::l) |none=>none) |false=>none
 |_::_=>none
def Zro(xs:List AV):Row:=
 match xs with
 | .row a i::r=>(match Nat.ble 1000000 a with |true=>(match ZsT a r with |some l=>.refs a (i::l) |none=>.gen xs) |false=>.gen xs)
 | .int k n::r=>(match Ztd k r with |some l=>.ints k (n::l) |none=>.gen xs)
 | .flt k n::r=>(match ZsD k r with |some l=>.flts k (n::l) |none=>.gen xs)
 |x::_=>(match ZOH x with |some sh=>(match Zuv sh xs with |true=>.big sh xs |false=>.gen xs) |none=>.gen xs)
 |[]=>.gen xs
def Zul:Row→Row
 | .gen xs=>Zro xs
 |y=>y
def Zqz(A:Ar)(n:Nat):AV→Row
 | .int k m=>.ints k (A.rep n m)
 | .flt k m=>.flts k (A.repF n m)
 |v=>match ZOH v with
  |some sh=>(match ZEF sh v with |true=>.big sh (A.repA n v) |false=>.gen (List.replicate n v))
  |none=>.gen (List.replicate n v)
def Row.sing:Row→Bool
 | .gen xs=>xs.all AV.single
 | .ints _ _=>true
 | .flts _ _=>true
 | .big sh _=>sh.single
 | .refs _ _=>true
def Row.part(A:Ar)(r:Row)(k n:Nat):Row:=
 match r with
 | .ints kd l=>.ints kd (A.sub3 l k n)
 | .flts kd l=>.flts kd (A.subF l k n)
 | .big sh xs=>.big sh (A.subA xs k n)
 | .refs a p=>.refs a (A.subF p k n)
 | .gen xs=>.gen (sub3 xs k n)
abbrev Out:=Option (Bool×AV)
def ZOa(A:Ar)(op:BinOp)(k:IntKind)(a b:Int):Out:=
 match op with
 | .add=>some (A.inR k (A.add a b), .int k (A.add a b))
 | .sub=>some (A.inR k (A.sub a b), .int k (A.sub a b))
 | .mul=>some (A.inR k (A.mul a b), .int k (A.mul a b))
 | .quo=>some (Zac (A.not (A.eq b 0)) (A.inR k (A.quo a b)), .int k (A.quo a b))
 | .rem=>some (A.not (A.eq b 0), .int k (A.rem a b))
 | .and=>some (true, .int k (A.bits .and k a b))
 | .or=>some (true, .int k (A.bits .or k a b))
 | .xor=>some (true, .int k (A.bits .xor k a b))
 | .andNot=>some (true, .int k (A.bits .andNot k a b))
 | .eql=>some (true, .bool (A.eq a b))
 | .neq=>some (true, .bool (A.not (A.eq a b)))
 | .lss=>some (true, .bool (A.lt a b))
 | .leq=>some (true, .bool (A.le a b))
 | .gtr=>some (true, .bool (A.lt b a))
 | .geq=>some (true, .bool (A.le b a))
 |_=>none
def ZMq(A:Ar)(op:BinOp)(x y:List UInt8):Out:=
 match op with
 | .add=>some (Nat.ble ((A.lenS x)+(A.lenS y)) 4294967296, .str (A.appS x y))
 | .eql=>some (true, .bool (A.eqS x y))
 | .neq=>some (true, .bool (A.not (A.eqS x y)))
 | .lss=>some (true, .bool (A.ltS x y))
 |_=>none
def ZMI(A:Ar)(op:BinOp)(k:FloatKind)(x y:Nat):Out:=
 match op with
 | .add=>some ((A.fadd k x y).isSome, .flt k ((A.fadd k x y).getD 0))
 | .sub=>some ((A.fsub k x y).isSome, .flt k ((A.fsub k x y).getD 0))
 | .eql=>some (true, .bool (A.ford k x y==some .eq))
 | .neq=>some (true, .bool (A.ford k x y != some .eq))
 | .lss=>some (true, .bool (A.ford k x y==some .lt))
 | .gtr=>some (true, .bool (A.ford k x y==some .gt))
 |_=>none
def ZNO(A:Ar)(op:BinOp)(x y:AV):Out:=
 match x,y with
 | .int k a, .int k' b=>
   match op with
   | .shl=>some (Zac (Zac (A.le 0 b) (Nat.blt (A.nat b) k.bits)) (A.inR k (A.shl a b)), .int k (A.shl a b))
   | .shr=>some (Zac (A.le 0 b) (Nat.blt (A.nat b) k.bits), .int k (A.shr a b))
   |op=>match decide (k=k')with |true=>ZOa A op k a b |false=>none
 | .str a, .str b=>ZMq A op a b
 | .flt k a, .flt k' b=>match decide (k=k')with |true=>ZMI A op k a b |false=>none
 |_,_=>none
def ZDt(A:Ar)(op:BinOp)(x y:AV):Out:=
 match x,y with
 | .int k a, .int k' b=>(match decide (k=k')with
   |true=>(match op with
    | .add=>some (true, .int k (k.wrap (A.add a b)))
    | .sub=>some (true, .int k (k.wrap (A.sub a b)))
    | .mul=>some (true, .int k (k.wrap (A.mul a b)))
    |_=>none)
   |false=>none)
 |_,_=>none
def ZbA(A:Ar)(h:Zaa):AV→Option (Bool×Row)
 | .list r=>some (true,r)
 | .nils=>some (true, .gen [])
 | .row a i=>match blk h a i with | .row _ _ r=>some (true,r) |_=>none
 | .slc a i k n _=>match blk h a i with | .row _ _ r=>some (Nat.ble (k+n) (r.len A),r.sub A k n) |_=>none
 | .aslc a i k off n=>match blk h a i with
   | .row _ _ r=>match r.get A k with
     | .agg x=>some (Zac (Nat.blt k (r.len A)) (Zac (Nat.ble (off+n) (x.len A)) x.sing),Zul (x.part A off n))
     |_=>none
   |_=>none
 | .val v=>match v with | .slice (some _) 0 _=>some (true, .gen []) |_=>none
 |_=>none
def ZDw(A:Ar)(ag:Bool)(n off:Nat)(u:AV):Out:=
 match ag,u with
 |true, .agg x=>some (Nat.ble (off+n) (x.len A), .agg (x.sub A off n))
 |true,v=>some (Zac (Nat.beq off 0) (Nat.beq n 1), .agg (.gen [v]))
 |false, .agg x=>some (Nat.blt off (x.len A),x.get A off)
 |false,v=>some (Nat.beq off 0,v)
def Zk7(A:Ar)(h:Zaa)(ag:Bool)(n:Nat):AV→Out
 | .ptr a i k off=>match blk h a i with
   | .row _ sz r=>(match ag,r.get A k with
     |true, .int kd m=>some (Zac (Zac (Nat.beq sz 1) (Nat.beq off 0)) (Zac (Nat.ble (k+n) (r.len A)) (Zac (Nat.blt 0 n) r.sing)),match Nat.beq n 1 with |true=>.agg (.gen [.int kd m]) |false=>.agg (Zul (r.part A k n)))
     |ag,u=>match ZDw A ag n off u with |some (b,v)=>some (Zac (Nat.blt k (r.len A)) b,v) |none=>none)
   |_=>none
 | .eptr u off=>ZDw A ag n off u
 |_=>none
def Zad(A:Ar):AV→Nat
 | .agg x=>x.len A
 |_=>1
def ZLc(A:Ar)(sz n off:Nat)(u x:AV):Option (Bool×AV):=
 match u,x with
 | .agg us, .agg xs=>match Nat.beq off 0,Nat.beq n sz with
   |true,true=>some (Nat.beq (xs.len A) n,x)
   |_,_=>some (Zac (Nat.beq (xs.len A) n) (Nat.ble (off+n) sz), .agg (us.blit A off xs))
 | .agg us,x=>some (Zac (Zac x.bx (Nat.beq n 1)) (Nat.blt off sz), .agg (us.set A off x))
 |_,x=>some (Zac (Zac x.bx (Nat.beq off 0)) (Zac (Nat.beq n sz) (Nat.beq (Zad A x) n)),x)
def ZdD(A:Ar)(h:Zaa)(n:Nat)(p x:AV):Option (Bool×AV×Zaa):=
 match p with
 | .ptr a i k off=>match blk h a i with
   | .row e sz r=>match ZLc A sz n off (r.get A k) x with
     |some (b,v)=>some (Zac (Nat.blt k (r.len A)) b, .und,ZaE h a i (.row e sz (r.set A k v)))
     |none=>none
   |_=>none
 |_=>none
def ZrQ(A:Ar)(h:Zaa)(n:Nat)(p x:AV):Option (Bool×AV×Zaa):=
 match x with
 | .slc a i 0 m none=>(match Zos a,blk h a i with
   |false, .row e sz r=>(match ZdD A (Zai (ZaE h a i .dead) a (.row e sz (r.sub A 0 m))) n p (.row a (nxt (ZaE h a i .dead) a))with
    |some (b,v,h2)=>some (Zac (Nat.ble m (r.len A)) b,v,h2)
    |none=>none)
   |_,_=>none)
 |x=>ZdD A h n p x
def Zby(A:Ar)(h:Zaa)(sz:Nat)(x i:AV):Out:=
 match i with
 | .int _ n=>match x with
   | .list r=>some (Zac (Zac (A.le 0 n) (Nat.blt (A.nat n) (r.len A))) (Nat.beq (Zad A (r.get A (A.nat n))) sz), .eptr (r.get A (A.nat n)) 0)
   | .row a j=>match blk h a j with
     | .row _ sz' r=>some (Zac (Nat.beq sz' sz) (Zac (A.le 0 n) (Nat.blt (A.nat n) (r.len A))), .ptr a j (A.nat n) 0)
     |_=>none
   | .slc a j k m _=>match blk h a j with
     | .row _ sz' _=>some (Zac (Nat.beq sz' sz) (Zac (A.le 0 n) (Nat.blt (A.nat n) m)), .ptr a j (k+(A.nat n)) 0)
     |_=>none
   | .aslc a j k off m=>match blk h a j with
     | .row .. =>some (Zac (Nat.beq sz 1) (Zac (A.le 0 n) (Nat.blt (A.nat n) m)), .ptr a j k (off+(A.nat n)))
     |_=>none
   |_=>none
 |_=>none
def ZfR(A:Ar)(sz:Nat)(n:Int):Nat:=match Nat.beq sz 1 with |true=>A.nat n |false=>A.nat n*sz
def Zxt(_:Ar)(off:Nat):AV→Out
 | .ptr a i k o=>some (true, .ptr a i k (o+off))
 | .eptr u o=>some (true, .eptr u (o+off))
 |_=>none
def ZpG(A:Ar)(ln sz:Nat)(p i:AV):Out:=
 match i with
 | .int _ n=>match p with
   | .ptr a j k off=>some (Zac (A.le 0 n) (A.lt n (A.int ln)), .ptr a j k (off+(ZfR A sz n)))
   | .eptr u off=>some (Zac (A.le 0 n) (A.lt n (A.int ln)), .eptr u (off+(ZfR A sz n)))
   |_=>none
 |_=>none
def ZzH:Opd→Option Nat
 | .c (.int _ n)=>some n.toNat
 |_=>none
def ZsE(ln sz:Nat)(p:AV)(n:Nat):Out:=
 match p with
 | .ptr a j k off=>some (Nat.blt n ln, .ptr a j k (off+n*sz))
 | .eptr u off=>some (Nat.blt n ln, .eptr u (off+n*sz))
 |_=>none
def ZzP:Opd→Bool
 | .c (.int _ n)=>match n with | .ofNat _=>true | .negSucc _=>false
 |_=>false
def Zz0(ln sz:Nat)(p i:AV):Out:=
 match i with
 | .int _ n=>(match n with | .ofNat m=>ZsE ln sz p m | .negSucc _=>none)
 |_=>none
def ZIE(A:Ar)(ln sz:Nat)(x i:AV):Out:=
 match x,i with
 | .agg r, .int _ n=>(match n with | .ofNat m=>some (Zac (Nat.blt m ln) (Nat.ble (m*sz+sz) (r.len A)), .agg (r.sub A (m*sz) sz)) | .negSucc _=>none)
 |_,_=>none
def isS:Opd→Bool
 | .s _=>true
 |_=>false
def ZPj(A:Ar)(ln:Nat):AV→AV→Out
 | .agg r, .int _ (.ofNat m)=>some (Zac (Nat.blt m ln) (Nat.blt m (r.len A)),r.get A m)
 |_,_=>none
def Zd6(A:Ar)(h:Zaa)(sz:Nat)(x i:AV):Out:=
 match x with
 | .row a j=>(match i with
   | .int k n=>(match n with
     | .ofNat m=>(match blk h a j with
       | .row _ sz' r=>some (Zac (Nat.beq sz' sz) (Nat.blt m (r.len A)), .ptr a j m 0)
       |_=>none)
     | .negSucc m=>Zby A h sz (.row a j) (.int k (.negSucc m)))
   |i=>Zby A h sz (.row a j) i)
 | .list r=>(match i with
   | .int k n=>(match n with
     | .ofNat m=>some (Zac (Nat.blt m (r.len A)) (Nat.beq (Zad A (r.get A m)) sz), .eptr (r.get A m) 0)
     | .negSucc m=>Zby A h sz (.list r) (.int k (.negSucc m)))
   |i=>Zby A h sz (.list r) i)
 |x=>Zby A h sz x i
def Zvd(A:Ar)(ρ:Opd→AV)(ln sz:Nat)(p i:Opd):Out:=
 match isS i with
 |true=>Zz0 ln sz (ρ p) (ρ i)
 |false=>match ZzP i with
 |true=>(match ZzH i with |some n=>ZsE ln sz (ρ p) n |none=>ZpG A ln sz (ρ p) (ρ i))
 |false=>ZpG A ln sz (ρ p) (ρ i)
def ZfP(A:Ar)(ρ:Opd→AV)(d:Nat):Option Opd→Option (Bool×Nat)
 |none=>some (true,d)
 |some x=>match ρ x with | .int _ n=>some (A.le 0 n,A.nat n) |_=>none
def Row.unit(A:Ar)(sz:Nat)(r:Row):Bool:=match r with | .gen []=>true |r=>Nat.beq (Zad A (r.get A 0)) sz
def goX(A:Ar)(ρ:Opd→AV)(hi:Option Opd)(b1:Bool)(l n p:Nat)(f:Nat→Out):Out:=
 match ZfP A ρ n hi with
 |none=>none
 |some (b2,m)=>match f m with
  |some (b3,v)=>some (Zac (Zac b1 b2) (Zac (Zac (Nat.ble l m) (Nat.ble m p)) b3),v)
  |none=>none
def goR(A:Ar)(ρ:Opd→AV)(hi:Option Opd)(b1:Bool)(l n:Nat)(f:Nat→Out):Out:=goX A ρ hi b1 l n n f
def ZLf:Nat→Option Nat→Option Opd→Option Opd→Option Opd→Nat→Nat→Nat
 |0,none,some _,some _,none,n,ln=>max n ln
 |_,_,_,_,_,n,_=>n
def ZxE(A:Ar)(ρ:Opd→AV)(mx:Option Opd)(l n m:Nat)(c:Option Nat):Option (Bool×Option Nat):=
 match mx with
 |none=>(match c with |none=>some (true,none) |some c=>some (true,some (c-l)))
 |some y=>match ρ y with | .int _ q=>some (Zac (A.le 0 q) (Zac (Nat.ble m (A.nat q)) (Nat.ble (A.nat q) n)),some ((A.nat q)-l)) |_=>none
def ZOF(lo hi mx:Option Opd):Bool:=
 match lo,hi,mx with
 |none,none,none=>true
 |_,_,_=>false
def Zx5(A:Ar)(ρ:Opd→AV)(h:Zaa)(sz:Nat)(lo hi mx:Option Opd)(b1:Bool)(l:Nat):AV→Out
 | .list r=>goR A ρ hi b1 l (r.len A) fun m=>(match ZxE A ρ mx l (r.len A) m none with |some (b,_)=>some (Zac (r.unit A sz) b, .list (r.sub A l (m-l))) |none=>none)
 | .nils=>goR A ρ hi b1 l 0 fun m=>(match ZxE A ρ mx l 0 m none with |some (b,_)=>some (b, .nils) |none=>none)
 | .row a i=>(match blk h a i with
   | .row _ sz' r=>goR A ρ hi b1 l (r.len A) fun m=>(match ZxE A ρ mx l (r.len A) m none with
     |some (b,c)=>(match ZOF lo hi mx with
      |true=>some (true, .row a i)
      |false=>some (Zac (Nat.beq sz' sz) b, .slc a i l (m-l) c))
     |none=>none)
   |_=>none)
 | .slc a i k n c=>(match blk h a i with
   | .row _ sz' r=>goX A ρ hi b1 l n (ZLf k c lo hi mx n (r.len A)) fun m=>(match ZxE A ρ mx l n m c with |some (b,c')=>some (Zac (Nat.beq sz' sz) b, .slc a i (k+l) (m-l) c') |none=>none)
   |_=>none)
 | .aslc a i k off n=>goR A ρ hi b1 l n fun m=>(match ZxE A ρ mx l n m none with |some (b,_)=>some (Zac (Nat.beq sz 1) b, .aslc a i k (off+l) (m-l)) |none=>none)
 |_=>none
theorem Zhh(k:Nat)(c:Option Nat)(lo hi mx:Option Opd)(n ln:Nat):ZLf k c lo hi mx n ln=n∨(k=0∧c=none∧mx=none∧ZLf k c lo hi mx n ln=max n ln):=by
 unfold ZLf
 split
 ·exact .inr ⟨rfl,rfl,rfl,rfl⟩
 ·exact .inl rfl
def ZBj(A:Ar)(ρ:Opd→AV)(h:Zaa)(sz:Nat)(x:AV)(lo hi mx:Option Opd):Out:=
 match ZfP A ρ 0 lo with
 |none=>none
 |some (b1,l)=>Zx5 A ρ h sz lo hi mx b1 l x
def ZEC(A:Ar)(ρ:Opd→AV)(ln:Nat)(p:AV)(lo hi:Option Opd):Out:=
 match ZfP A ρ 0 lo,ZfP A ρ ln hi with
 |some (b1,l),some (b2,m)=>match p with
  | .ptr a i k off=>some (Zac (Zac b1 b2) (Zac (Nat.ble l m) (Nat.ble m ln)), .aslc a i k (off+l) (m-l))
  |_=>none
 |_,_=>none
def Zyj(A:Ar)(ρ:Opd→AV)(x:AV)(lo hi:Option Opd):Out:=
 match x with
 | .str s=>match ZfP A ρ 0 lo,ZfP A ρ (A.lenS s) hi with
   |some (b1,l),some (b2,m)=>some (Zac (Zac b1 b2) (Zac (Nat.ble l m) (Nat.ble m (A.lenS s))), .str (A.subS s l (m-l)))
   |_,_=>none
 |_=>none
def Row.fits(A:Ar)(sz:Nat):Row→Bool
 | .gen xs=>xs.all fun x=>x.bx&&Nat.beq (Zad A x) sz
 | .ints _ _=>Nat.beq sz 1
 | .flts _ _=>Nat.beq sz 1
 | .big sh _=>Nat.beq sh.len sz
 | .refs _ _=>Nat.beq sz 1
def ZLj(A:Ar)(h:Zaa)(a:Nat)(e:TypeId)(sz:Nat)(x y:AV):Option (Bool×AV×Zaa):=
 match ZbA A h y with
 |none=>none
 |some (b,s)=>match x with
  | .nils=>match s with
    | .gen []=>some (Zac b (s.unit A sz), .nils,h)
    |s=>some (Zac (Zac b (s.unit A sz)) (Zac (Nat.ble (s.len A) 4294967296) (Nat.blt 0 (s.len A))), .row a (nxt h a),Zai h a (.row e sz s))
  | .row c i=>match Zos c,blk h c i with
    |false, .row e' sz' r=>some (Zac (Zac b (s.unit A sz)) (Zac (Nat.beq e' e) (Zac (Nat.beq sz' sz) (Nat.ble ((r.len A)+(s.len A)) 4294967296))), .row a (nxt (ZaE h c i .dead) a),Zai (ZaE h c i .dead) a (.row e sz (r.app A s)))
    |_,_=>none
  | .slc c i 0 n none=>match blk h c i with
    | .row e' sz' r=>some (Zac (Zac b (s.unit A sz)) (Zac (Nat.beq e' e) (Zac (Nat.beq sz' sz) (Zac (Nat.ble (n+(s.len A)) (r.len A)) (Nat.blt 0 (r.len A))))), .slc c i 0 (n+(s.len A)) none,ZaE h c i (.row e sz (r.blit A n s)))
    |_=>none
  |_=>none
def ZxL(A:Ar)(h:Zaa)(a:Nat)(e:TypeId)(sz:Nat)(z x:AV)(n:Int):Option (Bool×AV×Zaa):=
 match x with
 | .nils=>some (Zac (A.lt 0 n) (A.le n 4294967296), .row a (nxt h a),Zai h a (.row e sz (Zqz A (A.nat n) z)))
 | .row c i=>match Zos c,blk h c i with
   |false, .row e' sz' r=>some (Zac (A.le 0 n) (Zac (Nat.beq e' e) (Zac (Nat.beq sz' sz) (Nat.ble ((r.len A)+(A.nat n)) 4294967296))), .row a (nxt (ZaE h c i .dead) a),Zai (ZaE h c i .dead) a (.row e sz (r.app A (Zqz A (A.nat n) z))))
   |_,_=>none
 |_=>none
def Zzs(A:Ar)(h:Zaa)(sz:Nat)(x y:AV):Option (Bool×AV×Zaa):=
 match ZbA A h y with
 |none=>none
 |some (b,s)=>match x with
  | .row c i=>match blk h c i with
    | .row e sz' r=>some (Zac (Zac b (s.unit A sz)) (Nat.beq sz' sz), .int .i64 (A.int (min (s.len A) (r.len A))),ZaE h c i (.row e sz' (r.blit A 0 (s.sub A 0 (min (s.len A) (r.len A))))))
    |_=>none
  | .slc c i k n _=>match blk h c i with
    | .row e sz' r=>some (Zac (Zac b (s.unit A sz)) (Zac (Nat.beq sz' sz) (Nat.ble (k+n) (r.len A))), .int .i64 (A.int (min (s.len A) n)),ZaE h c i (.row e sz' (r.blit A k (s.sub A 0 (min (s.len A) n)))))
    |_=>none
  | .aslc c i k off n=>match blk h c i with
    | .row e sz' r=>match r.get A k with
      | .agg us=>some (Zac (Zac b (s.unit A sz)) (Zac (Nat.blt k (r.len A)) (Zac (Nat.beq sz 1) (Zac s.sing (Nat.ble (off+n) (us.len A))))), .int .i64 (A.int (min (s.len A) n)),ZaE h c i (.row e sz' (r.set A k (.agg (us.blit A off (s.sub A 0 (min (s.len A) n)))))))
      |_=>none
    |_=>none
  |_=>none
def ZC9:Sh→AV→AV
 | .ints k, .nils=>.list (.ints k [])
 | .big s, .nils=>.list (.big s [])
 |_,v=>v
def Zz4:List Sh→List AV→List AV
 |s::ss,x::xs=>ZC9 s x::Zz4 ss xs
 |_,xs=>xs
def zsh:Sh→AV→AV
 | .agg ss, .agg (.gen xs)=>.agg (.gen (Zz4 ss xs))
 | .agg _,v=>v
 |s,v=>ZC9 s v
def ZOj(A:Ar)(n:Nat)(z:AV):Row→Option Row
 | .big sh _=>(match ZEF sh (zsh sh z)with |true=>some (.big sh (A.repA n (zsh sh z))) |false=>none)
 |_=>some (Zqz A n z)
def ZLh(A:Ar)(h:Zaa)(sz:Nat)(z x:AV):Option (Bool×AV×Zaa):=
 match x with
 | .slc c i k n _=>match blk h c i with
   | .row e sz' r=>(match ZOj A n z r with
     |some s=>some (Zac (Nat.beq sz' sz) (Nat.ble (k+n) (r.len A)), .tup [],ZaE h c i (.row e sz' (r.blit A k s)))
     |none=>none)
   |_=>none
 |_=>none
def ZB1(A:Ar)(h:Zaa)(n:Nat):AV→Out
 | .list r=>some (Zac (Nat.ble n (r.len A)) r.sing, .eptr (.agg (Zul (r.part A 0 n))) 0)
 | .row a i=>match blk h a i with | .row _ sz r=>some (Zac (Nat.beq sz 1) (Nat.ble n (r.len A)), .ptr a i 0 0) |_=>none
 | .slc a i k m _=>match blk h a i with | .row _ sz _=>some (Zac (Nat.beq sz 1) (Nat.ble n m), .ptr a i k 0) |_=>none
 | .aslc a i k off m=>some (Nat.ble n m, .ptr a i k off)
 |_=>none
def ZJM(A:Ar)(h:Zaa):AV→Out
 | .row a i=>match blk h a i with | .row _ _ (.ints .u8 [n])=>some (true, .str [UInt8.ofNat (A.nat n)]) |_=>none
 |_=>none
def ZkA(A:Ar)(ρ:Opd→AV):Row→List (Nat×Nat×Opd)→Bool×Row
 |r,[]=>(true,r)
 |r,(o,n,x)::ps=>match ZkA A ρ (match ρ x with | .agg xs=>r.blit A o xs |v=>r.set A o v) ps with
  |(b,r')=>(Zac (Zac (ρ x).bx (Nat.beq (Zad A (ρ x)) n)) (Zac (Nat.ble (o+n) (r.len A)) (Zac (Nat.blt 0 n) b)),r')
def eqB(A:Ar)(ne a b:Bool):Bool:=match ne with |true=>A.not (a==b) |false=>a==b
def mmI(A:Ar)(mx:Bool)(a b:Int):Int:=match mx with |true=>A.max a b |false=>A.min a b
def mmF(A:Ar)(k:FloatKind)(a b:Nat):Nat:=match A.ford k a b with |some .lt=>b |some .gt=>a |_=>match A.fneg k a with |true=>b |false=>a
def Ze5(h:Zaa):Out→Option (Bool×AV×Zaa)
 |some (b,v)=>some (b,v,h)
 |none=>none
def ZJh:Lf→AV→Bool
 | .i, .int _ _=>true
 | .b, .bool _=>true
 | .s, .str _=>true
 |_,_=>false
def eqC(A:Ar):AV→AV→Option Bool
 | .int k a, .int k' b=>match decide (k=k')with |true=>some (A.eq a b) |false=>none
 | .bool a, .bool b=>some (a==b)
 | .str a, .str b=>some (A.eqS a b)
 |_,_=>none
def ZzY(A:Ar):List Lf→List AV→List AV→Option Bool
 |[],[],[]=>some true
 |l::ls,x::xs,y::ys=>match ZJh l x with
  |true=>(match eqC A x y,ls with
   |some a,[]=>(match xs,ys with |[],[]=>some a |_,_=>none)
   |some a,ls=>(match ZzY A ls xs ys with |some b=>some (Zac a b) |none=>none)
   |none,_=>none)
  |false=>none
 |_,_,_=>none
def Zj0(A:Ar)(n:Nat):Row→Bool×List AV
 | .gen xs=>(true,xs)
 |r=>(Nat.beq (r.len A) n,(List.range n).map fun j=>r.get A j)
def ZL3(A:Ar)(ne:Bool)(ls:List Lf):AV→AV→Out
 | .agg r, .agg s=>match ZzY A ls (Zj0 A ls.length r).2 (Zj0 A ls.length s).2 with
   |some b=>some (Zac (Zj0 A ls.length r).1 (Zj0 A ls.length s).1, .bool (match ne with |true=>A.not b |false=>b))
   |none=>none
 |_,_=>none
def ZtC:List AV→Option (List Value)
 |[]=>some []
 | .int k n::r=>match ZtC r with |some l=>some (.int k n::l) |none=>none
 |_::_=>none
def Zyd:AV→Option Value
 | .int k n=>some (.int k n)
 | .agg (.gen xs)=>match ZtC xs with |some l=>some (.agg ⟨l⟩) |none=>none
 | .agg (.ints k l)=>some (.agg ⟨l.map (Value.int k)⟩)
 |_=>none
def Ze2:List Value→Option (List AV)
 |[]=>some []
 | .int k n::r=>match Ze2 r with |some l=>some (.int k n::l) |none=>none
 |_::_=>none
def ZK6:Value→Option AV
 | .int k n=>some (.int k n)
 | .agg ⟨l⟩=>match Ze2 l with |some l=>some (.agg (.gen l)) |none=>none
 |_=>none
def ZB8(v:AV)(args:List AV):Option (FuncId×List AV):=match v with
 | .fn f caps=>some (f,args++caps)
 | .val (.func (.func f) ⟨[b]⟩ ⟨[]⟩)=>match ZK6 b with |some u=>some (f,u::args) |none=>none
 |_=>none
def ZDR(A:Ar)(sz:Nat)(x y:AV):Out:=match x,y with
 | .emp, .list s=>some (Zac (s.unit A sz) (Nat.ble (s.len A) 4294967296), .list s)
 | .emp, .nils=>some (true, .emp)
 | .emp, .val v=>(match v with | .slice _ n _=>(match n with |0=>some (true, .emp) |_+1=>none) |_=>none)
 |_,_=>none
def Znc(A:Ar)(h:Zaa)(x k:AV):Out:=match x,k with
 | .mp a i, .str s=>(match blk h a i with | .mp ks=>some (true, .bool (A.hasS ks s)) |_=>none)
 |_,_=>none
def Zl9(A:Ar)(h:Zaa)(ne:Bool):AV→Out
 | .nils=>some (true, .bool (!ne))
 | .list r=>some (Nat.blt 0 (r.len A), .bool ne)
 | .row a i=>(match blk h a i with | .row _ _ r=>some (Nat.blt 0 (r.len A), .bool ne) |_=>none)
 | .slc a i _ _ _=>(match blk h a i with | .row _ _ r=>some (Nat.blt 0 (r.len A), .bool ne) |_=>none)
 | .aslc .. =>some (true, .bool ne)
 | .val v=>(match v with | .slice ad _ _=>(match ad with |some _=>some (true, .bool ne) |none=>some (true, .bool (!ne))) |_=>none)
 |_=>none
def Zal(A:Ar)(ρ:Opd→AV)(h:Zaa):OpK→Option (Bool×AV×Zaa)
 | .mov x=>some (true,ρ x,h)
 | .pick c x y=>match ρ c with | .bool b=>(match b with |true=>some (true,ρ x,h) |false=>some (true,ρ y,h)) |_=>none
 | .bin op x y=>Ze5 h (ZNO A op (ρ x) (ρ y))
 | .binw op x y=>Ze5 h (ZDt A op (ρ x) (ρ y))
 | .beq ne x y=>match ρ x,ρ y with | .bool a, .bool b=>some (true, .bool (eqB A ne a b),h) |_,_=>none
 | .isnil ne x=>Ze5 h (Zl9 A h ne (ρ x))
 | .aeq ne ls x y=>Ze5 h (ZL3 A ne ls (ρ x) (ρ y))
 | .idxa ln sz x i=>match isS i with
   |true=>Ze5 h (ZIE A ln sz (ρ x) (ρ i))
   |false=>match ρ x,ρ i with | .agg r, .int _ n=>some (Zac (Zac (A.le 0 n) (A.lt n (A.int ln))) (Nat.ble ((ZfR A sz n)+sz) (r.len A)), .agg (r.toInts.sub A (ZfR A sz n) sz),h) |_,_=>none
 | .mkmth f x=>match Zyd (ρ x)with |some v=>some (true, .val (.func (.func f) ⟨[v]⟩ ⟨[]⟩),h) |none=>some (true, .mth f (ρ x),h)
 | .capl x=>match ρ x with | .nils=>some (true, .int .i64 0,h) |_=>none
 | .not x=>match ρ x with | .bool b=>some (true, .bool (A.not b),h) |_=>none
 | .neg x=>match ρ x with | .int k n=>some (A.inR k (A.neg n), .int k (A.neg n),h) |_=>none
 | .conv k x=>match ρ x with | .int _ n=>some (A.inR k n, .int k n,h) |_=>none
 | .i2f k x=>match ρ x with | .int _ n=>some (true, .flt k (A.i2f k n),h) |_=>none
 | .f2i k x=>match ρ x with | .flt q b=>some (Zac (A.f2i q b).isSome (A.inR k ((A.f2i q b).getD 0)), .int k ((A.f2i q b).getD 0),h) |_=>none
 | .len x=>match ZbA A h (ρ x)with |some (b,r)=>some (b, .int .i64 (A.int (r.len A)),h) |none=>none
 | .slen x=>match ρ x with | .str l=>some (true, .int .i64 (A.int (A.lenS l)),h) |_=>none
 | .mm mx x y=>match ρ x,ρ y with
   | .int k a, .int k' b=>match decide (k=k')with |true=>some (true, .int k (mmI A mx a b),h) |false=>none
   | .flt k a, .flt k' b=>match decide (k=k'),mx with
     |true,true=>some ((A.ford k a b).isSome, .flt k (mmF A k a b),h)
     |_,_=>none
   |_,_=>none
 | .box a e x=>some (Zac (ρ x).bx (Nat.blt 0 (Zad A (ρ x))), .ptr a (nxt h a) 0 0,Zai h a (.row e (Zad A (ρ x)) (.gen [ρ x])))
 | .alloc a e z=>some (Zac z.bx (Nat.blt 0 (Zad A z)), .ptr a (nxt h a) 0 0,Zai h a (.row e (Zad std z) (.gen [z])))
 | .load ag n p=>Ze5 h (Zk7 A h ag n (ρ p))
 | .store n p x=>ZdD A h n (ρ p) (ρ x)
 | .stores n p x=>ZrQ A h n (ρ p) (ρ x)
 | .faddr off p=>Ze5 h (Zxt A off (ρ p))
 | .iaddr sz x i=>match isS i with
   |true=>Ze5 h (Zd6 A h sz (ρ x) (ρ i))
   |false=>Ze5 h (Zby A h sz (ρ x) (ρ i))
 | .aaddr ln sz p i=>Ze5 h (Zvd A ρ ln sz p i)
 | .idx ln x i=>match isS i with
   |true=>Ze5 h (ZPj A ln (ρ x) (ρ i))
   |false=>match ρ x,ρ i with | .agg r, .int _ n=>some (Zac (Zac (A.le 0 n) (A.lt n (A.int ln))) (Nat.blt (A.nat n) (r.len A)),r.get A (A.nat n),h) |_,_=>none
 | .sidx x i=>match ρ x,ρ i with | .str l, .int _ n=>some (Zac (A.le 0 n) (Nat.blt (A.nat n) (A.lenS l)), .int .u8 (A.nthS l (A.nat n)),h) |_,_=>none
 | .fld ag off n x=>match ρ x with | .agg r=>Ze5 h (ZDw A ag n off (.agg r)) |_=>none
 | .build z parts=>match ZkA A ρ z parts with |(b,r)=>some (b, .agg r,h)
 | .bslice a e sz parts=>some (Row.fits A sz (.gen (parts.map ρ)), .row a (nxt h a),Zai h a (.row e sz (Zro (parts.map ρ))))
 | .mkslice a e sz z ln=>match ρ ln with
   | .int _ n=>some (Zac (A.le 0 n) (A.le n 4294967296), .row a (nxt h a),Zai h a (.row e sz (Zqz A (A.nat n) z)))
   |_=>none
 | .mklst a _ _ z ln=>match ρ ln with
   | .int _ n=>match(Zqz A (A.nat n) z).pure with
     |true=>some (Zac (A.le 0 n) (A.le n 4294967296), .list (Zqz A (A.nat n) z),Zai h a .dead)
     |false=>none
   |_=>none
 | .slc sz x lo hi mx=>Ze5 h (ZBj A ρ h sz (ρ x) lo hi mx)
 | .asl ln p lo hi=>Ze5 h (ZEC A ρ ln (ρ p) lo hi)
 | .sslc x lo hi=>Ze5 h (Zyj A ρ (ρ x) lo hi)
 | .append a e sz x y=>ZLj A h a e sz (ρ x) (ρ y)
 | .appz a e sz z x ln=>match ρ ln with
   | .int _ n=>ZxL A h a e sz z (ρ x) n
   |_=>none
 | .copy sz x y=>Zzs A h sz (ρ x) (ρ y)
 | .clr _ sz z x=>ZLh A h sz z (ρ x)
 | .s2a n x=>Ze5 h (ZB1 A h n (ρ x))
 | .s2b x=>match ρ x with | .str s=>some (Nat.ble (A.lenS s) 4294967296, .list (.ints .u8 (A.byt s)),h) |_=>none
 | .b2s x=>Ze5 h (ZJM A h (ρ x))
 | .emptyl=>some (true, .emp,h)
 | .inil ne x=>match ρ x with
   | .err b=>some (true, .bool (cond ne b (!b)),h)
   |_=>none
 | .fnil ne x=>match ρ x with
   | .fn _ _=>some (true, .bool ne,h)
   | .val v=>(match v with | .nilFunc=>some (true, .bool (!ne),h) |_=>none)
   |_=>none
 | .pnil ne x=>match ρ x with
   | .val v=>(match v with | .pointer ad=>(match ad with |none=>some (true, .bool (!ne),h) |some _=>some (true, .bool ne,h)) |_=>none)
   | .ptr .. =>some (true, .bool ne,h)
   | .eptr .. =>some (true, .bool ne,h)
   |_=>none
 | .app0 sz x y=>Ze5 h (ZDR A sz (ρ x) (ρ y))
 | .mkmap a=>some (true, .mp a (nxt h a),Zai h a (.mp []))
 | .mkrefs b e sz a s ln=>match ρ ln,ZrK (fam h a),ZEE s,Nat.beq a b with
   | .int _ n,true,some (ie,isz,r),false=>some (Zac (A.le 0 n) (Zac (A.le n 4294967296) (Nat.blt 0 isz)), .row b (nxt h b),Zai (Zai (Zgs h a s) a (.row ie isz r)) b (.row e sz (.refs a (A.repF (A.nat n) 0))))
   |_,_,_,_=>none
 | .mlook x k=>Ze5 h (Znc A h (ρ x) (ρ k))
 | .mupd x k=>match ρ x,ρ k with
   | .mp a i, .str s=>(match blk h a i with | .mp ks=>some (A.not (A.hasS ks s), .tup [],ZaE h a i (.mp (A.appA ks [.str s]))) |_=>none)
   |_,_=>none
 | .nilck x=>match ρ x with | .ptr a i k o=>some (true, .ptr a i k o,h) | .eptr u o=>some (true, .eptr u o,h) |_=>none
 | .ext i x=>match ρ x with | .tup xs=>(match xs[i]? with |some v=>some (true,v,h) |none=>none) |_=>none
 | .mkfn f caps=>some (true, .fn f (caps.map ρ),h)
 | .ncall .. =>none
 | .ncallv .. =>none
 | .icall .. =>none
 | .icallv .. =>none
def Zbf(env:Nat→Option AV):Opd→AV
 | .t n=>(env n).getD .top
 | .s n=>(env n).getD .top
 | .c av=>av
theorem ZrA{A:Ar}{ρ ρ':Opd→AV}{h:Zaa}{k:OpK}(hl:∀x∈k.looks,ρ x=ρ' x):Zal A ρ h k=Zal A ρ' h k:=by
 have hn:∀(o:Option Opd) (d:Nat),(∀x∈ZsI o,ρ x=ρ' x)→ZfP A ρ d o=ZfP A ρ' d o:=fun o d ho=>by
  cases o with
  |none=>rfl
  |some x=>simp only[ZfP];rw[ho x (by simp[ZsI])]
 have hs:∀(ps:List (Nat×Nat×Opd)) (r:Row),(∀x∈ps.map (·.2.2),ρ x=ρ' x)→ZkA A ρ r ps=ZkA A ρ' r ps:=fun ps=>by
  induction ps with
  |nil=>intro r _;rfl
  |cons p ps ih=>
   intro r hp
   obtain⟨o,n,x⟩:=p
   have hx:ρ x=ρ' x:=hp x (by simp)
   simp only[ZkA,hx]
   rw[ih _ (fun y hy=>hp y (by simp at hy ⊢;exact .inr hy))]
 have hm:∀xs:List Opd,(∀x∈xs,ρ x=ρ' x)→xs.map ρ=xs.map ρ':=fun xs hx=>List.map_congr_left hx
 cases k with
 |build z ps=>simp only[Zal];rw[hs ps z hl]
 |bslice a e sz ps=>simp only[Zal];rw[hm ps hl]
 |mkfn f caps=>simp only[Zal];rw[hm caps hl]
 |slc sz x lo hi mx=>
  have hx:ρ x=ρ' x:=hl x (by simp[OpK.looks])
  have h1:∀y∈ZsI lo,ρ y=ρ' y:=fun y hy=>hl y (by simp[OpK.looks,hy])
  have h2:∀y∈ZsI hi,ρ y=ρ' y:=fun y hy=>hl y (by simp[OpK.looks,hy])
  have h3:∀y,mx=some y→ρ y=ρ' y:=fun y hy=>hl y (by simp[OpK.looks,ZsI,hy])
  simp only[Zal,hx]
  congr 1
  unfold ZBj
  rw[hn lo 0 h1]
  have hg:∀b1 l n f,goR A ρ hi b1 l n f=goR A ρ' hi b1 l n f:=fun b1 l n f=>by unfold goR goX;rw[hn hi n h2]
  have hgx:∀b1 l n p f,goX A ρ hi b1 l n p f=goX A ρ' hi b1 l n p f:=fun b1 l n p f=>by unfold goX;rw[hn hi n h2]
  have hc:∀l n m c,ZxE A ρ mx l n m c=ZxE A ρ' mx l n m c:=fun l n m c=>by
   unfold ZxE
   cases mx with
   |none=>rfl
   |some y=>simp only[h3 y rfl]
  have hk:∀b1 l x,Zx5 A ρ h sz lo hi mx b1 l x=Zx5 A ρ' h sz lo hi mx b1 l x:=fun b1 l x=>by cases x<;>simp only[Zx5,hg,hgx,hc]
  simp only[hk]
 |asl ln x lo hi=>
  have hx:ρ x=ρ' x:=hl x (by simp[OpK.looks])
  have h1:∀y∈ZsI lo,ρ y=ρ' y:=fun y hy=>hl y (by simp[OpK.looks,hy])
  have h2:∀y∈ZsI hi,ρ y=ρ' y:=fun y hy=>hl y (by simp[OpK.looks,hy])
  simp only[Zal,hx,ZEC,hn lo 0 h1,hn hi ln h2]
 |sslc x lo hi=>
  have hx:ρ x=ρ' x:=hl x (by simp[OpK.looks])
  have h1:∀y∈ZsI lo,ρ y=ρ' y:=fun y hy=>hl y (by simp[OpK.looks,hy])
  have h2:∀y∈ZsI hi,ρ y=ρ' y:=fun y hy=>hl y (by simp[OpK.looks,hy])
  simp only[Zal,hx,Zyj,hn lo 0 h1,fun n=>hn hi n h2]
 |aaddr ln sz x y=>
  have hx:ρ x=ρ' x:=hl x (by simp[OpK.looks])
  have hy:ρ y=ρ' y:=hl y (by simp[OpK.looks])
  simp only[Zal,Zvd,hx,hy]
 |ncall |ncallv |icall |icallv=>rfl
 |alloc a e z=>rfl
 |_=>simp only[OpK.looks,List.mem_cons,List.not_mem_nil,or_false,forall_eq_or_imp,forall_eq]at hl;simp only[Zal,hl]
theorem Zoh{A:Ar}{ρ:Opd→AV}{h h':Zaa}{k:OpK}{b:Bool}{v:AV}(hn:k.neutral=true)(hr:Zal A ρ h k=some (b,v,h')):h'=h:=by
 have hlift:∀ {o:Out},Ze5 h o=some (b,v,h')→h'=h:=fun {o} e=>by
  cases o with
  |none=>cases e
  |some p=>obtain⟨b',v'⟩:=p;simp only[Ze5,Option.some.injEq,Prod.mk.injEq]at e;exact e.2.2.symm
 cases k<;>first
  |(simp [OpK.neutral]at hn;done)
  |(simp only[Zal]at hr;exact hlift hr)
  |(simp only[Zal]at hr;(repeat' split at hr)<;>first |cases hr;done |exact hlift hr |(simp only[Option.some.injEq,Prod.mk.injEq]at hr;exact hr.2.2.symm))
  |(simp [Zal]at hr;done)
def ZaW:AV→List (Nat×Nat)
 | .row a i=>[(a,i)]
 | .ptr a i _ _=>[(a,i)]
 | .slc a i _ _ _=>[(a,i)]
 | .aslc a i _ _ _=>[(a,i)]
 | .yld a i=>[(a,i)]
 | .mp a i=>[(a,i)]
 |_=>[]
def Zcr:AV→List (Nat×Nat)
 | .agg r=>match r with | .gen xs=>xs.flatMap ZaW |_=>[]
 |v=>ZaW v
def refs:AV→List (Nat×Nat)
 | .fn _ xs=>xs.flatMap Zcr
 | .mth _ x=>Zcr x
 |v=>Zcr v
section
variable {A:Ar}{ρ:Opd→AV}{h h2:Zaa}
def Zb2(h h2:Zaa)(l:List (Nat×Nat)):Prop:=∀p∈l,blk h2 p.1 p.2=blk h p.1 p.2
theorem Zdh{x:AV}(ha:Zb2 h h2 (refs x)):ZbA A h2 x=ZbA A h x:=by
 cases x with
 |row a i=>simp only[ZbA,ha (a,i) (by simp[refs,Zcr,ZaW])]
 |slc a i k n c=>simp only[ZbA,ha (a,i) (by simp[refs,Zcr,ZaW])]
 |aslc a i k o n=>simp only[ZbA,ha (a,i) (by simp[refs,Zcr,ZaW])]
 |_=>rfl
theorem ZqJ{x:AV}{ag:Bool}{n:Nat}(ha:Zb2 h h2 (refs x)):Zk7 A h2 ag n x=Zk7 A h ag n x:=by
 cases x with
 |ptr a i k o=>simp only[Zk7,ha (a,i) (by simp[refs,Zcr,ZaW])]
 |_=>rfl
theorem Zbv{x i:AV}{sz:Nat}(ha:Zb2 h h2 (refs x)):Zby A h2 sz x i=Zby A h sz x i:=by
 cases i with
 |int k n=>
  cases x with
  |row a i=>simp only[Zby,ha (a,i) (by simp[refs,Zcr,ZaW])]
  |slc a i k n c=>simp only[Zby,ha (a,i) (by simp[refs,Zcr,ZaW])]
  |aslc a i k o n=>simp only[Zby,ha (a,i) (by simp[refs,Zcr,ZaW])]
  |_=>rfl
 |_=>rfl
theorem Zpa{x i:AV}{sz:Nat}(ha:Zb2 h h2 (refs x)):Zd6 A h2 sz x i=Zd6 A h sz x i:=by
 cases x with
 |row a j=>
  cases i with
  |int k n=>
   cases n with
   |ofNat m=>simp only[Zd6,ha (a,j) (by simp[refs,Zcr,ZaW])]
   |negSucc m=>simp only[Zd6];exact Zbv ha
  |_=>simp only[Zd6];exact Zbv ha
 |list r=>
  cases i with
  |int k n=>
   cases n with
   |ofNat m=>rfl
   |negSucc m=>simp only[Zd6];exact Zbv ha
  |_=>simp only[Zd6];exact Zbv ha
 |_=>simp only[Zd6];exact Zbv ha
theorem Zun{x:AV}{sz:Nat}{lo hi mx:Option Opd}(ha:Zb2 h h2 (refs x)):ZBj A ρ h2 sz x lo hi mx=ZBj A ρ h sz x lo hi mx:=by
 unfold ZBj
 have:∀b l,Zx5 A ρ h2 sz lo hi mx b l x=Zx5 A ρ h sz lo hi mx b l x:=fun b l=>by
  cases x with
  |row a i=>simp only[Zx5,ha (a,i) (by simp[refs,Zcr,ZaW])]
  |slc a i k n c=>simp only[Zx5,ha (a,i) (by simp[refs,Zcr,ZaW])]
  |_=>rfl
 split<;>simp only[this]
theorem Zt1{x:AV}{n:Nat}(ha:Zb2 h h2 (refs x)):ZB1 A h2 n x=ZB1 A h n x:=by
 cases x with
 |row a i=>simp only[ZB1,ha (a,i) (by simp[refs,Zcr,ZaW])]
 |slc a i k n c=>simp only[ZB1,ha (a,i) (by simp[refs,Zcr,ZaW])]
 |_=>rfl
theorem Ztt{x:AV}(ha:Zb2 h h2 (refs x)):ZJM A h2 x=ZJM A h x:=by
 cases x with
 |row a i=>simp only[ZJM,ha (a,i) (by simp[refs,Zcr,ZaW])]
 |_=>rfl
theorem Zo4{x:AV}{ne:Bool}(ha:Zb2 h h2 (refs x)):Zl9 A h2 ne x=Zl9 A h ne x:=by
 cases x with
 |row a i=>simp only[Zl9,ha (a,i) (by simp[refs,Zcr,ZaW])]
 |slc a i k n c=>simp only[Zl9,ha (a,i) (by simp[refs,Zcr,ZaW])]
 |_=>rfl
theorem Zp1{x y:AV}(ha:Zb2 h h2 (refs x)):Znc A h2 x y=Znc A h x y:=by
 cases x with
 |mp a i=>cases y<;>first |rfl |simp only[Znc,ha (a,i) (by simp[refs,Zcr,ZaW])]
 |_=>rfl
theorem Zbi{o:Out}{b:Bool}{v:AV}(e:Ze5 h o=some (b,v,h)):Ze5 h2 o=some (b,v,h2):=by
 cases o with
 |none=>cases e
 |some p=>obtain⟨b',v'⟩:=p;simp only[Ze5,Option.some.injEq,Prod.mk.injEq]at e ⊢;exact⟨e.1,e.2.1,trivial⟩
def OpK.reads:OpK→Bool
 | .load .. =>true
 | .iaddr .. =>true
 | .slc .. =>true
 | .s2a .. =>true
 | .b2s .. =>true
 | .len .. =>true
 | .mlook .. =>true
 | .isnil .. =>true
 |_=>false
theorem ZrI{k:OpK}{b:Bool}{v:AV}(hn:k.neutral=true)(ha:k.reads=true→∀x∈k.looks,Zb2 h h2 (refs (ρ x)))(hr:Zal A ρ h k=some (b,v,h)):Zal A ρ h2 k=some (b,v,h2):=by
 cases k with
 |load ag n p=>simp only[Zal]at hr ⊢;rw[ZqJ (ha rfl p (by simp[OpK.looks]))];exact Zbi hr
 |iaddr sz x i=>
  simp only[Zal]at hr⊢
  rw[Zbv (ha rfl x (by simp[OpK.looks])),Zpa (ha rfl x (by simp[OpK.looks]))]
  cases hs:isS i<;>rw[hs]at hr<;>exact Zbi hr
 |slc sz x lo hi mx=>simp only[Zal]at hr ⊢;rw[Zun (ha rfl x (by simp[OpK.looks]))];exact Zbi hr
 |s2a n x=>simp only[Zal]at hr ⊢;rw[Zt1 (ha rfl x (by simp[OpK.looks]))];exact Zbi hr
 |b2s x=>simp only[Zal]at hr ⊢;rw[Ztt (ha rfl x (by simp[OpK.looks]))];exact Zbi hr
 |isnil ne x=>simp only[Zal]at hr ⊢;rw[Zo4 (ha rfl x (by simp[OpK.looks]))];exact Zbi hr
 |mlook x y=>simp only[Zal]at hr ⊢;rw[Zp1 (ha rfl x (by simp[OpK.looks]))];exact Zbi hr
 |len x=>
  simp only[Zal]at hr⊢
  rw[Zdh (ha rfl x (by simp[OpK.looks]))]
  split at hr
  ·simp only[Option.some.injEq,Prod.mk.injEq]at hr ⊢;exact⟨hr.1,hr.2.1,trivial⟩
  ·cases hr
 |_=>first
  |(simp [OpK.neutral]at hn;done)
  |(simp only[Zal]at hr ⊢;exact Zbi hr)
  |(simp only[Zal]at hr ⊢;(repeat' split at hr)<;>first |cases hr;done |exact Zbi hr |(simp only[Option.some.injEq,Prod.mk.injEq]at hr ⊢;exact⟨hr.1,hr.2.1,trivial⟩))
  |(simp [Zal]at hr;done)
end
end Go.Proofs.YtjhldefnjghcdaaGreat
