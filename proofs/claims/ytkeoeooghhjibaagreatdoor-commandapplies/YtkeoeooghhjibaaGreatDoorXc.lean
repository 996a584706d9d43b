/- Which code and memory of the machine stand for the model's; how memory's standing is kept. No condition. -/
import Derived.Test.YtkeoeooghhjibaaGreatDoorXa
import Derived.Maps.AppendAt
import Derived.Laws.Pointers
import Derived.WalkSpells
namespace Go.Proofs.YtkeoeooghhjibaaGreatDoor
open Go.RowKit (Below)
def ZfE:AV→Value→Bool
 | .int k n, .int k' n'=>decide (k=k')&&decide (n=n')
 | .bool b, .bool b'=>b==b'
 | .str s, .string bs=>decide (bs.data.toList=s)
 | .flt k b, .float k' b'=>decide (k=k')&&decide (b=b')
 | .nils, .slice none 0 0=>true
 | .val .nilFunc, .nilFunc=>true
 | .val .nilIface, .nilIface=>true
 | .val (.pointer none), .pointer none=>true
 | .val (.map none), .map none=>true
 |_,_=>false
theorem Zex{w:World}{ok:Nat→Prop}{h:Zad}{L:Lay}{av:AV}{v:Value}(hm:ZfE av v=true):Rel w ok h L av v:=by
 unfold ZfE at hm
 split at hm
 ·simp at hm;obtain⟨rfl,rfl⟩:=hm;exact .int _ _
 ·simp at hm;subst hm;exact .bool _
 ·rename_i s bs
  have hm:=of_decide_eq_true hm
  subst hm
  exact .str _
 ·simp at hm;obtain⟨rfl,rfl⟩:=hm;exact .flt _ _
 ·exact .nils
 ·exact .val _
 ·exact .val _
 ·exact .val _
 ·exact .val _
 ·cases hm
def ZdG:AV→Value→Bool
 | .agg r, .agg vs=>r.elems.length==vs.size&&(List.range r.elems.length).all fun j=>match r.elems[j]?,vs[j]? with |some u,some v=>ZfE u v&&v.oneCell' |_,_=>false
 |x,v=>ZfE x v
theorem Zcv{w:World}{ok:Nat→Prop}{h:Zad}{L:Lay}{z:AV}{v:Value}(hm:ZdG z v=true):Rel w ok h L z v:=by
 unfold ZdG at hm
 split at hm
 ·rename_i r vs
  generalize hx:r.elems=xs at hm
  simp only[Bool.and_eq_true,beq_iff_eq,List.all_eq_true,List.mem_range]at hm
  obtain⟨h1,h2⟩:=hm
  have key:∀j u v,xs[j]? =some u→vs[j]? =some v→ZfE u v=true∧v.oneCell'=true:=fun j u v hu hv=>by
   have:=h2 j (List.getElem?_eq_some_iff.1 hu).1
   rw[hu,hv]at this
   simpa using this
  refine .agg r xs hx.symm vs h1 (fun v hv=>?_) (fun j u v hu hv=>Zex (key j u v hu hv).1)
  obtain⟨j,hj⟩:=Array.mem_iff_getElem?.1 hv
  have hlt:j<xs.length:=by rw[h1];exact(Array.getElem?_eq_some_iff.1 hj).1
  exact(key j _ v (List.getElem?_eq_getElem hlt) hj).2
 ·exact Zex hm
def Za6:Opd→Operand→Bool
 | .t n, .tmp m=>n==m
 | .s n, .tmp m=>n==m
 | .c av, .const v=>ZfE av v
 | .c (.fn f []), .func g=>f==g
 |_,_=>false
def ZhE:List Opd→List Operand→Bool
 |[],[]=>true
 |x::xs,y::ys=>Za6 x y&&ZhE xs ys
 |_,_=>false
def ZiE:Option Opd→Option Operand→Bool
 |none,none=>true
 |some x,some y=>Za6 x y
 |_,_=>false
def Zba:TypeDesc→Bool
 | .struct _=>true
 | .array _ _=>true
 |_=>false
def Zia(P:Program)(t:TypeId)(ag:Bool)(n:Nat):Bool:=
 match P.underlying t,P.info? t with
 |some d,some i=>Zba d==ag&&i.size==n&&(ag||n==1)
 |_,_=>false
def Zf0(P:Program)(t:TypeId)(n:Nat):Bool:=match P.info? t with |some i=>i.size==n |none=>false
def Zcc(P:Program)(t e:TypeId):Bool:=match P.underlying t with |some (.slice e')=>e'==e |_=>false
def ZmA(P:Program)(t:TypeId)(ln:Nat)(e:TypeId):Bool:=match P.underlying t with |some (.array n e')=>n==ln&&e'==e |_=>false
def ZdA(P:Program)(t:TypeId):Bool:=match P.underlying t with |some .string=>true |_=>false
def Ztz(P:Program)(t:TypeId):Bool:=match P.underlying t with |some .bool=>true |_=>false
def ZBH(P:Program)(t:TypeId)(k:IntKind):Bool:=match P.underlying t with |some (.int k')=>k'==k |_=>false
def ZH3(P:Program)(t:TypeId)(k:FloatKind):Bool:=match P.underlying t with |some (.float k')=>k'==k |_=>false
def Zol(P:Program)(t:TypeId):Bool:=(P.underlying t).isSome
def Zo9(P:Program)(t:TypeId)(f:Nat)(off:Nat):Option TypeId:=
 match P.underlying t with
 |some (.struct fs)=>match fs[f]? with |some fd=>if fd.offset==off then some fd.type else none |none=>none
 |_=>none
def ZiN(P:Program)(e:TypeId)(sz:Nat)(z:Option AV):Bool:=
 match P.info? e with
 |some i=>i.size==sz&&i.bytes≤32768&&(match i.zero with |some v=>v.cells.size==sz&&(match z with |some z=>ZdG z v&&z.flat.length==sz |none=>true) |none=>false)
 |none=>false
def ZaO(P:Program)(t:TypeId):TypeId:=match P.underlying t with |some (.slice e)=>e |some (.array _ e)=>e |_=>0
def ZhN(P:Program)(t:TypeId):Option (Value×(Nat→Option (Nat×Nat))):=
 match P.info? t,P.underlying t with
 |some it,some (.array _ e)=>
  match it.zero,P.info? e with
  |some z,some ie=>some (z,fun i=>some (i*ie.size,ie.size))
  |_,_=>none
 |some it,some (.struct fields)=>
  match it.zero,fields.toList.mapM (fun f=>(P.info? f.type).map fun i=>(f.offset,i.size))with
  |some z,some places=>some (z,(places.toArray[·]?))
  |_,_=>none
 |_,_=>none
def Zh1(place:Nat→Option (Nat×Nat)):List (Nat×Nat×Opd)→List (Nat×Operand)→Bool
 |[],[]=>true
 |(o,n,x)::ps,(i,y)::qs=>place i==some (o,n)&&Za6 x y&&Zh1 place ps qs
 |_,_=>false
def ZnO:Nat→List Opd→List (Nat×Operand)→Bool
 |_,[],[]=>true
 |k,x::xs,(i,y)::ys=>i==k&&Za6 x y&&ZnO (k+1) xs ys
 |_,_,_=>false
def ZbF(P:Program)(f:FuncId):Bool:=
 match P.funcs[f]? with
 | some fn => fn.name != "runtime.NumGoroutine" && fn.body.isSome
 |none=>false
def Zm3(P:Program)(t:TypeId)(ln:Nat):Bool:=
 match P.underlying t with
 |some (.pointer arr)=>(match P.underlying arr with |some (.array n e)=>n==ln&&Zf0 P e 1&&0<ln |_=>false)
 |_=>false
def ZnE(P:Program)(t:TypeId)(ln:Nat):Bool:=
 match P.underlying t with
 |some (.array n e)=>n==ln&&Zf0 P e 1&&0<ln
 |_=>false
def ZfJ(f:TypeId→Option (List Lf)):Nat→List Field→Option (List Lf)
 |_,[]=>some []
 | off, fd :: fds => match fd.name == "_", fd.offset == off with
   |false,true=>(match f fd.type with
    |some l=>(match ZfJ f (off+l.length) fds with |some r=>some (l++r) |none=>none)
    |none=>none)
   |_,_=>none
def ZsS(P:Program)(f:TypeId→Option (List Lf))(t:TypeId):TypeDesc→Option (List Lf)
 | .int _=>some [.i]
 | .bool=>some [.b]
 | .string=>some [.s]
 | .struct fs=>match P.stoodInHeld t with |true=>none |false=>ZfJ f 0 fs.toList
 | .array n e=>match f e with |some l=>some (List.replicate n l).flatten |none=>none
 |_=>none
def Zfb(P:Program):Nat→TypeId→Option (List Lf)
 |0,_=>none
 |d+1,t=>match P.underlying t,P.info? t with
  |some td,some i=>(match ZsS P (Zfb P d) t td with
   |some ls=>(match i.size==ls.length with |true=>some ls |false=>none)
   |none=>none)
  |_,_=>none
def ZCu:List Lf→List Lf→Bool
 |[],[]=>true
 | .i::l, .i::m=>ZCu l m
 | .b::l, .b::m=>ZCu l m
 | .s::l, .s::m=>ZCu l m
 |_,_=>false
def ZJC(P:Program)(t:TypeId)(ls:List Lf):Bool:=!(P.eqGuardType P.depth t)&&(match P.underlying t with |some td=>Zba td |none=>false)&&(match Zfb P 8 t with |some l=>ZCu l ls |none=>false)
def Zgp(P:Program)(t:TypeId):Bool:=match P.underlying t with
 |some (.map k e)=>ZdA P k&&Ztz P e&&(match P.info? e with |some i=>(match i.zero with |some (.bool false)=>true |_=>false) |none=>false)
 |_=>false
def mop(P:Program)(o:Oper):OpK→Bool
 | .mov x=>match o.op with | .move y=>Za6 x y | .assign y=>Za6 x y |_=>false
 | .pick c x y=>match o.op with | .pick c' x' y'=>Za6 c c'&&Za6 x x'&&Za6 y y' |_=>false
 | .bin op x y=>match o.op with | .binOp op' _ x' y' _=>op==op'&&Za6 x x'&&Za6 y y' |_=>false
 | .binw op x y=>match o.op with | .binOp op' _ x' y' _=>op==op'&&Za6 x x'&&Za6 y y' |_=>false
 | .beq ne x y=>match o.op with | .binOp op' t x' y' _=>op'==(if ne then .neq else .eql)&&Ztz P t&&Za6 x x'&&Za6 y y' |_=>false
 | .isnil ne x=>match o.op with | .binOp op' t x' (.const (.slice none 0 0)) _=>op'==(if ne then .neq else .eql)&&Zcc P t (ZaO P t)&&Za6 x x' |_=>false
 | .aeq ne ls x y=>match o.op with | .binOp op' t x' y' _=>op'==(if ne then .neq else .eql)&&ZJC P t ls&&Za6 x x'&&Za6 y y' |_=>false
 | .idxa ln sz x i=>match o.op with | .index t x' i'=>ZmA P t ln (ZaO P t)&&Zia P (ZaO P t) true sz&&Za6 x x'&&Za6 i i' |_=>false
 | .mkmth f x=>match o.op with | .makeFunc (.func f') ⟨[x']⟩ ⟨[]⟩=>f==f'&&Za6 x x' |_=>false
 | .capl x=>match o.op with | .call { callee:=.builtin .cap,args:=⟨[x']⟩,argTypes:=⟨[t]⟩ } =>Zcc P t (ZaO P t)&&Za6 x x' |_=>false
 | .not x=>match o.op with | .unOp .not _ x'=>Za6 x x' |_=>false
 | .neg x=>match o.op with | .unOp .neg _ x'=>Za6 x x' |_=>false
 | .conv k x=>match o.op with | .convert src dst x'=>Zol P src&&ZBH P dst k&&Za6 x x' |_=>false
 | .i2f k x=>match o.op with | .convert src dst x'=>Zol P src&&ZH3 P dst k&&Za6 x x' |_=>false
 | .f2i k x=>match o.op with | .convert src dst x'=>Zol P src&&ZBH P dst k&&Za6 x x' |_=>false
 | .len x=>match o.op with | .call { callee:=.builtin .len,args:=⟨[x']⟩,argTypes:=⟨[t]⟩ } =>Zcc P t (ZaO P t)&&Za6 x x' |_=>false
 | .slen x=>match o.op with | .call { callee:=.builtin .len,args:=⟨[x']⟩,argTypes:=⟨[t]⟩ } =>ZdA P t&&Za6 x x' |_=>false
 | .mm mx x y=>match o.op with | .call { callee:=.builtin b,args:=⟨[x',y']⟩, .. } =>b==(if mx then .max else .min)&&Za6 x x'&&Za6 y y' |_=>false
 | .box _ e x=>match o.op with | .box e' x'=>e==e'&&Za6 x x' |_=>false
 | .alloc _ e z=>match o.op with | .alloc e'=>e==e'&&(match P.info? e with |some i=>(match i.zero with |some v=>ZdG z v |none=>false) |none=>false) |_=>false
 | .load ag n p=>match o.op with | .load t p'=>Zia P t ag n&&Za6 p p' |_=>false
 | .store n p x=>match o.op with | .store t p' x'=>o.dst.isNone&&Zf0 P t n&&Za6 p p'&&Za6 x x' |_=>false
 | .stores n p x=>match o.op with | .store t p' x'=>o.dst.isNone&&Zf0 P t n&&Za6 p p'&&Za6 x x' |_=>false
 | .faddr off p=>match o.op with | .fieldAddr t p' f=>(match Zo9 P t f off with |some ft=>!Zf0 P ft 0&&(P.info? ft).isSome |none=>false)&&Za6 p p' |_=>false
 | .iaddr sz x i=>match o.op with | .indexAddr t x' i'=>Zcc P t (ZaO P t)&&Zf0 P (ZaO P t) sz&&0<sz&&Za6 x x'&&Za6 i i' |_=>false
 | .aaddr ln sz p i=>match o.op with | .indexAddr t p' i'=>ZmA P t ln (ZaO P t)&&Zf0 P (ZaO P t) sz&&Za6 p p'&&Za6 i i' |_=>false
 | .idx ln x i=>match o.op with | .index t x' i'=>ZmA P t ln (ZaO P t)&&Zia P (ZaO P t) false 1&&Za6 x x'&&Za6 i i' |_=>false
 | .sidx x i=>match o.op with | .index t x' i'=>ZdA P t&&Za6 x x'&&Za6 i i' |_=>false
 | .fld ag off n x=>match o.op with | .field t x' f=>(match Zo9 P t f off with |some ft=>Zia P ft ag n |none=>false)&&Za6 x x' |_=>false
 | .build z parts=>match o.op with | .build t parts'=>(match ZhN P t with |some (zv,place)=>ZdG (.agg z) zv&&Zh1 place parts parts'.toList |none=>false) |_=>false
 | .bslice _ e sz parts=>match o.op with | .buildSlice t ln parts'=>Zcc P t e&&ZiN P e sz none&&ZnO 0 parts parts'.toList&&ln==parts.length&&0<sz&&parts.length*sz≤65536 |_=>false
 | .mkslice _ e sz z ln=>match o.op with | .makeSlice t l c=>Zcc P t e&&ZiN P e sz (some z)&&z.pure&&z.bx&&0<sz&&Za6 ln l&&Za6 ln c |_=>false
 | .mklst a e sz z ln=>match o.op with | .makeSlice t l c=>!ZkW a&&Zcc P t e&&ZiN P e sz (some z)&&z.pure&&z.bx&&0<sz&&Za6 ln l&&Za6 ln c |_=>false
 | .slc sz x lo hi mx=>match o.op with | .slice t x' lo' hi' mx'=>Zcc P t (ZaO P t)&&Zf0 P (ZaO P t) sz&&0<sz&&Za6 x x'&&ZiE lo lo'&&ZiE hi hi'&&ZiE mx mx'&&(mx.isNone||hi.isSome) |_=>false
 | .asl ln p lo hi=>match o.op with | .slice t p' lo' hi' none=>(Zm3 P t ln||ZnE P t ln)&&Za6 p p'&&ZiE lo lo'&&ZiE hi hi' |_=>false
 | .sslc x lo hi=>match o.op with | .slice t x' lo' hi' none=>ZdA P t&&Za6 x x'&&ZiE lo lo'&&ZiE hi hi' |_=>false
 | .append _ e sz x y=>match o.op with | .call { callee:=.builtin .append,args:=⟨[x',y']⟩,argTypes:=⟨[t,t']⟩ } =>t==t'&&Zcc P t e&&ZiN P e sz none&&0<sz&&Za6 x x'&&Za6 y y' |_=>false
 | .appz _ e sz z x ln=>match o.op with | .call { callee:=.builtin .append,args:=⟨[x',l']⟩,argTypes:=⟨[t,t']⟩ } =>Zcc P t e&&(match P.underlying t' with |some (.int _)=>true |_=>false)&&ZiN P e sz (some z)&&z.pure&&z.bx&&0<sz&&Za6 x x'&&Za6 ln l' |_=>false
 | .copy sz x y=>match o.op with | .call { callee:=.builtin .copy,args:=⟨[x',y']⟩,argTypes:=⟨[t,t']⟩ } =>t==t'&&Zcc P t (ZaO P t)&&Zf0 P (ZaO P t) sz&&0<sz&&Za6 x x'&&Za6 y y' |_=>false
 | .clr e sz z x=>match o.op with | .call { callee:=.builtin .clear,args:=⟨[x']⟩,argTypes:=⟨[t]⟩ } =>Zcc P t e&&ZiN P e sz (some z)&&z.pure&&z.bx&&0<sz&&Za6 x x' |_=>false
 | .s2a n x=>match o.op with | .sliceToArrayPointer t x'=>(match P.underlying t with |some (.array m e)=>m==n&&Zf0 P e 1&&0<n |_=>false)&&Za6 x x' |_=>false
 | .s2b x=>match o.op with | .convert src dst x'=>ZdA P src&&(match P.underlying dst with |some (.slice e)=>ZBH P e .u8&&Zf0 P e 1 |_=>false)&&Za6 x x' |_=>false
 | .b2s x=>match o.op with | .convert src dst x'=>ZdA P dst&&(match P.underlying src with |some (.slice e)=>ZBH P e .u8 |_=>false)&&Za6 x x' |_=>false
 | .emptyl=>match o.op with | .buildSlice t ln parts'=>Zcc P t (ZaO P t)&&ZiN P (ZaO P t) (((P.info? (ZaO P t)).map (·.size)).getD 0) none&&Nat.beq ln 0&&parts'.isEmpty |_=>false
 | .app0 sz x y=>match o.op with | .call { callee:=.builtin .append,args:=⟨[x',y']⟩,argTypes:=⟨[t,t']⟩ } =>t==t'&&Zcc P t (ZaO P t)&&ZiN P (ZaO P t) sz none&&0<sz&&Za6 x x'&&Za6 y y' |_=>false
 | .inil ne x=>match o.op with | .binOp op' t x' (.const .nilIface) _=>op'==(if ne then .neq else .eql)&&(match P.underlying t with |some (.interface _)=>true |_=>false)&&Za6 x x' |_=>false
 | .pnil ne x=>match o.op with | .binOp op' t x' (.const (.pointer none)) _=>op'==(if ne then .neq else .eql)&&(match P.underlying t with |some (.pointer e)=>e==P.pointee t |_=>false)&&Za6 x x' |_=>false
 | .mkmap _=>match o.op with | .makeMap _ none=>true |_=>false
 | .mkrefs _ e sz _ _ ln=>match o.op with | .makeSlice t l c=>Zcc P t e&&ZiN P e sz (some .nils)&&0<sz&&Za6 ln l&&Za6 ln c |_=>false
 | .mlook x k=>match o.op with | .lookup t x' k' false=>Zgp P t&&Za6 x x'&&Za6 k k' |_=>false
 | .mupd x k=>match o.op with | .mapUpdate t x' k' (.const (.bool true))=>o.dst.isNone&&Zgp P t&&Za6 x x'&&Za6 k k' |_=>false
 | .nilck x=>match o.op with | .nilCheck x'=>Za6 x x' |_=>false
 | .ext i x=>match o.op with | .extract x' i'=>i==i'&&Za6 x x' |_=>false
 | .mkfn f caps=>match o.op with | .makeFunc (.func f') ⟨[]⟩ caps'=>f==f'&&ZhE caps caps'.toList |_=>false
 | .ncall _ _ f args=>match o.op with | .call { callee:=.value (.func f'),args:=args', .. } =>f==f'&&ZhE args args'.toList&&ZbF P f |_=>false
 | .ncallv _ _ x args=>match o.op with | .call { callee:=.value x',args:=args', .. } =>Za6 x x'&&ZhE args args'.toList |_=>false
 | .icall f args=>match o.op with | .call { callee:=.value (.func f'),args:=args', .. } =>f==f'&&ZhE args args'.toList&&ZbF P f |_=>false
 | .icallv x args=>match o.op with | .call { callee:=.value x',args:=args', .. } =>Za6 x x'&&ZhE args args'.toList |_=>false
def Zfi:Op→Bool
 | .defer _=>false
 |_=>true
def ZqQ(P:Program)(N:Nat)(ops:List Oper)(o:Oper)(ao:AOp):Bool:=
 Zfi o.op&&(o.dst==ao.d)&&(match ao.d with |some d=>Nat.blt d N |none=>true)&&
 (match o.guard,ao.g with
   |none,none=>true
   |some (j,want),some (t,want')=>want==want'&&(match ops[j]? with |some oj=>oj.dst==some t |none=>false)
   |_,_=>false)&&
 mop P o ao.k
def ZdY(P:Program)(N:Nat)(ops:List Oper):List Oper→List AOp→Bool
 |[],[]=>true
 |o::os,ao::aos=>ZqQ P N ops o ao&&ZdY P N ops os aos
 |_,_=>false
def ZoP:Option Opd→List Opd
 |some x=>[x]
 |none=>[]
def OpK.neutral:OpK→Bool
 | .box .. =>false
 | .alloc .. =>false
 | .store .. =>false
 | .stores .. =>false
 | .bslice .. =>false
 | .mkslice .. =>false
 | .mklst .. =>false
 | .append .. =>false
 | .appz .. =>false
 | .copy .. =>false
 | .clr .. =>false
 | .mkmap .. =>false
 | .mkrefs .. =>false
 | .mupd .. =>false
 | .ncall _ a .. =>Nat.beq a 0
 | .ncallv _ a .. =>Nat.beq a 0
 | .icall .. =>false
 | .icallv .. =>false
 |_=>true
def OpK.inl:OpK→Bool
 | .icall .. =>true
 | .icallv .. =>true
 |_=>false
def OpK.looks:OpK→List Opd
 | .mov x | .not x | .neg x | .conv _ x | .i2f _ x | .f2i _ x | .len x | .slen x | .box _ _ x | .load _ _ x | .faddr _ x | .fld _ _ _ x | .ext _ x | .mkslice _ _ _ _ x | .mklst _ _ _ _ x | .mkrefs _ _ _ _ _ x | .isnil _ x | .s2a _ x | .b2s x | .nilck x | .capl x | .mkmth _ x | .clr _ _ _ x | .s2b x | .pnil _ x | .inil _ x=>[x]
 | .pick c x y=>[c,x,y]
 | .bin _ x y | .binw _ x y | .beq _ x y | .mm _ x y | .store _ x y | .stores _ x y | .iaddr _ x y | .aaddr _ _ x y | .idx _ x y | .sidx x y | .append _ _ _ x y | .appz _ _ _ _ x y | .copy _ x y | .aeq _ _ x y | .idxa _ _ x y | .mlook x y | .mupd x y | .app0 _ x y=>[x,y]
 | .alloc .. =>[]
 | .mkmap .. =>[]
 | .emptyl=>[]
 | .build _ parts=>parts.map (·.2.2)
 | .bslice _ _ _ parts=>parts
 | .sslc x lo hi | .asl _ x lo hi=>x::ZoP lo++ZoP hi
 | .slc _ x lo hi mx=>x::ZoP lo++ZoP hi++ZoP mx
 | .mkfn _ caps=>caps
 | .ncall _ _ _ args | .icall _ args=>args
 | .ncallv _ _ x args | .icallv x args=>x::args
def AOp.tmps(o:AOp):List Nat:=(o.k.looks.filterMap fun | .t n=>some n | .s n=>some n | .c _=>none)++(match o.g with |some (t,_)=>[t] |none=>[])
def AOp.apart(x y:AOp):Bool:=
 (match x.d with |some d=>!y.tmps.contains d&&y.d != some d |none=>true)&&
 (match y.d with |some d=>!x.tmps.contains d |none=>true)
def OpK.mkr:OpK→Option Nat
 | .alloc a _ _=>some a
 | .bslice a _ _ _=>some a
 | .mkslice a _ _ _ _=>some a
 | .mklst a _ _ _ _=>some a
 |_=>none
def OpK.thr:OpK→Option Nat
 | .alloc a _ _=>some a
 | .bslice a _ _ _=>some a
 | .mkslice a _ _ _ _=>some a
 | .mklst a _ _ _ _=>some a
 | .ncall _ a _ _=>some a
 | .ncallv _ a _ _=>some a
 |_=>none
def AOp.frees(x z:AOp):Bool:=match x.k.thr,z.k.mkr with
 |some c,some a=>!Nat.beq c a&&z.g.isNone
 |_,_=>false
def Zr8:List Oper→List (List Nat)→List (List Nat)
 |[],acc=>acc
 |o::os,acc=>Zr8 os (acc++[let es:=(o.after.toList.filter fun e=>Region.binds .any e).map (·.on);(es++es.flatMap fun e=>acc.getD e []).eraseDups])
def ZkJ(fr:List (Nat×Nat))(aos:List AOp)(cl:List (List Nat)):Nat→List AOp→Bool
 |_,[]=>true
 |i,o::os=>((List.range os.length).all fun d=>(cl.getD (i+1+d) []).contains i||(match aos[i+1+d]? with |some oj=>o.apart oj&&((o.k.neutral&&oj.k.neutral)||((o.k.neutral||oj.k.neutral||o.frees oj)&&fr.contains (i,i+1+d))) |none=>false))&&ZkJ fr aos cl (i+1) os
def Zu0:Nat→List Oper→Bool
 |_,[]=>true
 |k,o::os=>(o.after.all fun e=>!Region.binds .any e||Nat.blt e.on k)&&Zu0 (k+1) os
def Zdd:List AOp→Nat
 |[]=>0
 |o::os=>match o.k.inl with |true=>0 |false=>Zdd os+1
def ZD8(cl:List (List Nat))(n c:Nat):Bool:=(List.range n).all fun j=>Nat.blt j c||(List.range j).all fun i=>(cl.getD j []).contains i
def ZmB:List (Nat×Nat)→Bool
 |[]=>false
 |e::_=>Nat.beq e.1 e.2
def ZoH(fr:List (Nat×Nat))(ops:List Oper)(aos:List AOp):Bool:=Zu0 0 ops&&match ZmB fr with
 |true=>(fr.drop 1).all fun e=>((Zr8 ops []).getD e.2 []).contains e.1
 |false=>ZkJ fr (aos.take (Zdd aos)) (Zr8 ops []) 0 (aos.take (Zdd aos))&&ZD8 (Zr8 ops []) aos.length (Zdd aos)
def Zqm:List Nat→List Nat→Bool
 |[],[]=>true
 |x::xs,y::ys=>Nat.beq x y&&Zqm xs ys
 |_,_=>false
def Zbp(P:Program)(N:Nat):ACode→Code→Bool
 | .skip, .skip=>true
 | .reg d aos, .region _ ops draw=>draw==d.isSome&&ZdY P N ops.toList ops.toList aos&&(match d with |none=>true |some fr=>ZoH fr ops.toList aos)
 | .seq a b, .seq x y=>Zbp P N a x&&Zbp P N b y
 | .cond c' a b, .cond c x y=>Za6 c' c&&Zbp P N a x&&Zbp P N b y
 | .block id' a, .block id x=>id==id'&&Zbp P N a x
 | .loop a, .loop x=>Zbp P N a x
 | .rf _ f' ps' a b, .rangeFunc f ps x y=>Za6 f' f&&Zqm ps' ps.toList&&ps'.all (Nat.blt · N)&&Zbp P N a x&&Zbp P N b y
 | .exit j, .exit i=>i==j
 | .ret, .ret=>true
 | .junk,_=>true
 | .gh _ a,c=>Zbp P N a c
 |_,_=>false
def plc(t:Option (Nat×Nat))(n:Nat):Prop:=∃s,t=some s∧(s.1=0∨n≠0)
def Plc(h:Zad)(L:Lay)(a i:Nat):Prop:=plc (blk h a i).tag (L.size a i)
theorem Plc.tag{h:Zad}{L:Lay}{a i:Nat}(p:Plc h L a i):(blk h a i).tag≠none:=by
 obtain⟨s,e,_⟩:=p;rw[e];simp
theorem Plc.of{h:Zad}{L:Lay}{a i:Nat}{s:Nat×Nat}(e:(blk h a i).tag=some s)(hn:s.1=0∨L.size a i≠0):Plc h L a i:=⟨s,e,hn⟩
theorem Plc.to{h h':Zad}{L L':Lay}{a i:Nat}(p:Plc h L a i)(e:(blk h' a i).tag=(blk h a i).tag)(e2:L'.size a i=L.size a i):Plc h' L' a i:=by
 obtain⟨s,e',hn⟩:=p;exact⟨s,e.trans e',e2▸hn⟩
structure Ctx where
 P:Program
 w0:World
 okA:Nat→Prop
 cs0:List Frame
 b:Nat
 own:Nat
abbrev Ctx.of(P:Program)(w:World)(okA:Nat→Prop)(cs:List Frame):Ctx:=⟨P,w,okA,cs,w.heap.size,0⟩
def Ctx.base(C:Ctx):Nat:=C.b
def Ctx.n0(C:Ctx):Nat:=C.w0.heap.size
def Zaz(C:Ctx)(h:Zad)(L:Lay)(g:Nat):Prop:=(g<C.n0∧C.okA g)∨(C.n0≤g∧∀a i,Plc h L a i→L.loc a i≠g)
abbrev ZaH(C:Ctx)(h:Zad)(L:Lay)(w:World):AV→Value→Prop:=Rel w (Zaz C h L) h L
def EnvRel(C:Ctx)(h:Zad)(L:Lay)(w:World)(env:List (Nat×AV))(tmps:Array Value):Prop:=
 ∀t av,ZaP env t=some av→ZaH C h L w av (tmps.getD t undef)
def ZHG(P:Program)(N:Nat):RSt→LoopState→Option Code→Prop
 | .ready,st,p=>st=.ready∧p=none
 | .busy,st,_=>st=.busy
 | .done j,st,p=>st=.done∧∃c,p=some c∧Zbp P N j c=true
def BRel(C:Ctx)(h:Zad)(L:Lay)(w:World)(g n:Nat):Blk→Prop
 | .row e sz r=>0<sz∧n≤maxLen∧r.elems.length≤n∧(∀x∈r.elems,x.flat.length=sz)∧(n≠0→∃cur:Array Value,w.heap[g]? =some (.cells cur e (0,0))∧cur.size=n*sz∧
    RelL w (Zaz C h L) h L (Zai r.elems) (cur.toList.take (r.elems.length*sz))∧∀c∈cur.toList.take (r.elems.length*sz),c.oneCell'=true)
 | .lp l=>∃r:Loop,w.heap[g]? =some (.loop r)∧ZHG C.P l.N l.st r.state r.pending∧r.fn=l.fn∧r.tmps.size=l.N∧EnvRel C h L w l.env r.tmps∧r.params.toList=l.params∧(∀p∈l.params,p<l.N)∧
    Zbp C.P l.N l.asg r.assign=true∧Zbp C.P l.N l.body r.body=true
 | .dfr=>w.heap[g]? =some (.deferred (some []))
 | .mp ks=>∃(es:Array MapEntry) (clock:Nat),w.heap[g]? =some (.map es clock)∧es.toList.map (fun e=>(e.key,e.val))=ks.map fun k=>(Value.string ⟨k.toS.toArray⟩,Value.bool true)
 | .dead=>True
structure HRel (C:Ctx) (h:Zad) (L:Lay) (w:World):Prop where
 below:Below C.base C.w0 w
 live:∀a i,Plc h L a i→C.base≤L.loc a i∧L.loc a i<w.heap.size
 blks:∀a i,BRel C h L w (L.loc a i) (L.size a i) (blk h a i)
 inj:∀a i b j,Plc h L a i→Plc h L b j→L.loc a i=L.loc b j→a=b∧i=j
 home:∀a i,Plc h L a i→C.n0≤L.loc a i∨(a=0∧i=0∧L.loc a i=C.own∧¬C.okA (L.loc a i))
 low:∀k,k<C.n0→k≠C.own→w.heap[k]? =C.w0.heap[k]?
 base:C.base≤C.n0
 good:GoodW C.P C.w0 C.base C.own
section
variable {C:Ctx}{h h':Zad}{L L':Lay}{w w':World}
theorem EnvRel.step{env:List (Nat×AV)}{tmps:Array Value}(s:Step w (Zaz C h L) h L w' (Zaz C h' L') h' L')(he:EnvRel C h L w env tmps):EnvRel C h' L' w' env tmps:=
 fun t av ht=>(he t av ht).step s
theorem HRel.top(H:HRel C h L w):C.n0≤w.heap.size:=H.below.size
theorem HRel.hbase(H:HRel C h L w):C.base≤w.heap.size:=Nat.le_trans H.base H.top
theorem HRel.off(H:HRel C h L w){k a i:Nat}(hk:k<C.n0)(hko:k≠C.own)(ht:Plc h L a i):k≠L.loc a i:=by
 rcases H.home a i ht with h1 |⟨_,_,h1,_⟩
 ·omega
 ·rw[h1];exact hko
theorem BRel.step(s:Step w (Zaz C h L) h L w' (Zaz C h' L') h' L'){g n:Nat}{b:Blk}(hw:plc b.tag n→w'.heap[g]? =w.heap[g]?)
 (hb:BRel C h L w g n b):BRel C h' L' w' g n b:=by
 cases b with
 |row e sz r=>
  obtain⟨h0,h1,h2,h3,hc⟩:=hb
  refine⟨h0,h1,h2,h3,fun hn=>?_⟩
  obtain⟨cur,h4,h5,h6,h7⟩:=hc hn
  exact⟨cur,(hw ⟨_,rfl, .inr hn⟩).trans h4,h5,h6.step s,h7⟩
 |lp l=>
  obtain⟨r,h1,h2,h3,h4,h5,h6,h7,h8,h9⟩:=hb
  exact⟨r,(hw ⟨_,rfl, .inl rfl⟩).trans h1,h2,h3,h4,h5.step s,h6,h7,h8,h9⟩
 |dfr=>exact(hw ⟨_,rfl, .inl rfl⟩).trans hb
 |mp ks=>obtain⟨es,cl,h1,h2⟩:=hb;exact⟨es,cl,(hw ⟨_,rfl, .inl rfl⟩).trans h1,h2⟩
 |dead=>trivial
theorem HRel.one(H:HRel C h L w)(s:Step w (Zaz C h L) h L w' (Zaz C h' L') h' L')(hb:Below C.base w w')(a0 i0:Nat)
 (hk:∀a i,¬(a=a0∧i=i0)→blk h' a i=.dead∨(blk h' a i=blk h a i∧L'.loc a i=L.loc a i∧L'.size a i=L.size a i∧(Plc h L a i→w'.heap[L.loc a i]? =w.heap[L.loc a i]?)))
 (h0l:Plc h' L' a0 i0→C.base≤L'.loc a0 i0∧L'.loc a0 i0<w'.heap.size)
 (h0h:Plc h' L' a0 i0→C.n0≤L'.loc a0 i0∨(a0=0∧i0=0∧L'.loc a0 i0=C.own∧¬C.okA (L'.loc a0 i0)))
 (hlow:∀k,k<C.n0→k≠C.own→w'.heap[k]? =w.heap[k]?)
 (h0:BRel C h' L' w' (L'.loc a0 i0) (L'.size a0 i0) (blk h' a0 i0))
 (hap:∀a i,¬(a=a0∧i=i0)→Plc h' L' a i→Plc h' L' a0 i0→L.loc a i≠L'.loc a0 i0):HRel C h' L' w':=by
 have key:∀a i,¬(a=a0∧i=i0)→Plc h' L' a i→Plc h L a i∧L'.loc a i=L.loc a i:=fun a i ha ht=>by
  rcases hk a i ha with hd |⟨h1,h2,h3,_⟩
  ·exact absurd (by rw[hd];rfl) ht.tag
  ·exact⟨ht.to (by rw[h1]) h3.symm,h2⟩
 refine⟨H.below.trans hb,fun a i ht=>?_,fun a i=>?_,fun a i b j hti htj hl=>?_,fun a i ht=>?_,fun k hk ho=>(hlow k hk ho).trans (H.low k hk ho),H.base,H.good⟩
 rotate_right
 ·by_cases ha:a=a0∧i=i0
  ·obtain⟨rfl,rfl⟩:=ha;exact h0h ht
  ·obtain⟨h1,h2⟩:=key a i ha ht
   rw[h2];exact H.home a i h1
 ·by_cases ha:a=a0∧i=i0
  ·obtain⟨rfl,rfl⟩:=ha;exact h0l ht
  ·obtain⟨h1,h2⟩:=key a i ha ht
   rw[h2]
   obtain⟨g1,g2⟩:=H.live a i h1
   exact⟨g1,Nat.lt_of_lt_of_le g2 s.size⟩
 ·by_cases ha:a=a0∧i=i0
  ·obtain⟨rfl,rfl⟩:=ha;exact h0
  ·rcases hk a i ha with hd |⟨h1,h2,h3,h4⟩
   ·rw[hd];trivial
   ·rw[h1,h2,h3];exact(H.blks a i).step s h4
 ·by_cases ha:a=a0∧i=i0
  ·by_cases hb:b=a0∧j=i0
   ·exact⟨ha.1.trans hb.1.symm,ha.2.trans hb.2.symm⟩
   ·obtain⟨h1,h2⟩:=key b j hb htj
    rw[h2]at hl
    obtain⟨rfl,rfl⟩:=ha
    exact absurd hl.symm (hap b j hb htj hti)
  ·obtain⟨h1,h2⟩:=key a i ha hti
   by_cases hb:b=a0∧j=i0
   ·rw[h2]at hl
    obtain⟨rfl,rfl⟩:=hb
    exact absurd hl (hap a i ha hti htj)
   ·obtain⟨h3,h4⟩:=key b j hb htj
    rw[h2,h4]at hl
    exact H.inj a i b j h1 h3 hl
def Lay.put(L:Lay)(a i g n:Nat):Lay:=⟨fun b j=>if b=a∧j=i then g else L.loc b j,fun b j=>if b=a∧j=i then n else L.size b j⟩
theorem Lay.put_loc(L:Lay)(a i g n:Nat):(L.put a i g n).loc a i=g:=by simp[Lay.put]
theorem Lay.put_size(L:Lay)(a i g n:Nat):(L.put a i g n).size a i=n:=by simp[Lay.put]
theorem Lay.put_ne(L:Lay){a i:Nat}(g n:Nat){b j:Nat}(hne:¬(b=a∧j=i)):(L.put a i g n).loc b j=L.loc b j∧(L.put a i g n).size b j=L.size b j:=by simp[Lay.put,hne]
theorem ZvD(H:HRel C h L w){g:Nat}(ho:Zaz C h L g){a i:Nat}(hl:Plc h L a i):g≠L.loc a i:=by
 rintro rfl
 rcases ho with ho |⟨h1,h2⟩
 ·rcases H.home a i hl with h3 |⟨_,_,_,h3⟩
  ·omega
  ·exact h3 ho.2
 ·exact h2 a i hl rfl
theorem HRel.pushK(H:HRel C h L w)(kill:Nat→Nat→Prop)(hm:Zad)(hn:∀a,nxt hm a=nxt h a)(hkk:∀a i,blk hm a i=.dead∨(¬kill a i∧blk hm a i=blk h a i))(a:Nat)(b:Blk)(g n:Nat)
 (hb:Below C.base w w') (hsame:∀k,k<w.heap.size→(∀b j,kill b j→Plc h L b j→k≠L.loc b j)→w'.heap[k]? =w.heap[k]?)
 (hg:plc b.tag n→(w.heap.size≤g∧g<w'.heap.size)∨∃b j,kill b j∧Plc h L b j∧g=L.loc b j) (hgn:plc b.tag n→C.n0≤g)
 (h0:Step w (Zaz C h L) h L w' (Zaz C (Zal hm a b) (L.put a (nxt h a) g n)) (Zal hm a b) (L.put a (nxt h a) g n)→BRel C (Zal hm a b) (L.put a (nxt h a) g n) w' g n b):
 Step w (Zaz C h L) h L w' (Zaz C (Zal hm a b) (L.put a (nxt h a) g n)) (Zal hm a b) (L.put a (nxt h a) g n)∧HRel C (Zal hm a b) (L.put a (nxt h a) g n) w':=by
 have hblk:∀c i,blk (Zal hm a b) c i=if a=c∧i=nxt h a then b else blk hm c i:=fun c i=>by rw[Za3,hn]
 have hold:∀c i,¬(c=a∧i=nxt h a)→blk (Zal hm a b) c i=.dead∨(¬kill c i∧blk (Zal hm a b) c i=blk h c i):=fun c i hne=>by
  rw[hblk,if_neg (fun e=>hne ⟨e.1.symm,e.2⟩)];exact hkk c i
 have hpn:∀c i,c=a∧i=nxt h a→Plc (Zal hm a b) (L.put a (nxt h a) g n) c i→plc b.tag n:=fun c i e p=>by
  obtain⟨rfl,rfl⟩:=e
  unfold Plc at p
  rwa[hblk,if_pos ⟨rfl,rfl⟩,Lay.put_size]at p
 have hpo:∀c i,¬(c=a∧i=nxt h a)→Plc (Zal hm a b) (L.put a (nxt h a) g n) c i→¬kill c i∧Plc h L c i:=fun c i hne p=>by
  rcases hold c i hne with hd |⟨hk,he⟩
  ·exact absurd (by rw[hd];rfl) p.tag
  ·exact⟨hk,p.to (by rw[he]) (L.put_ne g n hne).2.symm⟩
 have hs:Step w (Zaz C h L) h L w' (Zaz C (Zal hm a b) (L.put a (nxt h a) g n)) (Zal hm a b) (L.put a (nxt h a) g n):=by
  refine⟨hb.size,fun k hk ho=>⟨?_,hsame k hk (fun b j _ hl=>ZvD H ho hl)⟩,fun c=>?_,fun c i sz hi ht=>?_⟩
  ·rcases ho with ho |⟨h1,h2⟩
   ·exact .inl ho
   ·refine .inr ⟨h1,fun c i ht=>?_⟩
    by_cases hne:c=a∧i=nxt h a
    ·have hg:=hg (hpn c i hne ht)
     obtain⟨rfl,rfl⟩:=hne
     rw[Lay.put_loc]
     rintro rfl
     rcases hg with⟨hg,_⟩ |⟨b',j',_,hl,hg⟩
     ·omega
     ·exact h2 b' j' hl hg.symm
    ·rw[(L.put_ne g n hne).1]
     exact h2 c i (hpo c i hne ht).2
  ·rw[Zcs]
   split
   ·rename_i e;subst e;rw[hn];omega
   ·rw[hn];exact Nat.le_refl _
  ·have hne:¬(c=a∧i=nxt h a):=by rintro⟨rfl,rfl⟩;omega
   rcases hold c i hne with hd |⟨_,he⟩
   ·rw[hd]at ht;cases ht
   ·rw[he]at ht;exact⟨ht,(L.put_ne g n hne).1,(L.put_ne g n hne).2⟩
 refine⟨hs,H.one hs hb a (nxt h a) (fun c i hne=>?_) (fun p=>?_) (fun p=>.inl (by rw[Lay.put_loc];exact hgn (hpn _ _ ⟨rfl,rfl⟩ p))) (fun k hk ho=>hsame k (Nat.lt_of_lt_of_le hk H.top) (fun b j _ hl=>H.off hk ho hl)) ?_ (fun c i hne ht p=>?_)⟩
 ·rcases hold c i hne with hd |⟨hnk,he⟩
  ·exact .inl hd
  ·refine .inr ⟨he,(L.put_ne g n hne).1,(L.put_ne g n hne).2,fun hp=>hsame _ (H.live c i hp).2 (fun b j hkl hl e=>?_)⟩
   obtain⟨rfl,rfl⟩:=H.inj c i b j hp hl e
   exact hnk hkl
 ·have hg:=hg (hpn _ _ ⟨rfl,rfl⟩ p)
  rw[Lay.put_loc]
  rcases hg with hg |⟨b',j',_,hl,rfl⟩
  ·exact⟨Nat.le_trans H.hbase hg.1,hg.2⟩
  ·exact⟨(H.live b' j' hl).1,Nat.lt_of_lt_of_le (H.live b' j' hl).2 hb.size⟩
 ·rw[Lay.put_loc,Lay.put_size,hblk,if_pos ⟨rfl,rfl⟩];exact h0 hs
 ·have hg:=hg (hpn _ _ ⟨rfl,rfl⟩ p)
  obtain⟨hnk,ht'⟩:=hpo c i hne ht
  rw[Lay.put_loc]
  rcases hg with hg |⟨b',j',hkl,hl,hgg⟩
  ·have:=(H.live c i ht').2;omega
  ·intro e
   obtain⟨rfl,rfl⟩:=H.inj c i b' j' ht' hl (e.trans hgg)
   exact hnk hkl
theorem HRel.pushP(H:HRel C h L w)(a:Nat)(b:Blk)(g n:Nat)(hb:Below w.heap.size w w')(hg:plc b.tag n→w.heap.size≤g∧g<w'.heap.size)
 (h0:Step w (Zaz C h L) h L w' (Zaz C (Zal h a b) (L.put a (nxt h a) g n)) (Zal h a b) (L.put a (nxt h a) g n)→BRel C (Zal h a b) (L.put a (nxt h a) g n) w' g n b):
 Step w (Zaz C h L) h L w' (Zaz C (Zal h a b) (L.put a (nxt h a) g n)) (Zal h a b) (L.put a (nxt h a) g n)∧HRel C (Zal h a b) (L.put a (nxt h a) g n) w':=
 H.pushK (fun _ _=>False) h (fun _=>rfl) (fun _ _=>.inr ⟨fun e=>e,rfl⟩) a b g n (hb.mono H.hbase) (fun k hk _=>hb.block k hk) (fun hp=>.inl (hg hp)) (fun hp=>Nat.le_trans H.top (hg hp).1) h0
theorem HRel.push(H:HRel C h L w)(a:Nat)(b:Blk)(g n:Nat)(hb:Below w.heap.size w w')(hg:w.heap.size≤g∧g<w'.heap.size)
 (h0:Step w (Zaz C h L) h L w' (Zaz C (Zal h a b) (L.put a (nxt h a) g n)) (Zal h a b) (L.put a (nxt h a) g n)→BRel C (Zal h a b) (L.put a (nxt h a) g n) w' g n b):
 Step w (Zaz C h L) h L w' (Zaz C (Zal h a b) (L.put a (nxt h a) g n)) (Zal h a b) (L.put a (nxt h a) g n)∧HRel C (Zal h a b) (L.put a (nxt h a) g n) w':=
 H.pushK (fun _ _=>False) h (fun _=>rfl) (fun _ _=>.inr ⟨fun e=>e,rfl⟩) a b g n (hb.mono H.hbase) (fun k hk _=>hb.block k hk) (fun _=>.inl hg) (fun _=>Nat.le_trans H.top hg.1) h0
theorem HRel.set(H:HRel C h L w){a i:Nat}{b:Blk}(hl:Plc h L a i)(ht:b.tag=(blk h a i).tag)(hg:w.grownBy w' (some (L.loc a i)))
 (h0:Step w (Zaz C h L) h L w' (Zaz C (ZaY h a i b) L) (ZaY h a i b) L→BRel C (ZaY h a i b) L w' (L.loc a i) (L.size a i) b):
 Step w (Zaz C h L) h L w' (Zaz C (ZaY h a i b) L) (ZaY h a i b) L∧HRel C (ZaY h a i b) L w':=by
 have hnd:blk h a i≠ .dead:=fun e=>hl.tag (by rw[e];rfl)
 have hblk:∀c j,blk (ZaY h a i b) c j=if a=c∧i=j then b else blk h c j:=fun c j=>Zcm hnd c j b
 have htag:∀c j,(blk (ZaY h a i b) c j).tag=(blk h c j).tag:=fun c j=>by
  rw[hblk];split
  ·rename_i e;obtain⟨rfl,rfl⟩:=e;exact ht
  ·rfl
 have hp:∀c j,Plc (ZaY h a i b) L c j→Plc h L c j:=fun c j p=>p.to (htag c j).symm rfl
 have hb:Below C.base w w':=(Below.refl _ _).grown hg H.hbase (fun k hk=>by cases hk;exact(H.live a i hl).1)
 have hs:Step w (Zaz C h L) h L w' (Zaz C (ZaY h a i b) L) (ZaY h a i b) L:=by
  refine⟨hb.size,fun k hk ho=>⟨?_,hg.block k hk (fun e=>ZvD H ho hl (by simpa using e))⟩,fun c=>by rw[ZdJ];exact Nat.le_refl _,fun c j sz _ htt=>⟨by rw[←htag];exact htt,rfl,rfl⟩⟩
  rcases ho with ho |⟨h1,h2⟩
  ·exact .inl ho
  ·exact .inr ⟨h1,fun c j hc=>h2 c j (hp c j hc)⟩
 refine⟨hs,H.one hs hb a i (fun c j hne=>?_) (fun _=>⟨(H.live a i hl).1,Nat.lt_of_lt_of_le (H.live a i hl).2 hb.size⟩) (fun _=>H.home a i hl) (fun k hk ho=>hg.block k (Nat.lt_of_lt_of_le hk H.top) (fun e=>H.off hk ho hl (by simpa using e))) (by rw[hblk,if_pos ⟨rfl,rfl⟩];exact h0 hs) (fun c j hne hc _ e=>?_)⟩
 ·have he:blk (ZaY h a i b) c j=blk h c j:=by rw[hblk,if_neg (fun e=>hne ⟨e.1.symm,e.2.symm⟩)]
  refine .inr ⟨he,rfl,rfl,fun hdd=>hg.block _ (H.live c j hdd).2 (fun e=>?_)⟩
  obtain⟨rfl,rfl⟩:=H.inj c j a i hdd hl (by simpa using e)
  exact hne ⟨rfl,rfl⟩
 ·obtain⟨rfl,rfl⟩:=H.inj c j a i (hp c j hc) hl e
  exact hne ⟨rfl,rfl⟩
theorem HRel.kill(H:HRel C h L w)(h':Zad)(hn:∀a,nxt h' a=nxt h a)(hk:∀a i,blk h' a i=.dead∨blk h' a i=blk h a i):
 Step w (Zaz C h L) h L w (Zaz C h' L) h' L∧HRel C h' L w:=by
 have htag:∀a i,Plc h' L a i→Plc h L a i:=fun a i ht=>by
  rcases hk a i with e |e
  ·exact absurd (by rw[e];rfl) ht.tag
  ·exact ht.to (by rw[e]) rfl
 have hs:Step w (Zaz C h L) h L w (Zaz C h' L) h' L:=by
  refine⟨Nat.le_refl _,fun k hk' ho=>⟨?_,rfl⟩,fun a=>by rw[hn];exact Nat.le_refl _,fun a i sz _ ht=>?_⟩
  ·rcases ho with ho |⟨h1,h2⟩
   ·exact .inl ho
   ·exact .inr ⟨h1,fun a i ht=>h2 a i (htag a i ht)⟩
  ·rcases hk a i with e |e
   ·rw[e]at ht;cases ht
   ·rw[e]at ht;exact⟨ht,rfl,rfl⟩
 refine⟨hs,H.below,fun a i ht=>H.live a i (htag a i ht),fun a i=>?_,fun a i b j h1 h2 e=>H.inj a i b j (htag a i h1) (htag b j h2) e,fun a i ht=>H.home a i (htag a i ht),H.low,H.base,H.good⟩
 rcases hk a i with e |e
 ·rw[e];trivial
 ·rw[e];exact(H.blks a i).step hs fun _=>rfl
theorem HRel.grow(H:HRel C h L w)(hb:Below w.heap.size w w'):Step w (Zaz C h L) h L w' (Zaz C h L) h L∧HRel C h L w':=by
 have hs:Step w (Zaz C h L) h L w' (Zaz C h L) h L:=⟨hb.size,fun k hk ho=>⟨ho,hb.block k hk⟩,fun a=>Nat.le_refl _,fun a i sz _ ht=>⟨ht,rfl,rfl⟩⟩
 exact⟨hs,H.below.trans (hb.mono H.hbase),fun a i ht=>⟨(H.live a i ht).1,Nat.lt_of_lt_of_le (H.live a i ht).2 hb.size⟩,
  fun a i=>(H.blks a i).step hs fun hp=>hb.block _ (H.live a i hp).2,H.inj,H.home,fun k hk ho=>(hb.block k (Nat.lt_of_lt_of_le hk H.top)).trans (H.low k hk ho),H.base,H.good⟩
end
end Go.Proofs.YtkeoeooghhjibaaGreatDoor
namespace Go.Proofs.YtkeoeooghhjibaaGreatDoor
open Go.RowKit (Below)
def Zag:Bool→Bool→Bool
 |true,b=>b
 |false,_=>false
structure Ar where
 add:Int→Int→Int
 sub:Int→Int→Int
 mul:Int→Int→Int
 quo:Int→Int→Int
 rem:Int→Int→Int
 neg:Int→Int
 bits:BinOp→IntKind→Int→Int→Int
 shl:Int→Int→Int
 shr:Int→Int→Int
 lt:Int→Int→Bool
 le:Int→Int→Bool
 eq:Int→Int→Bool
 inR:IntKind→Int→Bool
 nat:Int→Nat
 int:Nat→Int
 max:Int→Int→Int
 min:Int→Int→Int
 len:zI→Nat
 nth:zI→Nat→Int
 set:zI→Nat→Int→zI
 app:zI→zI→zI
 sub3:zI→Nat→Nat→zI
 rep:Nat→Int→zI
 lenF:List Nat→Nat
 nthF:List Nat→Nat→Nat
 setF:List Nat→Nat→Nat→List Nat
 appF:List Nat→List Nat→List Nat
 subF:List Nat→Nat→Nat→List Nat
 repF:Nat→Nat→List Nat
 lenA:zA→Nat
 nthA:zA→Nat→AV
 setA:zA→Nat→AV→zA
 appA:zA→zA→zA
 subA:zA→Nat→Nat→zA
 repA:Nat→AV→zA
 lenS:List UInt8→Nat
 nthS:List UInt8→Nat→Int
 appS:List UInt8→List UInt8→List UInt8
 subS:List UInt8→Nat→Nat→List UInt8
 eqS:List UInt8→List UInt8→Bool
 ltS:List UInt8→List UInt8→Bool
 hasS:zA→List UInt8→Bool
 byt:List UInt8→zI
 fadd:FloatKind→Nat→Nat→Option Nat
 fsub:FloatKind→Nat→Nat→Option Nat
 ford:FloatKind→Nat→Nat→Option Ordering
 fneg:FloatKind→Nat→Bool
 i2f:FloatKind→Int→Nat
 f2i:FloatKind→Nat→Option Int
 not:Bool→Bool
def sub3{α:Type}(l:List α)(k n:Nat):List α:=(l.drop k).take n
def std:Ar where
 add:=(· + ·)
 sub:=(· - ·)
 mul:=(· * ·)
 quo:=Int.tdiv
 rem:=Int.tmod
 neg:=fun a=> -a
 bits:=fun op k a b=>match Op.intBits op k a b with | .pure (.int _ n)=>n |_=>0
 shl:=fun a b=>a*2^b.toNat
 shr:=fun a b=>a.fdiv (2^b.toNat)
 lt:=fun a b=>decide (a<b)
 le:=fun a b=>decide (a≤b)
 eq:=fun a b=>decide (a=b)
 inR:=fun k n=>decide (k.min≤n∧n≤k.max)
 nat:=Int.toNat
 int:=fun n=>(n:Int)
 max:=fun a b=>Max.max a b
 min:=fun a b=>Min.min a b
 len:=List.length
 nth:=fun l j=>l.getD j 0
 set:=List.set
 app:=(· ++ ·)
 sub3:=sub3
 rep:=List.replicate
 lenF:=List.length
 nthF:=fun l j=>l.getD j 0
 setF:=List.set
 appF:=(· ++ ·)
 subF:=sub3
 repF:=List.replicate
 lenA:=List.length
 nthA:=fun l j=>l.getD j .top
 setA:=List.set
 appA:=(· ++ ·)
 subA:=sub3
 repA:=List.replicate
 lenS:=List.length
 nthS:=fun l j=>((l.getD j 0).toNat:Int)
 appS:=(· ++ ·)
 subS:=sub3
 eqS:=fun a b=>a==b
 ltS:=Op.bytesLess
 hasS:=fun ks s=>ks.any fun k=>k.toS==s
 byt:=fun s=>s.map fun b=>(b.toNat:Int)
 fadd:=fun k a b=>k.format.add a b
 fsub:=fun k a b=>k.format.sub a b
 ford:=fun k a b=>k.format.order a b
 fneg:=fun k a=>(k.decode a).neg
 i2f:=fun k n=>k.nearest n
 f2i:=fun k b=>(k.decode b).toInt .zero
 not:=fun a=>!a
mutual
def Zb6:Sh→Sh→Bool
 | .int k, .int k'=>decide (k=k')
 | .bool, .bool=>true
 | .str, .str=>true
 | .flt k, .flt k'=>decide (k=k')
 | .ints k, .ints k'=>decide (k=k')
 | .big s, .big t=>Zb6 s t
 | .agg ss, .agg ts=>ZpG ss ts
 |_,_=>false
def ZpG:List Sh→List Sh→Bool
 |[],[]=>true
 |s::ss,t::ts=>match Zb6 s t with |true=>ZpG ss ts |false=>false
 |_,_=>false
end
def ZrH:Sh→AV→Bool
 | .int k, .int k' _=>decide (k=k')
 | .bool, .bool _=>true
 | .str, .str _=>true
 | .flt k, .flt k' _=>decide (k=k')
 | .ints k, .list (.ints k' _)=>decide (k=k')
 | .big s, .list (.big t _)=>Zb6 s t
 |_,_=>false
def ZqH:List Sh→zA→Bool
 |[],[]=>true
 |s::ss,x::xs=>match ZrH s x with |true=>ZqH ss xs |false=>false
 |_,_=>false
def ZBC:Sh→AV→Bool
 | .agg ss, .agg (.gen xs)=>ZqH ss xs
 | .agg _,_=>false
 |s,v=>ZrH s v
def ZpX(sh:Sh):zA→Bool
 |[]=>true
 |x::xs=>match ZBC sh x with |true=>ZpX sh xs |false=>false
def ZDt:AV→Option Sh
 | .int k _=>some (.int k)
 | .bool _=>some .bool
 | .str _=>some .str
 | .flt k _=>some (.flt k)
 | .list (.ints k _)=>some (.ints k)
 | .list (.big s _)=>some (.big s)
 |_=>none
def ZFj:zA→Option (List Sh)
 |[]=>some []
 |x::xs=>match ZDt x,ZFj xs with |some s,some ss=>some (s::ss) |_,_=>none
def ZLK:AV→Option Sh
 | .agg (.gen xs)=>(match ZFj xs with |some ss=>some (.agg ss) |none=>none)
 |v=>ZDt v
def Row.len(A:Ar):Row→Nat
 | .gen xs=>xs.length
 | .ints _ l=>A.len l
 | .flts _ l=>A.lenF l
 | .big _ xs=>A.lenA xs
 | .refs _ p=>A.lenF p
def Row.get(A:Ar)(j:Nat):Row→AV
 | .gen xs=>xs.getD j .top
 | .ints k l=>.int k (A.nth l j)
 | .flts k l=>.flt k (A.nthF l j)
 | .big sh xs=>sh.view (A.nthA xs j)
 | .refs a p=>.row a (A.nthF p j)
def Row.set(A:Ar)(r:Row)(j:Nat)(v:AV):Row:=
 match r,v with
 | .ints k l, .int k' n=>match decide (k=k')with |true=>.ints k (A.set l j n) |false=>.gen (((Row.ints k l).elems).set j v)
 | .flts k l, .flt k' n=>match decide (k=k')with |true=>.flts k (A.setF l j n) |false=>.gen (((Row.flts k l).elems).set j v)
 | .big sh xs,v=>match ZBC sh v with |true=>.big sh (A.setA xs j v) |false=>.gen ((Row.big sh xs).elems.set j v)
 | .refs a p, .row b i=>match Nat.beq a b with |true=>.refs a (A.setF p j i) |false=>.gen ((Row.refs a p).elems.set j (.row b i))
 |r,v=>.gen (r.elems.set j v)
def Row.app(A:Ar)(r s:Row):Row:=
 match r,s with
 | .gen [],s=>s
 |r, .gen []=>r
 | .ints k l, .ints k' l'=>match decide (k=k')with |true=>.ints k (A.app l l') |false=>.gen ((Row.ints k l).elems++(Row.ints k' l').elems)
 | .flts k l, .flts k' l'=>match decide (k=k')with |true=>.flts k (A.appF l l') |false=>.gen ((Row.flts k l).elems++(Row.flts k' l').elems)
 | .big sh xs, .big sh' ys=>match Zb6 sh sh' with |true=>.big sh (A.appA xs ys) |false=>.gen ((Row.big sh xs).elems++(Row.big sh' ys).elems)
 | .big sh xs, .gen ys=>match ZpX sh ys with |true=>.big sh (A.appA xs ys) |false=>.gen ((Row.big sh xs).elems++ys)
 | .gen ys, .big sh xs=>match ZpX sh ys with |true=>.big sh (A.appA ys xs) |false=>.gen (ys++(Row.big sh xs).elems)
 | .refs a p, .refs b q=>match Nat.beq a b with |true=>.refs a (A.appF p q) |false=>.gen ((Row.refs a p).elems++(Row.refs b q).elems)
 |r,s=>.gen (r.elems++s.elems)
def Row.sub(A:Ar)(k n:Nat):Row→Row
 | .gen xs=>.gen (sub3 xs k n)
 | .ints kd l=>.ints kd (A.sub3 l k n)
 | .flts kd l=>.flts kd (A.subF l k n)
 | .big sh xs=>.big sh (A.subA xs k n)
 | .refs a p=>.refs a (A.subF p k n)
def ZeM(k:IntKind):zA→Option zI
 |[]=>some []
 | .int k' n::t=>match decide (k'=k)with |true=>(match ZeM k t with |some l=>some (n::l) |none=>none) |false=>none
 |_=>none
def Row.toInts:Row→Row
 | .gen (.int k n::t)=>match ZeM k t with | .some l=>.ints k (n::l) | .none=>.gen (.int k n::t)
 |r=>r
def Row.blit(A:Ar)(r:Row)(k:Nat)(s:Row):Row:=
 match r,s with
 | .ints kd l, .ints kd' m=>match decide (kd=kd')with
   |true=>.ints kd (A.app (A.app (A.sub3 l 0 k) m) (A.sub3 l (k+(A.len m)) (A.len l)))
   |false=>.gen ((Row.ints kd l).elems.take k++(Row.ints kd' m).elems++(Row.ints kd l).elems.drop (k+(Row.ints kd' m).elems.length))
 | .flts kd l, .flts kd' m=>match decide (kd=kd')with
   |true=>.flts kd (A.appF (A.appF (A.subF l 0 k) m) (A.subF l (k+(A.lenF m)) (A.lenF l)))
   |false=>.gen ((Row.flts kd l).elems.take k++(Row.flts kd' m).elems++(Row.flts kd l).elems.drop (k+(Row.flts kd' m).elems.length))
 | .big sh xs, .big sh' ys=>match Zb6 sh sh' with
   |true=>.big sh (A.appA (A.appA (A.subA xs 0 k) ys) (A.subA xs (k+(A.lenA ys)) (A.lenA xs)))
   |false=>.gen ((Row.big sh xs).elems.take k++(Row.big sh' ys).elems++(Row.big sh xs).elems.drop (k+(Row.big sh' ys).elems.length))
 |r, .gen []=>r
 |r,s=>.gen (r.elems.take k++s.elems++r.elems.drop (k+s.elems.length))
def ZoL(k:IntKind):zA→Option zI
 |[]=>some []
 | .int k' n::r=>match decide (k=k')with |true=>(match ZoL k r with |some l=>some (n::l) |none=>none) |false=>none
 |_::_=>none
def ZoY(k:FloatKind):zA→Option (List Nat)
 |[]=>some []
 | .flt k' n::r=>match decide (k=k')with |true=>(match ZoY k r with |some l=>some (n::l) |none=>none) |false=>none
 |_::_=>none
def ZoF(a:Nat):zA→Option (List Nat)
 |[]=>some []
 | .row b i::r=>match Nat.beq a b with |true=>(match ZoF a r with |some l=>some (i::l) |none=>none) |false=>none
 |_::_=>none
def ZnC(xs:zA):Row:=
 match xs with
 | .row a i::r=>(match Nat.ble 1000000 a with |true=>(match ZoF a r with |some l=>.refs a (i::l) |none=>.gen xs) |false=>.gen xs)
 | .int k n::r=>(match ZoL k r with |some l=>.ints k (n::l) |none=>.gen xs)
 | .flt k n::r=>(match ZoY k r with |some l=>.flts k (n::l) |none=>.gen xs)
 |x::_=>(match ZLK x with |some sh=>(match ZpX sh xs with |true=>.big sh xs |false=>.gen xs) |none=>.gen xs)
 |[]=>.gen xs
def ZpR:Row→Row
 | .gen xs=>ZnC xs
 |y=>y
def ZnX(A:Ar)(n:Nat):AV→Row
 | .int k m=>.ints k (A.rep n m)
 | .flt k m=>.flts k (A.repF n m)
 |v=>match ZLK v with
  |some sh=>(match ZBC sh v with |true=>.big sh (A.repA n v) |false=>.gen (List.replicate n v))
  |none=>.gen (List.replicate n v)
def Row.sing:Row→Bool
 | .gen xs=>xs.all AV.single
 | .ints _ _=>true
 | .flts _ _=>true
 | .big sh _=>sh.single
 | .refs _ _=>true
def Row.part(A:Ar)(r:Row)(k n:Nat):Row:=
 match r with
 | .ints kd l=>.ints kd (A.sub3 l k n)
 | .flts kd l=>.flts kd (A.subF l k n)
 | .big sh xs=>.big sh (A.subA xs k n)
 | .refs a p=>.refs a (A.subF p k n)
 | .gen xs=>.gen (sub3 xs k n)
abbrev Out:=Option (Bool×AV)
def ZKG(A:Ar)(op:BinOp)(k:IntKind)(a b:Int):Out:=
 match op with
 | .add=>some (A.inR k (A.add a b), .int k (A.add a b))
 | .sub=>some (A.inR k (A.sub a b), .int k (A.sub a b))
 | .mul=>some (A.inR k (A.mul a b), .int k (A.mul a b))
 | .quo=>some (Zag (A.not (A.eq b 0)) (A.inR k (A.quo a b)), .int k (A.quo a b))
 | .rem=>some (A.not (A.eq b 0), .int k (A.rem a b))
 | .and=>some (true, .int k (A.bits .and k a b))
 | .or=>some (true, .int k (A.bits .or k a b))
 | .xor=>some (true, .int k (A.bits .xor k a b))
 | .andNot=>some (true, .int k (A.bits .andNot k a b))
 | .eql=>some (true, .bool (A.eq a b))
 | .neq=>some (true, .bool (A.not (A.eq a b)))
 | .lss=>some (true, .bool (A.lt a b))
 | .leq=>some (true, .bool (A.le a b))
 | .gtr=>some (true, .bool (A.lt b a))
 | .geq=>some (true, .bool (A.le b a))
 |_=>none
def ZJP(A:Ar)(op:BinOp)(x y:List UInt8):Out:=
 match op with
 | .add=>some (Nat.ble ((A.lenS x)+(A.lenS y)) 4294967296, .str (A.appS x y))
 | .eql=>some (true, .bool (A.eqS x y))
 | .neq=>some (true, .bool (A.not (A.eqS x y)))
 | .lss=>some (true, .bool (A.ltS x y))
 |_=>none
def ZH8(A:Ar)(op:BinOp)(k:FloatKind)(x y:Nat):Out:=
 match op with
 | .add=>some ((A.fadd k x y).isSome, .flt k ((A.fadd k x y).getD 0))
 | .sub=>some ((A.fsub k x y).isSome, .flt k ((A.fsub k x y).getD 0))
 | .eql=>some (true, .bool (A.ford k x y==some .eq))
 | .neq=>some (true, .bool (A.ford k x y != some .eq))
 | .lss=>some (true, .bool (A.ford k x y==some .lt))
 | .gtr=>some (true, .bool (A.ford k x y==some .gt))
 |_=>none
def ZJs(A:Ar)(op:BinOp)(x y:AV):Out:=
 match x,y with
 | .int k a, .int k' b=>
   match op with
   | .shl=>some (Zag (Zag (A.le 0 b) (Nat.blt (A.nat b) k.bits)) (A.inR k (A.shl a b)), .int k (A.shl a b))
   | .shr=>some (Zag (A.le 0 b) (Nat.blt (A.nat b) k.bits), .int k (A.shr a b))
   |op=>match decide (k=k')with |true=>ZKG A op k a b |false=>none
 | .str a, .str b=>ZJP A op a b
 | .flt k a, .flt k' b=>match decide (k=k')with |true=>ZH8 A op k a b |false=>none
 |_,_=>none
def ZAn(A:Ar)(op:BinOp)(x y:AV):Out:=
 match x,y with
 | .int k a, .int k' b=>(match decide (k=k')with
   |true=>(match op with
    | .add=>some (true, .int k (k.wrap (A.add a b)))
    | .sub=>some (true, .int k (k.wrap (A.sub a b)))
    | .mul=>some (true, .int k (k.wrap (A.mul a b)))
    |_=>none)
   |false=>none)
 |_,_=>none
def ZbP(A:Ar)(h:Zad):AV→Option (Bool×Row)
 | .list r=>some (true,r)
 | .nils=>some (true, .gen [])
 | .row a i=>match blk h a i with | .row _ _ r=>some (true,r) |_=>none
 | .slc a i k n _=>match blk h a i with | .row _ _ r=>some (Nat.ble (k+n) (r.len A),r.sub A k n) |_=>none
 | .aslc a i k off n=>match blk h a i with
   | .row _ _ r=>match r.get A k with
     | .agg x=>some (Zag (Nat.blt k (r.len A)) (Zag (Nat.ble (off+n) (x.len A)) x.sing),ZpR (x.part A off n))
     |_=>none
   |_=>none
 | .val v=>match v with | .slice (some _) 0 _=>some (true, .gen []) |_=>none
 |_=>none
def ZAb(A:Ar)(ag:Bool)(n off:Nat)(u:AV):Out:=
 match ag,u with
 |true, .agg x=>some (Nat.ble (off+n) (x.len A), .agg (x.sub A off n))
 |true,v=>some (Zag (Nat.beq off 0) (Nat.beq n 1), .agg (.gen [v]))
 |false, .agg x=>some (Nat.blt off (x.len A),x.get A off)
 |false,v=>some (Nat.beq off 0,v)
def Zjg(A:Ar)(h:Zad)(ag:Bool)(n:Nat):AV→Out
 | .ptr a i k off=>match blk h a i with
   | .row _ sz r=>(match ag,r.get A k with
     |true, .int kd m=>some (Zag (Zag (Nat.beq sz 1) (Nat.beq off 0)) (Zag (Nat.ble (k+n) (r.len A)) (Zag (Nat.blt 0 n) r.sing)),match Nat.beq n 1 with |true=>.agg (.gen [.int kd m]) |false=>.agg (ZpR (r.part A k n)))
     |ag,u=>match ZAb A ag n off u with |some (b,v)=>some (Zag (Nat.blt k (r.len A)) b,v) |none=>none)
   |_=>none
 | .eptr u off=>ZAb A ag n off u
 |_=>none
def Zac(A:Ar):AV→Nat
 | .agg x=>x.len A
 |_=>1
def ZHM(A:Ar)(sz n off:Nat)(u x:AV):Option (Bool×AV):=
 match u,x with
 | .agg us, .agg xs=>match Nat.beq off 0,Nat.beq n sz with
   |true,true=>some (Nat.beq (xs.len A) n,x)
   |_,_=>some (Zag (Nat.beq (xs.len A) n) (Nat.ble (off+n) sz), .agg (us.blit A off xs))
 | .agg us,x=>some (Zag (Zag x.bx (Nat.beq n 1)) (Nat.blt off sz), .agg (us.set A off x))
 |_,x=>some (Zag (Zag x.bx (Nat.beq off 0)) (Zag (Nat.beq n sz) (Nat.beq (Zac A x) n)),x)
def ZdK(A:Ar)(h:Zad)(n:Nat)(p x:AV):Option (Bool×AV×Zad):=
 match p with
 | .ptr a i k off=>match blk h a i with
   | .row e sz r=>match ZHM A sz n off (r.get A k) x with
     |some (b,v)=>some (Zag (Nat.blt k (r.len A)) b, .und,ZaY h a i (.row e sz (r.set A k v)))
     |none=>none
   |_=>none
 |_=>none
def ZnF(A:Ar)(h:Zad)(n:Nat)(p x:AV):Option (Bool×AV×Zad):=
 match x with
 | .slc a i 0 m none=>(match ZkW a,blk h a i with
   |false, .row e sz r=>(match ZdK A (Zal (ZaY h a i .dead) a (.row e sz (r.sub A 0 m))) n p (.row a (nxt (ZaY h a i .dead) a))with
    |some (b,v,h2)=>some (Zag (Nat.ble m (r.len A)) b,v,h2)
    |none=>none)
   |_,_=>none)
 |x=>ZdK A h n p x
def ZbS(A:Ar)(h:Zad)(sz:Nat)(x i:AV):Out:=
 match i with
 | .int _ n=>match x with
   | .list r=>some (Zag (Zag (A.le 0 n) (Nat.blt (A.nat n) (r.len A))) (Nat.beq (Zac A (r.get A (A.nat n))) sz), .eptr (r.get A (A.nat n)) 0)
   | .row a j=>match blk h a j with
     | .row _ sz' r=>some (Zag (Nat.beq sz' sz) (Zag (A.le 0 n) (Nat.blt (A.nat n) (r.len A))), .ptr a j (A.nat n) 0)
     |_=>none
   | .slc a j k m _=>match blk h a j with
     | .row _ sz' _=>some (Zag (Nat.beq sz' sz) (Zag (A.le 0 n) (Nat.blt (A.nat n) m)), .ptr a j (k+(A.nat n)) 0)
     |_=>none
   | .aslc a j k off m=>match blk h a j with
     | .row .. =>some (Zag (Nat.beq sz 1) (Zag (A.le 0 n) (Nat.blt (A.nat n) m)), .ptr a j k (off+(A.nat n)))
     |_=>none
   |_=>none
 |_=>none
def Zfz(A:Ar)(sz:Nat)(n:Int):Nat:=match Nat.beq sz 1 with |true=>A.nat n |false=>A.nat n*sz
def ZsZ(_:Ar)(off:Nat):AV→Out
 | .ptr a i k o=>some (true, .ptr a i k (o+off))
 | .eptr u o=>some (true, .eptr u (o+off))
 |_=>none
def Zl4(A:Ar)(ln sz:Nat)(p i:AV):Out:=
 match i with
 | .int _ n=>match p with
   | .ptr a j k off=>some (Zag (A.le 0 n) (A.lt n (A.int ln)), .ptr a j k (off+(Zfz A sz n)))
   | .eptr u off=>some (Zag (A.le 0 n) (A.lt n (A.int ln)), .eptr u (off+(Zfz A sz n)))
   |_=>none
 |_=>none
def Zws:Opd→Option Nat
 | .c (.int _ n)=>some n.toNat
 |_=>none
def ZoR(ln sz:Nat)(p:AV)(n:Nat):Out:=
 match p with
 | .ptr a j k off=>some (Nat.blt n ln, .ptr a j k (off+n*sz))
 | .eptr u off=>some (Nat.blt n ln, .eptr u (off+n*sz))
 |_=>none
def Zv2:Opd→Bool
 | .c (.int _ n)=>match n with | .ofNat _=>true | .negSucc _=>false
 |_=>false
def Zv0(ln sz:Nat)(p i:AV):Out:=
 match i with
 | .int _ n=>(match n with | .ofNat m=>ZoR ln sz p m | .negSucc _=>none)
 |_=>none
def ZG8(A:Ar)(ln sz:Nat)(x i:AV):Out:=
 match x,i with
 | .agg r, .int _ n=>(match n with | .ofNat m=>some (Zag (Nat.blt m ln) (Nat.ble (m*sz+sz) (r.len A)), .agg (r.sub A (m*sz) sz)) | .negSucc _=>none)
 |_,_=>none
def isS:Opd→Bool
 | .s _=>true
 |_=>false
def ZL3(A:Ar)(ln:Nat):AV→AV→Out
 | .agg r, .int _ (.ofNat m)=>some (Zag (Nat.blt m ln) (Nat.blt m (r.len A)),r.get A m)
 |_,_=>none
def Zd7(A:Ar)(h:Zad)(sz:Nat)(x i:AV):Out:=
 match x with
 | .row a j=>(match i with
   | .int k n=>(match n with
     | .ofNat m=>(match blk h a j with
       | .row _ sz' r=>some (Zag (Nat.beq sz' sz) (Nat.blt m (r.len A)), .ptr a j m 0)
       |_=>none)
     | .negSucc m=>ZbS A h sz (.row a j) (.int k (.negSucc m)))
   |i=>ZbS A h sz (.row a j) i)
 | .list r=>(match i with
   | .int k n=>(match n with
     | .ofNat m=>some (Zag (Nat.blt m (r.len A)) (Nat.beq (Zac A (r.get A m)) sz), .eptr (r.get A m) 0)
     | .negSucc m=>ZbS A h sz (.list r) (.int k (.negSucc m)))
   |i=>ZbS A h sz (.list r) i)
 |x=>ZbS A h sz x i
def Zrl(A:Ar)(ρ:Opd→AV)(ln sz:Nat)(p i:Opd):Out:=
 match isS i with
 |true=>Zv0 ln sz (ρ p) (ρ i)
 |false=>match Zv2 i with
 |true=>(match Zws i with |some n=>ZoR ln sz (ρ p) n |none=>Zl4 A ln sz (ρ p) (ρ i))
 |false=>Zl4 A ln sz (ρ p) (ρ i)
def ZfG(A:Ar)(ρ:Opd→AV)(d:Nat):Option Opd→Option (Bool×Nat)
 |none=>some (true,d)
 |some x=>match ρ x with | .int _ n=>some (A.le 0 n,A.nat n) |_=>none
def Row.unit(A:Ar)(sz:Nat)(r:Row):Bool:=match r with | .gen []=>true |r=>Nat.beq (Zac A (r.get A 0)) sz
def goX(A:Ar)(ρ:Opd→AV)(hi:Option Opd)(b1:Bool)(l n p:Nat)(f:Nat→Out):Out:=
 match ZfG A ρ n hi with
 |none=>none
 |some (b2,m)=>match f m with
  |some (b3,v)=>some (Zag (Zag b1 b2) (Zag (Zag (Nat.ble l m) (Nat.ble m p)) b3),v)
  |none=>none
def goR(A:Ar)(ρ:Opd→AV)(hi:Option Opd)(b1:Bool)(l n:Nat)(f:Nat→Out):Out:=goX A ρ hi b1 l n n f
def ZHP:Nat→Option Nat→Option Opd→Option Opd→Option Opd→Nat→Nat→Nat
 |0,none,some _,some _,none,n,ln=>max n ln
 |_,_,_,_,_,n,_=>n
def Ztv(A:Ar)(ρ:Opd→AV)(mx:Option Opd)(l n m:Nat)(c:Option Nat):Option (Bool×Option Nat):=
 match mx with
 |none=>(match c with |none=>some (true,none) |some c=>some (true,some (c-l)))
 |some y=>match ρ y with | .int _ q=>some (Zag (A.le 0 q) (Zag (Nat.ble m (A.nat q)) (Nat.ble (A.nat q) n)),some ((A.nat q)-l)) |_=>none
def ZLb(lo hi mx:Option Opd):Bool:=
 match lo,hi,mx with
 |none,none,none=>true
 |_,_,_=>false
def Zum(A:Ar)(ρ:Opd→AV)(h:Zad)(sz:Nat)(lo hi mx:Option Opd)(b1:Bool)(l:Nat):AV→Out
 | .list r=>goR A ρ hi b1 l (r.len A) fun m=>(match Ztv A ρ mx l (r.len A) m none with |some (b,_)=>some (Zag (r.unit A sz) b, .list (r.sub A l (m-l))) |none=>none)
 | .nils=>goR A ρ hi b1 l 0 fun m=>(match Ztv A ρ mx l 0 m none with |some (b,_)=>some (b, .nils) |none=>none)
 | .row a i=>(match blk h a i with
   | .row _ sz' r=>goR A ρ hi b1 l (r.len A) fun m=>(match Ztv A ρ mx l (r.len A) m none with
     |some (b,c)=>(match ZLb lo hi mx with
      |true=>some (true, .row a i)
      |false=>some (Zag (Nat.beq sz' sz) b, .slc a i l (m-l) c))
     |none=>none)
   |_=>none)
 | .slc a i k n c=>(match blk h a i with
   | .row _ sz' r=>goX A ρ hi b1 l n (ZHP k c lo hi mx n (r.len A)) fun m=>(match Ztv A ρ mx l n m c with |some (b,c')=>some (Zag (Nat.beq sz' sz) b, .slc a i (k+l) (m-l) c') |none=>none)
   |_=>none)
 | .aslc a i k off n=>goR A ρ hi b1 l n fun m=>(match Ztv A ρ mx l n m none with |some (b,_)=>some (Zag (Nat.beq sz 1) b, .aslc a i k (off+l) (m-l)) |none=>none)
 |_=>none
theorem Zgu(k:Nat)(c:Option Nat)(lo hi mx:Option Opd)(n ln:Nat):ZHP k c lo hi mx n ln=n∨(k=0∧c=none∧mx=none∧ZHP k c lo hi mx n ln=max n ln):=by
 unfold ZHP
 split
 ·exact .inr ⟨rfl,rfl,rfl,rfl⟩
 ·exact .inl rfl
def Zxm(A:Ar)(ρ:Opd→AV)(h:Zad)(sz:Nat)(x:AV)(lo hi mx:Option Opd):Out:=
 match ZfG A ρ 0 lo with
 |none=>none
 |some (b1,l)=>Zum A ρ h sz lo hi mx b1 l x
def ZBJ(A:Ar)(ρ:Opd→AV)(ln:Nat)(p:AV)(lo hi:Option Opd):Out:=
 match ZfG A ρ 0 lo,ZfG A ρ ln hi with
 |some (b1,l),some (b2,m)=>match p with
  | .ptr a i k off=>some (Zag (Zag b1 b2) (Zag (Nat.ble l m) (Nat.ble m ln)), .aslc a i k (off+l) (m-l))
  |_=>none
 |_,_=>none
def Zvn(A:Ar)(ρ:Opd→AV)(x:AV)(lo hi:Option Opd):Out:=
 match x with
 | .str s=>match ZfG A ρ 0 lo,ZfG A ρ (A.lenS s) hi with
   |some (b1,l),some (b2,m)=>some (Zag (Zag b1 b2) (Zag (Nat.ble l m) (Nat.ble m (A.lenS s))), .str (A.subS s l (m-l)))
   |_,_=>none
 |_=>none
def Row.fits(A:Ar)(sz:Nat):Row→Bool
 | .gen xs=>xs.all fun x=>x.bx&&Nat.beq (Zac A x) sz
 | .ints _ _=>Nat.beq sz 1
 | .flts _ _=>Nat.beq sz 1
 | .big sh _=>Nat.beq sh.len sz
 | .refs _ _=>Nat.beq sz 1
def ZHN(A:Ar)(h:Zad)(a:Nat)(e:TypeId)(sz:Nat)(x y:AV):Option (Bool×AV×Zad):=
 match ZbP A h y with
 |none=>none
 |some (b,s)=>match x with
  | .nils=>match s with
    | .gen []=>some (Zag b (s.unit A sz), .nils,h)
    |s=>some (Zag (Zag b (s.unit A sz)) (Zag (Nat.ble (s.len A) 4294967296) (Nat.blt 0 (s.len A))), .row a (nxt h a),Zal h a (.row e sz s))
  | .row c i=>match ZkW c,blk h c i with
    |false, .row e' sz' r=>some (Zag (Zag b (s.unit A sz)) (Zag (Nat.beq e' e) (Zag (Nat.beq sz' sz) (Nat.ble ((r.len A)+(s.len A)) 4294967296))), .row a (nxt (ZaY h c i .dead) a),Zal (ZaY h c i .dead) a (.row e sz (r.app A s)))
    |_,_=>none
  | .slc c i 0 n none=>match blk h c i with
    | .row e' sz' r=>some (Zag (Zag b (s.unit A sz)) (Zag (Nat.beq e' e) (Zag (Nat.beq sz' sz) (Zag (Nat.ble (n+(s.len A)) (r.len A)) (Nat.blt 0 (r.len A))))), .slc c i 0 (n+(s.len A)) none,ZaY h c i (.row e sz (r.blit A n s)))
    |_=>none
  |_=>none
def ZtZ(A:Ar)(h:Zad)(a:Nat)(e:TypeId)(sz:Nat)(z x:AV)(n:Int):Option (Bool×AV×Zad):=
 match x with
 | .nils=>some (Zag (A.lt 0 n) (A.le n 4294967296), .row a (nxt h a),Zal h a (.row e sz (ZnX A (A.nat n) z)))
 | .row c i=>match ZkW c,blk h c i with
   |false, .row e' sz' r=>some (Zag (A.le 0 n) (Zag (Nat.beq e' e) (Zag (Nat.beq sz' sz) (Nat.ble ((r.len A)+(A.nat n)) 4294967296))), .row a (nxt (ZaY h c i .dead) a),Zal (ZaY h c i .dead) a (.row e sz (r.app A (ZnX A (A.nat n) z))))
   |_,_=>none
 |_=>none
def ZuP(A:Ar)(h:Zad)(sz:Nat)(x y:AV):Option (Bool×AV×Zad):=
 match ZbP A h y with
 |none=>none
 |some (b,s)=>match x with
  | .row c i=>match blk h c i with
    | .row e sz' r=>some (Zag (Zag b (s.unit A sz)) (Nat.beq sz' sz), .int .i64 (A.int (min (s.len A) (r.len A))),ZaY h c i (.row e sz' (r.blit A 0 (s.sub A 0 (min (s.len A) (r.len A))))))
    |_=>none
  | .slc c i k n _=>match blk h c i with
    | .row e sz' r=>some (Zag (Zag b (s.unit A sz)) (Zag (Nat.beq sz' sz) (Nat.ble (k+n) (r.len A))), .int .i64 (A.int (min (s.len A) n)),ZaY h c i (.row e sz' (r.blit A k (s.sub A 0 (min (s.len A) n)))))
    |_=>none
  | .aslc c i k off n=>match blk h c i with
    | .row e sz' r=>match r.get A k with
      | .agg us=>some (Zag (Zag b (s.unit A sz)) (Zag (Nat.blt k (r.len A)) (Zag (Nat.beq sz 1) (Zag s.sing (Nat.ble (off+n) (us.len A))))), .int .i64 (A.int (min (s.len A) n)),ZaY h c i (.row e sz' (r.set A k (.agg (us.blit A off (s.sub A 0 (min (s.len A) n)))))))
      |_=>none
    |_=>none
  |_=>none
def ZwX:Sh→AV→AV
 | .ints k, .nils=>.list (.ints k [])
 | .big s, .nils=>.list (.big s [])
 |_,v=>v
def Zwa:List Sh→zA→zA
 |s::ss,x::xs=>ZwX s x::Zwa ss xs
 |_,xs=>xs
def zsh:Sh→AV→AV
 | .agg ss, .agg (.gen xs)=>.agg (.gen (Zwa ss xs))
 | .agg _,v=>v
 |s,v=>ZwX s v
def ZKi(A:Ar)(n:Nat)(z:AV):Row→Option Row
 | .big sh _=>(match ZBC sh (zsh sh z)with |true=>some (.big sh (A.repA n (zsh sh z))) |false=>none)
 |_=>some (ZnX A n z)
def ZHS(A:Ar)(h:Zad)(sz:Nat)(z x:AV):Option (Bool×AV×Zad):=
 match x with
 | .slc c i k n _=>match blk h c i with
   | .row e sz' r=>(match ZKi A n z r with
     |some s=>some (Zag (Nat.beq sz' sz) (Nat.ble (k+n) (r.len A)), .tup [],ZaY h c i (.row e sz' (r.blit A k s)))
     |none=>none)
   |_=>none
 |_=>none
def ZAW(A:Ar)(h:Zad)(n:Nat):AV→Out
 | .list r=>some (Zag (Nat.ble n (r.len A)) r.sing, .eptr (.agg (ZpR (r.part A 0 n))) 0)
 | .row a i=>match blk h a i with | .row _ sz r=>some (Zag (Nat.beq sz 1) (Nat.ble n (r.len A)), .ptr a i 0 0) |_=>none
 | .slc a i k m _=>match blk h a i with | .row _ sz _=>some (Zag (Nat.beq sz 1) (Nat.ble n m), .ptr a i k 0) |_=>none
 | .aslc a i k off m=>some (Nat.ble n m, .ptr a i k off)
 |_=>none
def ZEI(A:Ar)(h:Zad):AV→Out
 | .row a i=>match blk h a i with | .row _ _ (.ints .u8 [n])=>some (true, .str [UInt8.ofNat (A.nat n)]) |_=>none
 |_=>none
def Zil(A:Ar)(ρ:Opd→AV):Row→List (Nat×Nat×Opd)→Bool×Row
 |r,[]=>(true,r)
 |r,(o,n,x)::ps=>match Zil A ρ (match ρ x with | .agg xs=>r.blit A o xs |v=>r.set A o v) ps with
  |(b,r')=>(Zag (Zag (ρ x).bx (Nat.beq (Zac A (ρ x)) n)) (Zag (Nat.ble (o+n) (r.len A)) (Zag (Nat.blt 0 n) b)),r')
def eqB(A:Ar)(ne a b:Bool):Bool:=match ne with |true=>A.not (a==b) |false=>a==b
def mmI(A:Ar)(mx:Bool)(a b:Int):Int:=match mx with |true=>A.max a b |false=>A.min a b
def mmF(A:Ar)(k:FloatKind)(a b:Nat):Nat:=match A.ford k a b with |some .lt=>b |some .gt=>a |_=>match A.fneg k a with |true=>b |false=>a
def ZeQ(h:Zad):Out→Option (Bool×AV×Zad)
 |some (b,v)=>some (b,v,h)
 |none=>none
def ZFL:Lf→AV→Bool
 | .i, .int _ _=>true
 | .b, .bool _=>true
 | .s, .str _=>true
 |_,_=>false
def eqC(A:Ar):AV→AV→Option Bool
 | .int k a, .int k' b=>match decide (k=k')with |true=>some (A.eq a b) |false=>none
 | .bool a, .bool b=>some (a==b)
 | .str a, .str b=>some (A.eqS a b)
 |_,_=>none
def ZwM(A:Ar):List Lf→zA→zA→Option Bool
 |[],[],[]=>some true
 |l::ls,x::xs,y::ys=>match ZFL l x with
  |true=>(match eqC A x y,ls with
   |some a,[]=>(match xs,ys with |[],[]=>some a |_,_=>none)
   |some a,ls=>(match ZwM A ls xs ys with |some b=>some (Zag a b) |none=>none)
   |none,_=>none)
  |false=>none
 |_,_,_=>none
def ZiZ(A:Ar)(n:Nat):Row→Bool×zA
 | .gen xs=>(true,xs)
 |r=>(Nat.beq (r.len A) n,(List.range n).map fun j=>r.get A j)
def ZId(A:Ar)(ne:Bool)(ls:List Lf):AV→AV→Out
 | .agg r, .agg s=>match ZwM A ls (ZiZ A ls.length r).2 (ZiZ A ls.length s).2 with
   |some b=>some (Zag (ZiZ A ls.length r).1 (ZiZ A ls.length s).1, .bool (match ne with |true=>A.not b |false=>b))
   |none=>none
 |_,_=>none
def ZpY:zA→Option (List Value)
 |[]=>some []
 | .int k n::r=>match ZpY r with |some l=>some (.int k n::l) |none=>none
 |_::_=>none
def Zt1:AV→Option Value
 | .int k n=>some (.int k n)
 | .agg (.gen xs)=>match ZpY xs with |some l=>some (.agg ⟨l⟩) |none=>none
 | .agg (.ints k l)=>some (.agg ⟨l.map (Value.int k)⟩)
 |_=>none
def ZeR:List Value→Option zA
 |[]=>some []
 | .int k n::r=>match ZeR r with |some l=>some (.int k n::l) |none=>none
 |_::_=>none
def ZHE:Value→Option AV
 | .int k n=>some (.int k n)
 | .agg ⟨l⟩=>match ZeR l with |some l=>some (.agg (.gen l)) |none=>none
 |_=>none
def ZAv(v:AV)(args:zA):Option (FuncId×zA):=match v with
 | .fn f caps=>some (f,args++caps)
 | .val (.func (.func f) ⟨[b]⟩ ⟨[]⟩)=>match ZHE b with |some u=>some (f,u::args) |none=>none
 |_=>none
def ZxV(A:Ar)(sz:Nat)(x y:AV):Out:=match x,y with
 | .emp, .list s=>some (Zag (s.unit A sz) (Nat.ble (s.len A) 4294967296), .list s)
 | .emp, .nils=>some (true, .emp)
 | .emp, .val v=>(match v with | .slice _ n _=>(match n with |0=>some (true, .emp) |_+1=>none) |_=>none)
 |_,_=>none
def Zjw(A:Ar)(h:Zad)(x k:AV):Out:=match x,k with
 | .mp a i, .str s=>(match blk h a i with | .mp ks=>some (true, .bool (A.hasS ks s)) |_=>none)
 |_,_=>none
def ZjF(A:Ar)(h:Zad)(ne:Bool):AV→Out
 | .nils=>some (true, .bool (!ne))
 | .list r=>some (Nat.blt 0 (r.len A), .bool ne)
 | .row a i=>(match blk h a i with | .row _ _ r=>some (Nat.blt 0 (r.len A), .bool ne) |_=>none)
 | .slc a i _ _ _=>(match blk h a i with | .row _ _ r=>some (Nat.blt 0 (r.len A), .bool ne) |_=>none)
 | .aslc .. =>some (true, .bool ne)
 | .val v=>(match v with | .slice ad _ _=>(match ad with |some _=>some (true, .bool ne) |none=>some (true, .bool (!ne))) |_=>none)
 |_=>none
def Zat(A:Ar)(ρ:Opd→AV)(h:Zad):OpK→Option (Bool×AV×Zad)
 | .mov x=>some (true,ρ x,h)
 | .pick c x y=>match ρ c with | .bool b=>(match b with |true=>some (true,ρ x,h) |false=>some (true,ρ y,h)) |_=>none
 | .bin op x y=>ZeQ h (ZJs A op (ρ x) (ρ y))
 | .binw op x y=>ZeQ h (ZAn A op (ρ x) (ρ y))
 | .beq ne x y=>match ρ x,ρ y with | .bool a, .bool b=>some (true, .bool (eqB A ne a b),h) |_,_=>none
 | .isnil ne x=>ZeQ h (ZjF A h ne (ρ x))
 | .aeq ne ls x y=>ZeQ h (ZId A ne ls (ρ x) (ρ y))
 | .idxa ln sz x i=>match isS i with
   |true=>ZeQ h (ZG8 A ln sz (ρ x) (ρ i))
   |false=>match ρ x,ρ i with | .agg r, .int _ n=>some (Zag (Zag (A.le 0 n) (A.lt n (A.int ln))) (Nat.ble ((Zfz A sz n)+sz) (r.len A)), .agg (r.toInts.sub A (Zfz A sz n) sz),h) |_,_=>none
 | .mkmth f x=>match Zt1 (ρ x)with |some v=>some (true, .val (.func (.func f) ⟨[v]⟩ ⟨[]⟩),h) |none=>some (true, .mth f (ρ x),h)
 | .capl x=>match ρ x with | .nils=>some (true, .int .i64 0,h) |_=>none
 | .not x=>match ρ x with | .bool b=>some (true, .bool (A.not b),h) |_=>none
 | .neg x=>match ρ x with | .int k n=>some (A.inR k (A.neg n), .int k (A.neg n),h) |_=>none
 | .conv k x=>match ρ x with | .int _ n=>some (A.inR k n, .int k n,h) |_=>none
 | .i2f k x=>match ρ x with | .int _ n=>some (true, .flt k (A.i2f k n),h) |_=>none
 | .f2i k x=>match ρ x with | .flt q b=>some (Zag (A.f2i q b).isSome (A.inR k ((A.f2i q b).getD 0)), .int k ((A.f2i q b).getD 0),h) |_=>none
 | .len x=>match ZbP A h (ρ x)with |some (b,r)=>some (b, .int .i64 (A.int (r.len A)),h) |none=>none
 | .slen x=>match ρ x with | .str l=>some (true, .int .i64 (A.int (A.lenS l)),h) |_=>none
 | .mm mx x y=>match ρ x,ρ y with
   | .int k a, .int k' b=>match decide (k=k')with |true=>some (true, .int k (mmI A mx a b),h) |false=>none
   | .flt k a, .flt k' b=>match decide (k=k'),mx with
     |true,true=>some ((A.ford k a b).isSome, .flt k (mmF A k a b),h)
     |_,_=>none
   |_,_=>none
 | .box a e x=>some (Zag (ρ x).bx (Nat.blt 0 (Zac A (ρ x))), .ptr a (nxt h a) 0 0,Zal h a (.row e (Zac A (ρ x)) (.gen [ρ x])))
 | .alloc a e z=>some (Zag z.bx (Nat.blt 0 (Zac A z)), .ptr a (nxt h a) 0 0,Zal h a (.row e (Zac std z) (.gen [z])))
 | .load ag n p=>ZeQ h (Zjg A h ag n (ρ p))
 | .store n p x=>ZdK A h n (ρ p) (ρ x)
 | .stores n p x=>ZnF A h n (ρ p) (ρ x)
 | .faddr off p=>ZeQ h (ZsZ A off (ρ p))
 | .iaddr sz x i=>match isS i with
   |true=>ZeQ h (Zd7 A h sz (ρ x) (ρ i))
   |false=>ZeQ h (ZbS A h sz (ρ x) (ρ i))
 | .aaddr ln sz p i=>ZeQ h (Zrl A ρ ln sz p i)
 | .idx ln x i=>match isS i with
   |true=>ZeQ h (ZL3 A ln (ρ x) (ρ i))
   |false=>match ρ x,ρ i with | .agg r, .int _ n=>some (Zag (Zag (A.le 0 n) (A.lt n (A.int ln))) (Nat.blt (A.nat n) (r.len A)),r.get A (A.nat n),h) |_,_=>none
 | .sidx x i=>match ρ x,ρ i with | .str l, .int _ n=>some (Zag (A.le 0 n) (Nat.blt (A.nat n) (A.lenS l)), .int .u8 (A.nthS l (A.nat n)),h) |_,_=>none
 | .fld ag off n x=>match ρ x with | .agg r=>ZeQ h (ZAb A ag n off (.agg r)) |_=>none
 | .build z parts=>match Zil A ρ z parts with |(b,r)=>some (b, .agg r,h)
 | .bslice a e sz parts=>some (Row.fits A sz (.gen (parts.map ρ)), .row a (nxt h a),Zal h a (.row e sz (ZnC (parts.map ρ))))
 | .mkslice a e sz z ln=>match ρ ln with
   | .int _ n=>some (Zag (A.le 0 n) (A.le n 4294967296), .row a (nxt h a),Zal h a (.row e sz (ZnX A (A.nat n) z)))
   |_=>none
 | .mklst a _ _ z ln=>match ρ ln with
   | .int _ n=>match(ZnX A (A.nat n) z).pure with
     |true=>some (Zag (A.le 0 n) (A.le n 4294967296), .list (ZnX A (A.nat n) z),Zal h a .dead)
     |false=>none
   |_=>none
 | .slc sz x lo hi mx=>ZeQ h (Zxm A ρ h sz (ρ x) lo hi mx)
 | .asl ln p lo hi=>ZeQ h (ZBJ A ρ ln (ρ p) lo hi)
 | .sslc x lo hi=>ZeQ h (Zvn A ρ (ρ x) lo hi)
 | .append a e sz x y=>ZHN A h a e sz (ρ x) (ρ y)
 | .appz a e sz z x ln=>match ρ ln with
   | .int _ n=>ZtZ A h a e sz z (ρ x) n
   |_=>none
 | .copy sz x y=>ZuP A h sz (ρ x) (ρ y)
 | .clr _ sz z x=>ZHS A h sz z (ρ x)
 | .s2a n x=>ZeQ h (ZAW A h n (ρ x))
 | .s2b x=>match ρ x with | .str s=>some (Nat.ble (A.lenS s) 4294967296, .list (.ints .u8 (A.byt s)),h) |_=>none
 | .b2s x=>ZeQ h (ZEI A h (ρ x))
 | .emptyl=>some (true, .emp,h)
 | .inil ne x=>match ρ x with
   | .err b=>some (true, .bool (cond ne b (!b)),h)
   |_=>none
 | .pnil ne x=>match ρ x with
   | .val v=>(match v with | .pointer ad=>(match ad with |none=>some (true, .bool (!ne),h) |some _=>some (true, .bool ne,h)) |_=>none)
   | .ptr .. =>some (true, .bool ne,h)
   | .eptr .. =>some (true, .bool ne,h)
   |_=>none
 | .app0 sz x y=>ZeQ h (ZxV A sz (ρ x) (ρ y))
 | .mkmap a=>some (true, .mp a (nxt h a),Zal h a (.mp []))
 | .mkrefs b e sz a s ln=>match ρ ln,ZnQ (fam h a),ZBD s,Nat.beq a b with
   | .int _ n,true,some (ie,isz,r),false=>some (Zag (A.le 0 n) (Zag (A.le n 4294967296) (Nat.blt 0 isz)), .row b (nxt h b),Zal (Zal (ZgF h a s) a (.row ie isz r)) b (.row e sz (.refs a (A.repF (A.nat n) 0))))
   |_,_,_,_=>none
 | .mlook x k=>ZeQ h (Zjw A h (ρ x) (ρ k))
 | .mupd x k=>match ρ x,ρ k with
   | .mp a i, .str s=>(match blk h a i with | .mp ks=>some (A.not (A.hasS ks s), .tup [],ZaY h a i (.mp (A.appA ks [.str s]))) |_=>none)
   |_,_=>none
 | .nilck x=>match ρ x with | .ptr a i k o=>some (true, .ptr a i k o,h) | .eptr u o=>some (true, .eptr u o,h) |_=>none
 | .ext i x=>match ρ x with | .tup xs=>(match xs[i]? with |some v=>some (true,v,h) |none=>none) |_=>none
 | .mkfn f caps=>some (true, .fn f (caps.map ρ),h)
 | .ncall .. =>none
 | .ncallv .. =>none
 | .icall .. =>none
 | .icallv .. =>none
def Zbw(env:Nat→Option AV):Opd→AV
 | .t n=>(env n).getD .top
 | .s n=>(env n).getD .top
 | .c av=>av
theorem Znm{A:Ar}{ρ ρ':Opd→AV}{h:Zad}{k:OpK}(hl:∀x∈k.looks,ρ x=ρ' x):Zat A ρ h k=Zat A ρ' h k:=by
 have hn:∀(o:Option Opd) (d:Nat),(∀x∈ZoP o,ρ x=ρ' x)→ZfG A ρ d o=ZfG A ρ' d o:=fun o d ho=>by
  cases o with
  |none=>rfl
  |some x=>simp only[ZfG];rw[ho x (by simp[ZoP])]
 have hs:∀(ps:List (Nat×Nat×Opd)) (r:Row),(∀x∈ps.map (·.2.2),ρ x=ρ' x)→Zil A ρ r ps=Zil A ρ' r ps:=fun ps=>by
  induction ps with
  |nil=>intro r _;rfl
  |cons p ps ih=>
   intro r hp
   obtain⟨o,n,x⟩:=p
   have hx:ρ x=ρ' x:=hp x (by simp)
   simp only[Zil,hx]
   rw[ih _ (fun y hy=>hp y (by simp at hy ⊢;exact .inr hy))]
 have hm:∀xs:List Opd,(∀x∈xs,ρ x=ρ' x)→xs.map ρ=xs.map ρ':=fun xs hx=>List.map_congr_left hx
 cases k with
 |build z ps=>simp only[Zat];rw[hs ps z hl]
 |bslice a e sz ps=>simp only[Zat];rw[hm ps hl]
 |mkfn f caps=>simp only[Zat];rw[hm caps hl]
 |slc sz x lo hi mx=>
  have hx:ρ x=ρ' x:=hl x (by simp[OpK.looks])
  have h1:∀y∈ZoP lo,ρ y=ρ' y:=fun y hy=>hl y (by simp[OpK.looks,hy])
  have h2:∀y∈ZoP hi,ρ y=ρ' y:=fun y hy=>hl y (by simp[OpK.looks,hy])
  have h3:∀y,mx=some y→ρ y=ρ' y:=fun y hy=>hl y (by simp[OpK.looks,ZoP,hy])
  simp only[Zat,hx]
  congr 1
  unfold Zxm
  rw[hn lo 0 h1]
  have hg:∀b1 l n f,goR A ρ hi b1 l n f=goR A ρ' hi b1 l n f:=fun b1 l n f=>by unfold goR goX;rw[hn hi n h2]
  have hgx:∀b1 l n p f,goX A ρ hi b1 l n p f=goX A ρ' hi b1 l n p f:=fun b1 l n p f=>by unfold goX;rw[hn hi n h2]
  have hc:∀l n m c,Ztv A ρ mx l n m c=Ztv A ρ' mx l n m c:=fun l n m c=>by
   unfold Ztv
   cases mx with
   |none=>rfl
   |some y=>simp only[h3 y rfl]
  have hk:∀b1 l x,Zum A ρ h sz lo hi mx b1 l x=Zum A ρ' h sz lo hi mx b1 l x:=fun b1 l x=>by cases x<;>simp only[Zum,hg,hgx,hc]
  simp only[hk]
 |asl ln x lo hi=>
  have hx:ρ x=ρ' x:=hl x (by simp[OpK.looks])
  have h1:∀y∈ZoP lo,ρ y=ρ' y:=fun y hy=>hl y (by simp[OpK.looks,hy])
  have h2:∀y∈ZoP hi,ρ y=ρ' y:=fun y hy=>hl y (by simp[OpK.looks,hy])
  simp only[Zat,hx,ZBJ,hn lo 0 h1,hn hi ln h2]
 |sslc x lo hi=>
  have hx:ρ x=ρ' x:=hl x (by simp[OpK.looks])
  have h1:∀y∈ZoP lo,ρ y=ρ' y:=fun y hy=>hl y (by simp[OpK.looks,hy])
  have h2:∀y∈ZoP hi,ρ y=ρ' y:=fun y hy=>hl y (by simp[OpK.looks,hy])
  simp only[Zat,hx,Zvn,hn lo 0 h1,fun n=>hn hi n h2]
 |aaddr ln sz x y=>
  have hx:ρ x=ρ' x:=hl x (by simp[OpK.looks])
  have hy:ρ y=ρ' y:=hl y (by simp[OpK.looks])
  simp only[Zat,Zrl,hx,hy]
 |ncall |ncallv |icall |icallv=>rfl
 |alloc a e z=>rfl
 |_=>simp only[OpK.looks,List.mem_cons,List.not_mem_nil,or_false,forall_eq_or_imp,forall_eq]at hl;simp only[Zat,hl]
theorem Zlb{A:Ar}{ρ:Opd→AV}{h h':Zad}{k:OpK}{b:Bool}{v:AV}(hn:k.neutral=true)(hr:Zat A ρ h k=some (b,v,h')):h'=h:=by
 have hlift:∀ {o:Out},ZeQ h o=some (b,v,h')→h'=h:=fun {o} e=>by
  cases o with
  |none=>cases e
  |some p=>obtain⟨b',v'⟩:=p;simp only[ZeQ,zS,zP]at e;exact e.2.2.symm
 cases k<;>first
  |(simp [OpK.neutral]at hn;done)
  |(simp only[Zat]at hr;exact hlift hr)
  |(simp only[Zat]at hr;(repeat' split at hr)<;>first |cases hr;done |exact hlift hr |(simp only[zS,zP]at hr;exact hr.2.2.symm))
  |(simp [Zat]at hr;done)
def Zbk:AV→List (Nat×Nat)
 | .row a i=>[(a,i)]
 | .ptr a i _ _=>[(a,i)]
 | .slc a i _ _ _=>[(a,i)]
 | .aslc a i _ _ _=>[(a,i)]
 | .yld a i=>[(a,i)]
 | .mp a i=>[(a,i)]
 |_=>[]
def ZcL:AV→List (Nat×Nat)
 | .agg r=>match r with | .gen xs=>xs.flatMap Zbk |_=>[]
 |v=>Zbk v
def refs:AV→List (Nat×Nat)
 | .fn _ xs=>xs.flatMap ZcL
 | .mth _ x=>ZcL x
 |v=>ZcL v
section
variable {A:Ar}{ρ:Opd→AV}{h h2:Zad}
def Zck(h h2:Zad)(l:List (Nat×Nat)):Prop:=∀p∈l,blk h2 p.1 p.2=blk h p.1 p.2
theorem Zdv{x:AV}(ha:Zck h h2 (refs x)):ZbP A h2 x=ZbP A h x:=by
 cases x with
 |row a i=>simp only[ZbP,ha (a,i) (by simp[refs,ZcL,Zbk])]
 |slc a i k n c=>simp only[ZbP,ha (a,i) (by simp[refs,ZcL,Zbk])]
 |aslc a i k o n=>simp only[ZbP,ha (a,i) (by simp[refs,ZcL,Zbk])]
 |_=>rfl
theorem ZnN{x:AV}{ag:Bool}{n:Nat}(ha:Zck h h2 (refs x)):Zjg A h2 ag n x=Zjg A h ag n x:=by
 cases x with
 |ptr a i k o=>simp only[Zjg,ha (a,i) (by simp[refs,ZcL,Zbk])]
 |_=>rfl
theorem ZbJ{x i:AV}{sz:Nat}(ha:Zck h h2 (refs x)):ZbS A h2 sz x i=ZbS A h sz x i:=by
 cases i with
 |int k n=>
  cases x with
  |row a i=>simp only[ZbS,ha (a,i) (by simp[refs,ZcL,Zbk])]
  |slc a i k n c=>simp only[ZbS,ha (a,i) (by simp[refs,ZcL,Zbk])]
  |aslc a i k o n=>simp only[ZbS,ha (a,i) (by simp[refs,ZcL,Zbk])]
  |_=>rfl
 |_=>rfl
theorem ZmN{x i:AV}{sz:Nat}(ha:Zck h h2 (refs x)):Zd7 A h2 sz x i=Zd7 A h sz x i:=by
 cases x with
 |row a j=>
  cases i with
  |int k n=>
   cases n with
   |ofNat m=>simp only[Zd7,ha (a,j) (by simp[refs,ZcL,Zbk])]
   |negSucc m=>simp only[Zd7];exact ZbJ ha
  |_=>simp only[Zd7];exact ZbJ ha
 |list r=>
  cases i with
  |int k n=>
   cases n with
   |ofNat m=>rfl
   |negSucc m=>simp only[Zd7];exact ZbJ ha
  |_=>simp only[Zd7];exact ZbJ ha
 |_=>simp only[Zd7];exact ZbJ ha
theorem Zqq{x:AV}{sz:Nat}{lo hi mx:Option Opd}(ha:Zck h h2 (refs x)):Zxm A ρ h2 sz x lo hi mx=Zxm A ρ h sz x lo hi mx:=by
 unfold Zxm
 have:∀b l,Zum A ρ h2 sz lo hi mx b l x=Zum A ρ h sz lo hi mx b l x:=fun b l=>by
  cases x with
  |row a i=>simp only[Zum,ha (a,i) (by simp[refs,ZcL,Zbk])]
  |slc a i k n c=>simp only[Zum,ha (a,i) (by simp[refs,ZcL,Zbk])]
  |_=>rfl
 split<;>simp only[this]
theorem ZqC{x:AV}{n:Nat}(ha:Zck h h2 (refs x)):ZAW A h2 n x=ZAW A h n x:=by
 cases x with
 |row a i=>simp only[ZAW,ha (a,i) (by simp[refs,ZcL,Zbk])]
 |slc a i k n c=>simp only[ZAW,ha (a,i) (by simp[refs,ZcL,Zbk])]
 |_=>rfl
theorem ZpE{x:AV}(ha:Zck h h2 (refs x)):ZEI A h2 x=ZEI A h x:=by
 cases x with
 |row a i=>simp only[ZEI,ha (a,i) (by simp[refs,ZcL,Zbk])]
 |_=>rfl
theorem ZlC{x:AV}{ne:Bool}(ha:Zck h h2 (refs x)):ZjF A h2 ne x=ZjF A h ne x:=by
 cases x with
 |row a i=>simp only[ZjF,ha (a,i) (by simp[refs,ZcL,Zbk])]
 |slc a i k n c=>simp only[ZjF,ha (a,i) (by simp[refs,ZcL,Zbk])]
 |_=>rfl
theorem Zl6{x y:AV}(ha:Zck h h2 (refs x)):Zjw A h2 x y=Zjw A h x y:=by
 cases x with
 |mp a i=>cases y<;>first |rfl |simp only[Zjw,ha (a,i) (by simp[refs,ZcL,Zbk])]
 |_=>rfl
theorem Zbz{o:Out}{b:Bool}{v:AV}(e:ZeQ h o=some (b,v,h)):ZeQ h2 o=some (b,v,h2):=by
 cases o with
 |none=>cases e
 |some p=>obtain⟨b',v'⟩:=p;simp only[ZeQ,zS,zP]at e ⊢;exact⟨e.1,e.2.1,trivial⟩
def OpK.reads:OpK→Bool
 | .load .. =>true
 | .iaddr .. =>true
 | .slc .. =>true
 | .s2a .. =>true
 | .b2s .. =>true
 | .len .. =>true
 | .mlook .. =>true
 | .isnil .. =>true
 |_=>false
theorem Zna{k:OpK}{b:Bool}{v:AV}(hn:k.neutral=true)(ha:k.reads=true→∀x∈k.looks,Zck h h2 (refs (ρ x)))(hr:Zat A ρ h k=some (b,v,h)):Zat A ρ h2 k=some (b,v,h2):=by
 cases k with
 |load ag n p=>simp only[Zat]at hr ⊢;rw[ZnN (ha rfl p (by simp[OpK.looks]))];exact Zbz hr
 |iaddr sz x i=>
  simp only[Zat]at hr⊢
  rw[ZbJ (ha rfl x (by simp[OpK.looks])),ZmN (ha rfl x (by simp[OpK.looks]))]
  cases hs:isS i<;>rw[hs]at hr<;>exact Zbz hr
 |slc sz x lo hi mx=>simp only[Zat]at hr ⊢;rw[Zqq (ha rfl x (by simp[OpK.looks]))];exact Zbz hr
 |s2a n x=>simp only[Zat]at hr ⊢;rw[ZqC (ha rfl x (by simp[OpK.looks]))];exact Zbz hr
 |b2s x=>simp only[Zat]at hr ⊢;rw[ZpE (ha rfl x (by simp[OpK.looks]))];exact Zbz hr
 |isnil ne x=>simp only[Zat]at hr ⊢;rw[ZlC (ha rfl x (by simp[OpK.looks]))];exact Zbz hr
 |mlook x y=>simp only[Zat]at hr ⊢;rw[Zl6 (ha rfl x (by simp[OpK.looks]))];exact Zbz hr
 |len x=>
  simp only[Zat]at hr⊢
  rw[Zdv (ha rfl x (by simp[OpK.looks]))]
  split at hr
  ·simp only[zS,zP]at hr ⊢;exact⟨hr.1,hr.2.1,trivial⟩
  ·cases hr
 |_=>first
  |(simp [OpK.neutral]at hn;done)
  |(simp only[Zat]at hr ⊢;exact Zbz hr)
  |(simp only[Zat]at hr ⊢;(repeat' split at hr)<;>first |cases hr;done |exact Zbz hr |(simp only[zS,zP]at hr ⊢;exact⟨hr.1,hr.2.1,trivial⟩))
  |(simp [Zat]at hr;done)
end
end Go.Proofs.YtkeoeooghhjibaaGreatDoor
