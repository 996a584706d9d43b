/- Which code and memory of the machine stand for the model's; how memory's standing is kept. No condition. -/
import Derived.Test.YtjhdnpmojhkbjaaXa
import Derived.Maps.AppendAt
import Derived.WalkSpells
namespace Go.Proofs.Ytjhdnpmojhkbjaa
open Go.RowKit (Below)
def cmatch : AV → Value → Bool
  | .int k n, .int k' n' => decide (k = k') && decide (n = n')
  | .bool b, .bool b' => b == b'
  | .str s, .string bs => decide (bs.data.toList = s)
  | .flt k b, .float k' b' => decide (k = k') && decide (b = b')
  | .nils, .slice none 0 0 => true
  | .val .nilFunc, .nilFunc => true
  | .val .nilIface, .nilIface => true
  | .val (.pointer none), .pointer none => true
  | .val (.map none), .map none => true
  | _, _ => false
theorem cmatch_rel {w : World} {ok : Nat → Prop} {h : AHeap} {L : Lay} {av : AV} {v : Value} (hm : cmatch av v = true) : Rel w ok h L av v := by
  unfold cmatch at hm
  split at hm
  · simp at hm; obtain ⟨rfl, rfl⟩ := hm; exact .int _ _
  · simp at hm; subst hm; exact .bool _
  · rename_i s bs
    have hm := of_decide_eq_true hm
    subst hm
    exact .str _
  · simp at hm; obtain ⟨rfl, rfl⟩ := hm; exact .flt _ _
  · exact .nils
  · exact .val _
  · exact .val _
  · exact .val _
  · exact .val _
  · cases hm
def zmatch : AV → Value → Bool
  | .agg r, .agg vs => r.elems.length == vs.size && (List.range r.elems.length).all fun j => match r.elems[j]?, vs[j]? with | some u, some v => cmatch u v && v.oneCell' | _, _ => false
  | x, v => cmatch x v
theorem zmatch_rel {w : World} {ok : Nat → Prop} {h : AHeap} {L : Lay} {z : AV} {v : Value} (hm : zmatch z v = true) : Rel w ok h L z v := by
  unfold zmatch at hm
  split at hm
  · rename_i r vs
    generalize hx : r.elems = xs at hm
    simp only [Bool.and_eq_true, beq_iff_eq, List.all_eq_true, List.mem_range] at hm
    obtain ⟨h1, h2⟩ := hm
    have key : ∀ j u v, xs[j]? = some u → vs[j]? = some v → cmatch u v = true ∧ v.oneCell' = true := fun j u v hu hv => by
      have := h2 j (List.getElem?_eq_some_iff.1 hu).1
      rw [hu, hv] at this
      simpa using this
    refine .agg r xs hx.symm vs h1 (fun v hv => ?_) (fun j u v hu hv => cmatch_rel (key j u v hu hv).1)
    obtain ⟨j, hj⟩ := Array.mem_iff_getElem?.1 hv
    have hlt : j < xs.length := by rw [h1]; exact (Array.getElem?_eq_some_iff.1 hj).1
    exact (key j _ v (List.getElem?_eq_getElem hlt) hj).2
  · exact cmatch_rel hm
def mopd : Opd → Operand → Bool
  | .t n, .tmp m => n == m
  | .c av, .const v => cmatch av v
  | .c (.fn f []), .func g => f == g
  | _, _ => false
def mopds : List Opd → List Operand → Bool
  | [], [] => true
  | x :: xs, y :: ys => mopd x y && mopds xs ys
  | _, _ => false
def mopt : Option Opd → Option Operand → Bool
  | none, none => true
  | some x, some y => mopd x y
  | _, _ => false
def isAggD : TypeDesc → Bool
  | .struct _ => true
  | .array _ _ => true
  | _ => false
def shapeB (P : Program) (t : TypeId) (ag : Bool) (n : Nat) : Bool :=
  match P.underlying t, P.info? t with
  | some d, some i => isAggD d == ag && i.size == n && (ag || n == 1)
  | _, _ => false
def sizeB (P : Program) (t : TypeId) (n : Nat) : Bool := match P.info? t with | some i => i.size == n | none => false
def sliceB (P : Program) (t e : TypeId) : Bool := match P.underlying t with | some (.slice e') => e' == e | _ => false
def arrayB (P : Program) (t : TypeId) (ln : Nat) (e : TypeId) : Bool := match P.underlying t with | some (.array n e') => n == ln && e' == e | _ => false
def stringB (P : Program) (t : TypeId) : Bool := match P.underlying t with | some .string => true | _ => false
def boolB (P : Program) (t : TypeId) : Bool := match P.underlying t with | some .bool => true | _ => false
def intB (P : Program) (t : TypeId) (k : IntKind) : Bool := match P.underlying t with | some (.int k') => k' == k | _ => false
def fltB (P : Program) (t : TypeId) (k : FloatKind) : Bool := match P.underlying t with | some (.float k') => k' == k | _ => false
def knownB (P : Program) (t : TypeId) : Bool := (P.underlying t).isSome
def fieldB (P : Program) (t : TypeId) (f : Nat) (off : Nat) : Option TypeId :=
  match P.underlying t with
  | some (.struct fs) => match fs[f]? with | some fd => if fd.offset == off then some fd.type else none | none => none
  | _ => none
def elemB (P : Program) (e : TypeId) (sz : Nat) (z : Option AV) : Bool :=
  match P.info? e with
  | some i => i.size == sz && i.bytes ≤ 32768 && (match i.zero with | some v => v.cells.size == sz && (match z with | some z => zmatch z v && z.flat.length == sz | none => true) | none => false)
  | none => false
def sliceElem (P : Program) (t : TypeId) : TypeId := match P.underlying t with | some (.slice e) => e | some (.array _ e) => e | _ => 0
def placesOf (P : Program) (t : TypeId) : Option (Value × (Nat → Option (Nat × Nat))) :=
  match P.info? t, P.underlying t with
  | some it, some (.array _ e) =>
    match it.zero, P.info? e with
    | some z, some ie => some (z, fun i => some (i * ie.size, ie.size))
    | _, _ => none
  | some it, some (.struct fields) =>
    match it.zero, fields.toList.mapM (fun f => (P.info? f.type).map fun i => (f.offset, i.size)) with
    | some z, some places => some (z, (places.toArray[·]?))
    | _, _ => none
  | _, _ => none
def mparts (place : Nat → Option (Nat × Nat)) : List (Nat × Nat × Opd) → List (Nat × Operand) → Bool
  | [], [] => true
  | (o, n, x) :: ps, (i, y) :: qs => place i == some (o, n) && mopd x y && mparts place ps qs
  | _, _ => false
def mlits : Nat → List Opd → List (Nat × Operand) → Bool
  | _, [], [] => true
  | k, x :: xs, (i, y) :: ys => i == k && mopd x y && mlits (k + 1) xs ys
  | _, _, _ => false
def calleeOk (P : Program) (f : FuncId) : Bool :=
  match P.funcs[f]? with
  | some fn => fn.name != "runtime.NumGoroutine" && fn.body.isSome
  | none => false
def parrayB (P : Program) (t : TypeId) (ln : Nat) : Bool :=
  match P.underlying t with
  | some (.pointer arr) => (match P.underlying arr with | some (.array n e) => n == ln && sizeB P e 1 && 0 < ln | _ => false)
  | _ => false
def barrayB (P : Program) (t : TypeId) (ln : Nat) : Bool :=
  match P.underlying t with
  | some (.array n e) => n == ln && sizeB P e 1 && 0 < ln
  | _ => false
def leavesFs (f : TypeId → Option (List Lf)) : Nat → List Field → Option (List Lf)
  | _, [] => some []
  | off, fd :: fds => match fd.name == "_", fd.offset == off with
    | false, true => (match f fd.type with
      | some l => (match leavesFs f (off + l.length) fds with | some r => some (l ++ r) | none => none)
      | none => none)
    | _, _ => none
def leavesT (P : Program) (f : TypeId → Option (List Lf)) (t : TypeId) : TypeDesc → Option (List Lf)
  | .int _ => some [.i]
  | .bool => some [.b]
  | .string => some [.s]
  | .struct fs => match P.stoodInHeld t with | true => none | false => leavesFs f 0 fs.toList
  | .array n e => match f e with | some l => some (List.replicate n l).flatten | none => none
  | _ => none
def leavesB (P : Program) : Nat → TypeId → Option (List Lf)
  | 0, _ => none
  | d + 1, t => match P.underlying t, P.info? t with
    | some td, some i => (match leavesT P (leavesB P d) t td with
      | some ls => (match i.size == ls.length with | true => some ls | false => none)
      | none => none)
    | _, _ => none
def eqLf : List Lf → List Lf → Bool
  | [], [] => true
  | .i :: l, .i :: m => eqLf l m
  | .b :: l, .b :: m => eqLf l m
  | .s :: l, .s :: m => eqLf l m
  | _, _ => false
def aeqB (P : Program) (t : TypeId) (ls : List Lf) : Bool := !(P.eqGuardType P.depth t) && (match P.underlying t with | some td => isAggD td | none => false) && (match leavesB P 8 t with | some l => eqLf l ls | none => false)
def mop (P : Program) (o : Oper) : OpK → Bool
  | .mov x => match o.op with | .move y => mopd x y | .assign y => mopd x y | _ => false
  | .pick c x y => match o.op with | .pick c' x' y' => mopd c c' && mopd x x' && mopd y y' | _ => false
  | .bin op x y => match o.op with | .binOp op' _ x' y' _ => op == op' && mopd x x' && mopd y y' | _ => false
  | .binw op x y => match o.op with | .binOp op' _ x' y' _ => op == op' && mopd x x' && mopd y y' | _ => false
  | .beq ne x y => match o.op with | .binOp op' t x' y' _ => op' == (if ne then .neq else .eql) && boolB P t && mopd x x' && mopd y y' | _ => false
  | .isnil ne x => match o.op with | .binOp op' t x' (.const (.slice none 0 0)) _ => op' == (if ne then .neq else .eql) && sliceB P t (sliceElem P t) && mopd x x' | _ => false
  | .aeq ne ls x y => match o.op with | .binOp op' t x' y' _ => op' == (if ne then .neq else .eql) && aeqB P t ls && mopd x x' && mopd y y' | _ => false
  | .idxa ln sz x i => match o.op with | .index t x' i' => arrayB P t ln (sliceElem P t) && shapeB P (sliceElem P t) true sz && mopd x x' && mopd i i' | _ => false
  | .mkmth f x => match o.op with | .makeFunc (.func f') ⟨[x']⟩ ⟨[]⟩ => f == f' && mopd x x' | _ => false
  | .capl x => match o.op with | .call { callee := .builtin .cap, args := ⟨[x']⟩, argTypes := ⟨[t]⟩ } => sliceB P t (sliceElem P t) && mopd x x' | _ => false
  | .not x => match o.op with | .unOp .not _ x' => mopd x x' | _ => false
  | .neg x => match o.op with | .unOp .neg _ x' => mopd x x' | _ => false
  | .conv k x => match o.op with | .convert src dst x' => knownB P src && intB P dst k && mopd x x' | _ => false
  | .i2f k x => match o.op with | .convert src dst x' => knownB P src && fltB P dst k && mopd x x' | _ => false
  | .f2i k x => match o.op with | .convert src dst x' => knownB P src && intB P dst k && mopd x x' | _ => false
  | .len x => match o.op with | .call { callee := .builtin .len, args := ⟨[x']⟩, argTypes := ⟨[t]⟩ } => sliceB P t (sliceElem P t) && mopd x x' | _ => false
  | .slen x => match o.op with | .call { callee := .builtin .len, args := ⟨[x']⟩, argTypes := ⟨[t]⟩ } => stringB P t && mopd x x' | _ => false
  | .mm mx x y => match o.op with | .call { callee := .builtin b, args := ⟨[x', y']⟩, .. } => b == (if mx then .max else .min) && mopd x x' && mopd y y' | _ => false
  | .box _ e x => match o.op with | .box e' x' => e == e' && mopd x x' | _ => false
  | .alloc _ e z => match o.op with | .alloc e' => e == e' && (match P.info? e with | some i => (match i.zero with | some v => zmatch z v | none => false) | none => false) | _ => false
  | .load ag n p => match o.op with | .load t p' => shapeB P t ag n && mopd p p' | _ => false
  | .store n p x => match o.op with | .store t p' x' => o.dst.isNone && sizeB P t n && mopd p p' && mopd x x' | _ => false
  | .faddr off p => match o.op with | .fieldAddr t p' f => (match fieldB P t f off with | some ft => !sizeB P ft 0 && (P.info? ft).isSome | none => false) && mopd p p' | _ => false
  | .iaddr sz x i => match o.op with | .indexAddr t x' i' => sliceB P t (sliceElem P t) && sizeB P (sliceElem P t) sz && 0 < sz && mopd x x' && mopd i i' | _ => false
  | .aaddr ln sz p i => match o.op with | .indexAddr t p' i' => arrayB P t ln (sliceElem P t) && sizeB P (sliceElem P t) sz && mopd p p' && mopd i i' | _ => false
  | .idx ln x i => match o.op with | .index t x' i' => arrayB P t ln (sliceElem P t) && shapeB P (sliceElem P t) false 1 && mopd x x' && mopd i i' | _ => false
  | .sidx x i => match o.op with | .index t x' i' => stringB P t && mopd x x' && mopd i i' | _ => false
  | .fld ag off n x => match o.op with | .field t x' f => (match fieldB P t f off with | some ft => shapeB P ft ag n | none => false) && mopd x x' | _ => false
  | .build z parts => match o.op with | .build t parts' => (match placesOf P t with | some (zv, place) => zmatch (.agg z) zv && mparts place parts parts'.toList | none => false) | _ => false
  | .bslice _ e sz parts => match o.op with | .buildSlice t ln parts' => sliceB P t e && elemB P e sz none && mlits 0 parts parts'.toList && ln == parts.length && 0 < sz && parts.length * sz ≤ 65536 | _ => false
  | .mkslice _ e sz z ln => match o.op with | .makeSlice t l c => sliceB P t e && elemB P e sz (some z) && z.pure && z.bx && 0 < sz && mopd ln l && mopd ln c | _ => false
  | .mklst a e sz z ln => match o.op with | .makeSlice t l c => !famZ a && sliceB P t e && elemB P e sz (some z) && z.pure && z.bx && 0 < sz && mopd ln l && mopd ln c | _ => false
  | .slc sz x lo hi mx => match o.op with | .slice t x' lo' hi' mx' => sliceB P t (sliceElem P t) && sizeB P (sliceElem P t) sz && 0 < sz && mopd x x' && mopt lo lo' && mopt hi hi' && mopt mx mx' && (mx.isNone || hi.isSome) | _ => false
  | .asl ln p lo hi => match o.op with | .slice t p' lo' hi' none => (parrayB P t ln || barrayB P t ln) && mopd p p' && mopt lo lo' && mopt hi hi' | _ => false
  | .sslc x lo hi => match o.op with | .slice t x' lo' hi' none => stringB P t && mopd x x' && mopt lo lo' && mopt hi hi' | _ => false
  | .append _ e sz x y => match o.op with | .call { callee := .builtin .append, args := ⟨[x', y']⟩, argTypes := ⟨[t, t']⟩ } => t == t' && sliceB P t e && elemB P e sz none && 0 < sz && mopd x x' && mopd y y' | _ => false
  | .appz _ e sz z x ln => match o.op with | .call { callee := .builtin .append, args := ⟨[x', l']⟩, argTypes := ⟨[t, t']⟩ } => sliceB P t e && (match P.underlying t' with | some (.int _) => true | _ => false) && elemB P e sz (some z) && z.pure && z.bx && 0 < sz && mopd x x' && mopd ln l' | _ => false
  | .copy sz x y => match o.op with | .call { callee := .builtin .copy, args := ⟨[x', y']⟩, argTypes := ⟨[t, t']⟩ } => t == t' && sliceB P t (sliceElem P t) && sizeB P (sliceElem P t) sz && 0 < sz && mopd x x' && mopd y y' | _ => false
  | .clr e sz z x => match o.op with | .call { callee := .builtin .clear, args := ⟨[x']⟩, argTypes := ⟨[t]⟩ } => sliceB P t e && elemB P e sz (some z) && z.pure && z.bx && 0 < sz && mopd x x' | _ => false
  | .s2a n x => match o.op with | .sliceToArrayPointer t x' => (match P.underlying t with | some (.array m e) => m == n && sizeB P e 1 && 0 < n | _ => false) && mopd x x' | _ => false
  | .nilck x => match o.op with | .nilCheck x' => mopd x x' | _ => false
  | .ext i x => match o.op with | .extract x' i' => i == i' && mopd x x' | _ => false
  | .mkfn f caps => match o.op with | .makeFunc (.func f') ⟨[]⟩ caps' => f == f' && mopds caps caps'.toList | _ => false
  | .ncall _ _ f args => match o.op with | .call { callee := .value (.func f'), args := args', .. } => f == f' && mopds args args'.toList && calleeOk P f | _ => false
  | .ncallv _ _ x args => match o.op with | .call { callee := .value x', args := args', .. } => mopd x x' && mopds args args'.toList | _ => false
  | .icall f args => match o.op with | .call { callee := .value (.func f'), args := args', .. } => f == f' && mopds args args'.toList && calleeOk P f | _ => false
  | .icallv x args => match o.op with | .call { callee := .value x', args := args', .. } => mopd x x' && mopds args args'.toList | _ => false
def noDefer : Op → Bool
  | .defer _ => false
  | _ => true
def maop (P : Program) (N : Nat) (ops : List Oper) (o : Oper) (ao : AOp) : Bool :=
  noDefer o.op && (o.dst == ao.d) && (match ao.d with | some d => Nat.blt d N | none => true) &&
  (match o.guard, ao.g with
    | none, none => true
    | some (j, want), some (t, want') => want == want' && (match ops[j]? with | some oj => oj.dst == some t | none => false)
    | _, _ => false) &&
  mop P o ao.k
def maops (P : Program) (N : Nat) (ops : List Oper) : List Oper → List AOp → Bool
  | [], [] => true
  | o :: os, ao :: aos => maop P N ops o ao && maops P N ops os aos
  | _, _ => false
def optL : Option Opd → List Opd
  | some x => [x]
  | none => []
def OpK.neutral : OpK → Bool
  | .box .. => false
  | .alloc .. => false
  | .store .. => false
  | .bslice .. => false
  | .mkslice .. => false
  | .mklst .. => false
  | .append .. => false
  | .appz .. => false
  | .copy .. => false
  | .clr .. => false
  | .ncall _ a .. => Nat.beq a 0
  | .ncallv _ a .. => Nat.beq a 0
  | .icall .. => false
  | .icallv .. => false
  | _ => true
def OpK.inl : OpK → Bool
  | .icall .. => true
  | .icallv .. => true
  | _ => false
def OpK.looks : OpK → List Opd
  | .mov x | .not x | .neg x | .conv _ x | .i2f _ x | .f2i _ x | .len x | .slen x | .box _ _ x | .load _ _ x | .faddr _ x | .fld _ _ _ x | .ext _ x | .mkslice _ _ _ _ x | .mklst _ _ _ _ x | .isnil _ x | .s2a _ x | .nilck x | .capl x | .mkmth _ x | .clr _ _ _ x => [x]
  | .pick c x y => [c, x, y]
  | .bin _ x y | .binw _ x y | .beq _ x y | .mm _ x y | .store _ x y | .iaddr _ x y | .aaddr _ _ x y | .idx _ x y | .sidx x y | .append _ _ _ x y | .appz _ _ _ _ x y | .copy _ x y | .aeq _ _ x y | .idxa _ _ x y => [x, y]
  | .alloc .. => []
  | .build _ parts => parts.map (·.2.2)
  | .bslice _ _ _ parts => parts
  | .sslc x lo hi | .asl _ x lo hi => x :: optL lo ++ optL hi
  | .slc _ x lo hi mx => x :: optL lo ++ optL hi ++ optL mx
  | .mkfn _ caps => caps
  | .ncall _ _ _ args | .icall _ args => args
  | .ncallv _ _ x args | .icallv x args => x :: args
def AOp.tmps (o : AOp) : List Nat := (o.k.looks.filterMap fun | .t n => some n | .c _ => none) ++ (match o.g with | some (t, _) => [t] | none => [])
def AOp.apart (x y : AOp) : Bool :=
  (match x.d with | some d => !y.tmps.contains d && y.d != some d | none => true) &&
  (match y.d with | some d => !x.tmps.contains d | none => true)
def OpK.mkr : OpK → Option Nat
  | .alloc a _ _ => some a
  | .bslice a _ _ _ => some a
  | .mkslice a _ _ _ _ => some a
  | .mklst a _ _ _ _ => some a
  | _ => none
def OpK.thr : OpK → Option Nat
  | .alloc a _ _ => some a
  | .bslice a _ _ _ => some a
  | .mkslice a _ _ _ _ => some a
  | .mklst a _ _ _ _ => some a
  | .ncall _ a _ _ => some a
  | .ncallv _ a _ _ => some a
  | _ => none
def AOp.frees (x z : AOp) : Bool := match x.k.thr, z.k.mkr with
  | some c, some a => !Nat.beq c a && z.g.isNone
  | _, _ => false
def closW : List Oper → List (List Nat) → List (List Nat)
  | [], acc => acc
  | o :: os, acc => closW os (acc ++ [let es := (o.after.toList.filter fun e => Region.binds .any e).map (·.on); (es ++ es.flatMap fun e => acc.getD e []).eraseDups])
def pairsOk (fr : List (Nat × Nat)) (aos : List AOp) (cl : List (List Nat)) : Nat → List AOp → Bool
  | _, [] => true
  | i, o :: os => ((List.range os.length).all fun d => (cl.getD (i + 1 + d) []).contains i || (match aos[i + 1 + d]? with | some oj => o.apart oj && ((o.k.neutral && oj.k.neutral) || ((o.k.neutral || oj.k.neutral || o.frees oj) && fr.contains (i, i + 1 + d))) | none => false)) && pairsOk fr aos cl (i + 1) os
def linOK : Nat → List Oper → Bool
  | _, [] => true
  | k, o :: os => (o.after.all fun e => !Region.binds .any e || Nat.blt e.on k) && linOK (k + 1) os
def drawOK (fr : List (Nat × Nat)) (ops : List Oper) (aos : List AOp) : Bool := linOK 0 ops && pairsOk fr aos (closW ops []) 0 aos && aos.all fun o => !o.k.inl
def mnats : List Nat → List Nat → Bool
  | [], [] => true
  | x :: xs, y :: ys => Nat.beq x y && mnats xs ys
  | _, _ => false
def mcode (P : Program) (N : Nat) : ACode → Code → Bool
  | .skip, .skip => true
  | .reg d aos, .region _ ops draw => draw == d.isSome && maops P N ops.toList ops.toList aos && (match d with | none => true | some fr => drawOK fr ops.toList aos)
  | .seq a b, .seq x y => mcode P N a x && mcode P N b y
  | .cond c' a b, .cond c x y => mopd c' c && mcode P N a x && mcode P N b y
  | .block id' a, .block id x => id == id' && mcode P N a x
  | .loop a, .loop x => mcode P N a x
  | .rf _ f' ps' a b, .rangeFunc f ps x y => mopd f' f && mnats ps' ps.toList && ps'.all (Nat.blt · N) && mcode P N a x && mcode P N b y
  | .exit j, .exit i => i == j
  | .ret, .ret => true
  | .junk, _ => true
  | .gh _ a, c => mcode P N a c
  | _, _ => false
structure Ctx where
  P : Program
  w0 : World
  okA : Nat → Prop
  cs0 : List Frame
  b : Nat
  own : Nat
abbrev Ctx.of (P : Program) (w : World) (okA : Nat → Prop) (cs : List Frame) : Ctx := ⟨P, w, okA, cs, w.heap.size, 0⟩
def Ctx.base (C : Ctx) : Nat := C.b
def Ctx.n0 (C : Ctx) : Nat := C.w0.heap.size
def okOf (C : Ctx) (h : AHeap) (L : Lay) (g : Nat) : Prop := (g < C.n0 ∧ C.okA g) ∨ (C.n0 ≤ g ∧ ∀ a i, (blk h a i).tag ≠ none → L.loc a i ≠ g)
abbrev RelC (C : Ctx) (h : AHeap) (L : Lay) (w : World) : AV → Value → Prop := Rel w (okOf C h L) h L
def EnvRel (C : Ctx) (h : AHeap) (L : Lay) (w : World) (env : List (Nat × AV)) (tmps : Array Value) : Prop :=
  ∀ t av, aget env t = some av → RelC C h L w av (tmps.getD t undef)
def JRel (P : Program) (N : Nat) : RSt → LoopState → Option Code → Prop
  | .ready, st, p => st = .ready ∧ p = none
  | .busy, st, _ => st = .busy
  | .done j, st, p => st = .done ∧ ∃ c, p = some c ∧ mcode P N j c = true
def BRel (C : Ctx) (h : AHeap) (L : Lay) (w : World) (g n : Nat) : Blk → Prop
  | .row e sz r => 0 < sz ∧ n ≤ maxLen ∧ r.elems.length ≤ n ∧ (∀ x ∈ r.elems, x.flat.length = sz) ∧ ∃ cur : Array Value, w.heap[g]? = some (.cells cur e (0, 0)) ∧ cur.size = n * sz ∧
      RelL w (okOf C h L) h L (flatAll r.elems) (cur.toList.take (r.elems.length * sz)) ∧ ∀ c ∈ cur.toList.take (r.elems.length * sz), c.oneCell' = true
  | .lp l => ∃ r : Loop, w.heap[g]? = some (.loop r) ∧ JRel C.P l.N l.st r.state r.pending ∧ r.fn = l.fn ∧ r.tmps.size = l.N ∧ EnvRel C h L w l.env r.tmps ∧ r.params.toList = l.params ∧ (∀ p ∈ l.params, p < l.N) ∧
      mcode C.P l.N l.asg r.assign = true ∧ mcode C.P l.N l.body r.body = true
  | .dfr => w.heap[g]? = some (.deferred (some []))
  | .dead => True
structure HRel (C : Ctx) (h : AHeap) (L : Lay) (w : World) : Prop where
  below : Below C.base C.w0 w
  live : ∀ a i, (blk h a i).tag ≠ none → C.base ≤ L.loc a i ∧ L.loc a i < w.heap.size
  blks : ∀ a i, BRel C h L w (L.loc a i) (L.size a i) (blk h a i)
  inj : ∀ a i b j, (blk h a i).tag ≠ none → (blk h b j).tag ≠ none → L.loc a i = L.loc b j → a = b ∧ i = j
  home : ∀ a i, (blk h a i).tag ≠ none → C.n0 ≤ L.loc a i ∨ (a = 0 ∧ i = 0 ∧ L.loc a i = C.own ∧ ¬ C.okA (L.loc a i))
  low : ∀ k, k < C.n0 → k ≠ C.own → w.heap[k]? = C.w0.heap[k]?
  base : C.base ≤ C.n0
section
variable {C : Ctx} {h h' : AHeap} {L L' : Lay} {w w' : World}
theorem EnvRel.step {env : List (Nat × AV)} {tmps : Array Value} (s : Step w (okOf C h L) h L w' (okOf C h' L') h' L') (he : EnvRel C h L w env tmps) : EnvRel C h' L' w' env tmps :=
  fun t av ht => (he t av ht).step s
theorem tag_dead {b : Blk} (hb : b.tag = none) : b = .dead := by cases b <;> first | rfl | cases hb
theorem HRel.top (H : HRel C h L w) : C.n0 ≤ w.heap.size := H.below.size
theorem HRel.hbase (H : HRel C h L w) : C.base ≤ w.heap.size := Nat.le_trans H.base H.top
theorem HRel.off (H : HRel C h L w) {k a i : Nat} (hk : k < C.n0) (hko : k ≠ C.own) (ht : (blk h a i).tag ≠ none) : k ≠ L.loc a i := by
  rcases H.home a i ht with h1 | ⟨_, _, h1, _⟩
  · omega
  · rw [h1]; exact hko
theorem BRel.step (s : Step w (okOf C h L) h L w' (okOf C h' L') h' L') {g n : Nat} {b : Blk} (hw : w'.heap[g]? = w.heap[g]?)
    (hb : BRel C h L w g n b) : BRel C h' L' w' g n b := by
  cases b with
  | row e sz r =>
    obtain ⟨h0, h1, h2, h3, cur, h4, h5, h6, h7⟩ := hb
    exact ⟨h0, h1, h2, h3, cur, hw.trans h4, h5, h6.step s, h7⟩
  | lp l =>
    obtain ⟨r, h1, h2, h3, h4, h5, h6, h7, h8, h9⟩ := hb
    exact ⟨r, hw.trans h1, h2, h3, h4, h5.step s, h6, h7, h8, h9⟩
  | dfr => exact hw.trans hb
  | dead => trivial
theorem HRel.one (H : HRel C h L w) (s : Step w (okOf C h L) h L w' (okOf C h' L') h' L') (hb : Below C.base w w') (a0 i0 : Nat)
    (hk : ∀ a i, ¬ (a = a0 ∧ i = i0) → blk h' a i = .dead ∨ (blk h' a i = blk h a i ∧ L'.loc a i = L.loc a i ∧ L'.size a i = L.size a i ∧ w'.heap[L.loc a i]? = w.heap[L.loc a i]?))
    (h0l : (blk h' a0 i0).tag ≠ none → C.base ≤ L'.loc a0 i0 ∧ L'.loc a0 i0 < w'.heap.size)
    (h0h : (blk h' a0 i0).tag ≠ none → C.n0 ≤ L'.loc a0 i0 ∨ (a0 = 0 ∧ i0 = 0 ∧ L'.loc a0 i0 = C.own ∧ ¬ C.okA (L'.loc a0 i0)))
    (hlow : ∀ k, k < C.n0 → k ≠ C.own → w'.heap[k]? = w.heap[k]?)
    (h0 : BRel C h' L' w' (L'.loc a0 i0) (L'.size a0 i0) (blk h' a0 i0))
    (hap : ∀ a i, ¬ (a = a0 ∧ i = i0) → (blk h' a i).tag ≠ none → (blk h' a0 i0).tag ≠ none → L.loc a i ≠ L'.loc a0 i0) : HRel C h' L' w' := by
  refine ⟨H.below.trans hb, fun a i ht => ?_, fun a i => ?_, fun a i b j hti htj hl => ?_, fun a i ht => ?_, fun k hk ho => (hlow k hk ho).trans (H.low k hk ho), H.base⟩
  rotate_right
  · by_cases ha : a = a0 ∧ i = i0
    · obtain ⟨rfl, rfl⟩ := ha; exact h0h ht
    · rcases hk a i ha with hd | ⟨h1, h2, h3, h4⟩
      · rw [hd] at ht; exact absurd rfl ht
      · rw [h1] at ht; rw [h2]; exact H.home a i ht
  · by_cases ha : a = a0 ∧ i = i0
    · obtain ⟨rfl, rfl⟩ := ha; exact h0l ht
    · rcases hk a i ha with hd | ⟨h1, h2, h3, h4⟩
      · rw [hd] at ht; exact absurd rfl ht
      · rw [h1] at ht; rw [h2]
        obtain ⟨g1, g2⟩ := H.live a i ht
        exact ⟨g1, Nat.lt_of_lt_of_le g2 s.size⟩
  · by_cases ha : a = a0 ∧ i = i0
    · obtain ⟨rfl, rfl⟩ := ha; exact h0
    · rcases hk a i ha with hd | ⟨h1, h2, h3, h4⟩
      · rw [hd]; trivial
      · rw [h1, h2, h3]; exact (H.blks a i).step s h4
  · have key : ∀ a i, ¬ (a = a0 ∧ i = i0) → (blk h' a i).tag ≠ none → (blk h a i).tag ≠ none ∧ L'.loc a i = L.loc a i := fun a i ha ht => by
      rcases hk a i ha with hd | ⟨h1, h2, _⟩
      · rw [hd] at ht; exact absurd rfl ht
      · rw [h1] at ht; exact ⟨ht, h2⟩
    by_cases ha : a = a0 ∧ i = i0
    · by_cases hb : b = a0 ∧ j = i0
      · exact ⟨ha.1.trans hb.1.symm, ha.2.trans hb.2.symm⟩
      · obtain ⟨h1, h2⟩ := key b j hb htj
        rw [h2] at hl
        obtain ⟨rfl, rfl⟩ := ha
        exact absurd hl.symm (hap b j hb htj hti)
    · obtain ⟨h1, h2⟩ := key a i ha hti
      by_cases hb : b = a0 ∧ j = i0
      · rw [h2] at hl
        obtain ⟨rfl, rfl⟩ := hb
        exact absurd hl (hap a i ha hti htj)
      · obtain ⟨h3, h4⟩ := key b j hb htj
        rw [h2, h4] at hl
        exact H.inj a i b j h1 h3 hl
def Lay.put (L : Lay) (a i g n : Nat) : Lay := ⟨fun b j => if b = a ∧ j = i then g else L.loc b j, fun b j => if b = a ∧ j = i then n else L.size b j⟩
theorem Lay.put_loc (L : Lay) (a i g n : Nat) : (L.put a i g n).loc a i = g := by simp [Lay.put]
theorem Lay.put_size (L : Lay) (a i g n : Nat) : (L.put a i g n).size a i = n := by simp [Lay.put]
theorem Lay.put_ne (L : Lay) {a i : Nat} (g n : Nat) {b j : Nat} (hne : ¬ (b = a ∧ j = i)) : (L.put a i g n).loc b j = L.loc b j ∧ (L.put a i g n).size b j = L.size b j := by simp [Lay.put, hne]
theorem ok_ne (H : HRel C h L w) {g : Nat} (ho : okOf C h L g) {a i : Nat} (hl : (blk h a i).tag ≠ none) : g ≠ L.loc a i := by
  rintro rfl
  rcases ho with ho | ⟨h1, h2⟩
  · rcases H.home a i hl with h3 | ⟨_, _, _, h3⟩
    · omega
    · exact h3 ho.2
  · exact h2 a i hl rfl
theorem HRel.pushK (H : HRel C h L w) (kill : Nat → Nat → Prop) (hm : AHeap) (hn : ∀ a, nxt hm a = nxt h a) (hkk : ∀ a i, blk hm a i = .dead ∨ (¬ kill a i ∧ blk hm a i = blk h a i)) (a : Nat) (b : Blk) (g n : Nat)
    (hb : Below C.base w w') (hsame : ∀ k, k < w.heap.size → (∀ b j, kill b j → (blk h b j).tag ≠ none → k ≠ L.loc b j) → w'.heap[k]? = w.heap[k]?)
    (hg : (w.heap.size ≤ g ∧ g < w'.heap.size) ∨ ∃ b j, kill b j ∧ (blk h b j).tag ≠ none ∧ g = L.loc b j) (hgn : C.n0 ≤ g)
    (h0 : Step w (okOf C h L) h L w' (okOf C (pushB hm a b) (L.put a (nxt h a) g n)) (pushB hm a b) (L.put a (nxt h a) g n) → BRel C (pushB hm a b) (L.put a (nxt h a) g n) w' g n b) :
    Step w (okOf C h L) h L w' (okOf C (pushB hm a b) (L.put a (nxt h a) g n)) (pushB hm a b) (L.put a (nxt h a) g n) ∧ HRel C (pushB hm a b) (L.put a (nxt h a) g n) w' := by
  have hblk : ∀ c i, blk (pushB hm a b) c i = if a = c ∧ i = nxt h a then b else blk hm c i := fun c i => by rw [blk_push, hn]
  have hold : ∀ c i, ¬ (c = a ∧ i = nxt h a) → blk (pushB hm a b) c i = .dead ∨ (¬ kill c i ∧ blk (pushB hm a b) c i = blk h c i) := fun c i hne => by
    rw [hblk, if_neg (fun e => hne ⟨e.1.symm, e.2⟩)]; exact hkk c i
  have hs : Step w (okOf C h L) h L w' (okOf C (pushB hm a b) (L.put a (nxt h a) g n)) (pushB hm a b) (L.put a (nxt h a) g n) := by
    refine ⟨hb.size, fun k hk ho => ⟨?_, hsame k hk (fun b j _ hl => ok_ne H ho hl)⟩, fun c => ?_, fun c i sz hi ht => ?_⟩
    · rcases ho with ho | ⟨h1, h2⟩
      · exact .inl ho
      · refine .inr ⟨h1, fun c i ht => ?_⟩
        by_cases hne : c = a ∧ i = nxt h a
        · obtain ⟨rfl, rfl⟩ := hne
          rw [Lay.put_loc]
          rintro rfl
          rcases hg with ⟨hg, _⟩ | ⟨b', j', _, hl, hg⟩
          · omega
          · exact h2 b' j' hl hg.symm
        · rw [(L.put_ne g n hne).1]
          rcases hold c i hne with hd | ⟨_, he⟩
          · rw [hd] at ht; exact absurd rfl ht
          · rw [he] at ht; exact h2 c i ht
    · rw [nxt_push]
      split
      · rename_i e; subst e; rw [hn]; omega
      · rw [hn]; exact Nat.le_refl _
    · have hne : ¬ (c = a ∧ i = nxt h a) := by rintro ⟨rfl, rfl⟩; omega
      rcases hold c i hne with hd | ⟨_, he⟩
      · rw [hd] at ht; cases ht
      · rw [he] at ht; exact ⟨ht, (L.put_ne g n hne).1, (L.put_ne g n hne).2⟩
  refine ⟨hs, H.one hs hb a (nxt h a) (fun c i hne => ?_) (fun _ => ?_) (fun _ => .inl (by rw [Lay.put_loc]; exact hgn)) (fun k hk ho => hsame k (Nat.lt_of_lt_of_le hk H.top) (fun b j _ hl => H.off hk ho hl)) ?_ (fun c i hne ht _ => ?_)⟩
  · rcases hold c i hne with hd | ⟨hnk, he⟩
    · exact .inl hd
    · by_cases hdd : (blk h c i).tag = none
      · rw [tag_dead hdd] at he; exact .inl he
      · refine .inr ⟨he, (L.put_ne g n hne).1, (L.put_ne g n hne).2, hsame _ (H.live c i hdd).2 (fun b j hkl hl e => ?_)⟩
        obtain ⟨rfl, rfl⟩ := H.inj c i b j hdd hl e
        exact hnk hkl
  · rw [Lay.put_loc]
    rcases hg with hg | ⟨b', j', _, hl, rfl⟩
    · exact ⟨Nat.le_trans H.hbase hg.1, hg.2⟩
    · exact ⟨(H.live b' j' hl).1, Nat.lt_of_lt_of_le (H.live b' j' hl).2 hb.size⟩
  · rw [Lay.put_loc, Lay.put_size, hblk, if_pos ⟨rfl, rfl⟩]; exact h0 hs
  · rcases hold c i hne with hd | ⟨hnk, he⟩
    · rw [hd] at ht; exact absurd rfl ht
    · rw [he] at ht
      rw [Lay.put_loc]
      rcases hg with hg | ⟨b', j', hkl, hl, rfl⟩
      · have := (H.live c i ht).2; omega
      · intro e
        obtain ⟨rfl, rfl⟩ := H.inj c i b' j' ht hl e
        exact hnk hkl
theorem HRel.push (H : HRel C h L w) (a : Nat) (b : Blk) (g n : Nat) (hb : Below w.heap.size w w') (hg : w.heap.size ≤ g ∧ g < w'.heap.size)
    (h0 : Step w (okOf C h L) h L w' (okOf C (pushB h a b) (L.put a (nxt h a) g n)) (pushB h a b) (L.put a (nxt h a) g n) → BRel C (pushB h a b) (L.put a (nxt h a) g n) w' g n b) :
    Step w (okOf C h L) h L w' (okOf C (pushB h a b) (L.put a (nxt h a) g n)) (pushB h a b) (L.put a (nxt h a) g n) ∧ HRel C (pushB h a b) (L.put a (nxt h a) g n) w' :=
  H.pushK (fun _ _ => False) h (fun _ => rfl) (fun _ _ => .inr ⟨fun e => e, rfl⟩) a b g n (hb.mono H.hbase) (fun k hk _ => hb.block k hk) (.inl hg) (Nat.le_trans H.top hg.1) h0
theorem HRel.set (H : HRel C h L w) {a i : Nat} {b : Blk} (hl : (blk h a i).tag ≠ none) (ht : b.tag = (blk h a i).tag) (hg : w.grownBy w' (some (L.loc a i)))
    (h0 : Step w (okOf C h L) h L w' (okOf C (setB h a i b) L) (setB h a i b) L → BRel C (setB h a i b) L w' (L.loc a i) (L.size a i) b) :
    Step w (okOf C h L) h L w' (okOf C (setB h a i b) L) (setB h a i b) L ∧ HRel C (setB h a i b) L w' := by
  have hnd : blk h a i ≠ .dead := fun e => hl (by rw [e]; rfl)
  have hblk : ∀ c j, blk (setB h a i b) c j = if a = c ∧ i = j then b else blk h c j := fun c j => blk_set hnd c j b
  have htag : ∀ c j, (blk (setB h a i b) c j).tag = (blk h c j).tag := fun c j => by
    rw [hblk]; split
    · rename_i e; obtain ⟨rfl, rfl⟩ := e; exact ht
    · rfl
  have hb : Below C.base w w' := (Below.refl _ _).grown hg H.hbase (fun k hk => by cases hk; exact (H.live a i hl).1)
  have hs : Step w (okOf C h L) h L w' (okOf C (setB h a i b) L) (setB h a i b) L := by
    refine ⟨hb.size, fun k hk ho => ⟨?_, hg.block k hk (fun e => ok_ne H ho hl (by simpa using e))⟩, fun c => by rw [nxt_set]; exact Nat.le_refl _, fun c j sz _ htt => ⟨by rw [← htag]; exact htt, rfl, rfl⟩⟩
    rcases ho with ho | ⟨h1, h2⟩
    · exact .inl ho
    · exact .inr ⟨h1, fun c j hc => h2 c j (by rw [← htag]; exact hc)⟩
  refine ⟨hs, H.one hs hb a i (fun c j hne => ?_) (fun _ => ⟨(H.live a i hl).1, Nat.lt_of_lt_of_le (H.live a i hl).2 hb.size⟩) (fun _ => H.home a i hl) (fun k hk ho => hg.block k (Nat.lt_of_lt_of_le hk H.top) (fun e => H.off hk ho hl (by simpa using e))) (by rw [hblk, if_pos ⟨rfl, rfl⟩]; exact h0 hs) (fun c j hne hc _ e => ?_)⟩
  · have he : blk (setB h a i b) c j = blk h c j := by rw [hblk, if_neg (fun e => hne ⟨e.1.symm, e.2.symm⟩)]
    by_cases hdd : (blk h c j).tag = none
    · rw [tag_dead hdd] at he; exact .inl he
    · refine .inr ⟨he, rfl, rfl, hg.block _ (H.live c j hdd).2 (fun e => ?_)⟩
      obtain ⟨rfl, rfl⟩ := H.inj c j a i hdd hl (by simpa using e)
      exact hne ⟨rfl, rfl⟩
  · rw [htag] at hc
    obtain ⟨rfl, rfl⟩ := H.inj c j a i hc hl e
    exact hne ⟨rfl, rfl⟩
theorem HRel.kill (H : HRel C h L w) (h' : AHeap) (hn : ∀ a, nxt h' a = nxt h a) (hk : ∀ a i, blk h' a i = .dead ∨ blk h' a i = blk h a i) :
    Step w (okOf C h L) h L w (okOf C h' L) h' L ∧ HRel C h' L w := by
  have htag : ∀ a i, (blk h' a i).tag ≠ none → (blk h a i).tag ≠ none := fun a i ht => by
    rcases hk a i with e | e
    · rw [e] at ht; exact absurd rfl ht
    · rw [e] at ht; exact ht
  have hs : Step w (okOf C h L) h L w (okOf C h' L) h' L := by
    refine ⟨Nat.le_refl _, fun k hk' ho => ⟨?_, rfl⟩, fun a => by rw [hn]; exact Nat.le_refl _, fun a i sz _ ht => ?_⟩
    · rcases ho with ho | ⟨h1, h2⟩
      · exact .inl ho
      · exact .inr ⟨h1, fun a i ht => h2 a i (htag a i ht)⟩
    · rcases hk a i with e | e
      · rw [e] at ht; cases ht
      · rw [e] at ht; exact ⟨ht, rfl, rfl⟩
  refine ⟨hs, H.below, fun a i ht => H.live a i (htag a i ht), fun a i => ?_, fun a i b j h1 h2 e => H.inj a i b j (htag a i h1) (htag b j h2) e, fun a i ht => H.home a i (htag a i ht), H.low, H.base⟩
  rcases hk a i with e | e
  · rw [e]; trivial
  · rw [e]; exact (H.blks a i).step hs rfl
theorem HRel.grow (H : HRel C h L w) (hb : Below w.heap.size w w') : Step w (okOf C h L) h L w' (okOf C h L) h L ∧ HRel C h L w' := by
  have hs : Step w (okOf C h L) h L w' (okOf C h L) h L := ⟨hb.size, fun k hk ho => ⟨ho, hb.block k hk⟩, fun a => Nat.le_refl _, fun a i sz _ ht => ⟨ht, rfl, rfl⟩⟩
  exact ⟨hs, H.below.trans (hb.mono H.hbase), fun a i ht => ⟨(H.live a i ht).1, Nat.lt_of_lt_of_le (H.live a i ht).2 hb.size⟩,
    fun a i => by
      by_cases hd : (blk h a i).tag = none
      · rw [tag_dead hd]; trivial
      · exact (H.blks a i).step hs (hb.block _ (H.live a i hd).2), H.inj, H.home, fun k hk ho => (hb.block k (Nat.lt_of_lt_of_le hk H.top)).trans (H.low k hk ho), H.base⟩
end
end Go.Proofs.Ytjhdnpmojhkbjaa
/- What each operation of the machine does. No condition. -/
namespace Go.Proofs.Ytjhdnpmojhkbjaa
open Go.RowKit (Below)
structure Ar where
  add : Int → Int → Int
  sub : Int → Int → Int
  mul : Int → Int → Int
  quo : Int → Int → Int
  rem : Int → Int → Int
  neg : Int → Int
  bits : BinOp → IntKind → Int → Int → Int
  shl : Int → Int → Int
  shr : Int → Int → Int
  lt : Int → Int → Bool
  le : Int → Int → Bool
  eq : Int → Int → Bool
  inR : IntKind → Int → Bool
  nat : Int → Nat
  int : Nat → Int
  max : Int → Int → Int
  min : Int → Int → Int
  ltN : Nat → Nat → Bool
  leN : Nat → Nat → Bool
  eqN : Nat → Nat → Bool
  addN : Nat → Nat → Nat
  subN : Nat → Nat → Nat
  minN : Nat → Nat → Nat
  len : List Int → Nat
  nth : List Int → Nat → Int
  set : List Int → Nat → Int → List Int
  app : List Int → List Int → List Int
  sub3 : List Int → Nat → Nat → List Int
  rep : Nat → Int → List Int
  lenF : List Nat → Nat
  nthF : List Nat → Nat → Nat
  setF : List Nat → Nat → Nat → List Nat
  appF : List Nat → List Nat → List Nat
  subF : List Nat → Nat → Nat → List Nat
  repF : Nat → Nat → List Nat
  lenA : List AV → Nat
  nthA : List AV → Nat → AV
  setA : List AV → Nat → AV → List AV
  appA : List AV → List AV → List AV
  subA : List AV → Nat → Nat → List AV
  repA : Nat → AV → List AV
  lenS : List UInt8 → Nat
  nthS : List UInt8 → Nat → Int
  appS : List UInt8 → List UInt8 → List UInt8
  subS : List UInt8 → Nat → Nat → List UInt8
  eqS : List UInt8 → List UInt8 → Bool
  ltS : List UInt8 → List UInt8 → Bool
  fadd : FloatKind → Nat → Nat → Option Nat
  fsub : FloatKind → Nat → Nat → Option Nat
  ford : FloatKind → Nat → Nat → Option Ordering
  fneg : FloatKind → Nat → Bool
  i2f : FloatKind → Int → Nat
  f2i : FloatKind → Nat → Option Int
  and : Bool → Bool → Bool
  not : Bool → Bool
def sub3 {α : Type} (l : List α) (k n : Nat) : List α := (l.drop k).take n
def std : Ar where
  add := (· + ·)
  sub := (· - ·)
  mul := (· * ·)
  quo := Int.tdiv
  rem := Int.tmod
  neg := fun a => -a
  bits := fun op k a b => match Op.intBits op k a b with | .pure (.int _ n) => n | _ => 0
  shl := fun a b => a * 2 ^ b.toNat
  shr := fun a b => a.fdiv (2 ^ b.toNat)
  lt := fun a b => decide (a < b)
  le := fun a b => decide (a ≤ b)
  eq := fun a b => decide (a = b)
  inR := fun k n => decide (k.min ≤ n ∧ n ≤ k.max)
  nat := Int.toNat
  int := fun n => (n : Int)
  max := fun a b => Max.max a b
  min := fun a b => Min.min a b
  ltN := fun a b => decide (a < b)
  leN := fun a b => decide (a ≤ b)
  eqN := fun a b => decide (a = b)
  addN := (· + ·)
  subN := (· - ·)
  minN := fun a b => Min.min a b
  len := List.length
  nth := fun l j => l.getD j 0
  set := List.set
  app := (· ++ ·)
  sub3 := sub3
  rep := List.replicate
  lenF := List.length
  nthF := fun l j => l.getD j 0
  setF := List.set
  appF := (· ++ ·)
  subF := sub3
  repF := List.replicate
  lenA := List.length
  nthA := fun l j => l.getD j .top
  setA := List.set
  appA := (· ++ ·)
  subA := sub3
  repA := List.replicate
  lenS := List.length
  nthS := fun l j => ((l.getD j 0).toNat : Int)
  appS := (· ++ ·)
  subS := sub3
  eqS := fun a b => a == b
  ltS := Op.bytesLess
  fadd := fun k a b => k.format.add a b
  fsub := fun k a b => k.format.sub a b
  ford := fun k a b => k.format.order a b
  fneg := fun k a => (k.decode a).neg
  i2f := fun k n => k.nearest n
  f2i := fun k b => (k.decode b).toInt .zero
  and := fun a b => a && b
  not := fun a => !a
mutual
def eqSh : Sh → Sh → Bool
  | .int k, .int k' => decide (k = k')
  | .bool, .bool => true
  | .str, .str => true
  | .flt k, .flt k' => decide (k = k')
  | .ints k, .ints k' => decide (k = k')
  | .big s, .big t => eqSh s t
  | .agg ss, .agg ts => eqShL ss ts
  | _, _ => false
def eqShL : List Sh → List Sh → Bool
  | [], [] => true
  | s :: ss, t :: ts => match eqSh s t with | true => eqShL ss ts | false => false
  | _, _ => false
end
def conf1 : Sh → AV → Bool
  | .int k, .int k' _ => decide (k = k')
  | .bool, .bool _ => true
  | .str, .str _ => true
  | .flt k, .flt k' _ => decide (k = k')
  | .ints k, .list (.ints k' _) => decide (k = k')
  | .big s, .list (.big t _) => eqSh s t
  | _, _ => false
def confL : List Sh → List AV → Bool
  | [], [] => true
  | s :: ss, x :: xs => match conf1 s x with | true => confL ss xs | false => false
  | _, _ => false
def conf : Sh → AV → Bool
  | .agg ss, .agg (.gen xs) => confL ss xs
  | .agg _, _ => false
  | s, v => conf1 s v
def confA (sh : Sh) : List AV → Bool
  | [] => true
  | x :: xs => match conf sh x with | true => confA sh xs | false => false
def shOf1 : AV → Option Sh
  | .int k _ => some (.int k)
  | .bool _ => some .bool
  | .str _ => some .str
  | .flt k _ => some (.flt k)
  | .list (.ints k _) => some (.ints k)
  | .list (.big s _) => some (.big s)
  | _ => none
def shOfL : List AV → Option (List Sh)
  | [] => some []
  | x :: xs => match shOf1 x, shOfL xs with | some s, some ss => some (s :: ss) | _, _ => none
def shOf : AV → Option Sh
  | .agg (.gen xs) => (match shOfL xs with | some ss => some (.agg ss) | none => none)
  | v => shOf1 v
def Row.len (A : Ar) : Row → Nat
  | .gen xs => xs.length
  | .ints _ l => A.len l
  | .flts _ l => A.lenF l
  | .big _ xs => A.lenA xs
def Row.get (A : Ar) (j : Nat) : Row → AV
  | .gen xs => xs.getD j .top
  | .ints k l => .int k (A.nth l j)
  | .flts k l => .flt k (A.nthF l j)
  | .big sh xs => sh.view (A.nthA xs j)
def Row.set (A : Ar) (r : Row) (j : Nat) (v : AV) : Row :=
  match r, v with
  | .ints k l, .int k' n => match decide (k = k') with | true => .ints k (A.set l j n) | false => .gen (((Row.ints k l).elems).set j v)
  | .flts k l, .flt k' n => match decide (k = k') with | true => .flts k (A.setF l j n) | false => .gen (((Row.flts k l).elems).set j v)
  | .big sh xs, v => match conf sh v with | true => .big sh (A.setA xs j v) | false => .gen ((Row.big sh xs).elems.set j v)
  | r, v => .gen (r.elems.set j v)
def Row.app (A : Ar) (r s : Row) : Row :=
  match r, s with
  | .gen [], s => s
  | r, .gen [] => r
  | .ints k l, .ints k' l' => match decide (k = k') with | true => .ints k (A.app l l') | false => .gen ((Row.ints k l).elems ++ (Row.ints k' l').elems)
  | .flts k l, .flts k' l' => match decide (k = k') with | true => .flts k (A.appF l l') | false => .gen ((Row.flts k l).elems ++ (Row.flts k' l').elems)
  | .big sh xs, .big sh' ys => match eqSh sh sh' with | true => .big sh (A.appA xs ys) | false => .gen ((Row.big sh xs).elems ++ (Row.big sh' ys).elems)
  | .big sh xs, .gen ys => match confA sh ys with | true => .big sh (A.appA xs ys) | false => .gen ((Row.big sh xs).elems ++ ys)
  | .gen ys, .big sh xs => match confA sh ys with | true => .big sh (A.appA ys xs) | false => .gen (ys ++ (Row.big sh xs).elems)
  | r, s => .gen (r.elems ++ s.elems)
def Row.sub (A : Ar) (k n : Nat) : Row → Row
  | .gen xs => .gen (sub3 xs k n)
  | .ints kd l => .ints kd (A.sub3 l k n)
  | .flts kd l => .flts kd (A.subF l k n)
  | .big sh xs => .big sh (A.subA xs k n)
def kindInts (k : IntKind) : List AV → Option (List Int)
  | [] => some []
  | .int k' n :: t => match decide (k' = k) with | true => (match kindInts k t with | some l => some (n :: l) | none => none) | false => none
  | _ => none
def Row.toInts : Row → Row
  | .gen (.int k n :: t) => match kindInts k t with | .some l => .ints k (n :: l) | .none => .gen (.int k n :: t)
  | r => r
def Row.blit (A : Ar) (r : Row) (k : Nat) (s : Row) : Row :=
  match r, s with
  | .ints kd l, .ints kd' m => match decide (kd = kd') with
    | true => .ints kd (A.app (A.app (A.sub3 l 0 k) m) (A.sub3 l (A.addN k (A.len m)) (A.len l)))
    | false => .gen ((Row.ints kd l).elems.take k ++ (Row.ints kd' m).elems ++ (Row.ints kd l).elems.drop (k + (Row.ints kd' m).elems.length))
  | .flts kd l, .flts kd' m => match decide (kd = kd') with
    | true => .flts kd (A.appF (A.appF (A.subF l 0 k) m) (A.subF l (A.addN k (A.lenF m)) (A.lenF l)))
    | false => .gen ((Row.flts kd l).elems.take k ++ (Row.flts kd' m).elems ++ (Row.flts kd l).elems.drop (k + (Row.flts kd' m).elems.length))
  | .big sh xs, .big sh' ys => match eqSh sh sh' with
    | true => .big sh (A.appA (A.appA (A.subA xs 0 k) ys) (A.subA xs (A.addN k (A.lenA ys)) (A.lenA xs)))
    | false => .gen ((Row.big sh xs).elems.take k ++ (Row.big sh' ys).elems ++ (Row.big sh xs).elems.drop (k + (Row.big sh' ys).elems.length))
  | r, .gen [] => r
  | r, s => .gen (r.elems.take k ++ s.elems ++ r.elems.drop (k + s.elems.length))
def intsOf (k : IntKind) : List AV → Option (List Int)
  | [] => some []
  | .int k' n :: r => match decide (k = k') with | true => (match intsOf k r with | some l => some (n :: l) | none => none) | false => none
  | _ :: _ => none
def fltsOf (k : FloatKind) : List AV → Option (List Nat)
  | [] => some []
  | .flt k' n :: r => match decide (k = k') with | true => (match fltsOf k r with | some l => some (n :: l) | none => none) | false => none
  | _ :: _ => none
def normG (xs : List AV) : Row :=
  match xs with
  | .int k n :: r => (match intsOf k r with | some l => .ints k (n :: l) | none => .gen xs)
  | .flt k n :: r => (match fltsOf k r with | some l => .flts k (n :: l) | none => .gen xs)
  | x :: _ => (match shOf x with | some sh => (match confA sh xs with | true => .big sh xs | false => .gen xs) | none => .gen xs)
  | [] => .gen xs
def normR : Row → Row
  | .gen xs => normG xs
  | y => y
def repR (A : Ar) (n : Nat) : AV → Row
  | .int k m => .ints k (A.rep n m)
  | .flt k m => .flts k (A.repF n m)
  | v => match shOf v with
    | some sh => (match conf sh v with | true => .big sh (A.repA n v) | false => .gen (List.replicate n v))
    | none => .gen (List.replicate n v)
def Row.sing : Row → Bool
  | .gen xs => xs.all AV.single
  | .ints _ _ => true
  | .flts _ _ => true
  | .big sh _ => sh.single
def Row.part (A : Ar) (r : Row) (k n : Nat) : Row :=
  match r with
  | .ints kd l => .ints kd (A.sub3 l k n)
  | .flts kd l => .flts kd (A.subF l k n)
  | .big sh xs => .big sh (A.subA xs k n)
  | .gen xs => .gen (sub3 xs k n)
abbrev Out := Option (Bool × AV)
def intR (A : Ar) (op : BinOp) (k : IntKind) (a b : Int) : Out :=
  match op with
  | .add => some (A.inR k (A.add a b), .int k (A.add a b))
  | .sub => some (A.inR k (A.sub a b), .int k (A.sub a b))
  | .mul => some (A.inR k (A.mul a b), .int k (A.mul a b))
  | .quo => some (A.and (A.not (A.eq b 0)) (A.inR k (A.quo a b)), .int k (A.quo a b))
  | .rem => some (A.not (A.eq b 0), .int k (A.rem a b))
  | .and => some (true, .int k (A.bits .and k a b))
  | .or => some (true, .int k (A.bits .or k a b))
  | .xor => some (true, .int k (A.bits .xor k a b))
  | .andNot => some (true, .int k (A.bits .andNot k a b))
  | .eql => some (true, .bool (A.eq a b))
  | .neq => some (true, .bool (A.not (A.eq a b)))
  | .lss => some (true, .bool (A.lt a b))
  | .leq => some (true, .bool (A.le a b))
  | .gtr => some (true, .bool (A.lt b a))
  | .geq => some (true, .bool (A.le b a))
  | _ => none
def strR (A : Ar) (op : BinOp) (x y : List UInt8) : Out :=
  match op with
  | .add => some (A.leN (A.addN (A.lenS x) (A.lenS y)) 4294967296, .str (A.appS x y))
  | .eql => some (true, .bool (A.eqS x y))
  | .neq => some (true, .bool (A.not (A.eqS x y)))
  | .lss => some (true, .bool (A.ltS x y))
  | _ => none
def fltR (A : Ar) (op : BinOp) (k : FloatKind) (x y : Nat) : Out :=
  match op with
  | .add => some ((A.fadd k x y).isSome, .flt k ((A.fadd k x y).getD 0))
  | .sub => some ((A.fsub k x y).isSome, .flt k ((A.fsub k x y).getD 0))
  | .eql => some (true, .bool (A.ford k x y == some .eq))
  | .neq => some (true, .bool (A.ford k x y != some .eq))
  | .lss => some (true, .bool (A.ford k x y == some .lt))
  | .gtr => some (true, .bool (A.ford k x y == some .gt))
  | _ => none
def binR (A : Ar) (op : BinOp) (x y : AV) : Out :=
  match x, y with
  | .int k a, .int k' b =>
    match op with
    | .shl => some (A.and (A.and (A.le 0 b) (A.ltN (A.nat b) k.bits)) (A.inR k (A.shl a b)), .int k (A.shl a b))
    | .shr => some (A.and (A.le 0 b) (A.ltN (A.nat b) k.bits), .int k (A.shr a b))
    | op => match decide (k = k') with | true => intR A op k a b | false => none
  | .str a, .str b => strR A op a b
  | .flt k a, .flt k' b => match decide (k = k') with | true => fltR A op k a b | false => none
  | _, _ => none
def binwR (A : Ar) (op : BinOp) (x y : AV) : Out :=
  match x, y with
  | .int k a, .int k' b => (match decide (k = k') with
    | true => (match op with
      | .add => some (true, .int k (k.wrap (A.add a b)))
      | .sub => some (true, .int k (k.wrap (A.sub a b)))
      | .mul => some (true, .int k (k.wrap (A.mul a b)))
      | _ => none)
    | false => none)
  | _, _ => none
def contR (A : Ar) (h : AHeap) : AV → Option (Bool × Row)
  | .list r => some (true, r)
  | .nils => some (true, .gen [])
  | .row a i => match blk h a i with | .row _ _ r => some (true, r) | _ => none
  | .slc a i k n _ => match blk h a i with | .row _ _ r => some (A.leN (A.addN k n) (r.len A), r.sub A k n) | _ => none
  | .aslc a i k off n => match blk h a i with
    | .row _ _ r => match r.get A k with
      | .agg x => some (A.and (A.ltN k (r.len A)) (A.and (A.leN (A.addN off n) (x.len A)) x.sing), normR (x.part A off n))
      | _ => none
    | _ => none
  | .val v => match v with | .slice (some _) 0 _ => some (true, .gen []) | _ => none
  | _ => none
def cutE (A : Ar) (ag : Bool) (n off : Nat) (u : AV) : Out :=
  match ag, u with
  | true, .agg x => some (A.leN (A.addN off n) (x.len A), .agg (x.sub A off n))
  | true, v => some (A.and (A.eqN off 0) (A.eqN n 1), .agg (.gen [v]))
  | false, .agg x => some (A.ltN off (x.len A), x.get A off)
  | false, v => some (A.eqN off 0, v)
def loadR (A : Ar) (h : AHeap) (ag : Bool) (n : Nat) : AV → Out
  | .ptr a i k off => match blk h a i with
    | .row _ sz r => (match ag, r.get A k with
      | true, .int kd m => some (A.and (A.and (A.eqN sz 1) (A.eqN off 0)) (A.and (A.leN (A.addN k n) (r.len A)) (A.and (A.eqN n n) r.sing)), match Nat.beq n 1 with | true => .agg (.gen [.int kd m]) | false => .agg (normR (r.part A k n)))
      | ag, u => match cutE A ag n off u with | some (b, v) => some (A.and (A.ltN k (r.len A)) b, v) | none => none)
    | _ => none
  | .eptr u off => cutE A ag n off u
  | _ => none
def flatLen (A : Ar) : AV → Nat
  | .agg x => x.len A
  | _ => 1
def putE (A : Ar) (sz n off : Nat) (u x : AV) : Option (Bool × AV) :=
  match u, x with
  | .agg us, .agg xs => match Nat.beq off 0, Nat.beq n sz with
    | true, true => some (A.eqN (xs.len A) n, x)
    | _, _ => some (A.and (A.eqN (xs.len A) n) (A.leN (A.addN off n) sz), .agg (us.blit A off xs))
  | .agg us, x => some (A.and (A.and x.bx (A.eqN n 1)) (A.ltN off sz), .agg (us.set A off x))
  | _, x => some (A.and (A.and x.bx (A.eqN off 0)) (A.and (A.eqN n sz) (A.eqN (flatLen A x) n)), x)
def storeR (A : Ar) (h : AHeap) (n : Nat) (p x : AV) : Option (Bool × AV × AHeap) :=
  match p with
  | .ptr a i k off => match blk h a i with
    | .row e sz r => match putE A sz n off (r.get A k) x with
      | some (b, v) => some (A.and (A.ltN k (r.len A)) b, .und, setB h a i (.row e sz (r.set A k v)))
      | none => none
    | _ => none
  | _ => none
def iaddrR (A : Ar) (h : AHeap) (sz : Nat) (x i : AV) : Out :=
  match i with
  | .int _ n => match x with
    | .list r => some (A.and (A.and (A.le 0 n) (A.ltN (A.nat n) (r.len A))) (A.eqN (flatLen A (r.get A (A.nat n))) sz), .eptr (r.get A (A.nat n)) 0)
    | .row a j => match blk h a j with
      | .row _ sz' r => some (A.and (A.eqN sz' sz) (A.and (A.le 0 n) (A.ltN (A.nat n) (r.len A))), .ptr a j (A.nat n) 0)
      | _ => none
    | .slc a j k m _ => match blk h a j with
      | .row _ sz' _ => some (A.and (A.eqN sz' sz) (A.and (A.le 0 n) (A.ltN (A.nat n) m)), .ptr a j (A.addN k (A.nat n)) 0)
      | _ => none
    | .aslc a j k off m => match blk h a j with
      | .row .. => some (A.and (A.eqN sz 1) (A.and (A.le 0 n) (A.ltN (A.nat n) m)), .ptr a j k (A.addN off (A.nat n)))
      | _ => none
    | _ => none
  | _ => none
def scale (A : Ar) (sz : Nat) (n : Int) : Nat := match Nat.beq sz 1 with | true => A.nat n | false => A.nat n * sz
def faddrR (A : Ar) (off : Nat) : AV → Out
  | .ptr a i k o => some (true, .ptr a i k (o + off))
  | .eptr u o => some (true, .eptr u (o + off))
  | _ => none
def aaddrR (A : Ar) (ln sz : Nat) (p i : AV) : Out :=
  match i with
  | .int _ n => match p with
    | .ptr a j k off => some (A.and (A.le 0 n) (A.lt n (A.int ln)), .ptr a j k (A.addN off (scale A sz n)))
    | .eptr u off => some (A.and (A.le 0 n) (A.lt n (A.int ln)), .eptr u (A.addN off (scale A sz n)))
    | _ => none
  | _ => none
def constN : Opd → Option Nat
  | .c (.int _ n) => some n.toNat
  | _ => none
def aaddrK (ln sz : Nat) (p : AV) (n : Nat) : Out :=
  match p with
  | .ptr a j k off => some (Nat.blt n ln, .ptr a j k (off + n * sz))
  | .eptr u off => some (Nat.blt n ln, .eptr u (off + n * sz))
  | _ => none
def nonneg : Opd → Bool
  | .c (.int _ n) => match n with | .ofNat _ => true | .negSucc _ => false
  | _ => false
def aaddrO (A : Ar) (ρ : Opd → AV) (ln sz : Nat) (p i : Opd) : Out :=
  match nonneg i with
  | true => (match constN i with | some n => aaddrK ln sz (ρ p) n | none => aaddrR A ln sz (ρ p) (ρ i))
  | false => aaddrR A ln sz (ρ p) (ρ i)
def natOf (A : Ar) (ρ : Opd → AV) (d : Nat) : Option Opd → Option (Bool × Nat)
  | none => some (true, d)
  | some x => match ρ x with | .int _ n => some (A.le 0 n, A.nat n) | _ => none
def Row.unit (A : Ar) (sz : Nat) (r : Row) : Bool := match r with | .gen [] => true | r => A.eqN (flatLen A (r.get A 0)) sz
def goR (A : Ar) (ρ : Opd → AV) (hi : Option Opd) (b1 : Bool) (l n : Nat) (f : Nat → Out) : Out :=
  match natOf A ρ n hi with
  | none => none
  | some (b2, m) => match f m with
    | some (b3, v) => some (A.and (A.and b1 b2) (A.and (A.and (A.leN l m) (A.leN m n)) b3), v)
    | none => none
def capR (A : Ar) (ρ : Opd → AV) (mx : Option Opd) (l n m : Nat) (c : Option Nat) : Option (Bool × Option Nat) :=
  match mx with
  | none => (match c with | none => some (true, none) | some c => some (true, some (A.subN c l)))
  | some y => match ρ y with | .int _ q => some (A.and (A.le 0 q) (A.and (A.leN m (A.nat q)) (A.leN (A.nat q) n)), some (A.subN (A.nat q) l)) | _ => none
def allN (lo hi mx : Option Opd) : Bool :=
  match lo, hi, mx with
  | none, none, none => true
  | _, _, _ => false
def slcK (A : Ar) (ρ : Opd → AV) (h : AHeap) (sz : Nat) (lo hi mx : Option Opd) (b1 : Bool) (l : Nat) : AV → Out
  | .list r => goR A ρ hi b1 l (r.len A) fun m => (match capR A ρ mx l (r.len A) m none with | some (b, _) => some (A.and (r.unit A sz) b, .list (r.sub A l (A.subN m l))) | none => none)
  | .nils => goR A ρ hi b1 l 0 fun m => (match capR A ρ mx l 0 m none with | some (b, _) => some (b, .nils) | none => none)
  | .row a i => (match blk h a i with
    | .row _ sz' r => goR A ρ hi b1 l (r.len A) fun m => (match capR A ρ mx l (r.len A) m none with
      | some (b, c) => (match allN lo hi mx with
        | true => some (true, .row a i)
        | false => some (A.and (A.eqN sz' sz) b, .slc a i l (A.subN m l) c))
      | none => none)
    | _ => none)
  | .slc a i k n c => (match blk h a i with
    | .row _ sz' _ => goR A ρ hi b1 l n fun m => (match capR A ρ mx l n m c with | some (b, c') => some (A.and (A.eqN sz' sz) b, .slc a i (A.addN k l) (A.subN m l) c') | none => none)
    | _ => none)
  | .aslc a i k off n => goR A ρ hi b1 l n fun m => (match capR A ρ mx l n m none with | some (b, _) => some (A.and (A.eqN sz 1) b, .aslc a i k (A.addN off l) (A.subN m l)) | none => none)
  | _ => none
def slcR (A : Ar) (ρ : Opd → AV) (h : AHeap) (sz : Nat) (x : AV) (lo hi mx : Option Opd) : Out :=
  match natOf A ρ 0 lo with
  | none => none
  | some (b1, l) => slcK A ρ h sz lo hi mx b1 l x
def aslR (A : Ar) (ρ : Opd → AV) (ln : Nat) (p : AV) (lo hi : Option Opd) : Out :=
  match natOf A ρ 0 lo, natOf A ρ ln hi with
  | some (b1, l), some (b2, m) => match p with
    | .ptr a i k off => some (A.and (A.and b1 b2) (A.and (A.leN l m) (A.leN m ln)), .aslc a i k (A.addN off l) (A.subN m l))
    | _ => none
  | _, _ => none
def sslcR (A : Ar) (ρ : Opd → AV) (x : AV) (lo hi : Option Opd) : Out :=
  match x with
  | .str s => match natOf A ρ 0 lo, natOf A ρ (A.lenS s) hi with
    | some (b1, l), some (b2, m) => some (A.and (A.and b1 b2) (A.and (A.leN l m) (A.leN m (A.lenS s))), .str (A.subS s l (A.subN m l)))
    | _, _ => none
  | _ => none
def Row.fits (A : Ar) (sz : Nat) : Row → Bool
  | .gen xs => xs.all fun x => x.bx && Nat.beq (flatLen A x) sz
  | .ints _ _ => Nat.beq sz 1
  | .flts _ _ => Nat.beq sz 1
  | .big sh _ => Nat.beq sh.len sz
def appR (A : Ar) (h : AHeap) (a : Nat) (e : TypeId) (sz : Nat) (x y : AV) : Option (Bool × AV × AHeap) :=
  match contR A h y with
  | none => none
  | some (b, s) => match x with
    | .nils => match s with
      | .gen [] => some (A.and b (s.unit A sz), .nils, h)
      | s => some (A.and (A.and b (s.unit A sz)) (A.and (A.leN (s.len A) 4294967296) (A.ltN 0 (s.len A))), .row a (nxt h a), pushB h a (.row e sz s))
    | .row c i => match famZ c, blk h c i with
      | false, .row e' sz' r => some (A.and (A.and b (s.unit A sz)) (A.and (A.eqN e' e) (A.and (A.eqN sz' sz) (A.leN (A.addN (r.len A) (s.len A)) 4294967296))), .row a (nxt (setB h c i .dead) a), pushB (setB h c i .dead) a (.row e sz (r.app A s)))
      | _, _ => none
    | .slc c i 0 n none => match blk h c i with
      | .row e' sz' r => some (A.and (A.and b (s.unit A sz)) (A.and (A.eqN e' e) (A.and (A.eqN sz' sz) (A.leN (A.addN n (s.len A)) (r.len A)))), .slc c i 0 (A.addN n (s.len A)) none, setB h c i (.row e sz (r.blit A n s)))
      | _ => none
    | _ => none
def appzR (A : Ar) (h : AHeap) (a : Nat) (e : TypeId) (sz : Nat) (z x : AV) (n : Int) : Option (Bool × AV × AHeap) :=
  match x with
  | .nils => some (A.and (A.lt 0 n) (A.le n 4294967296), .row a (nxt h a), pushB h a (.row e sz (repR A (A.nat n) z)))
  | .row c i => match famZ c, blk h c i with
    | false, .row e' sz' r => some (A.and (A.le 0 n) (A.and (A.eqN e' e) (A.and (A.eqN sz' sz) (A.leN (A.addN (r.len A) (A.nat n)) 4294967296))), .row a (nxt (setB h c i .dead) a), pushB (setB h c i .dead) a (.row e sz (r.app A (repR A (A.nat n) z))))
    | _, _ => none
  | _ => none
def copyR (A : Ar) (h : AHeap) (sz : Nat) (x y : AV) : Option (Bool × AV × AHeap) :=
  match contR A h y with
  | none => none
  | some (b, s) => match x with
    | .row c i => match blk h c i with
      | .row e sz' r => some (A.and (A.and b (s.unit A sz)) (A.eqN sz' sz), .int .i64 (A.int (A.minN (s.len A) (r.len A))), setB h c i (.row e sz' (r.blit A 0 (s.sub A 0 (A.minN (s.len A) (r.len A))))))
      | _ => none
    | .slc c i k n _ => match blk h c i with
      | .row e sz' r => some (A.and (A.and b (s.unit A sz)) (A.and (A.eqN sz' sz) (A.leN (A.addN k n) (r.len A))), .int .i64 (A.int (A.minN (s.len A) n)), setB h c i (.row e sz' (r.blit A k (s.sub A 0 (A.minN (s.len A) n)))))
      | _ => none
    | .aslc c i k off n => match blk h c i with
      | .row e sz' r => match r.get A k with
        | .agg us => some (A.and (A.and b (s.unit A sz)) (A.and (A.ltN k (r.len A)) (A.and (A.eqN sz 1) (A.and s.sing (A.leN (A.addN off n) (us.len A))))), .int .i64 (A.int (A.minN (s.len A) n)), setB h c i (.row e sz' (r.set A k (.agg (us.blit A off (s.sub A 0 (A.minN (s.len A) n)))))))
        | _ => none
      | _ => none
    | _ => none
def zsh1 : Sh → AV → AV
  | .ints k, .nils => .list (.ints k [])
  | .big s, .nils => .list (.big s [])
  | _, v => v
def zshL : List Sh → List AV → List AV
  | s :: ss, x :: xs => zsh1 s x :: zshL ss xs
  | _, xs => xs
def zsh : Sh → AV → AV
  | .agg ss, .agg (.gen xs) => .agg (.gen (zshL ss xs))
  | .agg _, v => v
  | s, v => zsh1 s v
def clrZ (A : Ar) (n : Nat) (z : AV) : Row → Option Row
  | .big sh _ => (match conf sh (zsh sh z) with | true => some (.big sh (A.repA n (zsh sh z))) | false => none)
  | _ => some (repR A n z)
def clrR (A : Ar) (h : AHeap) (sz : Nat) (z x : AV) : Option (Bool × AV × AHeap) :=
  match x with
  | .slc c i k n _ => match blk h c i with
    | .row e sz' r => (match clrZ A n z r with
      | some s => some (A.and (A.eqN sz' sz) (A.leN (A.addN k n) (r.len A)), .tup [], setB h c i (.row e sz' (r.blit A k s)))
      | none => none)
    | _ => none
  | _ => none
def s2aR (A : Ar) (h : AHeap) (n : Nat) : AV → Out
  | .list r => some (A.and (A.leN n (r.len A)) r.sing, .eptr (.agg (normR (r.part A 0 n))) 0)
  | .row a i => match blk h a i with | .row _ sz r => some (A.and (A.eqN sz 1) (A.leN n (r.len A)), .ptr a i 0 0) | _ => none
  | .slc a i k m _ => match blk h a i with | .row _ sz _ => some (A.and (A.eqN sz 1) (A.leN n m), .ptr a i k 0) | _ => none
  | .aslc a i k off m => some (A.leN n m, .ptr a i k off)
  | _ => none
def fillR (A : Ar) (ρ : Opd → AV) : Row → List (Nat × Nat × Opd) → Bool × Row
  | r, [] => (true, r)
  | r, (o, n, x) :: ps => match fillR A ρ (match ρ x with | .agg xs => r.blit A o xs | v => r.set A o v) ps with
    | (b, r') => (A.and (A.and (ρ x).bx (A.eqN (flatLen A (ρ x)) n)) (A.and (A.leN (A.addN o n) (r.len A)) (A.and (A.ltN 0 n) b)), r')
def eqB (A : Ar) (ne a b : Bool) : Bool := match ne with | true => A.not (a == b) | false => a == b
def mmI (A : Ar) (mx : Bool) (a b : Int) : Int := match mx with | true => A.max a b | false => A.min a b
def mmF (A : Ar) (k : FloatKind) (a b : Nat) : Nat := match A.ford k a b with | some .lt => b | some .gt => a | _ => match A.fneg k a with | true => b | false => a
def lift (h : AHeap) : Out → Option (Bool × AV × AHeap)
  | some (b, v) => some (b, v, h)
  | none => none
def lfOk : Lf → AV → Bool
  | .i, .int _ _ => true
  | .b, .bool _ => true
  | .s, .str _ => true
  | _, _ => false
def eqC (A : Ar) : AV → AV → Option Bool
  | .int k a, .int k' b => match decide (k = k') with | true => some (A.eq a b) | false => none
  | .bool a, .bool b => some (a == b)
  | .str a, .str b => some (A.eqS a b)
  | _, _ => none
def eqCs (A : Ar) : List Lf → List AV → List AV → Option Bool
  | [], [], [] => some true
  | l :: ls, x :: xs, y :: ys => match lfOk l x with
    | true => (match eqC A x y, ls with
      | some a, [] => (match xs, ys with | [], [] => some a | _, _ => none)
      | some a, ls => (match eqCs A ls xs ys with | some b => some (A.and a b) | none => none)
      | none, _ => none)
    | false => none
  | _, _, _ => none
def cellsN (A : Ar) (n : Nat) : Row → Bool × List AV
  | .gen xs => (true, xs)
  | r => (A.eqN (r.len A) n, (List.range n).map fun j => r.get A j)
def aeqR (A : Ar) (ne : Bool) (ls : List Lf) : AV → AV → Out
  | .agg r, .agg s => match eqCs A ls (cellsN A ls.length r).2 (cellsN A ls.length s).2 with
    | some b => some (A.and (cellsN A ls.length r).1 (cellsN A ls.length s).1, .bool (match ne with | true => A.not b | false => b))
    | none => none
  | _, _ => none
def intVs : List AV → Option (List Value)
  | [] => some []
  | .int k n :: r => match intVs r with | some l => some (.int k n :: l) | none => none
  | _ :: _ => none
def valOf : AV → Option Value
  | .int k n => some (.int k n)
  | .agg (.gen xs) => match intVs xs with | some l => some (.agg ⟨l⟩) | none => none
  | .agg (.ints k l) => some (.agg ⟨l.map (Value.int k)⟩)
  | _ => none
def avInts : List Value → Option (List AV)
  | [] => some []
  | .int k n :: r => match avInts r with | some l => some (.int k n :: l) | none => none
  | _ :: _ => none
def avOf : Value → Option AV
  | .int k n => some (.int k n)
  | .agg ⟨l⟩ => match avInts l with | some l => some (.agg (.gen l)) | none => none
  | _ => none
def fnOf (v : AV) (args : List AV) : Option (FuncId × List AV) := match v with
  | .fn f caps => some (f, args ++ caps)
  | .val (.func (.func f) ⟨[b]⟩ ⟨[]⟩) => match avOf b with | some u => some (f, u :: args) | none => none
  | _ => none
def opRun (A : Ar) (ρ : Opd → AV) (h : AHeap) : OpK → Option (Bool × AV × AHeap)
  | .mov x => some (true, ρ x, h)
  | .pick c x y => match ρ c with | .bool b => (match b with | true => some (true, ρ x, h) | false => some (true, ρ y, h)) | _ => none
  | .bin op x y => lift h (binR A op (ρ x) (ρ y))
  | .binw op x y => lift h (binwR A op (ρ x) (ρ y))
  | .beq ne x y => match ρ x, ρ y with | .bool a, .bool b => some (true, .bool (eqB A ne a b), h) | _, _ => none
  | .isnil ne x => match ρ x with
    | .nils => some (true, .bool (!ne), h)
    | .list r => some (A.ltN 0 (r.len A), .bool ne, h)
    | .row .. => some (true, .bool ne, h)
    | .slc .. => some (true, .bool ne, h)
    | .aslc .. => some (true, .bool ne, h)
    | .val v => (match v with | .slice ad _ _ => (match ad with | some _ => some (true, .bool ne, h) | none => some (true, .bool (!ne), h)) | _ => none)
    | _ => none
  | .aeq ne ls x y => lift h (aeqR A ne ls (ρ x) (ρ y))
  | .idxa ln sz x i => match ρ x, ρ i with | .agg r, .int _ n => some (A.and (A.and (A.le 0 n) (A.lt n (A.int ln))) (A.leN (A.addN (scale A sz n) sz) (r.len A)), .agg (r.toInts.sub A (scale A sz n) sz), h) | _, _ => none
  | .mkmth f x => match valOf (ρ x) with | some v => some (true, .val (.func (.func f) ⟨[v]⟩ ⟨[]⟩), h) | none => none
  | .capl x => match ρ x with | .nils => some (true, .int .i64 0, h) | _ => none
  | .not x => match ρ x with | .bool b => some (true, .bool (A.not b), h) | _ => none
  | .neg x => match ρ x with | .int k n => some (A.inR k (A.neg n), .int k (A.neg n), h) | _ => none
  | .conv k x => match ρ x with | .int _ n => some (A.inR k n, .int k n, h) | _ => none
  | .i2f k x => match ρ x with | .int _ n => some (true, .flt k (A.i2f k n), h) | _ => none
  | .f2i k x => match ρ x with | .flt q b => some (A.and (A.f2i q b).isSome (A.inR k ((A.f2i q b).getD 0)), .int k ((A.f2i q b).getD 0), h) | _ => none
  | .len x => match contR A h (ρ x) with | some (b, r) => some (b, .int .i64 (A.int (r.len A)), h) | none => none
  | .slen x => match ρ x with | .str l => some (true, .int .i64 (A.int (A.lenS l)), h) | _ => none
  | .mm mx x y => match ρ x, ρ y with
    | .int k a, .int k' b => match decide (k = k') with | true => some (true, .int k (mmI A mx a b), h) | false => none
    | .flt k a, .flt k' b => match decide (k = k'), mx with
      | true, true => some ((A.ford k a b).isSome, .flt k (mmF A k a b), h)
      | _, _ => none
    | _, _ => none
  | .box a e x => some (A.and (ρ x).bx (A.ltN 0 (flatLen A (ρ x))), .ptr a (nxt h a) 0 0, pushB h a (.row e (flatLen A (ρ x)) (.gen [ρ x])))
  | .alloc a e z => some (A.and z.bx (A.ltN 0 (flatLen A z)), .ptr a (nxt h a) 0 0, pushB h a (.row e (flatLen std z) (.gen [z])))
  | .load ag n p => lift h (loadR A h ag n (ρ p))
  | .store n p x => storeR A h n (ρ p) (ρ x)
  | .faddr off p => lift h (faddrR A off (ρ p))
  | .iaddr sz x i => lift h (iaddrR A h sz (ρ x) (ρ i))
  | .aaddr ln sz p i => lift h (aaddrO A ρ ln sz p i)
  | .idx ln x i => match ρ x, ρ i with | .agg r, .int _ n => some (A.and (A.and (A.le 0 n) (A.lt n (A.int ln))) (A.ltN (A.nat n) (r.len A)), r.get A (A.nat n), h) | _, _ => none
  | .sidx x i => match ρ x, ρ i with | .str l, .int _ n => some (A.and (A.le 0 n) (A.ltN (A.nat n) (A.lenS l)), .int .u8 (A.nthS l (A.nat n)), h) | _, _ => none
  | .fld ag off n x => match ρ x with | .agg r => lift h (cutE A ag n off (.agg r)) | _ => none
  | .build z parts => match fillR A ρ z parts with | (b, r) => some (b, .agg r, h)
  | .bslice a e sz parts => some (Row.fits A sz (.gen (parts.map ρ)), .row a (nxt h a), pushB h a (.row e sz (normG (parts.map ρ))))
  | .mkslice a e sz z ln => match ρ ln with
    | .int _ n => some (A.and (A.le 0 n) (A.le n 4294967296), .row a (nxt h a), pushB h a (.row e sz (repR A (A.nat n) z)))
    | _ => none
  | .mklst a _ _ z ln => match ρ ln with
    | .int _ n => match (repR A (A.nat n) z).pure with
      | true => some (A.and (A.le 0 n) (A.le n 4294967296), .list (repR A (A.nat n) z), pushB h a .dead)
      | false => none
    | _ => none
  | .slc sz x lo hi mx => lift h (slcR A ρ h sz (ρ x) lo hi mx)
  | .asl ln p lo hi => lift h (aslR A ρ ln (ρ p) lo hi)
  | .sslc x lo hi => lift h (sslcR A ρ (ρ x) lo hi)
  | .append a e sz x y => appR A h a e sz (ρ x) (ρ y)
  | .appz a e sz z x ln => match ρ ln with
    | .int _ n => appzR A h a e sz z (ρ x) n
    | _ => none
  | .copy sz x y => copyR A h sz (ρ x) (ρ y)
  | .clr _ sz z x => clrR A h sz z (ρ x)
  | .s2a n x => lift h (s2aR A h n (ρ x))
  | .nilck x => match ρ x with | .ptr a i k o => some (true, .ptr a i k o, h) | .eptr u o => some (true, .eptr u o, h) | _ => none
  | .ext i x => match ρ x with | .tup xs => (match xs[i]? with | some v => some (true, v, h) | none => none) | _ => none
  | .mkfn f caps => some (true, .fn f (caps.map ρ), h)
  | .ncall .. => none
  | .ncallv .. => none
  | .icall .. => none
  | .icallv .. => none
def opdV (env : Nat → Option AV) : Opd → AV
  | .t n => (env n).getD .top
  | .c av => av
theorem opRun_congr {A : Ar} {ρ ρ' : Opd → AV} {h : AHeap} {k : OpK} (hl : ∀ x ∈ k.looks, ρ x = ρ' x) : opRun A ρ h k = opRun A ρ' h k := by
  have hn : ∀ (o : Option Opd) (d : Nat), (∀ x ∈ optL o, ρ x = ρ' x) → natOf A ρ d o = natOf A ρ' d o := fun o d ho => by
    cases o with
    | none => rfl
    | some x => simp only [natOf]; rw [ho x (by simp [optL])]
  have hs : ∀ (ps : List (Nat × Nat × Opd)) (r : Row), (∀ x ∈ ps.map (·.2.2), ρ x = ρ' x) → fillR A ρ r ps = fillR A ρ' r ps := fun ps => by
    induction ps with
    | nil => intro r _; rfl
    | cons p ps ih =>
      intro r hp
      obtain ⟨o, n, x⟩ := p
      have hx : ρ x = ρ' x := hp x (by simp)
      simp only [fillR, hx]
      rw [ih _ (fun y hy => hp y (by simp at hy ⊢; exact .inr hy))]
  have hm : ∀ xs : List Opd, (∀ x ∈ xs, ρ x = ρ' x) → xs.map ρ = xs.map ρ' := fun xs hx => List.map_congr_left hx
  cases k with
  | build z ps => simp only [opRun]; rw [hs ps z hl]
  | bslice a e sz ps => simp only [opRun]; rw [hm ps hl]
  | mkfn f caps => simp only [opRun]; rw [hm caps hl]
  | slc sz x lo hi mx =>
    have hx : ρ x = ρ' x := hl x (by simp [OpK.looks])
    have h1 : ∀ y ∈ optL lo, ρ y = ρ' y := fun y hy => hl y (by simp [OpK.looks, hy])
    have h2 : ∀ y ∈ optL hi, ρ y = ρ' y := fun y hy => hl y (by simp [OpK.looks, hy])
    have h3 : ∀ y, mx = some y → ρ y = ρ' y := fun y hy => hl y (by simp [OpK.looks, optL, hy])
    simp only [opRun, hx]
    congr 1
    unfold slcR
    rw [hn lo 0 h1]
    have hg : ∀ b1 l n f, goR A ρ hi b1 l n f = goR A ρ' hi b1 l n f := fun b1 l n f => by unfold goR; rw [hn hi n h2]
    have hc : ∀ l n m c, capR A ρ mx l n m c = capR A ρ' mx l n m c := fun l n m c => by
      unfold capR
      cases mx with
      | none => rfl
      | some y => simp only [h3 y rfl]
    have hk : ∀ b1 l x, slcK A ρ h sz lo hi mx b1 l x = slcK A ρ' h sz lo hi mx b1 l x := fun b1 l x => by cases x <;> simp only [slcK, hg, hc]
    simp only [hk]
  | asl ln x lo hi =>
    have hx : ρ x = ρ' x := hl x (by simp [OpK.looks])
    have h1 : ∀ y ∈ optL lo, ρ y = ρ' y := fun y hy => hl y (by simp [OpK.looks, hy])
    have h2 : ∀ y ∈ optL hi, ρ y = ρ' y := fun y hy => hl y (by simp [OpK.looks, hy])
    simp only [opRun, hx, aslR, hn lo 0 h1, hn hi ln h2]
  | sslc x lo hi =>
    have hx : ρ x = ρ' x := hl x (by simp [OpK.looks])
    have h1 : ∀ y ∈ optL lo, ρ y = ρ' y := fun y hy => hl y (by simp [OpK.looks, hy])
    have h2 : ∀ y ∈ optL hi, ρ y = ρ' y := fun y hy => hl y (by simp [OpK.looks, hy])
    simp only [opRun, hx, sslcR, hn lo 0 h1, fun n => hn hi n h2]
  | aaddr ln sz x y =>
    have hx : ρ x = ρ' x := hl x (by simp [OpK.looks])
    have hy : ρ y = ρ' y := hl y (by simp [OpK.looks])
    simp only [opRun, aaddrO, hx, hy]
  | ncall | ncallv | icall | icallv => rfl
  | alloc a e z => rfl
  | _ => simp only [OpK.looks, List.mem_cons, List.not_mem_nil, or_false, forall_eq_or_imp, forall_eq] at hl; simp only [opRun, hl]
theorem opRun_neutral {A : Ar} {ρ : Opd → AV} {h h' : AHeap} {k : OpK} {b : Bool} {v : AV} (hn : k.neutral = true) (hr : opRun A ρ h k = some (b, v, h')) : h' = h := by
  have hlift : ∀ {o : Out}, lift h o = some (b, v, h') → h' = h := fun {o} e => by
    cases o with
    | none => cases e
    | some p => obtain ⟨b', v'⟩ := p; simp only [lift, Option.some.injEq, Prod.mk.injEq] at e; exact e.2.2.symm
  cases k <;> first
    | (simp [OpK.neutral] at hn; done)
    | (simp only [opRun] at hr; exact hlift hr)
    | (simp only [opRun] at hr; (repeat' split at hr) <;> first | cases hr; done | exact hlift hr | (simp only [Option.some.injEq, Prod.mk.injEq] at hr; exact hr.2.2.symm))
    | (simp [opRun] at hr; done)
def refs1 : AV → List (Nat × Nat)
  | .row a i => [(a, i)]
  | .ptr a i _ _ => [(a, i)]
  | .slc a i _ _ _ => [(a, i)]
  | .aslc a i _ _ _ => [(a, i)]
  | .yld a i => [(a, i)]
  | _ => []
def refsA : AV → List (Nat × Nat)
  | .agg r => match r with | .gen xs => xs.flatMap refs1 | _ => []
  | v => refs1 v
def refs : AV → List (Nat × Nat)
  | .fn _ xs => xs.flatMap refsA
  | v => refsA v
section
variable {A : Ar} {ρ : Opd → AV} {h h2 : AHeap}
def Agree (h h2 : AHeap) (l : List (Nat × Nat)) : Prop := ∀ p ∈ l, blk h2 p.1 p.2 = blk h p.1 p.2
theorem contR_agree {x : AV} (ha : Agree h h2 (refs x)) : contR A h2 x = contR A h x := by
  cases x with
  | row a i => simp only [contR, ha (a, i) (by simp [refs, refsA, refs1])]
  | slc a i k n c => simp only [contR, ha (a, i) (by simp [refs, refsA, refs1])]
  | aslc a i k o n => simp only [contR, ha (a, i) (by simp [refs, refsA, refs1])]
  | _ => rfl
theorem loadR_agree {x : AV} {ag : Bool} {n : Nat} (ha : Agree h h2 (refs x)) : loadR A h2 ag n x = loadR A h ag n x := by
  cases x with
  | ptr a i k o => simp only [loadR, ha (a, i) (by simp [refs, refsA, refs1])]
  | _ => rfl
theorem iaddrR_agree {x i : AV} {sz : Nat} (ha : Agree h h2 (refs x)) : iaddrR A h2 sz x i = iaddrR A h sz x i := by
  cases i with
  | int k n =>
    cases x with
    | row a i => simp only [iaddrR, ha (a, i) (by simp [refs, refsA, refs1])]
    | slc a i k n c => simp only [iaddrR, ha (a, i) (by simp [refs, refsA, refs1])]
    | aslc a i k o n => simp only [iaddrR, ha (a, i) (by simp [refs, refsA, refs1])]
    | _ => rfl
  | _ => rfl
theorem slcR_agree {x : AV} {sz : Nat} {lo hi mx : Option Opd} (ha : Agree h h2 (refs x)) : slcR A ρ h2 sz x lo hi mx = slcR A ρ h sz x lo hi mx := by
  unfold slcR
  have : ∀ b l, slcK A ρ h2 sz lo hi mx b l x = slcK A ρ h sz lo hi mx b l x := fun b l => by
    cases x with
    | row a i => simp only [slcK, ha (a, i) (by simp [refs, refsA, refs1])]
    | slc a i k n c => simp only [slcK, ha (a, i) (by simp [refs, refsA, refs1])]
    | _ => rfl
  split <;> simp only [this]
theorem s2aR_agree {x : AV} {n : Nat} (ha : Agree h h2 (refs x)) : s2aR A h2 n x = s2aR A h n x := by
  cases x with
  | row a i => simp only [s2aR, ha (a, i) (by simp [refs, refsA, refs1])]
  | slc a i k n c => simp only [s2aR, ha (a, i) (by simp [refs, refsA, refs1])]
  | _ => rfl
theorem lift_agree {o : Out} {b : Bool} {v : AV} (e : lift h o = some (b, v, h)) : lift h2 o = some (b, v, h2) := by
  cases o with
  | none => cases e
  | some p => obtain ⟨b', v'⟩ := p; simp only [lift, Option.some.injEq, Prod.mk.injEq] at e ⊢; exact ⟨e.1, e.2.1, trivial⟩
def OpK.reads : OpK → Bool
  | .load .. => true
  | .iaddr .. => true
  | .slc .. => true
  | .s2a .. => true
  | .len .. => true
  | _ => false
theorem opRun_agree {k : OpK} {b : Bool} {v : AV} (hn : k.neutral = true) (ha : k.reads = true → ∀ x ∈ k.looks, Agree h h2 (refs (ρ x))) (hr : opRun A ρ h k = some (b, v, h)) : opRun A ρ h2 k = some (b, v, h2) := by
  cases k with
  | load ag n p => simp only [opRun] at hr ⊢; rw [loadR_agree (ha rfl p (by simp [OpK.looks]))]; exact lift_agree hr
  | iaddr sz x i => simp only [opRun] at hr ⊢; rw [iaddrR_agree (ha rfl x (by simp [OpK.looks]))]; exact lift_agree hr
  | slc sz x lo hi mx => simp only [opRun] at hr ⊢; rw [slcR_agree (ha rfl x (by simp [OpK.looks]))]; exact lift_agree hr
  | s2a n x => simp only [opRun] at hr ⊢; rw [s2aR_agree (ha rfl x (by simp [OpK.looks]))]; exact lift_agree hr
  | len x =>
    simp only [opRun] at hr ⊢
    rw [contR_agree (ha rfl x (by simp [OpK.looks]))]
    split at hr
    · simp only [Option.some.injEq, Prod.mk.injEq] at hr ⊢; exact ⟨hr.1, hr.2.1, trivial⟩
    · cases hr
  | _ => first
    | (simp [OpK.neutral] at hn; done)
    | (simp only [opRun] at hr ⊢; exact lift_agree hr)
    | (simp only [opRun] at hr ⊢; (repeat' split at hr) <;> first | cases hr; done | exact lift_agree hr | (simp only [Option.some.injEq, Prod.mk.injEq] at hr ⊢; exact ⟨hr.1, hr.2.1, trivial⟩))
    | (simp [opRun] at hr; done)
end
end Go.Proofs.Ytjhdnpmojhkbjaa
