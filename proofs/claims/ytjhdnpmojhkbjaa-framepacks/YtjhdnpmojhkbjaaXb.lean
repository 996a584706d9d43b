/- Which code and memory of the machine stand for the model's; how memory's standing is kept. No condition. -/
import Derived.Test.YtjhdnpmojhkbjaaXa
import Derived.Maps.AppendAt
import Derived.WalkSpells
namespace Go.Proofs.Ytjhdnpmojhkbjaa
open Go.RowKit (Below)

def cmatch : AV → Value → Bool
  | .int k n, .int k' n' => decide (k = k') && decide (n = n')
  | .bool b, .bool b' => b == b'
  | .str s, .string bs => decide (bs.data.toList = s)
  | .flt k b, .float k' b' => decide (k = k') && decide (b = b')
  | .nils, .slice none 0 0 => true
  | .val .nilFunc, .nilFunc => true
  | .val .nilIface, .nilIface => true
  | .val (.pointer none), .pointer none => true
  | .val (.map none), .map none => true
  | _, _ => false
theorem cmatch_rel {w : World} {ok : Nat → Prop} {h : AHeap} {L : Lay} {av : AV} {v : Value} (hm : cmatch av v = true) : Rel w ok h L av v := by
  unfold cmatch at hm
  split at hm
  · simp at hm; obtain ⟨rfl, rfl⟩ := hm; exact .int _ _
  · simp at hm; subst hm; exact .bool _
  · rename_i s bs
    have hm := of_decide_eq_true hm
    subst hm
    exact .str _
  · simp at hm; obtain ⟨rfl, rfl⟩ := hm; exact .flt _ _
  · exact .nils
  · exact .val _
  · exact .val _
  · exact .val _
  · exact .val _
  · cases hm
theorem cmatch_pure {av : AV} {v : Value} (hm : cmatch av v = true) : av.pure = true := by
  unfold cmatch at hm; split at hm <;> first | rfl | cases hm
def zmatch : AV → Value → Bool
  | .agg r, .agg vs => r.elems.length == vs.size && (List.range r.elems.length).all fun j => match r.elems[j]?, vs[j]? with | some u, some v => cmatch u v && v.oneCell' | _, _ => false
  | x, v => cmatch x v
theorem zmatch_rel {w : World} {ok : Nat → Prop} {h : AHeap} {L : Lay} {z : AV} {v : Value} (hm : zmatch z v = true) : Rel w ok h L z v := by
  unfold zmatch at hm
  split at hm
  · rename_i r vs
    generalize hx : r.elems = xs at hm
    simp only [Bool.and_eq_true, beq_iff_eq, List.all_eq_true, List.mem_range] at hm
    obtain ⟨h1, h2⟩ := hm
    have key : ∀ j u v, xs[j]? = some u → vs[j]? = some v → cmatch u v = true ∧ v.oneCell' = true := fun j u v hu hv => by
      have := h2 j (List.getElem?_eq_some_iff.1 hu).1
      rw [hu, hv] at this
      simpa using this
    refine .agg r xs hx.symm vs h1 (fun v hv => ?_) (fun j u v hu hv => cmatch_rel (key j u v hu hv).1)
    obtain ⟨j, hj⟩ := Array.mem_iff_getElem?.1 hv
    have hlt : j < xs.length := by rw [h1]; exact (Array.getElem?_eq_some_iff.1 hj).1
    exact (key j _ v (List.getElem?_eq_getElem hlt) hj).2
  · exact cmatch_rel hm

def mopd : Opd → Operand → Bool
  | .t n, .tmp m => n == m
  | .c av, .const v => cmatch av v
  | .c (.fn f []), .func g => f == g
  | _, _ => false
def mopds : List Opd → List Operand → Bool
  | [], [] => true
  | x :: xs, y :: ys => mopd x y && mopds xs ys
  | _, _ => false
def mopt : Option Opd → Option Operand → Bool
  | none, none => true
  | some x, some y => mopd x y
  | _, _ => false
def isAggD : TypeDesc → Bool
  | .struct _ => true
  | .array _ _ => true
  | _ => false
/-- of a type: is it an aggregate, and of how many cells -/
def shapeB (P : Program) (t : TypeId) (ag : Bool) (n : Nat) : Bool :=
  match P.underlying t, P.info? t with
  | some d, some i => isAggD d == ag && i.size == n && (ag || n == 1)
  | _, _ => false
def sizeB (P : Program) (t : TypeId) (n : Nat) : Bool := match P.info? t with | some i => i.size == n | none => false
def sliceB (P : Program) (t e : TypeId) : Bool := match P.underlying t with | some (.slice e') => e' == e | _ => false
def arrayB (P : Program) (t : TypeId) (ln : Nat) (e : TypeId) : Bool := match P.underlying t with | some (.array n e') => n == ln && e' == e | _ => false
def stringB (P : Program) (t : TypeId) : Bool := match P.underlying t with | some .string => true | _ => false
def boolB (P : Program) (t : TypeId) : Bool := match P.underlying t with | some .bool => true | _ => false
def intB (P : Program) (t : TypeId) (k : IntKind) : Bool := match P.underlying t with | some (.int k') => k' == k | _ => false
def fltB (P : Program) (t : TypeId) (k : FloatKind) : Bool := match P.underlying t with | some (.float k') => k' == k | _ => false
def knownB (P : Program) (t : TypeId) : Bool := (P.underlying t).isSome
def fieldB (P : Program) (t : TypeId) (f : Nat) (off : Nat) : Option TypeId :=
  match P.underlying t with
  | some (.struct fs) => match fs[f]? with | some fd => if fd.offset == off then some fd.type else none | none => none
  | _ => none
def elemB (P : Program) (e : TypeId) (sz : Nat) (z : Option AV) : Bool :=
  match P.info? e with
  | some i => i.size == sz && i.bytes ≤ 32768 && (match i.zero with | some v => v.cells.size == sz && (match z with | some z => zmatch z v && z.flat.length == sz | none => true) | none => false)
  | none => false
def sliceElem (P : Program) (t : TypeId) : TypeId := match P.underlying t with | some (.slice e) => e | some (.array _ e) => e | _ => 0
def nilD : TypeDesc → Bool
  | .slice _ => true
  | _ => false
/-- where the parts of a type lie, and its zero value -/
def placesOf (P : Program) (t : TypeId) : Option (Value × (Nat → Option (Nat × Nat))) :=
  match P.info? t, P.underlying t with
  | some it, some (.array _ e) =>
    match it.zero, P.info? e with
    | some z, some ie => some (z, fun i => some (i * ie.size, ie.size))
    | _, _ => none
  | some it, some (.struct fields) =>
    match it.zero, fields.toList.mapM (fun f => (P.info? f.type).map fun i => (f.offset, i.size)) with
    | some z, some places => some (z, (places.toArray[·]?))
    | _, _ => none
  | _, _ => none
def mparts (place : Nat → Option (Nat × Nat)) : List (Nat × Nat × Opd) → List (Nat × Operand) → Bool
  | [], [] => true
  | (o, n, x) :: ps, (i, y) :: qs => place i == some (o, n) && mopd x y && mparts place ps qs
  | _, _ => false
def mlits : Nat → List Opd → List (Nat × Operand) → Bool
  | _, [], [] => true
  | k, x :: xs, (i, y) :: ys => i == k && mopd x y && mlits (k + 1) xs ys
  | _, _, _ => false
def calleeOk (P : Program) (f : FuncId) : Bool :=
  match P.funcs[f]? with
  | some fn => fn.name != "runtime.NumGoroutine" && fn.body.isSome
  | none => false
def parrayB (P : Program) (t : TypeId) (ln : Nat) : Bool :=
  match P.underlying t with
  | some (.pointer arr) => (match P.underlying arr with | some (.array n e) => n == ln && sizeB P e 1 && 0 < ln | _ => false)
  | _ => false

def barrayB (P : Program) (t : TypeId) (ln : Nat) : Bool :=
  match P.underlying t with
  | some (.array n e) => n == ln && sizeB P e 1 && 0 < ln
  | _ => false

def leavesFs (f : TypeId → Option (List Lf)) : Nat → List Field → Option (List Lf)
  | _, [] => some []
  | off, fd :: fds => match fd.name == "_", fd.offset == off with
    | false, true => (match f fd.type with
      | some l => (match leavesFs f (off + l.length) fds with | some r => some (l ++ r) | none => none)
      | none => none)
    | _, _ => none
def leavesT (P : Program) (f : TypeId → Option (List Lf)) (t : TypeId) : TypeDesc → Option (List Lf)
  | .int _ => some [.i]
  | .bool => some [.b]
  | .string => some [.s]
  | .struct fs => match P.stoodInHeld t with | true => none | false => leavesFs f 0 fs.toList
  | .array n e => match f e with | some l => some (List.replicate n l).flatten | none => none
  | _ => none
/-- the cells of a type of plain cells -/
def leavesB (P : Program) : Nat → TypeId → Option (List Lf)
  | 0, _ => none
  | d + 1, t => match P.underlying t, P.info? t with
    | some td, some i => (match leavesT P (leavesB P d) t td with
      | some ls => (match i.size == ls.length with | true => some ls | false => none)
      | none => none)
    | _, _ => none
def eqLf : List Lf → List Lf → Bool
  | [], [] => true
  | .i :: l, .i :: m => eqLf l m
  | .b :: l, .b :: m => eqLf l m
  | .s :: l, .s :: m => eqLf l m
  | _, _ => false
def aeqB (P : Program) (t : TypeId) (ls : List Lf) : Bool := !(P.eqGuardType P.depth t) && (match P.underlying t with | some td => isAggD td | none => false) && (match leavesB P 8 t with | some l => eqLf l ls | none => false)
def mop (P : Program) (o : Oper) : OpK → Bool
  | .mov x => match o.op with | .move y => mopd x y | .assign y => mopd x y | _ => false
  | .pick c x y => match o.op with | .pick c' x' y' => mopd c c' && mopd x x' && mopd y y' | _ => false
  | .bin op x y => match o.op with | .binOp op' _ x' y' _ => op == op' && mopd x x' && mopd y y' | _ => false
  | .binw op x y => match o.op with | .binOp op' _ x' y' _ => op == op' && mopd x x' && mopd y y' | _ => false
  | .beq ne x y => match o.op with | .binOp op' t x' y' _ => op' == (if ne then .neq else .eql) && boolB P t && mopd x x' && mopd y y' | _ => false
  | .isnil ne x => match o.op with | .binOp op' t x' (.const (.slice none 0 0)) _ => op' == (if ne then .neq else .eql) && sliceB P t (sliceElem P t) && mopd x x' | _ => false
  | .aeq ne ls x y => match o.op with | .binOp op' t x' y' _ => op' == (if ne then .neq else .eql) && aeqB P t ls && mopd x x' && mopd y y' | _ => false
  | .idxa ln sz x i => match o.op with | .index t x' i' => arrayB P t ln (sliceElem P t) && shapeB P (sliceElem P t) true sz && mopd x x' && mopd i i' | _ => false
  | .mkmth f x => match o.op with | .makeFunc (.func f') ⟨[x']⟩ ⟨[]⟩ => f == f' && mopd x x' | _ => false
  | .capl x => match o.op with | .call { callee := .builtin .cap, args := ⟨[x']⟩, argTypes := ⟨[t]⟩ } => sliceB P t (sliceElem P t) && mopd x x' | _ => false
  | .not x => match o.op with | .unOp .not _ x' => mopd x x' | _ => false
  | .neg x => match o.op with | .unOp .neg _ x' => mopd x x' | _ => false
  | .conv k x => match o.op with | .convert src dst x' => knownB P src && intB P dst k && mopd x x' | _ => false
  | .i2f k x => match o.op with | .convert src dst x' => knownB P src && fltB P dst k && mopd x x' | _ => false
  | .f2i k x => match o.op with | .convert src dst x' => knownB P src && intB P dst k && mopd x x' | _ => false
  | .len x => match o.op with | .call { callee := .builtin .len, args := ⟨[x']⟩, argTypes := ⟨[t]⟩ } => sliceB P t (sliceElem P t) && mopd x x' | _ => false
  | .slen x => match o.op with | .call { callee := .builtin .len, args := ⟨[x']⟩, argTypes := ⟨[t]⟩ } => stringB P t && mopd x x' | _ => false
  | .mm mx x y => match o.op with | .call { callee := .builtin b, args := ⟨[x', y']⟩, .. } => b == (if mx then .max else .min) && mopd x x' && mopd y y' | _ => false
  | .box _ e x => match o.op with | .box e' x' => e == e' && mopd x x' | _ => false
  | .alloc _ e z => match o.op with | .alloc e' => e == e' && (match P.info? e with | some i => (match i.zero with | some v => zmatch z v | none => false) | none => false) | _ => false
  | .load ag n p => match o.op with | .load t p' => shapeB P t ag n && mopd p p' | _ => false
  | .store n p x => match o.op with | .store t p' x' => o.dst.isNone && sizeB P t n && mopd p p' && mopd x x' | _ => false
  | .faddr off p => match o.op with | .fieldAddr t p' f => (match fieldB P t f off with | some ft => !sizeB P ft 0 && (P.info? ft).isSome | none => false) && mopd p p' | _ => false
  | .iaddr sz x i => match o.op with | .indexAddr t x' i' => sliceB P t (sliceElem P t) && sizeB P (sliceElem P t) sz && 0 < sz && mopd x x' && mopd i i' | _ => false
  | .aaddr ln sz p i => match o.op with | .indexAddr t p' i' => arrayB P t ln (sliceElem P t) && sizeB P (sliceElem P t) sz && mopd p p' && mopd i i' | _ => false
  | .idx ln x i => match o.op with | .index t x' i' => arrayB P t ln (sliceElem P t) && shapeB P (sliceElem P t) false 1 && mopd x x' && mopd i i' | _ => false
  | .sidx x i => match o.op with | .index t x' i' => stringB P t && mopd x x' && mopd i i' | _ => false
  | .fld ag off n x => match o.op with | .field t x' f => (match fieldB P t f off with | some ft => shapeB P ft ag n | none => false) && mopd x x' | _ => false
  | .build z parts => match o.op with | .build t parts' => (match placesOf P t with | some (zv, place) => zmatch (.agg z) zv && mparts place parts parts'.toList | none => false) | _ => false
  | .bslice _ e sz parts => match o.op with | .buildSlice t ln parts' => sliceB P t e && elemB P e sz none && mlits 0 parts parts'.toList && ln == parts.length && 0 < sz && parts.length * sz ≤ 65536 | _ => false
  | .mkslice _ e sz z ln => match o.op with | .makeSlice t l c => sliceB P t e && elemB P e sz (some z) && z.pure && z.bx && 0 < sz && mopd ln l && mopd ln c | _ => false
  | .mklst _ e sz z ln => match o.op with | .makeSlice t l c => sliceB P t e && elemB P e sz (some z) && z.pure && z.bx && 0 < sz && mopd ln l && mopd ln c | _ => false
  | .slc sz x lo hi mx => match o.op with | .slice t x' lo' hi' mx' => sliceB P t (sliceElem P t) && sizeB P (sliceElem P t) sz && 0 < sz && mopd x x' && mopt lo lo' && mopt hi hi' && mopt mx mx' && (mx.isNone || hi.isSome) | _ => false
  | .asl ln p lo hi => match o.op with | .slice t p' lo' hi' none => (parrayB P t ln || barrayB P t ln) && mopd p p' && mopt lo lo' && mopt hi hi' | _ => false
  | .sslc x lo hi => match o.op with | .slice t x' lo' hi' none => stringB P t && mopd x x' && mopt lo lo' && mopt hi hi' | _ => false
  | .append _ e sz x y => match o.op with | .call { callee := .builtin .append, args := ⟨[x', y']⟩, argTypes := ⟨[t, t']⟩ } => t == t' && sliceB P t e && elemB P e sz none && 0 < sz && mopd x x' && mopd y y' | _ => false
  | .appz _ e sz z x ln => match o.op with | .call { callee := .builtin .append, args := ⟨[x', l']⟩, argTypes := ⟨[t, t']⟩ } => sliceB P t e && (match P.underlying t' with | some (.int _) => true | _ => false) && elemB P e sz (some z) && z.pure && z.bx && 0 < sz && mopd x x' && mopd ln l' | _ => false
  | .copy sz x y => match o.op with | .call { callee := .builtin .copy, args := ⟨[x', y']⟩, argTypes := ⟨[t, t']⟩ } => t == t' && sliceB P t (sliceElem P t) && sizeB P (sliceElem P t) sz && 0 < sz && mopd x x' && mopd y y' | _ => false
  | .s2a n x => match o.op with | .sliceToArrayPointer t x' => (match P.underlying t with | some (.array m e) => m == n && sizeB P e 1 && 0 < n | _ => false) && mopd x x' | _ => false
  | .nilck x => match o.op with | .nilCheck x' => mopd x x' | _ => false
  | .ext i x => match o.op with | .extract x' i' => i == i' && mopd x x' | _ => false
  | .mkfn f caps => match o.op with | .makeFunc (.func f') ⟨[]⟩ caps' => f == f' && mopds caps caps'.toList | _ => false
  | .ncall _ _ f args => match o.op with | .call { callee := .value (.func f'), args := args', .. } => f == f' && mopds args args'.toList && calleeOk P f | _ => false
  | .ncallv _ _ x args => match o.op with | .call { callee := .value x', args := args', .. } => mopd x x' && mopds args args'.toList | _ => false
  | .icall f args => match o.op with | .call { callee := .value (.func f'), args := args', .. } => f == f' && mopds args args'.toList && calleeOk P f | _ => false
  | .icallv x args => match o.op with | .call { callee := .value x', args := args', .. } => mopd x x' && mopds args args'.toList | _ => false

def noDefer : Op → Bool
  | .defer _ => false
  | _ => true
/-- does the abstract operation stand for the model's -/
def maop (P : Program) (N : Nat) (ops : List Oper) (o : Oper) (ao : AOp) : Bool :=
  noDefer o.op && (o.dst == ao.d) && (match ao.d with | some d => Nat.blt d N | none => true) &&
  (match o.guard, ao.g with
    | none, none => true
    | some (j, want), some (t, want') => want == want' && (match ops[j]? with | some oj => oj.dst == some t | none => false)
    | _, _ => false) &&
  mop P o ao.k
def maops (P : Program) (N : Nat) (ops : List Oper) : List Oper → List AOp → Bool
  | [], [] => true
  | o :: os, ao :: aos => maop P N ops o ao && maops P N ops os aos
  | _, _ => false

def optL : Option Opd → List Opd
  | some x => [x]
  | none => []
/-- turns no memory, enters no frame -/
def OpK.neutral : OpK → Bool
  | .box .. => false
  | .alloc .. => false
  | .store .. => false
  | .bslice .. => false
  | .mkslice .. => false
  | .mklst .. => false
  | .append .. => false
  | .appz .. => false
  | .copy .. => false
  | .ncall _ a .. => Nat.beq a 0
  | .ncallv _ a .. => Nat.beq a 0
  | .icall .. => false
  | .icallv .. => false
  | _ => true
def OpK.inl : OpK → Bool
  | .icall .. => true
  | .icallv .. => true
  | _ => false
def OpK.looks : OpK → List Opd
  | .mov x | .not x | .neg x | .conv _ x | .i2f _ x | .f2i _ x | .len x | .slen x | .box _ _ x | .load _ _ x | .faddr _ x | .fld _ _ _ x | .ext _ x | .mkslice _ _ _ _ x | .mklst _ _ _ _ x | .isnil _ x | .s2a _ x | .nilck x | .capl x | .mkmth _ x => [x]
  | .pick c x y => [c, x, y]
  | .bin _ x y | .binw _ x y | .beq _ x y | .mm _ x y | .store _ x y | .iaddr _ x y | .aaddr _ _ x y | .idx _ x y | .sidx x y | .append _ _ _ x y | .appz _ _ _ _ x y | .copy _ x y | .aeq _ _ x y | .idxa _ _ x y => [x, y]
  | .alloc .. => []
  | .build _ parts => parts.map (·.2.2)
  | .bslice _ _ _ parts => parts
  | .sslc x lo hi | .asl _ x lo hi => x :: optL lo ++ optL hi
  | .slc _ x lo hi mx => x :: optL lo ++ optL hi ++ optL mx
  | .mkfn _ caps => caps
  | .ncall _ _ _ args | .icall _ args => args
  | .ncallv _ _ x args | .icallv x args => x :: args
def AOp.tmps (o : AOp) : List Nat := (o.k.looks.filterMap fun | .t n => some n | .c _ => none) ++ (match o.g with | some (t, _) => [t] | none => [])
def AOp.apart (x y : AOp) : Bool :=
  (match x.d with | some d => !y.tmps.contains d && y.d != some d | none => true) &&
  (match y.d with | some d => !x.tmps.contains d | none => true)
/-- makes a new block out of what it is given, and looks at no memory -/
def OpK.mkr : OpK → Option Nat
  | .alloc a _ _ => some a
  | .bslice a _ _ _ => some a
  | .mkslice a _ _ _ _ => some a
  | .mklst a _ _ _ _ => some a
  | _ => none
/-- leaves memory as it is but for one new block at most -/
def OpK.thr : OpK → Option Nat
  | .alloc a _ _ => some a
  | .bslice a _ _ _ => some a
  | .mkslice a _ _ _ _ => some a
  | .mklst a _ _ _ _ => some a
  | .ncall _ a _ _ => some a
  | .ncallv _ a _ _ => some a
  | _ => none
def AOp.frees (x z : AOp) : Bool := match x.k.thr, z.k.mkr with
  | some c, some a => !Nat.beq c a && z.g.isNone
  | _, _ => false
/-- for each operation, those that it waits for -/
def closW : List Oper → List (List Nat) → List (List Nat)
  | [], acc => acc
  | o :: os, acc => closW os (acc ++ [let es := (o.after.toList.filter fun e => Region.binds .any e).map (·.on); (es ++ es.flatMap fun e => acc.getD e []).eraseDups])
def pairsOk (fr : List (Nat × Nat)) (aos : List AOp) (cl : List (List Nat)) : Nat → List AOp → Bool
  | _, [] => true
  | i, o :: os => ((List.range os.length).all fun d => (cl.getD (i + 1 + d) []).contains i || (match aos[i + 1 + d]? with | some oj => o.apart oj && ((o.k.neutral && oj.k.neutral) || ((o.k.neutral || oj.k.neutral || o.frees oj) && fr.contains (i, i + 1 + d))) | none => false)) && pairsOk fr aos cl (i + 1) os
def linOK : Nat → List Oper → Bool
  | _, [] => true
  | k, o :: os => (o.after.all fun e => !Region.binds .any e || Nat.blt e.on k) && linOK (k + 1) os
def drawOK (fr : List (Nat × Nat)) (ops : List Oper) (aos : List AOp) : Bool := linOK 0 ops && pairsOk fr aos (closW ops []) 0 aos && aos.all fun o => !o.k.inl

def mnats : List Nat → List Nat → Bool
  | [], [] => true
  | x :: xs, y :: ys => Nat.beq x y && mnats xs ys
  | _, _ => false
def mcode (P : Program) (N : Nat) : ACode → Code → Bool
  | .skip, .skip => true
  | .reg d aos, .region _ ops draw => draw == d.isSome && maops P N ops.toList ops.toList aos && (match d with | none => true | some fr => drawOK fr ops.toList aos)
  | .seq a b, .seq x y => mcode P N a x && mcode P N b y
  | .cond c' a b, .cond c x y => mopd c' c && mcode P N a x && mcode P N b y
  | .block id' a, .block id x => id == id' && mcode P N a x
  | .loop a, .loop x => mcode P N a x
  | .rf _ f' ps' a b, .rangeFunc f ps x y => mopd f' f && mnats ps' ps.toList && ps'.all (Nat.blt · N) && mcode P N a x && mcode P N b y
  | .exit j, .exit i => i == j
  | .ret, .ret => true
  | .junk, _ => true
  | .gh _ a, c => mcode P N a c
  | _, _ => false

structure Ctx where
  P : Program
  w0 : World
  okA : Nat → Prop
  cs0 : List Frame
def Ctx.base (C : Ctx) : Nat := C.w0.heap.size
def okOf (C : Ctx) (h : AHeap) (L : Lay) (g : Nat) : Prop := (g < C.base ∧ C.okA g) ∨ (C.base ≤ g ∧ ∀ a i, (blk h a i).tag ≠ none → L.loc a i ≠ g)
abbrev RelC (C : Ctx) (h : AHeap) (L : Lay) (w : World) : AV → Value → Prop := Rel w (okOf C h L) h L
def EnvRel (C : Ctx) (h : AHeap) (L : Lay) (w : World) (env : List (Nat × AV)) (tmps : Array Value) : Prop :=
  ∀ t av, aget env t = some av → RelC C h L w av (tmps.getD t undef)

def JRel (P : Program) (N : Nat) : RSt → LoopState → Option Code → Prop
  | .ready, st, p => st = .ready ∧ p = none
  | .busy, st, _ => st = .busy
  | .done j, st, p => st = .done ∧ ∃ c, p = some c ∧ mcode P N j c = true

def BRel (C : Ctx) (h : AHeap) (L : Lay) (w : World) (g n : Nat) : Blk → Prop
  | .row e sz r => 0 < sz ∧ n ≤ maxLen ∧ r.elems.length ≤ n ∧ (∀ x ∈ r.elems, x.flat.length = sz) ∧ ∃ cur : Array Value, w.heap[g]? = some (.cells cur e (0, 0)) ∧ cur.size = n * sz ∧
      RelL w (okOf C h L) h L (flatAll r.elems) (cur.toList.take (r.elems.length * sz)) ∧ ∀ c ∈ cur.toList.take (r.elems.length * sz), c.oneCell' = true
  | .lp l => ∃ r : Loop, w.heap[g]? = some (.loop r) ∧ JRel C.P l.N l.st r.state r.pending ∧ r.fn = l.fn ∧ r.tmps.size = l.N ∧ EnvRel C h L w l.env r.tmps ∧ r.params.toList = l.params ∧ (∀ p ∈ l.params, p < l.N) ∧
      mcode C.P l.N l.asg r.assign = true ∧ mcode C.P l.N l.body r.body = true
  | .dfr => w.heap[g]? = some (.deferred (some []))
  | .dead => True

structure HRel (C : Ctx) (h : AHeap) (L : Lay) (w : World) : Prop where
  below : Below C.base C.w0 w
  live : ∀ a i, (blk h a i).tag ≠ none → C.base ≤ L.loc a i ∧ L.loc a i < w.heap.size
  blks : ∀ a i, BRel C h L w (L.loc a i) (L.size a i) (blk h a i)
  inj : ∀ a i b j, (blk h a i).tag ≠ none → (blk h b j).tag ≠ none → L.loc a i = L.loc b j → a = b ∧ i = j

section
variable {C : Ctx} {h h' : AHeap} {L L' : Lay} {w w' : World}
theorem EnvRel.step {env : List (Nat × AV)} {tmps : Array Value} (s : Step w (okOf C h L) h L w' (okOf C h' L') h' L') (he : EnvRel C h L w env tmps) : EnvRel C h' L' w' env tmps :=
  fun t av ht => (he t av ht).step s
theorem tag_dead {b : Blk} (hb : b.tag = none) : b = .dead := by cases b <;> first | rfl | cases hb
theorem HRel.hbase (H : HRel C h L w) : C.base ≤ w.heap.size := H.below.size

/-- a block that is kept -/
theorem BRel.step (s : Step w (okOf C h L) h L w' (okOf C h' L') h' L') {g n : Nat} {b : Blk} (hw : w'.heap[g]? = w.heap[g]?)
    (hb : BRel C h L w g n b) : BRel C h' L' w' g n b := by
  cases b with
  | row e sz r =>
    obtain ⟨h0, h1, h2, h3, cur, h4, h5, h6, h7⟩ := hb
    exact ⟨h0, h1, h2, h3, cur, hw.trans h4, h5, h6.step s, h7⟩
  | lp l =>
    obtain ⟨r, h1, h2, h3, h4, h5, h6, h7, h8, h9⟩ := hb
    exact ⟨r, hw.trans h1, h2, h3, h4, h5.step s, h6, h7, h8, h9⟩
  | dfr => exact hw.trans hb
  | dead => trivial

theorem HRel.one (H : HRel C h L w) (s : Step w (okOf C h L) h L w' (okOf C h' L') h' L') (hb : Below C.base w w') (a0 i0 : Nat)
    (hk : ∀ a i, ¬ (a = a0 ∧ i = i0) → blk h' a i = .dead ∨ (blk h' a i = blk h a i ∧ L'.loc a i = L.loc a i ∧ L'.size a i = L.size a i ∧ w'.heap[L.loc a i]? = w.heap[L.loc a i]?))
    (h0l : (blk h' a0 i0).tag ≠ none → C.base ≤ L'.loc a0 i0 ∧ L'.loc a0 i0 < w'.heap.size)
    (h0 : BRel C h' L' w' (L'.loc a0 i0) (L'.size a0 i0) (blk h' a0 i0))
    (hap : ∀ a i, ¬ (a = a0 ∧ i = i0) → (blk h' a i).tag ≠ none → (blk h' a0 i0).tag ≠ none → L.loc a i ≠ L'.loc a0 i0) : HRel C h' L' w' := by
  refine ⟨H.below.trans hb, fun a i ht => ?_, fun a i => ?_, fun a i b j hti htj hl => ?_⟩
  · by_cases ha : a = a0 ∧ i = i0
    · obtain ⟨rfl, rfl⟩ := ha; exact h0l ht
    · rcases hk a i ha with hd | ⟨h1, h2, h3, h4⟩
      · rw [hd] at ht; exact absurd rfl ht
      · rw [h1] at ht; rw [h2]
        obtain ⟨g1, g2⟩ := H.live a i ht
        exact ⟨g1, Nat.lt_of_lt_of_le g2 s.size⟩
  · by_cases ha : a = a0 ∧ i = i0
    · obtain ⟨rfl, rfl⟩ := ha; exact h0
    · rcases hk a i ha with hd | ⟨h1, h2, h3, h4⟩
      · rw [hd]; trivial
      · rw [h1, h2, h3]; exact (H.blks a i).step s h4
  · have key : ∀ a i, ¬ (a = a0 ∧ i = i0) → (blk h' a i).tag ≠ none → (blk h a i).tag ≠ none ∧ L'.loc a i = L.loc a i := fun a i ha ht => by
      rcases hk a i ha with hd | ⟨h1, h2, _⟩
      · rw [hd] at ht; exact absurd rfl ht
      · rw [h1] at ht; exact ⟨ht, h2⟩
    by_cases ha : a = a0 ∧ i = i0
    · by_cases hb : b = a0 ∧ j = i0
      · exact ⟨ha.1.trans hb.1.symm, ha.2.trans hb.2.symm⟩
      · obtain ⟨h1, h2⟩ := key b j hb htj
        rw [h2] at hl
        obtain ⟨rfl, rfl⟩ := ha
        exact absurd hl.symm (hap b j hb htj hti)
    · obtain ⟨h1, h2⟩ := key a i ha hti
      by_cases hb : b = a0 ∧ j = i0
      · rw [h2] at hl
        obtain ⟨rfl, rfl⟩ := hb
        exact absurd hl (hap a i ha hti htj)
      · obtain ⟨h3, h4⟩ := key b j hb htj
        rw [h2, h4] at hl
        exact H.inj a i b j h1 h3 hl

def Lay.put (L : Lay) (a i g n : Nat) : Lay := ⟨fun b j => if b = a ∧ j = i then g else L.loc b j, fun b j => if b = a ∧ j = i then n else L.size b j⟩
theorem Lay.put_loc (L : Lay) (a i g n : Nat) : (L.put a i g n).loc a i = g := by simp [Lay.put]
theorem Lay.put_size (L : Lay) (a i g n : Nat) : (L.put a i g n).size a i = n := by simp [Lay.put]
theorem Lay.put_ne (L : Lay) {a i : Nat} (g n : Nat) {b j : Nat} (hne : ¬ (b = a ∧ j = i)) : (L.put a i g n).loc b j = L.loc b j ∧ (L.put a i g n).size b j = L.size b j := by simp [Lay.put, hne]

theorem ok_ne (H : HRel C h L w) {g : Nat} (ho : okOf C h L g) {a i : Nat} (hl : (blk h a i).tag ≠ none) : g ≠ L.loc a i := by
  rintro rfl
  rcases ho with ho | ⟨h1, h2⟩
  · have := (H.live a i hl).1; omega
  · exact h2 a i hl rfl

/-- some blocks are tracked no longer, and a new one is: in a new block of memory, or in that of one of these -/
theorem HRel.pushK (H : HRel C h L w) (kill : Nat → Nat → Prop) (hm : AHeap) (hn : ∀ a, nxt hm a = nxt h a) (hkk : ∀ a i, blk hm a i = .dead ∨ (¬ kill a i ∧ blk hm a i = blk h a i)) (a : Nat) (b : Blk) (g n : Nat)
    (hb : Below C.base w w') (hsame : ∀ k, k < w.heap.size → (∀ b j, kill b j → (blk h b j).tag ≠ none → k ≠ L.loc b j) → w'.heap[k]? = w.heap[k]?)
    (hg : (w.heap.size ≤ g ∧ g < w'.heap.size) ∨ ∃ b j, kill b j ∧ (blk h b j).tag ≠ none ∧ g = L.loc b j)
    (h0 : Step w (okOf C h L) h L w' (okOf C (pushB hm a b) (L.put a (nxt h a) g n)) (pushB hm a b) (L.put a (nxt h a) g n) → BRel C (pushB hm a b) (L.put a (nxt h a) g n) w' g n b) :
    Step w (okOf C h L) h L w' (okOf C (pushB hm a b) (L.put a (nxt h a) g n)) (pushB hm a b) (L.put a (nxt h a) g n) ∧ HRel C (pushB hm a b) (L.put a (nxt h a) g n) w' := by
  have hblk : ∀ c i, blk (pushB hm a b) c i = if a = c ∧ i = nxt h a then b else blk hm c i := fun c i => by rw [blk_push, hn]
  have hold : ∀ c i, ¬ (c = a ∧ i = nxt h a) → blk (pushB hm a b) c i = .dead ∨ (¬ kill c i ∧ blk (pushB hm a b) c i = blk h c i) := fun c i hne => by
    rw [hblk, if_neg (fun e => hne ⟨e.1.symm, e.2⟩)]; exact hkk c i
  have hs : Step w (okOf C h L) h L w' (okOf C (pushB hm a b) (L.put a (nxt h a) g n)) (pushB hm a b) (L.put a (nxt h a) g n) := by
    refine ⟨hb.size, fun k hk ho => ⟨?_, hsame k hk (fun b j _ hl => ok_ne H ho hl)⟩, fun c => ?_, fun c i sz hi ht => ?_⟩
    · rcases ho with ho | ⟨h1, h2⟩
      · exact .inl ho
      · refine .inr ⟨h1, fun c i ht => ?_⟩
        by_cases hne : c = a ∧ i = nxt h a
        · obtain ⟨rfl, rfl⟩ := hne
          rw [Lay.put_loc]
          rintro rfl
          rcases hg with ⟨hg, _⟩ | ⟨b', j', _, hl, hg⟩
          · omega
          · exact h2 b' j' hl hg.symm
        · rw [(L.put_ne g n hne).1]
          rcases hold c i hne with hd | ⟨_, he⟩
          · rw [hd] at ht; exact absurd rfl ht
          · rw [he] at ht; exact h2 c i ht
    · rw [nxt_push]
      split
      · rename_i e; subst e; rw [hn]; omega
      · rw [hn]; exact Nat.le_refl _
    · have hne : ¬ (c = a ∧ i = nxt h a) := by rintro ⟨rfl, rfl⟩; omega
      rcases hold c i hne with hd | ⟨_, he⟩
      · rw [hd] at ht; cases ht
      · rw [he] at ht; exact ⟨ht, (L.put_ne g n hne).1, (L.put_ne g n hne).2⟩
  refine ⟨hs, H.one hs hb a (nxt h a) (fun c i hne => ?_) (fun _ => ?_) ?_ (fun c i hne ht _ => ?_)⟩
  · rcases hold c i hne with hd | ⟨hnk, he⟩
    · exact .inl hd
    · by_cases hdd : (blk h c i).tag = none
      · rw [tag_dead hdd] at he; exact .inl he
      · refine .inr ⟨he, (L.put_ne g n hne).1, (L.put_ne g n hne).2, hsame _ (H.live c i hdd).2 (fun b j hkl hl e => ?_)⟩
        obtain ⟨rfl, rfl⟩ := H.inj c i b j hdd hl e
        exact hnk hkl
  · rw [Lay.put_loc]
    rcases hg with hg | ⟨b', j', _, hl, rfl⟩
    · exact ⟨Nat.le_trans H.hbase hg.1, hg.2⟩
    · exact ⟨(H.live b' j' hl).1, Nat.lt_of_lt_of_le (H.live b' j' hl).2 hb.size⟩
  · rw [Lay.put_loc, Lay.put_size, hblk, if_pos ⟨rfl, rfl⟩]; exact h0 hs
  · rcases hold c i hne with hd | ⟨hnk, he⟩
    · rw [hd] at ht; exact absurd rfl ht
    · rw [he] at ht
      rw [Lay.put_loc]
      rcases hg with hg | ⟨b', j', hkl, hl, rfl⟩
      · have := (H.live c i ht).2; omega
      · intro e
        obtain ⟨rfl, rfl⟩ := H.inj c i b' j' ht hl e
        exact hnk hkl

/-- a new block -/
theorem HRel.push (H : HRel C h L w) (a : Nat) (b : Blk) (g n : Nat) (hb : Below w.heap.size w w') (hg : w.heap.size ≤ g ∧ g < w'.heap.size)
    (h0 : Step w (okOf C h L) h L w' (okOf C (pushB h a b) (L.put a (nxt h a) g n)) (pushB h a b) (L.put a (nxt h a) g n) → BRel C (pushB h a b) (L.put a (nxt h a) g n) w' g n b) :
    Step w (okOf C h L) h L w' (okOf C (pushB h a b) (L.put a (nxt h a) g n)) (pushB h a b) (L.put a (nxt h a) g n) ∧ HRel C (pushB h a b) (L.put a (nxt h a) g n) w' :=
  H.pushK (fun _ _ => False) h (fun _ => rfl) (fun _ _ => .inr ⟨fun e => e, rfl⟩) a b g n (hb.mono H.hbase) (fun k hk _ => hb.block k hk) (.inl hg) h0

/-- a block is written -/
theorem HRel.set (H : HRel C h L w) {a i : Nat} {b : Blk} (hl : (blk h a i).tag ≠ none) (ht : b.tag = (blk h a i).tag) (hg : w.grownBy w' (some (L.loc a i)))
    (h0 : Step w (okOf C h L) h L w' (okOf C (setB h a i b) L) (setB h a i b) L → BRel C (setB h a i b) L w' (L.loc a i) (L.size a i) b) :
    Step w (okOf C h L) h L w' (okOf C (setB h a i b) L) (setB h a i b) L ∧ HRel C (setB h a i b) L w' := by
  have hnd : blk h a i ≠ .dead := fun e => hl (by rw [e]; rfl)
  have hblk : ∀ c j, blk (setB h a i b) c j = if a = c ∧ i = j then b else blk h c j := fun c j => blk_set hnd c j b
  have htag : ∀ c j, (blk (setB h a i b) c j).tag = (blk h c j).tag := fun c j => by
    rw [hblk]; split
    · rename_i e; obtain ⟨rfl, rfl⟩ := e; exact ht
    · rfl
  have hb : Below C.base w w' := (Below.refl _ _).grown hg H.hbase (fun k hk => by cases hk; exact (H.live a i hl).1)
  have hs : Step w (okOf C h L) h L w' (okOf C (setB h a i b) L) (setB h a i b) L := by
    refine ⟨hb.size, fun k hk ho => ⟨?_, hg.block k hk (fun e => ok_ne H ho hl (by simpa using e))⟩, fun c => by rw [nxt_set]; exact Nat.le_refl _, fun c j sz _ htt => ⟨by rw [← htag]; exact htt, rfl, rfl⟩⟩
    rcases ho with ho | ⟨h1, h2⟩
    · exact .inl ho
    · exact .inr ⟨h1, fun c j hc => h2 c j (by rw [← htag]; exact hc)⟩
  refine ⟨hs, H.one hs hb a i (fun c j hne => ?_) (fun _ => ⟨(H.live a i hl).1, Nat.lt_of_lt_of_le (H.live a i hl).2 hb.size⟩) (by rw [hblk, if_pos ⟨rfl, rfl⟩]; exact h0 hs) (fun c j hne hc _ e => ?_)⟩
  · have he : blk (setB h a i b) c j = blk h c j := by rw [hblk, if_neg (fun e => hne ⟨e.1.symm, e.2.symm⟩)]
    by_cases hdd : (blk h c j).tag = none
    · rw [tag_dead hdd] at he; exact .inl he
    · refine .inr ⟨he, rfl, rfl, hg.block _ (H.live c j hdd).2 (fun e => ?_)⟩
      obtain ⟨rfl, rfl⟩ := H.inj c j a i hdd hl (by simpa using e)
      exact hne ⟨rfl, rfl⟩
  · rw [htag] at hc
    obtain ⟨rfl, rfl⟩ := H.inj c j a i hc hl e
    exact hne ⟨rfl, rfl⟩

/-- some blocks are tracked no longer -/
theorem HRel.kill (H : HRel C h L w) (h' : AHeap) (hn : ∀ a, nxt h' a = nxt h a) (hk : ∀ a i, blk h' a i = .dead ∨ blk h' a i = blk h a i) :
    Step w (okOf C h L) h L w (okOf C h' L) h' L ∧ HRel C h' L w := by
  have htag : ∀ a i, (blk h' a i).tag ≠ none → (blk h a i).tag ≠ none := fun a i ht => by
    rcases hk a i with e | e
    · rw [e] at ht; exact absurd rfl ht
    · rw [e] at ht; exact ht
  have hs : Step w (okOf C h L) h L w (okOf C h' L) h' L := by
    refine ⟨Nat.le_refl _, fun k hk' ho => ⟨?_, rfl⟩, fun a => by rw [hn]; exact Nat.le_refl _, fun a i sz _ ht => ?_⟩
    · rcases ho with ho | ⟨h1, h2⟩
      · exact .inl ho
      · exact .inr ⟨h1, fun a i ht => h2 a i (htag a i ht)⟩
    · rcases hk a i with e | e
      · rw [e] at ht; cases ht
      · rw [e] at ht; exact ⟨ht, rfl, rfl⟩
  refine ⟨hs, H.below, fun a i ht => H.live a i (htag a i ht), fun a i => ?_, fun a i b j h1 h2 e => H.inj a i b j (htag a i h1) (htag b j h2) e⟩
  rcases hk a i with e | e
  · rw [e]; trivial
  · rw [e]; exact (H.blks a i).step hs rfl

/-- the world has grown in blocks that are not tracked alone -/
theorem HRel.grow (H : HRel C h L w) (hb : Below w.heap.size w w') : Step w (okOf C h L) h L w' (okOf C h L) h L ∧ HRel C h L w' := by
  have hs : Step w (okOf C h L) h L w' (okOf C h L) h L := ⟨hb.size, fun k hk ho => ⟨ho, hb.block k hk⟩, fun a => Nat.le_refl _, fun a i sz _ ht => ⟨ht, rfl, rfl⟩⟩
  exact ⟨hs, H.below.trans (hb.mono H.hbase), fun a i ht => ⟨(H.live a i ht).1, Nat.lt_of_lt_of_le (H.live a i ht).2 hb.size⟩,
    fun a i => by
      by_cases hd : (blk h a i).tag = none
      · rw [tag_dead hd]; trivial
      · exact (H.blks a i).step hs (hb.block _ (H.live a i hd).2), H.inj⟩
end
end Go.Proofs.Ytjhdnpmojhkbjaa
