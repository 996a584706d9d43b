/- Guided runs: where the way hangs on a letter, a list of choices says which way is taken. No condition. -/
import Derived.Test.YtimmgjppippdiaaXz
namespace Go.Proofs.Ytimmgjppippdiaa
open Go.RowKit (Below)

def arep : List (Nat × AV) → Nat → AV → List (Nat × AV)
  | [], _, _ => []
  | (i, x) :: l, t, y => match Nat.beq i t with | true => (i, y) :: l | false => (i, x) :: arep l t y
theorem arep_same : ∀ {env : List (Nat × AV)} {t : Nat} {v : AV}, aget env t = some v → arep env t v = env
  | [], t, v, h => by cases h
  | (i, x) :: l, t, v, h => by
    simp only [aget] at h
    simp only [arep]
    split
    · rename_i hb; rw [hb] at h; cases h; rfl
    · rename_i hb; rw [hb] at h; rw [arep_same h]
/-- b, or not b -/
def asB (p b : Bool) : Bool := match p with | true => b | false => !b
theorem asB_eq {p b : Bool} (h : asB p b = true) : b = p := by cases p <;> cases b <;> first | rfl | cases h

abbrev Env0 := List (Nat × AV)
/-- the truth of a temporary is chosen -/
def settle (env : Env0) (pa acc : List Bool) (t : Nat) : Option (List Bool × List Bool × Env0) :=
  match aget env t with
  | some v => (match v with
    | .bool b => (match pa with
      | p :: ps => some (ps, asB p b :: acc, arep env t (.bool p))
      | [] => none)
    | _ => some (pa, acc, env))
  | none => some (pa, acc, env)
theorem settle_ok {env env' : Env0} {pa pa' acc acc' : List Bool} {t : Nat} (h : settle env pa acc t = some (pa', acc', env')) (hb : ∀ b ∈ acc', b = true) : env' = env ∧ ∀ b ∈ acc, b = true := by
  unfold settle at h
  split at h
  · rename_i v hv
    split at h
    · rename_i b
      split at h
      · rename_i p ps
        cases h
        have := asB_eq (hb _ List.mem_cons_self)
        subst this
        exact ⟨arep_same hv, fun b hb' => hb b (List.mem_cons_of_mem _ hb')⟩
      · cases h
    · cases h; exact ⟨rfl, hb⟩
  · cases h; exact ⟨rfl, hb⟩
def settleK (k : OpK) (env : Env0) (pa acc : List Bool) : Option (List Bool × List Bool × Env0) :=
  match k with
  | .pick c _ _ => (match c with | .t n => settle env pa acc n | .c _ => some (pa, acc, env))
  | _ => some (pa, acc, env)
theorem settleK_ok {k : OpK} {env env' : Env0} {pa pa' acc acc' : List Bool} (h : settleK k env pa acc = some (pa', acc', env')) (hb : ∀ b ∈ acc', b = true) : env' = env ∧ ∀ b ∈ acc, b = true := by
  unfold settleK at h
  split at h
  · split at h
    · exact settle_ok h hb
    · cases h; exact ⟨rfl, hb⟩
  · cases h; exact ⟨rfl, hb⟩
def settleO (o : AOp) (env : Env0) (pa acc : List Bool) : Option (List Bool × List Bool × Env0) :=
  match o.g with
  | none => settleK o.k env pa acc
  | some p => match settle env pa acc p.1 with
    | none => none
    | some (pa1, acc1, env1) => match guardB o env1 with
      | some g => (match g with | true => settleK o.k env1 pa1 acc1 | false => some (pa1, acc1, env1))
      | none => none
theorem settleO_ok {o : AOp} {env env' : Env0} {pa pa' acc acc' : List Bool} (h : settleO o env pa acc = some (pa', acc', env')) (hb : ∀ b ∈ acc', b = true) : env' = env ∧ ∀ b ∈ acc, b = true := by
  unfold settleO at h
  split at h
  · exact settleK_ok h hb
  · split at h
    · cases h
    · rename_i pa1 acc1 env1 hs
      split at h
      · split at h
        · obtain ⟨e1, h1⟩ := settleK_ok h hb
          obtain ⟨e2, h2⟩ := settle_ok hs h1
          exact ⟨e1.trans e2, h2⟩
        · cases h; exact settle_ok hs hb
      · cases h

/-! ### Contracts at letters -/
structure Ctr where
  f : FuncId
  n : Nat
  run : List Bool → List AV → Option (Bool × AV × Option Fresh)
def Ctr.OK (P : Program) (c : Ctr) : Prop := ∀ pa args r fr, c.run pa args = some (true, r, fr) → Pure P c.f args r fr
def conC : List Ctr → List Bool → Con
  | [], _, _, _ => none
  | c :: l, pa, f, args => match Nat.beq c.f f with
    | true => (match c.run pa args with | some r => some r | none => conC l pa f args)
    | false => conC l pa f args
def cntC : List Ctr → FuncId → Nat
  | [], _ => 0
  | c :: l, f => match Nat.beq c.f f with | true => c.n | false => cntC l f
def CtrsOK (P : Program) : List Ctr → Prop
  | [] => True
  | c :: l => c.OK P ∧ CtrsOK P l
theorem conC_ok {P : Program} : ∀ {l : List Ctr}, CtrsOK P l → ∀ pa, ConOK P (conC l pa)
  | [], _, pa => fun f args r fr h => by cases h
  | c :: l, ⟨h1, h2⟩, pa => fun f args r fr h => by
    simp only [conC] at h
    split at h
    · rename_i e
      have e : c.f = f := Nat.eq_of_beq_eq_true e
      split at h
      · rename_i q hq
        cases h
        rw [← e]; exact h1 _ _ _ _ hq
      · exact conC_ok h2 pa f args r fr h
    · exact conC_ok h2 pa f args r fr h

def calleeO (o : AOp) (env : Env0) : Option FuncId :=
  match o.k with
  | .ncall _ _ f _ => some f
  | .ncallv _ _ x _ => (match opdV (aget env) x with | .fn f _ => some f | _ => none)
  | _ => none
def pathAfter (l : List Ctr) (o : AOp) (env : Env0) (pa : List Bool) : List Bool :=
  match calleeO o env with
  | none => pa
  | some f => match guardB o env with
    | some g => (match g with | true => pa.drop (cntC l f) | false => pa)
    | none => pa

/-! ### Steps -/
def drawG (A : Ar) (T : Tab) (l : List Ctr) : List AOp → List Bool → List Bool → Env0 → AHeap → Option (List Bool × List Bool × Env0 × AHeap × List Foot)
  | [], pa, acc, env, h => some (pa, acc, env, h, [])
  | o :: os, pa, acc, env, h => match settleO o env pa acc with
    | none => none
    | some (pa1, acc1, env1) => match aopStep A T (conC l pa1) o env1 h with
      | none => none
      | some (b, r, h1) => match drawG A T l os (pathAfter l o env1 pa1) (b :: acc1) (putL env1 o.d r) h1 with
        | none => none
        | some (pa2, acc2, env2, h2, zs) => some (pa2, acc2, env2, h2, footOf env1 h o :: zs)
def drawGB (fr : List (Nat × Nat)) (zs : List Foot) : Bool := match fr with | [] => true | fr => freeB zs fr
abbrev GRes := Option (List Bool × List Bool × AFrame × List AFrame × AHeap)
def wrapG (pa : List Bool) : SRes → GRes
  | none => none
  | some (acc, f, fs, h) => some (pa, acc, f, fs, h)
def regG (A : Ar) (T : Tab) (l : List Ctr) (pa acc : List Bool) (f : AFrame) (k : List AItem) (fs : List AFrame) (h : AHeap) (fr : List (Nat × Nat)) (ops : List AOp) : GRes :=
  match drawG A T l ops pa acc f.env h with
  | none => none
  | some (pa', acc', env', h', zs) => match drawGB fr zs with
    | true => some (pa', acc', { f with env := env', todo := k }, fs, h')
    | false => none
def opG (A : Ar) (T : Tab) (l : List Ctr) (pa acc : List Bool) (o : AOp) (os : List AOp) (f : AFrame) (k : List AItem) (fs : List AFrame) (h : AHeap) : GRes :=
  match settleO o f.env pa acc with
  | none => none
  | some (pa1, acc1, env1) => match opA A T (conC l pa1) acc1 o os { f with env := env1 } k fs h with
    | none => none
    | some (acc2, f2, fs2, h2) => some (pathAfter l o env1 pa1, acc2, f2, fs2, h2)
def condG (pa acc : List Bool) (f : AFrame) (k : List AItem) (fs : List AFrame) (h : AHeap) (v : AV) (a b : ACode) : GRes :=
  match v with
  | .bool t => (match pa with
    | p :: ps => some (ps, asB p t :: acc, { f with todo := .code (selC p a b) :: k }, fs, h)
    | [] => none)
  | _ => none
def gstep (A : Ar) (T : Tab) (l : List Ctr) (pa acc : List Bool) (f : AFrame) (fs : List AFrame) (h : AHeap) : GRes :=
  match f.ret with
  | true => wrapG pa (astep A T (conC l pa) acc f fs h)
  | false => match f.todo with
    | [] => wrapG pa (astep A T (conC l pa) acc f fs h)
    | it :: k => match it with
      | .inReg os => (match os with
        | [] => wrapG pa (astep A T (conC l pa) acc f fs h)
        | o :: os => opG A T l pa acc o os f k fs h)
      | .code c => (match c with
        | .cond c a b => condG pa acc f k fs h (opdV (aget f.env) c) a b
        | .reg d ops => (match d with
          | some fr => regG A T l pa acc f k fs h fr ops
          | none => wrapG pa (astep A T (conC l pa) acc f fs h))
        | _ => wrapG pa (astep A T (conC l pa) acc f fs h))
      | _ => wrapG pa (astep A T (conC l pa) acc f fs h)
/-- so many steps -/
def gsteps (A : Ar) (T : Tab) (l : List Ctr) : Nat → List Bool → List Bool → AFrame → List AFrame → AHeap → Option ASt
  | 0, _, acc, f, fs, h => some (acc, f, fs, h)
  | n + 1, pa, acc, f, fs, h => match gstep A T l pa acc f fs h with
    | none => none
    | some (pa', acc', f', fs', h') => gsteps A T l n pa' acc' f' fs' h'

section
variable {C : Ctx} {T : Tab} {l : List Ctr} {h h' : AHeap} {f f' : AFrame} {fs fs' : List AFrame} {k : List AItem} {Q : List AFrame → AHeap → Prop} {pa pa' acc acc' : List Bool}
theorem drawG_acc : ∀ {os : List AOp} {pa pa' acc acc' : List Bool} {env env' : Env0} {h h' : AHeap} {zs : List Foot}, drawG std T l os pa acc env h = some (pa', acc', env', h', zs) → (∀ b ∈ acc', b = true) → ∀ b ∈ acc, b = true
  | [], pa, pa', acc, acc', env, env', h, h', zs, hd, hb => by simp only [drawG, Option.some.injEq, Prod.mk.injEq] at hd; obtain ⟨_, rfl, _⟩ := hd; exact hb
  | o :: os, pa, pa', acc, acc', env, env', h, h', zs, hd, hb => by
    simp only [drawG] at hd
    split at hd
    · cases hd
    · rename_i hs
      split at hd
      · cases hd
      · split at hd
        · cases hd
        · rename_i hr
          cases hd
          have := drawG_acc hr hb
          exact (settleO_ok hs (fun b hb' => this b (List.mem_cons_of_mem _ hb'))).2
theorem drawG_sound (hT : TabOK C.P T) (hl : CtrsOK C.P l) : ∀ {os : List AOp} {pa pa' acc acc' : List Bool} {env env' : Env0} {h h' : AHeap} {zs : List Foot}, drawG std T l os pa acc env h = some (pa', acc', env', h', zs) → (∀ b ∈ acc', b = true) → zs.map (·.o) = os ∧ Runs C.P zs (aget env) h (aget env') h'
  | [], pa, pa', acc, acc', env, env', h, h', zs, hd, _ => by simp only [drawG, Option.some.injEq, Prod.mk.injEq] at hd; obtain ⟨_, _, rfl, rfl, rfl⟩ := hd; exact ⟨rfl, .nil _ _⟩
  | o :: os, pa, pa', acc, acc', env, env', h, h', zs, hd, hb => by
    simp only [drawG] at hd
    split at hd
    · cases hd
    · rename_i pa1 acc1 env1 hs
      split at hd
      · cases hd
      · rename_i b r h1 ho
        split at hd
        · cases hd
        · rename_i hr
          cases hd
          have ha := drawG_acc hr hb
          obtain ⟨i1, i2⟩ := drawG_sound hT hl hr hb
          obtain ⟨e, _⟩ := settleO_ok hs (fun b hb' => ha b (List.mem_cons_of_mem _ hb'))
          subst e
          have hbt := ha b List.mem_cons_self
          subst hbt
          rw [aget_putL] at i2
          have := aopStep_sound hT (conC_ok hl pa1) ho
          exact ⟨by simp [footOf, i1], .cons ⟨this, fun x hx p hp => by simp only [footOf, List.mem_flatMap]; exact ⟨x, hx, hp⟩, aopDo_eff this⟩ i2⟩
theorem drawGB_spec {fr : List (Nat × Nat)} {zs : List Foot} (hb : drawGB fr zs = true) : ∀ (i j : Nat) (x z : Foot), (i, j) ∈ fr → zs[i]? = some x → zs[j]? = some z → (z.o.k.neutral = true ∧ Disj z.r x.w) ∨ (x.o.k.neutral = true ∧ Disj x.r z.w) := by
  unfold drawGB at hb
  split at hb
  · intro i j x z hm; simp at hm
  · exact freeB_spec hb
def SoundG (C : Ctx) (Q : List AFrame → AHeap → Prop) (acc : List Bool) (f : AFrame) (fs : List AFrame) (h : AHeap) (r : GRes) : Prop :=
  ∀ pa' acc' f' fs' h', r = some (pa', acc', f', fs', h') → (∀ b ∈ acc', b = true) → Ev C (f' :: fs') h' Q → (∀ b ∈ acc, b = true) ∧ Ev C (f :: fs) h Q
theorem wrapG_sound {r : SRes} (hs : Sound C Q acc f fs h r) : SoundG C Q acc f fs h (wrapG pa r) := by
  intro pa' acc' f' fs' h' he hb hq
  cases r with
  | none => cases he
  | some p => obtain ⟨a, b, c, d⟩ := p; cases he; exact hs _ _ _ _ rfl hb hq
theorem gstep_sound (hfol : C.P.follows .mixedOrders = true) (hT : TabOK C.P T) (hl : CtrsOK C.P l) : SoundG C Q acc f fs h (gstep std T l pa acc f fs h) := by
  have base : SoundG C Q acc f fs h (wrapG pa (astep std T (conC l pa) acc f fs h)) := wrapG_sound (astep_sound hfol hT (conC_ok hl pa))
  unfold gstep
  split
  · exact base
  · rename_i hr
    split
    · exact base
    · rename_i it k ht
      split
      · split
        · exact base
        · rename_i o os
          intro pa' acc' f' fs' h' he hb hq
          unfold opG at he
          split at he
          · cases he
          · rename_i pa1 acc1 env1 hs
            split at he
            · cases he
            · rename_i acc2 f2 fs2 h2 ho
              cases he
              have key : (∀ b ∈ acc1, b = true) → env1 = f.env ∧ ∀ b ∈ acc, b = true := fun h1 => settleO_ok hs h1
              have hsd := opA_sound (Q := Q) hT (conC_ok hl pa1) (f := { f with env := env1 }) (acc := acc1) (fs := fs) (h := h) (k := k) (o := o) (os := os) hr ht _ _ _ _ ho hb hq
              obtain ⟨e, h3⟩ := key hsd.1
              refine ⟨h3, ?_⟩
              have := hsd.2
              rw [e] at this
              exact this
      · rename_i c
        split
        · rename_i c a b
          intro pa' acc' f' fs' h' he hb hq
          unfold condG at he
          split at he
          · rename_i t hc
            split at he
            · rename_i p ps
              cases he
              have := asB_eq (hb _ List.mem_cons_self)
              subst this
              exact ⟨fun b hb' => hb b (List.mem_cons_of_mem _ hb'), ev_cond hr ht hc (by cases t <;> exact hq)⟩
            · cases he
          · cases he
        · split
          · rename_i ops fr
            intro pa' acc' f' fs' h' he hb hq
            unfold regG at he
            split at he
            · cases he
            · rename_i pa1 acc1 env1 h1 zs hd
              split at he
              · rename_i hfree
                cases he
                obtain ⟨d1, d2⟩ := drawG_sound hT hl hd hb
                exact ⟨drawG_acc hd hb, ev_draw hfol hr ht d1 (fun i j x z hm hx hz _ => drawGB_spec hfree i j x z hm hx hz) d2 (fun _ _ e => e) hq⟩
              · cases he
          · exact base
        · exact base
      · exact base
theorem gsteps_sound (hfol : C.P.follows .mixedOrders = true) (hT : TabOK C.P T) (hl : CtrsOK C.P l) : ∀ (n : Nat) {pa acc : List Bool} {f : AFrame} {fs : List AFrame} {h : AHeap}, Sound C Q acc f fs h (gsteps std T l n pa acc f fs h)
  | 0, pa, acc, f, fs, h => by
    intro acc' f' fs' h' he hb hq
    simp only [gsteps, Option.some.injEq, Prod.mk.injEq] at he
    obtain ⟨rfl, rfl, rfl, rfl⟩ := he
    exact ⟨hb, hq⟩
  | n + 1, pa, acc, f, fs, h => by
    intro acc' f' fs' h' he hb hq
    simp only [gsteps] at he
    split at he
    · cases he
    · rename_i pa1 acc1 f1 fs1 h1 hs
      obtain ⟨hb1, hq1⟩ := gsteps_sound hfol hT hl n _ _ _ _ he hb hq
      exact gstep_sound hfol hT hl _ _ _ _ _ hs hb1 hq1
end
end Go.Proofs.Ytimmgjppippdiaa
