/- The machine: frames, and how they stand to the model's; the moves that compute nothing. No condition. -/
import Derived.Test.YtimmgjppippdiaaXk
namespace Go.Proofs.Ytimmgjppippdiaa
open Go.RowKit (Below)

inductive AItem where
  | code (c : ACode)
  | inBlock (id : Nat)
  | inLoop (b : ACode)
  | inReg (ops : List AOp)
  | inRF (a i : Nat)
  | endRF (a i : Nat)
  | beginRound
inductive ARes where
  | tmp (t : Nat)
  | cell (t : Nat) (ag : Bool) (n : Nat)
structure AFrame where
  fn : FuncId
  N : Nat
  env : List (Nat × AV)
  todo : List AItem
  defs : List (Nat × Nat)
  rnd : Option (Nat × Nat)
  ret : Bool
  res : List ARes
structure AFunc where
  N : Nat
  code : ACode
  res : List ARes
abbrev Tab := FuncId → Option AFunc
def mres (P : Program) : List ResultVar → List ARes → Bool
  | [], [] => true
  | .tmp t :: rs, .tmp t' :: as => t == t' && mres P rs as
  | .cell t ty :: rs, .cell t' ag n :: as => t == t' && shapeB P ty ag n && mres P rs as
  | _, _ => false
def mfunc (P : Program) (f : FuncId) (af : AFunc) : Bool :=
  match P.funcs[f]? with
  | some fn => fn.ntmps == af.N && (match fn.body with | some c => mcode P af.N af.code c | none => false) && mres P fn.results.toList af.res && calleeOk P f
  | none => false
def TabOK (P : Program) (T : Tab) : Prop := ∀ f af, T f = some af → mfunc P f af = true

def argsEnv : Nat → List AV → List (Nat × AV)
  | _, [] => []
  | k, x :: xs => (k, x) :: argsEnv (k + 1) xs
theorem argsEnv_get : ∀ (args : List AV) (k t : Nat), aget (argsEnv k args) t = if k ≤ t then args[t - k]? else none
  | [], k, t => by simp [argsEnv, aget]
  | x :: xs, k, t => by
    have hb : Nat.beq k t = decide (k = t) := by rw [Bool.eq_iff_iff]; simp
    simp only [argsEnv, aget, hb]
    by_cases hkt : k = t
    · subst hkt; simp
    · simp only [hkt, decide_false]
      rw [argsEnv_get xs (k + 1) t]
      by_cases hlt : k ≤ t
      · rw [if_pos (by omega), if_pos hlt, show t - k = (t - (k + 1)) + 1 from by omega]; simp
      · rw [if_neg (by omega), if_neg hlt]
def selC (t : Bool) (a b : ACode) : ACode := match t with | true => a | false => b
def exitToA (id : Nat) : List AItem → Option (List AItem)
  | .inBlock id' :: k => match Nat.beq id' id with | true => some k | false => exitToA id k
  | _ :: k => exitToA id k
  | [] => none

def DefRel (h : AHeap) (L : Lay) (ds : List (Nat × Nat)) (cs : List Deferred) : Prop :=
  ∃ gs : List Nat, cs = gs.map (fun g => { target := .collected g, args := #[] }) ∧ gs.length = ds.length ∧ ∀ (j : Nat) (d : Nat × Nat) (g : Nat), ds[j]? = some d → gs[j]? = some g → Live h L d.1 d.2 fun l _ => g = l
def RndRel (h : AHeap) (L : Lay) : Option (Nat × Nat) → Option Nat → Prop
  | none, r => r = none
  | some (a, i), r => ∃ g, r = some g ∧ Live h L a i fun l _ => g = l
inductive ItRel (P : Program) (h : AHeap) (L : Lay) (N : Nat) : AItem → Item → Prop
  | code (a : ACode) (c : Code) (hm : mcode P N a c = true) : ItRel P h L N (.code a) (.code c)
  | inBlock (id : Nat) : ItRel P h L N (.inBlock id) (.inBlock id)
  | inLoop (a : ACode) (c : Code) (hm : mcode P N a c = true) : ItRel P h L N (.inLoop a) (.inLoop c)
  | inReg (ops : List Oper) (k : Nat) (aos : List AOp) (hm : maops P N ops (ops.drop k) aos = true) : ItRel P h L N (.inReg aos) (.inRegion ops.toArray ((List.range ops.length).drop k))
  | inRF (a i g : Nat) (hl : Live h L a i fun l _ => g = l) : ItRel P h L N (.inRF a i) (.inRangeFunc g)
  | endRF (a i g : Nat) (hl : Live h L a i fun l _ => g = l) : ItRel P h L N (.endRF a i) (.endRangeFunc g)
  | beginRound : ItRel P h L N .beginRound .beginRound
inductive ItsRel (P : Program) (h : AHeap) (L : Lay) (N : Nat) : List AItem → List Item → Prop
  | nil : ItsRel P h L N [] []
  | cons {x y k l} (hx : ItRel P h L N x y) (hk : ItsRel P h L N k l) : ItsRel P h L N (x :: k) (y :: l)
structure FrRel (C : Ctx) (h : AHeap) (L : Lay) (w : World) (af : AFrame) (fr : Frame) : Prop where
  fn : fr.fn = af.fn
  size : fr.tmps.size = af.N
  env : EnvRel C h L w af.env fr.tmps
  kind : fr.kind = .normal
  defs : DefRel h L af.defs fr.defers
  rnd : RndRel h L af.rnd fr.roundOf
  mode : (af.ret = true ∧ fr.mode = .returning) ∨ (af.ret = false ∧ fr.mode = .run ∧ ItsRel C.P h L af.N af.todo fr.todo)
  res : af.rnd = none → ∃ fn, C.P.funcs[af.fn]? = some fn ∧ mres C.P fn.results.toList af.res = true
inductive FrsRel (C : Ctx) (h : AHeap) (L : Lay) (w : World) : List AFrame → List Frame → Prop
  | base : FrsRel C h L w [] C.cs0
  | cons {af fr afs cs} (hf : FrRel C h L w af fr) (hk : FrsRel C h L w afs cs) : FrsRel C h L w (af :: afs) (fr :: cs)

section
variable {C : Ctx} {h h' : AHeap} {L L' : Lay} {w w' : World} {P : Program}
theorem DefRel.step {ok ok' : Nat → Prop} (s : Step w ok h L w' ok' h' L') {ds : List (Nat × Nat)} {cs : List Deferred} (hd : DefRel h L ds cs) : DefRel h' L' ds cs := by
  obtain ⟨gs, h1, h2, h3⟩ := hd
  exact ⟨gs, h1, h2, fun j d g hd hg => (h3 j d g hd hg).step s fun _ _ _ _ _ e => e⟩
theorem RndRel.step {ok ok' : Nat → Prop} (s : Step w ok h L w' ok' h' L') {r : Option (Nat × Nat)} {q : Option Nat} (hr : RndRel h L r q) : RndRel h' L' r q := by
  cases r with
  | none => exact hr
  | some p => obtain ⟨g, e, hl⟩ := hr; exact ⟨g, e, hl.step s fun _ _ _ _ _ e => e⟩
theorem ItRel.step {ok ok' : Nat → Prop} (s : Step w ok h L w' ok' h' L') {N : Nat} {x : AItem} {y : Item} (hx : ItRel P h L N x y) : ItRel P h' L' N x y := by
  cases hx with
  | code a c hm => exact .code a c hm
  | inBlock id => exact .inBlock id
  | inLoop a c hm => exact .inLoop a c hm
  | inReg ops k aos hm => exact .inReg ops k aos hm
  | inRF a i g hl => exact .inRF a i g (hl.step s fun _ _ _ _ _ e => e)
  | endRF a i g hl => exact .endRF a i g (hl.step s fun _ _ _ _ _ e => e)
  | beginRound => exact .beginRound
theorem ItsRel.step {ok ok' : Nat → Prop} (s : Step w ok h L w' ok' h' L') {N : Nat} {x : List AItem} {y : List Item} (hx : ItsRel P h L N x y) : ItsRel P h' L' N x y := by
  induction hx with
  | nil => exact .nil
  | cons hx _ ih => exact .cons (hx.step s) ih
theorem FrRel.step (s : Step w (okOf C h L) h L w' (okOf C h' L') h' L') {af : AFrame} {fr : Frame} (hf : FrRel C h L w af fr) : FrRel C h' L' w' af fr :=
  { hf with env := hf.env.step s, defs := hf.defs.step s, rnd := hf.rnd.step s, mode := hf.mode.imp id fun ⟨a, b, c⟩ => ⟨a, b, c.step s⟩ }
theorem FrsRel.step (s : Step w (okOf C h L) h L w' (okOf C h' L') h' L') {afs : List AFrame} {cs : List Frame} (hf : FrsRel C h L w afs cs) : FrsRel C h' L' w' afs cs := by
  induction hf with
  | base => exact .base
  | cons hf _ ih => exact .cons (hf.step s) ih
end

/-- **whatever stands for the frames comes to where Q holds** -/
def Ev (C : Ctx) (fs : List AFrame) (h : AHeap) (Q : List AFrame → AHeap → Prop) : Prop :=
  ∀ L fr cs w, FrsRel C h L w fs (fr :: cs) → HRel C h L w → fs ≠ [] →
    ∃ fs' h' L' fr' cs' w', Q fs' h' ∧ fs' ≠ [] ∧ FrsRel C h' L' w' fs' (fr' :: cs') ∧ HRel C h' L' w' ∧ Steps C.P (lone fr cs w) (lone fr' cs' w')

section
variable {C : Ctx} {h h' : AHeap} {L L' : Lay} {w w' : World} {Q : List AFrame → AHeap → Prop} {f : AFrame} {fs : List AFrame} {k : List AItem}

theorem Ev.now (hne : fs ≠ []) (hq : Q fs h) : Ev C fs h Q := fun L fr cs w hf H _ => ⟨fs, h, L, fr, cs, w, hq, hne, hf, H, .refl _ _⟩
theorem Ev.mono {Q' : List AFrame → AHeap → Prop} (he : Ev C fs h Q) (hq : ∀ fs h, Q fs h → Q' fs h) : Ev C fs h Q' := fun L fr cs w hf H hne =>
  let ⟨fs', h', L', fr', cs', w', q, n, a, b, s⟩ := he L fr cs w hf H hne
  ⟨fs', h', L', fr', cs', w', hq _ _ q, n, a, b, s⟩
theorem Ev.bind {Q' : List AFrame → AHeap → Prop} (he : Ev C fs h Q) (hq : ∀ fs h, Q fs h → Ev C fs h Q') : Ev C fs h Q' := fun L fr cs w hf H hne => by
  obtain ⟨fs', h', L', fr', cs', w', q, n, a, b, s⟩ := he L fr cs w hf H hne
  obtain ⟨fs2, h2, L2, fr2, cs2, w2, q2, n2, a2, b2, s2⟩ := hq _ _ q L' fr' cs' w' a b n
  exact ⟨fs2, h2, L2, fr2, cs2, w2, q2, n2, a2, b2, s.trans s2⟩

theorem go1 {P : Program} {fr fr' : Frame} {cs cs' : List Frame} {w w' : World}
    (h : (stepG P true { frame := fr, callers := cs, status := .running, dying := none } w).bare = .go { frame := fr', callers := cs', status := .running, dying := none } w') : Steps P (lone fr cs w) (lone fr' cs' w') := .one (step_lone_go h)

/-- the top frame's work is rewritten -/
theorem ev_todo {todo' : List AItem} (hr : f.ret = false) (hc : ∀ (fr : Frame) (L : Lay), fr.mode = .run → ItsRel C.P h L f.N f.todo fr.todo → ∃ t', ItsRel C.P h L f.N todo' t' ∧ ∀ cs w, Steps C.P (lone fr cs w) (lone { fr with todo := t' } cs w))
    (hq : Ev C ({ f with todo := todo' } :: fs) h Q) : Ev C (f :: fs) h Q := by
  intro L fr cs w hf H _
  cases hf with
  | cons hf hk =>
    rcases hf.mode with ⟨e, _⟩ | ⟨_, hm, hi⟩
    · rw [hr] at e; cases e
    · obtain ⟨t', h1, h2⟩ := hc fr L hm hi
      obtain ⟨fs2, h2', L2, fr2, cs2, w2, q2, n2, a2, b2, s2⟩ := hq L { fr with todo := t' } cs w (.cons ⟨hf.fn, hf.size, hf.env, hf.kind, hf.defs, hf.rnd, .inr ⟨hr, hm, h1⟩, hf.res⟩ hk) H (by simp)
      exact ⟨fs2, h2', L2, fr2, cs2, w2, q2, n2, a2, b2, (h2 cs w).trans s2⟩

theorem ev_skip (hr : f.ret = false) (ht : f.todo = .code .skip :: k) (hq : Ev C ({ f with todo := k } :: fs) h Q) : Ev C (f :: fs) h Q := by
  refine ev_todo hr (fun fr L hm hi => ?_) hq
  rw [ht] at hi
  obtain ⟨fn, tmps, todo, defers, mode, kind, rnd⟩ := fr
  cases hi with
  | cons hx hk =>
    cases hx with
    | code a c hmc =>
      dsimp only at hm; subst hm
      cases c <;> simp only [mcode, Bool.false_eq_true] at hmc
      exact ⟨_, hk, fun cs w => go1 (by simp [stepG, stepG.exec])⟩
theorem ev_gh0 {gs : List Ghost} {c : ACode} (hr : f.ret = false) (ht : f.todo = .code (.gh gs c) :: k) (hq : Ev C ({ f with todo := .code c :: k } :: fs) h Q) : Ev C (f :: fs) h Q := by
  refine ev_todo hr (fun fr L hm hi => ?_) hq
  rw [ht] at hi
  cases hi' : fr.todo with
  | nil => rw [hi'] at hi; cases hi
  | cons y l =>
    rw [hi'] at hi
    cases hi with
    | cons hx hk =>
      cases hx with
      | code a c hmc =>
        refine ⟨_, .cons (.code _ _ (by simpa [mcode] using hmc)) hk, fun cs w => ?_⟩
        rw [← hi']
        exact .refl _ _
theorem ev_inBlock {id : Nat} (hr : f.ret = false) (ht : f.todo = .inBlock id :: k) (hq : Ev C ({ f with todo := k } :: fs) h Q) : Ev C (f :: fs) h Q := by
  refine ev_todo hr (fun fr L hm hi => ?_) hq
  rw [ht] at hi
  obtain ⟨fn, tmps, todo, defers, mode, kind, rnd⟩ := fr
  cases hi with
  | cons hx hk =>
    cases hx
    dsimp only at hm; subst hm
    exact ⟨_, hk, fun cs w => go1 (by simp [stepG, stepG.exec])⟩
theorem ev_seq {a b : ACode} (hr : f.ret = false) (ht : f.todo = .code (.seq a b) :: k) (hq : Ev C ({ f with todo := .code a :: .code b :: k } :: fs) h Q) : Ev C (f :: fs) h Q := by
  refine ev_todo hr (fun fr L hm hi => ?_) hq
  rw [ht] at hi
  obtain ⟨fn, tmps, todo, defers, mode, kind, rnd⟩ := fr
  cases hi with
  | cons hx hk =>
    cases hx with
    | code _ c hmc =>
      dsimp only at hm; subst hm
      cases c <;> simp only [mcode, Bool.false_eq_true, Bool.and_eq_true] at hmc
      exact ⟨_, .cons (.code _ _ hmc.1) (.cons (.code _ _ hmc.2) hk), fun cs w => go1 (by simp [stepG, stepG.exec])⟩
theorem ev_block {id : Nat} {b : ACode} (hr : f.ret = false) (ht : f.todo = .code (.block id b) :: k) (hq : Ev C ({ f with todo := .code b :: .inBlock id :: k } :: fs) h Q) : Ev C (f :: fs) h Q := by
  refine ev_todo hr (fun fr L hm hi => ?_) hq
  rw [ht] at hi
  obtain ⟨fn, tmps, todo, defers, mode, kind, rnd⟩ := fr
  cases hi with
  | cons hx hk =>
    cases hx with
    | code _ c hmc =>
      dsimp only at hm; subst hm
      cases c <;> simp only [mcode, Bool.false_eq_true, Bool.and_eq_true, beq_iff_eq] at hmc
      obtain ⟨rfl, hmc⟩ := hmc
      exact ⟨_, .cons (.code _ _ hmc) (.cons (.inBlock _) hk), fun cs w => go1 (by simp [stepG, stepG.exec])⟩
theorem ev_loop {b : ACode} (hr : f.ret = false) (ht : f.todo = .code (.loop b) :: k) (hq : Ev C ({ f with todo := .code b :: .inLoop b :: k } :: fs) h Q) : Ev C (f :: fs) h Q := by
  refine ev_todo hr (fun fr L hm hi => ?_) hq
  rw [ht] at hi
  obtain ⟨fn, tmps, todo, defers, mode, kind, rnd⟩ := fr
  cases hi with
  | cons hx hk =>
    cases hx with
    | code _ c hmc =>
      dsimp only at hm; subst hm
      cases c <;> simp only [mcode, Bool.false_eq_true] at hmc
      exact ⟨_, .cons (.code _ _ hmc) (.cons (.inLoop _ _ hmc) hk), fun cs w => go1 (by simp [stepG, stepG.exec])⟩
theorem ev_inLoop {b : ACode} (hr : f.ret = false) (ht : f.todo = .inLoop b :: k) (hq : Ev C ({ f with todo := .code b :: .inLoop b :: k } :: fs) h Q) : Ev C (f :: fs) h Q := by
  refine ev_todo hr (fun fr L hm hi => ?_) hq
  rw [ht] at hi
  obtain ⟨fn, tmps, todo, defers, mode, kind, rnd⟩ := fr
  cases hi with
  | cons hx hk =>
    cases hx with
    | inLoop _ c hmc =>
      dsimp only at hm; subst hm
      exact ⟨_, .cons (.code _ _ hmc) (.cons (.inLoop _ _ hmc) hk), fun cs w => go1 (by simp [stepG, stepG.exec])⟩
theorem exit_rel {P : Program} {N id : Nat} : ∀ {k : List AItem} {l : List Item} {k' : List AItem}, ItsRel P h L N k l → exitToA id k = some k' → ∃ l', exitTo id l = some l' ∧ ItsRel P h L N k' l'
  | [], [], k', .nil, he => by cases he
  | x :: k, y :: l, k', .cons hx hk, he => by
    cases hx with
    | inBlock id' =>
      simp only [exitToA] at he
      by_cases e : id' = id
      · subst e
        have : Nat.beq id' id' = true := by simp
        rw [this] at he
        cases he
        exact ⟨l, by simp [exitTo], hk⟩
      · have : Nat.beq id' id = false := by cases hb : Nat.beq id' id with | false => rfl | true => exact absurd (Nat.eq_of_beq_eq_true hb) e
        rw [this] at he
        obtain ⟨l', h1, h2⟩ := exit_rel hk he
        exact ⟨l', by simp [exitTo, e, h1], h2⟩
    | _ => obtain ⟨l', h1, h2⟩ := exit_rel hk he; exact ⟨l', by simp [exitTo, h1], h2⟩
theorem exit_none {P : Program} {N id : Nat} : ∀ {k : List AItem} {l : List Item}, ItsRel P h L N k l → exitToA id k = none → exitTo id l = none
  | [], [], .nil, _ => rfl
  | x :: k, y :: l, .cons hx hk, he => by
    cases hx with
    | inBlock id' =>
      simp only [exitToA] at he
      by_cases e : id' = id
      · subst e
        have : Nat.beq id' id' = true := by simp
        rw [this] at he; cases he
      · have : Nat.beq id' id = false := by cases hb : Nat.beq id' id with | false => rfl | true => exact absurd (Nat.eq_of_beq_eq_true hb) e
        rw [this] at he
        have h1 := exit_none hk he
        simp [exitTo, e, h1]
    | _ => have h1 := exit_none hk he; simp [exitTo, h1]
theorem ev_exit {id : Nat} {k' : List AItem} (hr : f.ret = false) (ht : f.todo = .code (.exit id) :: k) (he : exitToA id k = some k') (hq : Ev C ({ f with todo := k' } :: fs) h Q) : Ev C (f :: fs) h Q := by
  refine ev_todo hr (fun fr L hm hi => ?_) hq
  rw [ht] at hi
  obtain ⟨fn, tmps, todo, defers, mode, kind, rnd⟩ := fr
  cases hi with
  | cons hx hk =>
    cases hx with
    | code _ c hmc =>
      dsimp only at hm; subst hm
      cases c <;> simp only [mcode, Bool.false_eq_true, beq_iff_eq] at hmc
      subst hmc
      obtain ⟨l', h1, h2⟩ := exit_rel hk he
      exact ⟨_, h2, fun cs w => go1 (by simp [stepG, stepG.exec, h1])⟩
theorem ev_reg {ops : List AOp} (hr : f.ret = false) (ht : f.todo = .code (.reg none ops) :: k) (hq : Ev C ({ f with todo := .inReg ops :: k } :: fs) h Q) : Ev C (f :: fs) h Q := by
  refine ev_todo hr (fun fr L hm hi => ?_) hq
  rw [ht] at hi
  obtain ⟨fn, tmps, todo, defers, mode, kind, rnd⟩ := fr
  cases hi with
  | cons hx hk =>
    cases hx with
    | code _ c hmc =>
      dsimp only at hm; subst hm
      cases c <;> simp only [mcode, Bool.false_eq_true, Bool.and_eq_true, beq_iff_eq] at hmc
      rename_i id ops' draw
      obtain ⟨⟨rfl, hmc⟩, _⟩ := hmc
      refine ⟨_, .cons (.inReg ops'.toList 0 _ (by simpa using hmc)) hk, fun cs w => go1 ?_⟩
      simp [stepG, stepG.exec]
theorem ev_regEnd (hr : f.ret = false) (ht : f.todo = .inReg [] :: k) (hq : Ev C ({ f with todo := k } :: fs) h Q) : Ev C (f :: fs) h Q := by
  refine ev_todo hr (fun fr L hm hi => ?_) hq
  rw [ht] at hi
  obtain ⟨fn, tmps, todo, defers, mode, kind, rnd⟩ := fr
  cases hi with
  | cons hx hk =>
    cases hx with
    | inReg ops kk _ hmc =>
      dsimp only at hm; subst hm
      have hle : ops.length ≤ kk := by
        rcases Nat.lt_or_ge kk ops.length with h1 | h1
        · rw [List.drop_eq_getElem_cons h1] at hmc; simp [maops] at hmc
        · exact h1
      have hnil : (List.range ops.length).drop kk = [] := List.drop_of_length_le (by simpa using hle)
      refine ⟨_, hk, fun cs w => go1 ?_⟩
      rw [hnil]
      simp [stepG, stepG.exec]
theorem opdL {x : Opd} {y : Operand} {fr : Frame} (hm : mopd x y = true) (he : EnvRel C h L w f.env fr.tmps) : RelC C h L w (opdV (aget f.env) x) (fr.eval y) := by
  unfold mopd at hm
  split at hm
  · rename_i n m
    have : n = m := by simpa using hm
    subst this
    simp only [opdV, Frame.eval]
    cases hg : aget f.env n with
    | none => exact .top _
    | some av => exact he n av hg
  · rename_i av v
    exact cmatch_rel hm
  · rename_i f' g
    have : f' = g := by simpa using hm
    subst this
    exact .fn _ _ _ rfl (fun j u v hu => by simp at hu)
  · cases hm
theorem ev_cond {c : Opd} {a b : ACode} {t : Bool} (hr : f.ret = false) (ht : f.todo = .code (.cond c a b) :: k) (hc : opdV (aget f.env) c = .bool t) (hq : Ev C ({ f with todo := .code (selC t a b) :: k } :: fs) h Q) : Ev C (f :: fs) h Q := by
  intro L fr cs w hf H _
  cases hf with
  | cons hf hk =>
    rcases hf.mode with ⟨e, _⟩ | ⟨_, hm, hi⟩
    · rw [hr] at e; cases e
    · rw [ht] at hi
      cases hi' : fr.todo with
      | nil => rw [hi'] at hi; cases hi
      | cons y l =>
        rw [hi'] at hi
        cases hi with
        | cons hx hki =>
          cases hx with
          | code _ cc hmc =>
            cases cc <;> simp only [mcode, Bool.false_eq_true, Bool.and_eq_true] at hmc
            rename_i c' x y
            obtain ⟨⟨h1, h2⟩, h3⟩ := hmc
            have hv : fr.eval c' = .bool t := by have := opdL h1 hf.env; rw [hc] at this; exact bool_of this
            have hcode : mcode C.P f.N (selC t a b) (if t then x else y) = true := by cases t <;> simpa
            obtain ⟨fs2, h2', L2, fr2, cs2, w2, q2, n2, a2, b2, s2⟩ := hq L { fr with todo := .code (if t then x else y) :: l } cs w (.cons ⟨hf.fn, hf.size, hf.env, hf.kind, hf.defs, hf.rnd, .inr ⟨hr, hm, .cons (.code _ _ hcode) hki⟩, hf.res⟩ hk) H (by simp)
            refine ⟨fs2, h2', L2, fr2, cs2, w2, q2, n2, a2, b2, Steps.trans (go1 ?_) s2⟩
            obtain ⟨fn, tmps, todo, defers, mode, kind, rnd⟩ := fr
            dsimp only at hm hi' hv
            subst hm; subst hi'
            simp [stepG, stepG.exec, hv]

/-! ### Leaving a function -/
theorem ev_ret0 (hr : f.ret = false) (hn : f.rnd = none) (ht : f.todo = [] ∨ ∃ k, f.todo = .code .ret :: k) (hq : Ev C ({ f with ret := true, todo := [] } :: fs) h Q) : Ev C (f :: fs) h Q := by
  intro L fr cs w hf H _
  cases hf with
  | cons hf hk =>
    rcases hf.mode with ⟨e, _⟩ | ⟨_, hm, hi⟩
    · rw [hr] at e; cases e
    · have hrn : fr.roundOf = none := by have := hf.rnd; rw [hn] at this; exact this
      have hst : Steps C.P (lone fr cs w) (lone { fr with mode := .returning } cs w) := by
        obtain ⟨fn, tmps, todo, defers, mode, kind, rnd⟩ := fr
        dsimp only at hm hrn hi
        subst hm; subst hrn
        rcases ht with ht | ⟨k, ht⟩
        · rw [ht] at hi; cases hi
          exact go1 (by simp [stepG, stepG.exec])
        · rw [ht] at hi
          cases hi with
          | cons hx hki =>
            cases hx with
            | code _ cc hmc =>
              cases cc <;> simp only [mcode, Bool.false_eq_true] at hmc
              exact go1 (by simp [stepG, stepG.exec])
      obtain ⟨fs2, h2', L2, fr2, cs2, w2, q2, n2, a2, b2, s2⟩ := hq L { fr with mode := .returning } cs w (.cons ⟨hf.fn, hf.size, hf.env, hf.kind, hf.defs, hf.rnd, .inl ⟨rfl, rfl⟩, hf.res⟩ hk) H (by simp)
      exact ⟨fs2, h2', L2, fr2, cs2, w2, q2, n2, a2, b2, hst.trans s2⟩
end
end Go.Proofs.Ytimmgjppippdiaa
