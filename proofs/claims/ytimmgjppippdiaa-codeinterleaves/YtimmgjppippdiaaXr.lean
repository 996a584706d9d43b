/- The machine runs. No condition. -/
import Derived.Test.YtimmgjppippdiaaXq
namespace Go.Proofs.Ytimmgjppippdiaa
open Go.RowKit (Below)

abbrev Con := FuncId → List AV → Option (Bool × AV × Option Fresh)
def ConOK (P : Program) (K : Con) : Prop := ∀ f args r fr, K f args = some (true, r, fr) → Pure P f args r fr

def askB (a : Nat) (r : AV) (m : Bool) : Option Fresh → Bool
  | none => r.pure && (!m || r.solid)
  | some f => match Nat.beq f.sz 0 with | true => r.pure | false => Nat.blt 0 a && (pureT r && (f.r.pure && (!m || (r.solid && f.r.solid))))
def argsR (A : Ar) (h : AHeap) (m : Bool) (avs : List AV) : Option (Bool × List AV) :=
  match m with
  | true => snapL A h avs
  | false => match AV.pureL avs with | true => some (true, avs) | false => none
def callR (A : Ar) (K : Con) (h : AHeap) (a : Nat) (f : FuncId) (avs : List AV) : Option (Bool × AV × AHeap) :=
  match argsR A h (!AV.pureL avs) avs with
  | none => none
  | some (b0, avs') => match K f avs' with
    | none => none
    | some (b, r0, fr) => match askB a r0 (!AV.pureL avs) fr with
      | true => some (A.and b0 b, adopt h a r0 fr)
      | false => none
def isF (T : Tab) (f : FuncId) : Bool := match T f with | some _ => true | none => false
def opStep (A : Ar) (T : Tab) (K : Con) (ρ : Opd → AV) (h : AHeap) : OpK → Option (Bool × AV × AHeap)
  | .ncall _ a f args => callR A K h a f (args.map ρ)
  | .ncallv _ a x args => match ρ x with
    | .fn f caps => (match isF T f with | true => callR A K h a f (args.map ρ ++ caps) | false => none)
    | _ => none
  | k => opRun A ρ h k
/-- the guard: to run, or not to run -/
def guardB (o : AOp) (env : List (Nat × AV)) : Option Bool :=
  match o.g with
  | none => some true
  | some (t, want) => match aget env t with
    | some (.bool b) => (match want with | true => some b | false => some (!b))
    | some .und => some false
    | _ => none
def aopStep (A : Ar) (T : Tab) (K : Con) (o : AOp) (env : List (Nat × AV)) (h : AHeap) : Option (Bool × AV × AHeap) :=
  match guardB o env with
  | none => none
  | some g => match g with
    | true => opStep A T K (opdV (aget env)) h o.k
    | false => some (true, .und, h)
/-- the blocks that an operation may turn, and those that it may look at -/
def wOf (ρ : Opd → AV) (h : AHeap) : OpK → List (Nat × Nat)
  | .store _ p _ => refs1 (ρ p)
  | .box a _ _ => [(a, nxt h a)]
  | .alloc a _ _ => [(a, nxt h a)]
  | .bslice a _ _ _ => [(a, nxt h a)]
  | .mkslice a _ _ _ _ => [(a, nxt h a)]
  | .append a _ _ x _ => (a, nxt h a) :: refs1 (ρ x)
  | .copy _ x _ => refs1 (ρ x)
  | .ncall _ a _ _ => [(a, nxt h a)]
  | .ncallv _ a _ _ => [(a, nxt h a)]
  | _ => []
def footOf (env : List (Nat × AV)) (h : AHeap) (o : AOp) : Foot := ⟨o, o.k.looks.flatMap fun x => refsK h o.k (opdV (aget env) x), wOf (opdV (aget env)) h o.k⟩
def memB (p : Nat × Nat) : List (Nat × Nat) → Bool
  | [] => false
  | q :: l => match Nat.beq p.1 q.1 with | true => (match Nat.beq p.2 q.2 with | true => true | false => memB p l) | false => memB p l
def disjB (m : List (Nat × Nat)) : List (Nat × Nat) → Bool
  | [] => true
  | p :: l => match memB p m with | true => false | false => disjB m l
def freeB (zs : List Foot) : List (Nat × Nat) → Bool
  | [] => true
  | (i, j) :: fr => match zs[i]?, zs[j]? with
    | some x, some z => (match (z.o.k.neutral && disjB x.w z.r) || (x.o.k.neutral && disjB z.w x.r) with | true => freeB zs fr | false => false)
    | _, _ => freeB zs fr
def drawR (A : Ar) (T : Tab) (K : Con) : List AOp → List Bool → List (Nat × AV) → AHeap → Option (List Bool × List (Nat × AV) × AHeap)
  | [], acc, env, h => some (acc, env, h)
  | o :: os, acc, env, h => match aopStep A T K o env h with
    | some (b, r, h') => drawR A T K os (b :: acc) (putL env o.d r) h'
    | none => none
def drawZ (A : Ar) (T : Tab) (K : Con) : List AOp → List (Nat × AV) → AHeap → List Foot
  | [], _, _ => []
  | o :: os, env, h => footOf env h o :: match aopStep A T K o env h with
    | some (_, r, h') => drawZ A T K os (putL env o.d r) h'
    | none => []
def drawB (A : Ar) (T : Tab) (K : Con) (fr : List (Nat × Nat)) (os : List AOp) (env : List (Nat × AV)) (h : AHeap) : Bool :=
  match fr with
  | [] => true
  | fr => freeB (drawZ A T K os env h) fr

section
variable {C : Ctx} {T : Tab} {K : Con} {h h' : AHeap} {f : AFrame} {fs : List AFrame} {k : List AItem} {Q : List AFrame → AHeap → Prop}

theorem solidL_all : ∀ (l : List AV), (∀ z ∈ l, z.solid = true) → AV.solidL l = true
  | [], _ => rfl
  | z :: zs, hz => by simp only [AV.solidL, Bool.and_eq_true]; exact ⟨hz z List.mem_cons_self, solidL_all zs (fun q hq => hz q (List.mem_cons_of_mem _ hq))⟩
theorem solidL_in : ∀ {l : List AV}, AV.solidL l = true → ∀ z ∈ l, z.solid = true
  | y :: ys, h, z, hz => by
    simp only [AV.solidL, Bool.and_eq_true] at h
    rcases List.mem_cons.1 hz with e | e
    · rw [e]; exact h.1
    · exact solidL_in h.2 z e
theorem solidL_app {a b : List AV} (ha : AV.solidL a = true) (hb : AV.solidL b = true) : AV.solidL (a ++ b) = true :=
  solidL_all _ (fun z hz => (List.mem_append.1 hz).elim (solidL_in ha z) (solidL_in hb z))
theorem solidR_in {r : Row} (hs : r.solid = true) : ∀ z ∈ r.elems, z.solid = true := fun z hz => by
  obtain ⟨j, hj⟩ := List.mem_iff_getElem?.1 hz
  exact Row.solid_mem hs hj
theorem allSolid_of {r : Row} (hs : r.solid = true) : r.allSolid := by
  have hm := solidR_in hs
  unfold Row.allSolid
  generalize r.elems = l at hm
  induction l with
  | nil => rfl
  | cons y ys ih =>
    rw [flatAll_cons]
    refine solidL_app ?_ (ih (fun z hz => hm z (List.mem_cons_of_mem _ hz)))
    have h1 := hm y List.mem_cons_self
    cases y with
    | agg q => exact solidL_all _ (solidR_in (by simpa [AV.solid] using h1))
    | _ => simp only [AV.flat, AV.solidL, Bool.and_true]; exact h1
theorem askB_fr {a : Nat} {r : AV} {m : Bool} {fr : Option Fresh} (h : askB a r m fr = true) : AskFr a r m fr := by
  cases fr with
  | none =>
    simp only [askB, Bool.and_eq_true, Bool.or_eq_true, Bool.not_eq_true'] at h
    exact ⟨h.1, fun e => by rcases h.2 with h2 | h2 <;> simp_all⟩
  | some f =>
    cases hz : Nat.beq f.sz 0 with
    | true => simp only [askB, hz] at h; exact .inl ⟨Nat.eq_of_beq_eq_true hz, h⟩
    | false =>
      simp only [askB, hz, Bool.and_eq_true, Bool.or_eq_true, Bool.not_eq_true', Nat.blt_eq] at h
      obtain ⟨h1, h2, h3, h4⟩ := h
      exact .inr ⟨(fun e => by rw [e] at hz; cases hz), (by omega), h2, pureL_flatAll h3, fun e => by rcases h4 with h4 | h4 <;> simp_all [allSolid_of]⟩
theorem callR_sound {P : Program} (hK : ConOK P K) {a : Nat} {f : FuncId} {avs : List AV} {r : AV} (hc : callR std K h a f avs = some (true, r, h')) : ∃ m, CallDo P h m a f avs r h' := by
  unfold callR at hc
  split at hc
  · cases hc
  · rename_i b0 avs' ha
    split at hc
    · cases hc
    · rename_i b r0 fr hk
      split at hc
      · rename_i hask
        simp only [Option.some.injEq, Prod.mk.injEq, std_and] at hc
        obtain ⟨⟨rfl, rfl⟩, hc⟩ := hc
        refine ⟨!AV.pureL avs, avs', r0, fr, ?_, hK _ _ _ _ hk, askB_fr hask, hc⟩
        unfold argsR at ha
        generalize hm : (!AV.pureL avs) = m at ha
        cases m with
        | true => simpa using ha
        | false =>
          simp only at ha
          split at ha
          · rename_i hp; cases ha; simp [hp]
          · cases ha
      · cases hc
theorem callee_of (hT : TabOK C.P T) {f : FuncId} (hi : isF T f = true) : calleeOk C.P f = true := by
  unfold isF at hi
  split at hi
  · rename_i af hf
    have := hT f af hf
    unfold mfunc at this
    split at this
    · simp only [Bool.and_eq_true] at this; exact this.2
    · cases this
  · cases hi
theorem opStep_sound (hT : TabOK C.P T) (hK : ConOK C.P K) {ρ : Opd → AV} {kk : OpK} {r : AV} (hc : opStep std T K ρ h kk = some (true, r, h')) : OpDo C.P ρ h kk r h' := by
  cases kk with
  | ncall m a f args => exact callR_sound hK hc
  | ncallv m a x args =>
    simp only [opStep] at hc
    split at hc
    · rename_i f caps hx
      split at hc
      · rename_i hi
        obtain ⟨m', hc⟩ := callR_sound hK hc
        exact ⟨f, caps, m', hx, callee_of hT hi, hc⟩
      · cases hc
    · cases hc
  | _ => exact hc
theorem aopStep_sound (hT : TabOK C.P T) (hK : ConOK C.P K) {o : AOp} {env : List (Nat × AV)} {r : AV} (hc : aopStep std T K o env h = some (true, r, h')) : AOpDo C.P o (aget env) h r h' := by
  unfold aopStep at hc
  unfold AOpDo
  split at hc
  · cases hc
  · rename_i g hg
    unfold guardB at hg
    split at hc
    · split at hg
      · rename_i hgg; rw [hgg]; exact opStep_sound hT hK hc
      · rename_i t want hgg
        rw [hgg]
        split at hg
        · rename_i b hb
          split at hg
          · simp only [Option.some.injEq] at hg; subst hg; exact .inl ⟨hb, opStep_sound hT hK hc⟩
          · simp only [Option.some.injEq, Bool.not_eq_true'] at hg; subst hg; exact .inl ⟨hb, opStep_sound hT hK hc⟩
        · simp at hg
        · cases hg
    · simp only [Option.some.injEq, Prod.mk.injEq, true_and] at hc
      obtain ⟨rfl, rfl⟩ := hc
      split at hg
      · simp at hg
      · rename_i t want hgg
        rw [hgg]
        split at hg
        · rename_i b hb
          split at hg
          · simp only [Option.some.injEq] at hg; subst hg; exact .inr (.inl ⟨hb, rfl, rfl⟩)
          · simp only [Option.some.injEq, Bool.not_eq_false'] at hg; subst hg; exact .inr (.inl ⟨hb, rfl, rfl⟩)
        · rename_i hb; exact .inr (.inr ⟨hb, rfl, rfl⟩)
        · cases hg
theorem drawR_acc {A : Ar} : ∀ {os : List AOp} {acc acc' : List Bool} {env env' : List (Nat × AV)} {h h' : AHeap}, drawR A T K os acc env h = some (acc', env', h') → ∀ b ∈ acc, b ∈ acc'
  | [], acc, acc', env, env', h, h', hd, b, hb => by simp only [drawR, Option.some.injEq, Prod.mk.injEq] at hd; obtain ⟨rfl, _, _⟩ := hd; exact hb
  | o :: os, acc, acc', env, env', h, h', hd, b, hb => by
    simp only [drawR] at hd
    split at hd
    · exact drawR_acc hd b (List.mem_cons_of_mem _ hb)
    · cases hd
theorem memB_iff {p : Nat × Nat} : ∀ {l : List (Nat × Nat)}, memB p l = true ↔ p ∈ l
  | [] => by simp [memB]
  | q :: l => by
    obtain ⟨a, i⟩ := p; obtain ⟨b, j⟩ := q
    have ih := memB_iff (p := (a, i)) (l := l)
    have hb : ∀ a b : Nat, Nat.beq a b = decide (a = b) := fun a b => by rw [Bool.eq_iff_iff]; simp
    simp only [memB, hb, List.mem_cons, Prod.mk.injEq]
    by_cases h1 : a = b
    · subst h1
      by_cases h2 : i = j
      · subst h2; simp
      · simp [h2, ih]
    · simp [h1, ih]
theorem disjB_spec {m : List (Nat × Nat)} : ∀ {l : List (Nat × Nat)}, disjB m l = true → Disj l m
  | [], _ => fun p hp => by simp at hp
  | q :: l, h => by
    simp only [disjB] at h
    split at h
    · cases h
    · rename_i hq
      intro p hp
      rcases List.mem_cons.1 hp with e | e
      · rw [e]; intro hm; rw [memB_iff.2 hm] at hq; cases hq
      · exact disjB_spec h p e
theorem freeB_spec {zs : List Foot} : ∀ {fr : List (Nat × Nat)}, freeB zs fr = true → ∀ (i j : Nat) (x z : Foot), (i, j) ∈ fr → zs[i]? = some x → zs[j]? = some z → (z.o.k.neutral = true ∧ Disj z.r x.w) ∨ (x.o.k.neutral = true ∧ Disj x.r z.w)
  | [], _, i, j, x, z, hm, _, _ => by simp at hm
  | (a, b) :: fr, h, i, j, x, z, hm, hx, hz => by
    simp only [freeB] at h
    rcases List.mem_cons.1 hm with e | e
    · cases e
      rw [hx, hz] at h
      simp only at h
      split at h
      · rename_i hc
        simp only [Bool.or_eq_true, Bool.and_eq_true] at hc
        exact hc.imp (fun h => ⟨h.1, disjB_spec h.2⟩) (fun h => ⟨h.1, disjB_spec h.2⟩)
      · cases h
    · refine freeB_spec (fr := fr) ?_ i j x z e hx hz
      split at h
      · split at h
        · exact h
        · cases h
      · exact h

theorem set_off {h : AHeap} {c i : Nat} {b : Blk} (hb : blk h c i ≠ .dead) {p : Nat × Nat} (hp : p ≠ (c, i)) : blk (setB h c i b) p.1 p.2 = blk h p.1 p.2 := by
  rw [blk_set hb, if_neg (fun e => hp (by obtain ⟨a, j⟩ := p; simp only at e; rw [e.1, e.2]))]
theorem push_off {h : AHeap} {a : Nat} {b : Blk} {p : Nat × Nat} (hp : p ≠ (a, nxt h a)) : blk (pushB h a b) p.1 p.2 = blk h p.1 p.2 := by
  rw [blk_push, if_neg (fun e => hp (by obtain ⟨c, j⟩ := p; simp only at e; rw [← e.1, e.2]))]
theorem call_eff {P : Program} {m : Bool} {a : Nat} {f : FuncId} {avs : List AV} {r : AV} (hd : CallDo P h m a f avs r h') {p : Nat × Nat} (hp : p ≠ (a, nxt h a)) : blk h' p.1 p.2 = blk h p.1 p.2 := by
  obtain ⟨avs', r0, fr, _, _, _, had⟩ := hd
  cases fr with
  | none => simp only [adopt, Prod.mk.injEq] at had; rw [← had.2]
  | some f =>
    simp only [adopt] at had
    split at had
    · simp only [Prod.mk.injEq] at had; rw [← had.2]
    · simp only [Prod.mk.injEq] at had; rw [← had.2]; exact push_off hp
theorem opDo_eff {P : Program} {k : OpK} {ρ : Opd → AV} {r : AV} (hd : OpDo P ρ h k r h') : ∀ p : Nat × Nat, p ∉ wOf ρ h k → blk h' p.1 p.2 = blk h p.1 p.2 := by
  intro p hp
  by_cases hn : k.neutral = true
  · rw [opDo_neutral hn hd]
  have row_ne : ∀ {c i e sz : Nat} {r : Row}, blk h c i = .row e sz r → blk h c i ≠ .dead := fun hb => by rw [hb]; simp
  cases k with
  | ncall m a f args => obtain ⟨m', hd⟩ := hd; exact call_eff hd (by simpa [wOf] using hp)
  | ncallv m a x args => obtain ⟨f, caps, m', _, _, hc⟩ := hd; exact call_eff hc (by simpa [wOf] using hp)
  | box a e x =>
    simp only [OpDo, opRun, Option.some.injEq, Prod.mk.injEq] at hd
    rw [← hd.2.2]; exact push_off (by simpa [wOf] using hp)
  | alloc a e z =>
    simp only [OpDo, opRun, Option.some.injEq, Prod.mk.injEq] at hd
    rw [← hd.2.2]; exact push_off (by simpa [wOf] using hp)
  | bslice a e sz ps =>
    simp only [OpDo, opRun, Option.some.injEq, Prod.mk.injEq] at hd
    rw [← hd.2.2]; exact push_off (by simpa [wOf] using hp)
  | mkslice a e sz z ln =>
    simp only [OpDo, opRun] at hd
    split at hd
    · simp only [Option.some.injEq, Prod.mk.injEq] at hd
      rw [← hd.2.2]; exact push_off (by simpa [wOf] using hp)
    · cases hd
  | store n q x =>
    simp only [OpDo, opRun, storeR, wOf] at hd hp
    split at hd
    · rename_i a i k off hq
      rw [hq] at hp
      split at hd
      · rename_i e sz rr hb
        split at hd
        · simp only [Option.some.injEq, Prod.mk.injEq] at hd
          rw [← hd.2.2]; exact set_off (row_ne hb) (by simpa [refs1] using hp)
        · cases hd
      · cases hd
    · cases hd
  | copy sz x y =>
    simp only [OpDo, opRun, copyR, wOf] at hd hp
    split at hd
    · cases hd
    · split at hd
      · rename_i c i hx
        rw [hx] at hp
        split at hd
        · rename_i hb
          simp only [Option.some.injEq, Prod.mk.injEq] at hd
          rw [← hd.2.2]; exact set_off (row_ne hb) (by simpa [refs1] using hp)
        · cases hd
      · rename_i c i k n q hx
        rw [hx] at hp
        split at hd
        · rename_i hb
          simp only [Option.some.injEq, Prod.mk.injEq] at hd
          rw [← hd.2.2]; exact set_off (row_ne hb) (by simpa [refs1] using hp)
        · cases hd
      · rename_i c i k off n hx
        rw [hx] at hp
        split at hd
        · rename_i hb
          split at hd
          · simp only [Option.some.injEq, Prod.mk.injEq] at hd
            rw [← hd.2.2]; exact set_off (row_ne hb) (by simpa [refs1] using hp)
          · cases hd
        · cases hd
      · cases hd
  | append a e sz x y =>
    simp only [OpDo, opRun, appR, wOf, List.mem_cons, not_or] at hd hp
    obtain ⟨hp1, hp2⟩ := hp
    split at hd
    · cases hd
    · split at hd
      · split at hd
        · simp only [Option.some.injEq, Prod.mk.injEq] at hd; rw [← hd.2.2]
        · simp only [Option.some.injEq, Prod.mk.injEq] at hd; rw [← hd.2.2]; exact push_off hp1
      · rename_i c i hx
        rw [hx] at hp2
        split at hd
        · rename_i hb
          simp only [Option.some.injEq, Prod.mk.injEq] at hd
          rw [← hd.2.2]
          rw [push_off (by rw [nxt_set]; exact hp1), set_off (row_ne hb) (by simpa [refs1] using hp2)]
        · cases hd
      · rename_i c i n hx
        rw [hx] at hp2
        split at hd
        · rename_i hb
          simp only [Option.some.injEq, Prod.mk.injEq] at hd
          rw [← hd.2.2]; exact set_off (row_ne hb) (by simpa [refs1] using hp2)
        · cases hd
      · cases hd
  | _ => first | (exact absurd rfl hn) | (simp [OpDo, opRun] at hd)
theorem aopDo_eff {P : Program} {o : AOp} {ε : Env} {r : AV} (hd : AOpDo P o ε h r h') : ∀ p : Nat × Nat, p ∉ wOf (opdV ε) h o.k → blk h' p.1 p.2 = blk h p.1 p.2 := by
  unfold AOpDo at hd
  split at hd
  · exact opDo_eff hd
  · rcases hd with ⟨_, h3⟩ | ⟨_, _, h3⟩ | ⟨_, _, h3⟩
    · exact opDo_eff h3
    · rw [h3]; exact fun _ _ => rfl
    · rw [h3]; exact fun _ _ => rfl
theorem drawR_sound (hT : TabOK C.P T) (hK : ConOK C.P K) : ∀ {os : List AOp} {acc acc' : List Bool} {env env' : List (Nat × AV)} {h h' : AHeap}, drawR std T K os acc env h = some (acc', env', h') → (∀ b ∈ acc', b = true) → (drawZ std T K os env h).map (·.o) = os ∧ Runs C.P (drawZ std T K os env h) (aget env) h (aget env') h'
  | [], acc, acc', env, env', h, h', hd, _ => by simp only [drawR, Option.some.injEq, Prod.mk.injEq] at hd; obtain ⟨_, rfl, rfl⟩ := hd; exact ⟨rfl, .nil _ _⟩
  | o :: os, acc, acc', env, env', h, h', hd, hb => by
    simp only [drawR] at hd
    split at hd
    · rename_i b r h1 hs
      have hbt : b = true := hb b (drawR_acc hd b List.mem_cons_self)
      subst hbt
      obtain ⟨i1, i2⟩ := drawR_sound hT hK hd hb
      rw [aget_putL] at i2
      simp only [drawZ, hs]
      have := aopStep_sound hT hK hs
      exact ⟨by simp [footOf, i1], .cons ⟨this, fun x hx p hp => by simp only [footOf, List.mem_flatMap]; exact ⟨x, hx, hp⟩, aopDo_eff this⟩ i2⟩
    · cases hd
theorem drawB_spec {fr : List (Nat × Nat)} {os : List AOp} {env : List (Nat × AV)} (hb : drawB std T K fr os env h = true) : ∀ (i j : Nat) (x z : Foot), (i, j) ∈ fr → (drawZ std T K os env h)[i]? = some x → (drawZ std T K os env h)[j]? = some z → (z.o.k.neutral = true ∧ Disj z.r x.w) ∨ (x.o.k.neutral = true ∧ Disj x.r z.w) := by
  unfold drawB at hb
  split at hb
  · intro i j x z hm; simp at hm
  · exact freeB_spec hb
end
end Go.Proofs.Ytimmgjppippdiaa
