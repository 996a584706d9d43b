/- The machine runs. No condition. -/
import Derived.Test.YtjhdnpmojhkbjaaXq
namespace Go.Proofs.Ytjhdnpmojhkbjaa
open Go.RowKit (Below)

abbrev Con := FuncId → List AV → Option (Bool × AV × Option Fresh)
def ConOK (P : Program) (K : Con) : Prop := ∀ f args r fr, K f args = some (true, r, fr) → Pure P f args r fr

def askB (a : Nat) (r : AV) (m : Bool) : Option Fresh → Bool
  | none => r.pure && (!m || r.solid)
  | some f => match Nat.beq f.sz 0 with | true => r.pure | false => Nat.blt 0 a && (pureT r && (f.r.pure && (!m || (r.solid && f.r.solid))))
def argsR (A : Ar) (h : AHeap) (m : Bool) (avs : List AV) : Option (Bool × List AV) :=
  match m with
  | true => snapL A h avs
  | false => match AV.pureL avs with | true => some (true, avs) | false => none
def callR (A : Ar) (K : Con) (h : AHeap) (a : Nat) (f : FuncId) (avs : List AV) : Option (Bool × AV × AHeap) :=
  match argsR A h (!AV.pureL avs) avs with
  | none => none
  | some (b0, avs') => match K f avs' with
    | none => none
    | some (b, r0, fr) => match askB a r0 (!AV.pureL avs) fr with
      | true => some (A.and b0 b, adopt h a r0 fr)
      | false => none
def isF (T : Tab) (f : FuncId) : Bool := match T f with | some _ => true | none => false
def opStep (A : Ar) (T : Tab) (K : Con) (ρ : Opd → AV) (h : AHeap) : OpK → Option (Bool × AV × AHeap)
  | .ncall _ a f args => callR A K h a f (args.map ρ)
  | .ncallv _ a x args => match fnOf (ρ x) (args.map ρ) with
    | some (f, avs) => (match isF T f with | true => callR A K h a f avs | false => none)
    | none => none
  | k => opRun A ρ h k
/-- the guard: to run, or not to run -/
def guardB (o : AOp) (env : List (Nat × AV)) : Option Bool :=
  match o.g with
  | none => some true
  | some (t, want) => match aget env t with
    | some (.bool b) => (match want with | true => some b | false => some (!b))
    | some .und => some false
    | _ => none
def aopStep (A : Ar) (T : Tab) (K : Con) (o : AOp) (env : List (Nat × AV)) (h : AHeap) : Option (Bool × AV × AHeap) :=
  match guardB o env with
  | none => none
  | some g => match g with
    | true => opStep A T K (opdV (aget env)) h o.k
    | false => some (true, .und, h)
/-- the blocks that an operation may turn, and those that it may look at -/
def wOf (ρ : Opd → AV) (h : AHeap) : OpK → List (Nat × Nat)
  | .store _ p _ => refs1 (ρ p)
  | .box a _ _ => [(a, nxt h a)]
  | .alloc a _ _ => [(a, nxt h a)]
  | .bslice a _ _ _ => [(a, nxt h a)]
  | .mkslice a _ _ _ _ => [(a, nxt h a)]
  | .mklst a _ _ _ _ => [(a, nxt h a)]
  | .append a _ _ x _ => (a, nxt h a) :: refs1 (ρ x)
  | .appz a _ _ _ x _ => (a, nxt h a) :: refs1 (ρ x)
  | .copy _ x _ => refs1 (ρ x)
  | .ncall _ a _ _ => [(a, nxt h a)]
  | .ncallv _ a _ _ => [(a, nxt h a)]
  | _ => []
def footOf (env : List (Nat × AV)) (h : AHeap) (o : AOp) : Foot := ⟨o, o.k.looks.flatMap fun x => refsK h o.k (opdV (aget env) x), wOf (opdV (aget env)) h o.k⟩
def memB (p : Nat × Nat) : List (Nat × Nat) → Bool
  | [] => false
  | q :: l => match Nat.beq p.1 q.1 with | true => (match Nat.beq p.2 q.2 with | true => true | false => memB p l) | false => memB p l
def disjB (m : List (Nat × Nat)) : List (Nat × Nat) → Bool
  | [] => true
  | p :: l => match memB p m with | true => false | false => disjB m l
def freeB (zs : List Foot) : List (Nat × Nat) → Bool
  | [] => true
  | (i, j) :: fr => match zs[i]?, zs[j]? with
    | some x, some z => (match (z.o.k.neutral && disjB x.w z.r) || (x.o.k.neutral && disjB z.w x.r) || (x.o.frees z.o && disjB z.w x.r) with | true => freeB zs fr | false => false)
    | _, _ => freeB zs fr
def drawR (A : Ar) (T : Tab) (K : Con) : List AOp → List Bool → List (Nat × AV) → AHeap → Option (List Bool × List (Nat × AV) × AHeap)
  | [], acc, env, h => some (acc, env, h)
  | o :: os, acc, env, h => match aopStep A T K o env h with
    | some (b, r, h') => drawR A T K os (b :: acc) (putL env o.d r) h'
    | none => none
def drawZ (A : Ar) (T : Tab) (K : Con) : List AOp → List (Nat × AV) → AHeap → List Foot
  | [], _, _ => []
  | o :: os, env, h => footOf env h o :: match aopStep A T K o env h with
    | some (_, r, h') => drawZ A T K os (putL env o.d r) h'
    | none => []
def drawB (A : Ar) (T : Tab) (K : Con) (fr : List (Nat × Nat)) (os : List AOp) (env : List (Nat × AV)) (h : AHeap) : Bool :=
  match fr with
  | [] => true
  | fr => freeB (drawZ A T K os env h) fr

section
variable {C : Ctx} {T : Tab} {K : Con} {h h' : AHeap} {f : AFrame} {fs : List AFrame} {k : List AItem} {Q : List AFrame → AHeap → Prop}

theorem solidL_all : ∀ (l : List AV), (∀ z ∈ l, z.solid = true) → AV.solidL l = true
  | [], _ => rfl
  | z :: zs, hz => by simp only [AV.solidL, Bool.and_eq_true]; exact ⟨hz z List.mem_cons_self, solidL_all zs (fun q hq => hz q (List.mem_cons_of_mem _ hq))⟩
theorem solidL_in : ∀ {l : List AV}, AV.solidL l = true → ∀ z ∈ l, z.solid = true
  | y :: ys, h, z, hz => by
    simp only [AV.solidL, Bool.and_eq_true] at h
    rcases List.mem_cons.1 hz with e | e
    · rw [e]; exact h.1
    · exact solidL_in h.2 z e
theorem solidL_app {a b : List AV} (ha : AV.solidL a = true) (hb : AV.solidL b = true) : AV.solidL (a ++ b) = true :=
  solidL_all _ (fun z hz => (List.mem_append.1 hz).elim (solidL_in ha z) (solidL_in hb z))
theorem solidR_in {r : Row} (hs : r.solid = true) : ∀ z ∈ r.elems, z.solid = true := fun z hz => by
  obtain ⟨j, hj⟩ := List.mem_iff_getElem?.1 hz
  exact Row.solid_mem hs hj
theorem allSolid_of {r : Row} (hs : r.solid = true) : r.allSolid := by
  have hm := solidR_in hs
  unfold Row.allSolid
  generalize r.elems = l at hm
  induction l with
  | nil => rfl
  | cons y ys ih =>
    rw [flatAll_cons]
    refine solidL_app ?_ (ih (fun z hz => hm z (List.mem_cons_of_mem _ hz)))
    have h1 := hm y List.mem_cons_self
    cases y with
    | agg q => exact solidL_all _ (solidR_in (by simpa [AV.solid] using h1))
    | _ => simp only [AV.flat, AV.solidL, Bool.and_true]; exact h1
theorem askB_fr {a : Nat} {r : AV} {m : Bool} {fr : Option Fresh} (h : askB a r m fr = true) : AskFr a r m fr := by
  cases fr with
  | none =>
    simp only [askB, Bool.and_eq_true, Bool.or_eq_true, Bool.not_eq_true'] at h
    exact ⟨h.1, fun e => by rcases h.2 with h2 | h2 <;> simp_all⟩
  | some f =>
    cases hz : Nat.beq f.sz 0 with
    | true => simp only [askB, hz] at h; exact .inl ⟨Nat.eq_of_beq_eq_true hz, h⟩
    | false =>
      simp only [askB, hz, Bool.and_eq_true, Bool.or_eq_true, Bool.not_eq_true', Nat.blt_eq] at h
      obtain ⟨h1, h2, h3, h4⟩ := h
      exact .inr ⟨(fun e => by rw [e] at hz; cases hz), (by omega), h2, pureL_flatAll h3, fun e => by rcases h4 with h4 | h4 <;> simp_all [allSolid_of]⟩
theorem callR_sound {P : Program} (hK : ConOK P K) {a : Nat} {f : FuncId} {avs : List AV} {r : AV} (hc : callR std K h a f avs = some (true, r, h')) : ∃ m, CallDo P h m a f avs r h' := by
  unfold callR at hc
  split at hc
  · cases hc
  · rename_i b0 avs' ha
    split at hc
    · cases hc
    · rename_i b r0 fr hk
      split at hc
      · rename_i hask
        simp only [Option.some.injEq, Prod.mk.injEq, std_and] at hc
        obtain ⟨⟨rfl, rfl⟩, hc⟩ := hc
        refine ⟨!AV.pureL avs, avs', r0, fr, ?_, hK _ _ _ _ hk, askB_fr hask, hc⟩
        unfold argsR at ha
        generalize hm : (!AV.pureL avs) = m at ha
        cases m with
        | true => simpa using ha
        | false =>
          simp only at ha
          split at ha
          · rename_i hp; cases ha; simp [hp]
          · cases ha
      · cases hc
theorem callee_of (hT : TabOK C.P T) {f : FuncId} (hi : isF T f = true) : calleeOk C.P f = true := by
  unfold isF at hi
  split at hi
  · rename_i af hf
    have := hT f af hf
    unfold mfunc at this
    split at this
    · simp only [Bool.and_eq_true] at this; exact this.2
    · cases this
  · cases hi
theorem opStep_sound (hT : TabOK C.P T) (hK : ConOK C.P K) {ρ : Opd → AV} {kk : OpK} {r : AV} (hc : opStep std T K ρ h kk = some (true, r, h')) : OpDo C.P ρ h kk r h' := by
  cases kk with
  | ncall m a f args => exact callR_sound hK hc
  | ncallv m a x args =>
    simp only [opStep] at hc
    split at hc
    · rename_i f avs hx
      split at hc
      · rename_i hi
        obtain ⟨m', hc⟩ := callR_sound hK hc
        exact ⟨f, avs, m', hx, callee_of hT hi, hc⟩
      · cases hc
    · cases hc
  | _ => exact hc
theorem aopStep_sound (hT : TabOK C.P T) (hK : ConOK C.P K) {o : AOp} {env : List (Nat × AV)} {r : AV} (hc : aopStep std T K o env h = some (true, r, h')) : AOpDo C.P o (aget env) h r h' := by
  unfold aopStep at hc
  unfold AOpDo
  split at hc
  · cases hc
  · rename_i g hg
    unfold guardB at hg
    split at hc
    · split at hg
      · rename_i hgg; rw [hgg]; exact opStep_sound hT hK hc
      · rename_i t want hgg
        rw [hgg]
        split at hg
        · rename_i b hb
          split at hg
          · simp only [Option.some.injEq] at hg; subst hg; exact .inl ⟨hb, opStep_sound hT hK hc⟩
          · simp only [Option.some.injEq, Bool.not_eq_true'] at hg; subst hg; exact .inl ⟨hb, opStep_sound hT hK hc⟩
        · simp at hg
        · cases hg
    · simp only [Option.some.injEq, Prod.mk.injEq, true_and] at hc
      obtain ⟨rfl, rfl⟩ := hc
      split at hg
      · simp at hg
      · rename_i t want hgg
        rw [hgg]
        split at hg
        · rename_i b hb
          split at hg
          · simp only [Option.some.injEq] at hg; subst hg; exact .inr (.inl ⟨hb, rfl, rfl⟩)
          · simp only [Option.some.injEq, Bool.not_eq_false'] at hg; subst hg; exact .inr (.inl ⟨hb, rfl, rfl⟩)
        · rename_i hb; exact .inr (.inr ⟨hb, rfl, rfl⟩)
        · cases hg
theorem drawR_acc {A : Ar} : ∀ {os : List AOp} {acc acc' : List Bool} {env env' : List (Nat × AV)} {h h' : AHeap}, drawR A T K os acc env h = some (acc', env', h') → ∀ b ∈ acc, b ∈ acc'
  | [], acc, acc', env, env', h, h', hd, b, hb => by simp only [drawR, Option.some.injEq, Prod.mk.injEq] at hd; obtain ⟨rfl, _, _⟩ := hd; exact hb
  | o :: os, acc, acc', env, env', h, h', hd, b, hb => by
    simp only [drawR] at hd
    split at hd
    · exact drawR_acc hd b (List.mem_cons_of_mem _ hb)
    · cases hd
theorem memB_iff {p : Nat × Nat} : ∀ {l : List (Nat × Nat)}, memB p l = true ↔ p ∈ l
  | [] => by simp [memB]
  | q :: l => by
    obtain ⟨a, i⟩ := p; obtain ⟨b, j⟩ := q
    have ih := memB_iff (p := (a, i)) (l := l)
    have hb : ∀ a b : Nat, Nat.beq a b = decide (a = b) := fun a b => by rw [Bool.eq_iff_iff]; simp
    simp only [memB, hb, List.mem_cons, Prod.mk.injEq]
    by_cases h1 : a = b
    · subst h1
      by_cases h2 : i = j
      · subst h2; simp
      · simp [h2, ih]
    · simp [h1, ih]
theorem disjB_spec {m : List (Nat × Nat)} : ∀ {l : List (Nat × Nat)}, disjB m l = true → Disj l m
  | [], _ => fun p hp => by simp at hp
  | q :: l, h => by
    simp only [disjB] at h
    split at h
    · cases h
    · rename_i hq
      intro p hp
      rcases List.mem_cons.1 hp with e | e
      · rw [e]; intro hm; rw [memB_iff.2 hm] at hq; cases hq
      · exact disjB_spec h p e
theorem freeB_spec {zs : List Foot} : ∀ {fr : List (Nat × Nat)}, freeB zs fr = true → ∀ (i j : Nat) (x z : Foot), (i, j) ∈ fr → zs[i]? = some x → zs[j]? = some z → Free1 x z
  | [], _, i, j, x, z, hm, _, _ => by simp at hm
  | (a, b) :: fr, h, i, j, x, z, hm, hx, hz => by
    simp only [freeB] at h
    rcases List.mem_cons.1 hm with e | e
    · cases e
      rw [hx, hz] at h
      simp only at h
      split at h
      · rename_i hc
        simp only [Bool.or_eq_true, Bool.and_eq_true] at hc
        rcases hc with (h | h) | h
        · exact .inl ⟨h.1, disjB_spec h.2⟩
        · exact .inr (.inl ⟨h.1, disjB_spec h.2⟩)
        · exact .inr (.inr ⟨h.1, disjB_spec h.2⟩)
      · cases h
    · refine freeB_spec (fr := fr) ?_ i j x z e hx hz
      split at h
      · split at h
        · exact h
        · cases h
      · exact h

theorem set_off {h : AHeap} {c i : Nat} {b : Blk} (hb : blk h c i ≠ .dead) {p : Nat × Nat} (hp : p ≠ (c, i)) : blk (setB h c i b) p.1 p.2 = blk h p.1 p.2 := by
  rw [blk_set hb, if_neg (fun e => hp (by obtain ⟨a, j⟩ := p; simp only at e; rw [e.1, e.2]))]
theorem push_off {h : AHeap} {a : Nat} {b : Blk} {p : Nat × Nat} (hp : p ≠ (a, nxt h a)) : blk (pushB h a b) p.1 p.2 = blk h p.1 p.2 := by
  rw [blk_push, if_neg (fun e => hp (by obtain ⟨c, j⟩ := p; simp only at e; rw [← e.1, e.2]))]
theorem call_eff {P : Program} {m : Bool} {a : Nat} {f : FuncId} {avs : List AV} {r : AV} (hd : CallDo P h m a f avs r h') {p : Nat × Nat} (hp : p ≠ (a, nxt h a)) : blk h' p.1 p.2 = blk h p.1 p.2 := by
  obtain ⟨avs', r0, fr, _, _, _, had⟩ := hd
  cases fr with
  | none => simp only [adopt, Prod.mk.injEq] at had; rw [← had.2]
  | some f =>
    simp only [adopt] at had
    split at had
    · simp only [Prod.mk.injEq] at had; rw [← had.2]
    · simp only [Prod.mk.injEq] at had; rw [← had.2]; exact push_off hp
theorem opDo_eff {P : Program} {k : OpK} {ρ : Opd → AV} {r : AV} (hd : OpDo P ρ h k r h') : ∀ p : Nat × Nat, p ∉ wOf ρ h k → blk h' p.1 p.2 = blk h p.1 p.2 := by
  intro p hp
  by_cases hn : k.neutral = true
  · rw [opDo_neutral hn hd]
  have row_ne : ∀ {c i e sz : Nat} {r : Row}, blk h c i = .row e sz r → blk h c i ≠ .dead := fun hb => by rw [hb]; simp
  cases k with
  | ncall m a f args => obtain ⟨m', hd⟩ := hd; exact call_eff hd (by simpa [wOf] using hp)
  | ncallv m a x args => obtain ⟨f, avs, m', _, _, hc⟩ := hd; exact call_eff hc (by simpa [wOf] using hp)
  | box a e x =>
    simp only [OpDo, opRun, Option.some.injEq, Prod.mk.injEq] at hd
    rw [← hd.2.2]; exact push_off (by simpa [wOf] using hp)
  | alloc a e z =>
    simp only [OpDo, opRun, Option.some.injEq, Prod.mk.injEq] at hd
    rw [← hd.2.2]; exact push_off (by simpa [wOf] using hp)
  | bslice a e sz ps =>
    simp only [OpDo, opRun, Option.some.injEq, Prod.mk.injEq] at hd
    rw [← hd.2.2]; exact push_off (by simpa [wOf] using hp)
  | mklst a e sz z ln =>
    simp only [OpDo, opRun] at hd
    split at hd
    · split at hd
      · simp only [Option.some.injEq, Prod.mk.injEq] at hd
        rw [← hd.2.2]; exact push_off (by simpa [wOf] using hp)
      · cases hd
    · cases hd
  | mkslice a e sz z ln =>
    simp only [OpDo, opRun] at hd
    split at hd
    · simp only [Option.some.injEq, Prod.mk.injEq] at hd
      rw [← hd.2.2]; exact push_off (by simpa [wOf] using hp)
    · cases hd
  | store n q x =>
    simp only [OpDo, opRun, storeR, wOf] at hd hp
    split at hd
    · rename_i a i k off hq
      rw [hq] at hp
      split at hd
      · rename_i e sz rr hb
        split at hd
        · simp only [Option.some.injEq, Prod.mk.injEq] at hd
          rw [← hd.2.2]; exact set_off (row_ne hb) (by simpa [refs1] using hp)
        · cases hd
      · cases hd
    · cases hd
  | copy sz x y =>
    simp only [OpDo, opRun, copyR, wOf] at hd hp
    split at hd
    · cases hd
    · split at hd
      · rename_i c i hx
        rw [hx] at hp
        split at hd
        · rename_i hb
          simp only [Option.some.injEq, Prod.mk.injEq] at hd
          rw [← hd.2.2]; exact set_off (row_ne hb) (by simpa [refs1] using hp)
        · cases hd
      · rename_i c i k n q hx
        rw [hx] at hp
        split at hd
        · rename_i hb
          simp only [Option.some.injEq, Prod.mk.injEq] at hd
          rw [← hd.2.2]; exact set_off (row_ne hb) (by simpa [refs1] using hp)
        · cases hd
      · rename_i c i k off n hx
        rw [hx] at hp
        split at hd
        · rename_i hb
          split at hd
          · simp only [Option.some.injEq, Prod.mk.injEq] at hd
            rw [← hd.2.2]; exact set_off (row_ne hb) (by simpa [refs1] using hp)
          · cases hd
        · cases hd
      · cases hd
  | append a e sz x y =>
    simp only [OpDo, opRun, appR, wOf, List.mem_cons, not_or] at hd hp
    obtain ⟨hp1, hp2⟩ := hp
    split at hd
    · cases hd
    · split at hd
      · split at hd
        · simp only [Option.some.injEq, Prod.mk.injEq] at hd; rw [← hd.2.2]
        · simp only [Option.some.injEq, Prod.mk.injEq] at hd; rw [← hd.2.2]; exact push_off hp1
      · rename_i c i hx
        rw [hx] at hp2
        split at hd
        · rename_i hb
          simp only [Option.some.injEq, Prod.mk.injEq] at hd
          rw [← hd.2.2]
          rw [push_off (by rw [nxt_set]; exact hp1), set_off (row_ne hb) (by simpa [refs1] using hp2)]
        · cases hd
      · rename_i c i n hx
        rw [hx] at hp2
        split at hd
        · rename_i hb
          simp only [Option.some.injEq, Prod.mk.injEq] at hd
          rw [← hd.2.2]; exact set_off (row_ne hb) (by simpa [refs1] using hp2)
        · cases hd
      · cases hd
  | appz a e sz z x ln =>
    simp only [OpDo, opRun, wOf, List.mem_cons, not_or] at hd hp
    obtain ⟨hp1, hp2⟩ := hp
    split at hd
    · unfold appzR at hd
      split at hd
      · simp only [Option.some.injEq, Prod.mk.injEq] at hd; rw [← hd.2.2]; exact push_off hp1
      · rename_i c i hx
        rw [hx] at hp2
        split at hd
        · rename_i hb
          simp only [Option.some.injEq, Prod.mk.injEq] at hd
          rw [← hd.2.2]
          rw [push_off (by rw [nxt_set]; exact hp1), set_off (row_ne hb) (by simpa [refs1] using hp2)]
        · cases hd
      · cases hd
    · cases hd
  | _ => first | (exact absurd rfl hn) | (simp [OpDo, opRun] at hd)
theorem aopDo_eff {P : Program} {o : AOp} {ε : Env} {r : AV} (hd : AOpDo P o ε h r h') : ∀ p : Nat × Nat, p ∉ wOf (opdV ε) h o.k → blk h' p.1 p.2 = blk h p.1 p.2 := by
  unfold AOpDo at hd
  split at hd
  · exact opDo_eff hd
  · rcases hd with ⟨_, h3⟩ | ⟨_, _, h3⟩ | ⟨_, _, h3⟩
    · exact opDo_eff h3
    · rw [h3]; exact fun _ _ => rfl
    · rw [h3]; exact fun _ _ => rfl
theorem drawR_sound (hT : TabOK C.P T) (hK : ConOK C.P K) : ∀ {os : List AOp} {acc acc' : List Bool} {env env' : List (Nat × AV)} {h h' : AHeap}, drawR std T K os acc env h = some (acc', env', h') → (∀ b ∈ acc', b = true) → (drawZ std T K os env h).map (·.o) = os ∧ Runs C.P (drawZ std T K os env h) (aget env) h (aget env') h'
  | [], acc, acc', env, env', h, h', hd, _ => by simp only [drawR, Option.some.injEq, Prod.mk.injEq] at hd; obtain ⟨_, rfl, rfl⟩ := hd; exact ⟨rfl, .nil _ _⟩
  | o :: os, acc, acc', env, env', h, h', hd, hb => by
    simp only [drawR] at hd
    split at hd
    · rename_i b r h1 hs
      have hbt : b = true := hb b (drawR_acc hd b List.mem_cons_self)
      subst hbt
      obtain ⟨i1, i2⟩ := drawR_sound hT hK hd hb
      rw [aget_putL] at i2
      simp only [drawZ, hs]
      have := aopStep_sound hT hK hs
      exact ⟨by simp [footOf, i1], .cons ⟨this, fun x hx p hp => by simp only [footOf, List.mem_flatMap]; exact ⟨x, hx, hp⟩, aopDo_eff this⟩ i2⟩
    · cases hd
theorem drawB_spec {fr : List (Nat × Nat)} {os : List AOp} {env : List (Nat × AV)} (hb : drawB std T K fr os env h = true) : ∀ (i j : Nat) (x z : Foot), (i, j) ∈ fr → (drawZ std T K os env h)[i]? = some x → (drawZ std T K os env h)[j]? = some z → Free1 x z := by
  unfold drawB at hb
  split at hb
  · intro i j x z hm; simp at hm
  · exact freeB_spec hb
end
end Go.Proofs.Ytjhdnpmojhkbjaa

/- A step of the machine. No condition. -/
namespace Go.Proofs.Ytjhdnpmojhkbjaa
open Go.RowKit (Below)

abbrev SRes := Option (List Bool × AFrame × List AFrame × AHeap)
/-- a round is left -/
def leaveA (acc : List Bool) (fs : List AFrame) (h : AHeap) (rnd : Option (Nat × Nat)) (jump : Option ACode) : SRes :=
  match rnd with
  | none => none
  | some (a, i) => match fs with
    | [] => none
    | c :: fs' => match blk h a i with
      | .lp l => (match finA c (.bool jump.isNone) with
        | some c' => some (acc, c', fs', setB h a i (.lp { l with st := stOf jump }))
        | none => none)
      | _ => none
def yieldA (acc : List Bool) (o : AOp) (f : AFrame) (fs : List AFrame) (h : AHeap) (x : AV) (args : List Opd) : SRes :=
  match guardB o f.env with
  | some true => (match x with
    | .yld a i => (match blk h a i with
      | .lp l => (match Nat.beq args.length l.params.length with
        | true => some (acc, { fn := l.fn, N := l.N, env := setPs l.env l.params (args.map (opdV (aget f.env))), todo := [.code l.asg, .beginRound, .code l.body], defs := [], rnd := some (a, i), ret := false, res := [] }, f :: fs, h)
        | false => none)
      | _ => none)
    | _ => none)
  | _ => none
def enterR (T : Tab) (acc : List Bool) (o : AOp) (f : AFrame) (fs : List AFrame) (h : AHeap) (g : FuncId) (avs : List AV) : SRes :=
  match guardB o f.env with
  | some true => (match enterA T g avs with
    | some af => some (acc, af, f :: fs, h)
    | none => none)
  | _ => none
/-- an operation of a region whose order is the text's -/
def opA (A : Ar) (T : Tab) (K : Con) (acc : List Bool) (o : AOp) (os : List AOp) (f : AFrame) (k : List AItem) (fs : List AFrame) (h : AHeap) : SRes :=
  match aopStep A T K o f.env h with
  | some (b, r, h') => some (b :: acc, { f with env := putL f.env o.d r, todo := .inReg os :: k }, fs, h')
  | none => match o.k with
    | .icall g args => enterR T acc o f fs h g (args.map (opdV (aget f.env)))
    | .ncall _ _ g args => enterR T acc o f fs h g (args.map (opdV (aget f.env)))
    | .ncallv _ _ x args => (match opdV (aget f.env) x with
      | .fn g caps => enterR T acc o f fs h g (args.map (opdV (aget f.env)) ++ caps)
      | _ => none)
    | .icallv x args => (match opdV (aget f.env) x with
      | .fn g caps => enterR T acc o f fs h g (args.map (opdV (aget f.env)) ++ caps)
      | v => yieldA acc o f fs h v args)
    | _ => none
def rfA (T : Tab) (acc : List Bool) (f : AFrame) (k : List AItem) (fs : List AFrame) (h : AHeap) (a : Nat) (x : AV) (ps : List Nat) (asg body : ACode) : SRes :=
  match x with
  | .fn g caps => (match f.rnd with
    | none => (match enterA T g (.yld a (nxt (pushB h a .dfr) a) :: caps) with
      | some af => some (acc, af, { f with todo := .inRF a (nxt (pushB h a .dfr) a) :: k, defs := (a, nxt h a) :: f.defs } :: fs, pushB (pushB h a .dfr) a (.lp { st := .ready, fn := f.fn, N := f.N, env := f.env, params := ps, asg := asg, body := body }))
      | none => none)
    | some (a0, i0) => (match blk h a0 i0 with
      | .lp _ => (match enterA T g (.yld a (nxt h a) :: caps) with
        | some af => some (acc, af, { f with todo := .inRF a (nxt h a) :: k } :: fs, pushB h a (.lp { st := .ready, fn := f.fn, N := f.N, env := f.env, params := ps, asg := asg, body := body }))
        | none => none)
      | _ => none))
  | _ => none
def codeA (A : Ar) (T : Tab) (K : Con) (acc : List Bool) (f : AFrame) (k : List AItem) (fs : List AFrame) (h : AHeap) : ACode → SRes
  | .skip => some (acc, { f with todo := k }, fs, h)
  | .reg d ops => (match d with
    | none => some (acc, { f with todo := .inReg ops :: k }, fs, h)
    | some fr => match drawR A T K ops acc f.env h with
      | some (acc', env', h') => (match drawB A T K fr ops f.env h with
        | true => some (acc', { f with env := env', todo := k }, fs, h')
        | false => none)
      | none => none)
  | .seq a b => some (acc, { f with todo := .code a :: .code b :: k }, fs, h)
  | .cond c a b => (match opdV (aget f.env) c with
    | .bool t => (match t with
      | true => some (acc, { f with todo := .code a :: k }, fs, h)
      | false => some (acc, { f with todo := .code b :: k }, fs, h))
    | _ => none)
  | .block id b => some (acc, { f with todo := .code b :: .inBlock id :: k }, fs, h)
  | .loop b => some (acc, { f with todo := .code b :: .inLoop b :: k }, fs, h)
  | .rf a x ps asg body => rfA T acc f k fs h a (opdV (aget f.env) x) ps asg body
  | .exit id => (match exitToA id k with
    | some k' => some (acc, { f with todo := k' }, fs, h)
    | none => leaveA acc fs h f.rnd (some (.exit id)))
  | .ret => (match f.rnd with
    | none => some (acc, { f with ret := true, todo := [] }, fs, h)
    | some p => leaveA acc fs h (some p) (some .ret))
  | .junk => none
  | .gh gs c => (match ghostsA f.env h gs with
    | some (env', h') => some (acc, { f with env := env', todo := .code c :: k }, fs, h')
    | none => none)
def retA (A : Ar) (acc : List Bool) (f : AFrame) (fs : List AFrame) (h : AHeap) : SRes :=
  match f.defs with
  | (a, i) :: ds => (match blk h a i with
    | .dfr => some (acc, { f with defs := ds }, fs, setB h a i .dead)
    | _ => none)
  | [] => match f.rnd with
    | some _ => none
    | none => match fs with
      | [] => none
      | c :: fs' => match collR A f.env h f.res with
        | some (b, vs) => (match finA c (joinR vs) with
          | some c' => some (b :: acc, c', fs', h)
          | none => none)
        | none => none
def astep (A : Ar) (T : Tab) (K : Con) (acc : List Bool) (f : AFrame) (fs : List AFrame) (h : AHeap) : SRes :=
  match f.ret with
  | true => retA A acc f fs h
  | false => match f.todo with
    | [] => (match f.rnd with
      | none => some (acc, { f with ret := true, todo := [] }, fs, h)
      | some p => leaveA acc fs h (some p) none)
    | it :: k => match it with
      | .inBlock _ => some (acc, { f with todo := k }, fs, h)
      | .inLoop b => some (acc, { f with todo := .code b :: .inLoop b :: k }, fs, h)
      | .inReg os => (match os with
        | [] => some (acc, { f with todo := k }, fs, h)
        | o :: os => opA A T K acc o os f k fs h)
      | .inRF _ _ => none
      | .endRF a i => (match blk h a i with
        | .lp l => (match Nat.beq l.N f.N with
          | true => (match l.st with
            | .ready => some (acc, { f with todo := k }, fs, setB h a i .dead)
            | .done j => some (acc, { f with todo := .code j :: k }, fs, setB h a i .dead)
            | .busy => none)
          | false => none)
        | _ => none)
      | .beginRound => (match f.rnd with
        | some (a, i) => (match blk h a i with
          | .lp l => (match l.st with
            | .ready => some (acc, { f with todo := k }, fs, setB h a i (.lp { l with st := .busy }))
            | _ => none)
          | _ => none)
        | none => none)
      | .code c => codeA A T K acc f k fs h c

section
variable {C : Ctx} {T : Tab} {K : Con} {h h' : AHeap} {f f' : AFrame} {fs fs' : List AFrame} {k : List AItem} {Q : List AFrame → AHeap → Prop} {acc acc' : List Bool}
def Sound (C : Ctx) (Q : List AFrame → AHeap → Prop) (acc : List Bool) (f : AFrame) (fs : List AFrame) (h : AHeap) (r : SRes) : Prop :=
  ∀ acc' f' fs' h', r = some (acc', f', fs', h') → (∀ b ∈ acc', b = true) → Ev C (f' :: fs') h' Q → (∀ b ∈ acc, b = true) ∧ Ev C (f :: fs) h Q

theorem leaveA_sound {jump : Option ACode} (hr : f.ret = false)
    (ht : (jump = none ∧ f.todo = []) ∨ (jump = some .ret ∧ ∃ k, f.todo = .code .ret :: k) ∨ ∃ id k, jump = some (.exit id) ∧ f.todo = .code (.exit id) :: k ∧ exitToA id k = none) : Sound C Q acc f fs h (leaveA acc fs h f.rnd jump) := by
  intro acc' f' fs' h' he hb hq
  unfold leaveA at he
  split at he
  · cases he
  · rename_i a i hn
    split at he
    · cases he
    · rename_i c fs2
      split at he
      · rename_i l hbl
        split at he
        · rename_i c' hfin
          cases he
          exact ⟨hb, ev_leave jump hr hn hbl ht hfin hq⟩
        · cases he
      · cases he
theorem guard_true {o : AOp} (hg : guardB o f.env = some true) : guardOK o f.env := by
  unfold guardB at hg
  unfold guardOK
  split
  · trivial
  · rename_i t want hgg
    rw [hgg] at hg
    simp only at hg
    split at hg
    · rename_i b hb
      rw [hb]
      cases want <;> simp at hg <;> simp [hg]
    · simp at hg
    · cases hg
theorem enterR_sound (hT : TabOK C.P T) {o : AOp} {os : List AOp} {g : FuncId} {avs : List AV} (hr : f.ret = false) (ht : f.todo = .inReg (o :: os) :: k)
    (ho : (∃ args m a, (o.k = .icall g args ∨ o.k = .ncall m a g args) ∧ avs = args.map (opdV (aget f.env))) ∨ (∃ x args caps m a, (o.k = .icallv x args ∨ o.k = .ncallv m a x args) ∧ opdV (aget f.env) x = .fn g caps ∧ avs = args.map (opdV (aget f.env)) ++ caps)) :
    Sound C Q acc f fs h (enterR T acc o f fs h g avs) := by
  intro acc' f' fs' h' he hb hq
  unfold enterR at he
  split at he
  · rename_i hg
    split at he
    · rename_i af haf
      cases he
      exact ⟨hb, ev_call hT hr ht (guard_true hg) ho haf hq⟩
    · cases he
  · cases he
theorem yieldA_sound {o : AOp} {os : List AOp} {x : Opd} {args : List Opd} (hr : f.ret = false) (ht : f.todo = .inReg (o :: os) :: k) (ho : o.k = .icallv x args) : Sound C Q acc f fs h (yieldA acc o f fs h (opdV (aget f.env) x) args) := by
  intro acc' f' fs' h' he hb hq
  unfold yieldA at he
  split at he
  · rename_i hg
    split at he
    · rename_i a i hx
      split at he
      · rename_i l hbl
        split at he
        · rename_i hlen
          cases he
          exact ⟨hb, ev_yield hr ht (guard_true hg) ho hx hbl (by simpa using hlen) hq⟩
        · cases he
      · cases he
    · cases he
  · cases he
theorem opA_sound (hT : TabOK C.P T) (hK : ConOK C.P K) {o : AOp} {os : List AOp} (hr : f.ret = false) (ht : f.todo = .inReg (o :: os) :: k) : Sound C Q acc f fs h (opA std T K acc o os f k fs h) := by
  intro acc' f' fs' h' he hb hq
  unfold opA at he
  split at he
  · rename_i b r h1 hs
    cases he
    have hbt : b = true := hb b List.mem_cons_self
    subst hbt
    exact ⟨fun b hb' => hb b (List.mem_cons_of_mem _ hb'), ev_op hr ht (aopStep_sound hT hK hs) hq⟩
  · split at he
    · rename_i g args ho
      exact enterR_sound hT hr ht (.inl ⟨args, false, 0, .inl ho, rfl⟩) _ _ _ _ he hb hq
    · rename_i m a g args ho
      exact enterR_sound hT hr ht (.inl ⟨args, m, a, .inr ho, rfl⟩) _ _ _ _ he hb hq
    · rename_i m a x args ho
      split at he
      · rename_i g caps hx
        exact enterR_sound hT hr ht (.inr ⟨x, args, caps, m, a, .inr ho, hx, rfl⟩) _ _ _ _ he hb hq
      · cases he
    · rename_i x args ho
      split at he
      · rename_i g caps hx
        exact enterR_sound hT hr ht (.inr ⟨x, args, caps, false, 0, .inl ho, hx, rfl⟩) _ _ _ _ he hb hq
      · exact yieldA_sound hr ht ho _ _ _ _ he hb hq
    · cases he
theorem rfA_sound (hT : TabOK C.P T) {a : Nat} {x : Opd} {ps : List Nat} {asg body : ACode} (hr : f.ret = false) (ht : f.todo = .code (.rf a x ps asg body) :: k) : Sound C Q acc f fs h (rfA T acc f k fs h a (opdV (aget f.env) x) ps asg body) := by
  intro acc' f' fs' h' he hb hq
  unfold rfA at he
  split at he
  · rename_i g caps hx
    split at he
    · rename_i hn
      split at he
      · rename_i af haf
        cases he
        exact ⟨hb, ev_rf hT hr ht hx (.inl ⟨hn, rfl, rfl⟩) haf hq⟩
      · cases he
    · rename_i a0 i0 hn
      split at he
      · rename_i l0 hl0
        split at he
        · rename_i af haf
          cases he
          exact ⟨hb, ev_rf hT hr ht hx (.inr ⟨⟨a0, i0, l0, hn, hl0⟩, rfl, rfl⟩) haf hq⟩
        · cases he
      · cases he
  · cases he
theorem retA_sound (hr : f.ret = true) : Sound C Q acc f fs h (retA std acc f fs h) := by
  intro acc' f' fs' h' he hb hq
  unfold retA at he
  split at he
  · rename_i a i ds hd
    split at he
    · rename_i hbl
      cases he
      exact ⟨hb, ev_unwind hr hd hbl hq⟩
    · cases he
  · rename_i hd
    split at he
    · cases he
    · rename_i hn
      split at he
      · cases he
      · rename_i c fs2
        split at he
        · rename_i b vs hc
          split at he
          · rename_i c' hfin
            cases he
            have hbt : b = true := hb b List.mem_cons_self
            subst hbt
            exact ⟨fun b hb' => hb b (List.mem_cons_of_mem _ hb'), ev_pop hr hn hd hc hfin hq⟩
          · cases he
        · cases he
theorem codeA_sound (hfol : C.P.follows .mixedOrders = true) (hT : TabOK C.P T) (hK : ConOK C.P K) {c : ACode} (hr : f.ret = false) (ht : f.todo = .code c :: k) : Sound C Q acc f fs h (codeA std T K acc f k fs h c) := by
  intro acc' f' fs' h' he hb hq
  cases c with
  | skip => cases he; exact ⟨hb, ev_skip hr ht hq⟩
  | reg d ops =>
    simp only [codeA] at he
    split at he
    · cases he; exact ⟨hb, ev_reg hr ht hq⟩
    · split at he
      · rename_i acc1 env1 h1 hd
        split at he
        · rename_i hfree
          cases he
          obtain ⟨d1, d2⟩ := drawR_sound hT hK hd hb
          exact ⟨fun b hb' => hb b (drawR_acc hd b hb'), ev_draw hfol hr ht d1 (fun i j x z hm hx hz _ => drawB_spec hfree i j x z hm hx hz) d2 (fun _ _ e => e) hq⟩
        · cases he
      · cases he
  | seq a b => cases he; exact ⟨hb, ev_seq hr ht hq⟩
  | cond c a b =>
    simp only [codeA] at he
    split at he
    · rename_i t hc
      split at he
      · cases he; exact ⟨hb, ev_cond hr ht hc hq⟩
      · cases he; exact ⟨hb, ev_cond hr ht hc hq⟩
    · cases he
  | block id b => cases he; exact ⟨hb, ev_block hr ht hq⟩
  | loop b => cases he; exact ⟨hb, ev_loop hr ht hq⟩
  | rf a x ps asg body => exact rfA_sound hT hr ht _ _ _ _ he hb hq
  | exit id =>
    simp only [codeA] at he
    split at he
    · rename_i k' hk
      cases he; exact ⟨hb, ev_exit hr ht hk hq⟩
    · rename_i hk
      exact leaveA_sound hr (.inr (.inr ⟨id, k, rfl, ht, hk⟩)) _ _ _ _ he hb hq
  | ret =>
    simp only [codeA] at he
    split at he
    · rename_i hn
      cases he; exact ⟨hb, ev_ret0 hr hn (.inr ⟨k, ht⟩) hq⟩
    · rename_i p hn
      rw [← hn] at he
      exact leaveA_sound hr (.inr (.inl ⟨rfl, k, ht⟩)) _ _ _ _ he hb hq
  | junk => cases he
  | gh gs c =>
    simp only [codeA] at he
    split at he
    · rename_i env1 h1 hg
      cases he
      exact ⟨hb, ev_gh hr ht hg hq⟩
    · cases he
theorem astep_sound (hfol : C.P.follows .mixedOrders = true) (hT : TabOK C.P T) (hK : ConOK C.P K) : Sound C Q acc f fs h (astep std T K acc f fs h) := by
  intro acc' f' fs' h' he hb hq
  unfold astep at he
  split at he
  · rename_i hr
    exact retA_sound hr _ _ _ _ he hb hq
  · rename_i hr
    split at he
    · rename_i ht
      split at he
      · rename_i hn
        cases he; exact ⟨hb, ev_ret0 hr hn (.inl ht) hq⟩
      · rename_i p hn
        rw [← hn] at he
        exact leaveA_sound hr (.inl ⟨rfl, ht⟩) _ _ _ _ he hb hq
    · rename_i it k ht
      split at he
      · cases he; exact ⟨hb, ev_inBlock hr ht hq⟩
      · cases he; exact ⟨hb, ev_inLoop hr ht hq⟩
      · split at he
        · cases he; exact ⟨hb, ev_regEnd hr ht hq⟩
        · exact opA_sound hT hK hr ht _ _ _ _ he hb hq
      · cases he
      · rename_i a i
        split at he
        · rename_i l hbl
          split at he
          · rename_i hN
            have hN : l.N = f.N := by simpa using hN
            split at he
            · rename_i hst
              cases he
              exact ⟨hb, ev_endRF hr ht hbl hN (.inl hst) (by rw [hst]; exact hq)⟩
            · rename_i j hst
              cases he
              exact ⟨hb, ev_endRF hr ht hbl hN (.inr ⟨j, hst⟩) (by rw [hst]; exact hq)⟩
            · cases he
          · cases he
        · cases he
      · split at he
        · rename_i a i hn
          split at he
          · rename_i l hbl
            split at he
            · rename_i hst
              cases he
              exact ⟨hb, ev_begin hr hn ht hbl hst hq⟩
            · cases he
          · cases he
        · cases he
      · rename_i c
        exact codeA_sound hfol hT hK hr ht _ _ _ _ he hb hq
end
end Go.Proofs.Ytjhdnpmojhkbjaa
