/- The moves that compute: operations, calls, returns. No condition. -/
import Derived.Test.YtimmgjppippdiaaXl
import Derived.RangeFuncRecord
namespace Go.Proofs.Ytimmgjppippdiaa
open Go.RowKit (Below)

def putV (tmps : Array Value) (d : Option Nat) (v : Value) : Array Value := match d with | some d => tmps.setIfInBounds d v | none => tmps
section
variable {P : Program} {fr : Frame} {cs : List Frame} {w w' : World} {ops : Array Oper} {i : Nat} {rest : List Nat} {l : List Item} {o : Oper} {v : Value}

theorem stepG_oper (hm : fr.mode = .run) (ht : fr.todo = .inRegion ops (i :: rest) :: l) (ho : ops[i]? = some o) (hw : Region.wanted o (yielded ops fr.tmps) = true) (hd : noDefer o.op = true) :
    stepG P true { frame := fr, callers := cs, status := .running, dying := none } w = stepG.apply P true fr cs none (execOp fr.eval o) w := by
  obtain ⟨fn, tmps, todo, defers, mode, kind, rnd⟩ := fr
  dsimp only at hm ht hw
  subst hm; subst ht
  have h1 : stepG P true { frame := { fn, tmps, todo := .inRegion ops (i :: rest) :: l, defers, mode := .run, kind, roundOf := rnd }, callers := cs, status := .running, dying := none } w =
      stepG.oper P true { fn, tmps, todo := .inRegion ops (i :: rest) :: l, defers, mode := .run, kind, roundOf := rnd } cs none w := by
    simp [stepG, stepG.exec, ho, hw]
  rw [h1]
  unfold stepG.oper
  simp only [Frame.oper?, ho]
  split
  · rename_i l' c _ hop
    rw [hop] at hd; cases hd
  · rfl
theorem step_value (hm : fr.mode = .run) (ht : fr.todo = .inRegion ops (i :: rest) :: l) (ho : ops[i]? = some o) (hw : Region.wanted o (yielded ops fr.tmps) = true) (hd : noDefer o.op = true)
    (hr : (execOp fr.eval o).run P w = .ok (.value v) w') : Steps P (lone fr cs w) (lone (fr.finish v) cs w') :=
  go1 (by rw [stepG_oper hm ht ho hw hd]; simp [stepG.apply, hr])
theorem step_skip' (hm : fr.mode = .run) (ht : fr.todo = .inRegion ops (i :: rest) :: l) (ho : ops[i]? = some o) (hw : Region.wanted o (yielded ops fr.tmps) = true) (hd : noDefer o.op = true)
    (hr : (execOp fr.eval o).run P w = .ok .skip w') : Steps P (lone fr cs w) (lone (fr.finish undef) cs w') :=
  go1 (by rw [stepG_oper hm ht ho hw hd]; simp [stepG.apply, hr])
theorem step_enter {f : FuncId} {vs : Array Value} (hm : fr.mode = .run) (ht : fr.todo = .inRegion ops (i :: rest) :: l) (ho : ops[i]? = some o) (hw : Region.wanted o (yielded ops fr.tmps) = true) (hd : noDefer o.op = true)
    (hr : (execOp fr.eval o).run P w = .ok (.enter f vs) w') : Steps P (lone fr cs w) (lone (Frame.enter P f vs .normal) (fr :: cs) w') :=
  go1 (by rw [stepG_oper hm ht ho hw hd]; simp [stepG.apply, hr, ht])
theorem step_round {r : Nat} {f : FuncId} {tmps : Array Value} {asg body : Code} (hm : fr.mode = .run) (ht : fr.todo = .inRegion ops (i :: rest) :: l) (ho : ops[i]? = some o) (hw : Region.wanted o (yielded ops fr.tmps) = true) (hd : noDefer o.op = true)
    (hr : (execOp fr.eval o).run P w = .ok (.round r f tmps asg body) w') : Steps P (lone fr cs w) (lone (Frame.round r f tmps asg body .normal) (fr :: cs) w') :=
  go1 (by rw [stepG_oper hm ht ho hw hd]; simp [stepG.apply, hr])
theorem step_not (hm : fr.mode = .run) (ht : fr.todo = .inRegion ops (i :: rest) :: l) (ho : ops[i]? = some o) (hw : Region.wanted o (yielded ops fr.tmps) = false) :
    Steps P (lone fr cs w) (lone (fr.finish undef) cs w) := by
  obtain ⟨fn, tmps, todo, defers, mode, kind, rnd⟩ := fr
  dsimp only at hm ht hw
  subst hm; subst ht
  exact go1 (by simp [stepG, stepG.exec, ho, hw])
theorem step_call {f : FuncId} {vs : Array Value} {R : Ending → World → Prop} (hm : fr.mode = .run) (ht : fr.todo = .inRegion ops (i :: rest) :: l) (ho : ops[i]? = some o) (hw : Region.wanted o (yielded ops fr.tmps) = true) (hd : noDefer o.op = true)
    (hr : (execOp fr.eval o).run P w = .ok (.enter f vs) w') (hc : Calls P f vs w' R) (hR : ∀ e w'', R e w'' → ∃ x, e = .returned x) : ∃ x w'', R (.returned x) w'' ∧ Steps P (lone fr cs w) (lone (fr.finish x) cs w'') := by
  obtain ⟨e, w'', fr', h1, h2, h3, h4⟩ := hc (fr :: cs)
  obtain ⟨x, rfl⟩ := hR e w'' h1
  exact ⟨x, w'', h1, (step_enter hm ht ho hw hd hr).trans (Steps.trans h2 (.one (step_leave_returned h4)))⟩

theorem finish_reg (ht : fr.todo = .inRegion ops (i :: rest) :: l) (ho : ops[i]? = some o) : fr.finish v = { fr with tmps := putV fr.tmps o.dst v, todo := .inRegion ops rest :: l } := by
  obtain ⟨fn, tmps, todo, defers, mode, kind, rnd⟩ := fr
  dsimp only at ht; subst ht
  simp only [Frame.finish, ho, Option.bind_some, putV]
  cases o.dst <;> rfl
end

/-- the temporaries as a function -/
def EnvF (C : Ctx) (h : AHeap) (L : Lay) (w : World) (ε : Env) (tmps : Array Value) : Prop := ∀ t av, ε t = some av → RelC C h L w av (tmps.getD t undef)

section
variable {C : Ctx} {h h' : AHeap} {L L' : Lay} {w w' : World}
theorem EnvF.step {ε : Env} {tmps : Array Value} (s : Step w (okOf C h L) h L w' (okOf C h' L') h' L') (he : EnvF C h L w ε tmps) : EnvF C h' L' w' ε tmps := fun t av ht => (he t av ht).step s
theorem EnvF.put {ε : Env} {tmps : Array Value} (he : EnvF C h L w ε tmps) {d : Option Nat} (hd : ∀ d', d = some d' → d' < tmps.size) {r : AV} {v : Value} (hr : d ≠ none → RelC C h L w r v) : EnvF C h L w (Env.put ε d r) (putV tmps d v) := by
  cases d with
  | none => exact he
  | some d =>
    intro t av ht
    simp only [Env.put] at ht
    simp only [putV]
    by_cases hdt : d = t
    · subst hdt
      simp only [if_true, Option.some.injEq] at ht
      subst ht
      have hlt := hd d rfl
      have : (tmps.setIfInBounds d v).getD d undef = v := by simp [hlt]
      rw [this]; exact hr (by simp)
    · simp only [if_neg hdt] at ht
      have : (tmps.setIfInBounds d v).getD t undef = tmps.getD t undef := by simp [Array.getElem?_setIfInBounds_ne hdt]
      rw [this]; exact he t av ht
theorem putV_size (tmps : Array Value) (d : Option Nat) (v : Value) : (putV tmps d v).size = tmps.size := by cases d <;> simp [putV]

theorem opdF {x : Opd} {y : Operand} {fr : Frame} {ε : Env} (hm : mopd x y = true) (he : EnvF C h L w ε fr.tmps) : RelC C h L w (opdV ε x) (fr.eval y) := by
  unfold mopd at hm
  split at hm
  · rename_i n m
    have : n = m := by simpa using hm
    subst this
    simp only [opdV, Frame.eval]
    cases hg : ε n with
    | none => exact .top _
    | some av => exact he n av hg
  · exact cmatch_rel hm
  · rename_i f' g
    have : f' = g := by simpa using hm
    subst this
    exact .fn _ _ _ rfl (fun j u v hu => by simp at hu)
  · cases hm
theorem rhoF {fr : Frame} {ε : Env} (he : EnvF C h L w ε fr.tmps) : Rho C h L w (opdV ε) fr.eval := ⟨fun _ _ hm => opdF hm he, fun _ => rfl, fun _ => rfl⟩

/-- the guard, read off the temporaries -/
theorem guardF {ε : Env} {tmps : Array Value} (he : EnvF C h L w ε tmps) {ops : List Oper} {o : Oper} {ao : AOp} {N : Nat} (hm : maop C.P N ops o ao = true) :
    (ao.g = none → Region.wanted o (yielded ops.toArray tmps) = true) ∧ (∀ t want b, ao.g = some (t, want) → ε t = some (.bool b) → Region.wanted o (yielded ops.toArray tmps) = (b == want)) ∧
    (∀ t want, ao.g = some (t, want) → ε t = some .und → Region.wanted o (yielded ops.toArray tmps) = false) := by
  simp only [maop, Bool.and_eq_true, beq_iff_eq] at hm
  obtain ⟨⟨⟨⟨_, _⟩, _⟩, hg⟩, _⟩ := hm
  have hy : ∀ (t j : Nat) (oj : Oper), ops[j]? = some oj → oj.dst = some t → yielded ops.toArray tmps j = (match (tmps[t]? : Option Value) with | some (.bool b) => some b | _ => none) := fun t j oj hoj hojd => by
    simp only [yielded, List.getElem?_toArray, hoj, Option.bind_some, hojd]
    rfl
  have hj : ∀ t want, ao.g = some (t, want) → ∃ j, o.guard = some (j, want) ∧ ∃ oj, ops[j]? = some oj ∧ oj.dst = some t := fun t want e => by
    rw [e] at hg
    cases hh : o.guard with
    | none => rw [hh] at hg; simp at hg
    | some p =>
      obtain ⟨j, want'⟩ := p
      rw [hh] at hg
      simp only [Bool.and_eq_true, beq_iff_eq] at hg
      obtain ⟨rfl, h2⟩ := hg
      cases h3 : ops[j]? with
      | none => rw [h3] at h2; simp at h2
      | some oj => rw [h3] at h2; exact ⟨j, rfl, oj, h3, by simpa using h2⟩
  refine ⟨fun e => ?_, fun t want b e hb => ?_, fun t want e hb => ?_⟩
  · rw [e] at hg
    have : o.guard = none := by
      cases hh : o.guard with
      | none => rfl
      | some p => obtain ⟨j, want⟩ := p; rw [hh] at hg; simp at hg
    simp [Region.wanted, this]
  · obtain ⟨j, hog, oj, hoj, hojd⟩ := hj t want e
    have hv' : tmps.getD t undef = .bool b := bool_of (he t _ hb)
    have htm : tmps[t]? = some (.bool b) := by
      cases hh : tmps[t]? with
      | none => simp [Array.getD_eq_getD_getElem?, hh, undef] at hv'
      | some x => simp [Array.getD_eq_getD_getElem?, hh] at hv'; rw [hv']
    have := hy t j oj hoj hojd
    rw [htm] at this
    simp only [Region.wanted, hog, this]
    cases b <;> cases want <;> rfl
  · obtain ⟨j, hog, oj, hoj, hojd⟩ := hj t want e
    have hv' : tmps.getD t undef = undef := und_of (he t _ hb)
    have hy' : yielded ops.toArray tmps j = none := by
      rw [hy t j oj hoj hojd]
      cases hh : tmps[t]? with
      | none => rfl
      | some x => simp [Array.getD_eq_getD_getElem?, hh] at hv'; rw [hv']; rfl
    simp [Region.wanted, hog, hy']

/-- **one operation, in whatever frame** -/
theorem aop_steps {ε : Env} {fr : Frame} {cs : List Frame} {ops : List Oper} {i : Nat} {rest : List Nat} {l : List Item} {o : Oper} {ao : AOp} {N : Nat} {r : AV} (H : HRel C h L w) (he : EnvF C h L w ε fr.tmps) (hN : fr.tmps.size = N)
    (hmode : fr.mode = .run) (ht : fr.todo = .inRegion ops.toArray (i :: rest) :: l) (ho : ops[i]? = some o) (hm : maop C.P N ops o ao = true) (hd : AOpDo C.P ao ε h r h') :
    ∃ v w' L', Step w (okOf C h L) h L w' (okOf C h' L') h' L' ∧ HRel C h' L' w' ∧ EnvF C h' L' w' (Env.put ε ao.d r) (putV fr.tmps ao.d v) ∧
      Steps C.P (lone fr cs w) (lone { fr with tmps := putV fr.tmps ao.d v, todo := .inRegion ops.toArray rest :: l } cs w') := by
  obtain ⟨g0, g1, g2⟩ := guardF he hm
  have hm' := hm
  simp only [maop, Bool.and_eq_true, beq_iff_eq] at hm'
  obtain ⟨⟨⟨⟨hnd, hdst⟩, hdN⟩, _⟩, hk⟩ := hm'
  have hdN' : ∀ d', ao.d = some d' → d' < fr.tmps.size := fun d' e => by rw [e] at hdN; rw [hN]; simpa using hdN
  have ho' : ops.toArray[i]? = some o := by simpa using ho
  have hfin : ∀ v, fr.finish v = { fr with tmps := putV fr.tmps ao.d v, todo := .inRegion ops.toArray rest :: l } := fun v => by rw [finish_reg ht ho', hdst]
  -- the operation runs
  have run : Region.wanted o (yielded ops.toArray fr.tmps) = true → OpDo C.P (opdV ε) h ao.k r h' → ∃ v w' L', Step w (okOf C h L) h L w' (okOf C h' L') h' L' ∧ HRel C h' L' w' ∧ EnvF C h' L' w' (Env.put ε ao.d r) (putV fr.tmps ao.d v) ∧
      Steps C.P (lone fr cs w) (lone { fr with tmps := putV fr.tmps ao.d v, todo := .inRegion ops.toArray rest :: l } cs w') := by
    intro hw hop
    rcases opDo_sound H (rhoF he) hk hop with ⟨w', L', x, hrun, s, H', hrel⟩ | ⟨f, vs, hrun, hcalls⟩
    · rcases hrun with hrun | ⟨hrun, hnone⟩
      · exact ⟨x, w', L', s, H', (he.step s).put hdN' (fun e => hrel (by rw [hdst]; exact e)), by rw [← hfin]; exact step_value hmode ht ho' hw hnd hrun⟩
      · rw [hdst] at hnone
        refine ⟨undef, w', L', s, H', ?_, by rw [← hfin]; exact step_skip' hmode ht ho' hw hnd hrun⟩
        rw [hnone]; exact he.step s
    · obtain ⟨x, w', ⟨x', L', e, s, H', hrel⟩, hst⟩ := step_call (cs := cs) hmode ht ho' hw hnd hrun hcalls (fun e w'' hh => by obtain ⟨x, _, e, _⟩ := hh; exact ⟨x, e⟩)
      cases e
      exact ⟨x, w', L', s, H', (he.step s).put hdN' (fun _ => hrel), by rw [← hfin]; exact hst⟩
  have not : Region.wanted o (yielded ops.toArray fr.tmps) = false → r = .und → h' = h → ∃ v w' L', Step w (okOf C h L) h L w' (okOf C h' L') h' L' ∧ HRel C h' L' w' ∧ EnvF C h' L' w' (Env.put ε ao.d r) (putV fr.tmps ao.d v) ∧
      Steps C.P (lone fr cs w) (lone { fr with tmps := putV fr.tmps ao.d v, todo := .inRegion ops.toArray rest :: l } cs w') := by
    rintro hw rfl rfl
    exact ⟨undef, w, L, Step.refl _ _ _ _, H, he.put hdN' (fun _ => .und), by rw [← hfin]; exact step_not hmode ht ho' hw⟩
  unfold AOpDo at hd
  split at hd
  · rename_i hg; exact run (g0 hg) hd
  · rename_i t want hg
    rcases hd with ⟨h1, h2⟩ | ⟨h1, h2, h3⟩ | ⟨h1, h2, h3⟩
    · exact run (by rw [g1 t want _ hg h1]; simp) h2
    · exact not (by rw [g1 t want _ hg h1]; cases want <;> rfl) h2 h3
    · exact not (g2 t want hg h1) h2 h3
end

section
variable {C : Ctx} {h h' : AHeap} {L L' : Lay} {w w' : World} {Q : List AFrame → AHeap → Prop} {f : AFrame} {fs : List AFrame} {k : List AItem}
def putL (env : List (Nat × AV)) (d : Option Nat) (v : AV) : List (Nat × AV) := match d with | some d => aset env d v | none => env
theorem aget_putL (env : List (Nat × AV)) (d : Option Nat) (v : AV) : aget (putL env d v) = Env.put (aget env) d v := by
  cases d with
  | none => rfl
  | some d => funext t; simp only [putL, Env.put, aget_aset]

/-- the place in a region -/
theorem inReg_at {P : Program} {N : Nat} {ops : List Oper} {kk : Nat} {o : AOp} {os : List AOp} (hm : maops P N ops (ops.drop kk) (o :: os) = true) : ∃ op, ops[kk]? = some op ∧ maop P N ops op o = true ∧ maops P N ops (ops.drop (kk + 1)) os = true ∧ (List.range ops.length).drop kk = kk :: (List.range ops.length).drop (kk + 1) := by
  rcases Nat.lt_or_ge kk ops.length with h1 | h1
  · rw [List.drop_eq_getElem_cons h1] at hm
    simp only [maops, Bool.and_eq_true] at hm
    exact ⟨ops[kk], List.getElem?_eq_getElem h1, hm.1, hm.2, by rw [List.drop_eq_getElem_cons (by simpa using h1)]; simp⟩
  · rw [List.drop_of_length_le h1] at hm; simp [maops] at hm

theorem ev_op {o : AOp} {os : List AOp} {r : AV} (hr : f.ret = false) (ht : f.todo = .inReg (o :: os) :: k) (hd : AOpDo C.P o (aget f.env) h r h') (hq : Ev C ({ f with env := putL f.env o.d r, todo := .inReg os :: k } :: fs) h' Q) : Ev C (f :: fs) h Q := by
  intro L fr cs w hf H _
  cases hf with
  | cons hf hk =>
    rcases hf.mode with ⟨e, _⟩ | ⟨_, hm, hi⟩
    · rw [hr] at e; cases e
    · rw [ht] at hi
      cases hi' : fr.todo with
      | nil => rw [hi'] at hi; cases hi
      | cons y l =>
        rw [hi'] at hi
        cases hi with
        | cons hx hki =>
          cases hx with
          | inReg ops kk _ hmc =>
            obtain ⟨op, e1, e2, e3, e4⟩ := inReg_at hmc
            rw [e4] at hi'
            obtain ⟨v, w', L', s, H', he', hst⟩ := aop_steps (cs := cs) H hf.env hf.size hm hi' e1 e2 hd
            have hfs := hf.step s
            obtain ⟨fs2, h2', L2, fr2, cs2, w2, q2, n2, a2, b2, s2⟩ := hq L' { fr with tmps := putV fr.tmps o.d v, todo := .inRegion ops.toArray ((List.range ops.length).drop (kk + 1)) :: l } cs w'
              (.cons ⟨hf.fn, by rw [putV_size]; exact hf.size, by intro t av hta; exact he' t av (by rw [← aget_putL]; exact hta), hf.kind, hfs.defs, hfs.rnd, .inr ⟨hr, hm, .cons (.inReg ops (kk + 1) os e3) (hki.step s)⟩, hf.res⟩ (hk.step s)) H' (by simp)
            exact ⟨fs2, h2', L2, fr2, cs2, w2, q2, n2, a2, b2, hst.trans s2⟩
end
end Go.Proofs.Ytimmgjppippdiaa
