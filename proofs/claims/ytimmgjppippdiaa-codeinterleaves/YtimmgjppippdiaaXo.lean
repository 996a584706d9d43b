/- Drawn regions, calls, returns, rounds of a loop over a function. No condition. -/
import Derived.Test.YtimmgjppippdiaaXn
namespace Go.Proofs.Ytimmgjppippdiaa
open Go.RowKit (Below)
section
variable {C : Ctx} {h h' : AHeap} {L L' : Lay} {w w' : World} {Q : List AFrame → AHeap → Prop} {f : AFrame} {fs : List AFrame} {k : List AItem}

theorem Step.trans {w1 w2 w3 : World} {ok1 ok2 ok3 : Nat → Prop} {h1 h2 h3 : AHeap} {L1 L2 L3 : Lay} (a : Step w1 ok1 h1 L1 w2 ok2 h2 L2) (b : Step w2 ok2 h2 L2 w3 ok3 h3 L3) : Step w1 ok1 h1 L1 w3 ok3 h3 L3 := by
  refine ⟨Nat.le_trans a.size b.size, fun g hg ho => ?_, fun c => Nat.le_trans (a.nx c) (b.nx c), fun c j sz hj ht => ?_⟩
  · obtain ⟨q1, q2⟩ := a.mem g hg ho
    obtain ⟨q3, q4⟩ := b.mem g (Nat.lt_of_lt_of_le hg a.size) q1
    exact ⟨q3, q4.trans q2⟩
  · obtain ⟨q1, q2, q3⟩ := b.tags c j sz (Nat.lt_of_lt_of_le hj (a.nx c)) ht
    obtain ⟨q4, q5, q6⟩ := a.tags c j sz hj q1
    exact ⟨q4, q2.trans q5, q3.trans q6⟩

/-- **a region whose order is drawn**: the text's order serves -/
theorem ev_draw {fr : List (Nat × Nat)} {ops : List AOp} {zs : List Foot} {ε2 : Env} {env2 : List (Nat × AV)} (hfol : C.P.follows .mixedOrders = true) (hr : f.ret = false) (ht : f.todo = .code (.reg (some fr) ops) :: k) (hza : zs.map (·.o) = ops) (hfree : ∀ (i j : Nat) (x z : Foot), (i, j) ∈ fr → zs[i]? = some x → zs[j]? = some z → (x.o.k.neutral = true ∨ z.o.k.neutral = true) → (z.o.k.neutral = true ∧ Disj z.r x.w) ∨ (x.o.k.neutral = true ∧ Disj x.r z.w))
    (hrun : Runs C.P zs (aget f.env) h ε2 h') (henv : ∀ t av, aget env2 t = some av → ε2 t = some av)
    (hq : Ev C ({ f with env := env2, todo := k } :: fs) h' Q) : Ev C (f :: fs) h Q := by
  intro L fr cs w hf H _
  cases hf with
  | cons hf hk =>
    rcases hf.mode with ⟨e, _⟩ | ⟨_, hm, hi⟩
    · rw [hr] at e; cases e
    · rw [ht] at hi
      obtain ⟨fn, tmps, todo, defers, mode, kind, rnd⟩ := fr
      cases hi with
      | cons hx hki =>
        cases hx with
        | code _ c hmc =>
          dsimp only at hm; subst hm
          cases c <;> simp only [mcode, Bool.false_eq_true, Bool.and_eq_true, beq_iff_eq] at hmc
          rename_i l id ops' draw
          obtain ⟨⟨rfl, hmc⟩, hdr⟩ := hmc
          obtain ⟨hlen0, _⟩ := maops_spec hmc
          have hlen : ops'.toList.length = zs.length := by rw [hlen0, ← hza]; simp
          obtain ⟨s0, H0⟩ := H.grow (w' := w.drew) ((Below.refl _ _).drew)
          have hleft : left zs (Array.replicate ops'.size false) = zs := by
            unfold left
            have : ((List.range zs.length).filter fun i => !(Array.replicate ops'.size false).getD i true) = List.range zs.length := by
              apply List.filter_eq_self.2
              intro i hi
              have : i < ops'.size := by have : i < zs.length := by simpa using hi
                                         rw [← hlen] at this; simpa using this
              simp [this]
            rw [this]
            apply List.ext_getElem?
            intro j
            have key : ∀ n, n ≤ zs.length → (List.range n).filterMap (fun i => zs[i]?) = zs.take n := by
              intro n
              induction n with
              | zero => intro _; rfl
              | succ n ih =>
                intro hn
                rw [List.range_succ, List.filterMap_append, ih (by omega), List.take_add_one]
                cases hh : zs[n]? <;> simp [hh]
            rw [key _ (Nat.le_refl _), List.take_length]
          have hcount : ((List.range zs.length).filter fun i => !(Array.replicate ops'.size false).getD i true).length = ops'.size := by
            have : ((List.range zs.length).filter fun i => !(Array.replicate ops'.size false).getD i true) = List.range zs.length := by
              apply List.filter_eq_self.2
              intro i hi
              have : i < ops'.size := by have : i < zs.length := by simpa using hi
                                         rw [← hlen] at this; simpa using this
              simp [this]
            rw [this]; simp only [List.length_range]; rw [← hlen]; simp
          have hf0 := hf.step s0
          obtain ⟨tmps', w', L', s, H', he', hN', hst⟩ := draw_go (C := C) (opl := ops'.toList) hza hfree hmc hdr (fn := fn) (kind := kind) (defers := defers) (rnd := rnd) (cs := cs) (l := l) ops'.size (w.tape w.drawn (.order fn id)) (Array.replicate ops'.size false) (aget f.env) h L w.drew tmps
            (by simp) (fun j o hj hl => by
              have : j < ops'.size ∨ ops'.size ≤ j := Nat.lt_or_ge _ _
              rcases this with h1 | h1
              · simp [h1] at hl
              · simp [Array.getElem?_eq_none (show (Array.replicate ops'.size false).size ≤ j by simpa using h1)] at hl) hcount (by rw [hleft]; exact hrun) H0 hf0.env hf.size
          have s' := s0.trans s
          have hfs := hf.step s'
          obtain ⟨fs2, h2', L2, fr2, cs2, w2, q2, n2, a2, b2, s2⟩ := hq L' { fn, tmps := tmps', todo := l, defers, mode := .run, kind, roundOf := rnd } cs w'
            (.cons ⟨hf.fn, hN', fun t av hta => he' t av (henv t av hta), hf.kind, hfs.defs, hfs.rnd, .inr ⟨hr, rfl, hki.step s'⟩, hf.res⟩ (hk.step s')) H' (by simp)
          refine ⟨fs2, h2', L2, fr2, cs2, w2, q2, n2, a2, b2, ?_⟩
          refine Steps.trans (go1 (w' := w.drew) (fr' := { fn, tmps, todo := .inRegion ops'.toList.toArray (Region.linearise.go .any ops'.toList.toArray ops'.size (w.tape w.drawn (.order fn id)) (Array.replicate ops'.size false) []) :: l, defers, mode := .run, kind, roundOf := rnd }) ?_) (hst.trans ((go1 ?_ : Steps C.P _ (lone { fn, tmps := tmps', todo := l, defers, mode := .run, kind, roundOf := rnd } cs w')).trans s2))
          · simp [stepG, stepG.exec, choose, Sem.run, Question.forced, Question.cut, Region.schedule, hfol, Region.linearise]
          · simp [stepG, stepG.exec]

/-- a call that is entered -/
def enterA (T : Tab) (g : FuncId) (avs : List AV) : Option AFrame :=
  match T g with
  | some af => match Nat.ble avs.length af.N with
    | true => some { fn := g, N := af.N, env := argsEnv 0 avs, todo := [.code af.code], defs := [], rnd := none, ret := false, res := af.res }
    | false => none
  | none => none
theorem enter_rel {T : Tab} (hT : TabOK C.P T) {g : FuncId} {avs : List AV} {af : AFrame} {vs : Array Value} (he : enterA T g avs = some af) (hrel : RelL w (okOf C h L) h L avs vs.toList) : FrRel C h L w af (Frame.enter C.P g vs .normal) ∧ calleeOk C.P g = true := by
  unfold enterA at he
  split at he
  · rename_i fu hfu
    split at he
    · rename_i hle
      have hle : avs.length ≤ fu.N := by simpa using hle
      cases he
      have hmf := hT g fu hfu
      unfold mfunc at hmf
      split at hmf
      · rename_i fn hfn
        simp only [Bool.and_eq_true, beq_iff_eq] at hmf
        obtain ⟨⟨⟨h1, h2⟩, h3⟩, h4⟩ := hmf
        split at h2
        · rename_i c hc
          have hsz : vs.size ≤ fu.N := by have := hrel.1; simp at this; omega
          refine ⟨⟨rfl, ?_, ?_, rfl, ⟨[], rfl, rfl, fun j d g hd => by simp at hd⟩, rfl, .inr ⟨rfl, rfl, ?_⟩, fun _ => ⟨fn, hfn, h3⟩⟩, h4⟩
          · simp [Frame.enter, hfn, h1]; omega
          · intro t av ht
            rw [argsEnv_get] at ht
            simp only [Nat.zero_le, if_true, Nat.sub_zero] at ht
            have hlt : t < avs.length := (List.getElem?_eq_some_iff.1 ht).1
            have hv : vs.toList[t]? = some (vs.toList[t]'(by rw [← hrel.1]; exact hlt)) := List.getElem?_eq_getElem _
            have hr := hrel.2 t av _ ht hv
            have hlv : t < vs.size := by have := hrel.1; simp at this; omega
            have : (Frame.enter C.P g vs .normal).tmps.getD t undef = vs.toList[t]'(by rw [← hrel.1]; exact hlt) := by
              simp [Frame.enter, hfn, Array.getD_eq_getD_getElem?, Array.getElem?_append_left hlv, hlv]
            rw [this]; exact hr
          · have : (Frame.enter C.P g vs .normal).todo = [.code c] := by simp [Frame.enter, hfn, hc]
            rw [this]
            exact .cons (.code _ _ h2) .nil
        · cases h2
      · cases hmf
    · cases he
  · cases he

def guardOK (o : AOp) (env : List (Nat × AV)) : Prop := match o.g with | none => True | some (t, want) => aget env t = some (.bool want)
theorem ev_call {T : Tab} (hT : TabOK C.P T) {o : AOp} {os : List AOp} {g : FuncId} {avs : List AV} {af : AFrame} (hr : f.ret = false) (ht : f.todo = .inReg (o :: os) :: k) (hg : guardOK o f.env)
    (ho : (∃ args m a, (o.k = .icall g args ∨ o.k = .ncall m a g args) ∧ avs = args.map (opdV (aget f.env))) ∨ (∃ x args caps m a, (o.k = .icallv x args ∨ o.k = .ncallv m a x args) ∧ opdV (aget f.env) x = .fn g caps ∧ avs = args.map (opdV (aget f.env)) ++ caps))
    (he : enterA T g avs = some af) (hq : Ev C (af :: f :: fs) h Q) : Ev C (f :: fs) h Q := by
  intro L fr cs w hf H _
  cases hf with
  | cons hf hk =>
    rcases hf.mode with ⟨e, _⟩ | ⟨_, hm, hi⟩
    · rw [hr] at e; cases e
    · have hi0 := hi
      rw [ht] at hi
      cases hi' : fr.todo with
      | nil => rw [hi'] at hi; cases hi
      | cons y l =>
        rw [hi'] at hi
        cases hi with
        | cons hx hki =>
          cases hx with
          | inReg ops kk _ hmc =>
            obtain ⟨op, e1, e2, e3, e4⟩ := inReg_at hmc
            rw [e4] at hi'
            have henv : EnvF C h L w (aget f.env) fr.tmps := hf.env
            obtain ⟨g0, g1, _⟩ := guardF henv e2
            have hwant : Region.wanted op (yielded ops.toArray fr.tmps) = true := by
              unfold guardOK at hg
              split at hg
              · rename_i hgg; exact g0 hgg
              · rename_i t want hgg; rw [g1 t want want hgg hg]; simp
            have e2' := e2
            simp only [maop, Bool.and_eq_true, beq_iff_eq] at e2'
            obtain ⟨⟨⟨⟨hnd, _⟩, _⟩, _⟩, hmop⟩ := e2'
            have hρ := rhoF henv
            obtain ⟨vs, hrun, hrel⟩ : ∃ vs, (∀ hc : calleeOk C.P g = true, (execOp fr.eval op).run C.P w = .ok (.enter g vs) w) ∧ RelL w (okOf C h L) h L avs vs.toList := by
              rcases ho with ⟨args, m, a, hok, rfl⟩ | ⟨x, args, caps, m, a, hok, hx, rfl⟩
              · rcases hok with hok | hok <;> rw [hok] at hmop <;> simp only [mop] at hmop <;> split at hmop <;> first
                  | (rename_i f' args' ts hop
                     simp only [Bool.and_eq_true, beq_iff_eq] at hmop
                     obtain ⟨⟨rfl, hmop⟩, hcal⟩ := hmop
                     exact ⟨args'.map fr.eval, fun hc => by simpa using run_call (w := w) hop (hρ.fnc g) hc, mopds_rel hρ hmop⟩)
                  | cases hmop
              · rcases hok with hok | hok <;> rw [hok] at hmop <;> simp only [mop] at hmop <;> split at hmop <;> first
                  | (rename_i x' args' ts hop
                     simp only [Bool.and_eq_true] at hmop
                     have rx := hρ.rel x x' hmop.1
                     rw [hx] at rx
                     obtain ⟨cvs, c1, c2⟩ := fn_of rx
                     exact ⟨args'.map fr.eval ++ cvs, fun hc => run_call (w := w) hop c1 hc, by rw [Array.toList_append]; exact (mopds_rel hρ hmop.2).append c2⟩)
                  | cases hmop
            obtain ⟨hfr, hcal⟩ := enter_rel hT he hrel
            obtain ⟨fs2, h2', L2, fr2, cs2, w2, q2, n2, a2, b2, s2⟩ := hq L _ (fr :: cs) w (.cons hfr (.cons ⟨hf.fn, hf.size, hf.env, hf.kind, hf.defs, hf.rnd, .inr ⟨hr, hm, hi0⟩, hf.res⟩ hk)) H (by simp)
            exact ⟨fs2, h2', L2, fr2, cs2, w2, q2, n2, a2, b2, (step_enter hm hi' (by simpa using e1) hwant hnd (hrun hcal)).trans s2⟩

/-! ### Results -/
def collR (A : Ar) (env : List (Nat × AV)) (h : AHeap) : List ARes → Option (Bool × List AV)
  | [] => some (true, [])
  | .tmp t :: rs => match collR A env h rs with
    | some (b, vs) => some (b, opdV (aget env) (.t t) :: vs)
    | none => none
  | .cell t ag n :: rs => match loadR A h ag n (opdV (aget env) (.t t)), collR A env h rs with
    | some (b1, v), some (b2, vs) => some (A.and b1 b2, v :: vs)
    | _, _ => none
def joinR : List AV → AV
  | [v] => v
  | vs => .tup vs
def resF (tmps : Array Value) : ResultVar → Sem Value
  | .tmp t => pure (tmps.getD t undef)
  | .cell a t => do loadVar t (← asAddr (tmps.getD a undef))
theorem results_eq (fn : Func) (tmps : Array Value) : results fn tmps = (fn.results.mapM (resF tmps) >>= fun vs => pure (if h : vs.size = 1 then vs[0] else .tuple vs)) := rfl
theorem coll_run (H : HRel C h L w) {env : List (Nat × AV)} {tmps : Array Value} (he : EnvRel C h L w env tmps) : ∀ (rs : List ResultVar) (as : List ARes) (vs : List AV), mres C.P rs as = true → collR std env h as = some (true, vs) →
    ∃ xs : List Value, RelL w (okOf C h L) h L vs xs ∧ (rs.mapM (resF tmps)).run C.P w = .ok xs w
  | [], [], vs, _, hc => by simp only [collR, Option.some.injEq, Prod.mk.injEq, true_and] at hc; subst hc; exact ⟨[], RelL.nil, by simp⟩
  | .tmp t :: rs, .tmp t' :: as, vs, hm, hc => by
    simp only [mres, Bool.and_eq_true, beq_iff_eq] at hm
    obtain ⟨rfl, hm⟩ := hm
    simp only [collR] at hc
    split at hc
    · rename_i b vs' hc'
      simp only [Option.some.injEq, Prod.mk.injEq] at hc
      obtain ⟨rfl, rfl⟩ := hc
      obtain ⟨xs, h1, h2⟩ := coll_run H he rs as vs' hm hc'
      have hv : RelC C h L w (opdV (aget env) (.t t)) (tmps.getD t undef) := by
        simp only [opdV]
        cases hg : aget env t with
        | none => exact .top _
        | some av => exact he t av hg
      exact ⟨tmps.getD t undef :: xs, RelL.cons hv h1, by simp only [List.mapM_cons, resF, Sem.run_bind, Sem.run_pure, Result.andThen_ok]; rw [h2]; rfl⟩
    · cases hc
  | .cell t ty :: rs, .cell t' ag n :: as, vs, hm, hc => by
    simp only [mres, Bool.and_eq_true, beq_iff_eq] at hm
    obtain ⟨⟨rfl, hsh⟩, hm⟩ := hm
    obtain ⟨d, i, hd, hag, hi, hn, hne⟩ := shapeB_spec hsh
    simp only [collR] at hc
    split at hc
    · rename_i b1 v b2 vs' hl hc'
      simp only [Option.some.injEq, Prod.mk.injEq, std_and] at hc
      obtain ⟨⟨rfl, rfl⟩, rfl⟩ := hc
      obtain ⟨xs, h1, h2⟩ := coll_run H he rs as vs' hm hc'
      have hv : RelC C h L w (opdV (aget env) (.t t)) (tmps.getD t undef) := by
        simp only [opdV]
        cases hg : aget env t with
        | none => exact .top _
        | some av => exact he t av hg
      obtain ⟨x, ad, e1, e2, e3⟩ := load_val H hv hd hag hi hn hne hl
      have ea : (asAddr (tmps.getD t undef)).run C.P w = .ok ad w := by rw [e1]; rfl
      exact ⟨x :: xs, RelL.cons e3 h1, by simp only [List.mapM_cons, resF, Sem.run_bind, Result.andThen_ok, ea, e2]; rw [h2]; rfl⟩
    · cases hc
  | [], _ :: _, _, hm, _ => by simp [mres] at hm
  | .tmp _ :: _, [], _, hm, _ => by simp [mres] at hm
  | .cell _ _ :: _, [], _, hm, _ => by simp [mres] at hm
  | .tmp _ :: _, .cell _ _ _ :: _, _, hm, _ => by simp [mres] at hm
  | .cell _ _ :: _, .tmp _ :: _, _, hm, _ => by simp [mres] at hm
theorem results_run (H : HRel C h L w) {env : List (Nat × AV)} {tmps : Array Value} (he : EnvRel C h L w env tmps) {fn : Func} {as : List ARes} {vs : List AV} (hm : mres C.P fn.results.toList as = true) (hc : collR std env h as = some (true, vs)) :
    ∃ x, (results fn tmps).run C.P w = .ok x w ∧ RelC C h L w (joinR vs) x := by
  obtain ⟨xs, h1, h2⟩ := coll_run H he fn.results.toList as vs hm hc
  have h3 : (fn.results.mapM (resF tmps)).run C.P w = .ok xs.toArray w := by
    rw [Array.mapM_eq_mapM_toList]
    show Sem.run C.P (List.mapM _ _ >>= fun x => pure x.toArray) w = _
    rw [Sem.run_bind, h2]
    rfl
  have hl := h1.1
  unfold joinR
  split
  · rename_i v
    obtain ⟨x, rfl⟩ : ∃ x, xs = [x] := by
      cases xs with
      | nil => simp at hl
      | cons x r => cases r with
        | nil => exact ⟨x, rfl⟩
        | cons y r => simp at hl
    exact ⟨x, by rw [results_eq, Sem.run_bind, h3]; rfl, h1.2 0 v x rfl rfl⟩
  · rename_i hne
    have hsz : xs.toArray.size ≠ 1 := by
      intro e
      cases vs with
      | nil => simp at hl e; omega
      | cons v r => cases r with
        | nil => exact hne v rfl
        | cons y r => simp at hl e; omega
    exact ⟨.tuple xs.toArray, by rw [results_eq, Sem.run_bind, h3, Result.andThen_ok, dif_neg hsz]; rfl, .tup vs xs.toArray (by simpa using hl) (fun j u v hu hv => h1.2 j u v hu (by simpa using hv))⟩

/-- a result comes back -/
def finA (f : AFrame) (v : AV) : Option AFrame :=
  match f.ret, f.todo with
  | false, .inReg (o :: os) :: k => some { f with env := putL f.env o.d v, todo := .inReg os :: k }
  | false, .inRF a i :: k => some { f with todo := .endRF a i :: k }
  | _, _ => none
theorem fin_rel {f f' : AFrame} {fr : Frame} {v : AV} {x : Value} (hf : FrRel C h L w f fr) (hv : RelC C h L w v x) (he : finA f v = some f') : FrRel C h L w f' (fr.finish x) := by
  unfold finA at he
  split at he
  · rename_i o os k hr ht
    cases he
    rcases hf.mode with ⟨e, _⟩ | ⟨_, hm, hi⟩
    · rw [hr] at e; cases e
    · rw [ht] at hi
      cases hi' : fr.todo with
      | nil => rw [hi'] at hi; cases hi
      | cons y l =>
        rw [hi'] at hi
        cases hi with
        | cons hx hki =>
          cases hx with
          | inReg ops kk _ hmc =>
            obtain ⟨op, e1, e2, e3, e4⟩ := inReg_at hmc
            rw [e4] at hi'
            have e2' := e2
            simp only [maop, Bool.and_eq_true, beq_iff_eq] at e2'
            obtain ⟨⟨⟨⟨_, hdst⟩, hdN⟩, _⟩, _⟩ := e2'
            rw [finish_reg hi' (by simpa using e1), hdst]
            have hp : EnvF C h L w (Env.put (aget f.env) o.d v) (putV fr.tmps o.d x) := EnvF.put hf.env (fun d' e => by rw [e] at hdN; rw [hf.size]; simpa using hdN) (fun _ => hv)
            exact ⟨hf.fn, by rw [putV_size]; exact hf.size, fun t av hta => hp t av (by rw [← aget_putL]; exact hta), hf.kind, hf.defs, hf.rnd, .inr ⟨hr, hm, .cons (.inReg ops (kk + 1) os e3) hki⟩, hf.res⟩
  · rename_i a i k hr ht
    cases he
    rcases hf.mode with ⟨e, _⟩ | ⟨_, hm, hi⟩
    · rw [hr] at e; cases e
    · rw [ht] at hi
      cases hi' : fr.todo with
      | nil => rw [hi'] at hi; cases hi
      | cons y l =>
        rw [hi'] at hi
        cases hi with
        | cons hx hki =>
          cases hx with
          | inRF _ _ g hl =>
            have : fr.finish x = { fr with todo := .endRangeFunc g :: l } := by
              obtain ⟨fn, tmps, todo, defers, mode, kind, rnd⟩ := fr
              dsimp only at hi'; subst hi'
              rfl
            rw [this]
            exact ⟨hf.fn, hf.size, hf.env, hf.kind, hf.defs, hf.rnd, .inr ⟨hr, hm, .cons (.endRF _ _ g hl) hki⟩, hf.res⟩
  · cases he

theorem ev_pop {c c' : AFrame} {vs : List AV} (hr : f.ret = true) (hn : f.rnd = none) (hd : f.defs = []) (hc : collR std f.env h f.res = some (true, vs)) (hfin : finA c (joinR vs) = some c') (hq : Ev C (c' :: fs) h Q) : Ev C (f :: c :: fs) h Q := by
  intro L fr cs w hf H _
  cases hf with
  | cons hf hk =>
    cases hk with
    | cons hfc hk =>
      rename_i frc csc
      rcases hf.mode with ⟨_, hm⟩ | ⟨e, _⟩
      · obtain ⟨fn, hfn, hmr⟩ := hf.res hn
        obtain ⟨x, e1, e2⟩ := results_run H hf.env hmr hc
        obtain ⟨fs2, h2', L2, fr2, cs2, w2, q2, n2, a2, b2, s2⟩ := hq L (frc.finish x) csc w (.cons (fin_rel hfc e2 hfin) hk) H (by simp)
        refine ⟨fs2, h2', L2, fr2, cs2, w2, q2, n2, a2, b2, Steps.trans (.one (step_leave_returned ⟨hm, ?_, hf.kind, fn, ?_, e1⟩)) s2⟩
        · obtain ⟨gs, g1, g2, _⟩ := hf.defs
          rw [hd] at g2
          rw [g1, List.eq_nil_of_length_eq_zero g2]; rfl
        · rw [hf.fn]; exact hfn
      · rw [hr] at e; cases e
end
end Go.Proofs.Ytimmgjppippdiaa
