/- Ghosts; the rounds of a loop over a function. No condition. -/
import Derived.Test.YtimmgjppippdiaaXo
namespace Go.Proofs.Ytimmgjppippdiaa
open Go.RowKit (Below)
section
variable {C : Ctx} {h h' : AHeap} {L L' : Lay} {w w' : World} {Q : List AFrame → AHeap → Prop} {f : AFrame} {fs : List AFrame} {k : List AItem}

theorem putObj_grown (w : World) (g : Nat) (o : Obj) : w.grownBy (w.putObj g o) (some g) := ⟨rfl, rfl, rfl, by simp, fun k _ hne => World.putObj_heap_other (fun e => hne (by rw [e]))⟩
/-- a block is written for the last time, and tracked no longer -/
theorem HRel.killW (H : HRel C h L w) {a i : Nat} (hl : (blk h a i).tag ≠ none) (hg : w.grownBy w' (some (L.loc a i))) : Step w (okOf C h L) h L w' (okOf C (setB h a i .dead) L) (setB h a i .dead) L ∧ HRel C (setB h a i .dead) L w' := by
  have hnd : blk h a i ≠ .dead := fun e => hl (by rw [e]; rfl)
  have hblk : ∀ c j, blk (setB h a i .dead) c j = if a = c ∧ i = j then .dead else blk h c j := fun c j => blk_set hnd c j .dead
  have hb : Below C.base w w' := (Below.refl _ _).grown hg H.hbase (fun k hk => by cases hk; exact (H.live a i hl).1)
  have htag : ∀ c j, (blk (setB h a i .dead) c j).tag ≠ none → (blk h c j).tag ≠ none ∧ ¬ (c = a ∧ j = i) := fun c j ht => by
    rw [hblk] at ht
    split at ht
    · exact absurd rfl ht
    · rename_i hne; exact ⟨ht, fun e => hne ⟨e.1.symm, e.2.symm⟩⟩
  have hs : Step w (okOf C h L) h L w' (okOf C (setB h a i .dead) L) (setB h a i .dead) L := by
    refine ⟨hb.size, fun k hk ho => ⟨?_, hg.block k hk (fun e => ok_ne H ho hl (by simpa using e))⟩, fun c => by rw [nxt_set]; exact Nat.le_refl _, fun c j sz _ ht => ?_⟩
    · rcases ho with ho | ⟨h1, h2⟩
      · exact .inl ho
      · exact .inr ⟨h1, fun c j hc => h2 c j (htag c j hc).1⟩
    · rw [hblk] at ht
      split at ht
      · cases ht
      · exact ⟨ht, rfl, rfl⟩
  refine ⟨hs, H.one hs hb a i (fun c j hne => ?_) (fun ht => ?_) ?_ (fun c j _ _ ht => ?_)⟩
  · have he : blk (setB h a i .dead) c j = blk h c j := by rw [hblk, if_neg (fun e => hne ⟨e.1.symm, e.2.symm⟩)]
    by_cases hdd : (blk h c j).tag = none
    · rw [tag_dead hdd] at he; exact .inl he
    · refine .inr ⟨he, rfl, rfl, hg.block _ (H.live c j hdd).2 (fun e => ?_)⟩
      obtain ⟨rfl, rfl⟩ := H.inj c j a i hdd hl (by simpa using e)
      exact hne ⟨rfl, rfl⟩
  · rw [hblk, if_pos ⟨rfl, rfl⟩] at ht; exact absurd rfl ht
  · rw [hblk, if_pos ⟨rfl, rfl⟩]; trivial
  · rw [hblk, if_pos ⟨rfl, rfl⟩] at ht; exact absurd rfl ht

/-! ### Ghosts -/
def keepE (ts : List Nat) (env : List (Nat × AV)) : List (Nat × AV) := env.filter fun p => ts.any fun t => Nat.beq p.1 t
def ghostA (env : List (Nat × AV)) (h : AHeap) : Ghost → Option (List (Nat × AV) × AHeap)
  | .keep ts => some (keepE ts env, h)
  | .drop a => some (env, dropF h a)
  | .frz t => match aget env t with
    | some (.row a i) => match blk h a i with
      | .row _ _ r => (match r.pure with | true => some (aset env t (.list r), setB h a i .dead) | false => none)
      | _ => none
    | some .nils => some (aset env t (.list (.ints .i64 [])), h)
    | some (.list _) => some (env, h)
    | _ => none
def ghostsA (env : List (Nat × AV)) (h : AHeap) : List Ghost → Option (List (Nat × AV) × AHeap)
  | [] => some (env, h)
  | g :: gs => match ghostA env h g with | some (e, h1) => ghostsA e h1 gs | none => none
theorem aget_filter (p : Nat → Bool) (env : List (Nat × AV)) (t : Nat) : aget (env.filter fun q => p q.1) t = if p t then aget env t else none := by
  have hb : ∀ a b : Nat, Nat.beq a b = decide (a = b) := fun a b => by rw [Bool.eq_iff_iff]; simp
  induction env with
  | nil => simp [aget]
  | cons q env ih =>
    obtain ⟨i, x⟩ := q
    by_cases hp : p i = true
    · rw [List.filter_cons, if_pos hp]
      simp only [aget, hb]
      by_cases hi : i = t
      · subst hi; simp [hp]
      · simp only [hi, decide_false, ih]
    · rw [List.filter_cons, if_neg hp, ih]
      simp only [aget, hb]
      by_cases hi : i = t
      · subst hi; simp [hp]
      · simp only [hi, decide_false]
theorem pureL_flatAll {r : Row} (hp : r.pure = true) : AV.pureL (flatAll r.elems) = true := by
  have hap : ∀ (a b : List AV), AV.pureL a = true → AV.pureL b = true → AV.pureL (a ++ b) = true := by
    intro a b
    induction a with
    | nil => exact fun _ h => h
    | cons z zs ihz => intro ha hb; simp only [List.cons_append, AV.pureL, Bool.and_eq_true] at ha ⊢; exact ⟨ha.1, ihz ha.2 hb⟩
  have hal : ∀ l : List AV, (∀ z ∈ l, z.pure = true) → AV.pureL l = true := by
    intro l
    induction l with
    | nil => intro _; rfl
    | cons z zs ihz => intro hz; simp only [AV.pureL, Bool.and_eq_true]; exact ⟨hz z List.mem_cons_self, ihz (fun q hq => hz q (List.mem_cons_of_mem _ hq))⟩
  have : ∀ (xs : List AV), (∀ x ∈ xs, x.pure = true) → AV.pureL (flatAll xs) = true := by
    intro xs
    induction xs with
    | nil => intro _; rfl
    | cons y ys ih =>
      intro hy
      rw [flatAll_cons]
      refine hap _ _ ?_ (ih (fun z hz => hy z (List.mem_cons_of_mem _ hz)))
      have h1 := hy y List.mem_cons_self
      cases y with
      | agg q =>
        have hq : q.pure = true := by simpa [AV.pure] using h1
        exact hal _ (fun z hz => by obtain ⟨j, hj⟩ := List.mem_iff_getElem?.1 hz; exact Row.pure_mem hq hj)
      | _ => simp only [AV.flat, AV.pureL, Bool.and_true]; exact h1
  exact this _ (fun z hz => by obtain ⟨j, hj⟩ := List.mem_iff_getElem?.1 hz; exact Row.pure_mem hp hj)

theorem ghost_sound (H : HRel C h L w) {env env' : List (Nat × AV)} {tmps : Array Value} (he : EnvRel C h L w env tmps) {g : Ghost} (hg : ghostA env h g = some (env', h')) : Step w (okOf C h L) h L w (okOf C h' L) h' L ∧ HRel C h' L w ∧ EnvRel C h' L w env' tmps := by
  cases g with
  | keep ts =>
    simp only [ghostA, Option.some.injEq, Prod.mk.injEq] at hg
    obtain ⟨rfl, rfl⟩ := hg
    refine ⟨Step.refl _ _ _ _, H, fun t av ht => ?_⟩
    unfold keepE at ht
    rw [aget_filter (fun i => ts.any fun t => Nat.beq i t)] at ht
    split at ht
    · exact he t av ht
    · cases ht
  | drop a =>
    simp only [ghostA, Option.some.injEq, Prod.mk.injEq] at hg
    obtain ⟨rfl, rfl⟩ := hg
    obtain ⟨s, H'⟩ := H.kill (dropF h a) (fun b => nxt_drop _ _ _) (fun b i => by rw [blk_drop]; split; exact .inl rfl; exact .inr rfl)
    exact ⟨s, H', he.step s⟩
  | frz t =>
    simp only [ghostA] at hg
    split at hg
    · rename_i a i hta
      split at hg
      · rename_i e sz r hb
        split at hg
        · rename_i hp
          simp only [Option.some.injEq, Prod.mk.injEq] at hg
          obtain ⟨rfl, rfl⟩ := hg
          have hnd : blk h a i ≠ .dead := by rw [hb]; simp
          obtain ⟨k1, k2⟩ := kill_dead hnd
          obtain ⟨s, H'⟩ := H.kill (setB h a i .dead) k1 (fun b j => (k2 b j).imp id fun e => e.2)
          refine ⟨s, H', fun t' av ht' => ?_⟩
          rw [aget_aset] at ht'
          split at ht'
          · rename_i htt
            subst htt
            cases ht'
            have hr := he t _ hta
            obtain ⟨ht, h0, h1, h2, h3, cur, h4, h5, h6, h7, h8⟩ := H.rowAt hb
            generalize tmps.getD t undef = x at hr
            cases hr with
            | row _ _ g o n c hn hl =>
              obtain ⟨rfl, rfl, rfl, rfl⟩ := hl.2 _ ht
              have hlv := H.live a i (by rw [ht]; simp)
              refine .list r _ rfl ⟨L.loc a i, 0, none⟩ _ _ sz (cur.toList.take (r.elems.length * sz)) hlv.2 (.inr ⟨hlv.1, fun b j htb e => ?_⟩) rfl hn h3 h6.1.symm h7 h8 (pureL_flatAll hp) (fun j u v hu hv => (h6.2 j u v hu hv).step s)
              rw [blk_set hnd] at htb
              split at htb
              · exact absurd rfl htb
              · rename_i hne
                obtain ⟨rfl, rfl⟩ := H.inj b j a i htb (by rw [ht]; simp) e
                exact hne ⟨rfl, rfl⟩
          · exact (he t' av ht').step s
        · cases hg
      · cases hg
    · rename_i hta
      simp only [Option.some.injEq, Prod.mk.injEq] at hg
      obtain ⟨rfl, rfl⟩ := hg
      refine ⟨Step.refl _ _ _ _, H, fun t' av ht' => ?_⟩
      rw [aget_aset] at ht'
      split at ht'
      · rename_i htt
        subst htt
        cases ht'
        have hr := he t _ hta
        generalize tmps.getD t undef = x at hr
        cases hr with
        | nils => exact .nil _ none 0 rfl
      · exact he t' av ht'
    · simp only [Option.some.injEq, Prod.mk.injEq] at hg
      obtain ⟨rfl, rfl⟩ := hg
      exact ⟨Step.refl _ _ _ _, H, he⟩
    · cases hg
theorem ghosts_sound : ∀ {gs : List Ghost} {h : AHeap} {env env' : List (Nat × AV)} {tmps : Array Value}, HRel C h L w → EnvRel C h L w env tmps → ghostsA env h gs = some (env', h') → Step w (okOf C h L) h L w (okOf C h' L) h' L ∧ HRel C h' L w ∧ EnvRel C h' L w env' tmps
  | [], h, env, env', tmps, H, he, hg => by
    simp only [ghostsA, Option.some.injEq, Prod.mk.injEq] at hg
    obtain ⟨rfl, rfl⟩ := hg
    exact ⟨Step.refl _ _ _ _, H, he⟩
  | g :: gs, h, env, env', tmps, H, he, hg => by
    simp only [ghostsA] at hg
    split at hg
    · rename_i e h1 hg1
      obtain ⟨s1, H1, he1⟩ := ghost_sound H he hg1
      obtain ⟨s2, H2, he2⟩ := ghosts_sound H1 he1 hg
      exact ⟨s1.trans s2, H2, he2⟩
    · cases hg
theorem ev_ghosts {gs : List Ghost} {env' : List (Nat × AV)} (hg : ghostsA f.env h gs = some (env', h')) (hq : Ev C ({ f with env := env' } :: fs) h' Q) : Ev C (f :: fs) h Q := by
  intro L fr cs w hf H _
  cases hf with
  | cons hf hk =>
    obtain ⟨s, H', he⟩ := ghosts_sound H hf.env hg
    have hfs := hf.step s
    exact hq L fr cs w (.cons ⟨hf.fn, hf.size, he, hf.kind, hfs.defs, hfs.rnd, hfs.mode, hf.res⟩ (hk.step s)) H' (by simp)
theorem ev_gh {gs : List Ghost} {c : ACode} {env' : List (Nat × AV)} (hr : f.ret = false) (ht : f.todo = .code (.gh gs c) :: k) (hg : ghostsA f.env h gs = some (env', h')) (hq : Ev C ({ f with env := env', todo := .code c :: k } :: fs) h' Q) : Ev C (f :: fs) h Q :=
  ev_gh0 hr ht (ev_ghosts (f := { f with todo := .code c :: k }) hg hq)

/-! ### Deferred calls -/
theorem ev_unwind {a i : Nat} {ds : List (Nat × Nat)} (hr : f.ret = true) (hd : f.defs = (a, i) :: ds) (hb : blk h a i = .dfr) (hq : Ev C ({ f with defs := ds } :: fs) (setB h a i .dead) Q) : Ev C (f :: fs) h Q := by
  intro L fr cs w hf H _
  cases hf with
  | cons hf hk =>
    rcases hf.mode with ⟨_, hm⟩ | ⟨e, _⟩
    · have hlive : (blk h a i).tag ≠ none := by rw [hb]; simp [Blk.tag]
      have hob := H.blks a i
      rw [hb] at hob
      have hob : w.heap[L.loc a i]? = some (.deferred (some [])) := hob
      obtain ⟨gs, g1, g2, g3⟩ := hf.defs
      rw [hd] at g2 g3
      cases gs with
      | nil => simp at g2
      | cons g gs =>
        have hg := (g3 0 (a, i) g rfl rfl).2 (0, 0) (by rw [hb]; rfl)
        have hg : g = L.loc a i := hg
        subst hg
        obtain ⟨s, H'⟩ := H.killW (w' := w.putObj (L.loc a i) (.deferred none)) hlive (putObj_grown _ _ _)
        have hfs := hf.step s
        have hdf : DefRel (setB h a i .dead) L ds (gs.map fun g => { target := .collected g, args := #[] }) :=
          DefRel.step s ⟨gs, rfl, by simpa using g2, fun j d q h1 h2 => g3 (j + 1) d q (by simpa using h1) (by simpa using h2)⟩
        obtain ⟨fs2, h2', L2, fr2, cs2, w2, q2, n2, a2, b2, s2⟩ := hq L { fr with defers := gs.map fun g => { target := .collected g, args := #[] } } cs (w.putObj (L.loc a i) (.deferred none))
          (.cons ⟨hf.fn, hf.size, hfs.env, hf.kind, hdf, hfs.rnd, .inl ⟨hr, hm⟩, hf.res⟩ (hk.step s)) H' (by simp)
        refine ⟨fs2, h2', L2, fr2, cs2, w2, q2, n2, a2, b2, Steps.trans (go1 ?_) s2⟩
        obtain ⟨fn, tmps, todo, defers, mode, kind, rnd⟩ := fr
        dsimp only at hm g1
        subst hm; subst g1
        have := run_takeDeferred (P := C.P) hob
        simp [stepG, unwind, this]
    · rw [hr] at e; cases e

/-! ### A loop over a function -/
theorem loop_at (H : HRel C h L w) {a i : Nat} {l : ALoop} (hb : blk h a i = .lp l) : (blk h a i).tag = some (0, 0) ∧ ∃ r : Loop, w.heap[L.loc a i]? = some (.loop r) ∧ JRel C.P l.N l.st r.state r.pending ∧ r.fn = l.fn ∧ r.tmps.size = l.N ∧ EnvRel C h L w l.env r.tmps ∧ r.params.toList = l.params ∧ (∀ p ∈ l.params, p < l.N) ∧
      mcode C.P l.N l.asg r.assign = true ∧ mcode C.P l.N l.body r.body = true := by
  have := H.blks a i
  rw [hb] at this
  exact ⟨by rw [hb]; rfl, this⟩
/-- the record of a loop is written -/
theorem HRel.setLoop (H : HRel C h L w) {a i : Nat} {l : ALoop} (hb : blk h a i = .lp l) {r : Loop} (_hr : w.heap[L.loc a i]? = some (.loop r)) (st : RSt) (ls : LoopState) (pd : Option Code) (hj : JRel C.P l.N st ls pd)
    (hrest : r.fn = l.fn ∧ r.tmps.size = l.N ∧ EnvRel C h L w l.env r.tmps ∧ r.params.toList = l.params ∧ (∀ p ∈ l.params, p < l.N) ∧ mcode C.P l.N l.asg r.assign = true ∧ mcode C.P l.N l.body r.body = true) :
    Step w (okOf C h L) h L (w.putObj (L.loc a i) (.loop { r with state := ls, pending := pd })) (okOf C (setB h a i (.lp { l with st := st })) L) (setB h a i (.lp { l with st := st })) L ∧ HRel C (setB h a i (.lp { l with st := st })) L (w.putObj (L.loc a i) (.loop { r with state := ls, pending := pd })) := by
  have ht : (blk h a i).tag ≠ none := by rw [hb]; simp [Blk.tag]
  refine H.set ht (by rw [hb]; rfl) (putObj_grown _ _ _) (fun s => ?_)
  obtain ⟨e1, e2, e3, e4, e5, e6, e7⟩ := hrest
  exact ⟨_, World.putObj_heap_same (H.live a i ht).2, hj, e1, e2, e3.step s, e4, e5, e6, e7⟩

theorem ev_begin {a i : Nat} {l : ALoop} (hr : f.ret = false) (hn : f.rnd = some (a, i)) (ht : f.todo = .beginRound :: k) (hb : blk h a i = .lp l) (hst : l.st = .ready) (hq : Ev C ({ f with todo := k } :: fs) (setB h a i (.lp { l with st := .busy })) Q) : Ev C (f :: fs) h Q := by
  intro L fr cs w hf H _
  cases hf with
  | cons hf hk =>
    rcases hf.mode with ⟨e, _⟩ | ⟨_, hm, hi⟩
    · rw [hr] at e; cases e
    · rw [ht] at hi
      obtain ⟨htag, r, h1, h2, h3⟩ := loop_at H hb
      have hrnd := hf.rnd
      rw [hn] at hrnd
      obtain ⟨g, hg, hl⟩ := hrnd
      have hg' : g = L.loc a i := hl.2 _ htag
      subst hg'
      rw [hst] at h2
      obtain ⟨s, H'⟩ := H.setLoop hb h1 .busy .busy r.pending rfl h3
      have hfs := hf.step s
      obtain ⟨fn, tmps, todo, defers, mode, kind, rnd⟩ := fr
      cases hi with
      | cons hx hki =>
        cases hx
        rename_i l'
        dsimp only at hm hg; subst hm; subst hg
        obtain ⟨fs2, h2', L2, fr2, cs2, w2, q2, n2, a2, b2, s2⟩ := hq L { fn, tmps, todo := l', defers, mode := .run, kind, roundOf := some (L.loc a i) } cs _
          (.cons ⟨hf.fn, hf.size, hfs.env, hf.kind, hfs.defs, hfs.rnd, .inr ⟨hr, rfl, hki.step s⟩, hf.res⟩ (hk.step s)) H' (by simp)
        refine ⟨fs2, h2', L2, fr2, cs2, w2, q2, n2, a2, b2, Steps.trans (go1 ?_) s2⟩
        have hbr := run_beginRound (P := C.P) h1 h2.1
        simp [stepG, stepG.exec, stepG.apply, hbr, Frame.finish]

def stOf : Option ACode → RSt
  | none => .ready
  | some j => .done j
/-- a round is over: by its end, or by a jump out of it -/
theorem ev_leave {a i : Nat} {l : ALoop} {c c' : AFrame} (jump : Option ACode) (hr : f.ret = false) (hn : f.rnd = some (a, i)) (hb : blk h a i = .lp l)
    (ht : (jump = none ∧ f.todo = []) ∨ (jump = some .ret ∧ ∃ k, f.todo = .code .ret :: k) ∨ ∃ id k, jump = some (.exit id) ∧ f.todo = .code (.exit id) :: k ∧ exitToA id k = none)
    (hfin : finA c (.bool jump.isNone) = some c') (hq : Ev C (c' :: fs) (setB h a i (.lp { l with st := stOf jump })) Q) : Ev C (f :: c :: fs) h Q := by
  intro L fr cs w hf H _
  cases hf with
  | cons hf hk =>
    cases hk with
    | cons hfc hk =>
      rename_i frc csc
      rcases hf.mode with ⟨e, _⟩ | ⟨_, hm, hi⟩
      · rw [hr] at e; cases e
      · obtain ⟨htag, r, h1, h2, h3⟩ := loop_at H hb
        have hrnd := hf.rnd
        rw [hn] at hrnd
        obtain ⟨g, hg, hl⟩ := hrnd
        have hg' : g = L.loc a i := hl.2 _ htag
        subst hg'
        have hkind := hf.kind
        -- the model's jump
        obtain ⟨jc, hjc, hstep⟩ : ∃ jc : Option Code, (jc.isNone = jump.isNone ∧ JRel C.P l.N (stOf jump) (if jc.isNone then .ready else .done) jc) ∧
            ∀ (w' : World), (Instr.endRound (L.loc a i) jc).run C.P w = .ok (.bool jc.isNone) w' → Steps C.P (lone fr (frc :: csc) w) (lone (frc.finish (.bool jc.isNone)) csc w') := by
          obtain ⟨fn, tmps, todo, defers, mode, kind, rnd⟩ := fr
          dsimp only at hm hg hkind; subst hm; subst hg; subst hkind
          rcases ht with ⟨rfl, ht⟩ | ⟨rfl, k, ht⟩ | ⟨id, k, rfl, ht, hex⟩
          · rw [ht] at hi; cases hi
            exact ⟨none, ⟨rfl, rfl, rfl⟩, fun w' hrun => go1 (by simp [stepG, stepG.exec, hrun, doReturn])⟩
          · rw [ht] at hi
            cases hi with
            | cons hx hki =>
              cases hx with
              | code _ cc hmc =>
                cases cc <;> simp only [mcode, Bool.false_eq_true] at hmc
                exact ⟨some .ret, ⟨rfl, rfl, .ret, rfl, rfl⟩, fun w' hrun => go1 (by simp [stepG, stepG.exec, hrun, doReturn])⟩
          · rw [ht] at hi
            cases hi with
            | cons hx hki =>
              cases hx with
              | code _ cc hmc =>
                cases cc <;> simp only [mcode, Bool.false_eq_true, beq_iff_eq] at hmc
                rename_i id2
                have hid : id2 = id := by first | exact hmc | exact hmc.symm
                subst hid
                have hen := exit_none hki hex
                exact ⟨some (.exit id2), ⟨rfl, rfl, .exit id2, rfl, by simp [mcode]⟩, fun w' hrun => go1 (by simp [stepG, stepG.exec, hen, hrun, doReturn])⟩
        have hend := run_endRound (P := C.P) jc h1
        obtain ⟨s, H'⟩ := H.setLoop hb h1 (stOf jump) (if jc.isNone then .ready else .done) jc hjc.2 h3
        obtain ⟨fs2, h2', L2, fr2, cs2, w2, q2, n2, a2, b2, s2⟩ := hq L (frc.finish (.bool jc.isNone)) csc _ (.cons (fin_rel (hfc.step s) (by rw [hjc.1]; exact .bool _) hfin) (hk.step s)) H' (by simp)
        exact ⟨fs2, h2', L2, fr2, cs2, w2, q2, n2, a2, b2, (hstep _ hend).trans s2⟩

theorem ev_endRF {a i : Nat} {l : ALoop} (hr : f.ret = false) (ht : f.todo = .endRF a i :: k) (hb : blk h a i = .lp l) (hN : l.N = f.N) (hst : l.st = .ready ∨ ∃ j, l.st = .done j)
    (hq : Ev C ({ f with todo := match l.st with | .done j => .code j :: k | _ => k } :: fs) (setB h a i .dead) Q) : Ev C (f :: fs) h Q := by
  intro L fr cs w hf H _
  cases hf with
  | cons hf hk =>
    rcases hf.mode with ⟨e, _⟩ | ⟨_, hm, hi⟩
    · rw [hr] at e; cases e
    · rw [ht] at hi
      obtain ⟨htag, r, h1, h2, h3⟩ := loop_at H hb
      obtain ⟨fn, tmps, todo, defers, mode, kind, rnd⟩ := fr
      cases hi with
      | cons hx hki =>
        cases hx with
        | endRF _ _ g hl =>
          rename_i l'
          have hg' : g = L.loc a i := hl.2 _ htag
          subst hg'
          dsimp only at hm; subst hm
          obtain ⟨s, H'⟩ := H.killW (w' := w.putObj (L.loc a i) (.loop { r with state := .exhausted })) (by rw [htag]; simp) (putObj_grown _ _ _)
          have hfs := hf.step s
          have hnb : r.state ≠ .busy := by
            rcases hst with hst | ⟨j, hst⟩ <;> rw [hst] at h2
            · rw [h2.1]; simp
            · rw [h2.1]; simp
          have hend := run_endLoop (P := C.P) h1 hnb
          have hits : ItsRel C.P (setB h a i .dead) L f.N (match l.st with | .done j => .code j :: k | _ => k) ((r.pending.map Item.code).toList ++ l') := by
            rcases hst with hst | ⟨j, hst⟩ <;> rw [hst] at h2 ⊢
            · rw [h2.2]; exact hki.step s
            · obtain ⟨_, c, hc, hmc⟩ := h2
              rw [hc]
              exact .cons (.code _ _ (by rw [← hN]; exact hmc)) (hki.step s)
          obtain ⟨fs2, h2', L2, fr2, cs2, w2, q2, n2, a2, b2, s2⟩ := hq L { fn, tmps, todo := (r.pending.map Item.code).toList ++ l', defers, mode := .run, kind, roundOf := rnd } cs _
            (.cons ⟨hf.fn, hf.size, hfs.env, hf.kind, hfs.defs, hfs.rnd, .inr ⟨hr, rfl, hits⟩, hf.res⟩ (hk.step s)) H' (by simp)
          refine ⟨fs2, h2', L2, fr2, cs2, w2, q2, n2, a2, b2, Steps.trans (go1 ?_) s2⟩
          simp [stepG, stepG.exec, hend]

def setPs (env : List (Nat × AV)) : List Nat → List AV → List (Nat × AV)
  | p :: ps, v :: vs => setPs (aset env p v) ps vs
  | _, _ => env
theorem setPs_rel : ∀ (ps : List Nat) (avs : List AV) (vs : List Value) (env : List (Nat × AV)) (tmps : Array Value), EnvRel C h L w env tmps → RelL w (okOf C h L) h L avs vs → (∀ p ∈ ps, p < tmps.size) →
    EnvRel C h L w (setPs env ps avs) ((ps.zip vs).foldl (fun tmps (p : Nat × Value) => tmps.setIfInBounds p.1 p.2) tmps) ∧ ((ps.zip vs).foldl (fun tmps (p : Nat × Value) => tmps.setIfInBounds p.1 p.2) tmps).size = tmps.size
  | [], avs, vs, env, tmps, he, _, _ => by simpa [setPs] using he
  | p :: ps, [], vs, env, tmps, he, hr, _ => by
    have : vs = [] := List.eq_nil_of_length_eq_zero hr.1.symm
    subst this; simpa [setPs] using he
  | p :: ps, v :: avs, [], env, tmps, he, hr, _ => by simp [RelL] at hr
  | p :: ps, v :: avs, x :: vs, env, tmps, he, hr, hp => by
    have h0 : RelC C h L w v x := hr.2 0 v x rfl rfl
    have he' : EnvRel C h L w (aset env p v) (tmps.setIfInBounds p x) := by
      have := EnvF.put (d := some p) (r := v) (v := x) he (fun d' e => by cases e; exact hp p (by simp)) (fun _ => h0)
      intro t av ht
      exact this t av (by rw [aget_aset] at ht; exact ht)
    obtain ⟨i1, i2⟩ := setPs_rel ps avs vs (aset env p v) (tmps.setIfInBounds p x) he' ⟨by simpa using hr.1, fun j u y hu hy => hr.2 (j + 1) u y (by simpa using hu) (by simpa using hy)⟩ (fun q hq => by simpa using hp q (by simp [hq]))
    refine ⟨by simpa [setPs] using i1, by simpa using i2⟩

theorem ev_yield {o : AOp} {os : List AOp} {x : Opd} {args : List Opd} {a i : Nat} {l : ALoop} (hr : f.ret = false) (ht : f.todo = .inReg (o :: os) :: k) (hg : guardOK o f.env) (ho : o.k = .icallv x args) (hx : opdV (aget f.env) x = .yld a i) (hb : blk h a i = .lp l) (hlen : args.length = l.params.length)
    (hq : Ev C ({ fn := l.fn, N := l.N, env := setPs l.env l.params (args.map (opdV (aget f.env))), todo := [.code l.asg, .beginRound, .code l.body], defs := [], rnd := some (a, i), ret := false, res := [] } :: f :: fs) h Q) : Ev C (f :: fs) h Q := by
  intro L fr cs w hf H _
  cases hf with
  | cons hf hk =>
    rcases hf.mode with ⟨e, _⟩ | ⟨_, hm, hi⟩
    · rw [hr] at e; cases e
    · have hi0 := hi
      rw [ht] at hi
      cases hi' : fr.todo with
      | nil => rw [hi'] at hi; cases hi
      | cons y l' =>
        rw [hi'] at hi
        cases hi with
        | cons hxx hki =>
          cases hxx with
          | inReg ops kk _ hmc =>
            obtain ⟨op, e1, e2, e3, e4⟩ := inReg_at hmc
            rw [e4] at hi'
            have henv : EnvF C h L w (aget f.env) fr.tmps := hf.env
            obtain ⟨g0, g1, _⟩ := guardF henv e2
            have hwant : Region.wanted op (yielded ops.toArray fr.tmps) = true := by
              unfold guardOK at hg
              split at hg
              · rename_i hgg; exact g0 hgg
              · rename_i t want hgg; rw [g1 t want want hgg hg]; simp
            have e2' := e2
            simp only [maop, Bool.and_eq_true, beq_iff_eq] at e2'
            obtain ⟨⟨⟨⟨hnd, _⟩, _⟩, _⟩, hmop⟩ := e2'
            have hρ := rhoF henv
            rw [ho] at hmop
            simp only [mop] at hmop
            split at hmop
            · rename_i x' args' ts hop
              simp only [Bool.and_eq_true] at hmop
              have rx := hρ.rel x x' hmop.1
              rw [hx] at rx
              obtain ⟨htag, r, h1, h2, h3, h4, h5, h6, h7, h8, h9⟩ := loop_at H hb
              generalize hxv : fr.eval x' = xv at rx
              cases rx with
              | yld _ _ g hl =>
                have hg' : g = L.loc a i := hl.2 _ htag
                subst hg'
                have hrel := mopds_rel hρ hmop.2
                have hsz : (args'.map fr.eval).size = r.params.size := by
                  have := hrel.1
                  rw [List.length_map] at this
                  have h6' := congrArg List.length h6
                  simp at this h6' ⊢; omega
                have hy := run_yield (P := C.P) h1 hsz
                have hrun : (execOp fr.eval op).run C.P w = .ok (.round (L.loc a i) r.fn ((r.params.zip (args'.map fr.eval)).foldl (fun tmps (t, a) => tmps.setIfInBounds t a) r.tmps) r.assign r.body) w := by
                  simp [execOp, hop, resolve, hxv, Deferred.ofValue, invoke] at hy ⊢
                  exact hy
                obtain ⟨p1, p2⟩ := setPs_rel l.params (args.map (opdV (aget f.env))) (args'.map fr.eval).toList l.env r.tmps h5 hrel (fun p hp => by rw [h4]; exact h7 p hp)
                have hfold : (r.params.zip (args'.map fr.eval)).foldl (fun tmps (t, a) => tmps.setIfInBounds t a) r.tmps = (l.params.zip (args'.map fr.eval).toList).foldl (fun tmps (p : Nat × Value) => tmps.setIfInBounds p.1 p.2) r.tmps := by
                  rw [← Array.foldl_toList, Array.toList_zip, h6]
                rw [hfold] at hrun
                obtain ⟨fs2, h2', L2, fr2, cs2, w2, q2, n2, a2, b2, s2⟩ := hq L (Frame.round (L.loc a i) r.fn ((l.params.zip (args'.map fr.eval).toList).foldl (fun tmps (p : Nat × Value) => tmps.setIfInBounds p.1 p.2) r.tmps) r.assign r.body .normal) (fr :: cs) w
                  (.cons ⟨h3, by rw [← h4]; exact p2, p1, rfl, ⟨[], rfl, rfl, fun j d g hd => by simp at hd⟩, ⟨_, rfl, hl⟩, .inr ⟨rfl, rfl, .cons (.code _ _ h8) (.cons .beginRound (.cons (.code _ _ h9) .nil))⟩, fun e => by cases e⟩ (.cons ⟨hf.fn, hf.size, hf.env, hf.kind, hf.defs, hf.rnd, .inr ⟨hr, hm, hi0⟩, hf.res⟩ hk)) H (by simp)
                exact ⟨fs2, h2', L2, fr2, cs2, w2, q2, n2, a2, b2, (step_round hm hi' (by simpa using e1) hwant hnd hrun).trans s2⟩
            · cases hmop
end
end Go.Proofs.Ytimmgjppippdiaa
