/- A loop over a function begins. No condition. -/
import Derived.Test.YtimmgjppippdiaaXp
import Derived.RangeFuncNested
namespace Go.Proofs.Ytimmgjppippdiaa
open Go.RowKit (Below)
section
variable {C : Ctx} {h h' : AHeap} {L L' : Lay} {w w' : World} {Q : List AFrame → AHeap → Prop} {f : AFrame} {fs : List AFrame} {k : List AItem}

theorem belowAlloc (w : World) (o : Obj) : Below w.heap.size w (w.alloc o) := (Below.refl _ _).alloc (Nat.le_refl _) o

theorem push_lp (H : HRel C h L w) (a : Nat) (l : ALoop) (r : Loop) (hst : l.st = .ready ∧ r.state = .ready ∧ r.pending = none)
    (hrest : r.fn = l.fn ∧ r.tmps.size = l.N ∧ EnvRel C h L w l.env r.tmps ∧ r.params.toList = l.params ∧ (∀ p ∈ l.params, p < l.N) ∧ mcode C.P l.N l.asg r.assign = true ∧ mcode C.P l.N l.body r.body = true) :
    Step w (okOf C h L) h L (w.alloc (.loop r)) (okOf C (pushB h a (.lp l)) (L.put a (nxt h a) w.heap.size 0)) (pushB h a (.lp l)) (L.put a (nxt h a) w.heap.size 0) ∧ HRel C (pushB h a (.lp l)) (L.put a (nxt h a) w.heap.size 0) (w.alloc (.loop r)) := by
  refine H.push a (.lp l) w.heap.size 0 (belowAlloc w _) ⟨Nat.le_refl _, by simp [World.size_alloc]⟩ (fun s => ?_)
  obtain ⟨e1, e2, e3, e4, e5, e6, e7⟩ := hrest
  exact ⟨r, World.alloc_heap_new w _, by rw [hst.1]; exact hst.2, e1, e2, e3.step s, e4, e5, e6, e7⟩
theorem push_dfr (H : HRel C h L w) (a : Nat) :
    Step w (okOf C h L) h L (w.alloc (.deferred (some []))) (okOf C (pushB h a .dfr) (L.put a (nxt h a) w.heap.size 0)) (pushB h a .dfr) (L.put a (nxt h a) w.heap.size 0) ∧ HRel C (pushB h a .dfr) (L.put a (nxt h a) w.heap.size 0) (w.alloc (.deferred (some []))) :=
  H.push a .dfr w.heap.size 0 (belowAlloc w _) ⟨Nat.le_refl _, by simp [World.size_alloc]⟩ (fun _ => World.alloc_heap_new w _)

theorem mnats_eq : ∀ {xs ys : List Nat}, mnats xs ys = true → ys = xs
  | [], [], _ => rfl
  | x :: xs, y :: ys, h => by
    simp only [mnats, Bool.and_eq_true] at h
    rw [mnats_eq h.2, Nat.eq_of_beq_eq_true h.1]
  | [], _ :: _, h => by simp [mnats] at h
  | _ :: _, [], h => by simp [mnats] at h

/-- the record of a loop is laid, and the function is entered -/
theorem rf_step {fr : Frame} {cs : List Frame} {x : Operand} {ps : Array Tmp} {asg body : Code} {l : List Item} {lw : Nat} {mark : List Deferred} {g : FuncId} {cvs : Array Value} (hm : fr.mode = .run) (ht : fr.todo = .code (.rangeFunc x ps asg body) :: l)
    (hen : (Instr.enterLoop fr.fn fr.tmps ps asg body fr.roundOf).run C.P w = .ok (lw, mark) w') (hx : fr.eval x = .func (.func g) #[] cvs) (hc : calleeOk C.P g = true) :
    Steps C.P (lone fr cs w) (lone (Frame.enter C.P g (#[.func (.yield lw) #[] #[]] ++ cvs) .normal) ({ fr with todo := .inRangeFunc lw :: l, defers := mark ++ fr.defers } :: cs) w') := by
  obtain ⟨fn, tmps, todo, defers, mode, kind, rnd⟩ := fr
  dsimp only at hm ht; subst hm; subst ht
  have he2 : (Frame.eval { fn := fn, tmps := tmps, todo := .inRangeFunc lw :: l, defers := mark ++ defers, mode := .run, kind := kind, roundOf := rnd } x) = .func (.func g) #[] cvs := hx
  have he3 : ∀ q : Array Value, (Frame.eval { fn := fn, tmps := tmps, todo := .inRangeFunc lw :: l, defers := mark ++ defers, mode := .run, kind := kind, roundOf := rnd } (.const (.func (.yield lw) #[] #[]))) = .func (.yield lw) #[] #[] := fun _ => rfl
  refine go1 ?_
  dsimp only at hen
  simp [stepG, stepG.exec, hen, stepG.apply, resolve, he2, he3 #[], Deferred.ofValue, invoke, run_callFunc hc]

theorem ev_rf {T : Tab} (hT : TabOK C.P T) {a : Nat} {x : Opd} {ps : List Nat} {asg body : ACode} {g : FuncId} {caps : List AV} {af : AFrame} {hd : AHeap} {df : List (Nat × Nat)} (hr : f.ret = false) (ht : f.todo = .code (.rf a x ps asg body) :: k)
    (hx : opdV (aget f.env) x = .fn g caps) (hdf : (f.rnd = none ∧ hd = pushB h a .dfr ∧ df = (a, nxt h a) :: f.defs) ∨ ((∃ a0 i0 l0, f.rnd = some (a0, i0) ∧ blk h a0 i0 = .lp l0) ∧ hd = h ∧ df = f.defs))
    (he : enterA T g (.yld a (nxt hd a) :: caps) = some af)
    (hq : Ev C (af :: { f with todo := .inRF a (nxt hd a) :: k, defs := df } :: fs) (pushB hd a (.lp { st := .ready, fn := f.fn, N := f.N, env := f.env, params := ps, asg := asg, body := body })) Q) : Ev C (f :: fs) h Q := by
  intro L fr cs w hf H _
  cases hf with
  | cons hf hk =>
    rcases hf.mode with ⟨e, _⟩ | ⟨_, hm, hi⟩
    · rw [hr] at e; cases e
    · rw [ht] at hi
      cases hi' : fr.todo with
      | nil => rw [hi'] at hi; cases hi
      | cons y l' =>
        rw [hi'] at hi
        cases hi with
        | cons hxx hki =>
          cases hxx with
          | code _ c hmc =>
            cases c <;> simp only [mcode, Bool.false_eq_true, Bool.and_eq_true] at hmc
            rename_i x' ps' asg' body'
            obtain ⟨⟨⟨⟨hm1, hm2⟩, hm3⟩, hm4⟩, hm5⟩ := hmc
            have hρ := rhoF (show EnvF C h L w (aget f.env) fr.tmps from hf.env)
            have rx := hρ.rel x x' hm1
            rw [hx] at rx
            obtain ⟨cvs, c1, c2⟩ := fn_of rx
            have hps := mnats_eq hm2
            have hpN : ∀ p ∈ ps, p < f.N := fun p hp => by have := List.all_eq_true.1 hm3 p hp; simpa using this
            obtain ⟨Ld, wd, lw, mark, sd, Hd, hmk', hmk, hen⟩ : ∃ (Ld : Lay) (wd : World) (lw : Nat) (mark : List Deferred), Step w (okOf C h L) h L wd (okOf C hd Ld) hd Ld ∧ HRel C hd Ld wd ∧ DefRel hd Ld df (mark ++ fr.defers) ∧ lw = wd.heap.size ∧
                ∃ d, ∀ tmps, (Instr.enterLoop fr.fn tmps ps' asg' body' fr.roundOf).run C.P w = .ok (lw, mark) (wd.alloc (.loop { state := .ready, pending := none, fn := fr.fn, tmps := tmps, params := ps', assign := asg', body := body', defers := d })) := by
              rcases hdf with ⟨hn, rfl, rfl⟩ | ⟨⟨a0, i0, l0, hn, hb⟩, rfl, rfl⟩
              · obtain ⟨s, H'⟩ := push_dfr H a
                have hrnd := hf.rnd
                rw [hn] at hrnd
                have hrnd : fr.roundOf = none := hrnd
                refine ⟨_, _, w.heap.size + 1, [{ target := .collected w.heap.size, args := #[] }], s, H', ?_, by simp [World.size_alloc], w.heap.size, fun tmps => by rw [hrnd]; exact run_enterLoop_outer _ _ _ _ _⟩
                obtain ⟨gs, g1, g2, g3⟩ := hf.defs.step s
                refine ⟨w.heap.size :: gs, by simp [g1], by simpa using g2, fun j d q h1 h2 => ?_⟩
                cases j with
                | zero =>
                  simp only [List.getElem?_cons_zero, Option.some.injEq] at h1 h2
                  subst h1; subst h2
                  exact live_push (fun _ _ => rfl)
                | succ j => exact g3 j d q (by simpa using h1) (by simpa using h2)
              · have hrnd := hf.rnd
                rw [hn] at hrnd
                obtain ⟨g0, hg0, hl0⟩ := hrnd
                obtain ⟨htag, r0, h1, _⟩ := loop_at H hb
                have hg' : g0 = L.loc a0 i0 := hl0.2 _ htag
                subst hg'
                exact ⟨L, w, w.heap.size, [], Step.refl _ _ _ _, H, by simpa using hf.defs, rfl, r0.defers, fun tmps => by rw [hg0]; exact run_enterLoop_inner h1 _ _ _ _ _⟩
            obtain ⟨d, hen⟩ := hen
            subst hmk
            have hfd := hf.step sd
            obtain ⟨s2, H2⟩ := push_lp Hd a { st := .ready, fn := f.fn, N := f.N, env := f.env, params := ps, asg := asg, body := body } { state := .ready, pending := none, fn := fr.fn, tmps := fr.tmps, params := ps', assign := asg', body := body', defers := d }
              ⟨rfl, rfl, rfl⟩ ⟨hf.fn, hf.size, hfd.env, hps, hpN, hm4, hm5⟩
            have hfs2 := hfd.step s2
            have hlive : Live (pushB hd a (.lp { st := .ready, fn := f.fn, N := f.N, env := f.env, params := ps, asg := asg, body := body })) (Ld.put a (nxt hd a) wd.heap.size 0) a (nxt hd a) fun l _ => wd.heap.size = l := live_push (fun _ _ => rfl)
            obtain ⟨hfr, hcal⟩ := enter_rel hT (vs := #[.func (.yield wd.heap.size) #[] #[]] ++ cvs) he (by
              rw [Array.toList_append]
              exact RelL.cons (.yld _ _ _ hlive) ((c2.step sd).step s2))
            have hstep := rf_step (C := C) (cs := cs) hm hi' (g := g) (cvs := cvs) (lw := wd.heap.size) (mark := mark) (w := w) (hen _) c1 hcal
            obtain ⟨fs2, h2', L2, fr2, cs2, w2, q2, n2, a2, b2, s3⟩ := hq _ _ ({ fr with todo := .inRangeFunc wd.heap.size :: l', defers := mark ++ fr.defers } :: cs) _ (.cons hfr (.cons ⟨hf.fn, hf.size, hfs2.env, hf.kind, hmk'.step s2, hfs2.rnd, .inr ⟨hr, hm, .cons (.inRF _ _ _ hlive) ((hki.step sd).step s2)⟩, hf.res⟩ ((hk.step sd).step s2))) H2 (by simp)
            exact ⟨fs2, h2', L2, fr2, cs2, w2, q2, n2, a2, b2, hstep.trans s3⟩
end
end Go.Proofs.Ytimmgjppippdiaa
