/- A step of the machine. No condition. -/
import Derived.Test.YtimmgjppippdiaaXr
namespace Go.Proofs.Ytimmgjppippdiaa
open Go.RowKit (Below)

abbrev SRes := Option (List Bool × AFrame × List AFrame × AHeap)
/-- a round is left -/
def leaveA (acc : List Bool) (fs : List AFrame) (h : AHeap) (rnd : Option (Nat × Nat)) (jump : Option ACode) : SRes :=
  match rnd with
  | none => none
  | some (a, i) => match fs with
    | [] => none
    | c :: fs' => match blk h a i with
      | .lp l => (match finA c (.bool jump.isNone) with
        | some c' => some (acc, c', fs', setB h a i (.lp { l with st := stOf jump }))
        | none => none)
      | _ => none
def yieldA (acc : List Bool) (o : AOp) (f : AFrame) (fs : List AFrame) (h : AHeap) (x : AV) (args : List Opd) : SRes :=
  match guardB o f.env with
  | some true => (match x with
    | .yld a i => (match blk h a i with
      | .lp l => (match Nat.beq args.length l.params.length with
        | true => some (acc, { fn := l.fn, N := l.N, env := setPs l.env l.params (args.map (opdV (aget f.env))), todo := [.code l.asg, .beginRound, .code l.body], defs := [], rnd := some (a, i), ret := false, res := [] }, f :: fs, h)
        | false => none)
      | _ => none)
    | _ => none)
  | _ => none
def enterR (T : Tab) (acc : List Bool) (o : AOp) (f : AFrame) (fs : List AFrame) (h : AHeap) (g : FuncId) (avs : List AV) : SRes :=
  match guardB o f.env with
  | some true => (match enterA T g avs with
    | some af => some (acc, af, f :: fs, h)
    | none => none)
  | _ => none
/-- an operation of a region whose order is the text's -/
def opA (A : Ar) (T : Tab) (K : Con) (acc : List Bool) (o : AOp) (os : List AOp) (f : AFrame) (k : List AItem) (fs : List AFrame) (h : AHeap) : SRes :=
  match aopStep A T K o f.env h with
  | some (b, r, h') => some (b :: acc, { f with env := putL f.env o.d r, todo := .inReg os :: k }, fs, h')
  | none => match o.k with
    | .icall g args => enterR T acc o f fs h g (args.map (opdV (aget f.env)))
    | .ncall _ _ g args => enterR T acc o f fs h g (args.map (opdV (aget f.env)))
    | .ncallv _ _ x args => (match opdV (aget f.env) x with
      | .fn g caps => enterR T acc o f fs h g (args.map (opdV (aget f.env)) ++ caps)
      | _ => none)
    | .icallv x args => (match opdV (aget f.env) x with
      | .fn g caps => enterR T acc o f fs h g (args.map (opdV (aget f.env)) ++ caps)
      | v => yieldA acc o f fs h v args)
    | _ => none
def rfA (T : Tab) (acc : List Bool) (f : AFrame) (k : List AItem) (fs : List AFrame) (h : AHeap) (a : Nat) (x : AV) (ps : List Nat) (asg body : ACode) : SRes :=
  match x with
  | .fn g caps => (match f.rnd with
    | none => (match enterA T g (.yld a (nxt (pushB h a .dfr) a) :: caps) with
      | some af => some (acc, af, { f with todo := .inRF a (nxt (pushB h a .dfr) a) :: k, defs := (a, nxt h a) :: f.defs } :: fs, pushB (pushB h a .dfr) a (.lp { st := .ready, fn := f.fn, N := f.N, env := f.env, params := ps, asg := asg, body := body }))
      | none => none)
    | some (a0, i0) => (match blk h a0 i0 with
      | .lp _ => (match enterA T g (.yld a (nxt h a) :: caps) with
        | some af => some (acc, af, { f with todo := .inRF a (nxt h a) :: k } :: fs, pushB h a (.lp { st := .ready, fn := f.fn, N := f.N, env := f.env, params := ps, asg := asg, body := body }))
        | none => none)
      | _ => none))
  | _ => none
def codeA (A : Ar) (T : Tab) (K : Con) (acc : List Bool) (f : AFrame) (k : List AItem) (fs : List AFrame) (h : AHeap) : ACode → SRes
  | .skip => some (acc, { f with todo := k }, fs, h)
  | .reg d ops => (match d with
    | none => some (acc, { f with todo := .inReg ops :: k }, fs, h)
    | some fr => match drawR A T K ops acc f.env h with
      | some (acc', env', h') => (match drawB A T K fr ops f.env h with
        | true => some (acc', { f with env := env', todo := k }, fs, h')
        | false => none)
      | none => none)
  | .seq a b => some (acc, { f with todo := .code a :: .code b :: k }, fs, h)
  | .cond c a b => (match opdV (aget f.env) c with
    | .bool t => (match t with
      | true => some (acc, { f with todo := .code a :: k }, fs, h)
      | false => some (acc, { f with todo := .code b :: k }, fs, h))
    | _ => none)
  | .block id b => some (acc, { f with todo := .code b :: .inBlock id :: k }, fs, h)
  | .loop b => some (acc, { f with todo := .code b :: .inLoop b :: k }, fs, h)
  | .rf a x ps asg body => rfA T acc f k fs h a (opdV (aget f.env) x) ps asg body
  | .exit id => (match exitToA id k with
    | some k' => some (acc, { f with todo := k' }, fs, h)
    | none => leaveA acc fs h f.rnd (some (.exit id)))
  | .ret => (match f.rnd with
    | none => some (acc, { f with ret := true, todo := [] }, fs, h)
    | some p => leaveA acc fs h (some p) (some .ret))
  | .junk => none
  | .gh gs c => (match ghostsA f.env h gs with
    | some (env', h') => some (acc, { f with env := env', todo := .code c :: k }, fs, h')
    | none => none)
def retA (A : Ar) (acc : List Bool) (f : AFrame) (fs : List AFrame) (h : AHeap) : SRes :=
  match f.defs with
  | (a, i) :: ds => (match blk h a i with
    | .dfr => some (acc, { f with defs := ds }, fs, setB h a i .dead)
    | _ => none)
  | [] => match f.rnd with
    | some _ => none
    | none => match fs with
      | [] => none
      | c :: fs' => match collR A f.env h f.res with
        | some (b, vs) => (match finA c (joinR vs) with
          | some c' => some (b :: acc, c', fs', h)
          | none => none)
        | none => none
def astep (A : Ar) (T : Tab) (K : Con) (acc : List Bool) (f : AFrame) (fs : List AFrame) (h : AHeap) : SRes :=
  match f.ret with
  | true => retA A acc f fs h
  | false => match f.todo with
    | [] => (match f.rnd with
      | none => some (acc, { f with ret := true, todo := [] }, fs, h)
      | some p => leaveA acc fs h (some p) none)
    | it :: k => match it with
      | .inBlock _ => some (acc, { f with todo := k }, fs, h)
      | .inLoop b => some (acc, { f with todo := .code b :: .inLoop b :: k }, fs, h)
      | .inReg os => (match os with
        | [] => some (acc, { f with todo := k }, fs, h)
        | o :: os => opA A T K acc o os f k fs h)
      | .inRF _ _ => none
      | .endRF a i => (match blk h a i with
        | .lp l => (match Nat.beq l.N f.N with
          | true => (match l.st with
            | .ready => some (acc, { f with todo := k }, fs, setB h a i .dead)
            | .done j => some (acc, { f with todo := .code j :: k }, fs, setB h a i .dead)
            | .busy => none)
          | false => none)
        | _ => none)
      | .beginRound => (match f.rnd with
        | some (a, i) => (match blk h a i with
          | .lp l => (match l.st with
            | .ready => some (acc, { f with todo := k }, fs, setB h a i (.lp { l with st := .busy }))
            | _ => none)
          | _ => none)
        | none => none)
      | .code c => codeA A T K acc f k fs h c

section
variable {C : Ctx} {T : Tab} {K : Con} {h h' : AHeap} {f f' : AFrame} {fs fs' : List AFrame} {k : List AItem} {Q : List AFrame → AHeap → Prop} {acc acc' : List Bool}
def Sound (C : Ctx) (Q : List AFrame → AHeap → Prop) (acc : List Bool) (f : AFrame) (fs : List AFrame) (h : AHeap) (r : SRes) : Prop :=
  ∀ acc' f' fs' h', r = some (acc', f', fs', h') → (∀ b ∈ acc', b = true) → Ev C (f' :: fs') h' Q → (∀ b ∈ acc, b = true) ∧ Ev C (f :: fs) h Q

theorem leaveA_sound {jump : Option ACode} (hr : f.ret = false)
    (ht : (jump = none ∧ f.todo = []) ∨ (jump = some .ret ∧ ∃ k, f.todo = .code .ret :: k) ∨ ∃ id k, jump = some (.exit id) ∧ f.todo = .code (.exit id) :: k ∧ exitToA id k = none) : Sound C Q acc f fs h (leaveA acc fs h f.rnd jump) := by
  intro acc' f' fs' h' he hb hq
  unfold leaveA at he
  split at he
  · cases he
  · rename_i a i hn
    split at he
    · cases he
    · rename_i c fs2
      split at he
      · rename_i l hbl
        split at he
        · rename_i c' hfin
          cases he
          exact ⟨hb, ev_leave jump hr hn hbl ht hfin hq⟩
        · cases he
      · cases he
theorem guard_true {o : AOp} (hg : guardB o f.env = some true) : guardOK o f.env := by
  unfold guardB at hg
  unfold guardOK
  split
  · trivial
  · rename_i t want hgg
    rw [hgg] at hg
    simp only at hg
    split at hg
    · rename_i b hb
      rw [hb]
      cases want <;> simp at hg <;> simp [hg]
    · simp at hg
    · cases hg
theorem enterR_sound (hT : TabOK C.P T) {o : AOp} {os : List AOp} {g : FuncId} {avs : List AV} (hr : f.ret = false) (ht : f.todo = .inReg (o :: os) :: k)
    (ho : (∃ args m a, (o.k = .icall g args ∨ o.k = .ncall m a g args) ∧ avs = args.map (opdV (aget f.env))) ∨ (∃ x args caps m a, (o.k = .icallv x args ∨ o.k = .ncallv m a x args) ∧ opdV (aget f.env) x = .fn g caps ∧ avs = args.map (opdV (aget f.env)) ++ caps)) :
    Sound C Q acc f fs h (enterR T acc o f fs h g avs) := by
  intro acc' f' fs' h' he hb hq
  unfold enterR at he
  split at he
  · rename_i hg
    split at he
    · rename_i af haf
      cases he
      exact ⟨hb, ev_call hT hr ht (guard_true hg) ho haf hq⟩
    · cases he
  · cases he
theorem yieldA_sound {o : AOp} {os : List AOp} {x : Opd} {args : List Opd} (hr : f.ret = false) (ht : f.todo = .inReg (o :: os) :: k) (ho : o.k = .icallv x args) : Sound C Q acc f fs h (yieldA acc o f fs h (opdV (aget f.env) x) args) := by
  intro acc' f' fs' h' he hb hq
  unfold yieldA at he
  split at he
  · rename_i hg
    split at he
    · rename_i a i hx
      split at he
      · rename_i l hbl
        split at he
        · rename_i hlen
          cases he
          exact ⟨hb, ev_yield hr ht (guard_true hg) ho hx hbl (by simpa using hlen) hq⟩
        · cases he
      · cases he
    · cases he
  · cases he
theorem opA_sound (hT : TabOK C.P T) (hK : ConOK C.P K) {o : AOp} {os : List AOp} (hr : f.ret = false) (ht : f.todo = .inReg (o :: os) :: k) : Sound C Q acc f fs h (opA std T K acc o os f k fs h) := by
  intro acc' f' fs' h' he hb hq
  unfold opA at he
  split at he
  · rename_i b r h1 hs
    cases he
    have hbt : b = true := hb b List.mem_cons_self
    subst hbt
    exact ⟨fun b hb' => hb b (List.mem_cons_of_mem _ hb'), ev_op hr ht (aopStep_sound hT hK hs) hq⟩
  · split at he
    · rename_i g args ho
      exact enterR_sound hT hr ht (.inl ⟨args, false, 0, .inl ho, rfl⟩) _ _ _ _ he hb hq
    · rename_i m a g args ho
      exact enterR_sound hT hr ht (.inl ⟨args, m, a, .inr ho, rfl⟩) _ _ _ _ he hb hq
    · rename_i m a x args ho
      split at he
      · rename_i g caps hx
        exact enterR_sound hT hr ht (.inr ⟨x, args, caps, m, a, .inr ho, hx, rfl⟩) _ _ _ _ he hb hq
      · cases he
    · rename_i x args ho
      split at he
      · rename_i g caps hx
        exact enterR_sound hT hr ht (.inr ⟨x, args, caps, false, 0, .inl ho, hx, rfl⟩) _ _ _ _ he hb hq
      · exact yieldA_sound hr ht ho _ _ _ _ he hb hq
    · cases he
theorem rfA_sound (hT : TabOK C.P T) {a : Nat} {x : Opd} {ps : List Nat} {asg body : ACode} (hr : f.ret = false) (ht : f.todo = .code (.rf a x ps asg body) :: k) : Sound C Q acc f fs h (rfA T acc f k fs h a (opdV (aget f.env) x) ps asg body) := by
  intro acc' f' fs' h' he hb hq
  unfold rfA at he
  split at he
  · rename_i g caps hx
    split at he
    · rename_i hn
      split at he
      · rename_i af haf
        cases he
        exact ⟨hb, ev_rf hT hr ht hx (.inl ⟨hn, rfl, rfl⟩) haf hq⟩
      · cases he
    · rename_i a0 i0 hn
      split at he
      · rename_i l0 hl0
        split at he
        · rename_i af haf
          cases he
          exact ⟨hb, ev_rf hT hr ht hx (.inr ⟨⟨a0, i0, l0, hn, hl0⟩, rfl, rfl⟩) haf hq⟩
        · cases he
      · cases he
  · cases he
theorem retA_sound (hr : f.ret = true) : Sound C Q acc f fs h (retA std acc f fs h) := by
  intro acc' f' fs' h' he hb hq
  unfold retA at he
  split at he
  · rename_i a i ds hd
    split at he
    · rename_i hbl
      cases he
      exact ⟨hb, ev_unwind hr hd hbl hq⟩
    · cases he
  · rename_i hd
    split at he
    · cases he
    · rename_i hn
      split at he
      · cases he
      · rename_i c fs2
        split at he
        · rename_i b vs hc
          split at he
          · rename_i c' hfin
            cases he
            have hbt : b = true := hb b List.mem_cons_self
            subst hbt
            exact ⟨fun b hb' => hb b (List.mem_cons_of_mem _ hb'), ev_pop hr hn hd hc hfin hq⟩
          · cases he
        · cases he
theorem codeA_sound (hfol : C.P.follows .mixedOrders = true) (hT : TabOK C.P T) (hK : ConOK C.P K) {c : ACode} (hr : f.ret = false) (ht : f.todo = .code c :: k) : Sound C Q acc f fs h (codeA std T K acc f k fs h c) := by
  intro acc' f' fs' h' he hb hq
  cases c with
  | skip => cases he; exact ⟨hb, ev_skip hr ht hq⟩
  | reg d ops =>
    simp only [codeA] at he
    split at he
    · cases he; exact ⟨hb, ev_reg hr ht hq⟩
    · split at he
      · rename_i acc1 env1 h1 hd
        split at he
        · rename_i hfree
          cases he
          obtain ⟨d1, d2⟩ := drawR_sound hT hK hd hb
          exact ⟨fun b hb' => hb b (drawR_acc hd b hb'), ev_draw hfol hr ht d1 (fun i j x z hm hx hz _ => drawB_spec hfree i j x z hm hx hz) d2 (fun _ _ e => e) hq⟩
        · cases he
      · cases he
  | seq a b => cases he; exact ⟨hb, ev_seq hr ht hq⟩
  | cond c a b =>
    simp only [codeA] at he
    split at he
    · rename_i t hc
      split at he
      · cases he; exact ⟨hb, ev_cond hr ht hc hq⟩
      · cases he; exact ⟨hb, ev_cond hr ht hc hq⟩
    · cases he
  | block id b => cases he; exact ⟨hb, ev_block hr ht hq⟩
  | loop b => cases he; exact ⟨hb, ev_loop hr ht hq⟩
  | rf a x ps asg body => exact rfA_sound hT hr ht _ _ _ _ he hb hq
  | exit id =>
    simp only [codeA] at he
    split at he
    · rename_i k' hk
      cases he; exact ⟨hb, ev_exit hr ht hk hq⟩
    · rename_i hk
      exact leaveA_sound hr (.inr (.inr ⟨id, k, rfl, ht, hk⟩)) _ _ _ _ he hb hq
  | ret =>
    simp only [codeA] at he
    split at he
    · rename_i hn
      cases he; exact ⟨hb, ev_ret0 hr hn (.inr ⟨k, ht⟩) hq⟩
    · rename_i p hn
      rw [← hn] at he
      exact leaveA_sound hr (.inr (.inl ⟨rfl, k, ht⟩)) _ _ _ _ he hb hq
  | junk => cases he
  | gh gs c =>
    simp only [codeA] at he
    split at he
    · rename_i env1 h1 hg
      cases he
      exact ⟨hb, ev_gh hr ht hg hq⟩
    · cases he
theorem astep_sound (hfol : C.P.follows .mixedOrders = true) (hT : TabOK C.P T) (hK : ConOK C.P K) : Sound C Q acc f fs h (astep std T K acc f fs h) := by
  intro acc' f' fs' h' he hb hq
  unfold astep at he
  split at he
  · rename_i hr
    exact retA_sound hr _ _ _ _ he hb hq
  · rename_i hr
    split at he
    · rename_i ht
      split at he
      · rename_i hn
        cases he; exact ⟨hb, ev_ret0 hr hn (.inl ht) hq⟩
      · rename_i p hn
        rw [← hn] at he
        exact leaveA_sound hr (.inl ⟨rfl, ht⟩) _ _ _ _ he hb hq
    · rename_i it k ht
      split at he
      · cases he; exact ⟨hb, ev_inBlock hr ht hq⟩
      · cases he; exact ⟨hb, ev_inLoop hr ht hq⟩
      · split at he
        · cases he; exact ⟨hb, ev_regEnd hr ht hq⟩
        · exact opA_sound hT hK hr ht _ _ _ _ he hb hq
      · cases he
      · rename_i a i
        split at he
        · rename_i l hbl
          split at he
          · rename_i hN
            have hN : l.N = f.N := by simpa using hN
            split at he
            · rename_i hst
              cases he
              exact ⟨hb, ev_endRF hr ht hbl hN (.inl hst) (by rw [hst]; exact hq)⟩
            · rename_i j hst
              cases he
              exact ⟨hb, ev_endRF hr ht hbl hN (.inr ⟨j, hst⟩) (by rw [hst]; exact hq)⟩
            · cases he
          · cases he
        · cases he
      · split at he
        · rename_i a i hn
          split at he
          · rename_i l hbl
            split at he
            · rename_i hst
              cases he
              exact ⟨hb, ev_begin hr hn ht hbl hst hq⟩
            · cases he
          · cases he
        · cases he
      · rename_i c
        exact codeA_sound hfol hT hK hr ht _ _ _ _ he hb hq
end
end Go.Proofs.Ytimmgjppippdiaa
