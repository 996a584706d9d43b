/- Runs of the machine; a contract out of a run. No condition. -/
import Derived.Test.YtjhdnpmojhkbjaaXs
namespace Go.Proofs.Ytjhdnpmojhkbjaa
open Go.RowKit (Below)

/-- a mark at which a run may stop -/
def markA (f : AFrame) : Bool :=
  match f.ret with
  | true => false
  | false => match f.todo with
    | it :: _ => (match it with
      | .code c => (match c with | .gh gs _ => (match gs with | [] => true | _ => false) | _ => false)
      | _ => false)
    | [] => false
abbrev ASt := List Bool × AFrame × List AFrame × AHeap
/-- so many steps, or to the next mark, or to where it goes no further -/
def arun (A : Ar) (T : Tab) (K : Con) (stop : Bool) : Nat → List Bool → AFrame → List AFrame → AHeap → ASt
  | 0, acc, f, fs, h => (acc, f, fs, h)
  | n + 1, acc, f, fs, h => match astep A T K acc f fs h with
    | none => (acc, f, fs, h)
    | some (acc', f', fs', h') => match stop with
      | false => arun A T K stop n acc' f' fs' h'
      | true => match markA f with
        | true => (acc', f', fs', h')
        | false => arun A T K stop n acc' f' fs' h'

section
variable {C : Ctx} {T : Tab} {K : Con} {h h' : AHeap} {f f' : AFrame} {fs fs' : List AFrame} {k : List AItem} {Q : List AFrame → AHeap → Prop} {acc acc' : List Bool}
theorem arun_sound (hfol : C.P.follows .mixedOrders = true) (hT : TabOK C.P T) (hK : ConOK C.P K) {stop : Bool} : ∀ (n : Nat) {acc : List Bool} {f : AFrame} {fs : List AFrame} {h : AHeap}, Sound C Q acc f fs h (some (arun std T K stop n acc f fs h))
  | 0, acc, f, fs, h => by
    intro acc' f' fs' h' he hb hq
    simp only [arun, Option.some.injEq, Prod.mk.injEq] at he
    obtain ⟨rfl, rfl, rfl, rfl⟩ := he
    exact ⟨hb, hq⟩
  | n + 1, acc, f, fs, h => by
    intro acc' f' fs' h' he hb hq
    simp only [arun] at he
    split at he
    · simp only [Option.some.injEq, Prod.mk.injEq] at he
      obtain ⟨rfl, rfl, rfl, rfl⟩ := he
      exact ⟨hb, hq⟩
    · rename_i acc1 f1 fs1 h1 hs
      have go : some (arun std T K stop n acc1 f1 fs1 h1) = some (acc', f', fs', h') → (∀ b ∈ acc, b = true) ∧ Ev C (f :: fs) h Q := fun he => by
        obtain ⟨hb1, hq1⟩ := arun_sound hfol hT hK n _ _ _ _ he hb hq
        exact astep_sound hfol hT hK _ _ _ _ hs hb1 hq1
      split at he
      · exact go he
      · split at he
        · simp only [Option.some.injEq, Prod.mk.injEq] at he
          obtain ⟨rfl, rfl, rfl, rfl⟩ := he
          exact astep_sound hfol hT hK _ _ _ _ hs hb hq
        · exact go he

/-! ### What a function hands back -/
def rowOf : List AV → Option (Nat × Nat)
  | [] => none
  | .row a i :: _ => some (a, i)
  | _ :: xs => rowOf xs
def unren1 (a i : Nat) : AV → AV
  | .row b j => match Nat.beq b a with | true => (match Nat.beq j i with | true => .row 0 0 | false => .top) | false => .top
  | v => v
def expRow (h : AHeap) (p : Nat × Nat) (v : AV) : Option (AV × Option Fresh) :=
  match blk h p.1 p.2 with
  | .row e sz r => (match r.pure with
    | true => (match pureT v with | true => some (v, some ⟨e, sz, r⟩) | false => none)
    | false => none)
  | _ => none
def rowsOne (p : Nat × Nat) : List AV → Bool
  | [] => true
  | .row a i :: xs => match Nat.beq a p.1 with | true => (match Nat.beq i p.2 with | true => rowsOne p xs | false => false) | false => false
  | _ :: xs => rowsOne p xs
def exportQ (h : AHeap) : AV → Option (AV × Option Fresh)
  | .tup xs => match rowOf xs with
    | none => (match AV.pureL xs with | true => some (.tup xs, none) | false => none)
    | some p => match rowsOne p xs with | true => expRow h p (.tup (xs.map (unren1 p.1 p.2))) | false => none
  | .row a i => expRow h (a, i) (.row 0 0)
  | v => match v.pure with | true => some (v, none) | false => none
/-- names no part of a row -/
def wholeA : AV → Bool
  | .slc .. => false
  | .aslc .. => false
  | .ptr .. => false
  | .fn .. => false
  | _ => true
def wholeT : AV → Bool
  | .tup xs => xs.all wholeA
  | v => wholeA v
/-- one row at most comes back as it is; other rows are read by value, so deep -/
def deepR (h : AHeap) : AV → Option (AV × Option Fresh)
  | .tup xs => match mapB std (snapD std h 4) xs with | some (b, ys) => (match b with | true => some (.tup ys, none) | false => none) | none => none
  | v => match snapD std h 4 v with | some (b, u) => (match b with | true => some (u, none) | false => none) | none => none
def exportR (h : AHeap) (v : AV) : Option (AV × Option Fresh) :=
  match exportQ h v with
  | some r => some r
  | none => match wholeT v with | true => deepR h v | false => none

theorem HRel.nil {L L' : Lay} {w : World} (H : HRel C h L w) : HRel C [] L' w :=
  ⟨H.below, fun _ _ ht => absurd rfl ht, fun _ _ => trivial, fun _ _ _ _ ht => absurd rfl ht⟩
theorem frHeap_blk (f : Fresh) (a i : Nat) : blk (frHeap (some f)) a i = if a = 0 ∧ i = 0 then .row f.e f.sz f.r else .dead := by
  by_cases ha : a = 0
  · subst ha
    by_cases hi : i = 0
    · subst hi; rfl
    · rw [if_neg (by simp [hi])]
      exact blk_ge (by show 0 + 1 ≤ i; omega)
  · rw [if_neg (by simp [ha])]
    have : aget (frHeap (some f)) a = none := by
      have hb : Nat.beq 0 a = false := by cases hb : Nat.beq 0 a with | false => rfl | true => exact absurd (Nat.eq_of_beq_eq_true hb).symm ha
      simp [frHeap, aget, hb]
    unfold blk fam
    rw [this]
    exact blk_ge (h := []) (a := 0) (Nat.zero_le _)
theorem exp_row {L : Lay} {w : World} (H : HRel C h L w) {a i e sz : Nat} {r : Row} (hb : blk h a i = .row e sz r) (hp : r.pure = true) : ∃ L', HRel C (frHeap (some ⟨e, sz, r⟩)) L' w ∧ (∀ g, okOf C h L g → okOf C (frHeap (some ⟨e, sz, r⟩)) L' g) ∧
    ∀ x, RelC C h L w (.row a i) x → RelC C (frHeap (some ⟨e, sz, r⟩)) L' w (.row 0 0) x := by
  obtain ⟨ht, h0, h1, h2, h3, cur, h4, h5, h6, h7, h8⟩ := H.rowAt hb
  refine ⟨⟨fun _ _ => L.loc a i, fun _ _ => L.size a i⟩, ?_, ?_, ?_⟩
  · have hok : ∀ g, okOf C h L g → okOf C (frHeap (some ⟨e, sz, r⟩)) ⟨fun _ _ => L.loc a i, fun _ _ => L.size a i⟩ g := fun g ho => by
      rcases ho with ho | ⟨q1, q2⟩
      · exact .inl ho
      · exact .inr ⟨q1, fun b j _ => q2 a i (by rw [ht]; simp)⟩
    refine ⟨H.below, fun b j _ => H.live a i (by rw [ht]; simp), fun b j => ?_, fun b j c k hb1 hb2 _ => ?_⟩
    · rw [frHeap_blk]
      split
      · exact ⟨h0, h1, h2, h3, cur, h4, h5, ⟨h6.1, fun j u v hu hv => ((h6.2 j u v hu hv).okmono (fun g _ ho => hok g ho)).pure (AV.pureL_mem (pureL_flatAll hp) hu)⟩, h7⟩
      · trivial
    · rw [frHeap_blk] at hb1 hb2
      split at hb1
      · split at hb2
        · rename_i e1 e2; exact ⟨e1.1.trans e2.1.symm, e1.2.trans e2.2.symm⟩
        · exact absurd rfl hb2
      · exact absurd rfl hb1
  · intro g ho
    rcases ho with ho | ⟨q1, q2⟩
    · exact .inl ho
    · exact .inr ⟨q1, fun b j _ => q2 a i (by rw [ht]; simp)⟩
  · intro x hx
    cases hx with
    | row _ _ g o n c hn hl =>
      have := hl.2 _ ht
      refine .row 0 0 g o n c hn ⟨by show 0 < 0 + 1; omega, fun sz' hsz' => ?_⟩
      rw [frHeap_blk] at hsz'
      simp only [and_self, if_true, Blk.tag, Option.some.injEq] at hsz'
      subst hsz'
      exact this
theorem unren_rel {L L' : Lay} {w : World} {a i : Nat} {h2 : AHeap} (hok : ∀ g, okOf C h L g → okOf C h2 L' g) (hrow : ∀ x, RelC C h L w (.row a i) x → RelC C h2 L' w (.row 0 0) x) {v : AV} {x : Value} (hr : RelC C h L w v x) (hp : pure1 (unren1 a i v) = true) : RelC C h2 L' w (unren1 a i v) x := by
  have base : ∀ {v : AV}, RelC C h L w v x → v.pure = true → RelC C h2 L' w v x := fun hr hp => (hr.okmono (fun g _ ho => hok g ho)).pure hp
  unfold unren1 at hp ⊢
  split
  · rename_i b j
    split
    · rename_i hba
      split
      · rename_i hji
        have := Nat.eq_of_beq_eq_true hba
        have := Nat.eq_of_beq_eq_true hji
        subst b; subst j
        exact hrow x hr
      · exact .top _
    · exact .top _
  · rename_i hne
    have hpp : v.pure = true := by
      cases v <;> first | exact hp | exact absurd rfl (hne _ _)
    exact base hr hpp
theorem exportQ_sound {L : Lay} {w : World} (H : HRel C h L w) {v r : AV} {fr : Option Fresh} {x : Value} (hr : RelC C h L w v x) (he : exportQ h v = some (r, fr)) : ∃ L', HRel C (frHeap fr) L' w ∧ RelC C (frHeap fr) L' w r x := by
  have base : ∀ {v : AV}, RelC C h L w v x → v.pure = true → ∃ L', HRel C (frHeap none) L' w ∧ RelC C (frHeap none) L' w v x := fun hr hp => ⟨L, H.nil, (hr.okmono (fun g _ ho => okOf_nil ho)).pure hp⟩
  unfold exportQ at he
  split at he
  · rename_i xs
    split at he
    · split at he
      · rename_i hp
        cases he
        exact base hr (by simpa [AV.pure] using hp)
      · cases he
    · rename_i p hp
      split at he
      case h_2 => cases he
      unfold expRow at he
      split at he
      · rename_i e sz rr hb
        split at he
        · rename_i hrp
          split at he
          · rename_i hpt
            cases he
            obtain ⟨L', H', hok, hrow⟩ := exp_row H hb hrp
            refine ⟨L', H', ?_⟩
            cases hr with
            | tup _ vs hl hh =>
              refine .tup _ vs (by simpa using hl) (fun j u v hu hv => ?_)
              rw [List.getElem?_map] at hu
              cases hx : xs[j]? with
              | none => rw [hx] at hu; cases hu
              | some u0 =>
                rw [hx] at hu
                simp only [Option.map_some, Option.some.injEq] at hu
                subst hu
                refine unren_rel hok hrow (hh j u0 v hx hv) ?_
                simp only [pureT, List.all_eq_true, List.mem_map, forall_exists_index, and_imp, forall_apply_eq_imp_iff₂] at hpt
                exact hpt u0 (List.mem_of_getElem? hx)
          · cases he
        · cases he
      · cases he
  · rename_i a i
    unfold expRow at he
    split at he
    · rename_i e sz rr hb
      split at he
      · rename_i hrp
        split at he
        · cases he
          obtain ⟨L', H', hok, hrow⟩ := exp_row H hb hrp
          exact ⟨L', H', hrow x hr⟩
        · cases he
      · cases he
    · cases he
  · split at he
    · rename_i hp; cases he; exact base hr hp
    · cases he
theorem export_sound {L : Lay} {w : World} (H : HRel C h L w) {v r : AV} {fr : Option Fresh} {x : Value} (hr : RelC C h L w v x) (he : exportR h v = some (r, fr)) : ∃ L', HRel C (frHeap fr) L' w ∧ RelC C (frHeap fr) L' w r x := by
  unfold exportR at he
  split at he
  · rename_i q hq
    cases he
    exact exportQ_sound H hr hq
  · rename_i hnone
    clear hnone
    generalize wholeT v = ww at he
    cases ww
    case false => cases he
    dsimp only at he
    unfold deepR at he
    split at he
    · rename_i xs
      split at he
      · rename_i b ys hm
        split at he
        · cases he
          refine ⟨L, H.nil, ?_⟩
          cases hr with
          | tup _ vs hl hh =>
            obtain ⟨g1, g2⟩ := mapB_spec hm
            refine .tup _ vs (by rw [← g1]; exact hl) (fun j u v hu hv => ?_)
            have hlt : j < xs.length := by rw [g1]; exact (List.getElem?_eq_some_iff.1 hu).1
            exact snapD_rel H 4 _ _ _ (hh j _ v (List.getElem?_eq_getElem hlt) hv) (g2 j _ u (List.getElem?_eq_getElem hlt) hu)
        · cases he
      · cases he
    · split at he
      · rename_i b u hm
        split at he
        · cases he
          exact ⟨L, H.nil, snapD_rel H 4 _ _ _ hr hm⟩
        · cases he
      · cases he

/-- a whole row that is read as a part of itself -/
def wholeV (A : Ar) (h : AHeap) : AV → Bool × AV
  | .slc a i k n c => match Nat.beq k 0, c with
    | true, none => (match blk h a i with | .row _ _ r => (A.eqN n (r.len A), .row a i) | _ => (true, .slc a i k n none))
    | _, c => (true, .slc a i k n c)
  | v => (true, v)
def wholeL (A : Ar) (h : AHeap) : List AV → Bool × List AV
  | [] => (true, [])
  | v :: vs => match wholeV A h v, wholeL A h vs with | (b, u), (c, us) => (A.and b c, u :: us)
def collW (A : Ar) (env : List (Nat × AV)) (h : AHeap) (rs : List ARes) : Option (Bool × List AV) :=
  match collR A env h rs with
  | some (b, vs) => match wholeL A h vs with | (c, us) => some (A.and b c, us)
  | none => none
theorem wholeV_rel {L : Lay} {w : World} (H : HRel C h L w) {v u : AV} {x : Value} (hw : wholeV std h v = (true, u)) (hr : RelC C h L w v x) : RelC C h L w u x := by
  unfold wholeV at hw
  split at hw
  · rename_i a i k n c
    split at hw
    · rename_i hk
      have hk := Nat.eq_of_beq_eq_true hk
      subst hk
      split at hw
      · rename_i e sz r hb
        simp only [Prod.mk.injEq] at hw
        obtain ⟨hn, rfl⟩ := hw
        have hn : n = r.elems.length := by rw [Row.len_std] at hn; simpa [std] using hn
        have htg := H.tagAt hb
        cases hr with
        | slc _ _ _ _ _ g o c hnc hl =>
          rcases hl.2 _ htg with ⟨hne, _⟩ | ⟨rfl, rfl, hc1, hc2⟩
          · exact absurd rfl hne
          · refine .row a i _ _ n c hnc ⟨hl.1, fun s hs => ?_⟩
            rw [htg] at hs
            cases hs
            exact ⟨rfl, by simp, hn, by simpa using hc2⟩
      · cases hw; exact hr
    · cases hw; exact hr
  · cases hw; exact hr
theorem wholeL_rel {L : Lay} {w : World} (H : HRel C h L w) : ∀ {vs us : List AV} {xs : List Value}, wholeL std h vs = (true, us) → RelL w (okOf C h L) h L vs xs → RelL w (okOf C h L) h L us xs
  | [], us, xs, hw, hr => by
    simp only [wholeL, Prod.mk.injEq] at hw
    rw [← hw.2]; exact hr
  | v :: vs, us, xs, hw, hr => by
    simp only [wholeL, Prod.mk.injEq, std_and] at hw
    obtain ⟨⟨h1, h2⟩, rfl⟩ := hw
    cases xs with
    | nil => have := hr.1; simp at this
    | cons x xs =>
      refine RelL.cons (wholeV_rel H (v := v) (by rw [← h1]) (hr.2 0 v x rfl rfl)) (wholeL_rel H (vs := vs) (by rw [← h2]) ⟨by have := hr.1; simpa using this, fun j a b ha hb => hr.2 (j + 1) a b (by simpa using ha) (by simpa using hb)⟩)
theorem wholeL_len (h : AHeap) : ∀ {vs us : List AV} {b : Bool}, wholeL std h vs = (b, us) → us.length = vs.length
  | [], us, b, hw => by
    simp only [wholeL, Prod.mk.injEq] at hw
    rw [← hw.2]
  | v :: vs, us, b, hw => by
    simp only [wholeL, Prod.mk.injEq] at hw
    rw [← hw.2, List.length_cons, List.length_cons, wholeL_len h (vs := vs) rfl]
theorem whole_join {L : Lay} {w : World} (H : HRel C h L w) {vs us : List AV} {x : Value} (hw : wholeL std h vs = (true, us)) (hr : RelC C h L w (joinR vs) x) : RelC C h L w (joinR us) x := by
  have hl := wholeL_len h hw
  have tup : ∀ {vs us : List AV}, wholeL std h vs = (true, us) → us.length = vs.length → RelC C h L w (.tup vs) x → RelC C h L w (.tup us) x := fun hw hl hr => by
    cases hr with
    | tup _ xs h1 h2 =>
      have := wholeL_rel H hw (xs := xs.toList) ⟨by simpa using h1, fun j u v hu hv => h2 j u v hu (by simpa using hv)⟩
      exact .tup _ xs (by rw [hl]; exact h1) (fun j u v hu hv => this.2 j u v hu (by simpa using hv))
  match vs, us, hl with
  | [], [], _ => exact hr
  | [v], [u], _ =>
    have := wholeL_rel H hw (xs := [x]) (RelL.cons hr RelL.nil)
    exact this.2 0 u x rfl rfl
  | v :: v2 :: vs, u :: u2 :: us, hl => exact tup hw hl hr
/-- where a function ends -/
def FinQ (f : FuncId) (r : AV) (fr : Option Fresh) (fs : List AFrame) (h : AHeap) : Prop :=
  ∃ g vs, fs = [g] ∧ g.fn = f ∧ g.ret = true ∧ g.rnd = none ∧ g.defs = [] ∧ collW std g.env h g.res = some (true, vs) ∧ exportR h (joinR vs) = some (r, fr)
/-- **a contract out of a run** -/
theorem pure_of_ev {P : Program} {T : Tab} (hT : TabOK P T) {f : FuncId} {args : List AV} {af : AFrame} {r : AV} {fr : Option Fresh} (he : enterA T f args = some af)
    (hq : ∀ w okA cs, Ev ⟨P, w, okA, cs⟩ [af] [] (FinQ f r fr)) : Pure P f args r fr := by
  intro w okA L vs hargs hok cs
  have H0 : HRel ⟨P, w, okA, cs⟩ [] L w := ⟨Below.refl _ _, fun _ _ ht => absurd rfl ht, fun _ _ => trivial, fun _ _ _ _ ht => absurd rfl ht⟩
  obtain ⟨hfr, _⟩ := enter_rel (C := ⟨P, w, okA, cs⟩) (h := []) (L := L) (w := w) hT he (by
    refine ⟨hargs.1, fun j u v hu hv => (hargs.2 j u v hu hv).okmono (fun g hg ho => .inl ⟨hok g ho, ho⟩)⟩)
  obtain ⟨fs', h', L', fr', cs', w', ⟨g, us, rfl, hfn, hret, hrnd, hdefs, hc, hex⟩, _, hf', H', hst⟩ := hq w okA cs L _ cs w (.cons hfr .base) H0 (by simp)
  cases hf' with
  | cons hf' hk =>
    cases hk
    obtain ⟨fn, hfn', hmr⟩ := hf'.res hrnd
    obtain ⟨vs0, hc0, hwl⟩ : ∃ vs0, collR std g.env h' g.res = some (true, vs0) ∧ wholeL std h' vs0 = (true, us) := by
      unfold collW at hc
      split at hc
      · rename_i b vs hq
        generalize hz : wholeL std h' vs = z at hc
        obtain ⟨c, us'⟩ := z
        simp only [Option.some.injEq, Prod.mk.injEq, std_and] at hc
        obtain ⟨⟨rfl, rfl⟩, rfl⟩ := hc
        exact ⟨vs, hq, hz⟩
      · cases hc
    obtain ⟨x, e1, e2⟩ := results_run H' hf'.env hmr hc0
    replace e2 := whole_join H' hwl e2
    obtain ⟨L2, H2, r2⟩ := export_sound H' e2 hex
    have hnew : isNew fr = false := by
      cases fr with
      | none => rfl
      | some f =>
        have hbr := H2.blks 0 0
        rw [show blk (frHeap (some f)) 0 0 = .row f.e f.sz f.r from rfl] at hbr
        have := hbr.1
        show Nat.beq f.sz 0 = false
        cases hb : Nat.beq f.sz 0 with
        | false => rfl
        | true => have := Nat.eq_of_beq_eq_true hb; omega
    refine ⟨.returned x, w', fr', ⟨x, L2, rfl, H2.below, by unfold PostC; rw [hnew]; exact ⟨⟨H2.below, H2.live, H2.blks, H2.inj⟩, r2⟩⟩, hst, hf'.fn.trans hfn, ?_⟩
    rcases hf'.mode with ⟨_, hm⟩ | ⟨e, _⟩
    · refine ⟨hm, ?_, hf'.kind, fn, ?_, e1⟩
      · obtain ⟨gs, g1, g2, _⟩ := hf'.defs
        rw [hdefs] at g2
        rw [g1, List.eq_nil_of_length_eq_zero g2]; rfl
      · rw [hf'.fn]; exact hfn'
    · rw [hret] at e; cases e
end
end Go.Proofs.Ytjhdnpmojhkbjaa

/- A function called at given values, run to its end. No condition. -/
namespace Go.Proofs.Ytjhdnpmojhkbjaa
open Go.RowKit (Below)
def K0 : Con := fun _ _ => none
/-- what a run's last state hands back -/
def finR (A : Ar) (f : FuncId) (s : ASt) : Option (Bool × AV × Option Fresh) :=
  match s with
  | (acc, g, fs, h) => match fs with
    | _ :: _ => none
    | [] => match g.ret && Nat.beq g.fn f with
      | false => none
      | true => match g.rnd with
        | some _ => none
        | none => match g.defs with
          | _ :: _ => none
          | [] => match collW A g.env h g.res with
            | none => none
            | some (b, vs) => match exportR h (joinR vs) with
              | none => none
              | some (r, fr) => match acc.all (fun b => b) with
                | true => (match b with | true => some (true, r, fr) | false => none)
                | false => none
/-- run f on args to its end -/
def runF (A : Ar) (T : Tab) (K : Con) (n : Nat) (f : FuncId) (args : List AV) : Option (Bool × AV × Option Fresh) :=
  match enterA T f args with
  | none => none
  | some af => finR A f (arun A T K false n [] af [] [])
/-- contracts by runs, so deep -/
def conF (A : Ar) (T : Tab) (n : Nat) : Nat → Con
  | 0 => K0
  | d + 1 => fun f args => runF A T (conF A T n d) n f args
section
variable {P : Program} {T : Tab} {K : Con}
theorem arun_ev (hfol : P.follows .mixedOrders = true) (hT : TabOK P T) (hK : ConOK P K) {stop : Bool} {n : Nat} {f f' : AFrame} {fs fs' : List AFrame} {h h' : AHeap} {acc : List Bool} {C : Ctx} (hC : C.P = P) {Q : List AFrame → AHeap → Prop}
    (hr : arun std T K stop n [] f fs h = (acc, f', fs', h')) (hb : acc.all (fun b => b) = true) (hq : Ev C (f' :: fs') h' Q) : Ev C (f :: fs) h Q := by
  subst hC
  refine (arun_sound hfol hT hK n (Q := Q) acc f' fs' h' (by rw [hr]) (fun b hb' => ?_) hq).2
  have := List.all_eq_true.1 hb b hb'
  simpa using this
theorem k0_ok : ConOK P K0 := fun f args r fr h => by cases h
theorem finR_spec {f : FuncId} {s : ASt} {r : AV} {fr : Option Fresh} (h : finR std f s = some (true, r, fr)) : ∃ acc g h', s = (acc, g, [], h') ∧ acc.all (fun b => b) = true ∧ FinQ f r fr [g] h' := by
  obtain ⟨acc, g, fs, hp⟩ := s
  unfold finR at h
  dsimp only at h
  split at h
  · cases h
  · split at h
    · cases h
    · rename_i hg
      simp only [Bool.and_eq_true] at hg
      split at h
      · cases h
      · rename_i hn
        split at h
        · cases h
        · rename_i hd
          split at h
          · cases h
          · rename_i b vs hc
            split at h
            · cases h
            · rename_i r' fr' hex
              split at h
              · rename_i hacc
                cases b
                case false => cases h
                simp only [Option.some.injEq, Prod.mk.injEq, true_and] at h
                obtain ⟨rfl, rfl⟩ := h
                exact ⟨acc, g, hp, rfl, hacc, g, vs, rfl, Nat.eq_of_beq_eq_true hg.2, hg.1, hn, hd, hc, hex⟩
              · cases h
theorem runF_sound (hfol : P.follows .mixedOrders = true) (hT : TabOK P T) (hK : ConOK P K) {n : Nat} : ConOK P (runF std T K n) := fun f args r fr h => by
  unfold runF at h
  split at h
  · cases h
  · rename_i af haf
    obtain ⟨acc, g, h', hs, hacc, hfin⟩ := finR_spec h
    exact pure_of_ev hT haf (fun w okA cs => arun_ev hfol hT hK rfl hs hacc (.now (by simp) hfin))
theorem conF_ok (hfol : P.follows .mixedOrders = true) (hT : TabOK P T) {n : Nat} : ∀ d, ConOK P (conF std T n d)
  | 0 => k0_ok
  | d + 1 => runF_sound hfol hT (conF_ok hfol hT d)
end
end Go.Proofs.Ytjhdnpmojhkbjaa
