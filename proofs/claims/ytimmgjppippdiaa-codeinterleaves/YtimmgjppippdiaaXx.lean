/- Contracts at given values, kept in a list. No condition. -/
import Derived.Test.YtimmgjppippdiaaXw
namespace Go.Proofs.Ytimmgjppippdiaa
def eqL {α : Type} (f : α → α → Bool) : List α → List α → Bool
  | [], [] => true
  | x :: xs, y :: ys => match f x y with | true => eqL f xs ys | false => false
  | _, _ => false
def eqZ : Int → Int → Bool
  | .ofNat a, .ofNat b => Nat.beq a b
  | .negSucc a, .negSucc b => Nat.beq a b
  | _, _ => false
def eqKi : IntKind → IntKind → Bool
  | .i64, .i64 => true
  | k, k' => decide (k = k')
def eqRow (f : AV → AV → Bool) : Row → Row → Bool
  | .ints k l, .ints k' l' => match eqKi k k' with | true => eqL eqZ l l' | false => false
  | .flts k l, .flts k' l' => (match decide (k = k') with | true => eqL Nat.beq l l' | false => false)
  | .gen xs, .gen ys => eqL f xs ys
  | _, _ => false
def eqA : Nat → AV → AV → Bool
  | 0, _, _ => false
  | d + 1, x, y => match x, y with
    | .int k a, .int k' b => (match eqZ a b with | true => eqKi k k' | false => false)
    | .bool a, .bool b => a == b
    | .flt k a, .flt k' b => (match Nat.beq a b with | true => decide (k = k') | false => false)
    | .nils, .nils => true
    | .list r, .list s => eqRow (eqA d) r s
    | .agg r, .agg s => eqRow (eqA d) r s
    | .fn f xs, .fn g ys => (match Nat.beq f g with | true => eqL (eqA d) xs ys | false => false)
    | .eptr u o, .eptr v q => (match Nat.beq o q with | true => eqA d u v | false => false)
    | _, _ => false
theorem eqL_eq {α : Type} {f : α → α → Bool} (hf : ∀ x y, f x y = true → x = y) : ∀ {l m : List α}, eqL f l m = true → l = m
  | [], [], _ => rfl
  | x :: xs, y :: ys, h => by
    simp only [eqL] at h
    split at h
    · rename_i e; rw [hf _ _ e, eqL_eq hf h]
    · cases h
  | [], _ :: _, h => by cases h
  | _ :: _, [], h => by cases h
theorem eqZ_eq {a b : Int} (h : eqZ a b = true) : a = b := by
  cases a <;> cases b <;> simp only [eqZ, Bool.false_eq_true] at h
  · rw [Nat.eq_of_beq_eq_true h]
  · rw [Nat.eq_of_beq_eq_true h]
theorem eqKi_eq {a b : IntKind} (h : eqKi a b = true) : a = b := by
  unfold eqKi at h
  split at h
  · rfl
  · simpa using h
theorem eqRow_eq {f : AV → AV → Bool} (hf : ∀ x y, f x y = true → x = y) {r s : Row} (h : eqRow f r s = true) : r = s := by
  cases r <;> cases s <;> simp only [eqRow, Bool.false_eq_true] at h
  · rw [eqL_eq hf h]
  · split at h
    · rename_i e; rw [eqKi_eq e, eqL_eq (fun _ _ => eqZ_eq) h]
    · cases h
  · split at h
    · rename_i e; rw [of_decide_eq_true e, eqL_eq (fun _ _ => Nat.eq_of_beq_eq_true) h]
    · cases h
theorem eqA_eq : ∀ {d : Nat} {x y : AV}, eqA d x y = true → x = y
  | 0, _, _, h => by cases h
  | d + 1, x, y, h => by
    have ih : ∀ x y, eqA d x y = true → x = y := fun _ _ h => eqA_eq h
    unfold eqA at h
    split at h
    · split at h
      · rename_i e; rw [eqZ_eq e, eqKi_eq h]
      · cases h
    · rename_i a b; have : a = b := by simpa using h
      rw [this]
    · split at h
      · rename_i e; rw [Nat.eq_of_beq_eq_true e, of_decide_eq_true h]
      · cases h
    · rfl
    · rw [eqRow_eq ih h]
    · rw [eqRow_eq ih h]
    · split at h
      · rename_i e
        have e := Nat.eq_of_beq_eq_true e
        rw [e, eqL_eq ih h]
      · cases h
    · split at h
      · rename_i e; rw [Nat.eq_of_beq_eq_true e, eqA_eq h]
      · cases h
    · cases h
structure Fact where
  f : FuncId
  args : List AV
  r : AV
  fr : Option Fresh
def conL : List Fact → Con
  | [], _, _ => none
  | q :: qs, f, args => match Nat.beq q.f f with
    | true => (match eqL (eqA 5) q.args args with | true => some (true, q.r, q.fr) | false => conL qs f args)
    | false => conL qs f args
def FactsOK (P : Program) : List Fact → Prop
  | [] => True
  | q :: qs => Pure P q.f q.args q.r q.fr ∧ FactsOK P qs
theorem conL_ok {P : Program} : ∀ {l : List Fact}, FactsOK P l → ConOK P (conL l)
  | [], _, f, args, r, fr, h => by cases h
  | q :: qs, ⟨h1, h2⟩, f, args, r, fr, h => by
    simp only [conL] at h
    split at h
    · rename_i e
      have e : q.f = f := Nat.eq_of_beq_eq_true e
      split at h
      · rename_i e2
        have e2 := eqL_eq (fun _ _ => eqA_eq) e2
        simp only [Option.some.injEq, Prod.mk.injEq, true_and] at h
        obtain ⟨rfl, rfl⟩ := h
        rw [← e, ← e2]; exact h1
      · exact conL_ok h2 f args r fr h
    · exact conL_ok h2 f args r fr h
/-- a fact, out of a run that rests on other facts -/
theorem fact_of {P : Program} {T : Tab} (hfol : P.follows .mixedOrders = true) (hT : TabOK P T) {l : List Fact} (hl : FactsOK P l) {n : Nat} {f : FuncId} {args : List AV} {r : AV} {fr : Option Fresh}
    (h : runS quick T (conL l) n f args = some (true, r, fr)) : Pure P f args r fr := by
  rw [quick_eq] at h
  exact runS_sound hfol hT (conL_ok hl) f args r fr h
end Go.Proofs.Ytimmgjppippdiaa
