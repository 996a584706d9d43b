/- The same arithmetic, quick for the kernel. No condition. -/
import Derived.Test.YtimmgjppippdiaaXu
namespace Go.Proofs.Ytimmgjppippdiaa
def Q.addI : Int → Int → Int
  | .ofNat a, .ofNat b => .ofNat (Nat.add a b)
  | a, b => a + b
def Q.subI : Int → Int → Int
  | .ofNat a, .ofNat b => (match Nat.ble b a with | true => .ofNat (Nat.sub a b) | false => .negSucc (Nat.pred (Nat.sub b a)))
  | a, b => a - b
def Q.mulI : Int → Int → Int
  | .ofNat a, .ofNat b => .ofNat (Nat.mul a b)
  | a, b => a * b
def Q.ltI : Int → Int → Bool
  | .ofNat a, .ofNat b => Nat.blt a b
  | .ofNat _, .negSucc _ => false
  | .negSucc _, .ofNat _ => true
  | .negSucc a, .negSucc b => Nat.blt b a
def Q.leI : Int → Int → Bool
  | .ofNat a, .ofNat b => Nat.ble a b
  | .ofNat _, .negSucc _ => false
  | .negSucc _, .ofNat _ => true
  | .negSucc a, .negSucc b => Nat.ble b a
def Q.eqI : Int → Int → Bool
  | .ofNat a, .ofNat b => Nat.beq a b
  | .ofNat _, .negSucc _ => false
  | .negSucc _, .ofNat _ => false
  | .negSucc a, .negSucc b => Nat.beq a b
def Q.inR : IntKind → Int → Bool
  | .i64, .ofNat a => Nat.ble a 9223372036854775807
  | .i64, .negSucc a => Nat.ble a 9223372036854775807
  | k, n => decide (k.min ≤ n ∧ n ≤ k.max)
def quick : Ar := { std with
  add := Q.addI, sub := Q.subI, mul := Q.mulI, lt := Q.ltI, le := Q.leI, eq := Q.eqI, inR := Q.inR
  ltN := Nat.blt, leN := Nat.ble, eqN := Nat.beq
  addN := Nat.add, subN := Nat.sub }
theorem quick_eq : quick = std := by
  have hb : ∀ a b : Nat, Nat.beq a b = decide (a = b) := fun a b => by rw [Bool.eq_iff_iff]; simp
  have hl : ∀ a b : Nat, Nat.ble a b = decide (a ≤ b) := fun a b => by rw [Bool.eq_iff_iff]; simp
  have ht : ∀ a b : Nat, Nat.blt a b = decide (a < b) := fun a b => by rw [Bool.eq_iff_iff]; simp
  have dec : ∀ {p q : Prop} [Decidable p] [Decidable q], (p ↔ q) → decide p = decide q := fun h => by simp [h]
  have decF : ∀ {p : Prop} [Decidable p], ¬ p → false = decide p := fun h => by simp [h]
  have decT : ∀ {p : Prop} [Decidable p], p → true = decide p := fun h => by simp [h]
  have h1 : Q.addI = fun a b => a + b := by funext a b; cases a <;> cases b <;> rfl
  have h2 : Q.subI = fun a b => a - b := by
    funext a b
    cases a with
    | ofNat a =>
      cases b with
      | ofNat b =>
        simp only [Q.subI, hl]
        by_cases h : b ≤ a
        · simp only [h, decide_true, Int.ofNat_eq_natCast]; exact Int.ofNat_sub h
        · simp only [h, decide_false, Int.negSucc_eq, Int.ofNat_eq_natCast, Nat.pred_eq_sub_one, Nat.sub_eq]; omega
      | negSucc b => rfl
    | negSucc a => cases b <;> rfl
  have h3 : Q.mulI = fun a b => a * b := by funext a b; cases a <;> cases b <;> rfl
  have h4 : Q.ltI = fun a b => decide (a < b) := by
    funext a b
    cases a <;> cases b <;> simp only [Q.ltI, ht, Int.ofNat_eq_natCast, Int.negSucc_eq]
    · exact dec (by omega)
    · exact decF (by omega)
    · exact decT (by omega)
    · exact dec (by omega)
  have h5 : Q.leI = fun a b => decide (a ≤ b) := by
    funext a b
    cases a <;> cases b <;> simp only [Q.leI, hl, Int.ofNat_eq_natCast, Int.negSucc_eq]
    · exact dec (by omega)
    · exact decF (by omega)
    · exact decT (by omega)
    · exact dec (by omega)
  have h6 : Q.eqI = fun a b => decide (a = b) := by
    funext a b
    cases a <;> cases b <;> simp only [Q.eqI, hb, Int.ofNat_eq_natCast, Int.negSucc_eq]
    · exact dec (by omega)
    · exact decF (by omega)
    · exact decF (by omega)
    · exact dec (by omega)
  have h7 : Q.inR = fun k n => decide (k.min ≤ n ∧ n ≤ k.max) := by
    funext k n
    have e1 : IntKind.i64.min = -9223372036854775808 := by decide
    have e2 : IntKind.i64.max = 9223372036854775807 := by decide
    unfold Q.inR
    split
    · simp only [hl, Int.ofNat_eq_natCast]
      exact dec (by rw [e1, e2]; omega)
    · simp only [hl, Int.negSucc_eq]
      exact dec (by rw [e1, e2]; omega)
    · rfl
  have h8 : (Nat.blt) = fun a b => decide (a < b) := by funext a b; exact ht a b
  have h9 : (Nat.ble) = fun a b => decide (a ≤ b) := by funext a b; exact hl a b
  have h10 : (Nat.beq) = fun a b => decide (a = b) := by funext a b; exact hb a b
  unfold quick
  rw [h1, h2, h3, h4, h5, h6, h7, h8, h9, h10]
  rfl
end Go.Proofs.Ytimmgjppippdiaa
namespace Go.Proofs.Ytimmgjppippdiaa
/-- a table that is quick to look up -/
inductive FTree where
  | leaf
  | node (l : FTree) (k : Nat) (v : AFunc) (r : FTree)
def FTree.find : FTree → Nat → Option AFunc
  | .leaf, _ => none
  | .node l k v r, f => match Nat.beq f k with | true => some v | false => match Nat.blt f k with | true => l.find f | false => r.find f
def FTree.All (P : Program) : FTree → Prop
  | .leaf => True
  | .node l k v r => l.All P ∧ mfunc P k v = true ∧ r.All P
theorem FTree.ok {P : Program} : ∀ {t : FTree}, t.All P → TabOK P t.find
  | .leaf, _, f, af, h => by cases h
  | .node l k v r, ⟨h1, h2, h3⟩, f, af, h => by
    simp only [FTree.find] at h
    split at h
    · rename_i e
      have e : f = k := Nat.eq_of_beq_eq_true e
      cases h; rw [e]; exact h2
    · split at h
      · exact FTree.ok h1 f af h
      · exact FTree.ok h3 f af h
end Go.Proofs.Ytimmgjppippdiaa
