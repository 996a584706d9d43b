/- Paths of functions, printed by the explorer (Gx). No condition. -/
import Derived.Test.YtjhdnpmojhkbjaaRz
import Derived.KernelRfl
namespace Go.Proofs.Ytjhdnpmojhkbjaa
set_option maxRecDepth 100000
set_option linter.unusedVariables false
def f17e (fs : List AV) : List AFrame := [{ fn := 17, N := 20, env := [(0, AV.list (Row.big (Sh.agg [Sh.int .i64, Sh.int .i64, Sh.int .i64, Sh.ints .i64]) fs))], todo := [.code a17.code], defs := [], rnd := none, ret := false, res := [ARes.tmp 2] }]
theorem f17e_at (fs : List AV) : enterA tab 17 [AV.list (Row.big (Sh.agg [Sh.int .i64, Sh.int .i64, Sh.int .i64, Sh.ints .i64]) fs)] = some { fn := 17, N := 20, env := [(0, AV.list (Row.big (Sh.agg [Sh.int .i64, Sh.int .i64, Sh.int .i64, Sh.ints .i64]) fs))], todo := [.code a17.code], defs := [], rnd := none, ret := false, res := [ARes.tmp 2] } := rfl
def f17h17_0a (fs : List AV) : List AFrame := [{ fn := 17, N := 20, env := [(0, AV.list (Row.big (Sh.agg [Sh.int .i64, Sh.int .i64, Sh.int .i64, Sh.ints .i64]) fs)), (3, AV.nils), (4, AV.int .i64 0)], todo := .code (ACode.gh [] l17_0) :: k17_0, defs := [], rnd := none, ret := false, res := [ARes.tmp 2] }]
def f17h17_0am (fs : List AV) : AHeap := []
def f17h17_0b (fs : List AV) (n0 : Int) (x1 : List AV) : List AFrame := [{ fn := 17, N := 20, env := [(0, AV.list (Row.big (Sh.agg [Sh.int .i64, Sh.int .i64, Sh.int .i64, Sh.ints .i64]) fs)), (3, AV.row 17019 0), (4, AV.int .i64 n0)], todo := .code (ACode.gh [] l17_0) :: k17_0, defs := [], rnd := none, ret := false, res := [ARes.tmp 2] }]
def f17h17_0bm (fs : List AV) (n0 : Int) (x1 : List AV) : AHeap := [(17019, { base := 0, blks := [Blk.row 74 4 (Row.big (Sh.agg [Sh.int .i64, Sh.int .i64, Sh.int .i64, Sh.ints .i64]) x1)] })]
theorem f17p0 (A : Ar) (fs : List AV) : gwalkL A tab BOl 16 [] (f17e fs) [] =
  some ([true, true, true],
   f17h17_0a (fs), f17h17_0am (fs)) := by kernel_rfl
theorem f17p1 (A : Ar) (fs : List AV) : gwalkL A tab BOl 32 [true] (f17h17_0a fs) (f17h17_0am fs) =
  some ([true, A.inR .i64 (A.add 0 1), true, true, A.and (A.and true (A.eqN 4 4)) (A.and (A.leN (A.lenA [AV.agg (Row.gen [.int .i64 ((A.nthA fs (A.nat 0)).cellAt 0).toI, .int .i64 ((A.nthA fs (A.nat 0)).cellAt 1).toI, .int .i64 ((A.nthA fs (A.nat 0)).cellAt 2).toI, .list (.ints .i64 ((A.nthA fs (A.nat 0)).cellAt 3).toIs)])]) 4294967296) (A.ltN 0 (A.lenA [AV.agg (Row.gen [.int .i64 ((A.nthA fs (A.nat 0)).cellAt 0).toI, .int .i64 ((A.nthA fs (A.nat 0)).cellAt 1).toI, .int .i64 ((A.nthA fs (A.nat 0)).cellAt 2).toI, .list (.ints .i64 ((A.nthA fs (A.nat 0)).cellAt 3).toIs)])]))), List.all [AV.agg (Row.gen [.int .i64 ((A.nthA fs (A.nat 0)).cellAt 0).toI, .int .i64 ((A.nthA fs (A.nat 0)).cellAt 1).toI, .int .i64 ((A.nthA fs (A.nat 0)).cellAt 2).toI, .list (.ints .i64 ((A.nthA fs (A.nat 0)).cellAt 3).toIs)])] fun x => AV.bx x && Nat.beq (flatLen A x) 4, A.and true (decide (List.length ((A.nthA fs (A.nat 0)).cellAt 3).toIs ≤ 4294967296)), A.leN (A.addN 0 4) 4, A.and (A.and (A.le 0 0) (A.ltN (A.nat 0) (A.lenA fs))) (A.eqN 4 4), true, true, true, A.lt 0 (A.int (A.lenA fs)), true, true, true, true],
   f17h17_0b (fs) (A.add 0 1) ([AV.agg (Row.gen [.int .i64 ((A.nthA fs (A.nat 0)).cellAt 0).toI, .int .i64 ((A.nthA fs (A.nat 0)).cellAt 1).toI, .int .i64 ((A.nthA fs (A.nat 0)).cellAt 2).toI, .list (.ints .i64 ((A.nthA fs (A.nat 0)).cellAt 3).toIs)])]), f17h17_0bm (fs) (A.add 0 1) ([AV.agg (Row.gen [.int .i64 ((A.nthA fs (A.nat 0)).cellAt 0).toI, .int .i64 ((A.nthA fs (A.nat 0)).cellAt 1).toI, .int .i64 ((A.nthA fs (A.nat 0)).cellAt 2).toI, .list (.ints .i64 ((A.nthA fs (A.nat 0)).cellAt 3).toIs)])])) := by kernel_rfl
theorem f17p2 (A : Ar) (fs : List AV) : gfin A tab BOl 17 [false] 17 (f17h17_0a fs) (f17h17_0am fs) =
  some ([A.and true (A.and true true), true, true, !A.lt 0 (A.int (A.lenA fs)), true, true, true, true],
   AV.nils, none) := by kernel_rfl
theorem f17p3 (A : Ar) (fs : List AV) (n0 : Int) (x1 : List AV) : gwalkL A tab BOl 32 [true] (f17h17_0b fs n0 x1) (f17h17_0bm fs n0 x1) =
  some ([true, A.inR .i64 (A.add n0 1), true, true, A.and (A.and true (A.eqN 4 4)) (A.and (A.eqN 74 74) (A.and (A.eqN 4 4) (A.leN (A.addN (A.lenA x1) (A.lenA [AV.agg (Row.gen [.int .i64 ((A.nthA fs (A.nat n0)).cellAt 0).toI, .int .i64 ((A.nthA fs (A.nat n0)).cellAt 1).toI, .int .i64 ((A.nthA fs (A.nat n0)).cellAt 2).toI, .list (.ints .i64 ((A.nthA fs (A.nat n0)).cellAt 3).toIs)])])) 4294967296))), List.all [AV.agg (Row.gen [.int .i64 ((A.nthA fs (A.nat n0)).cellAt 0).toI, .int .i64 ((A.nthA fs (A.nat n0)).cellAt 1).toI, .int .i64 ((A.nthA fs (A.nat n0)).cellAt 2).toI, .list (.ints .i64 ((A.nthA fs (A.nat n0)).cellAt 3).toIs)])] fun x => AV.bx x && Nat.beq (flatLen A x) 4, A.and true (decide (List.length ((A.nthA fs (A.nat n0)).cellAt 3).toIs ≤ 4294967296)), A.leN (A.addN 0 4) 4, A.and (A.and (A.le 0 n0) (A.ltN (A.nat n0) (A.lenA fs))) (A.eqN 4 4), true, true, true, A.lt n0 (A.int (A.lenA fs)), true, true, true, true],
   f17h17_0b (fs) (A.add n0 1) (A.appA x1 [AV.agg (Row.gen [.int .i64 ((A.nthA fs (A.nat n0)).cellAt 0).toI, .int .i64 ((A.nthA fs (A.nat n0)).cellAt 1).toI, .int .i64 ((A.nthA fs (A.nat n0)).cellAt 2).toI, .list (.ints .i64 ((A.nthA fs (A.nat n0)).cellAt 3).toIs)])]), f17h17_0bm (fs) (A.add n0 1) (A.appA x1 [AV.agg (Row.gen [.int .i64 ((A.nthA fs (A.nat n0)).cellAt 0).toI, .int .i64 ((A.nthA fs (A.nat n0)).cellAt 1).toI, .int .i64 ((A.nthA fs (A.nat n0)).cellAt 2).toI, .list (.ints .i64 ((A.nthA fs (A.nat n0)).cellAt 3).toIs)])])) := by kernel_rfl
theorem f17p4 (A : Ar) (fs : List AV) (n0 : Int) (x1 : List AV) : gfin A tab BOl 17 [false] 17 (f17h17_0b fs n0 x1) (f17h17_0bm fs n0 x1) =
  some ([A.and true (A.and true true), true, true, !A.lt n0 (A.int (A.lenA fs)), true, true, true, true],
   AV.row 0 0, some { e := 74, sz := 4, r := Row.big (.agg [.int .i64, .int .i64, .int .i64, .ints .i64]) x1 }) := by kernel_rfl
def f15e (fs : List AV) : List AFrame := [{ fn := 15, N := 30, env := [(0, AV.list (Row.big (Sh.agg [Sh.int .i64, Sh.int .i64, Sh.int .i64, Sh.ints .i64]) fs))], todo := [.code a15.code], defs := [], rnd := none, ret := false, res := [ARes.tmp 2] }]
theorem f15e_at (fs : List AV) : enterA tab 15 [AV.list (Row.big (Sh.agg [Sh.int .i64, Sh.int .i64, Sh.int .i64, Sh.ints .i64]) fs)] = some { fn := 15, N := 30, env := [(0, AV.list (Row.big (Sh.agg [Sh.int .i64, Sh.int .i64, Sh.int .i64, Sh.ints .i64]) fs))], todo := [.code a15.code], defs := [], rnd := none, ret := false, res := [ARes.tmp 2] } := rfl
def f15h15_0a (fs : List AV) (n0 : Int) : List AFrame := [{ fn := 15, N := 30, env := [(0, AV.list (Row.big (Sh.agg [Sh.int .i64, Sh.int .i64, Sh.int .i64, Sh.ints .i64]) fs)), (3, AV.int .i64 n0)], todo := .code (ACode.gh [] l15_0) :: k15_0, defs := [], rnd := none, ret := false, res := [ARes.tmp 2] }]
def f15h15_0am (fs : List AV) (n0 : Int) : AHeap := []
theorem f15p0 (A : Ar) (fs : List AV) : gfin A tab BOl 28 [true, true, true, true, true, true, true, true, true] 15 (f15e fs) [] =
  some ([A.and true (A.and true true), true, true, true, true, true, true, true, true, true, A.le (A.int (A.lenA fs)) 40, true, true, true, true, true, true, true, true, A.lt 24 (A.int (A.lenA fs)), true, true, true, true, true],
   AV.bool false, none) := by kernel_rfl
theorem f15p1 (A : Ar) (fs : List AV) : gfin A tab BOl 28 [true, true, true, true, false, false, false, false, true] 15 (f15e fs) [] =
  some ([A.and true (A.and true true), true, A.lt 42 (A.int (A.lenA fs)), true, true, true, true, true, true, true, !A.le (A.int (A.lenA fs)) 40, true, true, true, true, true, true, true, true, A.lt 24 (A.int (A.lenA fs)), true, true, true, true, true],
   AV.bool false, none) := by kernel_rfl
theorem f15p2 (A : Ar) (fs : List AV) : gwalkL A tab BOl 32 [true, true, true, true, false, false, false, false, false] (f15e fs) [] =
  some ([true, !A.lt 42 (A.int (A.lenA fs)), true, true, true, true, true, true, true, !A.le (A.int (A.lenA fs)) 40, true, true, true, true, true, true, true, true, A.lt 24 (A.int (A.lenA fs)), true, true, true, true, true],
   f15h15_0a (fs) (0), f15h15_0am (fs) (0)) := by kernel_rfl
theorem f15p4 (A : Ar) (fs : List AV) : gwalkL A tab BOl 32 [false, false, false, false, false, false, false, false, false] (f15e fs) [] =
  some ([true, !A.lt 42 (A.int (A.lenA fs)), true, true, true, true, true, true, true, true, true, true, true, true, true, true, true, true, !A.lt 24 (A.int (A.lenA fs)), true, true, true, true, true],
   f15h15_0a (fs) (0), f15h15_0am (fs) (0)) := by kernel_rfl
theorem f15p5 (A : Ar) (fs : List AV) (n0 : Int) : gfin A tab BOl 30 [true, true] 15 (f15h15_0a fs n0) (f15h15_0am fs n0) =
  some ([A.and true (A.and true true), true, A.lt 26 (A.int (A.len ((A.nthA fs (A.nat n0)).cellAt 3).toIs)), true, true, A.ltN 3 4, true, A.and (A.and (A.le 0 n0) (A.ltN (A.nat n0) (A.lenA fs))) (A.eqN 4 4), true, true, A.lt n0 (A.int (A.lenA fs)), true, true, true, true],
   AV.bool false, none) := by kernel_rfl
theorem f15p6 (A : Ar) (fs : List AV) (n0 : Int) : gwalkL A tab BOl 34 [true, false] (f15h15_0a fs n0) (f15h15_0am fs n0) =
  some ([true, A.inR .i64 (A.add n0 1), true, !A.lt 26 (A.int (A.len ((A.nthA fs (A.nat n0)).cellAt 3).toIs)), true, true, A.ltN 3 4, true, A.and (A.and (A.le 0 n0) (A.ltN (A.nat n0) (A.lenA fs))) (A.eqN 4 4), true, true, A.lt n0 (A.int (A.lenA fs)), true, true, true, true],
   f15h15_0a (fs) (A.add n0 1), f15h15_0am (fs) (A.add n0 1)) := by kernel_rfl
theorem f15p7 (A : Ar) (fs : List AV) (n0 : Int) : gfin A tab BOl 16 [false] 15 (f15h15_0a fs n0) (f15h15_0am fs n0) =
  some ([A.and true (A.and true true), true, !A.lt n0 (A.int (A.lenA fs)), true, true, true, true],
   AV.bool true, none) := by kernel_rfl
end Go.Proofs.Ytjhdnpmojhkbjaa
/- Contracts as a list. No condition. -/
namespace Go.Proofs.Ytjhdnpmojhkbjaa
theorem numR_rng (c : Int) : ∀ (fs : List AV) (last : Int), ∀ x ∈ numR c fs last, last - 32 * (fs.length : Int) ≤ keyN x ∧ keyN x ≤ last + 32 * (fs.length : Int)
  | [], _, x, hx => by simp [numR] at hx
  | f :: fs, last, x, hx => by
    unfold numR at hx
    have hn := nearI_ge last (ctF f)
    split at hx
    · rcases List.mem_cons.1 hx with rfl | hx
      · rw [key_num]; simp only [List.length_cons]; omega
      · have := numR_rng c fs _ x hx; simp only [List.length_cons]; omega
    · have := numR_rng c fs _ x hx; simp only [List.length_cons]; omega
theorem numR0_rng (c : Int) : ∀ (fs : List AV), ctB fs = true → ∀ x ∈ numR0 c fs, -32 * (fs.length : Int) ≤ keyN x ∧ keyN x ≤ 200 + 32 * (fs.length : Int)
  | [], _, x, hx => by simp [numR0] at hx
  | f :: fs, h, x, hx => by
    have h1 : 0 ≤ ctF f ∧ ctF f ≤ 63 := of_decide_eq_true (List.all_eq_true.mp h f (by simp))
    have h2 : ctB fs = true := List.all_eq_true.mpr fun g hg => List.all_eq_true.mp h g (by simp [hg])
    unfold numR0 at hx
    split at hx
    · rcases List.mem_cons.1 hx with rfl | hx
      · rw [key_num]; simp only [List.length_cons]; omega
      · have := numR_rng c fs _ x hx; simp only [List.length_cons]; omega
    · have := numR0_rng c fs h2 x hx; simp only [List.length_cons]; omega
theorem numR_len (c : Int) : ∀ (fs : List AV) (last : Int), (numR c fs last).length ≤ fs.length
  | [], _ => Nat.le_refl _
  | f :: fs, last => by
    unfold numR
    split
    · have := numR_len c fs (nearI last (ctF f)); simp only [List.length_cons]; omega
    · have := numR_len c fs last; simp only [List.length_cons]; omega
theorem numR0_len (c : Int) : ∀ (fs : List AV), (numR0 c fs).length ≤ fs.length
  | [] => Nat.le_refl _
  | f :: fs => by
    unfold numR0
    split
    · have := numR_len c fs (ctF f + 64); simp only [List.length_cons]; omega
    · have := numR0_len c fs; simp only [List.length_cons]; omega
theorem cpA_mem {x : AV} : ∀ {l : List AV} {p : AV}, x ∈ cpA p l → x ∈ l
  | [], _, h => h
  | y :: l, p, h => by
    unfold cpA at h
    split at h
    · exact List.mem_cons_of_mem _ (cpA_mem h)
    · rcases List.mem_cons.1 h with rfl | h
      · exact List.mem_cons_self
      · exact List.mem_cons_of_mem _ (cpA_mem h)
theorem cpN_mem {x : AV} {l : List AV} (h : x ∈ cpN l) : x ∈ l := by
  cases l with
  | nil => exact h
  | cons y l =>
    rcases List.mem_cons.1 h with rfl | h
    · exact List.mem_cons_self
    · exact List.mem_cons_of_mem _ (cpA_mem h)
theorem ordL_mem {x : AV} {c : Int} {fs : List AV} (h : x ∈ ordL c fs) : x ∈ numR0 c fs := by
  rw [ordL_eq] at h
  exact mem_sortN (cpN_mem h)
theorem ordL_len (c : Int) (fs : List AV) : (ordL c fs).length ≤ fs.length := by
  rw [ordL_eq]
  have h1 := cpN_len (sortN (numR0 c fs))
  rw [sortN_len] at h1
  have := numR0_len c fs
  omega
theorem nm_of {fs : List AV} (h : nmB fs = true) : fs.length < 10000 ∧ ctB fs = true := by
  unfold nmB at h
  simpa using h
theorem ordL_rng {c : Int} {fs : List AV} (h : nmB fs = true) : ∀ x ∈ ordL c fs, -400000 ≤ keyN x ∧ keyN x ≤ 400000 := fun x hx => by
  obtain ⟨h1, h2⟩ := nm_of h
  have := numR0_rng c fs h2 x (ordL_mem hx)
  omega
theorem refN0_ord (c : Int) (fs : List AV) : refN0 c fs = ((ordL c fs).map valF, (ordL c fs).map keyN) := by
  rw [ordL_eq]; exact refN0_eq c fs
theorem eachW_ok {a b : Int} : ∀ {fs : List AV}, eachW a b fs = 0 → ∀ f ∈ fs, frW a b f = 0
  | [], _, f, hf => absurd hf List.not_mem_nil
  | g :: fs, h, f, hf => by
    unfold eachW at h
    split at h
    · rename_i h0
      rcases List.mem_cons.1 hf with rfl | hf
      · exact h0
      · exact eachW_ok h f hf
    · rename_i h0; exact absurd h h0
theorem open_ok {a b c : Int} {fs : List AV} (h : openE a b c fs = 0) : rulesE a b = 0 ∧ chanW b c = 0 ∧ fs.length ≤ 40 ∧ eachW a b fs = 0 := by
  unfold openE at h
  simp only [firstE] at h
  by_cases h1 : rulesE a b = 0
  · by_cases h2 : chanW b c = 0
    · by_cases h3 : (fs.length : Int) ≤ 40
      · simp [h1, h2, h3] at h
        exact ⟨h1, h2, by omega, by by_cases h9 : eachW a b fs = 0
                                    · exact h9
                                    · exact h h9⟩
      · simp [h1, h2, h3, unlessE] at h
    · simp [h1, h2] at h
  · simp [h1] at h
theorem open_nm {a b c : Int} {fs : List AV} (h : openE a b c fs = 0) : nmB fs = true := by
  obtain ⟨h1, h2, h3, h4⟩ := open_ok h
  unfold nmB
  simp only [Bool.and_eq_true, decide_eq_true_eq]
  refine ⟨by omega, List.all_eq_true.mpr fun f hf => decide_eq_true ?_⟩
  have hw := eachW_ok h4 f hf
  have hrb : rulesB a b = true := by
    unfold rulesE at h1
    by_cases hb : rulesB a b = true
    · exact hb
    · rw [if_neg hb] at h1; cases h1
  unfold frW at hw
  rw [frameW_eq hrb] at hw
  exact (frameE_ok hw).2.1
def fewF (fs : List AV) : Bool := decide (fs.length ≤ 24 ∨ 40 < fs.length ∧ fs.length ≤ 42) && fs.all fun f => decide ((dtF f).length ≤ 26)
theorem few_loop {C : Ctx} (hC : C.P = Try.prog) (fs : List AV) (hl : fs.length ≤ 42) : ∀ (d i : Nat), fs.length - i = d → i ≤ fs.length →
    Ev C (f15h15_0a fs i) (f15h15_0am fs i) (FinQ 15 (.bool ((fs.drop i).all fun f => decide ((dtF f).length ≤ 26))) none) := by
  intro d
  induction d with
  | zero => intro i hd hi; exact fin hC BOl_ok (f15p7 std fs i) (by simp; omega) (by rw [List.drop_of_length_le (by omega)]; rfl) rfl
  | succ d ih =>
    intro i hd hi
    have hlt : i < fs.length := by omega
    have hg : fs.getD i .top = fs[i] := by simp [hlt]
    have e2 : std.add (i : Int) 1 = ((i + 1 : Nat) : Int) := by simp
    rw [List.drop_eq_getElem_cons hlt, List.all_cons]
    by_cases h : (dtF fs[i]).length ≤ 26
    · rw [decide_eq_true h, Bool.true_and]
      have hw := f15p6 std fs i
      simp only [s_nat, s_nthA, Int.toNat_natCast, hg, e2, show (AV.toIs (AV.cellAt fs[i] 3)) = dtF fs[i] from rfl] at hw
      exact go hC BOl_ok hw (by simp [hlt]; omega) (ih (i + 1) (by omega) (by omega))
    · rw [decide_eq_false h, Bool.false_and]
      have hw := f15p5 std fs i
      simp only [s_nat, s_nthA, Int.toNat_natCast, hg, show (AV.toIs (AV.cellAt fs[i] 3)) = dtF fs[i] from rfl] at hw
      exact fin hC BOl_ok hw (by simp [hlt]; omega) rfl rfl
theorem few15 (fs : List AV) : Pure Try.prog 15 [.list (.big shFr fs)] (.bool (fewF fs)) none :=
  start (f15e_at fs) fun C hC => by
    unfold fewF
    by_cases h1 : 24 < fs.length
    · by_cases h2 : fs.length ≤ 40
      · exact fin hC BOl_ok (f15p0 std fs) (by simp; omega) (by rw [decide_eq_false (by omega)]; rfl) rfl
      · by_cases h3 : 42 < fs.length
        · exact fin hC BOl_ok (f15p1 std fs) (by simp; omega) (by rw [decide_eq_false (by omega)]; rfl) rfl
        · rw [decide_eq_true (by omega), Bool.true_and]
          refine go hC BOl_ok (f15p2 std fs) (by simp; omega) ?_
          have := few_loop hC fs (by omega) fs.length 0 (by omega) (by omega)
          simpa using this
    · rw [decide_eq_true (by omega), Bool.true_and]
      refine go hC BOl_ok (f15p4 std fs) (by simp; omega) ?_
      have := few_loop hC fs (by omega) fs.length 0 (by omega) (by omega)
      simpa using this
theorem small_of {fs : List AV} (h : smallF fs = true) : fs.length ≤ 1000000 ∧ ∀ f ∈ fs, (dtF f).length ≤ 1000000 := by
  unfold smallF at h
  simpa using h
theorem few_small {fs : List AV} (h : fewF fs = true) : smallF fs = true := by
  unfold fewF at h
  simp only [Bool.and_eq_true, decide_eq_true_eq, List.all_eq_true] at h
  unfold smallF
  simp only [Bool.and_eq_true, decide_eq_true_eq, List.all_eq_true]
  exact ⟨by omega, fun f hf => by have := h.2 f hf; omega⟩
theorem cp17_loop {C : Ctx} (hC : C.P = Try.prog) (fs : List AV) (hl : fs.length ≤ 1000000) (hk : ∀ f ∈ fs, (dtF f).length ≤ 1000000) : ∀ (d i : Nat), fs.length - i = d → i ≤ fs.length →
    Ev C (f17h17_0b fs i ((fs.take i).map valF)) (f17h17_0bm fs i ((fs.take i).map valF)) (FinQ 17 (.row 0 0) (some ⟨74, 4, .big shFr (fs.map valF)⟩)) := by
  intro d
  induction d with
  | zero =>
    intro i hd hi
    rw [List.take_of_length_le (by omega)]
    exact fin hC BOl_ok (f17p4 std fs i _) (by simp; omega) rfl rfl
  | succ d ih =>
    intro i hd hi
    have hlt : i < fs.length := by omega
    have hg : fs.getD i .top = fs[i] := by simp [hlt]
    have e2 : std.add (i : Int) 1 = ((i + 1 : Nat) : Int) := by simp
    have hb := hk fs[i] (by simp)
    have ih' := ih (i + 1) (by omega) (by omega)
    rw [List.take_succ_eq_append_getElem hlt, List.map_append, List.map_singleton] at ih'
    have hlen2 : ((fs.take i).map valF).length = i := by simp; omega
    have hw := f17p3 std fs i ((fs.take i).map valF)
    generalize (fs.take i).map valF = X at *
    simp only [s_nat, s_nthA, Int.toNat_natCast, hg, e2, s_appA] at hw
    rw [show (AV.agg (Row.gen [AV.int .i64 (AV.toI (AV.cellAt fs[i] 0)), AV.int .i64 (AV.toI (AV.cellAt fs[i] 1)), AV.int .i64 (AV.toI (AV.cellAt fs[i] 2)), AV.list (.ints .i64 (AV.toIs (AV.cellAt fs[i] 3)))])) = valF fs[i] from rfl] at hw
    refine go hC BOl_ok hw ?_ ih'
    have hb' : (AV.toIs (AV.cellAt fs[i] 3)).length ≤ 1000000 := hb
    simp [hlt, hlen2, AV.bx, flatLen, Row.len, valF]
    omega
theorem copy17 (fs : List AV) (h : smallF fs = true) : Pure Try.prog 17 [.list (.big shFr fs)] (.list (.big shFr fs)) none := by
  obtain ⟨hl, hk⟩ := small_of h
  cases fs with
  | nil => exact frz2_nil (start (f17e_at []) fun C hC => go hC BOl_ok (f17p0 std []) (by simp) (fin hC BOl_ok (f17p2 std []) (by simp) rfl rfl)) rfl
  | cons f gs =>
    have key := frz2_row (e := 74) (sz := 3) (f := 17) (args := [.list (.big shFr (f :: gs))]) (r := .big shFr ((f :: gs).map valF))
      (start (f17e_at (f :: gs)) fun C hC => by
        refine go hC BOl_ok (f17p0 std (f :: gs)) (by simp) ?_
        have hb : (AV.toIs (AV.cellAt f 3)).length ≤ 1000000 := hk f (by simp)
        have hw := f17p1 std (f :: gs)
        have e1 : (f :: gs).getD (Int.toNat 0) .top = f := rfl
        simp only [s_nat, s_nthA, e1] at hw
        refine go hC BOl_ok hw ?_ ?_
        · simp [AV.bx, flatLen, Row.len]; omega
        · have := cp17_loop hC (f :: gs) hl hk gs.length 1 (by simp) (by simp)
          simpa [valF] using this) rfl
    exact pure_same key (by simp [Row.elems, valF, Sh.view, viewL, Sh.view1, AV.cellAt, AV.toI, AV.toIs])
def k15 : Ctr := ⟨15, 0, fun _ a => match a with | [.list (.big (.agg [.int .i64, .int .i64, .int .i64, .ints .i64]) fs)] => some (true, .bool (fewF fs), none) | _ => none⟩
theorem k15_ok : k15.OK Try.prog := fun pa args r fr h => by
  simp only [k15] at h
  split at h
  · cases h
    exact few15 _
  · cases h
def k17 : Ctr := ⟨17, 0, fun _ a => match a with | [.list (.big (.agg [.int .i64, .int .i64, .int .i64, .ints .i64]) fs)] => some (decide (smallF fs = true), .list (.big shFr fs), none) | _ => none⟩
theorem k17_ok : k17.OK Try.prog := fun pa args r fr h => by
  simp only [k17] at h
  split at h
  · simp only [Option.some.injEq, Prod.mk.injEq, decide_eq_true_eq] at h
    obtain ⟨h0, rfl, rfl⟩ := h
    exact copy17 _ h0
  · cases h
def BOm : List Ctr := [k15, k17] ++ BOl
theorem BOm_ok : CtrsOK Try.prog BOm := ⟨k15_ok, ⟨k17_ok, BOl_ok⟩⟩
end Go.Proofs.Ytjhdnpmojhkbjaa
/- Paths of functions, printed by the explorer (Gx). No condition. -/
namespace Go.Proofs.Ytjhdnpmojhkbjaa
set_option maxRecDepth 100000
set_option linter.unusedVariables false
def f29h29_0a (ps : List AV) (n0 : Int) : List AFrame := [{ fn := 29, N := 20, env := [(0, AV.list (Row.big (Sh.agg [Sh.int .i64, Sh.int .i64, Sh.ints .i64]) ps)), (3, AV.int .i64 n0)], todo := .code (ACode.gh [] l29_0) :: k29_0, defs := [], rnd := none, ret := false, res := [ARes.tmp 2] }]
def f29h29_0am (ps : List AV) (n0 : Int) : AHeap := []
theorem f29p2 (A : Ar) (ps : List AV) (n0 : Int) : gfin A tab B5 30 [true, true] 29 (f29h29_0a ps n0) (f29h29_0am ps n0) =
  some ([A.and true (A.and true true), true, A.lt 42 (A.int (A.len ((A.nthA ps (A.nat n0)).cellAt 2).toIs)), true, true, A.ltN 2 3, true, A.and (A.and (A.le 0 n0) (A.ltN (A.nat n0) (A.lenA ps))) (A.eqN 3 3), true, true, A.lt n0 (A.int (A.lenA ps)), true, true, true, true],
   AV.bool false, none) := by kernel_rfl
theorem f29p3 (A : Ar) (ps : List AV) (n0 : Int) : gwalkL A tab B5 34 [true, false] (f29h29_0a ps n0) (f29h29_0am ps n0) =
  some ([true, A.inR .i64 (A.add n0 1), true, !A.lt 42 (A.int (A.len ((A.nthA ps (A.nat n0)).cellAt 2).toIs)), true, true, A.ltN 2 3, true, A.and (A.and (A.le 0 n0) (A.ltN (A.nat n0) (A.lenA ps))) (A.eqN 3 3), true, true, A.lt n0 (A.int (A.lenA ps)), true, true, true, true],
   f29h29_0a (ps) (A.add n0 1), f29h29_0am (ps) (A.add n0 1)) := by kernel_rfl
theorem f29p4 (A : Ar) (ps : List AV) (n0 : Int) : gfin A tab B5 16 [false] 29 (f29h29_0a ps n0) (f29h29_0am ps n0) =
  some ([A.and true (A.and true true), true, !A.lt n0 (A.int (A.lenA ps)), true, true, true, true],
   AV.bool true, none) := by kernel_rfl
def f38e (fs : List AV) (gs : List AV) : List AFrame := [{ fn := 38, N := 27, env := [(0, AV.list (Row.big (Sh.agg [Sh.int .i64, Sh.int .i64, Sh.int .i64, Sh.ints .i64]) fs)), (1, AV.list (Row.big (Sh.agg [Sh.int .i64, Sh.int .i64, Sh.int .i64, Sh.ints .i64]) gs))], todo := [.code a38.code], defs := [], rnd := none, ret := false, res := [ARes.tmp 4] }]
theorem f38e_at (fs : List AV) (gs : List AV) : enterA tab 38 [AV.list (Row.big (Sh.agg [Sh.int .i64, Sh.int .i64, Sh.int .i64, Sh.ints .i64]) fs), AV.list (Row.big (Sh.agg [Sh.int .i64, Sh.int .i64, Sh.int .i64, Sh.ints .i64]) gs)] = some { fn := 38, N := 27, env := [(0, AV.list (Row.big (Sh.agg [Sh.int .i64, Sh.int .i64, Sh.int .i64, Sh.ints .i64]) fs)), (1, AV.list (Row.big (Sh.agg [Sh.int .i64, Sh.int .i64, Sh.int .i64, Sh.ints .i64]) gs))], todo := [.code a38.code], defs := [], rnd := none, ret := false, res := [ARes.tmp 4] } := rfl
def f38h38_0a (fs : List AV) (gs : List AV) (n0 : Int) : List AFrame := [{ fn := 38, N := 27, env := [(0, AV.list (Row.big (Sh.agg [Sh.int .i64, Sh.int .i64, Sh.int .i64, Sh.ints .i64]) fs)), (1, AV.list (Row.big (Sh.agg [Sh.int .i64, Sh.int .i64, Sh.int .i64, Sh.ints .i64]) gs)), (5, AV.int .i64 n0)], todo := .code (ACode.gh [] l38_0) :: k38_0, defs := [], rnd := none, ret := false, res := [ARes.tmp 4] }]
def f38h38_0am (fs : List AV) (gs : List AV) (n0 : Int) : AHeap := []
theorem f38p0 (A : Ar) (fs : List AV) (gs : List AV) : gfin A tab B5 19 [true] 38 (f38e fs gs) [] =
  some ([A.and true (A.and true true), true, A.not (A.eq (A.int (A.lenA fs)) (A.int (A.lenA gs))), true, true, true, true, true, true],
   AV.bool false, none) := by kernel_rfl
theorem f38p1 (A : Ar) (fs : List AV) (gs : List AV) : gwalkL A tab B5 23 [false] (f38e fs gs) [] =
  some ([true, !A.not (A.eq (A.int (A.lenA fs)) (A.int (A.lenA gs))), true, true, true, true, true, true],
   f38h38_0a (fs) (gs) (0), f38h38_0am (fs) (gs) (0)) := by kernel_rfl
theorem f38p2 (A : Ar) (fs : List AV) (gs : List AV) (n0 : Int) : gfin A tab B5 22 [true, true] 38 (f38h38_0a fs gs n0) (f38h38_0am fs gs n0) =
  some ([A.and true (A.and true true), true, A.not (decide (AV.toI (AV.cellAt (A.nthA fs (A.nat n0)) 0) = AV.toI (AV.cellAt (A.nthA gs (A.nat n0)) 0) ∧ AV.toI (AV.cellAt (A.nthA fs (A.nat n0)) 1) = AV.toI (AV.cellAt (A.nthA gs (A.nat n0)) 1) ∧ AV.toI (AV.cellAt (A.nthA fs (A.nat n0)) 2) = AV.toI (AV.cellAt (A.nthA gs (A.nat n0)) 2) ∧ AV.toIs (AV.cellAt (A.nthA fs (A.nat n0)) 3) = AV.toIs (AV.cellAt (A.nthA gs (A.nat n0)) 3))), true, A.and true (decide (List.length ((A.nthA fs (A.nat n0)).cellAt 3).toIs ≤ 1000000)), A.leN (A.addN 0 4) 4, A.and (A.and (A.le 0 n0) (A.ltN (A.nat n0) (A.lenA gs))) (A.eqN 4 4), true, true, A.leN (A.addN 0 4) 4, A.and (A.and (A.le 0 n0) (A.ltN (A.nat n0) (A.lenA fs))) (A.eqN 4 4), true, true, A.lt n0 (A.int (A.lenA fs)), true, true, true, true],
   AV.bool false, none) := by kernel_rfl
theorem f38p3 (A : Ar) (fs : List AV) (gs : List AV) (n0 : Int) : gwalkL A tab B5 26 [true, false] (f38h38_0a fs gs n0) (f38h38_0am fs gs n0) =
  some ([true, A.inR .i64 (A.add n0 1), true, !A.not (decide (AV.toI (AV.cellAt (A.nthA fs (A.nat n0)) 0) = AV.toI (AV.cellAt (A.nthA gs (A.nat n0)) 0) ∧ AV.toI (AV.cellAt (A.nthA fs (A.nat n0)) 1) = AV.toI (AV.cellAt (A.nthA gs (A.nat n0)) 1) ∧ AV.toI (AV.cellAt (A.nthA fs (A.nat n0)) 2) = AV.toI (AV.cellAt (A.nthA gs (A.nat n0)) 2) ∧ AV.toIs (AV.cellAt (A.nthA fs (A.nat n0)) 3) = AV.toIs (AV.cellAt (A.nthA gs (A.nat n0)) 3))), true, A.and true (decide (List.length ((A.nthA fs (A.nat n0)).cellAt 3).toIs ≤ 1000000)), A.leN (A.addN 0 4) 4, A.and (A.and (A.le 0 n0) (A.ltN (A.nat n0) (A.lenA gs))) (A.eqN 4 4), true, true, A.leN (A.addN 0 4) 4, A.and (A.and (A.le 0 n0) (A.ltN (A.nat n0) (A.lenA fs))) (A.eqN 4 4), true, true, A.lt n0 (A.int (A.lenA fs)), true, true, true, true],
   f38h38_0a (fs) (gs) (A.add n0 1), f38h38_0am (fs) (gs) (A.add n0 1)) := by kernel_rfl
theorem f38p4 (A : Ar) (fs : List AV) (gs : List AV) (n0 : Int) : gfin A tab B5 16 [false] 38 (f38h38_0a fs gs n0) (f38h38_0am fs gs n0) =
  some ([A.and true (A.and true true), true, !A.lt n0 (A.int (A.lenA fs)), true, true, true, true],
   AV.bool true, none) := by kernel_rfl
end Go.Proofs.Ytjhdnpmojhkbjaa
/- Contracts as a list. No condition. -/
namespace Go.Proofs.Ytjhdnpmojhkbjaa
def kD (p : AV) : List Int := (p.cellAt 2).toIs
def fewK : List AV → Bool
  | [] => true
  | p :: ps => decide ((kD p).length ≤ 42) && fewK ps
theorem l29 {C : Ctx} (hC : C.P = Try.prog) (ps : List AV) (hlen : ps.length ≤ 1000000) : ∀ (d i : Nat), ps.length - i = d → i ≤ ps.length →
    Ev C (f29h29_0a ps i) (f29h29_0am ps i) (FinQ 29 (.bool (fewK (ps.drop i))) none) := by
  intro d
  induction d with
  | zero =>
    intro i hd hi
    exact fin hC B5_ok (f29p4 std ps i) (by simp; omega) (by rw [List.drop_of_length_le (by omega)]; rfl) rfl
  | succ d ih =>
    intro i hd hi
    have hlt : i < ps.length := by omega
    have e1 : std.nthA ps (std.nat (i : Int)) = ps[i] := by simp [hlt]
    have g1 : (ps[i].cellAt 2).toIs = kD ps[i] := rfl
    rw [List.drop_eq_getElem_cons hlt, fewK]
    by_cases h : (kD ps[i]).length ≤ 42
    · rw [decide_eq_true h, Bool.true_and]
      exact go hC B5_ok (f29p3 std ps i) (by simp only [e1, g1]; simp [hlt]; omega) (ih (i + 1) (by omega) (by omega))
    · rw [decide_eq_false h, Bool.false_and]
      exact fin hC B5_ok (f29p2 std ps i) (by simp only [e1, g1]; simp [hlt]; omega) rfl rfl
def frV (f : AV) : Int × Int × Int × List Int := ((f.cellAt 0).toI, (f.cellAt 1).toI, (f.cellAt 2).toI, (f.cellAt 3).toIs)
def lenG (fs : List AV) : Bool := decide (fs.length ≤ 1000000) && fs.all fun f => decide ((frV f).2.2.2.length ≤ 1000000)
theorem l38 {C : Ctx} (hC : C.P = Try.prog) (xs ys : List AV) (hl : xs.length = ys.length) (hlen : xs.length ≤ 1000000) (hk : ∀ f ∈ xs, (frV f).2.2.2.length ≤ 1000000) : ∀ (d i : Nat), xs.length - i = d → i ≤ xs.length → (xs.take i).map frV = (ys.take i).map frV →
    Ev C (f38h38_0a xs ys i) (f38h38_0am xs ys i) (FinQ 38 (.bool (decide (xs.map frV = ys.map frV))) none) := by
  intro d
  induction d with
  | zero =>
    intro i hd hi ht
    have hi : i = xs.length := by omega
    have he : xs.map frV = ys.map frV := by rw [hi] at ht; rw [List.take_length, hl, List.take_length] at ht; exact ht
    exact fin hC B5_ok (f38p4 std xs ys i) (by simp; omega) (by simp [he]) rfl
  | succ d ih =>
    intro i hd hi ht
    have hlt : i < xs.length := by omega
    have hlt2 : i < ys.length := by omega
    have e1 : std.nthA xs (std.nat (i : Int)) = xs[i] := by simp [hlt]
    have e2 : std.nthA ys (std.nat (i : Int)) = ys[i] := by simp [hlt2]
    have hb : (xs[i].cellAt 3).toIs.length ≤ 1000000 := hk xs[i] (by simp)
    by_cases h1 : frV xs[i] = frV ys[i]
    · have h2 := h1
      simp only [frV, Prod.mk.injEq] at h2
      refine go hC B5_ok (f38p3 std xs ys i) ?_ (ih (i + 1) (by omega) (by omega) (by
        rw [List.take_succ_eq_append_getElem hlt, List.take_succ_eq_append_getElem hlt2, List.map_append, List.map_append, ht, List.map_singleton, List.map_singleton, h1]))
      simp only [e1, e2, decide_eq_true h2, decide_eq_true hb]
      simp [hlt, hlt2]
      omega
    · have h2 : ¬ ((xs[i].cellAt 0).toI = (ys[i].cellAt 0).toI ∧ (xs[i].cellAt 1).toI = (ys[i].cellAt 1).toI ∧ (xs[i].cellAt 2).toI = (ys[i].cellAt 2).toI ∧ (xs[i].cellAt 3).toIs = (ys[i].cellAt 3).toIs) := fun h => h1 (by simp only [frV, Prod.mk.injEq]; exact h)
      refine fin hC B5_ok (f38p2 std xs ys i) ?_ ?_ rfl
      · simp only [e1, e2, decide_eq_false h2, decide_eq_true hb]
        simp [hlt, hlt2]
      · have : xs.map frV ≠ ys.map frV := fun e => h1 (by
          have := congrArg (fun l => l[i]?) e
          simpa [hlt, hlt2] using this)
        simp [this]
theorem same38_ok (xs ys : List AV) (h : lenG xs = true) : Pure Try.prog 38 [.list (.big (.agg [.int .i64, .int .i64, .int .i64, .ints .i64]) xs), .list (.big (.agg [.int .i64, .int .i64, .int .i64, .ints .i64]) ys)] (.bool (decide (xs.map frV = ys.map frV))) none :=
  start (f38e_at xs ys) fun C hC => by
    rw [lenG, Bool.and_eq_true, decide_eq_true_eq, List.all_eq_true] at h
    by_cases hl : xs.length = ys.length
    · exact go hC B5_ok (f38p1 std xs ys) (by simp; omega) (l38 hC xs ys hl h.1 (fun f hf => of_decide_eq_true (h.2 f hf)) xs.length 0 (by omega) (by omega) rfl)
    · refine fin hC B5_ok (f38p0 std xs ys) (by simp; omega) ?_ rfl
      have : xs.map frV ≠ ys.map frV := fun e => hl (by have := congrArg List.length e; simpa using this)
      simp [this]
def k38 : Ctr := ⟨38, 0, fun _ a => match a with | [.list (.big (.agg [.int .i64, .int .i64, .int .i64, .ints .i64]) xs), .list (.big (.agg [.int .i64, .int .i64, .int .i64, .ints .i64]) ys)] => some (decide (lenG xs = true), .bool (decide (xs.map frV = ys.map frV)), none) | _ => none⟩
theorem k38_ok : k38.OK Try.prog := fun pa args r fr h => by
  simp only [k38] at h
  split at h
  · simp only [Option.some.injEq, Prod.mk.injEq, decide_eq_true_eq] at h
    obtain ⟨h0, rfl, rfl⟩ := h
    exact same38_ok _ _ h0
  · cases h
end Go.Proofs.Ytjhdnpmojhkbjaa
/- The contracts of frames that are compared, too. No condition. -/
namespace Go.Proofs.Ytjhdnpmojhkbjaa
def BOn : List Ctr := k38 :: BOm
theorem BOn_ok : CtrsOK Try.prog BOn := ⟨k38_ok, BOm_ok⟩
end Go.Proofs.Ytjhdnpmojhkbjaa
/- FrameOrders: the law returns true. No condition. -/
namespace Go.Proofs.Ytjhdnpmojhkbjaa
set_option maxRecDepth 20000
theorem rules_ok2 {a b : Int} (h : rulesE a b = 0) : rulesB a b = true ∧ (4 ≤ a ∧ a ≤ 24) ∧ 1 ≤ b ∧ b ≤ 8 := by
  unfold rulesE at h
  by_cases hb : rulesB a b = true
  · refine ⟨hb, ?_⟩
    unfold rulesB at hb
    simp at hb
    omega
  · rw [if_neg hb] at h; cases h
theorem chan_same2 {b c : Int} (h1 : 1 ≤ b) (h2 : b ≤ 8) : chanW b c = chanE b c := by
  have : wr (b - 1) = b - 1 := by unfold wr; unfold IntKind.wrap; simp [IntKind.bits]; omega
  rw [chanW, chanE, this]
theorem each_same {a b : Int} (h : rulesB a b = true) : ∀ fs : List AV, eachW a b fs = eachE a b fs
  | [] => rfl
  | f :: fs => by
    unfold eachW eachE
    have : frW a b f = frE a b f := by unfold frW frE; exact frameW_eq h _ _ _ _
    rw [this, each_same h fs]
theorem open_eq {a b c : Int} (fs : List AV) (h : rulesE a b = 0) : openE a b c fs = if chanE b c = 0 then refE a b fs else chanE b c := by
  obtain ⟨h1, h2, h3, h4⟩ := rules_ok2 h
  unfold openE refE
  rw [each_same h1, chan_same2 h3 h4, h]
  by_cases hc : chanE b c = 0
  · by_cases hl : 40 < fs.length
    · have : ¬ (fs.length : Int) ≤ 40 := by omega
      simp [firstE, hc, hl, this, unlessE]
    · have : (fs.length : Int) ≤ 40 := by omega
      simp [firstE, hc, hl, this]
      by_cases he : eachE a b fs = 0 <;> simp [he]
  · simp [firstE, hc]
theorem open_bad {a b c : Int} (fs : List AV) (h : rulesE a b ≠ 0) : openE a b c fs = rulesE a b := by
  unfold openE
  simp [firstE, h]
end Go.Proofs.Ytjhdnpmojhkbjaa
/- Paths of functions, printed by the explorer (Gx). No condition. -/
namespace Go.Proofs.Ytjhdnpmojhkbjaa
set_option maxRecDepth 100000
set_option linter.unusedVariables false
def f81e (a : Int) (b : Int) (a2 : Int) (b2 : Int) (ds : List Int) (es : List Int) : List AFrame := [{ fn := 81, N := 24, env := [(0, AV.agg (Row.gen [AV.int .i64 a, AV.int .i64 b, AV.list (.ints .i64 ds)])), (1, AV.agg (Row.gen [AV.int .i64 a2, AV.int .i64 b2, AV.list (.ints .i64 es)]))], todo := [.code a81.code], defs := [], rnd := none, ret := false, res := [ARes.tmp 4] }]
theorem f81e_at (a : Int) (b : Int) (a2 : Int) (b2 : Int) (ds : List Int) (es : List Int) : enterA tab 81 [AV.agg (Row.gen [AV.int .i64 a, AV.int .i64 b, AV.list (.ints .i64 ds)]), AV.agg (Row.gen [AV.int .i64 a2, AV.int .i64 b2, AV.list (.ints .i64 es)])] = some { fn := 81, N := 24, env := [(0, AV.agg (Row.gen [AV.int .i64 a, AV.int .i64 b, AV.list (.ints .i64 ds)])), (1, AV.agg (Row.gen [AV.int .i64 a2, AV.int .i64 b2, AV.list (.ints .i64 es)]))], todo := [.code a81.code], defs := [], rnd := none, ret := false, res := [ARes.tmp 4] } := rfl
theorem f81p0 (A : Ar) (a : Int) (b : Int) (a2 : Int) (b2 : Int) (ds : List Int) (es : List Int) : gfin A tab BOn 31 [true, true, true, true, true, true, true, true, true, true, true, true] 81 (f81e a b a2 b2 ds es) [] =
  some ([A.and true (A.and true true), true, true, true, A.and true (decide (List.length ds ≤ 1000000)), true, A.and (A.ltN 0 1) (A.ltN 2 3), true, true, true, A.and (A.ltN 0 1) (A.ltN 2 3), true, true, A.eq b b2, true, true, true, true, true, A.and (A.ltN 0 1) (A.ltN 1 3), true, true, true, A.and (A.ltN 0 1) (A.ltN 1 3), true, true, A.eq a a2, true, true, A.and (A.ltN 0 1) (A.ltN 0 3), true, A.and (A.ltN 0 1) (A.ltN 0 3), true, true, A.and true (A.ltN 0 3), A.and true (A.ltN 0 3)],
   AV.bool (decide (ds = es)), none) := by kernel_rfl
theorem f81p1 (A : Ar) (a : Int) (b : Int) (a2 : Int) (b2 : Int) (ds : List Int) (es : List Int) : gfin A tab BOn 31 [true, true, true, true, true, true, false, false, false, false, false, false] 81 (f81e a b a2 b2 ds es) [] =
  some ([A.and true (A.and true true), true, true, true, true, true, true, true, true, true, true, true, true, !A.eq b b2, true, true, true, true, true, A.and (A.ltN 0 1) (A.ltN 1 3), true, true, true, A.and (A.ltN 0 1) (A.ltN 1 3), true, true, A.eq a a2, true, true, A.and (A.ltN 0 1) (A.ltN 0 3), true, A.and (A.ltN 0 1) (A.ltN 0 3), true, true, A.and true (A.ltN 0 3), A.and true (A.ltN 0 3)],
   AV.bool false, none) := by kernel_rfl
theorem f81p2 (A : Ar) (a : Int) (b : Int) (a2 : Int) (b2 : Int) (ds : List Int) (es : List Int) : gfin A tab BOn 31 [false, false, false, false, false, false, false, false, false, false, false, false] 81 (f81e a b a2 b2 ds es) [] =
  some ([A.and true (A.and true true), true, true, true, true, true, true, true, true, true, true, true, true, true, true, true, true, true, true, true, true, true, true, true, true, true, !A.eq a a2, true, true, A.and (A.ltN 0 1) (A.ltN 0 3), true, A.and (A.ltN 0 1) (A.ltN 0 3), true, true, A.and true (A.ltN 0 3), A.and true (A.ltN 0 3)],
   AV.bool false, none) := by kernel_rfl
def f83e (xs : List Int) : List AFrame := [{ fn := 83, N := 16, env := [(0, AV.list (.ints .i64 xs))], todo := [.code a83.code], defs := [], rnd := none, ret := false, res := [ARes.tmp 2] }]
theorem f83e_at (xs : List Int) : enterA tab 83 [AV.list (.ints .i64 xs)] = some { fn := 83, N := 16, env := [(0, AV.list (.ints .i64 xs))], todo := [.code a83.code], defs := [], rnd := none, ret := false, res := [ARes.tmp 2] } := rfl
theorem f83p0 (A : Ar) (xs : List Int) : gfin A tab BOn 20 [true] 83 (f83e xs) [] =
  some ([A.and true (A.and true true), true, A.inR .i64 (A.sub 3 (A.int (A.len xs))), true, true, A.lt (A.int (A.len xs)) 3, true, true, true, true],
   AV.int .i64 (A.sub 3 (A.int (A.len xs))), none) := by kernel_rfl
theorem f83p1 (A : Ar) (xs : List Int) : gfin A tab BOn 26 [false] 83 (f83e xs) [] =
  some ([A.and true (A.and true true), true, A.inR .i64 (A.sub (A.add 3 (A.nth xs (A.nat 2))) (A.int (A.len xs))), true, true, A.inR .i64 (A.add 3 (A.nth xs (A.nat 2))), A.eqN 0 0, A.and (A.and (A.le 0 2) (A.ltN (A.nat 2) (A.len xs))) (A.eqN 1 1), true, !A.lt (A.int (A.len xs)) 3, true, true, true, true],
   AV.int .i64 (A.sub (A.add 3 (A.nth xs (A.nat 2))) (A.int (A.len xs))), none) := by kernel_rfl
end Go.Proofs.Ytjhdnpmojhkbjaa
/- Contracts as a list. No condition. -/
namespace Go.Proofs.Ytjhdnpmojhkbjaa
theorem gen_nil {w : World} {ok : Nat → Prop} {h : AHeap} {L : Lay} {r : Row} {v : Value} (hr : Rel w ok h L (.list (.gen [.nils, .list r])) v) : Rel w ok h L (.list (.gen [.list (.ints .i64 []), .list r])) v := by
  cases hr with
  | nil _ a c h0 => simp [Row.elems] at h0
  | list _ xs hx ad n cap sz cs hb hok hn hcap hsz hl h1 hc hp hrr =>
    simp only [Row.elems] at hx
    subst hx
    refine .list _ _ rfl ad n cap sz cs hb hok hn hcap ?_ hl h1 hc ?_ (fun j u v hu hv => ?_)
    · intro x hx
      simp only [Row.elems, List.mem_cons, List.not_mem_nil, or_false] at hx
      rcases hx with rfl | rfl
      · exact hsz .nils (by simp)
      · exact hsz (.list r) (by simp)
    · simpa [flatAll, AV.flat, AV.pureL, AV.pure, Row.elems] using hp
    · have hu' : ([AV.list (.ints .i64 []), AV.list r])[j]? = some u := by simpa [flatAll, AV.flat, Row.elems] using hu
      match j, hu' with
      | 0, hu' =>
        simp at hu'
        subst hu'
        have := hrr 0 .nils v (by simp [flatAll, AV.flat]) hv
        cases this
        exact .nil _ none 0 rfl
      | 1, hu' =>
        simp at hu'
        subst hu'
        exact hrr 1 _ v (by simp [flatAll, AV.flat]) hv
      | j + 2, hu' => simp at hu'
theorem concat_nil (b : List Int) (h : 0 < b.length ∧ b.length ≤ 1000000) : Pure Try.prog 113 [.list (.gen [.nils, .list (.ints .i64 b)])] (.list (.ints .i64 b)) newF := by
  intro w okA L vs hargs hok
  refine concat_ok [] b (by simpa using h) w okA L vs ⟨by have := hargs.1; simpa using this, fun j u v hu hv => ?_⟩ hok
  cases j with
  | zero =>
    simp at hu
    subst hu
    exact gen_nil (hargs.2 0 _ v rfl hv)
  | succ j => simp at hu
theorem concat_big (a b : List Int) (h : 0 < a.length + b.length ∧ a.length + b.length ≤ 1000000) : Pure Try.prog 113 [.list (.big (.ints .i64) [.list (.ints .i64 a), .list (.ints .i64 b)])] (.list (.ints .i64 (a ++ b))) newF :=
  pure_arg (xs := []) (ys := []) (concat_ok a b h) rfl
theorem same81 (a b a2 b2 : Int) (ds es : List Int) (h : ds.length ≤ 1000000) : Pure Try.prog 81 [.agg (.gen [.int .i64 a, .int .i64 b, .list (.ints .i64 ds)]), .agg (.gen [.int .i64 a2, .int .i64 b2, .list (.ints .i64 es)])] (.bool (decide (a = a2 ∧ b = b2 ∧ ds = es))) none :=
  start (f81e_at a b a2 b2 ds es) fun C hC => by
    by_cases h1 : a = a2
    · by_cases h2 : b = b2
      · exact fin hC BOn_ok (f81p0 std a b a2 b2 ds es) (by simp [h1, h2, h]) (by simp [h1, h2]) rfl
      · exact fin hC BOn_ok (f81p1 std a b a2 b2 ds es) (by simp [h1, h2]) (by simp [h1, h2]) rfl
    · exact fin hC BOn_ok (f81p2 std a b a2 b2 ds es) (by simp [h1]) (by simp [h1]) rfl
def needN (xs : List Int) : Int := if xs.length < 3 then 3 - (xs.length : Int) else 3 + xs.getD 2 0 - xs.length
def needB (xs : List Int) : Bool := decide (xs.length ≤ 1000000) && decide (-1000000 ≤ xs.getD 2 0 ∧ xs.getD 2 0 ≤ 1000000)
theorem need83 (xs : List Int) (h : needB xs = true) : Pure Try.prog 83 [.list (.ints .i64 xs)] (.int .i64 (needN xs)) none :=
  start (f83e_at xs) fun C hC => by
    unfold needB at h
    simp only [Bool.and_eq_true, decide_eq_true_eq] at h
    unfold needN
    by_cases h1 : xs.length < 3
    · rw [if_pos h1]
      exact fin hC BOn_ok (f83p0 std xs) (by simp; omega) rfl rfl
    · rw [if_neg h1]
      have hw := f83p1 std xs
      simp only [s_nat, s_nth, s_sub, s_int, s_len, s_add, show Int.toNat 2 = 2 from rfl] at hw
      generalize xs.getD 2 0 = u at *
      exact fin hC BOn_ok hw (by simp; omega) rfl rfl
def k81 : Ctr := ⟨81, 0, fun _ a => match a with | [.agg (.gen [.int .i64 a, .int .i64 b, .list (.ints .i64 ds)]), .agg (.gen [.int .i64 a2, .int .i64 b2, .list (.ints .i64 es)])] => some (decide (ds.length ≤ 1000000), .bool (decide (a = a2 ∧ b = b2 ∧ ds = es)), none) | _ => none⟩
theorem k81_ok : k81.OK Try.prog := fun pa args r fr h => by
  simp only [k81] at h
  split at h
  · simp only [Option.some.injEq, Prod.mk.injEq, decide_eq_true_eq] at h
    obtain ⟨h0, rfl, rfl⟩ := h
    exact same81 _ _ _ _ _ _ h0
  · cases h
def k83 : Ctr := ⟨83, 0, fun _ a => match a with | [.list (.ints .i64 xs)] => some (decide (needB xs = true), .int .i64 (needN xs), none) | _ => none⟩
theorem k83_ok : k83.OK Try.prog := fun pa args r fr h => by
  simp only [k83] at h
  split at h
  · simp only [Option.some.injEq, Prod.mk.injEq, decide_eq_true_eq] at h
    obtain ⟨h0, rfl, rfl⟩ := h
    exact need83 _ h0
  · cases h
def k113n : Ctr := ⟨113, 0, fun _ a => match a with | [.list (.gen [.nils, .list (.ints .i64 b)])] => some (decide (0 < b.length ∧ b.length ≤ 1000000), .list (.ints .i64 b), newF) | _ => none⟩
theorem k113n_ok : k113n.OK Try.prog := fun pa args r fr h => by
  simp only [k113n] at h
  split at h
  · simp only [Option.some.injEq, Prod.mk.injEq, decide_eq_true_eq] at h
    obtain ⟨h0, rfl, rfl⟩ := h
    exact concat_nil _ h0
  · cases h
def k113g : Ctr := ⟨113, 0, fun _ a => match a with | [.list (.big (.ints .i64) [.list (.ints .i64 a), .list (.ints .i64 b)])] => some (decide (0 < a.length + b.length ∧ a.length + b.length ≤ 1000000), .list (.ints .i64 (a ++ b)), newF) | _ => none⟩
theorem k113g_ok : k113g.OK Try.prog := fun pa args r fr h => by
  simp only [k113g] at h
  split at h
  · simp only [Option.some.injEq, Prod.mk.injEq, decide_eq_true_eq] at h
    obtain ⟨h0, rfl, rfl⟩ := h
    exact concat_big _ _ h0
  · cases h
def BOo : List Ctr := [k81, k83, k113n, k113g] ++ BOn
theorem BOo_ok : CtrsOK Try.prog BOo := ⟨k81_ok, ⟨k83_ok, ⟨k113n_ok, ⟨k113g_ok, BOn_ok⟩⟩⟩⟩
end Go.Proofs.Ytjhdnpmojhkbjaa
/- Paths of functions, printed by the explorer (Gx). No condition. -/
namespace Go.Proofs.Ytjhdnpmojhkbjaa
set_option maxRecDepth 100000
set_option linter.unusedVariables false
def f123e (o : Bool) (p : List Int) (ds : List Int) (c : Int) (n : Int) (f : Int) (q : AV) : List AFrame := [{ fn := 123, N := 37, env := [(0, AV.eptr (AV.agg (Row.gen [AV.bool o, AV.list (.ints .i64 p), q])) 0), (1, AV.agg (Row.gen [AV.int .i64 c, AV.int .i64 n, AV.int .i64 f, AV.list (.ints .i64 ds)]))], todo := [.code a123.code], defs := [], rnd := none, ret := false, res := [ARes.tmp 4] }]
theorem f123e_at (o : Bool) (p : List Int) (ds : List Int) (c : Int) (n : Int) (f : Int) (q : AV) : enterA tab 123 [AV.eptr (AV.agg (Row.gen [AV.bool o, AV.list (.ints .i64 p), q])) 0, AV.agg (Row.gen [AV.int .i64 c, AV.int .i64 n, AV.int .i64 f, AV.list (.ints .i64 ds)])] = some { fn := 123, N := 37, env := [(0, AV.eptr (AV.agg (Row.gen [AV.bool o, AV.list (.ints .i64 p), q])) 0), (1, AV.agg (Row.gen [AV.int .i64 c, AV.int .i64 n, AV.int .i64 f, AV.list (.ints .i64 ds)]))], todo := [.code a123.code], defs := [], rnd := none, ret := false, res := [ARes.tmp 4] } := rfl
theorem f123p0 (A : Ar) (o : Bool) (p : List Int) (ds : List Int) (c : Int) (n : Int) (f : Int) (q : AV) : gfin A tab BOo 21 [true] 123 (f123e o p ds c n f q) [] =
  some ([A.and true (A.and true true), true, A.eq (A.int (A.len p)) 0, true, true, A.ltN 1 3, true, true, true, true, A.and true (A.ltN 0 4)],
   AV.int .i64 0, none) := by kernel_rfl
theorem f123p1 (A : Ar) (o : Bool) (p : List Int) (ds : List Int) (c : Int) (n : Int) (f : Int) (q : AV) : gfin A tab BOo 39 [false, true] 123 (f123e o p ds c n f q) [] =
  some ([A.and true (A.and true true), true, true, A.lt (A.sub (A.add 3 (A.nth (List.append p ds) (A.nat 2))) (A.int (A.len p))) (A.int (A.len ds)), true, true, A.and (A.ltN 0 1) (A.ltN 3 4), true, true, true, A.inR .i64 (A.sub (A.add 3 (A.nth (List.append p ds) (A.nat 2))) (A.int (A.len p))), true, A.ltN 1 3, true, true, true, A.inR .i64 (A.add 3 (A.nth (List.append p ds) (A.nat 2))), A.eqN 0 0, A.and (A.and (A.le 0 2) (A.ltN (A.nat 2) (A.len (List.append p ds)))) (A.eqN 1 1), true, true, A.and (A.and true true) (decide (0 < List.length p + List.length ds ∧ List.length p + List.length ds ≤ 1000000)), List.all [AV.list (.ints .i64 p), AV.list (.ints .i64 ds)] fun x => AV.bx x && Nat.beq (flatLen A x) 1, A.and (A.ltN 0 1) (A.ltN 3 4), true, A.ltN 1 3, true, true, true, !A.eq (A.int (A.len p)) 0, true, true, A.ltN 1 3, true, true, true, true, A.and true (A.ltN 0 4)],
   AV.int .i64 (A.sub (A.add 3 (A.nth (List.append p ds) (A.nat 2))) (A.int (A.len p))), none) := by kernel_rfl
theorem f123p2 (A : Ar) (o : Bool) (p : List Int) (ds : List Int) (c : Int) (n : Int) (f : Int) (q : AV) : gfin A tab BOo 39 [false, false] 123 (f123e o p ds c n f q) [] =
  some ([A.and true (A.and true true), true, !A.lt (A.sub (A.add 3 (A.nth (List.append p ds) (A.nat 2))) (A.int (A.len p))) (A.int (A.len ds)), true, true, A.and (A.ltN 0 1) (A.ltN 3 4), true, true, true, A.inR .i64 (A.sub (A.add 3 (A.nth (List.append p ds) (A.nat 2))) (A.int (A.len p))), true, A.ltN 1 3, true, true, true, A.inR .i64 (A.add 3 (A.nth (List.append p ds) (A.nat 2))), A.eqN 0 0, A.and (A.and (A.le 0 2) (A.ltN (A.nat 2) (A.len (List.append p ds)))) (A.eqN 1 1), true, true, A.and (A.and true true) (decide (0 < List.length p + List.length ds ∧ List.length p + List.length ds ≤ 1000000)), List.all [AV.list (.ints .i64 p), AV.list (.ints .i64 ds)] fun x => AV.bx x && Nat.beq (flatLen A x) 1, A.and (A.ltN 0 1) (A.ltN 3 4), true, A.ltN 1 3, true, true, true, !A.eq (A.int (A.len p)) 0, true, true, A.ltN 1 3, true, true, true, true, A.and true (A.ltN 0 4)],
   AV.int .i64 255, none) := by kernel_rfl
def f82e (a : Int) (b : Int) (xs : List Int) (ds : List Int) : List AFrame := [{ fn := 82, N := 34, env := [(0, AV.agg (Row.gen [AV.int .i64 a, AV.int .i64 b])), (1, AV.list (.ints .i64 xs)), (2, AV.list (.ints .i64 ds))], todo := [.code a82.code], defs := [], rnd := none, ret := false, res := [ARes.tmp 6] }]
theorem f82e_at (a : Int) (b : Int) (xs : List Int) (ds : List Int) : enterA tab 82 [AV.agg (Row.gen [AV.int .i64 a, AV.int .i64 b]), AV.list (.ints .i64 xs), AV.list (.ints .i64 ds)] = some { fn := 82, N := 34, env := [(0, AV.agg (Row.gen [AV.int .i64 a, AV.int .i64 b])), (1, AV.list (.ints .i64 xs)), (2, AV.list (.ints .i64 ds))], todo := [.code a82.code], defs := [], rnd := none, ret := false, res := [ARes.tmp 6] } := rfl
theorem f82p0 (A : Ar) (a : Int) (b : Int) (xs : List Int) (ds : List Int) : gfin A tab BOo 18 [true] 82 (f82e a b xs ds) [] =
  some ([A.and true (A.and true true), true, A.eq (A.int (A.len xs)) 0, true, true, true, true, A.and true (A.ltN 0 2)],
   AV.int .i64 0, none) := by kernel_rfl
theorem f82p1 (A : Ar) (a : Int) (b : Int) (xs : List Int) (ds : List Int) : gfin A tab BOo 63 [false, true, true] 82 (f82e a b xs ds) [] =
  some ([A.and true (A.and true true), true, true, A.lt (A.add (A.sub 3 (A.int (A.len xs))) (A.nth ds (A.nat (A.sub (A.sub 3 (A.int (A.len xs))) 1)))) a, true, A.and (A.ltN 0 1) (A.ltN 0 2), true, true, true, A.inR .i64 (A.add (A.sub 3 (A.int (A.len xs))) (A.nth ds (A.nat (A.sub (A.sub 3 (A.int (A.len xs))) 1)))), true, A.inR .i64 (A.sub 3 (A.int (A.len xs))), true, true, true, A.eqN 0 0, A.and (A.and (A.le 0 (A.sub (A.sub 3 (A.int (A.len xs))) 1)) (A.ltN (A.nat (A.sub (A.sub 3 (A.int (A.len xs))) 1)) (A.len ds))) (A.eqN 1 1), A.inR .i64 (A.sub (A.sub 3 (A.int (A.len xs))) 1), A.inR .i64 (A.sub 3 (A.int (A.len xs))), true, true, true, A.lt (A.int (A.len xs)) 3, true, true, true, true, A.and true (decide (needB xs = true)), true, !A.eq (A.int (A.len xs)) 0, true, true, true, true, A.and true (A.ltN 0 2)],
   AV.int .i64 (A.add (A.sub 3 (A.int (A.len xs))) (A.nth ds (A.nat (A.sub (A.sub 3 (A.int (A.len xs))) 1)))), none) := by kernel_rfl
theorem f82p2 (A : Ar) (a : Int) (b : Int) (xs : List Int) (ds : List Int) : gfin A tab BOo 63 [false, true, false] 82 (f82e a b xs ds) [] =
  some ([A.and true (A.and true true), true, !A.lt (A.add (A.sub 3 (A.int (A.len xs))) (A.nth ds (A.nat (A.sub (A.sub 3 (A.int (A.len xs))) 1)))) a, true, A.and (A.ltN 0 1) (A.ltN 0 2), true, true, true, A.inR .i64 (A.add (A.sub 3 (A.int (A.len xs))) (A.nth ds (A.nat (A.sub (A.sub 3 (A.int (A.len xs))) 1)))), true, A.inR .i64 (A.sub 3 (A.int (A.len xs))), true, true, true, A.eqN 0 0, A.and (A.and (A.le 0 (A.sub (A.sub 3 (A.int (A.len xs))) 1)) (A.ltN (A.nat (A.sub (A.sub 3 (A.int (A.len xs))) 1)) (A.len ds))) (A.eqN 1 1), A.inR .i64 (A.sub (A.sub 3 (A.int (A.len xs))) 1), A.inR .i64 (A.sub 3 (A.int (A.len xs))), true, true, true, A.lt (A.int (A.len xs)) 3, true, true, true, true, A.and true (decide (needB xs = true)), true, !A.eq (A.int (A.len xs)) 0, true, true, true, true, A.and true (A.ltN 0 2)],
   AV.int .i64 255, none) := by kernel_rfl
theorem f82p3 (A : Ar) (a : Int) (b : Int) (xs : List Int) (ds : List Int) : gfin A tab BOo 44 [false, false, true] 82 (f82e a b xs ds) [] =
  some ([A.and true (A.and true true), true, true, A.lt (needN xs) a, true, A.and (A.ltN 0 1) (A.ltN 0 2), true, true, !A.lt (A.int (A.len xs)) 3, true, true, true, true, A.and true (decide (needB xs = true)), true, !A.eq (A.int (A.len xs)) 0, true, true, true, true, A.and true (A.ltN 0 2)],
   AV.int .i64 (needN xs), none) := by kernel_rfl
theorem f82p4 (A : Ar) (a : Int) (b : Int) (xs : List Int) (ds : List Int) : gfin A tab BOo 44 [false, false, false] 82 (f82e a b xs ds) [] =
  some ([A.and true (A.and true true), true, !A.lt (needN xs) a, true, A.and (A.ltN 0 1) (A.ltN 0 2), true, true, !A.lt (A.int (A.len xs)) 3, true, true, true, true, A.and true (decide (needB xs = true)), true, !A.eq (A.int (A.len xs)) 0, true, true, true, true, A.and true (A.ltN 0 2)],
   AV.int .i64 255, none) := by kernel_rfl
def f82ne (a : Int) (b : Int) (ds : List Int) : List AFrame := [{ fn := 82, N := 34, env := [(0, AV.agg (Row.gen [AV.int .i64 a, AV.int .i64 b])), (1, AV.nils), (2, AV.list (.ints .i64 ds))], todo := [.code a82.code], defs := [], rnd := none, ret := false, res := [ARes.tmp 6] }]
theorem f82ne_at (a : Int) (b : Int) (ds : List Int) : enterA tab 82 [AV.agg (Row.gen [AV.int .i64 a, AV.int .i64 b]), AV.nils, AV.list (.ints .i64 ds)] = some { fn := 82, N := 34, env := [(0, AV.agg (Row.gen [AV.int .i64 a, AV.int .i64 b])), (1, AV.nils), (2, AV.list (.ints .i64 ds))], todo := [.code a82.code], defs := [], rnd := none, ret := false, res := [ARes.tmp 6] } := rfl
theorem f82np0 (A : Ar) (a : Int) (b : Int) (ds : List Int) : gfin A tab BOo 18 [true] 82 (f82ne a b ds) [] =
  some ([A.and true (A.and true true), true, A.eq (A.int 0) 0, true, true, true, true, A.and true (A.ltN 0 2)],
   AV.int .i64 0, none) := by kernel_rfl
def f21e (ps : List AV) (qs : List AV) : List AFrame := [{ fn := 21, N := 27, env := [(0, AV.list (Row.big (Sh.agg [Sh.int .i64, Sh.int .i64, Sh.ints .i64]) ps)), (1, AV.list (Row.big (Sh.agg [Sh.int .i64, Sh.int .i64, Sh.ints .i64]) qs))], todo := [.code a21.code], defs := [], rnd := none, ret := false, res := [ARes.tmp 4] }]
theorem f21e_at (ps : List AV) (qs : List AV) : enterA tab 21 [AV.list (Row.big (Sh.agg [Sh.int .i64, Sh.int .i64, Sh.ints .i64]) ps), AV.list (Row.big (Sh.agg [Sh.int .i64, Sh.int .i64, Sh.ints .i64]) qs)] = some { fn := 21, N := 27, env := [(0, AV.list (Row.big (Sh.agg [Sh.int .i64, Sh.int .i64, Sh.ints .i64]) ps)), (1, AV.list (Row.big (Sh.agg [Sh.int .i64, Sh.int .i64, Sh.ints .i64]) qs))], todo := [.code a21.code], defs := [], rnd := none, ret := false, res := [ARes.tmp 4] } := rfl
def f21h21_0a (ps : List AV) (qs : List AV) (n0 : Int) : List AFrame := [{ fn := 21, N := 27, env := [(0, AV.list (Row.big (Sh.agg [Sh.int .i64, Sh.int .i64, Sh.ints .i64]) ps)), (1, AV.list (Row.big (Sh.agg [Sh.int .i64, Sh.int .i64, Sh.ints .i64]) qs)), (5, AV.int .i64 n0)], todo := .code (ACode.gh [] l21_0) :: k21_0, defs := [], rnd := none, ret := false, res := [ARes.tmp 4] }]
def f21h21_0am (ps : List AV) (qs : List AV) (n0 : Int) : AHeap := []
theorem f21p0 (A : Ar) (ps : List AV) (qs : List AV) : gfin A tab BOo 19 [true] 21 (f21e ps qs) [] =
  some ([A.and true (A.and true true), true, A.not (A.eq (A.int (A.lenA ps)) (A.int (A.lenA qs))), true, true, true, true, true, true],
   AV.bool false, none) := by kernel_rfl
theorem f21p1 (A : Ar) (ps : List AV) (qs : List AV) : gwalkL A tab BOo 23 [false] (f21e ps qs) [] =
  some ([true, !A.not (A.eq (A.int (A.lenA ps)) (A.int (A.lenA qs))), true, true, true, true, true, true],
   f21h21_0a (ps) (qs) (0), f21h21_0am (ps) (qs) (0)) := by kernel_rfl
theorem f21p2 (A : Ar) (ps : List AV) (qs : List AV) (n0 : Int) : gfin A tab BOo 22 [true, true] 21 (f21h21_0a ps qs n0) (f21h21_0am ps qs n0) =
  some ([A.and true (A.and true true), true, A.not (decide (AV.toI (AV.cellAt (A.nthA ps (A.nat n0)) 0) = AV.toI (AV.cellAt (A.nthA qs (A.nat n0)) 0) ∧ AV.toI (AV.cellAt (A.nthA ps (A.nat n0)) 1) = AV.toI (AV.cellAt (A.nthA qs (A.nat n0)) 1) ∧ AV.toIs (AV.cellAt (A.nthA ps (A.nat n0)) 2) = AV.toIs (AV.cellAt (A.nthA qs (A.nat n0)) 2))), true, A.and true (decide (List.length ((A.nthA ps (A.nat n0)).cellAt 2).toIs ≤ 1000000)), A.leN (A.addN 0 3) 3, A.and (A.and (A.le 0 n0) (A.ltN (A.nat n0) (A.lenA qs))) (A.eqN 3 3), true, true, A.leN (A.addN 0 3) 3, A.and (A.and (A.le 0 n0) (A.ltN (A.nat n0) (A.lenA ps))) (A.eqN 3 3), true, true, A.lt n0 (A.int (A.lenA ps)), true, true, true, true],
   AV.bool false, none) := by kernel_rfl
theorem f21p3 (A : Ar) (ps : List AV) (qs : List AV) (n0 : Int) : gwalkL A tab BOo 26 [true, false] (f21h21_0a ps qs n0) (f21h21_0am ps qs n0) =
  some ([true, A.inR .i64 (A.add n0 1), true, !A.not (decide (AV.toI (AV.cellAt (A.nthA ps (A.nat n0)) 0) = AV.toI (AV.cellAt (A.nthA qs (A.nat n0)) 0) ∧ AV.toI (AV.cellAt (A.nthA ps (A.nat n0)) 1) = AV.toI (AV.cellAt (A.nthA qs (A.nat n0)) 1) ∧ AV.toIs (AV.cellAt (A.nthA ps (A.nat n0)) 2) = AV.toIs (AV.cellAt (A.nthA qs (A.nat n0)) 2))), true, A.and true (decide (List.length ((A.nthA ps (A.nat n0)).cellAt 2).toIs ≤ 1000000)), A.leN (A.addN 0 3) 3, A.and (A.and (A.le 0 n0) (A.ltN (A.nat n0) (A.lenA qs))) (A.eqN 3 3), true, true, A.leN (A.addN 0 3) 3, A.and (A.and (A.le 0 n0) (A.ltN (A.nat n0) (A.lenA ps))) (A.eqN 3 3), true, true, A.lt n0 (A.int (A.lenA ps)), true, true, true, true],
   f21h21_0a (ps) (qs) (A.add n0 1), f21h21_0am (ps) (qs) (A.add n0 1)) := by kernel_rfl
theorem f21p4 (A : Ar) (ps : List AV) (qs : List AV) (n0 : Int) : gfin A tab BOo 16 [false] 21 (f21h21_0a ps qs n0) (f21h21_0am ps qs n0) =
  some ([A.and true (A.and true true), true, !A.lt n0 (A.int (A.lenA ps)), true, true, true, true],
   AV.bool true, none) := by kernel_rfl
end Go.Proofs.Ytjhdnpmojhkbjaa
/- Contracts as a list. No condition. -/
namespace Go.Proofs.Ytjhdnpmojhkbjaa
def expV (p ds : List Int) : Int := 3 + (p ++ ds).getD 2 0 - (p.length : Int)
def expI (a : Int) (p ds : List Int) : Int := if p.length = 0 then 0 else if expV p ds < a then expV p ds else 255
def expB (p ds : List Int) : Bool := decide (p.length ≤ 400000 ∧ ds.length ≤ 400000 ∧ 3 ≤ p.length + ds.length) && decide (-1000000 ≤ (p ++ ds).getD 2 0 ∧ (p ++ ds).getD 2 0 ≤ 1000000)
theorem exp123 (o : Bool) (p ds : List Int) (c n f : Int) (q : AV) (h : expB p ds = true) : Pure Try.prog 123 [.eptr (.agg (.gen [.bool o, .list (.ints .i64 p), q])) 0, .agg (.gen [.int .i64 c, .int .i64 n, .int .i64 f, .list (.ints .i64 ds)])] (.int .i64 (expI ds.length p ds)) none :=
  start (f123e_at o p ds c n f q) fun C hC => by
    unfold expB at h
    simp only [Bool.and_eq_true, decide_eq_true_eq] at h
    unfold expI
    by_cases h1 : p.length = 0
    · rw [if_pos h1]
      exact fin hC BOo_ok (f123p0 std o p ds c n f q) (by simp [h1]) rfl rfl
    · rw [if_neg h1]
      have hl : (p ++ ds).length = p.length + ds.length := List.length_append
      have hp : p ≠ [] := fun e => h1 (by rw [e]; rfl)
      have hv : expV p ds = 3 + (p ++ ds).getD 2 0 - (p.length : Int) := rfl
      by_cases h2 : expV p ds < ds.length
      · rw [if_pos h2]
        have hw := f123p1 std o p ds c n f q
        simp only [s_nat, s_nth, s_sub, s_int, s_len, s_add, show Int.toNat 2 = 2 from rfl, show List.append p ds = p ++ ds from rfl] at hw
        rw [← hv] at hw
        refine fin hC BOo_ok hw ?_ rfl rfl
        generalize (p ++ ds).getD 2 0 = u at *
        simp [h1, h2, hl, AV.bx, flatLen]
        omega
      · rw [if_neg h2]
        have hw := f123p2 std o p ds c n f q
        simp only [s_nat, s_nth, s_sub, s_int, s_len, s_add, show Int.toNat 2 = 2 from rfl, show List.append p ds = p ++ ds from rfl] at hw
        rw [← hv] at hw
        refine fin hC BOo_ok hw ?_ rfl rfl
        generalize (p ++ ds).getD 2 0 = u at *
        simp [h1, h2, hl, AV.bx, flatLen]
        omega
def exrB (a : Int) (p ds : List Int) : Bool := expB p ds && decide (-1000000 ≤ a ∧ a ≤ 1000000)
theorem exp82 (a b : Int) (p ds : List Int) (h : exrB a p ds = true) : Pure Try.prog 82 [.agg (.gen [.int .i64 a, .int .i64 b]), .list (.ints .i64 p), .list (.ints .i64 ds)] (.int .i64 (expI a p ds)) none :=
  start (f82e_at a b p ds) fun C hC => by
    unfold exrB expB at h
    simp only [Bool.and_eq_true, decide_eq_true_eq] at h
    unfold expI
    by_cases h1 : p.length = 0
    · rw [if_pos h1]
      exact fin hC BOo_ok (f82p0 std a b p ds) (by simp [h1]) rfl rfl
    · rw [if_neg h1]
      have hp : p ≠ [] := fun e => h1 (by rw [e]; rfl)
      have hv : expV p ds = 3 + (p ++ ds).getD 2 0 - (p.length : Int) := rfl
      by_cases h3 : p.length < 3
      · have e1 : (3 - (p.length : Int) - 1).toNat = 2 - p.length := by omega
        have e2 : (p ++ ds).getD 2 0 = ds.getD (2 - p.length) 0 := by
          rw [List.getD_eq_getElem?_getD, List.getElem?_append_right (by omega), List.getD_eq_getElem?_getD]
        have hnB : needB p = true := by
          unfold needB
          have : p.getD 2 0 = 0 := by rw [List.getD_eq_getElem?_getD, List.getElem?_eq_none (by omega)]; rfl
          rw [this]
          simp; omega
        have hv2 : 3 - (p.length : Int) + ds.getD (2 - p.length) 0 = expV p ds := by rw [hv, e2]; omega
        by_cases h2 : expV p ds < a
        · rw [if_pos h2]
          have hw := f82p1 std a b p ds
          simp only [s_nat, s_nth, s_sub, s_int, s_len, s_add, e1, hv2] at hw
          refine fin hC BOo_ok hw ?_ rfl rfl
          rw [e2] at h
          generalize ds.getD (2 - p.length) 0 = u at *
          simp [h1, h2, hnB]
          omega
        · rw [if_neg h2]
          have hw := f82p2 std a b p ds
          simp only [s_nat, s_nth, s_sub, s_int, s_len, s_add, e1, hv2] at hw
          refine fin hC BOo_ok hw ?_ rfl rfl
          rw [e2] at h
          generalize ds.getD (2 - p.length) 0 = u at *
          simp [h1, h2, hnB]
          omega
      · have e2 : (p ++ ds).getD 2 0 = p.getD 2 0 := by
          rw [List.getD_eq_getElem?_getD, List.getElem?_append_left (by omega), List.getD_eq_getElem?_getD]
        rw [e2] at h
        have hnB : needB p = true := by
          unfold needB
          simp only [Bool.and_eq_true, decide_eq_true_eq]
          exact ⟨by omega, h.1.2⟩
        have hn : needN p = expV p ds := by unfold needN; rw [if_neg h3, hv, e2]
        by_cases h2 : expV p ds < a
        · rw [if_pos h2]
          have hw := f82p3 std a b p ds
          rw [hn] at hw
          exact fin hC BOo_ok hw (by simp [h1, h2, hnB]; omega) rfl rfl
        · rw [if_neg h2]
          have hw := f82p4 std a b p ds
          rw [hn] at hw
          exact fin hC BOo_ok hw (by simp [h1, h2, hnB]; omega) rfl rfl
theorem exp82n (a b : Int) (ds : List Int) : Pure Try.prog 82 [.agg (.gen [.int .i64 a, .int .i64 b]), .nils, .list (.ints .i64 ds)] (.int .i64 0) none :=
  start (f82ne_at a b ds) fun C hC => fin hC BOo_ok (f82np0 std a b ds) (by simp) rfl rfl
def pkT (p : AV) : Int × Int × List Int := ((p.cellAt 0).toI, (p.cellAt 1).toI, (p.cellAt 2).toIs)
def lenP (ps : List AV) : Bool := decide (ps.length ≤ 1000000) && ps.all fun p => decide ((pkT p).2.2.length ≤ 1000000)
theorem l21 {C : Ctx} (hC : C.P = Try.prog) (xs ys : List AV) (hl : xs.length = ys.length) (hlen : xs.length ≤ 1000000) (hk : ∀ f ∈ xs, (pkT f).2.2.length ≤ 1000000) : ∀ (d i : Nat), xs.length - i = d → i ≤ xs.length → (xs.take i).map pkT = (ys.take i).map pkT →
    Ev C (f21h21_0a xs ys i) (f21h21_0am xs ys i) (FinQ 21 (.bool (decide (xs.map pkT = ys.map pkT))) none) := by
  intro d
  induction d with
  | zero =>
    intro i hd hi ht
    have hi : i = xs.length := by omega
    have he : xs.map pkT = ys.map pkT := by rw [hi] at ht; rw [List.take_length, hl, List.take_length] at ht; exact ht
    exact fin hC BOo_ok (f21p4 std xs ys i) (by simp; omega) (by simp [he]) rfl
  | succ d ih =>
    intro i hd hi ht
    have hlt : i < xs.length := by omega
    have hlt2 : i < ys.length := by omega
    have e1 : xs.getD i .top = xs[i] := by simp [hlt]
    have e2 : ys.getD i .top = ys[i] := by simp [hlt2]
    have hb : (xs[i].cellAt 2).toIs.length ≤ 1000000 := hk xs[i] (by simp)
    by_cases h1 : pkT xs[i] = pkT ys[i]
    · have h2 := h1
      simp only [pkT, Prod.mk.injEq] at h2
      have hw := f21p3 std xs ys i
      simp only [s_nat, s_nthA, Int.toNat_natCast, e1, e2, decide_eq_true h2, decide_eq_true hb] at hw
      refine go hC BOo_ok hw ?_ (ih (i + 1) (by omega) (by omega) (by
        rw [List.take_succ_eq_append_getElem hlt, List.take_succ_eq_append_getElem hlt2, List.map_append, List.map_append, ht, List.map_singleton, List.map_singleton, h1]))
      simp [hlt, hlt2]
      omega
    · have h2 : ¬ ((xs[i].cellAt 0).toI = (ys[i].cellAt 0).toI ∧ (xs[i].cellAt 1).toI = (ys[i].cellAt 1).toI ∧ (xs[i].cellAt 2).toIs = (ys[i].cellAt 2).toIs) := fun e => h1 (by simp only [pkT, e.1, e.2.1, e.2.2])
      have hw := f21p2 std xs ys i
      simp only [s_nat, s_nthA, Int.toNat_natCast, e1, e2, decide_eq_false h2, decide_eq_true hb] at hw
      refine fin hC BOo_ok hw ?_ ?_ rfl
      · simp [hlt, hlt2]
      · have : xs.map pkT ≠ ys.map pkT := fun e => h1 (by
          have := congrArg (fun l => l[i]?) e
          simpa [hlt, hlt2] using this)
        simp [this]
theorem same21 (xs ys : List AV) (h : lenP xs = true) : Pure Try.prog 21 [.list (.big (.agg [.int .i64, .int .i64, .ints .i64]) xs), .list (.big (.agg [.int .i64, .int .i64, .ints .i64]) ys)] (.bool (decide (xs.map pkT = ys.map pkT))) none :=
  start (f21e_at xs ys) fun C hC => by
    unfold lenP at h
    simp only [Bool.and_eq_true, decide_eq_true_eq, List.all_eq_true] at h
    by_cases hl : xs.length = ys.length
    · exact go hC BOo_ok (f21p1 std xs ys) (by simp [hl]) (l21 hC xs ys hl h.1 h.2 xs.length 0 (by omega) (by omega) rfl)
    · refine fin hC BOo_ok (f21p0 std xs ys) (by simp; omega) ?_ rfl
      have : xs.map pkT ≠ ys.map pkT := fun e => hl (by have := congrArg List.length e; simpa using this)
      simp [this]
def k123 : Ctr := ⟨123, 0, fun _ a => match a with | [.eptr (.agg (.gen [.bool _, .list (.ints .i64 p), _])) 0, .agg (.gen [.int .i64 _, .int .i64 _, .int .i64 _, .list (.ints .i64 ds)])] => some (decide (expB p ds = true), .int .i64 (expI ds.length p ds), none) | _ => none⟩
theorem k123_ok : k123.OK Try.prog := fun pa args r fr h => by
  simp only [k123] at h
  split at h
  · simp only [Option.some.injEq, Prod.mk.injEq, decide_eq_true_eq] at h
    obtain ⟨h0, rfl, rfl⟩ := h
    exact exp123 _ _ _ _ _ _ _ h0
  · cases h
def k82 : Ctr := ⟨82, 0, fun _ a => match a with | [.agg (.gen [.int .i64 a, .int .i64 _]), .list (.ints .i64 p), .list (.ints .i64 ds)] => some (decide (exrB a p ds = true), .int .i64 (expI a p ds), none) | _ => none⟩
theorem k82_ok : k82.OK Try.prog := fun pa args r fr h => by
  simp only [k82] at h
  split at h
  · simp only [Option.some.injEq, Prod.mk.injEq, decide_eq_true_eq] at h
    obtain ⟨h0, rfl, rfl⟩ := h
    exact exp82 _ _ _ _ h0
  · cases h
def k82n : Ctr := ⟨82, 0, fun _ a => match a with | [.agg (.gen [.int .i64 _, .int .i64 _]), .nils, .list (.ints .i64 _)] => some (true, .int .i64 0, none) | _ => none⟩
theorem k82n_ok : k82n.OK Try.prog := fun pa args r fr h => by
  simp only [k82n] at h
  split at h
  · cases h
    exact exp82n _ _ _
  · cases h
def k21 : Ctr := ⟨21, 0, fun _ a => match a with | [.list (.big (.agg [.int .i64, .int .i64, .ints .i64]) xs), .list (.big (.agg [.int .i64, .int .i64, .ints .i64]) ys)] => some (decide (lenP xs = true), .bool (decide (xs.map pkT = ys.map pkT)), none) | _ => none⟩
theorem k21_ok : k21.OK Try.prog := fun pa args r fr h => by
  simp only [k21] at h
  split at h
  · simp only [Option.some.injEq, Prod.mk.injEq, decide_eq_true_eq] at h
    obtain ⟨h0, rfl, rfl⟩ := h
    exact same21 _ _ h0
  · cases h
def BOp : List Ctr := [k123, k82, k82n, k21] ++ BOo
theorem BOp_ok : CtrsOK Try.prog BOp := ⟨k123_ok, ⟨k82_ok, ⟨k82n_ok, ⟨k21_ok, BOo_ok⟩⟩⟩⟩
end Go.Proofs.Ytjhdnpmojhkbjaa
/- Packets out of bytes: by whole packets, and byte by byte; frames one after the other. No condition. -/
namespace Go.Proofs.Ytjhdnpmojhkbjaa
def bytP (p : List Int) : Prop := ∀ b ∈ p, 0 ≤ b ∧ b ≤ 255
theorem bytP_get {p : List Int} (h : bytP p) (i : Nat) : 0 ≤ p.getD i 0 ∧ p.getD i 0 ≤ 255 := by
  by_cases hi : i < p.length
  · have : p.getD i 0 ∈ p := by rw [List.getD_eq_getElem?_getD, List.getElem?_eq_getElem hi]; exact List.getElem_mem _
    exact h _ this
  · rw [List.getD_eq_getElem?_getD, List.getElem?_eq_none (by omega)]; decide
theorem bytP.drop {p : List Int} (h : bytP p) (n : Nat) : bytP (p.drop n) := fun b hb => h b (List.mem_of_mem_drop hb)
theorem bytP.app {p q : List Int} (h : bytP p) (h2 : bytP q) : bytP (p ++ q) := fun b hb => by
  rcases List.mem_append.1 hb with hb | hb
  · exact h b hb
  · exact h2 b hb
def pkA (p : List Int) : AV := .agg (.gen [.int .i64 (p.getD 0 0), .int .i64 (p.getD 1 0), .list (.ints .i64 ((p.drop 3).take (p.getD 2 0).toNat))])
def eat (p : List Int) : List AV × List Int :=
  if h : 3 ≤ p.length ∧ 0 ≤ p.getD 2 0 ∧ 3 + p.getD 2 0 ≤ p.length then
    ((if p.getD 0 0 = 255 then [] else [pkA p]) ++ (eat (p.drop (3 + p.getD 2 0).toNat)).1, (eat (p.drop (3 + p.getD 2 0).toNat)).2)
  else ([], p)
termination_by p.length
decreasing_by all_goals (rw [List.length_drop]; omega)
theorem eat_less {p : List Int} (h : p.length < 3 ∨ (p.length : Int) < 3 + p.getD 2 0) : eat p = ([], p) := by
  rw [eat, dif_neg (by omega)]
theorem eat_more {p : List Int} (hb : bytP p) (h1 : 3 ≤ p.length) (h2 : 3 + p.getD 2 0 ≤ p.length) : eat p = ((if p.getD 0 0 = 255 then [] else [pkA p]) ++ (eat (p.drop (3 + p.getD 2 0).toNat)).1, (eat (p.drop (3 + p.getD 2 0).toNat)).2) := by
  rw [eat, dif_pos ⟨h1, (bytP_get hb 2).1, h2⟩]
theorem eat_rest : ∀ (n : Nat) (p : List Int), p.length ≤ n → bytP p → bytP (eat p).2 ∧ ((eat p).2.length < 3 ∨ ((eat p).2.length : Int) < 3 + (eat p).2.getD 2 0) ∧ (eat p).1.length ≤ p.length ∧ ∀ x ∈ (eat p).1, (pkT x).2.2.length ≤ 255 ∧ x = .agg (.gen [.int .i64 (pkT x).1, .int .i64 (pkT x).2.1, .list (.ints .i64 (pkT x).2.2)]) := by
  intro n
  induction n with
  | zero =>
    intro p hp hb
    rw [eat_less (by omega)]
    exact ⟨hb, by dsimp only; omega, by simp, by simp⟩
  | succ n ih =>
    intro p hp hb
    have hv := bytP_get hb 2
    by_cases h : 3 ≤ p.length ∧ 3 + p.getD 2 0 ≤ p.length
    · rw [eat_more hb h.1 h.2]
      obtain ⟨i1, i2, i3, i4⟩ := ih (p.drop (3 + p.getD 2 0).toNat) (by rw [List.length_drop]; omega) (hb.drop _)
      refine ⟨i1, i2, ?_, ?_⟩
      · rw [List.length_append]
        rw [List.length_drop] at i3
        split
        · rw [List.length_nil]; omega
        · rw [List.length_singleton]; omega
      · intro x hx
        rcases List.mem_append.1 hx with hx | hx
        · split at hx
          · simp at hx
          · rw [List.mem_singleton] at hx
            subst hx
            refine ⟨?_, rfl⟩
            show ((p.drop 3).take (p.getD 2 0).toNat).length ≤ 255
            rw [List.length_take]; omega
        · exact i4 x hx
    · rw [eat_less (by omega)]
      exact ⟨hb, by dsimp only; omega, by simp, by simp⟩
theorem eat_bound {p : List Int} (hb : bytP p) : (eat p).2.length ≤ 257 := by
  obtain ⟨h1, h2, _⟩ := eat_rest p.length p (Nat.le_refl _) hb
  have := bytP_get h1 2
  omega
def feedL : List Int → List Int → List AV × List Int
  | p, [] => ([], p)
  | p, b :: ds => if 0 < needN (p ++ [b]) then feedL (p ++ [b]) ds
    else ((if (p ++ [b]).getD 0 0 = 255 then [] else [.agg (.gen [.int .i64 ((p ++ [b]).getD 0 0), .int .i64 ((p ++ [b]).getD 1 0), .list (.ints .i64 ((p ++ [b]).drop 3))])]) ++ (feedL [] ds).1, (feedL [] ds).2)
theorem need_pos (p : List Int) : 0 < needN p ↔ (p.length < 3 ∨ (p.length : Int) < 3 + p.getD 2 0) := by
  unfold needN
  split
  · rename_i h
    exact ⟨fun _ => .inl h, fun _ => by omega⟩
  · rename_i h
    exact ⟨fun _ => .inr (by omega), fun _ => by omega⟩
theorem feed_eat : ∀ (ds p : List Int), bytP p → bytP ds → 0 < needN p → feedL p ds = eat (p ++ ds)
  | [], p, hp, _, h => by rw [List.append_nil, eat_less ((need_pos p).1 h)]; rfl
  | b :: ds, p, hp, hd, h => by
    have hb : 0 ≤ b ∧ b ≤ 255 := hd b (by simp)
    have hd2 : bytP ds := fun x hx => hd x (by simp [hx])
    have hr : bytP (p ++ [b]) := hp.app (fun x hx => by rw [List.mem_singleton] at hx; rw [hx]; exact hb)
    have e : p ++ b :: ds = (p ++ [b]) ++ ds := by simp
    unfold feedL
    by_cases h1 : 0 < needN (p ++ [b])
    · rw [if_pos h1, e]; exact feed_eat ds _ hr hd2 h1
    · rw [if_neg h1, feed_eat ds [] (fun x hx => by simp at hx) hd2 (by unfold needN; simp), List.nil_append]
      rw [need_pos] at h h1
      have hl : (p ++ [b]).length = p.length + 1 := by simp
      have hv := bytP_get hr 2
      have hlen : ((p ++ [b]).length : Int) = 3 + (p ++ [b]).getD 2 0 := by
        by_cases h3 : p.length < 3
        · have : p.length = 2 := by omega
          omega
        · have : (p ++ [b]).getD 2 0 = p.getD 2 0 := by
            rw [List.getD_eq_getElem?_getD, List.getElem?_append_left (by omega), List.getD_eq_getElem?_getD]
          omega
      have hg : ∀ i, i < 3 → ((p ++ [b]) ++ ds).getD i 0 = (p ++ [b]).getD i 0 := fun i hi => by
        rw [List.getD_eq_getElem?_getD, List.getElem?_append_left (by omega), List.getD_eq_getElem?_getD]
      have hdrop : ((p ++ [b]) ++ ds).drop (3 + (p ++ [b]).getD 2 0).toNat = ds := by
        rw [show (3 + (p ++ [b]).getD 2 0).toNat = (p ++ [b]).length by omega, List.drop_left]
      have htake : (((p ++ [b]) ++ ds).drop 3).take ((p ++ [b]).getD 2 0).toNat = (p ++ [b]).drop 3 := by
        rw [List.drop_append_of_le_length (by omega), List.take_append_of_le_length (by rw [List.length_drop]; omega)]
        exact List.take_of_length_le (by rw [List.length_drop]; omega)
      rw [e, eat_more (hr.app hd2) (by rw [List.length_append]; omega) (by rw [hg 2 (by omega), List.length_append]; omega)]
      unfold pkA
      rw [hg 0 (by omega), hg 1 (by omega), hg 2 (by omega), hdrop, htake]
def dsN (x : AV) : List Int := (AV.cellAt x 3).toIs
def fiN (x : AV) : Int := (AV.cellAt x 2).toI
def contN (st : Option (List Int)) (last : Int) (x : AV) : Option (List Int) := match st with
  | none => none
  | some p => if keyN x = last + 1 ∧ fiN x = expI (dsN x).length p (dsN x) then some p else none
def bytN (st : Option (List Int)) (last : Int) (x : AV) : Option (List Int) := match contN st last x with
  | some p => some (p ++ dsN x)
  | none => if fiN x = 255 then none else some ((dsN x).drop (fiN x).toNat)
def pksN (st : Option (List Int)) (last : Int) (x : AV) : List AV := match bytN st last x with | some p => (eat p).1 | none => []
def resN (st : Option (List Int)) (last : Int) (x : AV) : Option (List Int) := match bytN st last x with | some p => some (eat p).2 | none => none
def extN (st : Option (List Int)) (last : Int) : List AV → List AV
  | [] => []
  | x :: xs => pksN st last x ++ extN (resN st last x) (keyN x) xs
def okX (a : Int) (x : AV) : Prop := ((0 ≤ fiN x ∧ fiN x ≤ a - 1) ∨ fiN x = 255) ∧ ((dsN x).length : Int) = a ∧ bytP (dsN x)
def okS (st : Option (List Int)) : Prop := match st with | none => True | some p => bytP p ∧ p.length ≤ 257 ∧ (p.length < 3 ∨ (p.length : Int) < 3 + p.getD 2 0)
theorem bytN_ok {a : Int} {st : Option (List Int)} {last : Int} {x : AV} (hs : okS st) (hx : okX a x) (ha : 4 ≤ a ∧ a ≤ 24) {p : List Int} (hp : bytN st last x = some p) : bytP p ∧ p.length ≤ 290 ∧ 0 < p.length := by
  obtain ⟨h1, h2, h3⟩ := hx
  unfold bytN at hp
  split at hp
  · rename_i q hq
    cases hp
    have : st = some q := by
      unfold contN at hq
      split at hq
      · cases hq
      · split at hq
        · cases hq; rfl
        · cases hq
    rw [this] at hs
    obtain ⟨q1, q2, _⟩ := hs
    exact ⟨q1.app h3, by rw [List.length_append]; omega, by rw [List.length_append]; omega⟩
  · split at hp
    · cases hp
    · cases hp
      rename_i h4
      exact ⟨h3.drop _, by rw [List.length_drop]; omega, by rw [List.length_drop]; omega⟩
theorem resN_ok {a : Int} {st : Option (List Int)} {last : Int} {x : AV} (hs : okS st) (hx : okX a x) (ha : 4 ≤ a ∧ a ≤ 24) : okS (resN st last x) := by
  unfold resN
  split
  · rename_i p hp
    obtain ⟨h1, h2, h3⟩ := bytN_ok hs hx ha hp
    obtain ⟨i1, i2, _⟩ := eat_rest _ p (Nat.le_refl _) h1
    exact ⟨i1, eat_bound h1, i2⟩
  · trivial
theorem pksN_len {a : Int} {st : Option (List Int)} {last : Int} {x : AV} (hs : okS st) (hx : okX a x) (ha : 4 ≤ a ∧ a ≤ 24) : (pksN st last x).length ≤ 290 ∧ ∀ y ∈ pksN st last x, (pkT y).2.2.length ≤ 255 := by
  unfold pksN
  split
  · rename_i p hp
    obtain ⟨h1, h2, h3⟩ := bytN_ok hs hx ha hp
    obtain ⟨_, _, i3, i4⟩ := eat_rest _ p (Nat.le_refl _) h1
    exact ⟨by omega, fun y hy => (i4 y hy).1⟩
  · exact ⟨by simp, by simp⟩
end Go.Proofs.Ytjhdnpmojhkbjaa
