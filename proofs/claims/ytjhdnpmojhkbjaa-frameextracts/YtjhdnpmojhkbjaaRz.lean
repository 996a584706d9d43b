/- The ordered frames: the compacted stable sort is the reference's list. No condition. -/
import Derived.Test.YtjhdnpmojhkbjaaMj
import Derived.KernelRfl
namespace Go.Proofs.Ytjhdnpmojhkbjaa
def numF (f : AV) (k : Int) : AV := AV.agg (Row.gen [AV.int .i64 (AV.toI (AV.cellAt f 0)), AV.int .i64 (AV.toI (AV.cellAt f 1)), AV.int .i64 (AV.toI (AV.cellAt f 2)), AV.list (.ints .i64 (AV.toIs (AV.cellAt f 3))), AV.int .i64 k])
theorem key_num (f : AV) (k : Int) : keyN (numF f k) = k := rfl
theorem val_num (f : AV) (k : Int) : valF (numF f k) = valF f := rfl
def numR (c : Int) : List AV → Int → List AV
  | [], _ => []
  | f :: fs, last => if chF f = c then numF f (nearI last (ctF f)) :: numR c fs (nearI last (ctF f)) else numR c fs last
def numR0 (c : Int) : List AV → List AV
  | [] => []
  | f :: fs => if chF f = c then numF f (ctF f + 64) :: numR c fs (ctF f + 64) else numR0 c fs
def cpA (p : AV) : List AV → List AV
  | [] => []
  | y :: l => if keyN y = keyN p then cpA y l else y :: cpA y l
def cpN : List AV → List AV
  | [] => []
  | x :: l => x :: cpA x l
def StrN (l : List AV) : Prop := l.Pairwise fun x y => keyN x < keyN y
theorem StrN.sort {l : List AV} (h : StrN l) : SortN l := h.imp fun h => Int.le_of_lt h
theorem fkN_none {k : Int} {l : List AV} (h : ∀ x ∈ l, keyN x ≠ k) : fkN k l = [] := by
  unfold fkN
  rw [List.filter_eq_nil_iff]
  intro x hx
  simpa using h x hx
theorem cpA_ok : ∀ (l : List AV) (p : AV), SortN (p :: l) → StrN (p :: cpA p l) ∧ ∀ k, fkN k (cpA p l) = if k = keyN p then [] else (fkN k l).take 1
  | [], p, _ => ⟨by simp [cpA, StrN], fun k => by simp [cpA, fkN]⟩
  | y :: l, p, h => by
    obtain ⟨h1, h2⟩ := List.pairwise_cons.mp h
    obtain ⟨i1, i2⟩ := cpA_ok l y h2
    have hpy := h1 y (by simp)
    unfold cpA
    by_cases e : keyN y = keyN p
    · rw [if_pos e]
      obtain ⟨j1, j2⟩ := List.pairwise_cons.mp i1
      refine ⟨List.pairwise_cons.mpr ⟨fun z hz => by have := j1 z hz; omega, j2⟩, fun k => ?_⟩
      rw [i2 k, e, fkN_cons]
      by_cases hk : k = keyN p
      · rw [if_pos hk, if_pos hk]
      · rw [if_neg hk, if_neg hk, if_neg (by omega)]
    · rw [if_neg e]
      refine ⟨List.pairwise_cons.mpr ⟨fun z hz => ?_, i1⟩, fun k => ?_⟩
      · rcases List.mem_cons.mp hz with rfl | hz
        · omega
        · have := (List.pairwise_cons.mp i1).1 z hz; omega
      · rw [fkN_cons, fkN_cons, i2 k]
        by_cases hk : k = keyN p
        · rw [if_pos hk, if_neg (by omega)]
          have hn : fkN k (cpA y l) = [] := fkN_none fun z hz => by
            have := (List.pairwise_cons.mp i1).1 z hz; omega
          rw [← i2 k, hn]
        · rw [if_neg hk]
          by_cases hy : keyN y = k
          · rw [if_pos hy, if_pos hy, if_pos hy.symm]; simp
          · rw [if_neg hy, if_neg hy, if_neg (fun h => hy h.symm)]
theorem cpN_ok {l : List AV} (h : SortN l) : StrN (cpN l) ∧ ∀ k, fkN k (cpN l) = (fkN k l).take 1 := by
  cases l with
  | nil => exact ⟨List.Pairwise.nil, fun k => by simp [cpN, fkN]⟩
  | cons x l =>
    obtain ⟨i1, i2⟩ := cpA_ok l x h
    refine ⟨i1, fun k => ?_⟩
    show fkN k (x :: cpA x l) = _
    rw [fkN_cons, fkN_cons, i2 k]
    by_cases hk : keyN x = k
    · rw [if_pos hk, if_pos hk, if_pos hk.symm]; simp
    · rw [if_neg hk, if_neg hk, if_neg (fun h => hk h.symm)]
theorem ins_ok (x : AV) : ∀ (z : List AV), StrN z → (∀ y ∈ z, keyN y ≠ keyN x) →
    StrN (insAt (posN (keyN x) (z.map keyN)) x z) ∧ (∀ y ∈ insAt (posN (keyN x) (z.map keyN)) x z, y = x ∨ y ∈ z) ∧ ∀ k, fkN k (insAt (posN (keyN x) (z.map keyN)) x z) = fkN k (z ++ [x])
  | [], _, _ => ⟨by simp [insAt, StrN, posN], fun y hy => by simp [insAt, posN] at hy; exact .inl hy, fun k => by simp [insAt, posN]⟩
  | y :: z, h, hne => by
    obtain ⟨h1, h2⟩ := List.pairwise_cons.mp h
    obtain ⟨i1, i2, i3⟩ := ins_ok x z h2 fun w hw => hne w (by simp [hw])
    have hyx := hne y (by simp)
    rw [List.map_cons, posN]
    by_cases hlt : keyN y < keyN x
    · rw [if_pos hlt]
      have e : insAt (posN (keyN x) (z.map keyN) + 1) x (y :: z) = y :: insAt (posN (keyN x) (z.map keyN)) x z := by simp [insAt]
      rw [e]
      refine ⟨List.pairwise_cons.mpr ⟨fun w hw => ?_, i1⟩, fun w hw => ?_, fun k => ?_⟩
      · rcases i2 w hw with rfl | hw
        · exact hlt
        · exact h1 w hw
      · rcases List.mem_cons.mp hw with rfl | hw
        · exact .inr (by simp)
        · rcases i2 w hw with hw | hw
          · exact .inl hw
          · exact .inr (by simp [hw])
      · rw [fkN_cons, i3 k, List.cons_append, fkN_cons]
    · rw [if_neg hlt]
      have e : insAt 0 x (y :: z) = x :: y :: z := by simp [insAt]
      rw [e]
      refine ⟨List.pairwise_cons.mpr ⟨fun w hw => ?_, h⟩, fun w hw => ?_, fun k => ?_⟩
      · rcases List.mem_cons.mp hw with rfl | hw
        · omega
        · have := h1 w hw; omega
      · rcases List.mem_cons.mp hw with rfl | hw
        · exact .inl rfl
        · exact .inr hw
      · rw [fkN_cons, fkN_app]
        by_cases hk : keyN x = k
        · have hn : fkN k (y :: z) = [] := fkN_none fun w hw => by
            have := hne w hw; omega
          rw [if_pos hk, hn, fkN_cons, if_pos hk]; rfl
        · rw [if_neg hk, fkN_cons k x, if_neg hk]; simp [fkN]
theorem hasN_mem (z : List AV) (n : Int) : hasN (z.map keyN) n = true ↔ ∃ y ∈ z, keyN y = n := by
  unfold hasN
  simp
theorem refN_ok (c : Int) : ∀ (fs z : List AV) (last : Int), StrN z → ∃ z', refN c fs (z.map valF) (z.map keyN) last = (z'.map valF, z'.map keyN) ∧ StrN z' ∧ ∀ k, fkN k z' = (fkN k (z ++ numR c fs last)).take 1
  | [], z, last, h => by
    refine ⟨z, rfl, h, fun k => ?_⟩
    rw [numR, List.append_nil]
    have := (cpN_ok h.sort).2 k
    have e : cpN z = z := by
      refine stab_eq (cpN_ok h.sort).1.sort h.sort fun k => ?_
      rw [(cpN_ok h.sort).2 k]
      cases hf : fkN k z with
      | nil => rfl
      | cons a t =>
        cases ht : t with
        | nil => rfl
        | cons b u =>
          have hp : StrN (fkN k z) := h.filter _
          rw [hf, ht] at hp
          have h1 := (List.pairwise_cons.mp hp).1 b (by simp)
          have ha := (fkN_mem.mp (show a ∈ fkN k z by rw [hf]; simp)).2
          have hb := (fkN_mem.mp (show b ∈ fkN k z by rw [hf, ht]; simp)).2
          omega
    rw [e] at this
    exact this
  | f :: fs, z, last, h => by
    rw [refN, numR]
    by_cases hc : chF f = c
    · rw [if_pos hc, if_pos hc]
      by_cases hh : hasN (z.map keyN) (nearI last (ctF f)) = true
      · rw [if_pos hh]
        obtain ⟨z', e1, e2, e3⟩ := refN_ok c fs z (nearI last (ctF f)) h
        refine ⟨z', e1, e2, fun k => ?_⟩
        rw [e3 k, fkN_app, fkN_app, fkN_cons, key_num]
        by_cases hk : nearI last (ctF f) = k
        · rw [if_pos hk]
          obtain ⟨y, hy, hyk⟩ := (hasN_mem z _).mp hh
          have : y ∈ fkN k z := fkN_mem.mpr ⟨hy, by rw [hyk, hk]⟩
          cases hz : fkN k z with
          | nil => rw [hz] at this; cases this
          | cons a t => simp
        · rw [if_neg hk]
      · rw [if_neg hh]
        have hne : ∀ y ∈ z, keyN y ≠ keyN (numF f (nearI last (ctF f))) := fun y hy e => hh ((hasN_mem z _).mpr ⟨y, hy, e⟩)
        obtain ⟨i1, _, i3⟩ := ins_ok (numF f (nearI last (ctF f))) z h hne
        rw [key_num] at i1 i3
        obtain ⟨z', e1, e2, e3⟩ := refN_ok c fs _ (nearI last (ctF f)) i1
        refine ⟨z', ?_, e2, fun k => ?_⟩
        · rw [← e1]
          congr 1
          · simp [insAt, List.map_append, List.map_take, List.map_drop, val_num]
          · simp [insAt, List.map_append, List.map_take, List.map_drop, key_num]
        · rw [e3 k, fkN_app, i3 k, ← fkN_app]; simp
    · rw [if_neg hc, if_neg hc]
      exact refN_ok c fs z last h
theorem refN0_eq (c : Int) : ∀ fs : List AV, refN0 c fs = ((cpN (sortN (numR0 c fs))).map valF, (cpN (sortN (numR0 c fs))).map keyN)
  | [] => rfl
  | f :: fs => by
    rw [refN0, numR0]
    by_cases hc : chF f = c
    · rw [if_pos hc, if_pos hc]
      obtain ⟨z', e1, e2, e3⟩ := refN_ok c fs [numF f (ctF f + 64)] (ctF f + 64) (by simp [StrN])
      have e : z' = cpN (sortN (numF f (ctF f + 64) :: numR c fs (ctF f + 64))) := by
        have hs := (sortN_ok (numF f (ctF f + 64) :: numR c fs (ctF f + 64))).1
        refine stab_eq e2.sort (cpN_ok hs).1.sort fun k => ?_
        rw [e3 k, (cpN_ok hs).2 k, (sortN_ok _).2 k]; rfl
      rw [← e, ← e1]; rfl
    · rw [if_neg hc, if_neg hc]
      exact refN0_eq c fs
end Go.Proofs.Ytjhdnpmojhkbjaa
/- Paths of functions, printed by the explorer (Gx). No condition. -/
namespace Go.Proofs.Ytjhdnpmojhkbjaa
set_option maxRecDepth 100000
set_option linter.unusedVariables false
def g139e (a : Int) (b : Int) : List AFrame := [{ fn := 139, N := 53, env := [(0, AV.nils), (1, AV.int .i64 a), (2, AV.int .i64 b), (3, AV.fn 119 [])], todo := [.code a139.code], defs := [], rnd := none, ret := false, res := [] }]
theorem g139e_at (a : Int) (b : Int) : enterA tab 139 [AV.nils, AV.int .i64 a, AV.int .i64 b, AV.fn 119 []] = some { fn := 139, N := 53, env := [(0, AV.nils), (1, AV.int .i64 a), (2, AV.int .i64 b), (3, AV.fn 119 [])], todo := [.code a139.code], defs := [], rnd := none, ret := false, res := [] } := rfl
def g139h139_0a (a : Int) (b : Int) (n0 : Int) : List AFrame := [{ fn := 139, N := 53, env := [(0, AV.nils), (1, AV.int .i64 a), (2, AV.int .i64 b), (3, AV.fn 119 []), (8, AV.int .i64 n0)], todo := .code (ACode.gh [] l139_0) :: k139_0, defs := [], rnd := none, ret := false, res := [] }]
def g139h139_0am (a : Int) (b : Int) (n0 : Int) : AHeap := []
theorem g139p0 (A : Ar) (a : Int) (b : Int) : gwalkL A tab BOa 9 [] (g139e a b) [] =
  some ([true, A.inR .i64 (A.add a 1), true],
   g139h139_0a (a) (b) (A.add a 1), g139h139_0am (a) (b) (A.add a 1)) := by kernel_rfl
theorem g139p1 (A : Ar) (a : Int) (b : Int) (n0 : Int) : gfin A tab BOa 11 [false] 139 (g139h139_0a a b n0) (g139h139_0am a b n0) =
  some ([A.and true true, !A.lt n0 b, true, true, true],
   AV.tup [], none) := by kernel_rfl
def g121e : List AFrame := [{ fn := 121, N := 66, env := [(0, AV.nils), (1, AV.fn 122 [])], todo := [.code a121.code], defs := [], rnd := none, ret := false, res := [ARes.tmp 4] }]
theorem g121e_at : enterA tab 121 [AV.nils, AV.fn 122 []] = some { fn := 121, N := 66, env := [(0, AV.nils), (1, AV.fn 122 [])], todo := [.code a121.code], defs := [], rnd := none, ret := false, res := [ARes.tmp 4] } := rfl
theorem g121p0 (A : Ar) : gfin A tab BOa 18 [true] 121 (g121e ) [] =
  some ([A.and true (A.and true true), true, true, A.lt (A.int 0) 2, true, true, true, true],
   AV.nils, none) := by kernel_rfl
end Go.Proofs.Ytjhdnpmojhkbjaa
/- Contracts as a list. No condition. -/
namespace Go.Proofs.Ytjhdnpmojhkbjaa
theorem sort139n (a b : Int) (h : b ≤ a + 1 ∧ -1000000 ≤ a ∧ a ≤ 1000000) : Pure Try.prog 139 [.nils, .int .i64 a, .int .i64 b, .fn 119 []] (.tup []) none :=
  start (g139e_at a b) fun C hC => go hC BOa_ok (g139p0 std a b) (by simp; omega) (fin hC BOa_ok (g139p1 std a b (a + 1)) (by simp; omega) rfl rfl)
theorem compact121n : Pure Try.prog 121 [.nils, .fn 122 []] .nils none :=
  start g121e_at fun C hC => fin hC BOa_ok (g121p0 std) (by simp) rfl rfl
def n139B (a b : Int) : Bool := decide (b ≤ a + 1 ∧ -1000000 ≤ a ∧ a ≤ 1000000)
def k139n : Ctr := ⟨139, 0, fun _ a => match a with | [.nils, .int .i64 a, .int .i64 b, .fn 119 []] => some (decide (n139B a b = true), .tup [], none) | _ => none⟩
theorem k139n_ok : k139n.OK Try.prog := fun pa args r fr h => by
  simp only [k139n] at h
  split at h
  · simp only [Option.some.injEq, Prod.mk.injEq, decide_eq_true_eq] at h
    obtain ⟨h0, rfl, rfl⟩ := h
    exact sort139n _ _ (of_decide_eq_true h0)
  · cases h
def k121n : Ctr := ⟨121, 0, fun _ a => match a with | [.nils, .fn 122 []] => some (true, .nils, none) | _ => none⟩
theorem k121n_ok : k121n.OK Try.prog := fun pa args r fr h => by
  simp only [k121n] at h
  split at h
  · cases h
    exact compact121n
  · cases h
def BOb : List Ctr := [k139n, k121n] ++ BOa
theorem BOb_ok : CtrsOK Try.prog BOb := ⟨k139n_ok, ⟨k121n_ok, BOa_ok⟩⟩
end Go.Proofs.Ytjhdnpmojhkbjaa
/- Paths of functions, printed by the explorer (Gx). No condition. -/
namespace Go.Proofs.Ytjhdnpmojhkbjaa
set_option maxRecDepth 100000
set_option linter.unusedVariables false
def g137e (n : Int) : List AFrame := [{ fn := 137, N := 63, env := [(0, AV.nils), (1, AV.int .i64 n), (2, AV.fn 119 [])], todo := [.code a137.code], defs := [], rnd := none, ret := false, res := [] }]
theorem g137e_at (n : Int) : enterA tab 137 [AV.nils, AV.int .i64 n, AV.fn 119 []] = some { fn := 137, N := 63, env := [(0, AV.nils), (1, AV.int .i64 n), (2, AV.fn 119 [])], todo := [.code a137.code], defs := [], rnd := none, ret := false, res := [] } := rfl
def g137h137_2a (n : Int) (n0 : Int) (n1 : Int) : List AFrame := [{ fn := 137, N := 63, env := [(0, AV.nils), (1, AV.int .i64 n), (2, AV.fn 119 []), (6, AV.int .i64 20), (7, AV.int .i64 n0), (8, AV.int .i64 n1)], todo := .code (ACode.gh [] l137_2) :: k137_2, defs := [], rnd := none, ret := false, res := [] }]
def g137h137_2am (n : Int) (n0 : Int) (n1 : Int) : AHeap := []
def g137h137_0a (n : Int) (n2 : Int) : List AFrame := [{ fn := 137, N := 63, env := [(0, AV.nils), (1, AV.int .i64 n), (2, AV.fn 119 []), (6, AV.int .i64 n2)], todo := .code (ACode.gh [] l137_0) :: k137_0, defs := [], rnd := none, ret := false, res := [] }]
def g137h137_0am (n : Int) (n2 : Int) : AHeap := []
theorem g137p0 (A : Ar) (n : Int) : gwalkL A tab BOb 14 [] (g137e n) [] =
  some ([true, true, true, true],
   g137h137_2a (n) (0) (20), g137h137_2am (n) (0) (20)) := by kernel_rfl
theorem g137p1 (A : Ar) (n : Int) (n0 : Int) (n1 : Int) : gwalkL A tab BOb 21 [false] (g137h137_2a n n0 n1) (g137h137_2am n n0 n1) =
  some ([A.and true (decide (n139B n0 n = true)), true, true, true, true, !A.le n1 n, true, true, true],
   g137h137_0a (n) (20), g137h137_0am (n) (20)) := by kernel_rfl
theorem g137p2 (A : Ar) (n : Int) (n2 : Int) : gfin A tab BOb 11 [false] 137 (g137h137_0a n n2) (g137h137_0am n n2) =
  some ([A.and true true, !A.lt n2 n, true, true, true],
   AV.tup [], none) := by kernel_rfl
end Go.Proofs.Ytjhdnpmojhkbjaa
/- Contracts as a list. No condition. -/
namespace Go.Proofs.Ytjhdnpmojhkbjaa
theorem stable137n : Pure Try.prog 137 [.nils, .int .i64 0, .fn 119 []] (.tup []) none :=
  start (g137e_at 0) fun C hC => go hC BOb_ok (g137p0 std 0) (by simp) (go hC BOb_ok (g137p1 std 0 0 20) (by simp [n139B]) (fin hC BOb_ok (g137p2 std 0 20) (by simp) rfl rfl))
theorem stable137n' (n : Int) (h : n = 0) : Pure Try.prog 137 [.nils, .int .i64 n, .fn 119 []] (.tup []) none := by subst h; exact stable137n
def zeroB (n : Int) : Bool := decide (n = 0)
def k137n : Ctr := ⟨137, 0, fun _ a => match a with | [.nils, .int .i64 n, .fn 119 []] => some (decide (zeroB n = true), .tup [], none) | _ => none⟩
theorem k137n_ok : k137n.OK Try.prog := fun pa args r fr h => by
  simp only [k137n] at h
  split at h
  · simp only [Option.some.injEq, Prod.mk.injEq, decide_eq_true_eq] at h
    obtain ⟨h0, rfl, rfl⟩ := h
    exact stable137n' _ (of_decide_eq_true h0)
  · cases h
def BOc : List Ctr := [k137n] ++ BOb
theorem BOc_ok : CtrsOK Try.prog BOc := ⟨k137n_ok, BOb_ok⟩
end Go.Proofs.Ytjhdnpmojhkbjaa
/- Paths of functions, printed by the explorer (Gx). No condition. -/
namespace Go.Proofs.Ytjhdnpmojhkbjaa
set_option maxRecDepth 100000
set_option linter.unusedVariables false
def g118e : List AFrame := [{ fn := 118, N := 9, env := [(0, AV.nils), (1, AV.fn 119 [])], todo := [.code a118.code], defs := [], rnd := none, ret := false, res := [] }]
theorem g118e_at : enterA tab 118 [AV.nils, AV.fn 119 []] = some { fn := 118, N := 9, env := [(0, AV.nils), (1, AV.fn 119 [])], todo := [.code a118.code], defs := [], rnd := none, ret := false, res := [] } := rfl
theorem g118p0 (A : Ar) : gfin A tab BOc 8 [] 118 (g118e ) [] =
  some ([A.and true true, A.and true (decide (zeroB (A.int 0) = true)), true, true, true, true],
   AV.tup [], none) := by kernel_rfl
end Go.Proofs.Ytjhdnpmojhkbjaa
/- Contracts as a list. No condition. -/
namespace Go.Proofs.Ytjhdnpmojhkbjaa
theorem stable118n : Pure Try.prog 118 [.nils, .fn 119 []] (.tup []) none :=
  start g118e_at fun C hC => fin hC BOc_ok (g118p0 std) (by simp [zeroB]) rfl rfl
def k118n : Ctr := ⟨118, 0, fun _ a => match a with | [.nils, .fn 119 []] => some (true, .tup [], none) | _ => none⟩
theorem k118n_ok : k118n.OK Try.prog := fun pa args r fr h => by
  simp only [k118n] at h
  split at h
  · cases h
    exact stable118n
  · cases h
def BOd : List Ctr := [k118n] ++ BOc
theorem BOd_ok : CtrsOK Try.prog BOd := ⟨k118n_ok, BOc_ok⟩
end Go.Proofs.Ytjhdnpmojhkbjaa
/- Paths of functions, printed by the explorer (Gx). No condition. -/
namespace Go.Proofs.Ytjhdnpmojhkbjaa
set_option maxRecDepth 100000
set_option linter.unusedVariables false
def f117e (a : Int) (b : Int) (fs : List AV) : List AFrame := [{ fn := 117, N := 21, env := [(0, AV.list (Row.big (Sh.agg [Sh.int .i64, Sh.int .i64, Sh.int .i64, Sh.ints .i64]) fs)), (1, AV.val (Go.Value.func (Go.Fn.func 110) { toList := [Go.Value.agg { toList := [Go.Value.int .i64 a, Go.Value.int .i64 b] }] } { toList := [] }))], todo := [.code a117.code], defs := [], rnd := none, ret := false, res := [ARes.tmp 4] }]
theorem f117e_at (a : Int) (b : Int) (fs : List AV) : enterA tab 117 [AV.list (Row.big (Sh.agg [Sh.int .i64, Sh.int .i64, Sh.int .i64, Sh.ints .i64]) fs), AV.val (Go.Value.func (Go.Fn.func 110) { toList := [Go.Value.agg { toList := [Go.Value.int .i64 a, Go.Value.int .i64 b] }] } { toList := [] })] = some { fn := 117, N := 21, env := [(0, AV.list (Row.big (Sh.agg [Sh.int .i64, Sh.int .i64, Sh.int .i64, Sh.ints .i64]) fs)), (1, AV.val (Go.Value.func (Go.Fn.func 110) { toList := [Go.Value.agg { toList := [Go.Value.int .i64 a, Go.Value.int .i64 b] }] } { toList := [] }))], todo := [.code a117.code], defs := [], rnd := none, ret := false, res := [ARes.tmp 4] } := rfl
def f117h117_0a (a : Int) (b : Int) (fs : List AV) (n0 : Int) (n1 : Int) : List AFrame := [{ fn := 117, N := 21, env := [(1, AV.val (Go.Value.func (Go.Fn.func 110) { toList := [Go.Value.agg { toList := [Go.Value.int .i64 a, Go.Value.int .i64 b] }] } { toList := [] })), (8, AV.list (Row.big (Sh.agg [Sh.int .i64, Sh.int .i64, Sh.int .i64, Sh.ints .i64]) fs)), (9, AV.int .i64 n0), (10, AV.int .i64 n1)], todo := .code (ACode.gh [] l117_0) :: k117_0, defs := [], rnd := none, ret := false, res := [ARes.tmp 4] }]
def f117h117_0am (a : Int) (b : Int) (fs : List AV) (n0 : Int) (n1 : Int) : AHeap := []
theorem f117p0 (A : Ar) (a : Int) (b : Int) (fs : List AV) : gwalkL A tab BOd 14 [] (f117e a b fs) [] =
  some ([true, true, true, true],
   f117h117_0a (a) (b) (fs) (A.int (A.lenA fs)) (0), f117h117_0am (a) (b) (fs) (A.int (A.lenA fs)) (0)) := by kernel_rfl
theorem f117p1 (A : Ar) (a : Int) (b : Int) (fs : List AV) (n0 : Int) (n1 : Int) : gfin A tab BOd 36 [true, true] 117 (f117h117_0a a b fs n0 n1) (f117h117_0am a b fs n0 n1) =
  some ([A.and true (A.and true true), true, true, A.not (A.eq (frameW a b ((A.nthA fs (A.nat n1)).cellAt 0).toI ((A.nthA fs (A.nat n1)).cellAt 1).toI ((A.nthA fs (A.nat n1)).cellAt 2).toI ((A.nthA fs (A.nat n1)).cellAt 3).toIs) 0), true, true, true, A.and true (decide (List.length ((A.nthA fs (A.nat n1)).cellAt 3).toIs ≤ 1000000)), A.and (A.ltN 0 1) (A.leN (A.addN 0 4) 4), true, A.and (A.ltN 0 1) (A.eqN 4 4), A.and true (A.ltN 0 4), A.leN (A.addN 0 4) 4, A.and (A.and (A.le 0 n1) (A.ltN (A.nat n1) (A.lenA fs))) (A.eqN 4 4), A.lt n1 n0, true],
   AV.int .i64 (frameW a b ((A.nthA fs (A.nat n1)).cellAt 0).toI ((A.nthA fs (A.nat n1)).cellAt 1).toI ((A.nthA fs (A.nat n1)).cellAt 2).toI ((A.nthA fs (A.nat n1)).cellAt 3).toIs), none) := by kernel_rfl
theorem f117p2 (A : Ar) (a : Int) (b : Int) (fs : List AV) (n0 : Int) (n1 : Int) : gwalkL A tab BOd 38 [true, false] (f117h117_0a a b fs n0 n1) (f117h117_0am a b fs n0 n1) =
  some ([true, A.inR .i64 (A.add n1 1), !A.not (A.eq (frameW a b ((A.nthA fs (A.nat n1)).cellAt 0).toI ((A.nthA fs (A.nat n1)).cellAt 1).toI ((A.nthA fs (A.nat n1)).cellAt 2).toI ((A.nthA fs (A.nat n1)).cellAt 3).toIs) 0), true, true, true, A.and true (decide (List.length ((A.nthA fs (A.nat n1)).cellAt 3).toIs ≤ 1000000)), A.and (A.ltN 0 1) (A.leN (A.addN 0 4) 4), true, A.and (A.ltN 0 1) (A.eqN 4 4), A.and true (A.ltN 0 4), A.leN (A.addN 0 4) 4, A.and (A.and (A.le 0 n1) (A.ltN (A.nat n1) (A.lenA fs))) (A.eqN 4 4), A.lt n1 n0, true],
   f117h117_0a (a) (b) (fs) (n0) (A.add n1 1), f117h117_0am (a) (b) (fs) (n0) (A.add n1 1)) := by kernel_rfl
theorem f117p3 (A : Ar) (a : Int) (b : Int) (fs : List AV) (n0 : Int) (n1 : Int) : gfin A tab BOd 13 [false] 117 (f117h117_0a a b fs n0 n1) (f117h117_0am a b fs n0 n1) =
  some ([A.and true (A.and true true), true, !A.lt n1 n0, true],
   AV.int .i64 0, none) := by kernel_rfl
end Go.Proofs.Ytjhdnpmojhkbjaa
/- Contracts as a list. No condition. -/
namespace Go.Proofs.Ytjhdnpmojhkbjaa
def dtF (x : AV) : List Int := (AV.cellAt x 3).toIs
def frW (a b : Int) (x : AV) : Int := frameW a b (AV.toI (AV.cellAt x 0)) (AV.toI (AV.cellAt x 1)) (AV.toI (AV.cellAt x 2)) (AV.toIs (AV.cellAt x 3))
def eachW (a b : Int) : List AV → Int
  | [] => 0
  | f :: fs => if frW a b f = 0 then eachW a b fs else frW a b f
def smallF (fs : List AV) : Bool := decide (fs.length ≤ 1000000) && fs.all fun f => decide ((dtF f).length ≤ 1000000)
theorem each_loop {C : Ctx} (hC : C.P = Try.prog) (a b : Int) (fs : List AV) (hl : fs.length ≤ 1000000) (hd : ∀ f ∈ fs, (dtF f).length ≤ 1000000) : ∀ (d i : Nat), fs.length - i = d → i ≤ fs.length →
    Ev C (f117h117_0a a b fs fs.length i) (f117h117_0am a b fs fs.length i) (FinQ 117 (.int .i64 (eachW a b (fs.drop i))) none) := by
  intro d
  induction d with
  | zero =>
    intro i hd' hi
    exact fin hC BOd_ok (f117p3 std a b fs fs.length i) (by simp; omega) (by rw [List.drop_of_length_le (by omega)]; rfl) rfl
  | succ d ih =>
    intro i hd' hi
    have hlt : i < fs.length := by omega
    have hg : fs.getD i .top = fs[i] := by simp [hlt]
    have hdd : (AV.toIs (AV.cellAt fs[i] 3)).length ≤ 1000000 := hd fs[i] (List.getElem_mem hlt)
    rw [List.drop_eq_getElem_cons hlt, eachW]
    by_cases h : frW a b fs[i] = 0
    · rw [if_pos h]
      have h' := h
      unfold frW at h'
      have hw := f117p2 std a b fs fs.length i
      simp only [s_nat, s_nthA, Int.toNat_natCast, hg, h'] at hw
      exact go hC BOd_ok hw (by simp [hlt, hdd]; omega) (ih (i + 1) (by omega) (by omega))
    · rw [if_neg h]
      have h' := h
      unfold frW at h'
      have hw := f117p1 std a b fs fs.length i
      simp only [s_nat, s_nthA, Int.toNat_natCast, hg] at hw
      exact fin hC BOd_ok hw (by simp [hlt, hdd, h']) rfl rfl
theorem each117 (a b : Int) (fs : List AV) (h : smallF fs = true) : Pure Try.prog 117 [.list (.big shFr fs), AV.val (Value.func (Fn.func 110) { toList := [Value.agg { toList := [Value.int IntKind.i64 a, Value.int IntKind.i64 b] }] } { toList := [] })] (.int .i64 (eachW a b fs)) none := by
  unfold smallF at h
  simp only [Bool.and_eq_true, decide_eq_true_eq, List.all_eq_true] at h
  exact start (f117e_at a b fs) fun C hC => go hC BOd_ok (f117p0 std a b fs) (by simp) (each_loop hC a b fs h.1 h.2 fs.length 0 (by omega) (by omega))
def k117 : Ctr := ⟨117, 0, fun _ a => match a with | [.list (.big (.agg [.int .i64, .int .i64, .int .i64, .ints .i64]) fs), AV.val (Value.func (Fn.func 110) { toList := [Value.agg { toList := [Value.int IntKind.i64 a, Value.int IntKind.i64 b] }] } { toList := [] })] => some (decide (smallF fs = true), .int .i64 (eachW a b fs), none) | _ => none⟩
theorem k117_ok : k117.OK Try.prog := fun pa args r fr h => by
  simp only [k117] at h
  split at h
  · simp only [Option.some.injEq, Prod.mk.injEq, decide_eq_true_eq] at h
    obtain ⟨h0, rfl, rfl⟩ := h
    exact each117 _ _ _ h0
  · cases h
def BOe : List Ctr := [k117] ++ BOd
theorem BOe_ok : CtrsOK Try.prog BOe := ⟨k117_ok, BOd_ok⟩
end Go.Proofs.Ytjhdnpmojhkbjaa
/- Paths of functions, printed by the explorer (Gx). No condition. -/
namespace Go.Proofs.Ytjhdnpmojhkbjaa
set_option maxRecDepth 100000
set_option linter.unusedVariables false
def f78e (a : Int) (b : Int) (c : Int) (fs : List AV) : List AFrame := [{ fn := 78, N := 28, env := [(0, AV.agg (Row.gen [AV.int .i64 a, AV.int .i64 b])), (1, AV.int .i64 c), (2, AV.list (Row.big (Sh.agg [Sh.int .i64, Sh.int .i64, Sh.int .i64, Sh.ints .i64]) fs))], todo := [.code a78.code], defs := [], rnd := none, ret := false, res := [ARes.cell 6 true 2, ARes.tmp 7] }]
theorem f78e_at (a : Int) (b : Int) (c : Int) (fs : List AV) : enterA tab 78 [AV.agg (Row.gen [AV.int .i64 a, AV.int .i64 b]), AV.int .i64 c, AV.list (Row.big (Sh.agg [Sh.int .i64, Sh.int .i64, Sh.int .i64, Sh.ints .i64]) fs)] = some { fn := 78, N := 28, env := [(0, AV.agg (Row.gen [AV.int .i64 a, AV.int .i64 b])), (1, AV.int .i64 c), (2, AV.list (Row.big (Sh.agg [Sh.int .i64, Sh.int .i64, Sh.int .i64, Sh.ints .i64]) fs))], todo := [.code a78.code], defs := [], rnd := none, ret := false, res := [ARes.cell 6 true 2, ARes.tmp 7] } := rfl
theorem f78p0 (A : Ar) (a : Int) (b : Int) (c : Int) (fs : List AV) : gfin A tab BOe 55 [] 78 (f78e a b c fs) [] =
  some ([A.and (A.and (A.and (A.ltN 0 1) (A.leN (A.addN 0 2) 2)) true) (A.and true (A.and true true)), true, A.and (A.ltN 0 1) (A.eqN 2 2), A.and (A.and true true) (decide (List.length [firstE [rulesE a b, chanW b c], unlessE (A.le (A.int (A.lenA fs)) 40) 8, eachW a b fs] ≤ 1000000)), List.all [AV.int .i64 (firstE [rulesE a b, chanW b c]), AV.int .i64 (unlessE (A.le (A.int (A.lenA fs)) 40) 8), AV.int .i64 (eachW a b fs)] fun x => AV.bx x && Nat.beq (flatLen A x) 1, A.and true (decide (smallF fs = true)), true, A.and (A.ltN 0 1) (A.leN (A.addN 0 2) 2), true, A.and true true, true, true, true, true, A.and (A.ltN 0 1) (A.leN (A.addN 0 2) 2), true, A.and (A.ltN 0 1) (A.eqN 2 2), A.and true (A.ltN 0 2), true, true, true, A.and (A.and (A.ltN 0 1) (A.leN (A.addN 0 2) 2)) true, true, A.and (A.ltN 0 1) (A.eqN 2 2), A.and (A.and true true) (decide (List.length [rulesE a b, chanW b c] ≤ 1000000)), List.all [AV.int .i64 (rulesE a b), AV.int .i64 (chanW b c)] fun x => AV.bx x && Nat.beq (flatLen A x) 1, A.and true true, true, A.and (A.ltN 0 1) (A.leN (A.addN 0 2) 2), true, A.and (A.ltN 0 1) (A.leN (A.addN 0 2) 2), true, A.and (A.ltN 0 1) (A.eqN 2 2), A.and true (A.ltN 0 2), true, true, true, A.and (A.and (A.ltN 0 1) (A.leN (A.addN 0 2) 2)) true, true, A.and (A.ltN 0 1) (A.eqN 2 2), A.and true true, A.and (A.ltN 0 1) (A.leN (A.addN 0 2) 2), A.and (A.and true (A.eqN 2 2)) (A.and (A.leN (A.addN 0 2) 2) (A.and (A.ltN 0 2) true)), A.and (A.ltN 0 1) (A.leN (A.addN 0 2) 2), true, A.and true (A.ltN 0 2), A.and true (A.ltN 0 2), A.and (A.ltN 0 1) (A.leN (A.addN 0 2) 2), true, A.and true (A.ltN 0 2), A.and true (A.ltN 0 2), true, A.and (A.ltN 0 1) (A.leN (A.addN 0 2) 2), true, A.and true (A.ltN 0 2), A.and true (A.ltN 0 2)],
   AV.tup [AV.agg (Row.gen [.int .i64 a, .int .i64 b]), AV.int .i64 (firstE [firstE [rulesE a b, chanW b c], unlessE (A.le (A.int (A.lenA fs)) 40) 8, eachW a b fs])], none) := by kernel_rfl
end Go.Proofs.Ytjhdnpmojhkbjaa
/- Contracts as a list. No condition. -/
namespace Go.Proofs.Ytjhdnpmojhkbjaa
def openE (a b c : Int) (fs : List AV) : Int := firstE [firstE [rulesE a b, chanW b c], unlessE (decide ((fs.length : Int) ≤ 40)) 8, eachW a b fs]
theorem open78 (a b c : Int) (fs : List AV) (h : smallF fs = true) : Pure Try.prog 78 [.agg (.gen [.int .i64 a, .int .i64 b]), .int .i64 c, .list (.big shFr fs)] (.tup [.agg (.gen [.int .i64 a, .int .i64 b]), .int .i64 (openE a b c fs)]) none :=
  start (f78e_at a b c fs) fun C hC => fin hC BOe_ok (f78p0 std a b c fs) (by simp [h, AV.bx, flatLen]) (by simp [openE]) rfl
def k78 : Ctr := ⟨78, 0, fun _ a => match a with | [.agg (.gen [.int .i64 a, .int .i64 b]), .int .i64 c, .list (.big (.agg [.int .i64, .int .i64, .int .i64, .ints .i64]) fs)] => some (decide (smallF fs = true), .tup [.agg (.gen [.int .i64 a, .int .i64 b]), .int .i64 (openE a b c fs)], none) | _ => none⟩
theorem k78_ok : k78.OK Try.prog := fun pa args r fr h => by
  simp only [k78] at h
  split at h
  · simp only [Option.some.injEq, Prod.mk.injEq, decide_eq_true_eq] at h
    obtain ⟨h0, rfl, rfl⟩ := h
    exact open78 _ _ _ _ h0
  · cases h
def BOf : List Ctr := [k78] ++ BOe
theorem BOf_ok : CtrsOK Try.prog BOf := ⟨k78_ok, BOe_ok⟩
end Go.Proofs.Ytjhdnpmojhkbjaa
/- Paths of functions, printed by the explorer (Gx). No condition. -/
namespace Go.Proofs.Ytjhdnpmojhkbjaa
set_option maxRecDepth 100000
set_option linter.unusedVariables false
def f20e (a : Int) (b : Int) (fs : List AV) : List AFrame := [{ fn := 20, N := 25, env := [(0, AV.agg (Row.gen [AV.int .i64 a, AV.int .i64 b])), (1, AV.list (Row.big (Sh.agg [Sh.int .i64, Sh.int .i64, Sh.int .i64, Sh.ints .i64]) fs))], todo := [.code a20.code], defs := [], rnd := none, ret := false, res := [ARes.tmp 4] }]
theorem f20e_at (a : Int) (b : Int) (fs : List AV) : enterA tab 20 [AV.agg (Row.gen [AV.int .i64 a, AV.int .i64 b]), AV.list (Row.big (Sh.agg [Sh.int .i64, Sh.int .i64, Sh.int .i64, Sh.ints .i64]) fs)] = some { fn := 20, N := 25, env := [(0, AV.agg (Row.gen [AV.int .i64 a, AV.int .i64 b])), (1, AV.list (Row.big (Sh.agg [Sh.int .i64, Sh.int .i64, Sh.int .i64, Sh.ints .i64]) fs))], todo := [.code a20.code], defs := [], rnd := none, ret := false, res := [ARes.tmp 4] } := rfl
def f20h20_0a (a : Int) (b : Int) (fs : List AV) (n0 : Int) : List AFrame := [{ fn := 20, N := 25, env := [(1, AV.list (Row.big (Sh.agg [Sh.int .i64, Sh.int .i64, Sh.int .i64, Sh.ints .i64]) fs)), (2, AV.ptr 20003 0 0 0), (5, AV.int .i64 n0)], todo := .code (ACode.gh [] l20_0) :: k20_0, defs := [], rnd := none, ret := false, res := [ARes.tmp 4] }]
def f20h20_0am (a : Int) (b : Int) (fs : List AV) (n0 : Int) : AHeap := [(20003, { base := 0, blks := [Blk.row 23 2 (Row.gen [AV.agg (Row.gen [AV.int .i64 a, AV.int .i64 b])])] })]
theorem f20p0 (A : Ar) (a : Int) (b : Int) (fs : List AV) : gfin A tab BOf 18 [true] 20 (f20e a b fs) [] =
  some ([A.and true (A.and true true), true, A.lt 40 (A.int (A.lenA fs)), true, true, true, true, A.and true (A.ltN 0 2)],
   AV.int .i64 8, none) := by kernel_rfl
theorem f20p1 (A : Ar) (a : Int) (b : Int) (fs : List AV) : gwalkL A tab BOf 22 [false] (f20e a b fs) [] =
  some ([true, !A.lt 40 (A.int (A.lenA fs)), true, true, true, true, A.and true (A.ltN 0 2)],
   f20h20_0a (a) (b) (fs) (0), f20h20_0am (a) (b) (fs) (0)) := by kernel_rfl
theorem f20p2 (A : Ar) (a : Int) (b : Int) (fs : List AV) (n0 : Int) : gfin A tab BOf 28 [true, true] 20 (f20h20_0a a b fs n0) (f20h20_0am a b fs n0) =
  some ([A.and true (A.and true true), true, true, A.not (A.eq (frameE a b ((A.nthA fs (A.nat n0)).cellAt 0).toI ((A.nthA fs (A.nat n0)).cellAt 1).toI ((A.nthA fs (A.nat n0)).cellAt 2).toI ((A.nthA fs (A.nat n0)).cellAt 3).toIs) 0), true, true, true, A.and true (decide ((-1000000 ≤ a ∧ a ≤ 1000000) ∧ -1000000 ≤ b ∧ b ≤ 1000000)), A.leN (A.addN 0 4) 4, A.and (A.and (A.le 0 n0) (A.ltN (A.nat n0) (A.lenA fs))) (A.eqN 4 4), true, true, A.and (A.ltN 0 1) (A.leN (A.addN 0 2) 2), A.lt n0 (A.int (A.lenA fs)), true, true, true, true],
   AV.int .i64 (frameE a b ((A.nthA fs (A.nat n0)).cellAt 0).toI ((A.nthA fs (A.nat n0)).cellAt 1).toI ((A.nthA fs (A.nat n0)).cellAt 2).toI ((A.nthA fs (A.nat n0)).cellAt 3).toIs), none) := by kernel_rfl
theorem f20p3 (A : Ar) (a : Int) (b : Int) (fs : List AV) (n0 : Int) : gwalkL A tab BOf 31 [true, false] (f20h20_0a a b fs n0) (f20h20_0am a b fs n0) =
  some ([true, A.inR .i64 (A.add n0 1), true, !A.not (A.eq (frameE a b ((A.nthA fs (A.nat n0)).cellAt 0).toI ((A.nthA fs (A.nat n0)).cellAt 1).toI ((A.nthA fs (A.nat n0)).cellAt 2).toI ((A.nthA fs (A.nat n0)).cellAt 3).toIs) 0), true, true, true, A.and true (decide ((-1000000 ≤ a ∧ a ≤ 1000000) ∧ -1000000 ≤ b ∧ b ≤ 1000000)), A.leN (A.addN 0 4) 4, A.and (A.and (A.le 0 n0) (A.ltN (A.nat n0) (A.lenA fs))) (A.eqN 4 4), true, true, A.and (A.ltN 0 1) (A.leN (A.addN 0 2) 2), A.lt n0 (A.int (A.lenA fs)), true, true, true, true],
   f20h20_0a (a) (b) (fs) (A.add n0 1), f20h20_0am (a) (b) (fs) (A.add n0 1)) := by kernel_rfl
theorem f20p4 (A : Ar) (a : Int) (b : Int) (fs : List AV) (n0 : Int) : gfin A tab BOf 16 [false] 20 (f20h20_0a a b fs n0) (f20h20_0am a b fs n0) =
  some ([A.and true (A.and true true), true, !A.lt n0 (A.int (A.lenA fs)), true, true, true, true],
   AV.int .i64 0, none) := by kernel_rfl
end Go.Proofs.Ytjhdnpmojhkbjaa
/- Contracts as a list. No condition. -/
namespace Go.Proofs.Ytjhdnpmojhkbjaa
def frE (a b : Int) (x : AV) : Int := frameE a b (AV.toI (AV.cellAt x 0)) (AV.toI (AV.cellAt x 1)) (AV.toI (AV.cellAt x 2)) (AV.toIs (AV.cellAt x 3))
def eachE (a b : Int) : List AV → Int
  | [] => 0
  | f :: fs => if frE a b f = 0 then eachE a b fs else frE a b f
def medR (a b : Int) : Bool := decide ((-1000000 ≤ a ∧ a ≤ 1000000) ∧ -1000000 ≤ b ∧ b ≤ 1000000)
theorem ref_loop {C : Ctx} (hC : C.P = Try.prog) (a b : Int) (fs : List AV) (hl : fs.length ≤ 1000000) (hr : (-1000000 ≤ a ∧ a ≤ 1000000) ∧ -1000000 ≤ b ∧ b ≤ 1000000) : ∀ (d i : Nat), fs.length - i = d → i ≤ fs.length →
    Ev C (f20h20_0a a b fs i) (f20h20_0am a b fs i) (FinQ 20 (.int .i64 (eachE a b (fs.drop i))) none) := by
  intro d
  induction d with
  | zero =>
    intro i hd' hi
    exact fin hC BOf_ok (f20p4 std a b fs i) (by simp; omega) (by rw [List.drop_of_length_le (by omega)]; rfl) rfl
  | succ d ih =>
    intro i hd' hi
    have hlt : i < fs.length := by omega
    have hg : fs.getD i .top = fs[i] := by simp [hlt]
    rw [List.drop_eq_getElem_cons hlt, eachE]
    by_cases h : frE a b fs[i] = 0
    · rw [if_pos h]
      have h' := h
      unfold frE at h'
      have hw := f20p3 std a b fs i
      simp only [s_nat, s_nthA, Int.toNat_natCast, hg, h'] at hw
      exact go hC BOf_ok hw (by simp [hlt, hr]; omega) (ih (i + 1) (by omega) (by omega))
    · rw [if_neg h]
      have h' := h
      unfold frE at h'
      have hw := f20p2 std a b fs i
      simp only [s_nat, s_nthA, Int.toNat_natCast, hg] at hw
      exact fin hC BOf_ok hw (by simp [hlt, hr, h']) rfl rfl
def refE (a b : Int) (fs : List AV) : Int := if 40 < fs.length then 8 else eachE a b fs
theorem frames20 (a b : Int) (fs : List AV) (hl : fs.length ≤ 1000000) (hr : medR a b = true) : Pure Try.prog 20 [.agg (.gen [.int .i64 a, .int .i64 b]), .list (.big shFr fs)] (.int .i64 (refE a b fs)) none :=
  start (f20e_at a b fs) fun C hC => by
    have hr := of_decide_eq_true hr
    unfold refE
    by_cases h : 40 < fs.length
    · rw [if_pos h]
      exact fin hC BOf_ok (f20p0 std a b fs) (by simp; omega) rfl rfl
    · rw [if_neg h]
      exact go hC BOf_ok (f20p1 std a b fs) (by simp; omega) (ref_loop hC a b fs hl hr fs.length 0 (by omega) (by omega))
def f20B (a b : Int) (fs : List AV) : Bool := decide (fs.length ≤ 1000000) && medR a b
theorem frames20' (a b : Int) (fs : List AV) (h : f20B a b fs = true) : Pure Try.prog 20 [.agg (.gen [.int .i64 a, .int .i64 b]), .list (.big shFr fs)] (.int .i64 (refE a b fs)) none := by
  unfold f20B at h
  simp only [Bool.and_eq_true, decide_eq_true_eq] at h
  exact frames20 a b fs h.1 h.2
def k20 : Ctr := ⟨20, 0, fun _ a => match a with | [.agg (.gen [.int .i64 a, .int .i64 b]), .list (.big (.agg [.int .i64, .int .i64, .int .i64, .ints .i64]) fs)] => some (decide (f20B a b fs = true), .int .i64 (refE a b fs), none) | _ => none⟩
theorem k20_ok : k20.OK Try.prog := fun pa args r fr h => by
  simp only [k20] at h
  split at h
  · simp only [Option.some.injEq, Prod.mk.injEq, decide_eq_true_eq] at h
    obtain ⟨h0, rfl, rfl⟩ := h
    exact frames20' _ _ _ h0
  · cases h
def BOg : List Ctr := [k20] ++ BOf
theorem BOg_ok : CtrsOK Try.prog BOg := ⟨k20_ok, BOf_ok⟩
end Go.Proofs.Ytjhdnpmojhkbjaa
/- Contracts as a list. No condition. -/
namespace Go.Proofs.Ytjhdnpmojhkbjaa
def BOh : List Ctr := BOg
theorem BOh_ok : CtrsOK Try.prog BOh := BOg_ok
end Go.Proofs.Ytjhdnpmojhkbjaa
/- The contracts of both lines together. No condition. -/
namespace Go.Proofs.Ytjhdnpmojhkbjaa
def BOi : List Ctr := k114 :: k92 :: BOh
theorem BOi_ok : CtrsOK Try.prog BOi := ⟨k114_ok, k92_ok, BOh_ok⟩
end Go.Proofs.Ytjhdnpmojhkbjaa
/- Contracts as a list. No condition. -/
namespace Go.Proofs.Ytjhdnpmojhkbjaa
def BOj : List Ctr := BOi
theorem BOj_ok : CtrsOK Try.prog BOj := BOi_ok
end Go.Proofs.Ytjhdnpmojhkbjaa
/- Paths of functions, printed by the explorer (Gx). No condition. -/
namespace Go.Proofs.Ytjhdnpmojhkbjaa
set_option maxRecDepth 100000
set_option linter.unusedVariables false
def f121e (xs : List AV) : List AFrame := [{ fn := 121, N := 66, env := [(0, AV.row 0 0), (1, AV.fn 122 [])], todo := [.code a121.code], defs := [], rnd := none, ret := false, res := [ARes.tmp 4] }]
theorem f121e_at (xs : List AV) : enterA tab 121 [AV.row 0 0, AV.fn 122 []] = some { fn := 121, N := 66, env := [(0, AV.row 0 0), (1, AV.fn 122 [])], todo := [.code a121.code], defs := [], rnd := none, ret := false, res := [ARes.tmp 4] } := rfl
def f121em (xs : List AV) : AHeap := [(0, { base := 0, blks := [Blk.row 140 5 (Row.big (Sh.agg [Sh.int .i64, Sh.int .i64, Sh.int .i64, Sh.ints .i64, Sh.int .i64]) xs)] })]
def f121h121_0a (xs : List AV) (n0 : Int) : List AFrame := [{ fn := 121, N := 66, env := [(0, AV.row 0 0), (1, AV.fn 122 []), (5, AV.int .i64 n0)], todo := .code (ACode.gh [] l121_0) :: k121_0, defs := [], rnd := none, ret := false, res := [ARes.tmp 4] }]
def f121h121_0am (xs : List AV) (n0 : Int) : AHeap := [(0, { base := 0, blks := [Blk.row 140 5 (Row.big (Sh.agg [Sh.int .i64, Sh.int .i64, Sh.int .i64, Sh.ints .i64, Sh.int .i64]) xs)] })]
def f121h121_1a (j1 : Nat) (j2 : Nat) (n3 : Int) (n4 : Int) (x5 : List AV) : List AFrame := [{ fn := 121, N := 66, env := [(0, AV.row 0 0), (1, AV.fn 122 []), (5, AV.int .i64 n3), (6, AV.slc 0 0 j1 j2 none), (7, AV.int .i64 n4)], todo := .code (ACode.gh [] l121_1) :: k121_1, defs := [], rnd := none, ret := false, res := [ARes.tmp 4] }]
def f121h121_1am (j1 : Nat) (j2 : Nat) (n3 : Int) (n4 : Int) (x5 : List AV) : AHeap := [(0, { base := 0, blks := [Blk.row 140 5 (Row.big (Sh.agg [Sh.int .i64, Sh.int .i64, Sh.int .i64, Sh.ints .i64, Sh.int .i64]) x5)] })]
theorem f121p0 (A : Ar) (xs : List AV) : gfinM A tab BOj 18 [true] 121 (f121e xs) (f121em xs) =
  some ([true, true, true, A.lt (A.int (A.lenA xs)) 2, true, true, true, true],
   AV.row 0 0, 140, 5, Row.big (.agg [.int .i64, .int .i64, .int .i64, .ints .i64, .int .i64]) xs) := by kernel_rfl
theorem f121p1 (A : Ar) (xs : List AV) : gwalkL A tab BOj 21 [false] (f121e xs) (f121em xs) =
  some ([true, !A.lt (A.int (A.lenA xs)) 2, true, true, true, true],
   f121h121_0a (xs) (1), f121h121_0am (xs) (1)) := by kernel_rfl
theorem f121p2 (A : Ar) (xs : List AV) (n0 : Int) : gwalkL A tab BOj 32 [true, true] (f121h121_0a xs n0) (f121h121_0am xs n0) =
  some ([true, true, A.and (A.and (A.le 0 n0) true) (A.and (A.and (A.leN (A.nat n0) (A.lenA xs)) (A.leN (A.lenA xs) (A.lenA xs))) (A.and (A.eqN 5 5) true)), true, true, sameN ((A.nthA xs (A.nat n0)).cellAt 4).toI ((A.nthA xs (A.nat (A.sub n0 1))).cellAt 4).toI, A.and true true, A.and (A.ltN (A.nat (A.sub n0 1)) (A.lenA xs)) (A.leN (A.addN 0 5) 5), A.and (A.eqN 5 5) (A.and (A.le 0 (A.sub n0 1)) (A.ltN (A.nat (A.sub n0 1)) (A.lenA xs))), A.inR .i64 (A.sub n0 1), true, true, A.and (A.ltN (A.nat n0) (A.lenA xs)) (A.leN (A.addN 0 5) 5), A.and (A.eqN 5 5) (A.and (A.le 0 n0) (A.ltN (A.nat n0) (A.lenA xs))), true, true, true, A.lt n0 (A.int (A.lenA xs)), true, true, true, true],
   f121h121_1a (A.nat n0) (A.subN (A.lenA xs) (A.nat n0)) (n0) (1) (xs), f121h121_1am (A.nat n0) (A.subN (A.lenA xs) (A.nat n0)) (n0) (1) (xs)) := by kernel_rfl
theorem f121p3 (A : Ar) (xs : List AV) (n0 : Int) : gwalkL A tab BOj 26 [true, false] (f121h121_0a xs n0) (f121h121_0am xs n0) =
  some ([true, A.inR .i64 (A.add n0 1), true, !sameN ((A.nthA xs (A.nat n0)).cellAt 4).toI ((A.nthA xs (A.nat (A.sub n0 1))).cellAt 4).toI, A.and true true, A.and (A.ltN (A.nat (A.sub n0 1)) (A.lenA xs)) (A.leN (A.addN 0 5) 5), A.and (A.eqN 5 5) (A.and (A.le 0 (A.sub n0 1)) (A.ltN (A.nat (A.sub n0 1)) (A.lenA xs))), A.inR .i64 (A.sub n0 1), true, true, A.and (A.ltN (A.nat n0) (A.lenA xs)) (A.leN (A.addN 0 5) 5), A.and (A.eqN 5 5) (A.and (A.le 0 n0) (A.ltN (A.nat n0) (A.lenA xs))), true, true, true, A.lt n0 (A.int (A.lenA xs)), true, true, true, true],
   f121h121_0a (xs) (A.add n0 1), f121h121_0am (xs) (A.add n0 1)) := by kernel_rfl
theorem f121p4 (A : Ar) (xs : List AV) (n0 : Int) : gfinM A tab BOj 17 [false] 121 (f121h121_0a xs n0) (f121h121_0am xs n0) =
  some ([true, true, true, !A.lt n0 (A.int (A.lenA xs)), true, true, true, true],
   AV.row 0 0, 140, 5, Row.big (.agg [.int .i64, .int .i64, .int .i64, .ints .i64, .int .i64]) xs) := by kernel_rfl
theorem f121p5 (A : Ar) (j1 : Nat) (j2 : Nat) (n3 : Int) (n4 : Int) (x5 : List AV) : gwalkL A tab BOj 42 [true, true] (f121h121_1a j1 j2 n3 n4 x5) (f121h121_1am j1 j2 n3 n4 x5) =
  some ([true, A.inR .i64 (A.add n4 1), true, true, A.inR .i64 (A.add n3 1), true, A.and (A.ltN (A.nat n3) (A.lenA x5)) (A.eqN 5 5), A.and (A.eqN 5 5) (A.and (A.le 0 n3) (A.ltN (A.nat n3) (A.lenA x5))), A.and (A.ltN (A.addN j1 (A.nat n4)) (A.lenA x5)) (A.leN (A.addN 0 5) 5), A.and (A.eqN 5 5) (A.and (A.le 0 n4) (A.ltN (A.nat n4) j2)), true, true, true, true, A.not (sameN ((A.nthA x5 (A.addN j1 (A.nat n4))).cellAt 4).toI ((A.nthA x5 (A.addN j1 (A.nat (A.sub n4 1)))).cellAt 4).toI), true, A.and true true, A.and (A.ltN (A.addN j1 (A.nat (A.sub n4 1))) (A.lenA x5)) (A.leN (A.addN 0 5) 5), A.and (A.eqN 5 5) (A.and (A.le 0 (A.sub n4 1)) (A.ltN (A.nat (A.sub n4 1)) j2)), A.inR .i64 (A.sub n4 1), true, true, A.and (A.ltN (A.addN j1 (A.nat n4)) (A.lenA x5)) (A.leN (A.addN 0 5) 5), A.and (A.eqN 5 5) (A.and (A.le 0 n4) (A.ltN (A.nat n4) j2)), true, true, true, A.lt n4 (A.int (A.lenA (A.subA x5 j1 j2))), true, A.leN (A.addN j1 j2) (A.lenA x5), true, true],
   f121h121_1a (j1) (j2) (A.add n3 1) (A.add n4 1) (A.setA x5 (A.nat n3) (AV.agg (Row.gen [.int .i64 ((A.nthA x5 (A.addN j1 (A.nat n4))).cellAt 0).toI, .int .i64 ((A.nthA x5 (A.addN j1 (A.nat n4))).cellAt 1).toI, .int .i64 ((A.nthA x5 (A.addN j1 (A.nat n4))).cellAt 2).toI, .list (.ints .i64 ((A.nthA x5 (A.addN j1 (A.nat n4))).cellAt 3).toIs), .int .i64 ((A.nthA x5 (A.addN j1 (A.nat n4))).cellAt 4).toI]))), f121h121_1am (j1) (j2) (A.add n3 1) (A.add n4 1) (A.setA x5 (A.nat n3) (AV.agg (Row.gen [.int .i64 ((A.nthA x5 (A.addN j1 (A.nat n4))).cellAt 0).toI, .int .i64 ((A.nthA x5 (A.addN j1 (A.nat n4))).cellAt 1).toI, .int .i64 ((A.nthA x5 (A.addN j1 (A.nat n4))).cellAt 2).toI, .list (.ints .i64 ((A.nthA x5 (A.addN j1 (A.nat n4))).cellAt 3).toIs), .int .i64 ((A.nthA x5 (A.addN j1 (A.nat n4))).cellAt 4).toI])))) := by kernel_rfl
theorem f121p6 (A : Ar) (j1 : Nat) (j2 : Nat) (n3 : Int) (n4 : Int) (x5 : List AV) : gwalkL A tab BOj 26 [true, false] (f121h121_1a j1 j2 n3 n4 x5) (f121h121_1am j1 j2 n3 n4 x5) =
  some ([true, A.inR .i64 (A.add n4 1), true, !A.not (sameN ((A.nthA x5 (A.addN j1 (A.nat n4))).cellAt 4).toI ((A.nthA x5 (A.addN j1 (A.nat (A.sub n4 1)))).cellAt 4).toI), true, A.and true true, A.and (A.ltN (A.addN j1 (A.nat (A.sub n4 1))) (A.lenA x5)) (A.leN (A.addN 0 5) 5), A.and (A.eqN 5 5) (A.and (A.le 0 (A.sub n4 1)) (A.ltN (A.nat (A.sub n4 1)) j2)), A.inR .i64 (A.sub n4 1), true, true, A.and (A.ltN (A.addN j1 (A.nat n4)) (A.lenA x5)) (A.leN (A.addN 0 5) 5), A.and (A.eqN 5 5) (A.and (A.le 0 n4) (A.ltN (A.nat n4) j2)), true, true, true, A.lt n4 (A.int (A.lenA (A.subA x5 j1 j2))), true, A.leN (A.addN j1 j2) (A.lenA x5), true, true],
   f121h121_1a (j1) (j2) (n3) (A.add n4 1) (x5), f121h121_1am (j1) (j2) (n3) (A.add n4 1) (x5)) := by kernel_rfl
theorem f121p7 (A : Ar) (j1 : Nat) (j2 : Nat) (n3 : Int) (n4 : Int) (x5 : List AV) : gfinM A tab BOj 26 [false] 121 (f121h121_1a j1 j2 n3 n4 x5) (f121h121_1am j1 j2 n3 n4 x5) =
  some ([true, true, A.and (A.and true (A.le 0 n3)) (A.and (A.and (A.leN 0 (A.nat n3)) (A.leN (A.nat n3) (A.lenA (A.appA (A.appA (A.subA x5 0 (A.nat n3)) (A.repA (A.subN (A.lenA x5) (A.nat n3)) (AV.agg (Row.gen [.int .i64 0, .int .i64 0, .int .i64 0, .list (.ints .i64 []), .int .i64 0])))) (A.subA x5 (A.addN (A.nat n3) (A.lenA (A.repA (A.subN (A.lenA x5) (A.nat n3)) (AV.agg (Row.gen [.int .i64 0, .int .i64 0, .int .i64 0, .list (.ints .i64 []), .int .i64 0]))))) (A.lenA x5)))))) (A.and (A.eqN 5 5) true)), true, true, A.and (A.eqN 5 5) (A.leN (A.addN (A.nat n3) (A.subN (A.lenA x5) (A.nat n3))) (A.lenA x5)), A.and (A.and (A.le 0 n3) true) (A.and (A.and (A.leN (A.nat n3) (A.lenA x5)) (A.leN (A.lenA x5) (A.lenA x5))) (A.and (A.eqN 5 5) true)), true, true, !A.lt n4 (A.int (A.lenA (A.subA x5 j1 j2))), true, A.leN (A.addN j1 j2) (A.lenA x5), true, true],
   AV.slc 0 0 0 (A.subN (A.nat n3) 0) none, 140, 5, Row.big (.agg [.int .i64, .int .i64, .int .i64, .ints .i64, .int .i64]) (A.appA (A.appA (A.subA x5 0 (A.nat n3)) (A.repA (A.subN (A.lenA x5) (A.nat n3)) (AV.agg (Row.gen [.int .i64 0, .int .i64 0, .int .i64 0, .list (.ints .i64 []), .int .i64 0])))) (A.subA x5 (A.addN (A.nat n3) (A.lenA (A.repA (A.subN (A.lenA x5) (A.nat n3)) (AV.agg (Row.gen [.int .i64 0, .int .i64 0, .int .i64 0, .list (.ints .i64 []), .int .i64 0]))))) (A.lenA x5)))) := by kernel_rfl
end Go.Proofs.Ytjhdnpmojhkbjaa
/- Contracts as a list. No condition. -/
namespace Go.Proofs.Ytjhdnpmojhkbjaa
theorem muts_part {P : Program} {f : FuncId} {e : TypeId} {sz n : Nat} {x y : Row} {args : List AV} (h : Muts P f e sz x y args (.row 0 0)) (hn : n = y.elems.length) : Muts P f e sz x y args (.slc 0 0 0 n none) := by
  subst hn
  intro w okA L vs hok H hr
  refine (h w okA L vs hok H hr).mono ?_
  rintro e' w' ⟨v, L', rfl, hF, H2, rr⟩
  refine ⟨v, L', rfl, hF, H2, ?_⟩
  cases rr with
  | row _ _ g o n c hn hl =>
    have ht : (blk (frHeap (some ⟨e, sz, y⟩)) 0 0).tag = some (sz, y.elems.length) := rfl
    obtain ⟨rfl, rfl, rfl, rfl⟩ := hl.2 _ ht
    exact .slc 0 0 0 _ none _ _ _ hn ⟨hl.1, fun s hs => .inr ⟨rfl, by simp, by simp, by simp⟩⟩
def zN : AV := AV.agg (Row.gen [AV.int .i64 0, AV.int .i64 0, AV.int .i64 0, AV.list (.ints .i64 []), AV.int .i64 0])
def cpZ (xs : List AV) : List AV := cpN xs ++ List.replicate (xs.length - (cpN xs).length) zN
theorem cpA_len : ∀ (l : List AV) (p : AV), (cpA p l).length ≤ l.length
  | [], _ => Nat.le_refl _
  | y :: l, p => by
    unfold cpA
    have := cpA_len l y
    split <;> simp <;> omega
theorem cpN_len (l : List AV) : (cpN l).length ≤ l.length := by
  cases l with
  | nil => exact Nat.le_refl _
  | cons x l => simp only [cpN, List.length_cons]; have := cpA_len l x; omega
theorem s_repA (n : Nat) (v : AV) : std.repA n v = List.replicate n v := rfl
theorem cp_mid (X : List AV) (k : Nat) : sub3 X 0 k ++ List.replicate (X.length - k) zN ++ sub3 X (k + (List.replicate (X.length - k) zN).length) X.length = X.take k ++ List.replicate (X.length - k) zN := by
  have h1 : sub3 X 0 k = X.take k := by simp [sub3]
  have h2 : sub3 X (k + (List.replicate (X.length - k) zN).length) X.length = [] := by
    unfold sub3
    rw [List.length_replicate, List.drop_of_length_le (by omega), List.take_nil]
  rw [h1, h2, List.append_nil]
section
variable {C : Ctx} (hC : C.P = Try.prog) (xs : List AV) (hL : xs.length < 1000000) (hn : numsB xs = true)
include hC hL hn
theorem cp_in (j1 : Nat) : ∀ (d m k : Nat) (X : List AV), xs.length - (j1 + m) = d → 1 ≤ m → j1 + m ≤ xs.length → j1 ≤ k → k + 1 ≤ j1 + m → X.length = xs.length → (∀ t, j1 + m ≤ t + 1 → X.getD t .top = xs.getD t .top) →
    X.take k ++ cpA (xs.getD (j1 + m - 1) .top) (xs.drop (j1 + m)) = cpN xs →
    Ev C (f121h121_1a j1 (xs.length - j1) k m X) (f121h121_1am j1 (xs.length - j1) k m X) (FinM 121 140 5 (.big shN (cpZ xs)) (.slc 0 0 0 (cpN xs).length none)) := by
  intro d
  induction d with
  | zero =>
    intro m k X hd hm hjm hk hkm hX hg hinv
    have hjl : j1 + m = xs.length := by omega
    rw [List.drop_of_length_le (by omega), cpA, List.append_nil] at hinv
    have hkl : (cpN xs).length = k := by rw [← hinv, List.length_take]; omega
    have hw := f121p7 std j1 (xs.length - j1) k m X
    simp only [s_nat, s_appA, s_repA, s_lenA, s_addN, s_subN, Int.toNat_natCast] at hw
    rw [show (AV.agg (Row.gen [AV.int .i64 0, AV.int .i64 0, AV.int .i64 0, AV.list (.ints .i64 []), AV.int .i64 0])) = zN from rfl, show std.subA = sub3 from rfl, cp_mid X k] at hw
    refine finM hC BOj_ok hw ?_ (by rw [hkl]; rfl) rfl rfl (by rw [hinv, ← hkl, hX]; rfl)
    simp [hX, sub3]
    omega
  | succ d ih =>
    intro m k X hd hm hjm hk hkm hX hg hinv
    have hlt : j1 + m < xs.length := by omega
    have g1 : X.getD (j1 + m) .top = xs.getD (j1 + m) .top := hg _ (by omega)
    have g2 : X.getD (j1 + (m - 1)) .top = xs.getD (j1 + m - 1) .top := by
      rw [show j1 + (m - 1) = j1 + m - 1 by omega]; exact hg _ (by omega)
    have g3 : xs.getD (j1 + m) .top = xs[j1 + m] := by simp [hlt]
    have e1 : (std.sub (m : Int) 1).toNat = m - 1 := by simp
    have e2 : std.add (m : Int) 1 = ((m + 1 : Nat) : Int) := by simp
    have e3 : std.add (k : Int) 1 = ((k + 1 : Nat) : Int) := by simp
    have hv := numsB_get hn hlt
    rw [List.drop_eq_getElem_cons hlt, cpA] at hinv
    rw [← g3] at hinv
    have hidx : j1 + (m + 1) - 1 = j1 + m := by omega
    by_cases hs : keyN (xs.getD (j1 + m) .top) = keyN (xs.getD (j1 + m - 1) .top)
    · rw [if_pos hs] at hinv
      have hw := f121p6 std j1 (xs.length - j1) k m X
      simp only [s_nat, s_nthA, s_addN, Int.toNat_natCast, e1, e2] at hw
      simp only [g1, g2] at hw
      have hsm : sameN (keyN (xs.getD (j1 + m) .top)) (keyN (xs.getD (j1 + m - 1) .top)) = true := decide_eq_true hs
      have hsm' : sameN (AV.toI (AV.cellAt (xs.getD (j1 + m) .top) 4)) (AV.toI (AV.cellAt (xs.getD (j1 + m - 1) .top) 4)) = true := hsm
      rw [hsm'] at hw
      refine go hC BOj_ok hw ?_ (ih (m + 1) k X (by omega) (by omega) (by omega) hk (by omega) hX (fun t ht => hg t (by omega)) ?_)
      · simp [hX]; omega
      · rw [hidx]; exact hinv
    · rw [if_neg hs] at hinv
      have hw := f121p5 std j1 (xs.length - j1) k m X
      simp only [s_nat, s_nthA, s_setA, s_addN, Int.toNat_natCast, e1, e2, e3] at hw
      simp only [g1, g2] at hw
      have hsm : sameN (keyN (xs.getD (j1 + m) .top)) (keyN (xs.getD (j1 + m - 1) .top)) = false := decide_eq_false hs
      have hsm' : sameN (AV.toI (AV.cellAt (xs.getD (j1 + m) .top) 4)) (AV.toI (AV.cellAt (xs.getD (j1 + m - 1) .top) 4)) = false := hsm
      rw [hsm'] at hw
      rw [show (AV.agg (Row.gen [AV.int .i64 (AV.toI (AV.cellAt (xs.getD (j1 + m) .top) 0)), AV.int .i64 (AV.toI (AV.cellAt (xs.getD (j1 + m) .top) 1)), AV.int .i64 (AV.toI (AV.cellAt (xs.getD (j1 + m) .top) 2)), AV.list (.ints .i64 (AV.toIs (AV.cellAt (xs.getD (j1 + m) .top) 3))), AV.int .i64 (AV.toI (AV.cellAt (xs.getD (j1 + m) .top) 4))])) = xs.getD (j1 + m) .top from hv] at hw
      refine go hC BOj_ok hw ?_ (ih (m + 1) (k + 1) _ (by omega) (by omega) (by omega) (by omega) (by omega) (by rw [List.length_set]; exact hX) (fun t ht => ?_) ?_)
      · simp [hX]; omega
      · rw [List.getD_eq_getElem?_getD, List.getElem?_set_ne (by omega), ← List.getD_eq_getElem?_getD]
        exact hg t (by omega)
      · rw [hidx, ← hinv, List.take_set, List.take_succ_eq_append_getElem (by omega : k < X.length)]
        rw [List.set_append_right _ _ (by rw [List.length_take]; omega), List.length_take, Nat.min_eq_left (by omega), Nat.sub_self]
        simp [Nat.add_assoc]
theorem cp_out2 (hp : cpN xs ≠ xs) : ∀ (d i : Nat), xs.length - i = d → 1 ≤ i → i ≤ xs.length → xs.take i ++ cpA (xs.getD (i - 1) .top) (xs.drop i) = cpN xs →
    Ev C (f121h121_0a xs i) (f121h121_0am xs i) (FinM 121 140 5 (.big shN (cpZ xs)) (.slc 0 0 0 (cpN xs).length none)) := by
  intro d
  induction d with
  | zero =>
    intro i hd h1 hi hinv
    rw [List.drop_of_length_le (by omega), cpA, List.append_nil, List.take_of_length_le (by omega)] at hinv
    exact absurd hinv.symm hp
  | succ d ih =>
    intro i hd h1 hi hinv
    have hlt : i < xs.length := by omega
    have g3 : xs.getD i .top = xs[i] := by simp [hlt]
    have e1 : (std.sub (i : Int) 1).toNat = i - 1 := by simp
    have e2 : std.add (i : Int) 1 = ((i + 1 : Nat) : Int) := by simp
    rw [List.drop_eq_getElem_cons hlt, cpA, ← g3] at hinv
    by_cases hs : keyN (xs.getD i .top) = keyN (xs.getD (i - 1) .top)
    · rw [if_pos hs] at hinv
      have hw := f121p2 std xs i
      simp only [s_nat, s_nthA, Int.toNat_natCast, e1, s_subN, s_lenA] at hw
      have hsm : sameN (AV.toI (AV.cellAt (xs.getD i .top) 4)) (AV.toI (AV.cellAt (xs.getD (i - 1) .top) 4)) = true := decide_eq_true hs
      rw [hsm] at hw
      refine go hC BOj_ok hw (by simp; omega) ?_
      exact cp_in hC xs hL hn i _ 1 i xs rfl (Nat.le_refl _) (by omega) (Nat.le_refl _) (by omega) rfl (fun _ _ => rfl) (by rw [Nat.add_sub_cancel]; exact hinv)
    · rw [if_neg hs] at hinv
      have hw := f121p3 std xs i
      simp only [s_nat, s_nthA, Int.toNat_natCast, e1, e2] at hw
      have hsm : sameN (AV.toI (AV.cellAt (xs.getD i .top) 4)) (AV.toI (AV.cellAt (xs.getD (i - 1) .top) 4)) = false := decide_eq_false hs
      rw [hsm] at hw
      refine go hC BOj_ok hw (by simp; omega) (ih (i + 1) (by omega) (by omega) (by omega) ?_)
      rw [Nat.add_sub_cancel, ← hinv, List.take_succ_eq_append_getElem hlt, ← g3, List.append_assoc]
      rfl
theorem cp_some (hp : cpN xs ≠ xs) : Ev C (f121e xs) (f121em xs) (FinM 121 140 5 (.big shN (cpZ xs)) (.slc 0 0 0 (cpN xs).length none)) := by
  match xs, hL, hn, hp with
  | [], _, _, hp => exact absurd rfl hp
  | [x], _, _, hp => exact absurd rfl hp
  | x :: y :: l, hL, hn, hp =>
    refine go hC BOj_ok (f121p1 std (x :: y :: l)) (by simp; omega) ?_
    exact cp_out2 hC (x :: y :: l) hL hn hp _ 1 rfl (Nat.le_refl _) (by simp) rfl
end
section
variable {C : Ctx} (hC : C.P = Try.prog) (xs : List AV) (hL : xs.length < 1000000)
include hC hL
theorem cp_out1 : ∀ (d i : Nat), xs.length - i = d → 1 ≤ i → i ≤ xs.length → cpA (xs.getD (i - 1) .top) (xs.drop i) = xs.drop i →
    Ev C (f121h121_0a xs i) (f121h121_0am xs i) (FinM 121 140 5 (.big shN xs) (.row 0 0)) := by
  intro d
  induction d with
  | zero =>
    intro i hd h1 hi _
    exact finM hC BOj_ok (f121p4 std xs i) (by simp; omega) rfl rfl rfl rfl
  | succ d ih =>
    intro i hd h1 hi hinv
    have hlt : i < xs.length := by omega
    have g3 : xs.getD i .top = xs[i] := by simp [hlt]
    rw [List.drop_eq_getElem_cons hlt, cpA, ← g3] at hinv
    have hs : ¬ keyN (xs.getD i .top) = keyN (xs.getD (i - 1) .top) := fun hs => by
      rw [if_pos hs] at hinv
      have := cpA_len (xs.drop (i + 1)) (xs.getD i .top)
      rw [hinv, List.length_cons] at this
      omega
    rw [if_neg hs] at hinv
    have e1 : (std.sub (i : Int) 1).toNat = i - 1 := by simp
    have e2 : std.add (i : Int) 1 = ((i + 1 : Nat) : Int) := by simp
    have hw := f121p3 std xs i
    simp only [s_nat, s_nthA, Int.toNat_natCast, e1, e2] at hw
    have hsm : sameN (AV.toI (AV.cellAt (xs.getD i .top) 4)) (AV.toI (AV.cellAt (xs.getD (i - 1) .top) 4)) = false := decide_eq_false hs
    rw [hsm] at hw
    exact go hC BOj_ok hw (by simp; omega) (ih (i + 1) (by omega) (by omega) (by omega) (by rw [Nat.add_sub_cancel]; exact (List.cons.inj hinv).2))
theorem cp_all (hp : cpN xs = xs) : Ev C (f121e xs) (f121em xs) (FinM 121 140 5 (.big shN xs) (.row 0 0)) := by
  match xs, hL, hp with
  | [], _, _ => exact finM hC BOj_ok (f121p0 std []) (by simp) rfl rfl rfl rfl
  | [x], _, _ => exact finM hC BOj_ok (f121p0 std [x]) (by simp) rfl rfl rfl rfl
  | x :: y :: l, hL, hp =>
    refine go hC BOj_ok (f121p1 std (x :: y :: l)) (by simp; omega) ?_
    exact cp_out1 hC (x :: y :: l) hL _ 1 rfl (Nat.le_refl _) (by simp) (List.cons.inj hp).2
end
theorem compact121 (xs : List AV) (hL : xs.length < 1000000) (hn : numsB xs = true) : Muts Try.prog 121 140 5 (.big shN xs) (.big shN (cpZ xs)) [.fn 122 []] (.slc 0 0 0 (cpN xs).length none) := by
  by_cases hp : cpN xs = xs
  · have e : cpZ xs = xs := by unfold cpZ; rw [hp]; simp
    rw [e, hp]
    exact muts_part (startM (f121e_at xs) fun C hC => cp_all hC xs hL hp) (by simp [Row.elems])
  · exact startM (f121e_at xs) fun C hC => cp_some hC xs hL hn hp
theorem compact_ct (xs : List AV) (h : soB xs = true) : PureX Try.prog 1000121 [.list (.big shN xs), .fn 122 []] (.slc 0 0 0 (cpN xs).length none) (some ⟨140, 5, .big shN (cpZ xs)⟩) := by
  unfold soB at h
  simp only [Bool.and_eq_true, decide_eq_true_eq] at h
  exact pureX_mut (f := 121) rfl (compact121 xs (by omega) h.2)
def cpL (xs : List AV) : Nat := (cpN xs).length
theorem cpL_eq (xs : List AV) : cpL xs = (cpN xs).length := rfl
attribute [irreducible] cpZ cpL
def k121 : Ctr := ⟨1000121, 0, fun _ a => match a with | [.list (.big (.agg [.int .i64, .int .i64, .int .i64, .ints .i64, .int .i64]) xs), .fn 122 []] => some (decide (soB xs = true), .slc 0 0 0 (cpL xs) none, some ⟨140, 5, .big shN (cpZ xs)⟩) | _ => none⟩
theorem k121_ok : k121.OK Try.prog := fun pa args r fr h => by
  simp only [k121] at h
  split at h
  · simp only [Option.some.injEq, Prod.mk.injEq, decide_eq_true_eq] at h
    obtain ⟨h0, rfl, rfl⟩ := h
    exact (by rw [cpL_eq]; exact compact_ct _ h0)
  · cases h
def BOk : List Ctr := [k121] ++ BOj
theorem BOk_ok : CtrsOK Try.prog BOk := ⟨k121_ok, BOj_ok⟩
end Go.Proofs.Ytjhdnpmojhkbjaa
/- Paths of functions, printed by the explorer (Gx). No condition. -/
namespace Go.Proofs.Ytjhdnpmojhkbjaa
set_option maxRecDepth 100000
set_option linter.unusedVariables false
def f79e (c : Int) (fs : List AV) : List AFrame := [{ fn := 79, N := 60, env := [(0, AV.int .i64 c), (1, AV.list (Row.big (Sh.agg [Sh.int .i64, Sh.int .i64, Sh.int .i64, Sh.ints .i64]) fs))], todo := [.code a79.code], defs := [], rnd := none, ret := false, res := [ARes.tmp 4] }]
theorem f79e_at (c : Int) (fs : List AV) : enterA tab 79 [AV.int .i64 c, AV.list (Row.big (Sh.agg [Sh.int .i64, Sh.int .i64, Sh.int .i64, Sh.ints .i64]) fs)] = some { fn := 79, N := 60, env := [(0, AV.int .i64 c), (1, AV.list (Row.big (Sh.agg [Sh.int .i64, Sh.int .i64, Sh.int .i64, Sh.ints .i64]) fs))], todo := [.code a79.code], defs := [], rnd := none, ret := false, res := [ARes.tmp 4] } := rfl
def f79h79_0a (c : Int) (fs : List AV) (n0 : Int) (n1 : Int) : List AFrame := [{ fn := 79, N := 60, env := [(0, AV.int .i64 c), (5, AV.nils), (11, AV.list (Row.big (Sh.agg [Sh.int .i64, Sh.int .i64, Sh.int .i64, Sh.ints .i64]) fs)), (12, AV.int .i64 n0), (13, AV.int .i64 n1)], todo := .code (ACode.gh [] l79_0) :: k79_0, defs := [], rnd := none, ret := false, res := [ARes.tmp 4] }]
def f79h79_0am (c : Int) (fs : List AV) (n0 : Int) (n1 : Int) : AHeap := []
def f79h79_0b (c : Int) (fs : List AV) (n0 : Int) (n2 : Int) (x3 : List AV) : List AFrame := [{ fn := 79, N := 60, env := [(0, AV.int .i64 c), (5, AV.row 79055 0), (11, AV.list (Row.big (Sh.agg [Sh.int .i64, Sh.int .i64, Sh.int .i64, Sh.ints .i64]) fs)), (12, AV.int .i64 n0), (13, AV.int .i64 n2)], todo := .code (ACode.gh [] l79_0) :: k79_0, defs := [], rnd := none, ret := false, res := [ARes.tmp 4] }]
def f79h79_0bm (c : Int) (fs : List AV) (n0 : Int) (n2 : Int) (x3 : List AV) : AHeap := [(79055, { base := 0, blks := [Blk.row 140 5 (Row.big (Sh.agg [Sh.int .i64, Sh.int .i64, Sh.int .i64, Sh.ints .i64, Sh.int .i64]) x3)] })]
theorem f79p0 (A : Ar) (c : Int) (fs : List AV) : gwalkL A tab BOk 18 [] (f79e c fs) [] =
  some ([true, true, true, true, true],
   f79h79_0a (c) (fs) (A.int (A.lenA fs)) (0), f79h79_0am (c) (fs) (A.int (A.lenA fs)) (0)) := by kernel_rfl
theorem f79p1 (A : Ar) (c : Int) (fs : List AV) (n0 : Int) (n1 : Int) : gwalkL A tab BOk 33 [true, true] (f79h79_0a c fs n0 n1) (f79h79_0am c fs n0 n1) =
  some ([true, A.inR .i64 (A.add n1 1), A.not (A.eq ((A.nthA fs (A.nat n1)).cellAt 0).toI c), true, true, A.and (A.ltN 0 1) (A.ltN 0 4), true, A.and (A.ltN 0 1) (A.eqN 4 4), A.and true (A.ltN 0 4), A.leN (A.addN 0 4) 4, A.and (A.and (A.le 0 n1) (A.ltN (A.nat n1) (A.lenA fs))) (A.eqN 4 4), A.lt n1 n0, true],
   f79h79_0a (c) (fs) (n0) (A.add n1 1), f79h79_0am (c) (fs) (n0) (A.add n1 1)) := by kernel_rfl
theorem f79p2 (A : Ar) (c : Int) (fs : List AV) (n0 : Int) (n1 : Int) : gwalkL A tab BOk 60 [true, false, false] (f79h79_0a c fs n0 n1) (f79h79_0am c fs n0 n1) =
  some ([true, A.inR .i64 (A.add n1 1), true, A.and (A.and true (A.eqN 5 5)) (A.and (A.leN (A.lenA [AV.agg (Row.gen [.int .i64 ((A.nthA fs (A.nat n1)).cellAt 0).toI, .int .i64 ((A.nthA fs (A.nat n1)).cellAt 1).toI, .int .i64 ((A.nthA fs (A.nat n1)).cellAt 2).toI, .list (.ints .i64 ((A.nthA fs (A.nat n1)).cellAt 3).toIs), .int .i64 (A.add ((A.nthA fs (A.nat n1)).cellAt 1).toI 64)])]) 4294967296) (A.ltN 0 (A.lenA [AV.agg (Row.gen [.int .i64 ((A.nthA fs (A.nat n1)).cellAt 0).toI, .int .i64 ((A.nthA fs (A.nat n1)).cellAt 1).toI, .int .i64 ((A.nthA fs (A.nat n1)).cellAt 2).toI, .list (.ints .i64 ((A.nthA fs (A.nat n1)).cellAt 3).toIs), .int .i64 (A.add ((A.nthA fs (A.nat n1)).cellAt 1).toI 64)])]))), List.all [AV.agg (Row.gen [.int .i64 ((A.nthA fs (A.nat n1)).cellAt 0).toI, .int .i64 ((A.nthA fs (A.nat n1)).cellAt 1).toI, .int .i64 ((A.nthA fs (A.nat n1)).cellAt 2).toI, .list (.ints .i64 ((A.nthA fs (A.nat n1)).cellAt 3).toIs), .int .i64 (A.add ((A.nthA fs (A.nat n1)).cellAt 1).toI 64)])] fun x => AV.bx x && Nat.beq (flatLen A x) 5, A.and (A.ltN 0 1) (A.leN (A.addN 0 5) 5), true, !A.lt 0 (A.int 0), true, true, true, A.and (A.ltN 0 1) (A.eqN 5 5), A.and true (A.ltN 0 5), A.and (A.and true (A.eqN 4 4)) (A.and (A.leN (A.addN 0 4) 5) (A.and (A.ltN 0 4) (A.and (A.and true (A.eqN 1 1)) (A.and (A.leN (A.addN 4 1) 5) (A.and (A.ltN 0 1) true))))), A.inR .i64 (A.add ((A.nthA fs (A.nat n1)).cellAt 1).toI 64), A.and (A.ltN 0 1) (A.ltN 1 4), true, A.and (A.ltN 0 1) (A.leN (A.addN 0 4) 4), !A.not (A.eq ((A.nthA fs (A.nat n1)).cellAt 0).toI c), true, true, A.and (A.ltN 0 1) (A.ltN 0 4), true, A.and (A.ltN 0 1) (A.eqN 4 4), A.and true (A.ltN 0 4), A.leN (A.addN 0 4) 4, A.and (A.and (A.le 0 n1) (A.ltN (A.nat n1) (A.lenA fs))) (A.eqN 4 4), A.lt n1 n0, true],
   f79h79_0b (c) (fs) (n0) (A.add n1 1) ([AV.agg (Row.gen [.int .i64 ((A.nthA fs (A.nat n1)).cellAt 0).toI, .int .i64 ((A.nthA fs (A.nat n1)).cellAt 1).toI, .int .i64 ((A.nthA fs (A.nat n1)).cellAt 2).toI, .list (.ints .i64 ((A.nthA fs (A.nat n1)).cellAt 3).toIs), .int .i64 (A.add ((A.nthA fs (A.nat n1)).cellAt 1).toI 64)])]), f79h79_0bm (c) (fs) (n0) (A.add n1 1) ([AV.agg (Row.gen [.int .i64 ((A.nthA fs (A.nat n1)).cellAt 0).toI, .int .i64 ((A.nthA fs (A.nat n1)).cellAt 1).toI, .int .i64 ((A.nthA fs (A.nat n1)).cellAt 2).toI, .list (.ints .i64 ((A.nthA fs (A.nat n1)).cellAt 3).toIs), .int .i64 (A.add ((A.nthA fs (A.nat n1)).cellAt 1).toI 64)])])) := by kernel_rfl
theorem f79p3 (A : Ar) (c : Int) (fs : List AV) (n0 : Int) (n1 : Int) : gfin A tab BOk 20 [false] 79 (f79h79_0a c fs n0 n1) (f79h79_0am c fs n0 n1) =
  some ([A.and true (A.and true true), true, A.and true true, true, A.and true true, true, !A.lt n1 n0, true],
   AV.nils, none) := by kernel_rfl
theorem f79p4 (A : Ar) (c : Int) (fs : List AV) (n0 : Int) (n2 : Int) (x3 : List AV) : gwalkL A tab BOk 33 [true, true] (f79h79_0b c fs n0 n2 x3) (f79h79_0bm c fs n0 n2 x3) =
  some ([true, A.inR .i64 (A.add n2 1), A.not (A.eq ((A.nthA fs (A.nat n2)).cellAt 0).toI c), true, true, A.and (A.ltN 0 1) (A.ltN 0 4), true, A.and (A.ltN 0 1) (A.eqN 4 4), A.and true (A.ltN 0 4), A.leN (A.addN 0 4) 4, A.and (A.and (A.le 0 n2) (A.ltN (A.nat n2) (A.lenA fs))) (A.eqN 4 4), A.lt n2 n0, true],
   f79h79_0b (c) (fs) (n0) (A.add n2 1) (x3), f79h79_0bm (c) (fs) (n0) (A.add n2 1) (x3)) := by kernel_rfl
theorem f79p5 (A : Ar) (c : Int) (fs : List AV) (n0 : Int) (n2 : Int) (x3 : List AV) : gwalkL A tab BOk 102 [true, false, true, true] (f79h79_0b c fs n0 n2 x3) (f79h79_0bm c fs n0 n2 x3) =
  some ([true, A.inR .i64 (A.add n2 1), true, A.and (A.and true (A.eqN 5 5)) (A.and (A.eqN 140 140) (A.and (A.eqN 5 5) (A.leN (A.addN (A.lenA x3) (A.lenA [AV.agg (Row.gen [.int .i64 ((A.nthA fs (A.nat n2)).cellAt 0).toI, .int .i64 ((A.nthA fs (A.nat n2)).cellAt 1).toI, .int .i64 ((A.nthA fs (A.nat n2)).cellAt 2).toI, .list (.ints .i64 ((A.nthA fs (A.nat n2)).cellAt 3).toIs), .int .i64 (A.add ((A.nthA x3 (A.nat (A.sub (A.int (A.lenA x3)) 1))).cellAt 4).toI (A.sub (A.rem (A.add (A.rem (A.sub ((A.nthA fs (A.nat n2)).cellAt 1).toI ((A.nthA x3 (A.nat (A.sub (A.int (A.lenA x3)) 1))).cellAt 4).toI) 64) 64) 64) 64))])])) 4294967296))), List.all [AV.agg (Row.gen [.int .i64 ((A.nthA fs (A.nat n2)).cellAt 0).toI, .int .i64 ((A.nthA fs (A.nat n2)).cellAt 1).toI, .int .i64 ((A.nthA fs (A.nat n2)).cellAt 2).toI, .list (.ints .i64 ((A.nthA fs (A.nat n2)).cellAt 3).toIs), .int .i64 (A.add ((A.nthA x3 (A.nat (A.sub (A.int (A.lenA x3)) 1))).cellAt 4).toI (A.sub (A.rem (A.add (A.rem (A.sub ((A.nthA fs (A.nat n2)).cellAt 1).toI ((A.nthA x3 (A.nat (A.sub (A.int (A.lenA x3)) 1))).cellAt 4).toI) 64) 64) 64) 64))])] fun x => AV.bx x && Nat.beq (flatLen A x) 5, A.and (A.ltN 0 1) (A.leN (A.addN 0 5) 5), true, A.and (A.ltN 0 1) (A.and (A.and true (A.eqN 1 1)) (A.ltN 4 5)), true, A.inR .i64 (A.add ((A.nthA x3 (A.nat (A.sub (A.int (A.lenA x3)) 1))).cellAt 4).toI (A.sub (A.rem (A.add (A.rem (A.sub ((A.nthA fs (A.nat n2)).cellAt 1).toI ((A.nthA x3 (A.nat (A.sub (A.int (A.lenA x3)) 1))).cellAt 4).toI) 64) 64) 64) 64)), true, true, true, A.inR .i64 (A.sub (A.rem (A.add (A.rem (A.sub ((A.nthA fs (A.nat n2)).cellAt 1).toI ((A.nthA x3 (A.nat (A.sub (A.int (A.lenA x3)) 1))).cellAt 4).toI) 64) 64) 64) 64), true, A.lt 32 (A.rem (A.add (A.rem (A.sub ((A.nthA fs (A.nat n2)).cellAt 1).toI ((A.nthA x3 (A.nat (A.sub (A.int (A.lenA x3)) 1))).cellAt 4).toI) 64) 64) 64), true, true, true, A.not (A.eq 64 0), A.inR .i64 (A.add (A.rem (A.sub ((A.nthA fs (A.nat n2)).cellAt 1).toI ((A.nthA x3 (A.nat (A.sub (A.int (A.lenA x3)) 1))).cellAt 4).toI) 64) 64), A.not (A.eq 64 0), A.inR .i64 (A.sub ((A.nthA fs (A.nat n2)).cellAt 1).toI ((A.nthA x3 (A.nat (A.sub (A.int (A.lenA x3)) 1))).cellAt 4).toI), true, A.and (A.ltN 0 1) (A.ltN 1 4), true, true, A.and (A.ltN (A.nat (A.sub (A.int (A.lenA x3)) 1)) (A.lenA x3)) (A.ltN 4 5), true, A.and (A.eqN 5 5) (A.and (A.le 0 (A.sub (A.int (A.lenA x3)) 1)) (A.ltN (A.nat (A.sub (A.int (A.lenA x3)) 1)) (A.lenA x3))), A.inR .i64 (A.sub (A.int (A.lenA x3)) 1), true, true, true, A.lt 0 (A.int (A.lenA x3)), true, true, true, A.and (A.ltN 0 1) (A.eqN 5 5), A.and true (A.ltN 0 5), A.and (A.and true (A.eqN 4 4)) (A.and (A.leN (A.addN 0 4) 5) (A.and (A.ltN 0 4) (A.and (A.and true (A.eqN 1 1)) (A.and (A.leN (A.addN 4 1) 5) (A.and (A.ltN 0 1) true))))), A.inR .i64 (A.add ((A.nthA fs (A.nat n2)).cellAt 1).toI 64), A.and (A.ltN 0 1) (A.ltN 1 4), true, A.and (A.ltN 0 1) (A.leN (A.addN 0 4) 4), !A.not (A.eq ((A.nthA fs (A.nat n2)).cellAt 0).toI c), true, true, A.and (A.ltN 0 1) (A.ltN 0 4), true, A.and (A.ltN 0 1) (A.eqN 4 4), A.and true (A.ltN 0 4), A.leN (A.addN 0 4) 4, A.and (A.and (A.le 0 n2) (A.ltN (A.nat n2) (A.lenA fs))) (A.eqN 4 4), A.lt n2 n0, true],
   f79h79_0b (c) (fs) (n0) (A.add n2 1) (A.appA x3 [AV.agg (Row.gen [.int .i64 ((A.nthA fs (A.nat n2)).cellAt 0).toI, .int .i64 ((A.nthA fs (A.nat n2)).cellAt 1).toI, .int .i64 ((A.nthA fs (A.nat n2)).cellAt 2).toI, .list (.ints .i64 ((A.nthA fs (A.nat n2)).cellAt 3).toIs), .int .i64 (A.add ((A.nthA x3 (A.nat (A.sub (A.int (A.lenA x3)) 1))).cellAt 4).toI (A.sub (A.rem (A.add (A.rem (A.sub ((A.nthA fs (A.nat n2)).cellAt 1).toI ((A.nthA x3 (A.nat (A.sub (A.int (A.lenA x3)) 1))).cellAt 4).toI) 64) 64) 64) 64))])]), f79h79_0bm (c) (fs) (n0) (A.add n2 1) (A.appA x3 [AV.agg (Row.gen [.int .i64 ((A.nthA fs (A.nat n2)).cellAt 0).toI, .int .i64 ((A.nthA fs (A.nat n2)).cellAt 1).toI, .int .i64 ((A.nthA fs (A.nat n2)).cellAt 2).toI, .list (.ints .i64 ((A.nthA fs (A.nat n2)).cellAt 3).toIs), .int .i64 (A.add ((A.nthA x3 (A.nat (A.sub (A.int (A.lenA x3)) 1))).cellAt 4).toI (A.sub (A.rem (A.add (A.rem (A.sub ((A.nthA fs (A.nat n2)).cellAt 1).toI ((A.nthA x3 (A.nat (A.sub (A.int (A.lenA x3)) 1))).cellAt 4).toI) 64) 64) 64) 64))])])) := by kernel_rfl
theorem f79p6 (A : Ar) (c : Int) (fs : List AV) (n0 : Int) (n2 : Int) (x3 : List AV) : gwalkL A tab BOk 98 [true, false, true, false] (f79h79_0b c fs n0 n2 x3) (f79h79_0bm c fs n0 n2 x3) =
  some ([true, A.inR .i64 (A.add n2 1), true, A.and (A.and true (A.eqN 5 5)) (A.and (A.eqN 140 140) (A.and (A.eqN 5 5) (A.leN (A.addN (A.lenA x3) (A.lenA [AV.agg (Row.gen [.int .i64 ((A.nthA fs (A.nat n2)).cellAt 0).toI, .int .i64 ((A.nthA fs (A.nat n2)).cellAt 1).toI, .int .i64 ((A.nthA fs (A.nat n2)).cellAt 2).toI, .list (.ints .i64 ((A.nthA fs (A.nat n2)).cellAt 3).toIs), .int .i64 (A.add ((A.nthA x3 (A.nat (A.sub (A.int (A.lenA x3)) 1))).cellAt 4).toI (A.rem (A.add (A.rem (A.sub ((A.nthA fs (A.nat n2)).cellAt 1).toI ((A.nthA x3 (A.nat (A.sub (A.int (A.lenA x3)) 1))).cellAt 4).toI) 64) 64) 64))])])) 4294967296))), List.all [AV.agg (Row.gen [.int .i64 ((A.nthA fs (A.nat n2)).cellAt 0).toI, .int .i64 ((A.nthA fs (A.nat n2)).cellAt 1).toI, .int .i64 ((A.nthA fs (A.nat n2)).cellAt 2).toI, .list (.ints .i64 ((A.nthA fs (A.nat n2)).cellAt 3).toIs), .int .i64 (A.add ((A.nthA x3 (A.nat (A.sub (A.int (A.lenA x3)) 1))).cellAt 4).toI (A.rem (A.add (A.rem (A.sub ((A.nthA fs (A.nat n2)).cellAt 1).toI ((A.nthA x3 (A.nat (A.sub (A.int (A.lenA x3)) 1))).cellAt 4).toI) 64) 64) 64))])] fun x => AV.bx x && Nat.beq (flatLen A x) 5, A.and (A.ltN 0 1) (A.leN (A.addN 0 5) 5), true, A.and (A.ltN 0 1) (A.and (A.and true (A.eqN 1 1)) (A.ltN 4 5)), true, A.inR .i64 (A.add ((A.nthA x3 (A.nat (A.sub (A.int (A.lenA x3)) 1))).cellAt 4).toI (A.rem (A.add (A.rem (A.sub ((A.nthA fs (A.nat n2)).cellAt 1).toI ((A.nthA x3 (A.nat (A.sub (A.int (A.lenA x3)) 1))).cellAt 4).toI) 64) 64) 64)), true, true, !A.lt 32 (A.rem (A.add (A.rem (A.sub ((A.nthA fs (A.nat n2)).cellAt 1).toI ((A.nthA x3 (A.nat (A.sub (A.int (A.lenA x3)) 1))).cellAt 4).toI) 64) 64) 64), true, true, true, A.not (A.eq 64 0), A.inR .i64 (A.add (A.rem (A.sub ((A.nthA fs (A.nat n2)).cellAt 1).toI ((A.nthA x3 (A.nat (A.sub (A.int (A.lenA x3)) 1))).cellAt 4).toI) 64) 64), A.not (A.eq 64 0), A.inR .i64 (A.sub ((A.nthA fs (A.nat n2)).cellAt 1).toI ((A.nthA x3 (A.nat (A.sub (A.int (A.lenA x3)) 1))).cellAt 4).toI), true, A.and (A.ltN 0 1) (A.ltN 1 4), true, true, A.and (A.ltN (A.nat (A.sub (A.int (A.lenA x3)) 1)) (A.lenA x3)) (A.ltN 4 5), true, A.and (A.eqN 5 5) (A.and (A.le 0 (A.sub (A.int (A.lenA x3)) 1)) (A.ltN (A.nat (A.sub (A.int (A.lenA x3)) 1)) (A.lenA x3))), A.inR .i64 (A.sub (A.int (A.lenA x3)) 1), true, true, true, A.lt 0 (A.int (A.lenA x3)), true, true, true, A.and (A.ltN 0 1) (A.eqN 5 5), A.and true (A.ltN 0 5), A.and (A.and true (A.eqN 4 4)) (A.and (A.leN (A.addN 0 4) 5) (A.and (A.ltN 0 4) (A.and (A.and true (A.eqN 1 1)) (A.and (A.leN (A.addN 4 1) 5) (A.and (A.ltN 0 1) true))))), A.inR .i64 (A.add ((A.nthA fs (A.nat n2)).cellAt 1).toI 64), A.and (A.ltN 0 1) (A.ltN 1 4), true, A.and (A.ltN 0 1) (A.leN (A.addN 0 4) 4), !A.not (A.eq ((A.nthA fs (A.nat n2)).cellAt 0).toI c), true, true, A.and (A.ltN 0 1) (A.ltN 0 4), true, A.and (A.ltN 0 1) (A.eqN 4 4), A.and true (A.ltN 0 4), A.leN (A.addN 0 4) 4, A.and (A.and (A.le 0 n2) (A.ltN (A.nat n2) (A.lenA fs))) (A.eqN 4 4), A.lt n2 n0, true],
   f79h79_0b (c) (fs) (n0) (A.add n2 1) (A.appA x3 [AV.agg (Row.gen [.int .i64 ((A.nthA fs (A.nat n2)).cellAt 0).toI, .int .i64 ((A.nthA fs (A.nat n2)).cellAt 1).toI, .int .i64 ((A.nthA fs (A.nat n2)).cellAt 2).toI, .list (.ints .i64 ((A.nthA fs (A.nat n2)).cellAt 3).toIs), .int .i64 (A.add ((A.nthA x3 (A.nat (A.sub (A.int (A.lenA x3)) 1))).cellAt 4).toI (A.rem (A.add (A.rem (A.sub ((A.nthA fs (A.nat n2)).cellAt 1).toI ((A.nthA x3 (A.nat (A.sub (A.int (A.lenA x3)) 1))).cellAt 4).toI) 64) 64) 64))])]), f79h79_0bm (c) (fs) (n0) (A.add n2 1) (A.appA x3 [AV.agg (Row.gen [.int .i64 ((A.nthA fs (A.nat n2)).cellAt 0).toI, .int .i64 ((A.nthA fs (A.nat n2)).cellAt 1).toI, .int .i64 ((A.nthA fs (A.nat n2)).cellAt 2).toI, .list (.ints .i64 ((A.nthA fs (A.nat n2)).cellAt 3).toIs), .int .i64 (A.add ((A.nthA x3 (A.nat (A.sub (A.int (A.lenA x3)) 1))).cellAt 4).toI (A.rem (A.add (A.rem (A.sub ((A.nthA fs (A.nat n2)).cellAt 1).toI ((A.nthA x3 (A.nat (A.sub (A.int (A.lenA x3)) 1))).cellAt 4).toI) 64) 64) 64))])])) := by kernel_rfl
theorem f79p8 (A : Ar) (c : Int) (fs : List AV) (n0 : Int) (n2 : Int) (x3 : List AV) : gfin A tab BOk 20 [false] 79 (f79h79_0b c fs n0 n2 x3) (f79h79_0bm c fs n0 n2 x3) =
  some ([A.and true (A.and true true), true, A.and (A.leN (cpL (List.foldl insN [] x3)) (A.lenA (cpZ (List.foldl insN [] x3)))) (A.and (decide (soB (List.foldl insN [] x3) = true)) (A.and (A.eqN 140 140) (A.eqN 5 5))), true, A.and (decide (soB x3 = true)) (A.and (A.eqN 140 140) (A.eqN 5 5)), true, !A.lt n2 n0, true],
   AV.row 0 0, some { e := 140, sz := 5, r := Row.big (.agg [.int .i64, .int .i64, .int .i64, .ints .i64, .int .i64]) (A.subA (cpZ (List.foldl insN [] x3)) 0 (cpL (List.foldl insN [] x3))) }) := by kernel_rfl
end Go.Proofs.Ytjhdnpmojhkbjaa
/- Contracts as a list. No condition. -/
namespace Go.Proofs.Ytjhdnpmojhkbjaa
theorem frzN_row {f : FuncId} {args : List AV} {e sz : Nat} {r : Row} (h : Pure Try.prog f args (.row 0 0) (some ⟨e, sz + 1, r⟩)) (hp : r.pure = true) : Pure Try.prog f args (.list r) none := by
  intro w okA L vs hargs hok
  refine (h w okA L vs hargs hok).mono ?_
  rintro e' w' ⟨x, L', rfl, hb, hpo⟩
  obtain ⟨H, hr⟩ : HRel (Ctx.of Try.prog w okA []) (frHeap (some ⟨e, sz + 1, r⟩)) L' w' ∧ RelC (Ctx.of Try.prog w okA []) (frHeap (some ⟨e, sz + 1, r⟩)) L' w' (.row 0 0) x := hpo
  refine ⟨x, L', rfl, hb, ?_⟩
  show HRel _ (frHeap none) L' w' ∧ RelC _ (frHeap none) L' w' (.list r) x
  refine ⟨H.nil, ?_⟩
  have hbk : blk (frHeap (some ⟨e, sz + 1, r⟩)) 0 0 = .row e (sz + 1) r := rfl
  obtain ⟨ht, h0, h1, h2, h3, cur, h4, h5, h6, h7, h8⟩ := H.rowAt hbk
  have hl := H.live 0 0 (by rw [ht]; simp)
  cases hr with
  | row _ _ g o n c hn hlv =>
    obtain ⟨rfl, rfl, rfl, rfl⟩ := hlv.2 _ ht
    have hpa := pureL_flatAll hp
    exact .list r _ rfl ⟨L'.loc 0 0, 0, none⟩ _ _ (sz + 1) _ hl.2 (.inr ⟨hl.1, fun a i ht => absurd rfl ht⟩) rfl hn h3 h6.1.symm h7 (fun j v hj => h8 j v hj) hpa
      (fun j u v hu hv => ((h6.2 j u v hu hv).okmono (fun g _ ho => okOf_nil ho)).pure (AV.pureL_mem hpa hu))
theorem near_walk (L c : Int) : ((c - L).tmod 64 + 64).tmod 64 = modI (c - L) 64 := by
  rw [modI_emod]
  rcases Int.le_total 0 (c - L) with h | h
  · rw [Int.tmod_eq_emod_of_nonneg h, Int.tmod_eq_emod_of_nonneg (by omega)]; omega
  · obtain ⟨y, hy⟩ : ∃ y, c - L = -y := ⟨-(c - L), by omega⟩
    rw [hy, Int.neg_tmod, Int.tmod_eq_emod_of_nonneg (by omega : (0 : Int) ≤ y), Int.tmod_eq_emod_of_nonneg (by omega)]; omega
def lastN (X : List AV) : Int := keyN (X.getD (X.length - 1) .top)
theorem lastN_snoc (X : List AV) (x : AV) : lastN (X ++ [x]) = keyN x := by
  unfold lastN
  simp
theorem numsB_num (X : List AV) (f : AV) (k : Int) (h : numsB X = true) : numsB (X ++ [numF f k]) = true := by
  rw [numsB_app, h]; rfl
theorem tmod_rng (x : Int) : -64 < x.tmod 64 ∧ x.tmod 64 < 64 := by
  rcases Int.le_total 0 x with h | h
  · rw [Int.tmod_eq_emod_of_nonneg h]; omega
  · obtain ⟨y, rfl⟩ : ∃ y, x = -y := ⟨-x, by omega⟩
    rw [Int.neg_tmod, Int.tmod_eq_emod_of_nonneg (by omega : (0 : Int) ≤ y)]; omega
theorem numsB_sort {X : List AV} (h : numsB X = true) : numsB (sortN X) = true := by
  unfold numsB at *
  rw [List.all_eq_true] at *
  intro x hx
  exact h x (mem_sortN hx)
def ordL (c : Int) (fs : List AV) : List AV := cpN (sortN (numR0 c fs))
section
variable {C : Ctx} (hC : C.P = Try.prog) (c : Int) (fs : List AV) (hfl : fs.length < 10000) (hct : ctB fs = true)
include hC hfl hct
theorem ord_b : ∀ (d i : Nat) (X : List AV), fs.length - i = d → i ≤ fs.length → X ≠ [] → X.length ≤ i → numsB X = true → (-32 * (i : Int) ≤ lastN X ∧ lastN X ≤ 200 + 32 * i) → X ++ numR c (fs.drop i) (lastN X) = numR0 c fs →
    Ev C (f79h79_0b c fs fs.length i X) (f79h79_0bm c fs fs.length i X) (FinQ 79 (.row 0 0) (some ⟨140, 5, .big shN (ordL c fs)⟩)) := by
  intro d
  induction d with
  | zero =>
    intro i X hd hi hX hXl hn hb hinv
    rw [List.drop_of_length_le (by omega), numR, List.append_nil] at hinv
    have hw := f79p8 std c fs fs.length i X
    rw [show List.foldl insN [] X = sortN X from rfl, cpL_eq] at hw
    have hl : (sortN X).length = X.length := sortN_len X
    have hsl := cpN_len (sortN X)
    have s1 : soB X = true := by unfold soB; rw [hn, Bool.and_true]; exact decide_eq_true (by omega)
    have s2 : soB (sortN X) = true := by unfold soB; rw [numsB_sort hn, Bool.and_true]; exact decide_eq_true (by omega)
    have hz : (cpZ (sortN X)).length = (sortN X).length := by unfold cpZ; rw [List.length_append, List.length_replicate]; omega
    have hz2 : std.subA (cpZ (sortN X)) 0 (cpN (sortN X)).length = cpN (sortN X) := by
      show sub3 _ _ _ = _
      unfold cpZ sub3
      simp
    rw [hz2, s1, s2] at hw
    refine fin hC BOk_ok hw ?_ rfl ?_
    · simp only [s_lenA, hz]; simp [hl]; omega
    · unfold ordL; rw [← hinv]
  | succ d ih =>
    intro i X hd hi hX hXl hn hb hinv
    have hlt : i < fs.length := by omega
    have hg : fs.getD i .top = fs[i] := by simp [hlt]
    have hcf : 0 ≤ ctF fs[i] ∧ ctF fs[i] ≤ 63 := by
      have := List.all_eq_true.mp hct fs[i] (List.getElem_mem hlt)
      exact of_decide_eq_true this
    have hXp : 0 < X.length := List.length_pos_iff.mpr hX
    have e1 : (std.sub (std.int X.length) 1).toNat = X.length - 1 := by simp
    have e2 : std.add (i : Int) 1 = ((i + 1 : Nat) : Int) := by simp
    rw [List.drop_eq_getElem_cons hlt, numR] at hinv
    by_cases hch : chF fs[i] = c
    · rw [if_pos hch] at hinv
      have hch' : AV.toI (AV.cellAt fs[i] 0) = c := hch
      have hnr := nearI_ge (lastN X) (ctF fs[i])
      have hm := near_walk (lastN X) (ctF fs[i])
      have hm2 := modI_emod (ctF fs[i] - lastN X)
      have hne : nearI (lastN X) (ctF fs[i]) = if modI (ctF fs[i] - lastN X) 64 ≤ 32 then lastN X + modI (ctF fs[i] - lastN X) 64 else lastN X + modI (ctF fs[i] - lastN X) 64 - 64 := rfl
      have ih' := ih (i + 1) (X ++ [numF fs[i] (nearI (lastN X) (ctF fs[i]))]) (by omega) (by omega) (by simp) (by simp; omega) (numsB_num _ _ _ hn) (by rw [lastN_snoc, key_num]; omega) (by rw [lastN_snoc, key_num, List.append_assoc]; exact hinv)
      by_cases hm3 : modI (ctF fs[i] - lastN X) 64 ≤ 32
      · rw [if_pos hm3] at hne
        have hw := f79p6 std c fs fs.length i X
        simp only [s_nat, s_nthA, s_lenA, s_appA, Int.toNat_natCast, hg, e1, e2, hch'] at hw
        simp only [show (AV.cellAt fs[i] 1).toI = ctF fs[i] from rfl, show (AV.cellAt (X.getD (X.length - 1) .top) 4).toI = lastN X from rfl] at hw
        simp only [s_sub, s_add, s_rem, hm] at hw
        rw [← hne] at hw
        rw [← hch', show (AV.agg (Row.gen [AV.int .i64 (AV.toI (AV.cellAt fs[i] 0)), AV.int .i64 (ctF fs[i]), AV.int .i64 (AV.toI (AV.cellAt fs[i] 2)), AV.list (.ints .i64 (AV.toIs (AV.cellAt fs[i] 3))), AV.int .i64 (nearI (lastN X) (ctF fs[i]))])) = numF fs[i] (nearI (lastN X) (ctF fs[i])) from rfl, hch'] at hw
        refine go hC BOk_ok hw ?_ ih'
        have hr := tmod_rng (ctF fs[i] - lastN X)
        generalize lastN X = L at *
        generalize ctF fs[i] = q at *
        simp [hlt, AV.bx, flatLen, Row.len, numF]
        omega
      · rw [if_neg hm3] at hne
        have hw := f79p5 std c fs fs.length i X
        simp only [s_nat, s_nthA, s_lenA, s_appA, Int.toNat_natCast, hg, e1, e2, hch'] at hw
        simp only [show (AV.cellAt fs[i] 1).toI = ctF fs[i] from rfl, show (AV.cellAt (X.getD (X.length - 1) .top) 4).toI = lastN X from rfl] at hw
        simp only [s_sub, s_add, s_rem, hm] at hw
        rw [Int.add_sub_assoc] at hne
        rw [← hne] at hw
        rw [← hch', show (AV.agg (Row.gen [AV.int .i64 (AV.toI (AV.cellAt fs[i] 0)), AV.int .i64 (ctF fs[i]), AV.int .i64 (AV.toI (AV.cellAt fs[i] 2)), AV.list (.ints .i64 (AV.toIs (AV.cellAt fs[i] 3))), AV.int .i64 (nearI (lastN X) (ctF fs[i]))])) = numF fs[i] (nearI (lastN X) (ctF fs[i])) from rfl, hch'] at hw
        refine go hC BOk_ok hw ?_ ih'
        have hr := tmod_rng (ctF fs[i] - lastN X)
        generalize lastN X = L at *
        generalize ctF fs[i] = q at *
        simp [hlt, AV.bx, flatLen, Row.len, numF]
        omega
    · rw [if_neg hch] at hinv
      have hch' : ¬ AV.toI (AV.cellAt fs[i] 0) = c := hch
      have hw := f79p4 std c fs fs.length i X
      simp only [s_nat, s_nthA, Int.toNat_natCast, hg, e2] at hw
      exact go hC BOk_ok hw (by simp [hlt, hch']; omega) (ih (i + 1) X (by omega) (by omega) hX (by omega) hn (by omega) hinv)
theorem ord_a : ∀ (d i : Nat), fs.length - i = d → i ≤ fs.length → (numR0 c (fs.drop i) = numR0 c fs) → numR0 c fs ≠ [] →
    Ev C (f79h79_0a c fs fs.length i) (f79h79_0am c fs fs.length i) (FinQ 79 (.row 0 0) (some ⟨140, 5, .big shN (ordL c fs)⟩)) := by
  intro d
  induction d with
  | zero =>
    intro i hd hi hinv hne
    rw [List.drop_of_length_le (by omega)] at hinv
    exact absurd hinv.symm hne
  | succ d ih =>
    intro i hd hi hinv hne
    have hlt : i < fs.length := by omega
    have hg : fs.getD i .top = fs[i] := by simp [hlt]
    have hcf : 0 ≤ ctF fs[i] ∧ ctF fs[i] ≤ 63 := by
      have := List.all_eq_true.mp hct fs[i] (List.getElem_mem hlt)
      exact of_decide_eq_true this
    have e2 : std.add (i : Int) 1 = ((i + 1 : Nat) : Int) := by simp
    rw [List.drop_eq_getElem_cons hlt, numR0] at hinv
    by_cases hch : chF fs[i] = c
    · rw [if_pos hch] at hinv
      have hch' : AV.toI (AV.cellAt fs[i] 0) = c := hch
      have hw := f79p2 std c fs fs.length i
      simp only [s_nat, s_nthA, Int.toNat_natCast, hg, e2, hch'] at hw
      simp only [show (AV.cellAt fs[i] 1).toI = ctF fs[i] from rfl, s_add] at hw
      rw [← hch', show (AV.agg (Row.gen [AV.int .i64 (AV.toI (AV.cellAt fs[i] 0)), AV.int .i64 (ctF fs[i]), AV.int .i64 (AV.toI (AV.cellAt fs[i] 2)), AV.list (.ints .i64 (AV.toIs (AV.cellAt fs[i] 3))), AV.int .i64 (ctF fs[i] + 64)])) = numF fs[i] (ctF fs[i] + 64) from rfl, hch'] at hw
      refine go hC BOk_ok hw ?_ (ord_b hC c fs hfl hct _ (i + 1) [numF fs[i] (ctF fs[i] + 64)] rfl (by omega) (by simp) (by simp) rfl ?_ ?_)
      · generalize ctF fs[i] = q at *
        simp [hlt, AV.bx, flatLen, Row.len, numF]
        omega
      · show -32 * (((i + 1 : Nat) : Nat) : Int) ≤ ctF fs[i] + 64 ∧ ctF fs[i] + 64 ≤ 200 + 32 * (((i + 1 : Nat) : Nat) : Int)
        omega
      · exact hinv
    · rw [if_neg hch] at hinv
      have hch' : ¬ AV.toI (AV.cellAt fs[i] 0) = c := hch
      have hw := f79p1 std c fs fs.length i
      simp only [s_nat, s_nthA, Int.toNat_natCast, hg, e2] at hw
      exact go hC BOk_ok hw (by simp [hlt, hch']; omega) (ih (i + 1) (by omega) (by omega) hinv hne)
end
section
variable {C : Ctx} (hC : C.P = Try.prog) (c : Int) (fs : List AV) (hfl : fs.length < 10000)
include hC hfl
theorem ord_n : ∀ (d i : Nat), fs.length - i = d → i ≤ fs.length → numR0 c (fs.drop i) = [] →
    Ev C (f79h79_0a c fs fs.length i) (f79h79_0am c fs fs.length i) (FinQ 79 .nils none) := by
  intro d
  induction d with
  | zero => intro i hd hi _; exact fin hC BOk_ok (f79p3 std c fs fs.length i) (by simp; omega) rfl rfl
  | succ d ih =>
    intro i hd hi hinv
    have hlt : i < fs.length := by omega
    have hg : fs.getD i .top = fs[i] := by simp [hlt]
    have e2 : std.add (i : Int) 1 = ((i + 1 : Nat) : Int) := by simp
    rw [List.drop_eq_getElem_cons hlt, numR0] at hinv
    by_cases hch : chF fs[i] = c
    · rw [if_pos hch] at hinv; cases hinv
    · rw [if_neg hch] at hinv
      have hch' : ¬ AV.toI (AV.cellAt fs[i] 0) = c := hch
      have hw := f79p1 std c fs fs.length i
      simp only [s_nat, s_nthA, Int.toNat_natCast, hg, e2] at hw
      exact go hC BOk_ok hw (by simp [hlt, hch']; omega) (ih (i + 1) (by omega) (by omega) hinv)
end
theorem ord79 (c : Int) (fs : List AV) (h : nmB fs = true) : Pure Try.prog 79 [.int .i64 c, .list (.big shFr fs)] (.list (.big shN (ordL c fs))) none := by
  unfold nmB at h
  simp only [Bool.and_eq_true, decide_eq_true_eq] at h
  by_cases h0 : numR0 c fs = []
  · have e : ordL c fs = [] := by unfold ordL; rw [h0]; rfl
    rw [e]
    exact wk2 (start (f79e_at c fs) fun C hC => go hC BOk_ok (f79p0 std c fs) (by simp) (by
      have := ord_n hC c fs h.1 fs.length 0 (by omega) (by omega) (by simpa using h0)
      simpa using this)) (.one (.nil _ rfl))
  · exact frzN_row (e := 140) (sz := 4) (start (f79e_at c fs) fun C hC => go hC BOk_ok (f79p0 std c fs) (by simp) (by
      have := ord_a hC c fs h.1 h.2 fs.length 0 (by omega) (by omega) (by simp) h0
      simpa using this)) rfl
theorem ordL_eq (c : Int) (fs : List AV) : ordL c fs = cpN (sortN (numR0 c fs)) := rfl
attribute [irreducible] ordL
def k79 : Ctr := ⟨79, 0, fun _ a => match a with | [.int .i64 c, .list (.big (.agg [.int .i64, .int .i64, .int .i64, .ints .i64]) fs)] => some (decide (nmB fs = true), .list (.big shN (ordL c fs)), none) | _ => none⟩
theorem k79_ok : k79.OK Try.prog := fun pa args r fr h => by
  simp only [k79] at h
  split at h
  · simp only [Option.some.injEq, Prod.mk.injEq, decide_eq_true_eq] at h
    obtain ⟨h0, rfl, rfl⟩ := h
    exact ord79 _ _ h0
  · cases h
def BOl : List Ctr := [k79] ++ BOk
theorem BOl_ok : CtrsOK Try.prog BOl := ⟨k79_ok, BOk_ok⟩
end Go.Proofs.Ytjhdnpmojhkbjaa
/- Owned rows that come back are read as lists. No condition. -/
namespace Go.Proofs.Ytjhdnpmojhkbjaa
theorem frz2_row {f : FuncId} {args : List AV} {e sz : Nat} {r : Row} (h : Pure Try.prog f args (.row 0 0) (some ⟨e, sz + 1, r⟩)) (hp : r.pure = true) : Pure Try.prog f args (.list r) none := by
  intro w okA L vs hargs hok
  refine (h w okA L vs hargs hok).mono ?_
  rintro e' w' ⟨x, L', rfl, hb, hpo⟩
  obtain ⟨H, hr⟩ : HRel (Ctx.of Try.prog w okA []) (frHeap (some ⟨e, sz + 1, r⟩)) L' w' ∧ RelC (Ctx.of Try.prog w okA []) (frHeap (some ⟨e, sz + 1, r⟩)) L' w' (.row 0 0) x := hpo
  refine ⟨x, L', rfl, hb, ?_⟩
  show HRel _ (frHeap none) L' w' ∧ RelC _ (frHeap none) L' w' (.list r) x
  refine ⟨H.nil, ?_⟩
  have hbk : blk (frHeap (some ⟨e, sz + 1, r⟩)) 0 0 = .row e (sz + 1) r := rfl
  obtain ⟨ht, h0, h1, h2, h3, cur, h4, h5, h6, h7, h8⟩ := H.rowAt hbk
  have hl := H.live 0 0 (by rw [ht]; simp)
  cases hr with
  | row _ _ g o n c hn hlv =>
    obtain ⟨rfl, rfl, rfl, rfl⟩ := hlv.2 _ ht
    have hpa := pureL_flatAll hp
    exact .list r _ rfl ⟨L'.loc 0 0, 0, none⟩ _ _ (sz + 1) _ hl.2 (.inr ⟨hl.1, fun a i ht => absurd rfl ht⟩) rfl hn h3 h6.1.symm h7 (fun j v hj => h8 j v hj) hpa
      (fun j u v hu hv => ((h6.2 j u v hu hv).okmono (fun g _ ho => okOf_nil ho)).pure (AV.pureL_mem hpa hu))
theorem frz2_nil {f : FuncId} {args : List AV} {r : Row} (h : Pure Try.prog f args .nils none) (hr : r.elems = []) : Pure Try.prog f args (.list r) none := by
  intro w okA L vs hargs hok
  refine (h w okA L vs hargs hok).mono ?_
  rintro e' w' ⟨x, L', rfl, hb, hpo⟩
  have hpo : HRel (Ctx.of Try.prog w okA []) (frHeap none) L' w' ∧ RelC (Ctx.of Try.prog w okA []) (frHeap none) L' w' .nils x := hpo
  exact ⟨x, L', rfl, hb, ⟨hpo.1, (Wk1.nil r hr).rel hpo.2⟩⟩
inductive Frz2N (r : Row) : AV → AV → Prop
  | row : Frz2N r (.row 0 0) (.list r)
  | same (v : AV) (hp : v.pure = true) : Frz2N r v v
def Frz2NL (r : Row) : List AV → List AV → Prop
  | [], [] => True
  | x :: xs, y :: ys => Frz2N r x y ∧ Frz2NL r xs ys
  | _, _ => False
theorem Frz2NL.spec {r : Row} : ∀ {xs ys : List AV}, Frz2NL r xs ys → xs.length = ys.length ∧ ∀ (j : Nat) (y : AV), ys[j]? = some y → ∃ x, xs[j]? = some x ∧ Frz2N r x y
  | [], [], _ => ⟨rfl, fun j y h => by simp at h⟩
  | x :: xs, y :: ys, h => by
    obtain ⟨h1, h2⟩ := h
    obtain ⟨e1, e2⟩ := Frz2NL.spec h2
    refine ⟨by simp [e1], fun j z hz => ?_⟩
    cases j with
    | zero => simp at hz; subst hz; exact ⟨x, rfl, h1⟩
    | succ j => obtain ⟨q, q1, q2⟩ := e2 j z (by simpa using hz); exact ⟨q, by simpa using q1, q2⟩
theorem frz2_tup {f : FuncId} {args xs ys : List AV} {e sz : Nat} {r : Row} (h : Pure Try.prog f args (.tup xs) (some ⟨e, sz + 1, r⟩)) (hp : r.pure = true) (hs : Frz2NL r xs ys) : Pure Try.prog f args (.tup ys) none := by
  intro w okA L vs hargs hok
  refine (h w okA L vs hargs hok).mono ?_
  rintro e' w' ⟨x, L', rfl, hb, hpo⟩
  obtain ⟨H, hr⟩ : HRel (Ctx.of Try.prog w okA []) (frHeap (some ⟨e, sz + 1, r⟩)) L' w' ∧ RelC (Ctx.of Try.prog w okA []) (frHeap (some ⟨e, sz + 1, r⟩)) L' w' (.tup xs) x := hpo
  refine ⟨x, L', rfl, hb, ?_⟩
  show HRel _ (frHeap none) L' w' ∧ RelC _ (frHeap none) L' w' (.tup ys) x
  refine ⟨H.nil, ?_⟩
  have hbk : blk (frHeap (some ⟨e, sz + 1, r⟩)) 0 0 = .row e (sz + 1) r := rfl
  obtain ⟨ht, h0, h1, h2, h3, cur, h4, h5, h6, h7, h8⟩ := H.rowAt hbk
  have hl := H.live 0 0 (by rw [ht]; simp)
  have hpa := pureL_flatAll hp
  obtain ⟨e1, e2⟩ := hs.spec
  cases hr with
  | tup _ vs hlen hrr =>
    refine .tup _ vs (by rw [← e1]; exact hlen) (fun j u v hu hv => ?_)
    obtain ⟨q, q1, q2⟩ := e2 j u hu
    have hqv := hrr j q v q1 hv
    cases q2 with
    | same _ hpu => exact (hqv.okmono (fun g _ ho => okOf_nil ho)).pure hpu
    | row =>
      cases hqv with
      | row _ _ g o n c hn hlv =>
        obtain ⟨rfl, rfl, rfl, rfl⟩ := hlv.2 _ ht
        exact .list r _ rfl ⟨L'.loc 0 0, 0, none⟩ _ _ (sz + 1) _ hl.2 (.inr ⟨hl.1, fun a i ht => absurd rfl ht⟩) rfl hn h3 h6.1.symm h7 (fun j v hj => h8 j v hj) hpa
          (fun j u v hu hv => ((h6.2 j u v hu hv).okmono (fun g _ ho => okOf_nil ho)).pure (AV.pureL_mem hpa hu))
end Go.Proofs.Ytjhdnpmojhkbjaa
