/- Contracts as a list. No condition. -/
import Derived.Test.YtjhdnpmojhkbjaaPt
import Derived.KernelRfl
namespace Go.Proofs.Ytjhdnpmojhkbjaa
theorem frzN_row {f : FuncId} {args : List AV} {e sz : Nat} {r : Row} (h : Pure Try.prog f args (.row 0 0) (some ⟨e, sz + 1, r⟩)) (hp : r.pure = true) : Pure Try.prog f args (.list r) none := by
  intro w okA L vs hargs hok
  refine (h w okA L vs hargs hok).mono ?_
  rintro e' w' ⟨x, L', rfl, hb, hpo⟩
  obtain ⟨H, hr⟩ : HRel (Ctx.of Try.prog w okA []) (frHeap (some ⟨e, sz + 1, r⟩)) L' w' ∧ RelC (Ctx.of Try.prog w okA []) (frHeap (some ⟨e, sz + 1, r⟩)) L' w' (.row 0 0) x := hpo
  refine ⟨x, L', rfl, hb, ?_⟩
  show HRel _ (frHeap none) L' w' ∧ RelC _ (frHeap none) L' w' (.list r) x
  refine ⟨H.nil, ?_⟩
  have hbk : blk (frHeap (some ⟨e, sz + 1, r⟩)) 0 0 = .row e (sz + 1) r := rfl
  obtain ⟨ht, h0, h1, h2, h3, cur, h4, h5, h6, h7, h8⟩ := H.rowAt hbk
  have hl := H.live 0 0 (by rw [ht]; simp)
  cases hr with
  | row _ _ g o n c hn hlv =>
    obtain ⟨rfl, rfl, rfl, rfl⟩ := hlv.2 _ ht
    have hpa := pureL_flatAll hp
    exact .list r _ rfl ⟨L'.loc 0 0, 0, none⟩ _ _ (sz + 1) _ hl.2 (.inr ⟨hl.1, fun a i ht => absurd rfl ht⟩) rfl hn h3 h6.1.symm h7 (fun j v hj => h8 j v hj) hpa
      (fun j u v hu hv => ((h6.2 j u v hu hv).okmono (fun g _ ho => okOf_nil ho)).pure (AV.pureL_mem hpa hu))
theorem near_walk (L c : Int) : ((c - L).tmod 64 + 64).tmod 64 = modI (c - L) 64 := by
  rw [modI_emod]
  rcases Int.le_total 0 (c - L) with h | h
  · rw [Int.tmod_eq_emod_of_nonneg h, Int.tmod_eq_emod_of_nonneg (by omega)]; omega
  · obtain ⟨y, hy⟩ : ∃ y, c - L = -y := ⟨-(c - L), by omega⟩
    rw [hy, Int.neg_tmod, Int.tmod_eq_emod_of_nonneg (by omega : (0 : Int) ≤ y), Int.tmod_eq_emod_of_nonneg (by omega)]; omega
def lastN (X : List AV) : Int := keyN (X.getD (X.length - 1) .top)
theorem lastN_snoc (X : List AV) (x : AV) : lastN (X ++ [x]) = keyN x := by
  unfold lastN
  simp
theorem numsB_num (X : List AV) (f : AV) (k : Int) (h : numsB X = true) : numsB (X ++ [numF f k]) = true := by
  rw [numsB_app, h]; rfl
theorem tmod_rng (x : Int) : -64 < x.tmod 64 ∧ x.tmod 64 < 64 := by
  rcases Int.le_total 0 x with h | h
  · rw [Int.tmod_eq_emod_of_nonneg h]; omega
  · obtain ⟨y, rfl⟩ : ∃ y, x = -y := ⟨-x, by omega⟩
    rw [Int.neg_tmod, Int.tmod_eq_emod_of_nonneg (by omega : (0 : Int) ≤ y)]; omega
theorem numsB_sort {X : List AV} (h : numsB X = true) : numsB (sortN X) = true := by
  unfold numsB at *
  rw [List.all_eq_true] at *
  intro x hx
  exact h x (mem_sortN hx)
def ordL (c : Int) (fs : List AV) : List AV := cpN (sortN (numR0 c fs))
section
variable {C : Ctx} (hC : C.P = Try.prog) (c : Int) (fs : List AV) (hfl : fs.length < 10000) (hct : ctB fs = true)
include hC hfl hct
theorem ord_b : ∀ (d i : Nat) (X : List AV), fs.length - i = d → i ≤ fs.length → X ≠ [] → X.length ≤ i → numsB X = true → (-32 * (i : Int) ≤ lastN X ∧ lastN X ≤ 200 + 32 * i) → X ++ numR c (fs.drop i) (lastN X) = numR0 c fs →
    Ev C (f79h79_0b c fs fs.length i X) (f79h79_0bm c fs fs.length i X) (FinQ 79 (.row 0 0) (some ⟨140, 5, .big shN (ordL c fs)⟩)) := by
  intro d
  induction d with
  | zero =>
    intro i X hd hi hX hXl hn hb hinv
    rw [List.drop_of_length_le (by omega), numR, List.append_nil] at hinv
    have hw := f79p8 std c fs fs.length i X
    rw [show List.foldl insN [] X = sortN X from rfl, cpL_eq] at hw
    have hl : (sortN X).length = X.length := sortN_len X
    have hsl := cpN_len (sortN X)
    have s1 : soB X = true := by unfold soB; rw [hn, Bool.and_true]; exact decide_eq_true (by omega)
    have s2 : soB (sortN X) = true := by unfold soB; rw [numsB_sort hn, Bool.and_true]; exact decide_eq_true (by omega)
    have hz : (cpZ (sortN X)).length = (sortN X).length := by unfold cpZ; rw [List.length_append, List.length_replicate]; omega
    have hz2 : std.subA (cpZ (sortN X)) 0 (cpN (sortN X)).length = cpN (sortN X) := by
      show sub3 _ _ _ = _
      unfold cpZ sub3
      simp
    rw [hz2, s1, s2] at hw
    refine fin hC BOk_ok hw ?_ rfl ?_
    · simp only [s_lenA, hz]; simp [hl]; omega
    · unfold ordL; rw [← hinv]
  | succ d ih =>
    intro i X hd hi hX hXl hn hb hinv
    have hlt : i < fs.length := by omega
    have hg : fs.getD i .top = fs[i] := by simp [hlt]
    have hcf : 0 ≤ ctF fs[i] ∧ ctF fs[i] ≤ 63 := by
      have := List.all_eq_true.mp hct fs[i] (List.getElem_mem hlt)
      exact of_decide_eq_true this
    have hXp : 0 < X.length := List.length_pos_iff.mpr hX
    have e1 : (std.sub (std.int X.length) 1).toNat = X.length - 1 := by simp
    have e2 : std.add (i : Int) 1 = ((i + 1 : Nat) : Int) := by simp
    rw [List.drop_eq_getElem_cons hlt, numR] at hinv
    by_cases hch : chF fs[i] = c
    · rw [if_pos hch] at hinv
      have hch' : AV.toI (AV.cellAt fs[i] 0) = c := hch
      have hnr := nearI_ge (lastN X) (ctF fs[i])
      have hm := near_walk (lastN X) (ctF fs[i])
      have hm2 := modI_emod (ctF fs[i] - lastN X)
      have hne : nearI (lastN X) (ctF fs[i]) = if modI (ctF fs[i] - lastN X) 64 ≤ 32 then lastN X + modI (ctF fs[i] - lastN X) 64 else lastN X + modI (ctF fs[i] - lastN X) 64 - 64 := rfl
      have ih' := ih (i + 1) (X ++ [numF fs[i] (nearI (lastN X) (ctF fs[i]))]) (by omega) (by omega) (by simp) (by simp; omega) (numsB_num _ _ _ hn) (by rw [lastN_snoc, key_num]; omega) (by rw [lastN_snoc, key_num, List.append_assoc]; exact hinv)
      by_cases hm3 : modI (ctF fs[i] - lastN X) 64 ≤ 32
      · rw [if_pos hm3] at hne
        have hw := f79p6 std c fs fs.length i X
        simp only [s_nat, s_nthA, s_lenA, s_appA, Int.toNat_natCast, hg, e1, e2, hch'] at hw
        simp only [show (AV.cellAt fs[i] 1).toI = ctF fs[i] from rfl, show (AV.cellAt (X.getD (X.length - 1) .top) 4).toI = lastN X from rfl] at hw
        simp only [s_sub, s_add, s_rem, hm] at hw
        rw [← hne] at hw
        rw [← hch', show (AV.agg (Row.gen [AV.int .i64 (AV.toI (AV.cellAt fs[i] 0)), AV.int .i64 (ctF fs[i]), AV.int .i64 (AV.toI (AV.cellAt fs[i] 2)), AV.list (.ints .i64 (AV.toIs (AV.cellAt fs[i] 3))), AV.int .i64 (nearI (lastN X) (ctF fs[i]))])) = numF fs[i] (nearI (lastN X) (ctF fs[i])) from rfl, hch'] at hw
        refine go hC BOk_ok hw ?_ ih'
        have hr := tmod_rng (ctF fs[i] - lastN X)
        generalize lastN X = L at *
        generalize ctF fs[i] = q at *
        simp [hlt, AV.bx, flatLen, Row.len, numF]
        omega
      · rw [if_neg hm3] at hne
        have hw := f79p5 std c fs fs.length i X
        simp only [s_nat, s_nthA, s_lenA, s_appA, Int.toNat_natCast, hg, e1, e2, hch'] at hw
        simp only [show (AV.cellAt fs[i] 1).toI = ctF fs[i] from rfl, show (AV.cellAt (X.getD (X.length - 1) .top) 4).toI = lastN X from rfl] at hw
        simp only [s_sub, s_add, s_rem, hm] at hw
        rw [Int.add_sub_assoc] at hne
        rw [← hne] at hw
        rw [← hch', show (AV.agg (Row.gen [AV.int .i64 (AV.toI (AV.cellAt fs[i] 0)), AV.int .i64 (ctF fs[i]), AV.int .i64 (AV.toI (AV.cellAt fs[i] 2)), AV.list (.ints .i64 (AV.toIs (AV.cellAt fs[i] 3))), AV.int .i64 (nearI (lastN X) (ctF fs[i]))])) = numF fs[i] (nearI (lastN X) (ctF fs[i])) from rfl, hch'] at hw
        refine go hC BOk_ok hw ?_ ih'
        have hr := tmod_rng (ctF fs[i] - lastN X)
        generalize lastN X = L at *
        generalize ctF fs[i] = q at *
        simp [hlt, AV.bx, flatLen, Row.len, numF]
        omega
    · rw [if_neg hch] at hinv
      have hch' : ¬ AV.toI (AV.cellAt fs[i] 0) = c := hch
      have hw := f79p4 std c fs fs.length i X
      simp only [s_nat, s_nthA, Int.toNat_natCast, hg, e2] at hw
      exact go hC BOk_ok hw (by simp [hlt, hch']; omega) (ih (i + 1) X (by omega) (by omega) hX (by omega) hn (by omega) hinv)
theorem ord_a : ∀ (d i : Nat), fs.length - i = d → i ≤ fs.length → (numR0 c (fs.drop i) = numR0 c fs) → numR0 c fs ≠ [] →
    Ev C (f79h79_0a c fs fs.length i) (f79h79_0am c fs fs.length i) (FinQ 79 (.row 0 0) (some ⟨140, 5, .big shN (ordL c fs)⟩)) := by
  intro d
  induction d with
  | zero =>
    intro i hd hi hinv hne
    rw [List.drop_of_length_le (by omega)] at hinv
    exact absurd hinv.symm hne
  | succ d ih =>
    intro i hd hi hinv hne
    have hlt : i < fs.length := by omega
    have hg : fs.getD i .top = fs[i] := by simp [hlt]
    have hcf : 0 ≤ ctF fs[i] ∧ ctF fs[i] ≤ 63 := by
      have := List.all_eq_true.mp hct fs[i] (List.getElem_mem hlt)
      exact of_decide_eq_true this
    have e2 : std.add (i : Int) 1 = ((i + 1 : Nat) : Int) := by simp
    rw [List.drop_eq_getElem_cons hlt, numR0] at hinv
    by_cases hch : chF fs[i] = c
    · rw [if_pos hch] at hinv
      have hch' : AV.toI (AV.cellAt fs[i] 0) = c := hch
      have hw := f79p2 std c fs fs.length i
      simp only [s_nat, s_nthA, Int.toNat_natCast, hg, e2, hch'] at hw
      simp only [show (AV.cellAt fs[i] 1).toI = ctF fs[i] from rfl, s_add] at hw
      rw [← hch', show (AV.agg (Row.gen [AV.int .i64 (AV.toI (AV.cellAt fs[i] 0)), AV.int .i64 (ctF fs[i]), AV.int .i64 (AV.toI (AV.cellAt fs[i] 2)), AV.list (.ints .i64 (AV.toIs (AV.cellAt fs[i] 3))), AV.int .i64 (ctF fs[i] + 64)])) = numF fs[i] (ctF fs[i] + 64) from rfl, hch'] at hw
      refine go hC BOk_ok hw ?_ (ord_b hC c fs hfl hct _ (i + 1) [numF fs[i] (ctF fs[i] + 64)] rfl (by omega) (by simp) (by simp) rfl ?_ ?_)
      · generalize ctF fs[i] = q at *
        simp [hlt, AV.bx, flatLen, Row.len, numF]
        omega
      · show -32 * (((i + 1 : Nat) : Nat) : Int) ≤ ctF fs[i] + 64 ∧ ctF fs[i] + 64 ≤ 200 + 32 * (((i + 1 : Nat) : Nat) : Int)
        omega
      · exact hinv
    · rw [if_neg hch] at hinv
      have hch' : ¬ AV.toI (AV.cellAt fs[i] 0) = c := hch
      have hw := f79p1 std c fs fs.length i
      simp only [s_nat, s_nthA, Int.toNat_natCast, hg, e2] at hw
      exact go hC BOk_ok hw (by simp [hlt, hch']; omega) (ih (i + 1) (by omega) (by omega) hinv hne)
end
section
variable {C : Ctx} (hC : C.P = Try.prog) (c : Int) (fs : List AV) (hfl : fs.length < 10000)
include hC hfl
theorem ord_n : ∀ (d i : Nat), fs.length - i = d → i ≤ fs.length → numR0 c (fs.drop i) = [] →
    Ev C (f79h79_0a c fs fs.length i) (f79h79_0am c fs fs.length i) (FinQ 79 .nils none) := by
  intro d
  induction d with
  | zero => intro i hd hi _; exact fin hC BOk_ok (f79p3 std c fs fs.length i) (by simp; omega) rfl rfl
  | succ d ih =>
    intro i hd hi hinv
    have hlt : i < fs.length := by omega
    have hg : fs.getD i .top = fs[i] := by simp [hlt]
    have e2 : std.add (i : Int) 1 = ((i + 1 : Nat) : Int) := by simp
    rw [List.drop_eq_getElem_cons hlt, numR0] at hinv
    by_cases hch : chF fs[i] = c
    · rw [if_pos hch] at hinv; cases hinv
    · rw [if_neg hch] at hinv
      have hch' : ¬ AV.toI (AV.cellAt fs[i] 0) = c := hch
      have hw := f79p1 std c fs fs.length i
      simp only [s_nat, s_nthA, Int.toNat_natCast, hg, e2] at hw
      exact go hC BOk_ok hw (by simp [hlt, hch']; omega) (ih (i + 1) (by omega) (by omega) hinv)
end
theorem ord79 (c : Int) (fs : List AV) (h : nmB fs = true) : Pure Try.prog 79 [.int .i64 c, .list (.big shFr fs)] (.list (.big shN (ordL c fs))) none := by
  unfold nmB at h
  simp only [Bool.and_eq_true, decide_eq_true_eq] at h
  by_cases h0 : numR0 c fs = []
  · have e : ordL c fs = [] := by unfold ordL; rw [h0]; rfl
    rw [e]
    exact wk2 (start (f79e_at c fs) fun C hC => go hC BOk_ok (f79p0 std c fs) (by simp) (by
      have := ord_n hC c fs h.1 fs.length 0 (by omega) (by omega) (by simpa using h0)
      simpa using this)) (.one (.nil _ rfl))
  · exact frzN_row (e := 140) (sz := 4) (start (f79e_at c fs) fun C hC => go hC BOk_ok (f79p0 std c fs) (by simp) (by
      have := ord_a hC c fs h.1 h.2 fs.length 0 (by omega) (by omega) (by simp) h0
      simpa using this)) rfl
theorem ordL_eq (c : Int) (fs : List AV) : ordL c fs = cpN (sortN (numR0 c fs)) := rfl
attribute [irreducible] ordL
def k79 : Ctr := ⟨79, 0, fun _ a => match a with | [.int .i64 c, .list (.big (.agg [.int .i64, .int .i64, .int .i64, .ints .i64]) fs)] => some (decide (nmB fs = true), .list (.big shN (ordL c fs)), none) | _ => none⟩
theorem k79_ok : k79.OK Try.prog := fun pa args r fr h => by
  simp only [k79] at h
  split at h
  · simp only [Option.some.injEq, Prod.mk.injEq, decide_eq_true_eq] at h
    obtain ⟨h0, rfl, rfl⟩ := h
    exact ord79 _ _ h0
  · cases h
def BOl : List Ctr := [k79] ++ BOk
theorem BOl_ok : CtrsOK Try.prog BOl := ⟨k79_ok, BOk_ok⟩
end Go.Proofs.Ytjhdnpmojhkbjaa
/- Owned rows that come back are read as lists. No condition. -/
namespace Go.Proofs.Ytjhdnpmojhkbjaa
theorem frz2_row {f : FuncId} {args : List AV} {e sz : Nat} {r : Row} (h : Pure Try.prog f args (.row 0 0) (some ⟨e, sz + 1, r⟩)) (hp : r.pure = true) : Pure Try.prog f args (.list r) none := by
  intro w okA L vs hargs hok
  refine (h w okA L vs hargs hok).mono ?_
  rintro e' w' ⟨x, L', rfl, hb, hpo⟩
  obtain ⟨H, hr⟩ : HRel (Ctx.of Try.prog w okA []) (frHeap (some ⟨e, sz + 1, r⟩)) L' w' ∧ RelC (Ctx.of Try.prog w okA []) (frHeap (some ⟨e, sz + 1, r⟩)) L' w' (.row 0 0) x := hpo
  refine ⟨x, L', rfl, hb, ?_⟩
  show HRel _ (frHeap none) L' w' ∧ RelC _ (frHeap none) L' w' (.list r) x
  refine ⟨H.nil, ?_⟩
  have hbk : blk (frHeap (some ⟨e, sz + 1, r⟩)) 0 0 = .row e (sz + 1) r := rfl
  obtain ⟨ht, h0, h1, h2, h3, cur, h4, h5, h6, h7, h8⟩ := H.rowAt hbk
  have hl := H.live 0 0 (by rw [ht]; simp)
  cases hr with
  | row _ _ g o n c hn hlv =>
    obtain ⟨rfl, rfl, rfl, rfl⟩ := hlv.2 _ ht
    have hpa := pureL_flatAll hp
    exact .list r _ rfl ⟨L'.loc 0 0, 0, none⟩ _ _ (sz + 1) _ hl.2 (.inr ⟨hl.1, fun a i ht => absurd rfl ht⟩) rfl hn h3 h6.1.symm h7 (fun j v hj => h8 j v hj) hpa
      (fun j u v hu hv => ((h6.2 j u v hu hv).okmono (fun g _ ho => okOf_nil ho)).pure (AV.pureL_mem hpa hu))
theorem frz2_nil {f : FuncId} {args : List AV} {r : Row} (h : Pure Try.prog f args .nils none) (hr : r.elems = []) : Pure Try.prog f args (.list r) none := by
  intro w okA L vs hargs hok
  refine (h w okA L vs hargs hok).mono ?_
  rintro e' w' ⟨x, L', rfl, hb, hpo⟩
  have hpo : HRel (Ctx.of Try.prog w okA []) (frHeap none) L' w' ∧ RelC (Ctx.of Try.prog w okA []) (frHeap none) L' w' .nils x := hpo
  exact ⟨x, L', rfl, hb, ⟨hpo.1, (Wk1.nil r hr).rel hpo.2⟩⟩
inductive Frz2N (r : Row) : AV → AV → Prop
  | row : Frz2N r (.row 0 0) (.list r)
  | same (v : AV) (hp : v.pure = true) : Frz2N r v v
def Frz2NL (r : Row) : List AV → List AV → Prop
  | [], [] => True
  | x :: xs, y :: ys => Frz2N r x y ∧ Frz2NL r xs ys
  | _, _ => False
theorem Frz2NL.spec {r : Row} : ∀ {xs ys : List AV}, Frz2NL r xs ys → xs.length = ys.length ∧ ∀ (j : Nat) (y : AV), ys[j]? = some y → ∃ x, xs[j]? = some x ∧ Frz2N r x y
  | [], [], _ => ⟨rfl, fun j y h => by simp at h⟩
  | x :: xs, y :: ys, h => by
    obtain ⟨h1, h2⟩ := h
    obtain ⟨e1, e2⟩ := Frz2NL.spec h2
    refine ⟨by simp [e1], fun j z hz => ?_⟩
    cases j with
    | zero => simp at hz; subst hz; exact ⟨x, rfl, h1⟩
    | succ j => obtain ⟨q, q1, q2⟩ := e2 j z (by simpa using hz); exact ⟨q, by simpa using q1, q2⟩
theorem frz2_tup {f : FuncId} {args xs ys : List AV} {e sz : Nat} {r : Row} (h : Pure Try.prog f args (.tup xs) (some ⟨e, sz + 1, r⟩)) (hp : r.pure = true) (hs : Frz2NL r xs ys) : Pure Try.prog f args (.tup ys) none := by
  intro w okA L vs hargs hok
  refine (h w okA L vs hargs hok).mono ?_
  rintro e' w' ⟨x, L', rfl, hb, hpo⟩
  obtain ⟨H, hr⟩ : HRel (Ctx.of Try.prog w okA []) (frHeap (some ⟨e, sz + 1, r⟩)) L' w' ∧ RelC (Ctx.of Try.prog w okA []) (frHeap (some ⟨e, sz + 1, r⟩)) L' w' (.tup xs) x := hpo
  refine ⟨x, L', rfl, hb, ?_⟩
  show HRel _ (frHeap none) L' w' ∧ RelC _ (frHeap none) L' w' (.tup ys) x
  refine ⟨H.nil, ?_⟩
  have hbk : blk (frHeap (some ⟨e, sz + 1, r⟩)) 0 0 = .row e (sz + 1) r := rfl
  obtain ⟨ht, h0, h1, h2, h3, cur, h4, h5, h6, h7, h8⟩ := H.rowAt hbk
  have hl := H.live 0 0 (by rw [ht]; simp)
  have hpa := pureL_flatAll hp
  obtain ⟨e1, e2⟩ := hs.spec
  cases hr with
  | tup _ vs hlen hrr =>
    refine .tup _ vs (by rw [← e1]; exact hlen) (fun j u v hu hv => ?_)
    obtain ⟨q, q1, q2⟩ := e2 j u hu
    have hqv := hrr j q v q1 hv
    cases q2 with
    | same _ hpu => exact (hqv.okmono (fun g _ ho => okOf_nil ho)).pure hpu
    | row =>
      cases hqv with
      | row _ _ g o n c hn hlv =>
        obtain ⟨rfl, rfl, rfl, rfl⟩ := hlv.2 _ ht
        exact .list r _ rfl ⟨L'.loc 0 0, 0, none⟩ _ _ (sz + 1) _ hl.2 (.inr ⟨hl.1, fun a i ht => absurd rfl ht⟩) rfl hn h3 h6.1.symm h7 (fun j v hj => h8 j v hj) hpa
          (fun j u v hu hv => ((h6.2 j u v hu hv).okmono (fun g _ ho => okOf_nil ho)).pure (AV.pureL_mem hpa hu))
end Go.Proofs.Ytjhdnpmojhkbjaa
/- Paths of functions, printed by the explorer (Gx). No condition. -/
namespace Go.Proofs.Ytjhdnpmojhkbjaa
set_option maxRecDepth 100000
set_option linter.unusedVariables false
def f59e (a : Int) (b : Int) (c : Int) (fs : List AV) : List AFrame := [{ fn := 59, N := 44, env := [(0, AV.agg (Row.gen [AV.int .i64 a, AV.int .i64 b])), (1, AV.int .i64 c), (2, AV.list (Row.big (Sh.agg [Sh.int .i64, Sh.int .i64, Sh.int .i64, Sh.ints .i64]) fs))], todo := [.code a59.code], defs := [], rnd := none, ret := false, res := [ARes.tmp 6, ARes.tmp 7] }]
theorem f59e_at (a : Int) (b : Int) (c : Int) (fs : List AV) : enterA tab 59 [AV.agg (Row.gen [AV.int .i64 a, AV.int .i64 b]), AV.int .i64 c, AV.list (Row.big (Sh.agg [Sh.int .i64, Sh.int .i64, Sh.int .i64, Sh.ints .i64]) fs)] = some { fn := 59, N := 44, env := [(0, AV.agg (Row.gen [AV.int .i64 a, AV.int .i64 b])), (1, AV.int .i64 c), (2, AV.list (Row.big (Sh.agg [Sh.int .i64, Sh.int .i64, Sh.int .i64, Sh.ints .i64]) fs))], todo := [.code a59.code], defs := [], rnd := none, ret := false, res := [ARes.tmp 6, ARes.tmp 7] } := rfl
def f59h59_0a (x0 : List AV) (n1 : Int) : List AFrame := [{ fn := 59, N := 44, env := [(10, AV.nils), (26, AV.list (Row.big (Sh.agg [Sh.int .i64, Sh.int .i64, Sh.int .i64, Sh.ints .i64, Sh.int .i64]) x0)), (27, AV.int .i64 n1), (28, AV.int .i64 0)], todo := .code (ACode.gh [] l59_0) :: k59_0, defs := [], rnd := none, ret := false, res := [ARes.tmp 6, ARes.tmp 7] }]
def f59h59_0am (x0 : List AV) (n1 : Int) : AHeap := []
def f59h59_0b (x0 : List AV) (n1 : Int) (n2 : Int) (x3 : List AV) : List AFrame := [{ fn := 59, N := 44, env := [(10, AV.row 59042 0), (26, AV.list (Row.big (Sh.agg [Sh.int .i64, Sh.int .i64, Sh.int .i64, Sh.ints .i64, Sh.int .i64]) x0)), (27, AV.int .i64 n1), (28, AV.int .i64 n2)], todo := .code (ACode.gh [] l59_0) :: k59_0, defs := [], rnd := none, ret := false, res := [ARes.tmp 6, ARes.tmp 7] }]
def f59h59_0bm (x0 : List AV) (n1 : Int) (n2 : Int) (x3 : List AV) : AHeap := [(59042, { base := 0, blks := [Blk.row 74 4 (Row.big (Sh.agg [Sh.int .i64, Sh.int .i64, Sh.int .i64, Sh.ints .i64]) x3)] })]
theorem f59p0 (A : Ar) (a : Int) (b : Int) (c : Int) (fs : List AV) : gfin A tab BOl 34 [true] 59 (f59e a b c fs) [] =
  some ([A.and true (A.and true (A.and true true)), true, true, true, A.not (A.eq (openE a b c fs) 0), true, true, true, A.and (A.ltN 0 1) (A.eqN 2 2), A.and true (A.ltN 0 2), true, true, true, A.and true (decide (smallF fs = true)), true, true, A.and (A.ltN 0 1) (A.leN (A.addN 0 2) 2), true, true, A.and true (A.ltN 0 2)],
   AV.tup [AV.nils, AV.int .i64 (openE a b c fs)], none) := by kernel_rfl
theorem f59p1 (A : Ar) (a : Int) (b : Int) (c : Int) (fs : List AV) : gwalkL A tab BOl 44 [false] (f59e a b c fs) [] =
  some ([true, true, A.and true (decide (nmB fs = true)), true, true, true, !A.not (A.eq (openE a b c fs) 0), true, true, true, A.and (A.ltN 0 1) (A.eqN 2 2), A.and true (A.ltN 0 2), true, true, true, A.and true (decide (smallF fs = true)), true, true, A.and (A.ltN 0 1) (A.leN (A.addN 0 2) 2), true, true, A.and true (A.ltN 0 2)],
   f59h59_0a (ordL c fs) (A.int (A.lenA (ordL c fs))), f59h59_0am (ordL c fs) (A.int (A.lenA (ordL c fs)))) := by kernel_rfl
theorem f59p2 (A : Ar) (x0 : List AV) (n1 : Int) : gwalkL A tab BOl 46 [true] (f59h59_0a x0 n1) (f59h59_0am x0 n1) =
  some ([true, A.inR .i64 (A.add 0 1), true, A.and (A.and true (A.eqN 4 4)) (A.and (A.leN (A.lenA [AV.agg (Row.gen [.int .i64 ((A.nthA x0 (A.nat 0)).cellAt 0).toI, .int .i64 ((A.nthA x0 (A.nat 0)).cellAt 1).toI, .int .i64 ((A.nthA x0 (A.nat 0)).cellAt 2).toI, .list (.ints .i64 ((A.nthA x0 (A.nat 0)).cellAt 3).toIs)])]) 4294967296) (A.ltN 0 (A.lenA [AV.agg (Row.gen [.int .i64 ((A.nthA x0 (A.nat 0)).cellAt 0).toI, .int .i64 ((A.nthA x0 (A.nat 0)).cellAt 1).toI, .int .i64 ((A.nthA x0 (A.nat 0)).cellAt 2).toI, .list (.ints .i64 ((A.nthA x0 (A.nat 0)).cellAt 3).toIs)])]))), List.all [AV.agg (Row.gen [.int .i64 ((A.nthA x0 (A.nat 0)).cellAt 0).toI, .int .i64 ((A.nthA x0 (A.nat 0)).cellAt 1).toI, .int .i64 ((A.nthA x0 (A.nat 0)).cellAt 2).toI, .list (.ints .i64 ((A.nthA x0 (A.nat 0)).cellAt 3).toIs)])] fun x => AV.bx x && Nat.beq (flatLen A x) 4, A.and (A.ltN 0 1) (A.leN (A.addN 0 4) 4), true, A.and (A.ltN 0 1) (A.and (A.and true (A.eqN 1 1)) (A.ltN 3 4)), true, A.and true (decide (List.length ((A.nthA x0 (A.nat 0)).cellAt 3).toIs ≤ 4294967296)), A.and (A.ltN 0 1) (A.ltN 3 4), true, A.and (A.ltN 0 1) (A.eqN 4 4), A.and true (A.ltN 0 4), A.and (A.ltN 0 1) (A.leN (A.addN 0 4) 5), true, A.and (A.ltN 0 1) (A.eqN 5 5), A.and true (A.ltN 0 5), A.leN (A.addN 0 5) 5, A.and (A.and (A.le 0 0) (A.ltN (A.nat 0) (A.lenA x0))) (A.eqN 5 5), A.lt 0 n1, true],
   f59h59_0b (x0) (n1) (A.add 0 1) ([AV.agg (Row.gen [.int .i64 ((A.nthA x0 (A.nat 0)).cellAt 0).toI, .int .i64 ((A.nthA x0 (A.nat 0)).cellAt 1).toI, .int .i64 ((A.nthA x0 (A.nat 0)).cellAt 2).toI, .list (.ints .i64 ((A.nthA x0 (A.nat 0)).cellAt 3).toIs)])]), f59h59_0bm (x0) (n1) (A.add 0 1) ([AV.agg (Row.gen [.int .i64 ((A.nthA x0 (A.nat 0)).cellAt 0).toI, .int .i64 ((A.nthA x0 (A.nat 0)).cellAt 1).toI, .int .i64 ((A.nthA x0 (A.nat 0)).cellAt 2).toI, .list (.ints .i64 ((A.nthA x0 (A.nat 0)).cellAt 3).toIs)])])) := by kernel_rfl
theorem f59p3 (A : Ar) (x0 : List AV) (n1 : Int) : gfin A tab BOl 15 [false] 59 (f59h59_0a x0 n1) (f59h59_0am x0 n1) =
  some ([A.and true (A.and true (A.and true true)), true, true, true, !A.lt 0 n1, true],
   AV.tup [AV.nils, AV.int .i64 0], none) := by kernel_rfl
theorem f59p4 (A : Ar) (x0 : List AV) (n1 : Int) (n2 : Int) (x3 : List AV) : gwalkL A tab BOl 46 [true] (f59h59_0b x0 n1 n2 x3) (f59h59_0bm x0 n1 n2 x3) =
  some ([true, A.inR .i64 (A.add n2 1), true, A.and (A.and true (A.eqN 4 4)) (A.and (A.eqN 74 74) (A.and (A.eqN 4 4) (A.leN (A.addN (A.lenA x3) (A.lenA [AV.agg (Row.gen [.int .i64 ((A.nthA x0 (A.nat n2)).cellAt 0).toI, .int .i64 ((A.nthA x0 (A.nat n2)).cellAt 1).toI, .int .i64 ((A.nthA x0 (A.nat n2)).cellAt 2).toI, .list (.ints .i64 ((A.nthA x0 (A.nat n2)).cellAt 3).toIs)])])) 4294967296))), List.all [AV.agg (Row.gen [.int .i64 ((A.nthA x0 (A.nat n2)).cellAt 0).toI, .int .i64 ((A.nthA x0 (A.nat n2)).cellAt 1).toI, .int .i64 ((A.nthA x0 (A.nat n2)).cellAt 2).toI, .list (.ints .i64 ((A.nthA x0 (A.nat n2)).cellAt 3).toIs)])] fun x => AV.bx x && Nat.beq (flatLen A x) 4, A.and (A.ltN 0 1) (A.leN (A.addN 0 4) 4), true, A.and (A.ltN 0 1) (A.and (A.and true (A.eqN 1 1)) (A.ltN 3 4)), true, A.and true (decide (List.length ((A.nthA x0 (A.nat n2)).cellAt 3).toIs ≤ 4294967296)), A.and (A.ltN 0 1) (A.ltN 3 4), true, A.and (A.ltN 0 1) (A.eqN 4 4), A.and true (A.ltN 0 4), A.and (A.ltN 0 1) (A.leN (A.addN 0 4) 5), true, A.and (A.ltN 0 1) (A.eqN 5 5), A.and true (A.ltN 0 5), A.leN (A.addN 0 5) 5, A.and (A.and (A.le 0 n2) (A.ltN (A.nat n2) (A.lenA x0))) (A.eqN 5 5), A.lt n2 n1, true],
   f59h59_0b (x0) (n1) (A.add n2 1) (A.appA x3 [AV.agg (Row.gen [.int .i64 ((A.nthA x0 (A.nat n2)).cellAt 0).toI, .int .i64 ((A.nthA x0 (A.nat n2)).cellAt 1).toI, .int .i64 ((A.nthA x0 (A.nat n2)).cellAt 2).toI, .list (.ints .i64 ((A.nthA x0 (A.nat n2)).cellAt 3).toIs)])]), f59h59_0bm (x0) (n1) (A.add n2 1) (A.appA x3 [AV.agg (Row.gen [.int .i64 ((A.nthA x0 (A.nat n2)).cellAt 0).toI, .int .i64 ((A.nthA x0 (A.nat n2)).cellAt 1).toI, .int .i64 ((A.nthA x0 (A.nat n2)).cellAt 2).toI, .list (.ints .i64 ((A.nthA x0 (A.nat n2)).cellAt 3).toIs)])])) := by kernel_rfl
theorem f59p5 (A : Ar) (x0 : List AV) (n1 : Int) (n2 : Int) (x3 : List AV) : gfin A tab BOl 15 [false] 59 (f59h59_0b x0 n1 n2 x3) (f59h59_0bm x0 n1 n2 x3) =
  some ([A.and true (A.and true (A.and true true)), true, true, true, !A.lt n2 n1, true],
   AV.tup [AV.row 0 0, AV.int .i64 0], some { e := 74, sz := 4, r := Row.big (.agg [.int .i64, .int .i64, .int .i64, .ints .i64]) x3 }) := by kernel_rfl
def f58e (a : Int) (b : Int) (c : Int) (fs : List AV) : List AFrame := [{ fn := 58, N := 29, env := [(0, AV.agg (Row.gen [AV.int .i64 a, AV.int .i64 b])), (1, AV.int .i64 c), (2, AV.list (Row.big (Sh.agg [Sh.int .i64, Sh.int .i64, Sh.int .i64, Sh.ints .i64]) fs))], todo := [.code a58.code], defs := [], rnd := none, ret := false, res := [ARes.tmp 6, ARes.tmp 7] }]
theorem f58e_at (a : Int) (b : Int) (c : Int) (fs : List AV) : enterA tab 58 [AV.agg (Row.gen [AV.int .i64 a, AV.int .i64 b]), AV.int .i64 c, AV.list (Row.big (Sh.agg [Sh.int .i64, Sh.int .i64, Sh.int .i64, Sh.ints .i64]) fs)] = some { fn := 58, N := 29, env := [(0, AV.agg (Row.gen [AV.int .i64 a, AV.int .i64 b])), (1, AV.int .i64 c), (2, AV.list (Row.big (Sh.agg [Sh.int .i64, Sh.int .i64, Sh.int .i64, Sh.ints .i64]) fs))], todo := [.code a58.code], defs := [], rnd := none, ret := false, res := [ARes.tmp 6, ARes.tmp 7] } := rfl
theorem f58p0 (A : Ar) (a : Int) (b : Int) (c : Int) (fs : List AV) : gfin A tab BOl 34 [true] 58 (f58e a b c fs) [] =
  some ([A.and true (A.and true (A.and true true)), true, true, true, A.not (A.eq (openE a b c fs) 0), true, true, true, A.and (A.ltN 0 1) (A.eqN 2 2), A.and true (A.ltN 0 2), true, true, true, A.and true (decide (smallF fs = true)), true, true, A.and (A.ltN 0 1) (A.leN (A.addN 0 2) 2), true, true, A.and true (A.ltN 0 2)],
   AV.tup [AV.int .i64 0, AV.int .i64 (openE a b c fs)], none) := by kernel_rfl
theorem f58p1 (A : Ar) (a : Int) (b : Int) (c : Int) (fs : List AV) : gfin A tab BOl 46 [false] 58 (f58e a b c fs) [] =
  some ([A.and true (A.and true (A.and true true)), true, true, A.inR .i64 (A.sub (spanN (ordL c fs)) (A.int (A.lenA (ordL c fs)))), true, true, A.and true (decide (spanB (ordL c fs) = true)), true, true, A.and true (decide (nmB fs = true)), true, true, !A.not (A.eq (openE a b c fs) 0), true, true, true, A.and (A.ltN 0 1) (A.eqN 2 2), A.and true (A.ltN 0 2), true, true, true, A.and true (decide (smallF fs = true)), true, true, A.and (A.ltN 0 1) (A.leN (A.addN 0 2) 2), true, true, A.and true (A.ltN 0 2)],
   AV.tup [AV.int .i64 (A.sub (spanN (ordL c fs)) (A.int (A.lenA (ordL c fs)))), AV.int .i64 0], none) := by kernel_rfl
def f71e (a : Int) (b : Int) (c : Int) (fs : List AV) : List AFrame := [{ fn := 71, N := 37, env := [(0, AV.agg (Row.gen [AV.int .i64 a, AV.int .i64 b])), (1, AV.int .i64 c), (2, AV.list (Row.big (Sh.agg [Sh.int .i64, Sh.int .i64, Sh.int .i64, Sh.ints .i64]) fs))], todo := [.code a71.code], defs := [], rnd := none, ret := false, res := [ARes.cell 6 true 2, ARes.tmp 7] }]
theorem f71e_at (a : Int) (b : Int) (c : Int) (fs : List AV) : enterA tab 71 [AV.agg (Row.gen [AV.int .i64 a, AV.int .i64 b]), AV.int .i64 c, AV.list (Row.big (Sh.agg [Sh.int .i64, Sh.int .i64, Sh.int .i64, Sh.ints .i64]) fs)] = some { fn := 71, N := 37, env := [(0, AV.agg (Row.gen [AV.int .i64 a, AV.int .i64 b])), (1, AV.int .i64 c), (2, AV.list (Row.big (Sh.agg [Sh.int .i64, Sh.int .i64, Sh.int .i64, Sh.ints .i64]) fs))], todo := [.code a71.code], defs := [], rnd := none, ret := false, res := [ARes.cell 6 true 2, ARes.tmp 7] } := rfl
theorem f71p0 (A : Ar) (a : Int) (b : Int) (c : Int) (fs : List AV) : gfin A tab BOl 35 [true] 71 (f71e a b c fs) [] =
  some ([A.and (A.and (A.and (A.ltN 0 1) (A.leN (A.addN 0 2) 2)) true) (A.and true (A.and true true)), true, A.and (A.ltN 0 1) (A.eqN 2 2), true, true, A.not (A.eq (openE a b c fs) 0), true, true, true, A.and (A.ltN 0 1) (A.eqN 2 2), A.and true (A.ltN 0 2), true, true, true, A.and true (decide (smallF fs = true)), true, true, A.and (A.ltN 0 1) (A.leN (A.addN 0 2) 2), true, A.and true (A.ltN 0 2), A.and true (A.ltN 0 2)],
   AV.tup [AV.agg (Row.gen [.int .i64 0, .int .i64 0]), AV.int .i64 (openE a b c fs)], none) := by kernel_rfl
theorem f71p1 (A : Ar) (a : Int) (b : Int) (c : Int) (fs : List AV) : gfin A tab BOl 50 [false, true] 71 (f71e a b c fs) [] =
  some ([A.and (A.and (A.and (A.ltN 0 1) (A.leN (A.addN 0 2) 2)) true) (A.and true (A.and true true)), true, A.and (A.ltN 0 1) (A.eqN 2 2), true, A.eq (A.int (A.lenA (ordL c fs))) 0, true, true, true, true, A.and true (decide (nmB fs = true)), true, true, !A.not (A.eq (openE a b c fs) 0), true, true, true, A.and (A.ltN 0 1) (A.eqN 2 2), A.and true (A.ltN 0 2), true, true, true, A.and true (decide (smallF fs = true)), true, true, A.and (A.ltN 0 1) (A.leN (A.addN 0 2) 2), true, A.and true (A.ltN 0 2), A.and true (A.ltN 0 2)],
   AV.tup [AV.agg (Row.gen [.int .i64 0, .int .i64 0]), AV.int .i64 12], none) := by kernel_rfl
theorem f71p2 (A : Ar) (a : Int) (b : Int) (c : Int) (fs : List AV) : gfin A tab BOl 59 [false, false] 71 (f71e a b c fs) [] =
  some ([A.and (A.and (A.and (A.ltN 0 1) (A.leN (A.addN 0 2) 2)) true) (A.and true (A.and true true)), true, A.and (A.ltN 0 1) (A.eqN 2 2), A.and true (decide (bigB (A.sub (spanN (ordL c fs)) (A.int (A.lenA (ordL c fs)))) = true ∧ 0 < spanN (ordL c fs) ∧ bigB (spanN (ordL c fs)) = true)), A.and true (decide (spanB (ordL c fs) = true)), true, A.inR .i64 (A.sub (spanN (ordL c fs)) (A.int (A.lenA (ordL c fs)))), true, true, A.and true (decide (spanB (ordL c fs) = true)), true, !A.eq (A.int (A.lenA (ordL c fs))) 0, true, true, true, true, A.and true (decide (nmB fs = true)), true, true, !A.not (A.eq (openE a b c fs) 0), true, true, true, A.and (A.ltN 0 1) (A.eqN 2 2), A.and true (A.ltN 0 2), true, true, true, A.and true (decide (smallF fs = true)), true, true, A.and (A.ltN 0 1) (A.leN (A.addN 0 2) 2), true, A.and true (A.ltN 0 2), A.and true (A.ltN 0 2)],
   AV.tup [AV.agg (Row.gen [.int .i64 (lN (A.sub (spanN (ordL c fs)) (A.int (A.lenA (ordL c fs)))) (spanN (ordL c fs))), .int .i64 (lD (A.sub (spanN (ordL c fs)) (A.int (A.lenA (ordL c fs)))) (spanN (ordL c fs)))]), AV.int .i64 0], none) := by kernel_rfl
def f17e (fs : List AV) : List AFrame := [{ fn := 17, N := 20, env := [(0, AV.list (Row.big (Sh.agg [Sh.int .i64, Sh.int .i64, Sh.int .i64, Sh.ints .i64]) fs))], todo := [.code a17.code], defs := [], rnd := none, ret := false, res := [ARes.tmp 2] }]
theorem f17e_at (fs : List AV) : enterA tab 17 [AV.list (Row.big (Sh.agg [Sh.int .i64, Sh.int .i64, Sh.int .i64, Sh.ints .i64]) fs)] = some { fn := 17, N := 20, env := [(0, AV.list (Row.big (Sh.agg [Sh.int .i64, Sh.int .i64, Sh.int .i64, Sh.ints .i64]) fs))], todo := [.code a17.code], defs := [], rnd := none, ret := false, res := [ARes.tmp 2] } := rfl
def f17h17_0a (fs : List AV) : List AFrame := [{ fn := 17, N := 20, env := [(0, AV.list (Row.big (Sh.agg [Sh.int .i64, Sh.int .i64, Sh.int .i64, Sh.ints .i64]) fs)), (3, AV.nils), (4, AV.int .i64 0)], todo := .code (ACode.gh [] l17_0) :: k17_0, defs := [], rnd := none, ret := false, res := [ARes.tmp 2] }]
def f17h17_0am (fs : List AV) : AHeap := []
def f17h17_0b (fs : List AV) (n0 : Int) (x1 : List AV) : List AFrame := [{ fn := 17, N := 20, env := [(0, AV.list (Row.big (Sh.agg [Sh.int .i64, Sh.int .i64, Sh.int .i64, Sh.ints .i64]) fs)), (3, AV.row 17019 0), (4, AV.int .i64 n0)], todo := .code (ACode.gh [] l17_0) :: k17_0, defs := [], rnd := none, ret := false, res := [ARes.tmp 2] }]
def f17h17_0bm (fs : List AV) (n0 : Int) (x1 : List AV) : AHeap := [(17019, { base := 0, blks := [Blk.row 74 4 (Row.big (Sh.agg [Sh.int .i64, Sh.int .i64, Sh.int .i64, Sh.ints .i64]) x1)] })]
theorem f17p0 (A : Ar) (fs : List AV) : gwalkL A tab BOl 16 [] (f17e fs) [] =
  some ([true, true, true],
   f17h17_0a (fs), f17h17_0am (fs)) := by kernel_rfl
theorem f17p1 (A : Ar) (fs : List AV) : gwalkL A tab BOl 32 [true] (f17h17_0a fs) (f17h17_0am fs) =
  some ([true, A.inR .i64 (A.add 0 1), true, true, A.and (A.and true (A.eqN 4 4)) (A.and (A.leN (A.lenA [AV.agg (Row.gen [.int .i64 ((A.nthA fs (A.nat 0)).cellAt 0).toI, .int .i64 ((A.nthA fs (A.nat 0)).cellAt 1).toI, .int .i64 ((A.nthA fs (A.nat 0)).cellAt 2).toI, .list (.ints .i64 ((A.nthA fs (A.nat 0)).cellAt 3).toIs)])]) 4294967296) (A.ltN 0 (A.lenA [AV.agg (Row.gen [.int .i64 ((A.nthA fs (A.nat 0)).cellAt 0).toI, .int .i64 ((A.nthA fs (A.nat 0)).cellAt 1).toI, .int .i64 ((A.nthA fs (A.nat 0)).cellAt 2).toI, .list (.ints .i64 ((A.nthA fs (A.nat 0)).cellAt 3).toIs)])]))), List.all [AV.agg (Row.gen [.int .i64 ((A.nthA fs (A.nat 0)).cellAt 0).toI, .int .i64 ((A.nthA fs (A.nat 0)).cellAt 1).toI, .int .i64 ((A.nthA fs (A.nat 0)).cellAt 2).toI, .list (.ints .i64 ((A.nthA fs (A.nat 0)).cellAt 3).toIs)])] fun x => AV.bx x && Nat.beq (flatLen A x) 4, A.and true (decide (List.length ((A.nthA fs (A.nat 0)).cellAt 3).toIs ≤ 4294967296)), A.leN (A.addN 0 4) 4, A.and (A.and (A.le 0 0) (A.ltN (A.nat 0) (A.lenA fs))) (A.eqN 4 4), true, true, true, A.lt 0 (A.int (A.lenA fs)), true, true, true, true],
   f17h17_0b (fs) (A.add 0 1) ([AV.agg (Row.gen [.int .i64 ((A.nthA fs (A.nat 0)).cellAt 0).toI, .int .i64 ((A.nthA fs (A.nat 0)).cellAt 1).toI, .int .i64 ((A.nthA fs (A.nat 0)).cellAt 2).toI, .list (.ints .i64 ((A.nthA fs (A.nat 0)).cellAt 3).toIs)])]), f17h17_0bm (fs) (A.add 0 1) ([AV.agg (Row.gen [.int .i64 ((A.nthA fs (A.nat 0)).cellAt 0).toI, .int .i64 ((A.nthA fs (A.nat 0)).cellAt 1).toI, .int .i64 ((A.nthA fs (A.nat 0)).cellAt 2).toI, .list (.ints .i64 ((A.nthA fs (A.nat 0)).cellAt 3).toIs)])])) := by kernel_rfl
theorem f17p2 (A : Ar) (fs : List AV) : gfin A tab BOl 17 [false] 17 (f17h17_0a fs) (f17h17_0am fs) =
  some ([A.and true (A.and true true), true, true, !A.lt 0 (A.int (A.lenA fs)), true, true, true, true],
   AV.nils, none) := by kernel_rfl
theorem f17p3 (A : Ar) (fs : List AV) (n0 : Int) (x1 : List AV) : gwalkL A tab BOl 32 [true] (f17h17_0b fs n0 x1) (f17h17_0bm fs n0 x1) =
  some ([true, A.inR .i64 (A.add n0 1), true, true, A.and (A.and true (A.eqN 4 4)) (A.and (A.eqN 74 74) (A.and (A.eqN 4 4) (A.leN (A.addN (A.lenA x1) (A.lenA [AV.agg (Row.gen [.int .i64 ((A.nthA fs (A.nat n0)).cellAt 0).toI, .int .i64 ((A.nthA fs (A.nat n0)).cellAt 1).toI, .int .i64 ((A.nthA fs (A.nat n0)).cellAt 2).toI, .list (.ints .i64 ((A.nthA fs (A.nat n0)).cellAt 3).toIs)])])) 4294967296))), List.all [AV.agg (Row.gen [.int .i64 ((A.nthA fs (A.nat n0)).cellAt 0).toI, .int .i64 ((A.nthA fs (A.nat n0)).cellAt 1).toI, .int .i64 ((A.nthA fs (A.nat n0)).cellAt 2).toI, .list (.ints .i64 ((A.nthA fs (A.nat n0)).cellAt 3).toIs)])] fun x => AV.bx x && Nat.beq (flatLen A x) 4, A.and true (decide (List.length ((A.nthA fs (A.nat n0)).cellAt 3).toIs ≤ 4294967296)), A.leN (A.addN 0 4) 4, A.and (A.and (A.le 0 n0) (A.ltN (A.nat n0) (A.lenA fs))) (A.eqN 4 4), true, true, true, A.lt n0 (A.int (A.lenA fs)), true, true, true, true],
   f17h17_0b (fs) (A.add n0 1) (A.appA x1 [AV.agg (Row.gen [.int .i64 ((A.nthA fs (A.nat n0)).cellAt 0).toI, .int .i64 ((A.nthA fs (A.nat n0)).cellAt 1).toI, .int .i64 ((A.nthA fs (A.nat n0)).cellAt 2).toI, .list (.ints .i64 ((A.nthA fs (A.nat n0)).cellAt 3).toIs)])]), f17h17_0bm (fs) (A.add n0 1) (A.appA x1 [AV.agg (Row.gen [.int .i64 ((A.nthA fs (A.nat n0)).cellAt 0).toI, .int .i64 ((A.nthA fs (A.nat n0)).cellAt 1).toI, .int .i64 ((A.nthA fs (A.nat n0)).cellAt 2).toI, .list (.ints .i64 ((A.nthA fs (A.nat n0)).cellAt 3).toIs)])])) := by kernel_rfl
theorem f17p4 (A : Ar) (fs : List AV) (n0 : Int) (x1 : List AV) : gfin A tab BOl 17 [false] 17 (f17h17_0b fs n0 x1) (f17h17_0bm fs n0 x1) =
  some ([A.and true (A.and true true), true, true, !A.lt n0 (A.int (A.lenA fs)), true, true, true, true],
   AV.row 0 0, some { e := 74, sz := 4, r := Row.big (.agg [.int .i64, .int .i64, .int .i64, .ints .i64]) x1 }) := by kernel_rfl
def f15e (fs : List AV) : List AFrame := [{ fn := 15, N := 30, env := [(0, AV.list (Row.big (Sh.agg [Sh.int .i64, Sh.int .i64, Sh.int .i64, Sh.ints .i64]) fs))], todo := [.code a15.code], defs := [], rnd := none, ret := false, res := [ARes.tmp 2] }]
theorem f15e_at (fs : List AV) : enterA tab 15 [AV.list (Row.big (Sh.agg [Sh.int .i64, Sh.int .i64, Sh.int .i64, Sh.ints .i64]) fs)] = some { fn := 15, N := 30, env := [(0, AV.list (Row.big (Sh.agg [Sh.int .i64, Sh.int .i64, Sh.int .i64, Sh.ints .i64]) fs))], todo := [.code a15.code], defs := [], rnd := none, ret := false, res := [ARes.tmp 2] } := rfl
def f15h15_0a (fs : List AV) (n0 : Int) : List AFrame := [{ fn := 15, N := 30, env := [(0, AV.list (Row.big (Sh.agg [Sh.int .i64, Sh.int .i64, Sh.int .i64, Sh.ints .i64]) fs)), (3, AV.int .i64 n0)], todo := .code (ACode.gh [] l15_0) :: k15_0, defs := [], rnd := none, ret := false, res := [ARes.tmp 2] }]
def f15h15_0am (fs : List AV) (n0 : Int) : AHeap := []
theorem f15p0 (A : Ar) (fs : List AV) : gfin A tab BOl 28 [true, true, true, true, true, true, true, true, true] 15 (f15e fs) [] =
  some ([A.and true (A.and true true), true, true, true, true, true, true, true, true, true, A.le (A.int (A.lenA fs)) 40, true, true, true, true, true, true, true, true, A.lt 24 (A.int (A.lenA fs)), true, true, true, true, true],
   AV.bool false, none) := by kernel_rfl
theorem f15p1 (A : Ar) (fs : List AV) : gfin A tab BOl 28 [true, true, true, true, false, false, false, false, true] 15 (f15e fs) [] =
  some ([A.and true (A.and true true), true, A.lt 42 (A.int (A.lenA fs)), true, true, true, true, true, true, true, !A.le (A.int (A.lenA fs)) 40, true, true, true, true, true, true, true, true, A.lt 24 (A.int (A.lenA fs)), true, true, true, true, true],
   AV.bool false, none) := by kernel_rfl
theorem f15p2 (A : Ar) (fs : List AV) : gwalkL A tab BOl 32 [true, true, true, true, false, false, false, false, false] (f15e fs) [] =
  some ([true, !A.lt 42 (A.int (A.lenA fs)), true, true, true, true, true, true, true, !A.le (A.int (A.lenA fs)) 40, true, true, true, true, true, true, true, true, A.lt 24 (A.int (A.lenA fs)), true, true, true, true, true],
   f15h15_0a (fs) (0), f15h15_0am (fs) (0)) := by kernel_rfl
theorem f15p4 (A : Ar) (fs : List AV) : gwalkL A tab BOl 32 [false, false, false, false, false, false, false, false, false] (f15e fs) [] =
  some ([true, !A.lt 42 (A.int (A.lenA fs)), true, true, true, true, true, true, true, true, true, true, true, true, true, true, true, true, !A.lt 24 (A.int (A.lenA fs)), true, true, true, true, true],
   f15h15_0a (fs) (0), f15h15_0am (fs) (0)) := by kernel_rfl
theorem f15p5 (A : Ar) (fs : List AV) (n0 : Int) : gfin A tab BOl 30 [true, true] 15 (f15h15_0a fs n0) (f15h15_0am fs n0) =
  some ([A.and true (A.and true true), true, A.lt 26 (A.int (A.len ((A.nthA fs (A.nat n0)).cellAt 3).toIs)), true, true, A.ltN 3 4, true, A.and (A.and (A.le 0 n0) (A.ltN (A.nat n0) (A.lenA fs))) (A.eqN 4 4), true, true, A.lt n0 (A.int (A.lenA fs)), true, true, true, true],
   AV.bool false, none) := by kernel_rfl
theorem f15p6 (A : Ar) (fs : List AV) (n0 : Int) : gwalkL A tab BOl 34 [true, false] (f15h15_0a fs n0) (f15h15_0am fs n0) =
  some ([true, A.inR .i64 (A.add n0 1), true, !A.lt 26 (A.int (A.len ((A.nthA fs (A.nat n0)).cellAt 3).toIs)), true, true, A.ltN 3 4, true, A.and (A.and (A.le 0 n0) (A.ltN (A.nat n0) (A.lenA fs))) (A.eqN 4 4), true, true, A.lt n0 (A.int (A.lenA fs)), true, true, true, true],
   f15h15_0a (fs) (A.add n0 1), f15h15_0am (fs) (A.add n0 1)) := by kernel_rfl
theorem f15p7 (A : Ar) (fs : List AV) (n0 : Int) : gfin A tab BOl 16 [false] 15 (f15h15_0a fs n0) (f15h15_0am fs n0) =
  some ([A.and true (A.and true true), true, !A.lt n0 (A.int (A.lenA fs)), true, true, true, true],
   AV.bool true, none) := by kernel_rfl
end Go.Proofs.Ytjhdnpmojhkbjaa
/- Contracts as a list. No condition. -/
namespace Go.Proofs.Ytjhdnpmojhkbjaa
theorem numR_rng (c : Int) : ∀ (fs : List AV) (last : Int), ∀ x ∈ numR c fs last, last - 32 * (fs.length : Int) ≤ keyN x ∧ keyN x ≤ last + 32 * (fs.length : Int)
  | [], _, x, hx => by simp [numR] at hx
  | f :: fs, last, x, hx => by
    unfold numR at hx
    have hn := nearI_ge last (ctF f)
    split at hx
    · rcases List.mem_cons.1 hx with rfl | hx
      · rw [key_num]; simp only [List.length_cons]; omega
      · have := numR_rng c fs _ x hx; simp only [List.length_cons]; omega
    · have := numR_rng c fs _ x hx; simp only [List.length_cons]; omega
theorem numR0_rng (c : Int) : ∀ (fs : List AV), ctB fs = true → ∀ x ∈ numR0 c fs, -32 * (fs.length : Int) ≤ keyN x ∧ keyN x ≤ 200 + 32 * (fs.length : Int)
  | [], _, x, hx => by simp [numR0] at hx
  | f :: fs, h, x, hx => by
    have h1 : 0 ≤ ctF f ∧ ctF f ≤ 63 := of_decide_eq_true (List.all_eq_true.mp h f (by simp))
    have h2 : ctB fs = true := List.all_eq_true.mpr fun g hg => List.all_eq_true.mp h g (by simp [hg])
    unfold numR0 at hx
    split at hx
    · rcases List.mem_cons.1 hx with rfl | hx
      · rw [key_num]; simp only [List.length_cons]; omega
      · have := numR_rng c fs _ x hx; simp only [List.length_cons]; omega
    · have := numR0_rng c fs h2 x hx; simp only [List.length_cons]; omega
theorem numR_len (c : Int) : ∀ (fs : List AV) (last : Int), (numR c fs last).length ≤ fs.length
  | [], _ => Nat.le_refl _
  | f :: fs, last => by
    unfold numR
    split
    · have := numR_len c fs (nearI last (ctF f)); simp only [List.length_cons]; omega
    · have := numR_len c fs last; simp only [List.length_cons]; omega
theorem numR0_len (c : Int) : ∀ (fs : List AV), (numR0 c fs).length ≤ fs.length
  | [] => Nat.le_refl _
  | f :: fs => by
    unfold numR0
    split
    · have := numR_len c fs (ctF f + 64); simp only [List.length_cons]; omega
    · have := numR0_len c fs; simp only [List.length_cons]; omega
theorem cpA_mem {x : AV} : ∀ {l : List AV} {p : AV}, x ∈ cpA p l → x ∈ l
  | [], _, h => h
  | y :: l, p, h => by
    unfold cpA at h
    split at h
    · exact List.mem_cons_of_mem _ (cpA_mem h)
    · rcases List.mem_cons.1 h with rfl | h
      · exact List.mem_cons_self
      · exact List.mem_cons_of_mem _ (cpA_mem h)
theorem cpN_mem {x : AV} {l : List AV} (h : x ∈ cpN l) : x ∈ l := by
  cases l with
  | nil => exact h
  | cons y l =>
    rcases List.mem_cons.1 h with rfl | h
    · exact List.mem_cons_self
    · exact List.mem_cons_of_mem _ (cpA_mem h)
theorem ordL_mem {x : AV} {c : Int} {fs : List AV} (h : x ∈ ordL c fs) : x ∈ numR0 c fs := by
  rw [ordL_eq] at h
  exact mem_sortN (cpN_mem h)
theorem ordL_len (c : Int) (fs : List AV) : (ordL c fs).length ≤ fs.length := by
  rw [ordL_eq]
  have h1 := cpN_len (sortN (numR0 c fs))
  rw [sortN_len] at h1
  have := numR0_len c fs
  omega
theorem ordL_str (c : Int) (fs : List AV) : StrN (ordL c fs) := by
  rw [ordL_eq]; exact (cpN_ok (sortN_ok _).1).1
theorem nm_of {fs : List AV} (h : nmB fs = true) : fs.length < 10000 ∧ ctB fs = true := by
  unfold nmB at h
  simpa using h
theorem ordL_rng {c : Int} {fs : List AV} (h : nmB fs = true) : ∀ x ∈ ordL c fs, -400000 ≤ keyN x ∧ keyN x ≤ 400000 := fun x hx => by
  obtain ⟨h1, h2⟩ := nm_of h
  have := numR0_rng c fs h2 x (ordL_mem hx)
  omega
theorem refN0_ord (c : Int) (fs : List AV) : refN0 c fs = ((ordL c fs).map valF, (ordL c fs).map keyN) := by
  rw [ordL_eq]; exact refN0_eq c fs
theorem str_span {l : List AV} (h : StrN l) (h0 : l ≠ []) : (l.length : Int) ≤ spanN l ∧ 0 < spanN l := by
  have key : ∀ (l : List AV) (x : AV), StrN (x :: l) → keyN x + (l.length : Int) ≤ keyN ((x :: l).getD l.length .top) := by
    intro l
    induction l with
    | nil => intro x _; simp
    | cons y l ih =>
      intro x hx
      obtain ⟨h1, h2⟩ := List.pairwise_cons.mp hx
      have := h1 y (by simp)
      have h3 := ih y h2
      simp only [List.length_cons, List.getD_cons_succ] at h3 ⊢
      omega
  cases l with
  | nil => exact absurd rfl h0
  | cons x l =>
    have := key l x h
    unfold spanN
    rw [if_neg (by simp)]
    simp only [List.length_cons, Nat.add_sub_cancel, List.getD_cons_zero]
    omega
theorem span_ok {c : Int} {fs : List AV} (h : nmB fs = true) : spanB (ordL c fs) = true ∧ -900000 ≤ spanN (ordL c fs) ∧ spanN (ordL c fs) ≤ 900000 := by
  have hl := ordL_len c fs
  obtain ⟨h1, _⟩ := nm_of h
  have hr := ordL_rng (c := c) h
  unfold spanB spanN
  generalize ordL c fs = l at *
  by_cases h0 : l = []
  · subst h0; simp [keyN, AV.cellAt, AV.toI]
  · have hp : 0 < l.length := List.length_pos_iff.mpr h0
    have g1 : l.getD (l.length - 1) .top ∈ l := by
      rw [List.getD_eq_getElem?_getD, List.getElem?_eq_getElem (by omega)]; exact List.getElem_mem _
    have g2 : l.getD 0 .top ∈ l := by
      rw [List.getD_eq_getElem?_getD, List.getElem?_eq_getElem (by omega)]; exact List.getElem_mem _
    have r1 := hr _ g1
    have r2 := hr _ g2
    rw [if_neg (by omega)]
    simp only [Bool.and_eq_true, decide_eq_true_eq]
    omega
theorem eachW_ok {a b : Int} : ∀ {fs : List AV}, eachW a b fs = 0 → ∀ f ∈ fs, frW a b f = 0
  | [], _, f, hf => absurd hf List.not_mem_nil
  | g :: fs, h, f, hf => by
    unfold eachW at h
    split at h
    · rename_i h0
      rcases List.mem_cons.1 hf with rfl | hf
      · exact h0
      · exact eachW_ok h f hf
    · rename_i h0; exact absurd h h0
theorem open_ok {a b c : Int} {fs : List AV} (h : openE a b c fs = 0) : rulesE a b = 0 ∧ chanW b c = 0 ∧ fs.length ≤ 40 ∧ eachW a b fs = 0 := by
  unfold openE at h
  simp only [firstE] at h
  by_cases h1 : rulesE a b = 0
  · by_cases h2 : chanW b c = 0
    · by_cases h3 : (fs.length : Int) ≤ 40
      · simp [h1, h2, h3] at h
        exact ⟨h1, h2, by omega, by by_cases h9 : eachW a b fs = 0
                                    · exact h9
                                    · exact h h9⟩
      · simp [h1, h2, h3, unlessE] at h
    · simp [h1, h2] at h
  · simp [h1] at h
theorem open_nm {a b c : Int} {fs : List AV} (h : openE a b c fs = 0) : nmB fs = true := by
  obtain ⟨h1, h2, h3, h4⟩ := open_ok h
  unfold nmB
  simp only [Bool.and_eq_true, decide_eq_true_eq]
  refine ⟨by omega, List.all_eq_true.mpr fun f hf => decide_eq_true ?_⟩
  have hw := eachW_ok h4 f hf
  have hrb : rulesB a b = true := by
    unfold rulesE at h1
    by_cases hb : rulesB a b = true
    · exact hb
    · rw [if_neg hb] at h1; cases h1
  unfold frW at hw
  rw [frameW_eq hrb] at hw
  exact (frameE_ok hw).2.1
def fewF (fs : List AV) : Bool := decide (fs.length ≤ 24 ∨ 40 < fs.length ∧ fs.length ≤ 42) && fs.all fun f => decide ((dtF f).length ≤ 26)
theorem few_loop {C : Ctx} (hC : C.P = Try.prog) (fs : List AV) (hl : fs.length ≤ 42) : ∀ (d i : Nat), fs.length - i = d → i ≤ fs.length →
    Ev C (f15h15_0a fs i) (f15h15_0am fs i) (FinQ 15 (.bool ((fs.drop i).all fun f => decide ((dtF f).length ≤ 26))) none) := by
  intro d
  induction d with
  | zero => intro i hd hi; exact fin hC BOl_ok (f15p7 std fs i) (by simp; omega) (by rw [List.drop_of_length_le (by omega)]; rfl) rfl
  | succ d ih =>
    intro i hd hi
    have hlt : i < fs.length := by omega
    have hg : fs.getD i .top = fs[i] := by simp [hlt]
    have e2 : std.add (i : Int) 1 = ((i + 1 : Nat) : Int) := by simp
    rw [List.drop_eq_getElem_cons hlt, List.all_cons]
    by_cases h : (dtF fs[i]).length ≤ 26
    · rw [decide_eq_true h, Bool.true_and]
      have hw := f15p6 std fs i
      simp only [s_nat, s_nthA, Int.toNat_natCast, hg, e2, show (AV.toIs (AV.cellAt fs[i] 3)) = dtF fs[i] from rfl] at hw
      exact go hC BOl_ok hw (by simp [hlt]; omega) (ih (i + 1) (by omega) (by omega))
    · rw [decide_eq_false h, Bool.false_and]
      have hw := f15p5 std fs i
      simp only [s_nat, s_nthA, Int.toNat_natCast, hg, show (AV.toIs (AV.cellAt fs[i] 3)) = dtF fs[i] from rfl] at hw
      exact fin hC BOl_ok hw (by simp [hlt]; omega) rfl rfl
theorem few15 (fs : List AV) : Pure Try.prog 15 [.list (.big shFr fs)] (.bool (fewF fs)) none :=
  start (f15e_at fs) fun C hC => by
    unfold fewF
    by_cases h1 : 24 < fs.length
    · by_cases h2 : fs.length ≤ 40
      · exact fin hC BOl_ok (f15p0 std fs) (by simp; omega) (by rw [decide_eq_false (by omega)]; rfl) rfl
      · by_cases h3 : 42 < fs.length
        · exact fin hC BOl_ok (f15p1 std fs) (by simp; omega) (by rw [decide_eq_false (by omega)]; rfl) rfl
        · rw [decide_eq_true (by omega), Bool.true_and]
          refine go hC BOl_ok (f15p2 std fs) (by simp; omega) ?_
          have := few_loop hC fs (by omega) fs.length 0 (by omega) (by omega)
          simpa using this
    · rw [decide_eq_true (by omega), Bool.true_and]
      refine go hC BOl_ok (f15p4 std fs) (by simp; omega) ?_
      have := few_loop hC fs (by omega) fs.length 0 (by omega) (by omega)
      simpa using this
theorem small_of {fs : List AV} (h : smallF fs = true) : fs.length ≤ 1000000 ∧ ∀ f ∈ fs, (dtF f).length ≤ 1000000 := by
  unfold smallF at h
  simpa using h
theorem few_small {fs : List AV} (h : fewF fs = true) : smallF fs = true := by
  unfold fewF at h
  simp only [Bool.and_eq_true, decide_eq_true_eq, List.all_eq_true] at h
  unfold smallF
  simp only [Bool.and_eq_true, decide_eq_true_eq, List.all_eq_true]
  exact ⟨by omega, fun f hf => by have := h.2 f hf; omega⟩
theorem cp17_loop {C : Ctx} (hC : C.P = Try.prog) (fs : List AV) (hl : fs.length ≤ 1000000) (hk : ∀ f ∈ fs, (dtF f).length ≤ 1000000) : ∀ (d i : Nat), fs.length - i = d → i ≤ fs.length →
    Ev C (f17h17_0b fs i ((fs.take i).map valF)) (f17h17_0bm fs i ((fs.take i).map valF)) (FinQ 17 (.row 0 0) (some ⟨74, 4, .big shFr (fs.map valF)⟩)) := by
  intro d
  induction d with
  | zero =>
    intro i hd hi
    rw [List.take_of_length_le (by omega)]
    exact fin hC BOl_ok (f17p4 std fs i _) (by simp; omega) rfl rfl
  | succ d ih =>
    intro i hd hi
    have hlt : i < fs.length := by omega
    have hg : fs.getD i .top = fs[i] := by simp [hlt]
    have e2 : std.add (i : Int) 1 = ((i + 1 : Nat) : Int) := by simp
    have hb := hk fs[i] (by simp)
    have ih' := ih (i + 1) (by omega) (by omega)
    rw [List.take_succ_eq_append_getElem hlt, List.map_append, List.map_singleton] at ih'
    have hlen2 : ((fs.take i).map valF).length = i := by simp; omega
    have hw := f17p3 std fs i ((fs.take i).map valF)
    generalize (fs.take i).map valF = X at *
    simp only [s_nat, s_nthA, Int.toNat_natCast, hg, e2, s_appA] at hw
    rw [show (AV.agg (Row.gen [AV.int .i64 (AV.toI (AV.cellAt fs[i] 0)), AV.int .i64 (AV.toI (AV.cellAt fs[i] 1)), AV.int .i64 (AV.toI (AV.cellAt fs[i] 2)), AV.list (.ints .i64 (AV.toIs (AV.cellAt fs[i] 3)))])) = valF fs[i] from rfl] at hw
    refine go hC BOl_ok hw ?_ ih'
    have hb' : (AV.toIs (AV.cellAt fs[i] 3)).length ≤ 1000000 := hb
    simp [hlt, hlen2, AV.bx, flatLen, Row.len, valF]
    omega
theorem copy17 (fs : List AV) (h : smallF fs = true) : Pure Try.prog 17 [.list (.big shFr fs)] (.list (.big shFr fs)) none := by
  obtain ⟨hl, hk⟩ := small_of h
  cases fs with
  | nil => exact frz2_nil (start (f17e_at []) fun C hC => go hC BOl_ok (f17p0 std []) (by simp) (fin hC BOl_ok (f17p2 std []) (by simp) rfl rfl)) rfl
  | cons f gs =>
    have key := frz2_row (e := 74) (sz := 3) (f := 17) (args := [.list (.big shFr (f :: gs))]) (r := .big shFr ((f :: gs).map valF))
      (start (f17e_at (f :: gs)) fun C hC => by
        refine go hC BOl_ok (f17p0 std (f :: gs)) (by simp) ?_
        have hb : (AV.toIs (AV.cellAt f 3)).length ≤ 1000000 := hk f (by simp)
        have hw := f17p1 std (f :: gs)
        have e1 : (f :: gs).getD (Int.toNat 0) .top = f := rfl
        simp only [s_nat, s_nthA, e1] at hw
        refine go hC BOl_ok hw ?_ ?_
        · simp [AV.bx, flatLen, Row.len]; omega
        · have := cp17_loop hC (f :: gs) hl hk gs.length 1 (by simp) (by simp)
          simpa [valF] using this) rfl
    exact pure_same key (by simp [Row.elems, valF, Sh.view, viewL, Sh.view1, AV.cellAt, AV.toI, AV.toIs])
theorem out59_loop {C : Ctx} (hC : C.P = Try.prog) (L : List AV) (hl : L.length ≤ 1000000) (hk : ∀ f ∈ L, (AV.toIs (AV.cellAt f 3)).length ≤ 1000000) : ∀ (d i : Nat), L.length - i = d → i ≤ L.length →
    Ev C (f59h59_0b L L.length i ((L.take i).map valF)) (f59h59_0bm L L.length i ((L.take i).map valF)) (FinQ 59 (.tup [.row 0 0, .int .i64 0]) (some ⟨74, 4, .big shFr (L.map valF)⟩)) := by
  intro d
  induction d with
  | zero =>
    intro i hd hi
    rw [List.take_of_length_le (by omega)]
    exact fin hC BOl_ok (f59p5 std L L.length i _) (by simp; omega) rfl rfl
  | succ d ih =>
    intro i hd hi
    have hlt : i < L.length := by omega
    have hg : L.getD i .top = L[i] := by simp [hlt]
    have e2 : std.add (i : Int) 1 = ((i + 1 : Nat) : Int) := by simp
    have hb := hk L[i] (by simp)
    have ih' := ih (i + 1) (by omega) (by omega)
    rw [List.take_succ_eq_append_getElem hlt, List.map_append, List.map_singleton] at ih'
    have hlen2 : ((L.take i).map valF).length = i := by simp; omega
    have hw := f59p4 std L L.length i ((L.take i).map valF)
    generalize (L.take i).map valF = X at *
    simp only [s_nat, s_nthA, Int.toNat_natCast, hg, e2, s_appA] at hw
    rw [show (AV.agg (Row.gen [AV.int .i64 (AV.toI (AV.cellAt L[i] 0)), AV.int .i64 (AV.toI (AV.cellAt L[i] 1)), AV.int .i64 (AV.toI (AV.cellAt L[i] 2)), AV.list (.ints .i64 (AV.toIs (AV.cellAt L[i] 3)))])) = valF L[i] from rfl] at hw
    refine go hC BOl_ok hw ?_ ih'
    simp [hlt, hlen2, AV.bx, flatLen, Row.len, valF]
    omega
theorem numR_data {c : Int} {m : Nat} : ∀ {fs : List AV} {last : Int}, (∀ f ∈ fs, (dtF f).length ≤ m) → ∀ x ∈ numR c fs last, (AV.toIs (AV.cellAt x 3)).length ≤ m
  | [], _, _, x, hx => by simp [numR] at hx
  | f :: fs, last, h, x, hx => by
    unfold numR at hx
    split at hx
    · rcases List.mem_cons.1 hx with rfl | hx
      · exact h f (by simp)
      · exact numR_data (fun g hg => h g (by simp [hg])) x hx
    · exact numR_data (fun g hg => h g (by simp [hg])) x hx
theorem numR0_data {c : Int} {m : Nat} : ∀ {fs : List AV}, (∀ f ∈ fs, (dtF f).length ≤ m) → ∀ x ∈ numR0 c fs, (AV.toIs (AV.cellAt x 3)).length ≤ m
  | [], _, x, hx => by simp [numR0] at hx
  | f :: fs, h, x, hx => by
    unfold numR0 at hx
    split at hx
    · rcases List.mem_cons.1 hx with rfl | hx
      · exact h f (by simp)
      · exact numR_data (fun g hg => h g (by simp [hg])) x hx
    · exact numR0_data (fun g hg => h g (by simp [hg])) x hx
def ordO (a b c : Int) (fs : List AV) : List AV := if openE a b c fs = 0 then (ordL c fs).map valF else []
theorem ordered59 (a b c : Int) (fs : List AV) (h : smallF fs = true) : Pure Try.prog 59 [.agg (.gen [.int .i64 a, .int .i64 b]), .int .i64 c, .list (.big shFr fs)] (.tup [.list (.big shFr (ordO a b c fs)), .int .i64 (openE a b c fs)]) none := by
  obtain ⟨hl, hk⟩ := small_of h
  by_cases h0 : openE a b c fs = 0
  · have hnm := open_nm h0
    have hL := ordL_len c fs
    have hD : ∀ f ∈ ordL c fs, (AV.toIs (AV.cellAt f 3)).length ≤ 1000000 := fun f hf => numR0_data hk f (ordL_mem hf)
    have e0 : ordO a b c fs = (ordL c fs).map valF := by unfold ordO; rw [if_pos h0]
    rw [e0, h0]
    have hw0 := f59p1 std a b c fs
    generalize ordL c fs = L at *
    cases L with
    | nil =>
      rw [List.map_nil]
      exact wk2_tup (xs := [.nils, .int .i64 0]) (start (f59e_at a b c fs) fun C hC => go hC BOl_ok hw0 (by simp [h, h0, hnm]) (by
        have := fin hC BOl_ok (f59p3 std [] 0) (by simp) rfl rfl
        simpa using this)) ⟨.one (.nil _ rfl), wk2_refl _, trivial⟩
    | cons x L =>
      refine frz2_tup (e := 74) (sz := 3) (xs := [.row 0 0, .int .i64 0]) (start (f59e_at a b c fs) fun C hC => go hC BOl_ok hw0 (by simp [h, h0, hnm]) ?_) rfl ⟨.row, .same _ rfl, trivial⟩
      have hb := hD x (by simp)
      have hw := f59p2 std (x :: L) (std.int (std.lenA (x :: L)))
      have e1 : (x :: L).getD (Int.toNat 0) .top = x := rfl
      simp only [s_nat, s_nthA, e1] at hw
      refine go hC BOl_ok hw ?_ ?_
      · simp [AV.bx, flatLen, Row.len]; omega
      · have := out59_loop hC (x :: L) (by omega) hD L.length 1 (by simp) (by simp)
        simpa [valF] using this
  · have e0 : ordO a b c fs = [] := by unfold ordO; rw [if_neg h0]
    rw [e0]
    exact wk2_tup (start (f59e_at a b c fs) fun C hC => fin hC BOl_ok (f59p0 std a b c fs) (by simp [h, h0]) rfl rfl) ⟨.one (.nil _ rfl), wk2_refl _, trivial⟩
theorem ordO_eq (a b c : Int) (fs : List AV) : ordO a b c fs = if openE a b c fs = 0 then (ordL c fs).map valF else [] := rfl
attribute [irreducible] ordO
def missO (a b c : Int) (fs : List AV) : Int := if openE a b c fs = 0 then spanN (ordL c fs) - ((ordL c fs).length : Int) else 0
theorem miss58 (a b c : Int) (fs : List AV) (h : smallF fs = true) : Pure Try.prog 58 [.agg (.gen [.int .i64 a, .int .i64 b]), .int .i64 c, .list (.big shFr fs)] (.tup [.int .i64 (missO a b c fs), .int .i64 (openE a b c fs)]) none :=
  start (f58e_at a b c fs) fun C hC => by
    unfold missO
    by_cases h0 : openE a b c fs = 0
    · have hnm := open_nm h0
      obtain ⟨s1, s2, s3⟩ := span_ok (c := c) hnm
      have hL := ordL_len c fs
      have hl := (small_of h).1
      rw [if_pos h0, h0]
      refine fin hC BOl_ok (f58p1 std a b c fs) ?_ rfl rfl
      simp [h, h0, hnm, s1]
      omega
    · rw [if_neg h0]
      exact fin hC BOl_ok (f58p0 std a b c fs) (by simp [h, h0]) rfl rfl
def lossE (a b c : Int) (fs : List AV) : Int := if openE a b c fs = 0 then (if (ordL c fs).length = 0 then 12 else 0) else openE a b c fs
def lossP (a b c : Int) (fs : List AV) (g : Int → Int → Int) : Int := if lossE a b c fs = 0 then g (spanN (ordL c fs) - ((ordL c fs).length : Int)) (spanN (ordL c fs)) else 0
theorem loss71 (a b c : Int) (fs : List AV) (h : smallF fs = true) : Pure Try.prog 71 [.agg (.gen [.int .i64 a, .int .i64 b]), .int .i64 c, .list (.big shFr fs)] (.tup [.agg (.gen [.int .i64 (lossP a b c fs lN), .int .i64 (lossP a b c fs lD)]), .int .i64 (lossE a b c fs)]) none :=
  start (f71e_at a b c fs) fun C hC => by
    unfold lossP lossE
    by_cases h0 : openE a b c fs = 0
    · have hnm := open_nm h0
      obtain ⟨s1, s2, s3⟩ := span_ok (c := c) hnm
      have hL := ordL_len c fs
      have hl := (small_of h).1
      rw [if_pos h0]
      by_cases h1 : (ordL c fs).length = 0
      · rw [if_pos h1, if_neg (by decide), if_neg (by decide)]
        exact fin hC BOl_ok (f71p1 std a b c fs) (by simp [h, h0, hnm, h1]) rfl rfl
      · rw [if_neg h1, if_pos rfl, if_pos rfl]
        obtain ⟨q1, q2⟩ := str_span (ordL_str c fs) (fun e => h1 (by rw [e]; rfl))
        have b1 : bigB (spanN (ordL c fs) - ((ordL c fs).length : Int)) = true := decide_eq_true (by omega)
        have b2 : bigB (spanN (ordL c fs)) = true := decide_eq_true (by omega)
        have hw := f71p2 std a b c fs
        simp only [s_sub, s_int, s_lenA] at hw
        refine fin hC BOl_ok hw ?_ rfl rfl
        simp [h, h0, hnm, h1, s1, b1, b2, q2]
        omega
    · rw [if_neg h0, if_neg h0, if_neg h0]
      exact fin hC BOl_ok (f71p0 std a b c fs) (by simp [h, h0]) rfl rfl
def k15 : Ctr := ⟨15, 0, fun _ a => match a with | [.list (.big (.agg [.int .i64, .int .i64, .int .i64, .ints .i64]) fs)] => some (true, .bool (fewF fs), none) | _ => none⟩
theorem k15_ok : k15.OK Try.prog := fun pa args r fr h => by
  simp only [k15] at h
  split at h
  · cases h
    exact few15 _
  · cases h
def k17 : Ctr := ⟨17, 0, fun _ a => match a with | [.list (.big (.agg [.int .i64, .int .i64, .int .i64, .ints .i64]) fs)] => some (decide (smallF fs = true), .list (.big shFr fs), none) | _ => none⟩
theorem k17_ok : k17.OK Try.prog := fun pa args r fr h => by
  simp only [k17] at h
  split at h
  · simp only [Option.some.injEq, Prod.mk.injEq, decide_eq_true_eq] at h
    obtain ⟨h0, rfl, rfl⟩ := h
    exact copy17 _ h0
  · cases h
def k59 : Ctr := ⟨59, 0, fun _ a => match a with | [.agg (.gen [.int .i64 a, .int .i64 b]), .int .i64 c, .list (.big (.agg [.int .i64, .int .i64, .int .i64, .ints .i64]) fs)] => some (decide (smallF fs = true), .tup [.list (.big shFr (ordO a b c fs)), .int .i64 (openE a b c fs)], none) | _ => none⟩
theorem k59_ok : k59.OK Try.prog := fun pa args r fr h => by
  simp only [k59] at h
  split at h
  · simp only [Option.some.injEq, Prod.mk.injEq, decide_eq_true_eq] at h
    obtain ⟨h0, rfl, rfl⟩ := h
    exact ordered59 _ _ _ _ h0
  · cases h
def k58 : Ctr := ⟨58, 0, fun _ a => match a with | [.agg (.gen [.int .i64 a, .int .i64 b]), .int .i64 c, .list (.big (.agg [.int .i64, .int .i64, .int .i64, .ints .i64]) fs)] => some (decide (smallF fs = true), .tup [.int .i64 (missO a b c fs), .int .i64 (openE a b c fs)], none) | _ => none⟩
theorem k58_ok : k58.OK Try.prog := fun pa args r fr h => by
  simp only [k58] at h
  split at h
  · simp only [Option.some.injEq, Prod.mk.injEq, decide_eq_true_eq] at h
    obtain ⟨h0, rfl, rfl⟩ := h
    exact miss58 _ _ _ _ h0
  · cases h
def k71 : Ctr := ⟨71, 0, fun _ a => match a with | [.agg (.gen [.int .i64 a, .int .i64 b]), .int .i64 c, .list (.big (.agg [.int .i64, .int .i64, .int .i64, .ints .i64]) fs)] => some (decide (smallF fs = true), .tup [.agg (.gen [.int .i64 (lossP a b c fs lN), .int .i64 (lossP a b c fs lD)]), .int .i64 (lossE a b c fs)], none) | _ => none⟩
theorem k71_ok : k71.OK Try.prog := fun pa args r fr h => by
  simp only [k71] at h
  split at h
  · simp only [Option.some.injEq, Prod.mk.injEq, decide_eq_true_eq] at h
    obtain ⟨h0, rfl, rfl⟩ := h
    exact loss71 _ _ _ _ h0
  · cases h
def BOm : List Ctr := [k15, k17, k59, k58, k71] ++ BOl
theorem BOm_ok : CtrsOK Try.prog BOm := ⟨k15_ok, ⟨k17_ok, ⟨k59_ok, ⟨k58_ok, ⟨k71_ok, BOl_ok⟩⟩⟩⟩⟩
end Go.Proofs.Ytjhdnpmojhkbjaa
/- Paths of functions, printed by the explorer (Gx). No condition. -/
namespace Go.Proofs.Ytjhdnpmojhkbjaa
set_option maxRecDepth 100000
set_option linter.unusedVariables false
def f38e (fs : List AV) (gs : List AV) : List AFrame := [{ fn := 38, N := 27, env := [(0, AV.list (Row.big (Sh.agg [Sh.int .i64, Sh.int .i64, Sh.int .i64, Sh.ints .i64]) fs)), (1, AV.list (Row.big (Sh.agg [Sh.int .i64, Sh.int .i64, Sh.int .i64, Sh.ints .i64]) gs))], todo := [.code a38.code], defs := [], rnd := none, ret := false, res := [ARes.tmp 4] }]
theorem f38e_at (fs : List AV) (gs : List AV) : enterA tab 38 [AV.list (Row.big (Sh.agg [Sh.int .i64, Sh.int .i64, Sh.int .i64, Sh.ints .i64]) fs), AV.list (Row.big (Sh.agg [Sh.int .i64, Sh.int .i64, Sh.int .i64, Sh.ints .i64]) gs)] = some { fn := 38, N := 27, env := [(0, AV.list (Row.big (Sh.agg [Sh.int .i64, Sh.int .i64, Sh.int .i64, Sh.ints .i64]) fs)), (1, AV.list (Row.big (Sh.agg [Sh.int .i64, Sh.int .i64, Sh.int .i64, Sh.ints .i64]) gs))], todo := [.code a38.code], defs := [], rnd := none, ret := false, res := [ARes.tmp 4] } := rfl
def f38h38_0a (fs : List AV) (gs : List AV) (n0 : Int) : List AFrame := [{ fn := 38, N := 27, env := [(0, AV.list (Row.big (Sh.agg [Sh.int .i64, Sh.int .i64, Sh.int .i64, Sh.ints .i64]) fs)), (1, AV.list (Row.big (Sh.agg [Sh.int .i64, Sh.int .i64, Sh.int .i64, Sh.ints .i64]) gs)), (5, AV.int .i64 n0)], todo := .code (ACode.gh [] l38_0) :: k38_0, defs := [], rnd := none, ret := false, res := [ARes.tmp 4] }]
def f38h38_0am (fs : List AV) (gs : List AV) (n0 : Int) : AHeap := []
theorem f38p0 (A : Ar) (fs : List AV) (gs : List AV) : gfin A tab B5 19 [true] 38 (f38e fs gs) [] =
  some ([A.and true (A.and true true), true, A.not (A.eq (A.int (A.lenA fs)) (A.int (A.lenA gs))), true, true, true, true, true, true],
   AV.bool false, none) := by kernel_rfl
theorem f38p1 (A : Ar) (fs : List AV) (gs : List AV) : gwalkL A tab B5 23 [false] (f38e fs gs) [] =
  some ([true, !A.not (A.eq (A.int (A.lenA fs)) (A.int (A.lenA gs))), true, true, true, true, true, true],
   f38h38_0a (fs) (gs) (0), f38h38_0am (fs) (gs) (0)) := by kernel_rfl
theorem f38p2 (A : Ar) (fs : List AV) (gs : List AV) (n0 : Int) : gfin A tab B5 22 [true, true] 38 (f38h38_0a fs gs n0) (f38h38_0am fs gs n0) =
  some ([A.and true (A.and true true), true, A.not (decide (AV.toI (AV.cellAt (A.nthA fs (A.nat n0)) 0) = AV.toI (AV.cellAt (A.nthA gs (A.nat n0)) 0) ∧ AV.toI (AV.cellAt (A.nthA fs (A.nat n0)) 1) = AV.toI (AV.cellAt (A.nthA gs (A.nat n0)) 1) ∧ AV.toI (AV.cellAt (A.nthA fs (A.nat n0)) 2) = AV.toI (AV.cellAt (A.nthA gs (A.nat n0)) 2) ∧ AV.toIs (AV.cellAt (A.nthA fs (A.nat n0)) 3) = AV.toIs (AV.cellAt (A.nthA gs (A.nat n0)) 3))), true, A.and true (decide (List.length ((A.nthA fs (A.nat n0)).cellAt 3).toIs ≤ 1000000)), A.leN (A.addN 0 4) 4, A.and (A.and (A.le 0 n0) (A.ltN (A.nat n0) (A.lenA gs))) (A.eqN 4 4), true, true, A.leN (A.addN 0 4) 4, A.and (A.and (A.le 0 n0) (A.ltN (A.nat n0) (A.lenA fs))) (A.eqN 4 4), true, true, A.lt n0 (A.int (A.lenA fs)), true, true, true, true],
   AV.bool false, none) := by kernel_rfl
theorem f38p3 (A : Ar) (fs : List AV) (gs : List AV) (n0 : Int) : gwalkL A tab B5 26 [true, false] (f38h38_0a fs gs n0) (f38h38_0am fs gs n0) =
  some ([true, A.inR .i64 (A.add n0 1), true, !A.not (decide (AV.toI (AV.cellAt (A.nthA fs (A.nat n0)) 0) = AV.toI (AV.cellAt (A.nthA gs (A.nat n0)) 0) ∧ AV.toI (AV.cellAt (A.nthA fs (A.nat n0)) 1) = AV.toI (AV.cellAt (A.nthA gs (A.nat n0)) 1) ∧ AV.toI (AV.cellAt (A.nthA fs (A.nat n0)) 2) = AV.toI (AV.cellAt (A.nthA gs (A.nat n0)) 2) ∧ AV.toIs (AV.cellAt (A.nthA fs (A.nat n0)) 3) = AV.toIs (AV.cellAt (A.nthA gs (A.nat n0)) 3))), true, A.and true (decide (List.length ((A.nthA fs (A.nat n0)).cellAt 3).toIs ≤ 1000000)), A.leN (A.addN 0 4) 4, A.and (A.and (A.le 0 n0) (A.ltN (A.nat n0) (A.lenA gs))) (A.eqN 4 4), true, true, A.leN (A.addN 0 4) 4, A.and (A.and (A.le 0 n0) (A.ltN (A.nat n0) (A.lenA fs))) (A.eqN 4 4), true, true, A.lt n0 (A.int (A.lenA fs)), true, true, true, true],
   f38h38_0a (fs) (gs) (A.add n0 1), f38h38_0am (fs) (gs) (A.add n0 1)) := by kernel_rfl
theorem f38p4 (A : Ar) (fs : List AV) (gs : List AV) (n0 : Int) : gfin A tab B5 16 [false] 38 (f38h38_0a fs gs n0) (f38h38_0am fs gs n0) =
  some ([A.and true (A.and true true), true, !A.lt n0 (A.int (A.lenA fs)), true, true, true, true],
   AV.bool true, none) := by kernel_rfl
end Go.Proofs.Ytjhdnpmojhkbjaa
/- Contracts as a list. No condition. -/
namespace Go.Proofs.Ytjhdnpmojhkbjaa
def frV (f : AV) : Int × Int × Int × List Int := ((f.cellAt 0).toI, (f.cellAt 1).toI, (f.cellAt 2).toI, (f.cellAt 3).toIs)
def lenG (fs : List AV) : Bool := decide (fs.length ≤ 1000000) && fs.all fun f => decide ((frV f).2.2.2.length ≤ 1000000)
theorem l38 {C : Ctx} (hC : C.P = Try.prog) (xs ys : List AV) (hl : xs.length = ys.length) (hlen : xs.length ≤ 1000000) (hk : ∀ f ∈ xs, (frV f).2.2.2.length ≤ 1000000) : ∀ (d i : Nat), xs.length - i = d → i ≤ xs.length → (xs.take i).map frV = (ys.take i).map frV →
    Ev C (f38h38_0a xs ys i) (f38h38_0am xs ys i) (FinQ 38 (.bool (decide (xs.map frV = ys.map frV))) none) := by
  intro d
  induction d with
  | zero =>
    intro i hd hi ht
    have hi : i = xs.length := by omega
    have he : xs.map frV = ys.map frV := by rw [hi] at ht; rw [List.take_length, hl, List.take_length] at ht; exact ht
    exact fin hC B5_ok (f38p4 std xs ys i) (by simp; omega) (by simp [he]) rfl
  | succ d ih =>
    intro i hd hi ht
    have hlt : i < xs.length := by omega
    have hlt2 : i < ys.length := by omega
    have e1 : std.nthA xs (std.nat (i : Int)) = xs[i] := by simp [hlt]
    have e2 : std.nthA ys (std.nat (i : Int)) = ys[i] := by simp [hlt2]
    have hb : (xs[i].cellAt 3).toIs.length ≤ 1000000 := hk xs[i] (by simp)
    by_cases h1 : frV xs[i] = frV ys[i]
    · have h2 := h1
      simp only [frV, Prod.mk.injEq] at h2
      refine go hC B5_ok (f38p3 std xs ys i) ?_ (ih (i + 1) (by omega) (by omega) (by
        rw [List.take_succ_eq_append_getElem hlt, List.take_succ_eq_append_getElem hlt2, List.map_append, List.map_append, ht, List.map_singleton, List.map_singleton, h1]))
      simp only [e1, e2, decide_eq_true h2, decide_eq_true hb]
      simp [hlt, hlt2]
      omega
    · have h2 : ¬ ((xs[i].cellAt 0).toI = (ys[i].cellAt 0).toI ∧ (xs[i].cellAt 1).toI = (ys[i].cellAt 1).toI ∧ (xs[i].cellAt 2).toI = (ys[i].cellAt 2).toI ∧ (xs[i].cellAt 3).toIs = (ys[i].cellAt 3).toIs) := fun h => h1 (by simp only [frV, Prod.mk.injEq]; exact h)
      refine fin hC B5_ok (f38p2 std xs ys i) ?_ ?_ rfl
      · simp only [e1, e2, decide_eq_false h2, decide_eq_true hb]
        simp [hlt, hlt2]
      · have : xs.map frV ≠ ys.map frV := fun e => h1 (by
          have := congrArg (fun l => l[i]?) e
          simpa [hlt, hlt2] using this)
        simp [this]
theorem same38_ok (xs ys : List AV) (h : lenG xs = true) : Pure Try.prog 38 [.list (.big (.agg [.int .i64, .int .i64, .int .i64, .ints .i64]) xs), .list (.big (.agg [.int .i64, .int .i64, .int .i64, .ints .i64]) ys)] (.bool (decide (xs.map frV = ys.map frV))) none :=
  start (f38e_at xs ys) fun C hC => by
    rw [lenG, Bool.and_eq_true, decide_eq_true_eq, List.all_eq_true] at h
    by_cases hl : xs.length = ys.length
    · exact go hC B5_ok (f38p1 std xs ys) (by simp; omega) (l38 hC xs ys hl h.1 (fun f hf => of_decide_eq_true (h.2 f hf)) xs.length 0 (by omega) (by omega) rfl)
    · refine fin hC B5_ok (f38p0 std xs ys) (by simp; omega) ?_ rfl
      have : xs.map frV ≠ ys.map frV := fun e => hl (by have := congrArg List.length e; simpa using this)
      simp [this]
def k38 : Ctr := ⟨38, 0, fun _ a => match a with | [.list (.big (.agg [.int .i64, .int .i64, .int .i64, .ints .i64]) xs), .list (.big (.agg [.int .i64, .int .i64, .int .i64, .ints .i64]) ys)] => some (decide (lenG xs = true), .bool (decide (xs.map frV = ys.map frV)), none) | _ => none⟩
theorem k38_ok : k38.OK Try.prog := fun pa args r fr h => by
  simp only [k38] at h
  split at h
  · simp only [Option.some.injEq, Prod.mk.injEq, decide_eq_true_eq] at h
    obtain ⟨h0, rfl, rfl⟩ := h
    exact same38_ok _ _ h0
  · cases h
end Go.Proofs.Ytjhdnpmojhkbjaa
/- The contracts of frames that are compared, too. No condition. -/
namespace Go.Proofs.Ytjhdnpmojhkbjaa
def BOn : List Ctr := k38 :: BOm
theorem BOn_ok : CtrsOK Try.prog BOn := ⟨k38_ok, BOm_ok⟩
end Go.Proofs.Ytjhdnpmojhkbjaa
/- Paths of functions, printed by the explorer (Gx). No condition. -/
namespace Go.Proofs.Ytjhdnpmojhkbjaa
set_option maxRecDepth 100000
set_option linter.unusedVariables false
def f13e (a : Int) (b : Int) (c : Int) (fs : List AV) : List AFrame := [{ fn := 13, N := 159, env := [(0, AV.agg (Row.gen [AV.int .i64 a, AV.int .i64 b])), (1, AV.int .i64 c), (2, AV.list (Row.big (Sh.agg [Sh.int .i64, Sh.int .i64, Sh.int .i64, Sh.ints .i64]) fs))], todo := [.code a13.code], defs := [], rnd := none, ret := false, res := [ARes.tmp 6] }]
theorem f13e_at (a : Int) (b : Int) (c : Int) (fs : List AV) : enterA tab 13 [AV.agg (Row.gen [AV.int .i64 a, AV.int .i64 b]), AV.int .i64 c, AV.list (Row.big (Sh.agg [Sh.int .i64, Sh.int .i64, Sh.int .i64, Sh.ints .i64]) fs)] = some { fn := 13, N := 159, env := [(0, AV.agg (Row.gen [AV.int .i64 a, AV.int .i64 b])), (1, AV.int .i64 c), (2, AV.list (Row.big (Sh.agg [Sh.int .i64, Sh.int .i64, Sh.int .i64, Sh.ints .i64]) fs))], todo := [.code a13.code], defs := [], rnd := none, ret := false, res := [ARes.tmp 6] } := rfl
theorem f13p0 (A : Ar) (a : Int) (b : Int) (c : Int) (fs : List AV) : gfin A tab BOn 26 [false, true] 13 (f13e a b c fs) [] =
  some ([A.and true (A.and true true), true, A.not (fewF fs), true, A.and true true, true, !A.not true, true, A.and true true, true, A.and true (A.ltN 0 2)],
   AV.bool true, none) := by kernel_rfl
theorem f13p1 (A : Ar) (a : Int) (b : Int) (c : Int) (fs : List AV) : gfin A tab BOn 103 [false, false, true, true, true, true, true, true, true, true, true, true, true, true, true, true, true, true, true, true, true, true, true, true] 13 (f13e a b c fs) [] =
  some ([A.and true (A.and true true), true, true, true, A.and true true, true, true, true, A.and (A.ltN 0 1) (A.leN (A.addN 0 2) 2), A.eq (missO a b c fs) 0, true, true, true, true, true, true, A.eq (A.int (A.lenA (ordO a b c fs))) 0, true, true, true, true, true, true, true, true, A.eq (lossE a b c fs) (refE a b fs), true, true, true, true, true, true, true, true, A.eq (openE a b c fs) (refE a b fs), true, true, true, true, true, true, true, true, A.eq (openE a b c fs) (refE a b fs), true, true, true, true, A.not (A.eq (refE a b fs) 0), true, true, true, A.and true (decide (f20B a b fs = true)), true, A.and (A.ltN 0 1) (A.leN (A.addN 0 2) 2), A.eq (chanE b c) 0, true, true, true, A.and true (decide (-1000000 ≤ b ∧ b ≤ 1000000)), true, A.and (A.ltN 0 1) (A.leN (A.addN 0 2) 2), A.eq (rulesE a b) 0, true, true, true, A.and true true, A.and (A.ltN 0 1) (A.leN (A.addN 0 2) 2), true, A.and (A.ltN 0 1) (A.eqN 2 2), A.and true (A.ltN 0 2), true, true, true, A.and true (decide (smallF fs = true)), A.and true (decide (smallF fs = true)), true, true, A.and (A.ltN 0 1) (A.leN (A.addN 0 2) 2), true, true, true, true, true, A.and true (decide (smallF fs = true)), A.and true (decide (smallF fs = true)), true, true, A.and (A.ltN 0 1) (A.leN (A.addN 0 2) 2), true, true, true, true, true, A.and true (decide (smallF fs = true)), A.and true (decide (smallF fs = true)), true, true, A.and (A.ltN 0 1) (A.leN (A.addN 0 2) 2), !A.not (fewF fs), true, A.and true true, true, !A.not true, true, A.and true true, true, A.and true (A.ltN 0 2)],
   AV.bool (A.and (A.eq (lossP a b c fs lN) 0) (A.eq (lossP a b c fs lD) 0)), none) := by kernel_rfl
theorem f13p3 (A : Ar) (a : Int) (b : Int) (c : Int) (fs : List AV) : gfin A tab BOn 126 [false, false, true, true, false, true, false, false, false, false, false, true, true, true, true, true, true, true, true, true, true, true, true, true] 13 (f13e a b c fs) [] =
  some ([A.and true (A.and true true), true, true, true, true, true, A.and true (decide (missB c fs = true)), true, true, true, true, true, true, A.eq (openE a b c fs) 0, true, true, true, true, true, true, decide (List.map frV (ordO a b c fs) = List.map frV (refN0 c fs).1), true, true, true, A.and true (decide (lenG (ordO a b c fs) = true)), true, true, true, true, A.eq (openE a b c fs) 0, true, true, true, true, true, true, true, true, true, true, true, true, true, !A.not (decide ¬List.length (refN0 c fs).snd = 0), true, true, true, !A.not (A.eq (A.add (A.int (A.len (refN0 c fs).2)) (missO a b c fs)) (A.add (A.sub (A.nth (refN0 c fs).2 (A.nat (A.sub (A.int (A.len (refN0 c fs).2)) 1))) (A.nth (refN0 c fs).2 (A.nat 0))) 1)), true, true, true, true, A.inR .i64 (A.add (A.sub (A.nth (refN0 c fs).2 (A.nat (A.sub (A.int (A.len (refN0 c fs).2)) 1))) (A.nth (refN0 c fs).2 (A.nat 0))) 1), A.inR .i64 (A.sub (A.nth (refN0 c fs).2 (A.nat (A.sub (A.int (A.len (refN0 c fs).2)) 1))) (A.nth (refN0 c fs).2 (A.nat 0))), A.eqN 0 0, A.and (A.and (A.le 0 0) (A.ltN (A.nat 0) (A.len (refN0 c fs).2))) (A.eqN 1 1), true, A.eqN 0 0, A.and (A.and (A.le 0 (A.sub (A.int (A.len (refN0 c fs).2)) 1)) (A.ltN (A.nat (A.sub (A.int (A.len (refN0 c fs).2)) 1)) (A.len (refN0 c fs).2))) (A.eqN 1 1), A.inR .i64 (A.sub (A.int (A.len (refN0 c fs).2)) 1), true, true, true, A.inR .i64 (A.add (A.int (A.len (refN0 c fs).2)) (missO a b c fs)), true, true, true, !A.not (A.and (A.eq (lossP a b c fs lN) (lossN (refN0 c fs).2)) (A.eq (lossP a b c fs lD) (lossD (refN0 c fs).2))), true, true, A.and true true, A.and (A.ltN 0 1) (A.leN (A.addN 0 2) 2), A.and (A.ltN 0 1) (A.leN (A.addN 0 2) 2), !A.not (A.eq (lossE a b c fs) 0), true, true, true, decide ¬List.length (refN0 c fs).snd = 0, true, true, true, A.and (A.ltN 0 1) (A.eqN 2 2), A.and true (A.ltN 0 2), true, true, true, A.and true (decide (lossB c fs = true)), true, true, true, true, true, true, true, A.and true (decide (nmB fs = true)), true, true, !A.not (A.eq (refE a b fs) 0), true, true, true, A.and true (decide (f20B a b fs = true)), true, A.and (A.ltN 0 1) (A.leN (A.addN 0 2) 2), A.eq (chanE b c) 0, true, true, true, A.and true (decide (-1000000 ≤ b ∧ b ≤ 1000000)), true, A.and (A.ltN 0 1) (A.leN (A.addN 0 2) 2), A.eq (rulesE a b) 0, true, true, true, A.and true true, A.and (A.ltN 0 1) (A.leN (A.addN 0 2) 2), true, A.and (A.ltN 0 1) (A.eqN 2 2), A.and true (A.ltN 0 2), true, true, true, A.and true (decide (smallF fs = true)), A.and true (decide (smallF fs = true)), true, true, A.and (A.ltN 0 1) (A.leN (A.addN 0 2) 2), true, true, true, true, true, A.and true (decide (smallF fs = true)), A.and true (decide (smallF fs = true)), true, true, A.and (A.ltN 0 1) (A.leN (A.addN 0 2) 2), true, true, true, true, true, A.and true (decide (smallF fs = true)), A.and true (decide (smallF fs = true)), true, true, A.and (A.ltN 0 1) (A.leN (A.addN 0 2) 2), !A.not (fewF fs), true, A.and true true, true, !A.not true, true, A.and true true, true, A.and true (A.ltN 0 2)],
   AV.bool (A.eq (missO a b c fs) (missK (refN0 c fs).2)), none) := by kernel_rfl
theorem f13p4 (A : Ar) (a : Int) (b : Int) (c : Int) (fs : List AV) : gfin A tab BOn 126 [false, false, true, true, false, false, false, true, false, false, true, true, true, true, true, true, true, true, true, true, true, true, true] 13 (f13e a b c fs) [] =
  some ([A.and true (A.and true true), true, true, true, true, true, A.and true (decide (missB c fs = true)), true, true, true, true, true, true, A.eq (openE a b c fs) 0, true, true, true, true, true, true, decide (List.map frV (ordO a b c fs) = List.map frV (refN0 c fs).1), true, true, true, A.and true (decide (lenG (ordO a b c fs) = true)), true, true, true, true, A.eq (openE a b c fs) 0, true, true, true, !A.not (A.and (A.eq (lossP a b c fs lN) 0) (A.eq (lossP a b c fs lD) 0)), true, true, true, A.and true true, true, A.and (A.ltN 0 1) (A.leN (A.addN 0 2) 2), !A.not (A.eq (lossE a b c fs) 12), true, true, true, A.not (decide ¬List.length (refN0 c fs).snd = 0), true, true, true, true, true, true, true, true, true, true, true, true, true, true, true, true, true, true, true, true, true, true, true, true, true, true, true, true, true, true, true, !decide ¬List.length (refN0 c fs).snd = 0, true, true, true, A.and (A.ltN 0 1) (A.eqN 2 2), A.and true (A.ltN 0 2), true, true, true, A.and true (decide (lossB c fs = true)), true, true, true, true, true, true, true, A.and true (decide (nmB fs = true)), true, true, !A.not (A.eq (refE a b fs) 0), true, true, true, A.and true (decide (f20B a b fs = true)), true, A.and (A.ltN 0 1) (A.leN (A.addN 0 2) 2), A.eq (chanE b c) 0, true, true, true, A.and true (decide (-1000000 ≤ b ∧ b ≤ 1000000)), true, A.and (A.ltN 0 1) (A.leN (A.addN 0 2) 2), A.eq (rulesE a b) 0, true, true, true, A.and true true, A.and (A.ltN 0 1) (A.leN (A.addN 0 2) 2), true, A.and (A.ltN 0 1) (A.eqN 2 2), A.and true (A.ltN 0 2), true, true, true, A.and true (decide (smallF fs = true)), A.and true (decide (smallF fs = true)), true, true, A.and (A.ltN 0 1) (A.leN (A.addN 0 2) 2), true, true, true, true, true, A.and true (decide (smallF fs = true)), A.and true (decide (smallF fs = true)), true, true, A.and (A.ltN 0 1) (A.leN (A.addN 0 2) 2), true, true, true, true, true, A.and true (decide (smallF fs = true)), A.and true (decide (smallF fs = true)), true, true, A.and (A.ltN 0 1) (A.leN (A.addN 0 2) 2), !A.not (fewF fs), true, A.and true true, true, !A.not true, true, A.and true true, true, A.and true (A.ltN 0 2)],
   AV.bool (A.eq (missO a b c fs) (missK (refN0 c fs).2)), none) := by kernel_rfl
theorem f13p6 (A : Ar) (a : Int) (b : Int) (c : Int) (fs : List AV) : gfin A tab BOn 98 [false, false, true, false, true, true, true, true, true, true, true, true, true, true, true, true, true, true, true, true, true, true, true, true] 13 (f13e a b c fs) [] =
  some ([A.and true (A.and true true), true, true, true, A.and true true, true, true, true, A.and (A.ltN 0 1) (A.leN (A.addN 0 2) 2), A.eq (missO a b c fs) 0, true, true, true, true, true, true, A.eq (A.int (A.lenA (ordO a b c fs))) 0, true, true, true, true, true, true, true, true, A.eq (lossE a b c fs) (chanE b c), true, true, true, true, true, true, true, true, A.eq (openE a b c fs) (chanE b c), true, true, true, true, true, true, true, true, A.eq (openE a b c fs) (chanE b c), true, true, true, true, A.not (A.eq (chanE b c) 0), true, true, !A.eq (chanE b c) 0, true, true, true, A.and true (decide (-1000000 ≤ b ∧ b ≤ 1000000)), true, A.and (A.ltN 0 1) (A.leN (A.addN 0 2) 2), A.eq (rulesE a b) 0, true, true, true, A.and true true, A.and (A.ltN 0 1) (A.leN (A.addN 0 2) 2), true, A.and (A.ltN 0 1) (A.eqN 2 2), A.and true (A.ltN 0 2), true, true, true, A.and true (decide (smallF fs = true)), A.and true (decide (smallF fs = true)), true, true, A.and (A.ltN 0 1) (A.leN (A.addN 0 2) 2), true, true, true, true, true, A.and true (decide (smallF fs = true)), A.and true (decide (smallF fs = true)), true, true, A.and (A.ltN 0 1) (A.leN (A.addN 0 2) 2), true, true, true, true, true, A.and true (decide (smallF fs = true)), A.and true (decide (smallF fs = true)), true, true, A.and (A.ltN 0 1) (A.leN (A.addN 0 2) 2), !A.not (fewF fs), true, A.and true true, true, !A.not true, true, A.and true true, true, A.and true (A.ltN 0 2)],
   AV.bool (A.and (A.eq (lossP a b c fs lN) 0) (A.eq (lossP a b c fs lD) 0)), none) := by kernel_rfl
theorem f13p7 (A : Ar) (a : Int) (b : Int) (c : Int) (fs : List AV) : gfin A tab BOn 93 [false, false, false, false, true, true, true, true, true, true, true, true, true, true, true, true, true, true, true, true, true, true, true, true] 13 (f13e a b c fs) [] =
  some ([A.and true (A.and true true), true, true, true, A.and true true, true, true, true, A.and (A.ltN 0 1) (A.leN (A.addN 0 2) 2), A.eq (missO a b c fs) 0, true, true, true, true, true, true, A.eq (A.int (A.lenA (ordO a b c fs))) 0, true, true, true, true, true, true, true, true, A.eq (lossE a b c fs) (rulesE a b), true, true, true, true, true, true, true, true, A.eq (openE a b c fs) (rulesE a b), true, true, true, true, true, true, true, true, A.eq (openE a b c fs) (rulesE a b), true, true, true, true, A.not (A.eq (rulesE a b) 0), true, true, !A.eq (rulesE a b) 0, true, true, !A.eq (rulesE a b) 0, true, true, true, A.and true true, A.and (A.ltN 0 1) (A.leN (A.addN 0 2) 2), true, A.and (A.ltN 0 1) (A.eqN 2 2), A.and true (A.ltN 0 2), true, true, true, A.and true (decide (smallF fs = true)), A.and true (decide (smallF fs = true)), true, true, A.and (A.ltN 0 1) (A.leN (A.addN 0 2) 2), true, true, true, true, true, A.and true (decide (smallF fs = true)), A.and true (decide (smallF fs = true)), true, true, A.and (A.ltN 0 1) (A.leN (A.addN 0 2) 2), true, true, true, true, true, A.and true (decide (smallF fs = true)), A.and true (decide (smallF fs = true)), true, true, A.and (A.ltN 0 1) (A.leN (A.addN 0 2) 2), !A.not (fewF fs), true, A.and true true, true, !A.not true, true, A.and true true, true, A.and true (A.ltN 0 2)],
   AV.bool (A.and (A.eq (lossP a b c fs lN) 0) (A.eq (lossP a b c fs lD) 0)), none) := by kernel_rfl
end Go.Proofs.Ytjhdnpmojhkbjaa
