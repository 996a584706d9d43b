/- Contracts as a list. No condition. -/
import Derived.Test.YtjhdnpmojhkbjaaPF
namespace Go.Proofs.Ytjhdnpmojhkbjaa
/-! ### The pieces of a clock -/
def mkR (p : Int × Int) : AV := .agg (.gen [.int .i64 p.1, .int .i64 p.2])
def pcsP (ps : List AV) : Nat → Nat → Nat → List (Int × Int)
  | 0, lo, i => [((lo : Int), (i : Int) - 1)]
  | n + 1, lo, i => if lineB ((ps.drop lo).take (i + 1 - lo)) = true then pcsP ps n lo (i + 1) else ((lo : Int), (i : Int) - 1) :: pcsP ps n i (i + 1)
def pieA (ps : List AV) : List AV := if (chkP ps).2 = 0 then (pcsP ps (ps.length - 1) 0 1).map mkR else []
@[simp] theorem bx_ii (a b : Int) : (AV.agg (Row.gen [AV.int .i64 a, AV.int .i64 b])).bx = true := rfl
@[simp] theorem fl_ii (a b : Int) : flatLen std (AV.agg (Row.gen [AV.int .i64 a, AV.int .i64 b])) = 2 := rfl
@[simp] theorem bx_i (a : Int) : (AV.int .i64 a).bx = true := rfl
@[simp] theorem fl_i (a : Int) : flatLen std (AV.int .i64 a) = 1 := rfl
theorem l46b {C : Ctx} (hC : C.P = Try.prog) (ps : List AV) (hl : ps.length ≤ 1000000) (hq : allQ ps) (T : List (Int × Int)) : ∀ (n lo to : Nat) (acc : List (Int × Int)), to + 1 + n = ps.length → lo ≤ to → acc.length ≤ lo → acc ++ pcsP ps n lo (to + 1) = T →
    Ev C (f46h46_1b ps lo (acc.map mkR) to) (f46h46_1bm ps lo (acc.map mkR) to) (FinQ 46 (.row 0 0) (some ⟨40, 2, .big (.agg [.int .i64, .int .i64]) (T.map mkR)⟩)) := by
  intro n
  induction n with
  | zero =>
    intro lo to acc hn hlo hac hT
    refine go hC BC5_ok (f46p10 std ps lo (acc.map mkR) to) (by simp; omega) ?_
    have e : std.appA (acc.map mkR) [AV.agg (Row.gen [AV.int .i64 (lo : Int), AV.int .i64 (to : Int)])] = T.map mkR := by
      rw [← hT, pcsP]; simp [mkR]
    rw [e]
    exact fin hC BC5_ok (f46p7 std ps _ (T.map mkR)) (by simp; omega) rfl rfl
  | succ n ih =>
    intro lo to acc hn hlo hac hT
    have e1 : std.subA ps (std.nat (lo : Int)) (std.subN (std.nat (std.add (to : Int) 2)) (std.nat (lo : Int))) = (ps.drop lo).take (to + 1 + 1 - lo) := by
      have h1 : std.nat (lo : Int) = lo := by simp
      have h2 : std.nat (std.add (to : Int) 2) = to + 1 + 1 := by simp; omega
      rw [h1, h2]; simp
    have hg := allQ_line hq hl lo (to + 1 + 1 - lo)
    have e5 : std.add (to : Int) 1 = ((to + 1 : Nat) : Int) := by simp
    rw [pcsP] at hT
    by_cases h : lineB ((ps.drop lo).take (to + 1 + 1 - lo)) = true
    · rw [if_pos h] at hT
      refine go hC BC5_ok (f46p8 std ps lo (acc.map mkR) to) ?_ ?_
      · simp only [e1, hg, h]; simp; omega
      · rw [e5]; exact ih lo (to + 1) acc (by omega) (by omega) hac hT
    · rw [if_neg h] at hT
      refine go hC BC5_ok (f46p9 std ps lo (acc.map mkR) to) ?_ ?_
      · simp only [e1, hg, h]; simp; omega
      · have e : std.appA (acc.map mkR) [AV.agg (Row.gen [AV.int .i64 (lo : Int), AV.int .i64 (to : Int)])] = (acc ++ [((lo : Int), (to : Int))]).map mkR := by simp [mkR]
        rw [e, e5]
        refine go hC BC5_ok (f46p6 std ps _ ((acc ++ [((lo : Int), (to : Int))]).map mkR)) (by simp; omega) ?_
        refine ih (to + 1) (to + 1) _ (by omega) (by omega) (by simp; omega) ?_
        rw [← hT]
        simp
theorem l46a {C : Ctx} (hC : C.P = Try.prog) (ps : List AV) (hl : ps.length ≤ 1000000) (hq : allQ ps) (T : List (Int × Int)) : ∀ (n to : Nat), to + 1 + n = ps.length → pcsP ps n 0 (to + 1) = T →
    Ev C (f46h46_1a ps to) (f46h46_1am ps to) (FinQ 46 (.row 0 0) (some ⟨40, 2, .big (.agg [.int .i64, .int .i64]) (T.map mkR)⟩)) := by
  intro n
  induction n with
  | zero =>
    intro to hn hT
    refine go hC BC5_ok (f46p5 std ps to) (by simp; omega) ?_
    have e : [AV.agg (Row.gen [AV.int .i64 0, AV.int .i64 (to : Int)])] = T.map mkR := by
      rw [← hT, pcsP]; simp [mkR]
    rw [e]
    exact fin hC BC5_ok (f46p7 std ps _ (T.map mkR)) (by simp; omega) rfl rfl
  | succ n ih =>
    intro to hn hT
    have e1 : std.subA ps (std.nat 0) (std.subN (std.nat (std.add (to : Int) 2)) (std.nat 0)) = (ps.drop 0).take (to + 1 + 1 - 0) := by
      have h1 : std.nat 0 = 0 := by simp
      have h2 : std.nat (std.add (to : Int) 2) = to + 1 + 1 := by simp; omega
      rw [h1, h2]; simp
    have hg := allQ_line hq hl 0 (to + 1 + 1 - 0)
    have e5 : std.add (to : Int) 1 = ((to + 1 : Nat) : Int) := by simp
    rw [pcsP] at hT
    by_cases h : lineB ((ps.drop 0).take (to + 1 + 1 - 0)) = true
    · rw [if_pos h] at hT
      refine go hC BC5_ok (f46p3 std ps to) ?_ ?_
      · simp only [e1, hg, h]; simp; omega
      · rw [e5]; exact ih (to + 1) (by omega) hT
    · rw [if_neg h] at hT
      refine go hC BC5_ok (f46p4 std ps to) ?_ ?_
      · simp only [e1, hg, h]; simp; omega
      · have e : [AV.agg (Row.gen [AV.int .i64 0, AV.int .i64 (to : Int)])] = ([] ++ [((0 : Int), (to : Int))]).map mkR := by simp [mkR]
        rw [e, e5]
        refine go hC BC5_ok (f46p6 std ps _ (([] ++ [((0 : Int), (to : Int))]).map mkR)) (by simp; omega) ?_
        refine l46b hC ps hl hq T n (to + 1) (to + 1) _ (by omega) (by omega) (by simp) ?_
        rw [← hT]
        simp
theorem pie46_ok (ps : List AV) (h : (chkP ps).2 = 0) : Pure Try.prog 46 [.list (.big (.agg [.int .i64, .int .i64, .int .i64]) ps)] (.list (.big (.agg [.int .i64, .int .i64]) (pieA ps))) none := by
  obtain ⟨h0, hl, hq⟩ := chkP_ok h
  rw [pieA, if_pos h]
  refine frz_row (e := 40) (sz := 1) (start (f46e_at ps) fun C hC => ?_) rfl
  refine go hC BC5_ok (f46p0 std ps) (by simp) ?_
  refine go hC BC5_ok (f46p1 std ps) (by simp; omega) ?_
  exact l46a hC ps (by omega) hq _ (ps.length - 1) 0 (by omega) rfl
theorem l43 {C : Ctx} (hC : C.P = Try.prog) (ps : List AV) (hl : ps.length ≤ 1000000) (hq : allQ ps) (T : List (Int × Int)) : ∀ (n lo i : Nat) (acc : List (Int × Int)), i + n = ps.length → lo < i → acc.length ≤ lo → acc ++ pcsP ps n lo i = T →
    Ev C (f43h43_0b ps ps.length i ((acc ++ [((lo : Int), (i : Int) - 1)]).map mkR)) (f43h43_0bm ps ps.length i ((acc ++ [((lo : Int), (i : Int) - 1)]).map mkR)) (FinQ 43 (.tup [.row 0 0, .int .i64 0]) (some ⟨40, 2, .big (.agg [.int .i64, .int .i64]) (T.map mkR)⟩)) := by
  intro n
  induction n with
  | zero =>
    intro lo i acc hn hlo hac hT
    rw [pcsP] at hT
    rw [hT]
    exact fin hC BC5_ok (f43p7 std ps _ _ (T.map mkR)) (by simp; omega) rfl rfl
  | succ n ih =>
    intro lo i acc hn hlo hac hT
    have hlen : ((acc ++ [((lo : Int), (i : Int) - 1)]).map mkR).length = acc.length + 1 := by simp
    have hget : ((acc ++ [((lo : Int), (i : Int) - 1)]).map mkR)[acc.length]? = some (mkR ((lo : Int), (i : Int) - 1)) := by simp
    generalize hX : (acc ++ [((lo : Int), (i : Int) - 1)]).map mkR = X at *
    have e1 : std.nthA X (std.nat (acc.length : Int)) = mkR ((lo : Int), (i : Int) - 1) := by simp [hget]
    have e8 : AV.toI (AV.cellAt (mkR ((lo : Int), (i : Int) - 1)) 0) = (lo : Int) := rfl
    have e2 : std.nat (lo : Int) = lo := by simp
    have e3 : std.subA ps lo (std.subN (std.nat (std.add (i : Int) 1)) lo) = (ps.drop lo).take (i + 1 - lo) := by
      have h2 : std.nat (std.add (i : Int) 1) = i + 1 := by simp
      rw [h2]; simp
    have hg := allQ_line hq hl lo (i + 1 - lo)
    have e5 : std.add (i : Int) 1 = ((i + 1 : Nat) : Int) := by simp
    have e6 : std.sub (std.int (std.lenA X)) 1 = (acc.length : Int) := by simp [hlen]
    rw [pcsP] at hT
    by_cases h : lineB ((ps.drop lo).take (i + 1 - lo)) = true
    · rw [if_pos h] at hT
      refine go hC BC5_ok (f43p4 std ps ps.length i X) ?_ ?_
      · simp only [e1, e8, e2, e3, e6, hg, h]; simp [hlen]; omega
      · have := ih lo (i + 1) acc (by omega) (by omega) hac hT
        have e : std.setA X (std.nat (std.sub (std.int (std.lenA X)) 1)) (AV.agg (Row.set std (Row.gen (viewL [Sh.int .i64, Sh.int .i64] 0 (std.nthA X (std.nat (std.sub (std.int (std.lenA X)) 1))))) 1 (AV.int .i64 (i : Int)))) = (acc ++ [((lo : Int), ((i + 1 : Nat) : Int) - 1)]).map mkR := by
          rw [e6, e1, ← hX]
          have e7 : ((i + 1 : Nat) : Int) - 1 = (i : Int) := by omega
          rw [e7]
          simp [mkR, viewL, Sh.view1, AV.cellAt, AV.toI, Row.set, Row.elems]
        rw [e, e5]
        exact this
    · rw [if_neg h] at hT
      refine go hC BC5_ok (f43p5 std ps ps.length i X) ?_ ?_
      · simp only [e1, e8, e2, e3, e6, hg, h]; simp [hlen]; omega
      · have := ih i (i + 1) (acc ++ [((lo : Int), (i : Int) - 1)]) (by omega) (by omega) (by simp; omega) (by rw [← hT]; simp)
        have e : std.appA X [AV.agg (Row.gen [AV.int .i64 (i : Int), AV.int .i64 (i : Int)])] = ((acc ++ [((lo : Int), (i : Int) - 1)]) ++ [((i : Int), ((i + 1 : Nat) : Int) - 1)]).map mkR := by
          rw [List.map_append, hX]; simp [mkR]
        rw [e, e5]
        exact this
theorem pie43_ok (ps : List AV) (h : ps.length ≤ 1000000) : Pure Try.prog 43 [.list (.big (.agg [.int .i64, .int .i64, .int .i64]) ps)] (.tup [.list (.big (.agg [.int .i64, .int .i64]) (pieA ps)), .int .i64 (chkP ps).2]) none := by
  by_cases hc : (chkP ps).2 = 0
  · obtain ⟨h0, hl, hq⟩ := chkP_ok hc
    rw [pieA, if_pos hc, hc]
    refine frz_tup (e := 40) (sz := 1) (r := .big (.agg [.int .i64, .int .i64]) ((pcsP ps (ps.length - 1) 0 1).map mkR)) (xs := [.row 0 0, .int .i64 0]) (start (f43e_at ps) fun C hC => ?_) rfl ⟨.row, .same _ rfl, trivial⟩
    refine go hC BC5_ok (f43p1 std ps) (by simp [h, hc]) ?_
    refine go hC BC5_ok (f43p2 std ps _) (by simp; omega) ?_
    have := l43 hC ps h hq _ (ps.length - 1) 0 1 [] (by omega) (by omega) (by simp) rfl
    simpa [mkR] using this
  · rw [pieA, if_neg hc]
    refine wk_tup (xs := [.nils, .int .i64 (chkP ps).2]) (start (f43e_at ps) fun C hC => ?_) ⟨.nil _ rfl, .same _, trivial⟩
    exact fin hC BC5_ok (f43p0 std ps) (by simp [h, hc]) rfl rfl
/-! ### The program's rates -/
def smR (r : R4) : Bool := decide (-1000000000 ≤ r.1 ∧ r.1 ≤ 1000000000) && decide (-1000000000 ≤ r.2.2.1 ∧ r.2.2.1 ≤ 1000000000)
def rtE (ps : List AV) : Int := if (chkP ps).2 = 0 then (if ps.length < 2 then 10 else if lineS ps = true then (if smR (rateP ps) = true then 0 else 8) else 13) else (chkP ps).2
def rtV (ps : List AV) : R4 := if rtE ps = 0 then rateP ps else (0, 0, 0, 0)
theorem tup_agg {f : FuncId} {args : List AV} {r r' : Row} {e : Int} (h : Pure Try.prog f args (.tup [.agg r, .int .i64 e]) none) (he : r.elems = r'.elems) : Pure Try.prog f args (.tup [.agg r', .int .i64 e]) none := pure_mono h fun hr => by
  cases hr with
  | tup _ vs hl hrr =>
    refine .tup _ vs (by simpa using hl) (fun j u v hu hv => ?_)
    cases j with
    | zero =>
      simp at hu
      subst hu
      have := hrr 0 _ v rfl hv
      cases this with
      | agg _ xs hx vs hl h1 hrr => exact .agg r' xs (hx.trans he) vs hl h1 hrr
    | succ j => exact hrr (j + 1) u v (by simpa using hu) hv
theorem rat42_ok (ps : List AV) (h : ps.length ≤ 1000000) : Pure Try.prog 42 [.list (.big (.agg [.int .i64, .int .i64, .int .i64]) ps)] (.tup [.agg (.gen [.int .i64 (rtV ps).1, .int .i64 (rtV ps).2.1, .int .i64 (rtV ps).2.2.1, .int .i64 (rtV ps).2.2.2]), .int .i64 (rtE ps)]) none := by
  have z : ∀ e : Int, e ≠ 0 → rtE ps = e → Pure Try.prog 42 [.list (.big (.agg [.int .i64, .int .i64, .int .i64]) ps)] (.tup [.agg (.ints .i64 [0, 0, 0, 0]), .int .i64 e]) none →
      Pure Try.prog 42 [.list (.big (.agg [.int .i64, .int .i64, .int .i64]) ps)] (.tup [.agg (.gen [.int .i64 (rtV ps).1, .int .i64 (rtV ps).2.1, .int .i64 (rtV ps).2.2.1, .int .i64 (rtV ps).2.2.2]), .int .i64 (rtE ps)]) none := fun e he hr hp => by
    rw [rtV, if_neg (by rw [hr]; exact he), hr]
    exact tup_agg hp rfl
  by_cases hc : (chkP ps).2 = 0
  · obtain ⟨h0, hl, hq⟩ := chkP_ok hc
    have hg := allQ_line hq h 0 ps.length
    rw [List.drop_zero, List.take_length] at hg
    by_cases h2 : ps.length < 2
    · refine z 10 (by omega) (by rw [rtE, if_pos hc, if_pos h2]) (start (f42e_at ps) fun C hC => ?_)
      have e1 : std.lt 1 (std.int (std.lenA ps)) = false := by simp; omega
      have e2 : lineB ps = true := by simp [lineB, h2]
      refine fin hC BC5_ok (f42p1 std ps) ?_ ?_ rfl
      · rw [e1, e2]; simp [h, hc, hg, firstE]
      · rw [e1, e2]; simp [firstE]
    · have e1 : std.lt 1 (std.int (std.lenA ps)) = true := by simp; omega
      have hgo := allQ_good hq (by omega) h
      by_cases h3 : lineS ps = true
      · have e2 : lineB ps = true := by simp [lineB, h2]; exact h3
        have hE : rtE ps = if smR (rateP ps) = true then 0 else 8 := by rw [rtE, if_pos hc, if_neg h2, if_pos h3]
        have hgo42 : ∀ (Q : AV), (∀ C : Ctx, C.P = Try.prog → Ev C (f42h42_0a (rateP ps).1 (rateP ps).2.1 (rateP ps).2.2.1 (rateP ps).2.2.2 (rateP ps).1 (rateP ps).2.1 (rateP ps).2.2.1 (rateP ps).2.2.2 0) (f42h42_0am (rateP ps).1 (rateP ps).2.1 (rateP ps).2.2.1 (rateP ps).2.2.2 (rateP ps).1 (rateP ps).2.1 (rateP ps).2.2.1 (rateP ps).2.2.2 0) (FinQ 42 Q none)) → Pure Try.prog 42 [.list (.big (.agg [.int .i64, .int .i64, .int .i64]) ps)] Q none := fun Q hQ => start (f42e_at ps) fun C hC => by
          refine go hC BC5_ok (f42p2 std ps) ?_ (hQ C hC)
          rw [e1, e2]; simp [h, hc, hg, firstE, hgo]
        rcases hr : rateP ps with ⟨a, b, c, d⟩
        simp only [hr] at hE hgo42
        by_cases s1 : -1000000000 ≤ a ∧ a ≤ 1000000000
        · by_cases s2 : -1000000000 ≤ c ∧ c ≤ 1000000000
          · have hE0 : rtE ps = 0 := by rw [hE, if_pos (by simp [smR]; omega)]
            rw [rtV, if_pos hE0, hE0, hr]
            refine hgo42 _ fun C hC => ?_
            refine go hC BC5_ok (f42p4 std a b c d a b c d 0) (by simp [s1]) ?_
            refine go hC BC5_ok (f42p4 std a b c d a b c d _) (by simp [s2]) ?_
            exact fin hC BC5_ok (f42p5 std a b c d a b c d _) (by simp) rfl rfl
          · refine z 8 (by omega) (by rw [hE, if_neg (by simp [smR]; omega)]) (hgo42 _ fun C hC => ?_)
            refine go hC BC5_ok (f42p4 std a b c d a b c d 0) (by simp [s1]) ?_
            exact fin hC BC5_ok (f42p3 std a b c d a b c d _) (by simp; omega) (by simp) rfl
        · refine z 8 (by omega) (by rw [hE, if_neg (by simp [smR]; omega)]) (hgo42 _ fun C hC => ?_)
          exact fin hC BC5_ok (f42p3 std a b c d a b c d 0) (by simp; omega) (by simp) rfl
      · have e2 : lineB ps = false := by
          have h4 : lineS ps = false := by simpa using h3
          simp [lineB, h2]; exact h4
        refine z 13 (by omega) (by rw [rtE, if_pos hc, if_neg h2, if_neg h3]) (start (f42e_at ps) fun C hC => ?_)
        refine fin hC BC5_ok (f42p1 std ps) ?_ ?_ rfl
        · rw [e1, e2]; simp [h, hc, hg, firstE]
        · rw [e1, e2]; simp [firstE]
  · refine z (chkP ps).2 hc (by rw [rtE, if_neg hc]) (start (f42e_at ps) fun C hC => ?_)
    exact fin hC BC5_ok (f42p0 std ps) (by simp [h, hc]) (by simp) rfl
def k42 : Ctr := ⟨42, 0, fun _ a => match a with | [.list (.big (.agg [.int .i64, .int .i64, .int .i64]) ps)] => some (decide (ps.length ≤ 1000000), .tup [.agg (.gen [.int .i64 (rtV ps).1, .int .i64 (rtV ps).2.1, .int .i64 (rtV ps).2.2.1, .int .i64 (rtV ps).2.2.2]), .int .i64 (rtE ps)], none) | _ => none⟩
theorem k42_ok : k42.OK Try.prog := fun pa args r fr h => by
  simp only [k42] at h
  split at h
  · simp only [Option.some.injEq, Prod.mk.injEq, decide_eq_true_eq] at h
    obtain ⟨h0, rfl, rfl⟩ := h
    exact rat42_ok _ h0
  · cases h
def k43 : Ctr := ⟨43, 0, fun _ a => match a with | [.list (.big (.agg [.int .i64, .int .i64, .int .i64]) ps)] => some (decide (ps.length ≤ 1000000), .tup [.list (.big (.agg [.int .i64, .int .i64]) (pieA ps)), .int .i64 (chkP ps).2], none) | _ => none⟩
theorem k43_ok : k43.OK Try.prog := fun pa args r fr h => by
  simp only [k43] at h
  split at h
  · simp only [Option.some.injEq, Prod.mk.injEq, decide_eq_true_eq] at h
    obtain ⟨h0, rfl, rfl⟩ := h
    exact pie43_ok _ h0
  · cases h
def k46 : Ctr := ⟨46, 0, fun _ a => match a with | [.list (.big (.agg [.int .i64, .int .i64, .int .i64]) ps)] => some (decide ((chkP ps).2 = 0), .list (.big (.agg [.int .i64, .int .i64]) (pieA ps)), none) | _ => none⟩
theorem k46_ok : k46.OK Try.prog := fun pa args r fr h => by
  simp only [k46] at h
  split at h
  · simp only [Option.some.injEq, Prod.mk.injEq, decide_eq_true_eq] at h
    obtain ⟨h0, rfl, rfl⟩ := h
    exact pie46_ok _ h0
  · cases h
def BC6 : List Ctr := [k42, k43, k46] ++ BC5
theorem BC6_ok : CtrsOK Try.prog BC6 := ⟨k42_ok, ⟨k43_ok, ⟨k46_ok, BC5_ok⟩⟩⟩
end Go.Proofs.Ytjhdnpmojhkbjaa
