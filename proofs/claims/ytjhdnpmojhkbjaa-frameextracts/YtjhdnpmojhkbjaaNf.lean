/- Extraction. No condition. -/
import Derived.Test.YtjhdnpmojhkbjaaQa
namespace Go.Proofs.Ytjhdnpmojhkbjaa
abbrev shP : Sh := .agg [.int .i64, .int .i64, .ints .i64]
def Q16 : List AV → List AFrame → AHeap → Prop
  | [] => FinQ 16 (.tup [.nils, .int .i64 0]) none
  | z :: Z => FinQ 16 (.tup [.row 0 0, .int .i64 0]) (some ⟨57, 3, .big shP (z :: Z)⟩)
def At16 (C : Ctx) (L : List AV) (n last i : Int) (Q : List AFrame → AHeap → Prop) : Option (List Int) → List AV → Prop
  | none, [] => Ev C (f16h16_0a L n last i) (f16h16_0am L n last i) Q
  | some p, [] => Ev C (f16h16_0b L n p last i) (f16h16_0bm L n p last i) Q
  | some p, y :: Y => Ev C (f16h16_0c L n p (y :: Y) last i) (f16h16_0cm L n p (y :: Y) last i) Q
  | none, y :: Y => Ev C (f16h16_0d L n (y :: Y) last i) (f16h16_0dm L n (y :: Y) last i) Q
theorem drop_tl (p : List Int) (e : Nat) : (p.drop e).take (p.length - e) = p.drop e := List.take_of_length_le (by rw [List.length_drop]; exact Nat.le_refl _)
section
variable {C : Ctx} (hC : C.P = Try.prog) {Q : List AFrame → AHeap → Prop} (x0 : List AV) (n1 last i : Int) (hi : 0 ≤ i ∧ i ≤ 100000)
include hC hi
theorem eat_b : ∀ (m : Nat) (p : List Int) (X : List AV) {n34 : Int} {b36 : Bool} {n37 : Int} {n38 : Int} {n39 : Int} {l40 : List Int} {n41 : Int} {n42 : Int} {n43 : Int} {n44 : Int} {l45 : List Int} {n46 : Int} {n47 : Int} {n48 : Int} {n49 : Int} {l50 : List Int} {n51 : Int} {n52 : Int} {n53 : Int} {b54 : Bool} {n55 : Int} {n56 : Int} {n57 : Int} {l58 : List Int}, p.length ≤ m → bytP p → p.length ≤ 1000 → X ≠ [] → X.length + p.length ≤ 1000000 → At16 C x0 n1 last (i + 1) Q (some (eat p).2) (X ++ (eat p).1) →
    Ev C (f16h80_0b x0 n1 p X n34 i b36 n37 n38 n39 l40 n41 n42 n43 n44 l45 n46 n47 n48 n49 l50 n51 n52 n53 b54 n55 n56 n57 l58 last) (f16h80_0bm x0 n1 p X n34 i b36 n37 n38 n39 l40 n41 n42 n43 n44 l45 n46 n47 n48 n49 l50 n51 n52 n53 b54 n55 n56 n57 l58 last) Q := by
  intro m
  induction m with
  | zero =>
    intro p X n34 b36 n37 n38 n39 l40 n41 n42 n43 n44 l45 n46 n47 n48 n49 l50 n51 n52 n53 b54 n55 n56 n57 l58 hm hb hl hX hXl hq
    have h1 : p.length < 3 := by omega
    rw [eat_less (.inl h1), List.append_nil] at hq
    obtain ⟨y, Y, rfl⟩ : ∃ y Y, X = y :: Y := by cases X with | nil => exact absurd rfl hX | cons y Y => exact ⟨y, Y, rfl⟩
    exact go hC BOp_ok (f16p18 std x0 n1 p (y::Y) n34 i b36 n37 n38 n39 l40 n41 n42 n43 n44 l45 n46 n47 n48 n49 l50 n51 n52 n53 b54 n55 n56 n57 l58 last) (by simp; omega) hq
  | succ m ih =>
    intro p X n34 b36 n37 n38 n39 l40 n41 n42 n43 n44 l45 n46 n47 n48 n49 l50 n51 n52 n53 b54 n55 n56 n57 l58 hm hb hl hX hXl hq
    have hv := bytP_get hb 2
    by_cases h1 : p.length < 3
    · rw [eat_less (.inl h1), List.append_nil] at hq
      obtain ⟨y, Y, rfl⟩ : ∃ y Y, X = y :: Y := by cases X with | nil => exact absurd rfl hX | cons y Y => exact ⟨y, Y, rfl⟩
      exact go hC BOp_ok (f16p18 std x0 n1 p (y::Y) n34 i b36 n37 n38 n39 l40 n41 n42 n43 n44 l45 n46 n47 n48 n49 l50 n51 n52 n53 b54 n55 n56 n57 l58 last) (by simp; omega) hq
    · by_cases h2 : (p.length : Int) < 3 + p.getD 2 0
      · rw [eat_less (.inr h2), List.append_nil] at hq
        obtain ⟨y, Y, rfl⟩ : ∃ y Y, X = y :: Y := by cases X with | nil => exact absurd rfl hX | cons y Y => exact ⟨y, Y, rfl⟩
        have hw := f16p15 std x0 n1 p (y::Y) n34 i b36 n37 n38 n39 l40 n41 n42 n43 n44 l45 n46 n47 n48 n49 l50 n51 n52 n53 b54 n55 n56 n57 l58 last
        simp only [s_nat, s_nth, s_add, s_len, s_int, show Int.toNat 2 = 2 from rfl] at hw
        refine go hC BOp_ok hw ?_ hq
        generalize p.getD 2 0 = v at *
        simp [show Int.toNat 2 = 2 from rfl]; omega
      · have hlen : (p.drop (3 + p.getD 2 0).toNat).length = p.length - (3 + p.getD 2 0).toNat := List.length_drop
        have e3 : (3 + p.getD 2 0).toNat - 3 = (p.getD 2 0).toNat := by omega
        have hlp : (((p.drop 3).take (p.getD 2 0).toNat).length ≤ 4294967296) := by rw [List.length_take]; omega
        rw [eat_more hb (by omega) (by omega)] at hq
        by_cases h3 : p.getD 0 0 = 255
        · rw [if_pos h3, List.nil_append] at hq
          have hw := f16p17 std x0 n1 p X n34 i b36 n37 n38 n39 l40 n41 n42 n43 n44 l45 n46 n47 n48 n49 l50 n51 n52 n53 b54 n55 n56 n57 l58 last
          simp only [s_nat, s_nth, s_add, s_len, s_int, s_sub3, s_subN, show Int.toNat 2 = 2 from rfl, show Int.toNat 0 = 0 from rfl, show Int.toNat 1 = 1 from rfl, show Int.toNat 3 = 3 from rfl, drop_tl, e3] at hw
          refine go hC BOp_ok hw ?_ (ih _ X (by omega) (hb.drop _) (by omega) hX (by omega) hq)
          generalize hvv : p.getD 2 0 = v at *
          generalize huu : p.getD 0 0 = u at *
          generalize (p.drop 3).take v.toNat = dd at *
          simp [h3, hlp, AV.bx, flatLen]
          omega
        · rw [if_neg h3, List.singleton_append, ← List.singleton_append, ← List.append_assoc] at hq
          have hw := f16p16 std x0 n1 p X n34 i b36 n37 n38 n39 l40 n41 n42 n43 n44 l45 n46 n47 n48 n49 l50 n51 n52 n53 b54 n55 n56 n57 l58 last
          simp only [s_nat, s_nth, s_add, s_len, s_int, s_sub3, s_subN, s_appA, show Int.toNat 2 = 2 from rfl, show Int.toNat 0 = 0 from rfl, show Int.toNat 1 = 1 from rfl, show Int.toNat 3 = 3 from rfl, drop_tl, e3] at hw
          rw [show AV.agg (Row.gen [AV.int .i64 (p.getD 0 0), AV.int .i64 (p.getD 1 0), AV.list (.ints .i64 ((p.drop 3).take (p.getD 2 0).toNat))]) = pkA p from rfl] at hw
          refine go hC BOp_ok hw ?_ (ih _ (X ++ [pkA p]) (by omega) (hb.drop _) (by omega) (by simp) (by rw [List.length_append, List.length_singleton]; omega) hq)
          generalize hpk : pkA p = P at *
          have hP : P.bx = true ∧ flatLen std P = 3 := by rw [← hpk]; exact ⟨rfl, rfl⟩
          generalize hvv : p.getD 2 0 = v at *
          generalize huu : p.getD 0 0 = u at *
          generalize (p.drop 3).take v.toNat = dd at *
          simp [h3, hlp, hP]
          omega
theorem eat_a : ∀ (m : Nat) (p : List Int) {b4 : Bool} {n5 : Int} {n6 : Int} {n7 : Int} {l8 : List Int} {n9 : Int} {n10 : Int} {n11 : Int} {n12 : Int} {l13 : List Int} {n14 : Int} {n15 : Int} {n16 : Int} {n17 : Int} {l18 : List Int} {n19 : Int} {n20 : Int} {b21 : Bool} {n23 : Int} {n24 : Int} {n25 : Int} {l26 : List Int} {n28 : Int} {n30 : Int}, p.length ≤ m → bytP p → p.length ≤ 1000 → At16 C x0 n1 last (i + 1) Q (some (eat p).2) (eat p).1 →
    Ev C (f16h80_0a x0 n1 b4 n5 n6 n7 l8 n9 n10 n11 n12 l13 n14 n15 n16 n17 l18 n19 n20 b21 p n23 n24 n25 l26 last n28 i n30) (f16h80_0am x0 n1 b4 n5 n6 n7 l8 n9 n10 n11 n12 l13 n14 n15 n16 n17 l18 n19 n20 b21 p n23 n24 n25 l26 last n28 i n30) Q := by
  intro m
  induction m with
  | zero =>
    intro p b4 n5 n6 n7 l8 n9 n10 n11 n12 l13 n14 n15 n16 n17 l18 n19 n20 b21 n23 n24 n25 l26 n28 n30 hm hb hl hq
    have h1 : p.length < 3 := by omega
    rw [eat_less (.inl h1)] at hq
    exact go hC BOp_ok (f16p8 std x0 n1 b4 n5 n6 n7 l8 n9 n10 n11 n12 l13 n14 n15 n16 n17 l18 n19 n20 b21 p n23 n24 n25 l26 last n28 i n30) (by simp; omega) hq
  | succ m ih =>
    intro p b4 n5 n6 n7 l8 n9 n10 n11 n12 l13 n14 n15 n16 n17 l18 n19 n20 b21 n23 n24 n25 l26 n28 n30 hm hb hl hq
    have hv := bytP_get hb 2
    by_cases h1 : p.length < 3
    · rw [eat_less (.inl h1)] at hq
      exact go hC BOp_ok (f16p8 std x0 n1 b4 n5 n6 n7 l8 n9 n10 n11 n12 l13 n14 n15 n16 n17 l18 n19 n20 b21 p n23 n24 n25 l26 last n28 i n30) (by simp; omega) hq
    · by_cases h2 : (p.length : Int) < 3 + p.getD 2 0
      · rw [eat_less (.inr h2)] at hq
        have hw := f16p5 std x0 n1 b4 n5 n6 n7 l8 n9 n10 n11 n12 l13 n14 n15 n16 n17 l18 n19 n20 b21 p n23 n24 n25 l26 last n28 i n30
        simp only [s_nat, s_nth, s_add, s_len, s_int, show Int.toNat 2 = 2 from rfl] at hw
        refine go hC BOp_ok hw ?_ hq
        generalize p.getD 2 0 = v at *
        simp [show Int.toNat 2 = 2 from rfl]; omega
      · have hlen : (p.drop (3 + p.getD 2 0).toNat).length = p.length - (3 + p.getD 2 0).toNat := List.length_drop
        have e3 : (3 + p.getD 2 0).toNat - 3 = (p.getD 2 0).toNat := by omega
        have hlp : (((p.drop 3).take (p.getD 2 0).toNat).length ≤ 4294967296) := by rw [List.length_take]; omega
        rw [eat_more hb (by omega) (by omega)] at hq
        by_cases h3 : p.getD 0 0 = 255
        · rw [if_pos h3, List.nil_append] at hq
          have hw := f16p7 std x0 n1 b4 n5 n6 n7 l8 n9 n10 n11 n12 l13 n14 n15 n16 n17 l18 n19 n20 b21 p n23 n24 n25 l26 last n28 i n30
          simp only [s_nat, s_nth, s_add, s_len, s_int, s_sub3, s_subN, show Int.toNat 2 = 2 from rfl, show Int.toNat 0 = 0 from rfl, show Int.toNat 1 = 1 from rfl, show Int.toNat 3 = 3 from rfl, drop_tl, e3] at hw
          refine go hC BOp_ok hw ?_ (ih _ (by omega) (hb.drop _) (by omega) hq)
          generalize hvv : p.getD 2 0 = v at *
          generalize huu : p.getD 0 0 = u at *
          generalize (p.drop 3).take v.toNat = dd at *
          simp [h3, hlp, AV.bx, flatLen]
          omega
        · rw [if_neg h3] at hq
          have hw := f16p6 std x0 n1 b4 n5 n6 n7 l8 n9 n10 n11 n12 l13 n14 n15 n16 n17 l18 n19 n20 b21 p n23 n24 n25 l26 last n28 i n30
          simp only [s_nat, s_nth, s_add, s_len, s_int, s_sub3, s_subN, s_appA, show Int.toNat 2 = 2 from rfl, show Int.toNat 0 = 0 from rfl, show Int.toNat 1 = 1 from rfl, show Int.toNat 3 = 3 from rfl, drop_tl, e3] at hw
          rw [show AV.agg (Row.gen [AV.int .i64 (p.getD 0 0), AV.int .i64 (p.getD 1 0), AV.list (.ints .i64 ((p.drop 3).take (p.getD 2 0).toNat))]) = pkA p from rfl] at hw
          refine go hC BOp_ok hw ?_ (eat_b hC x0 n1 last i hi m _ [pkA p] (by omega) (hb.drop _) (by omega) (by simp) (by rw [List.length_singleton]; omega) hq)
          generalize hpk : pkA p = P at *
          have hP : P.bx = true ∧ flatLen std P = 3 := by rw [← hpk]; exact ⟨rfl, rfl⟩
          generalize hvv : p.getD 2 0 = v at *
          generalize huu : p.getD 0 0 = u at *
          generalize (p.drop 3).take v.toNat = dd at *
          simp [h3, hlp, hP]
          omega
end
section
variable {C : Ctx} (hC : C.P = Try.prog) {Q : List AFrame → AHeap → Prop} (L : List AV) (a : Int) (ha : 4 ≤ a ∧ a ≤ 24) (i : Nat) (hi : i < L.length) (hL : L.length ≤ 10000) (hx : okX a L[i]) (hk : -400000 ≤ keyN L[i] ∧ keyN L[i] ≤ 400000) (last : Int) (hla : -400000 ≤ last ∧ last ≤ 400000)
include hC ha hi hL hx hk hla
theorem st_a  (hc : contN (none) last L[i] = none) (hq : At16 C L L.length (keyN L[i]) ((i : Int) + 1) Q (resN (none) last L[i]) ([] ++ pksN (none) last L[i])) :
    Ev C (f16h16_0a L L.length last i) (f16h16_0am L L.length last i) Q := by
  have hg : L.getD i .top = L[i] := by simp [hi]
  have e2 : std.add (i : Int) 1 = ((i : Int) + 1) := rfl
  obtain ⟨hf, hl, hb⟩ := hx
  unfold resN pksN bytN at hq
  rw [hc] at hq
  by_cases h5 : fiN L[i] = 255
  · rw [if_pos h5] at hq
    have hw := f16p2 std L L.length last i
    simp only [s_nat, s_nthA, s_len, s_sub3, s_subN, Int.toNat_natCast, hg, e2, show (AV.cellAt L[i] 2).toI = fiN L[i] from rfl, show (AV.cellAt L[i] 3).toIs = dsN L[i] from rfl, show (AV.cellAt L[i] 4).toI = keyN L[i] from rfl, drop_tl, show List.append = (fun (a b : List Int) => a ++ b) from rfl] at hw
    refine go hC BOp_ok hw ?_ (by simp at hq; exact hq)
    generalize fiN L[i] = f at *
    generalize keyN L[i] = k at *
    simp [hi, h5]
    omega
  · rw [if_neg h5] at hq
    have hw := f16p3 std L L.length last i
    simp only [s_nat, s_nthA, s_len, s_sub3, s_subN, Int.toNat_natCast, hg, e2, show (AV.cellAt L[i] 2).toI = fiN L[i] from rfl, show (AV.cellAt L[i] 3).toIs = dsN L[i] from rfl, show (AV.cellAt L[i] 4).toI = keyN L[i] from rfl, drop_tl, show List.append = (fun (a b : List Int) => a ++ b) from rfl] at hw
    have hd1 : ((dsN L[i]).drop (fiN L[i]).toNat).length = (dsN L[i]).length - (fiN L[i]).toNat := List.length_drop
    refine go hC BOp_ok hw ?_ (eat_a hC L L.length (keyN L[i]) i ⟨by omega, by omega⟩ _ _ (Nat.le_refl _) (hb.drop _) (by omega) hq)
    generalize (dsN L[i]).drop (fiN L[i]).toNat = D at *
    generalize fiN L[i] = f at *
    generalize keyN L[i] = k at *
    generalize dsN L[i] = ds at *
    have hD : 0 < D.length ∧ D.length ≤ 1000000 := by omega
    simp [hi, AV.bx, flatLen, h5]
    omega
theorem st_d (y : AV) (Y : List AV) (hY : (y :: Y).length ≤ 500000) (hc : contN (none) last L[i] = none) (hq : At16 C L L.length (keyN L[i]) ((i : Int) + 1) Q (resN (none) last L[i]) ((y :: Y) ++ pksN (none) last L[i])) :
    Ev C (f16h16_0d L L.length (y :: Y) last i) (f16h16_0dm L L.length (y :: Y) last i) Q := by
  have hg : L.getD i .top = L[i] := by simp [hi]
  have e2 : std.add (i : Int) 1 = ((i : Int) + 1) := rfl
  obtain ⟨hf, hl, hb⟩ := hx
  unfold resN pksN bytN at hq
  rw [hc] at hq
  by_cases h5 : fiN L[i] = 255
  · rw [if_pos h5] at hq
    have hw := f16p25 std L L.length (y :: Y) last i
    simp only [s_nat, s_nthA, s_len, s_sub3, s_subN, Int.toNat_natCast, hg, e2, show (AV.cellAt L[i] 2).toI = fiN L[i] from rfl, show (AV.cellAt L[i] 3).toIs = dsN L[i] from rfl, show (AV.cellAt L[i] 4).toI = keyN L[i] from rfl, drop_tl, show List.append = (fun (a b : List Int) => a ++ b) from rfl] at hw
    refine go hC BOp_ok hw ?_ (by simp at hq; exact hq)
    generalize fiN L[i] = f at *
    generalize keyN L[i] = k at *
    simp [hi, h5]
    omega
  · rw [if_neg h5] at hq
    have hw := f16p26 std L L.length (y :: Y) last i
    simp only [s_nat, s_nthA, s_len, s_sub3, s_subN, Int.toNat_natCast, hg, e2, show (AV.cellAt L[i] 2).toI = fiN L[i] from rfl, show (AV.cellAt L[i] 3).toIs = dsN L[i] from rfl, show (AV.cellAt L[i] 4).toI = keyN L[i] from rfl, drop_tl, show List.append = (fun (a b : List Int) => a ++ b) from rfl] at hw
    have hd1 : ((dsN L[i]).drop (fiN L[i]).toNat).length = (dsN L[i]).length - (fiN L[i]).toNat := List.length_drop
    refine go hC BOp_ok hw ?_ (eat_b hC L L.length (keyN L[i]) i ⟨by omega, by omega⟩ _ _ (y :: Y) (Nat.le_refl _) (hb.drop _) (by omega) (by simp) (by omega) hq)
    generalize (dsN L[i]).drop (fiN L[i]).toNat = D at *
    generalize fiN L[i] = f at *
    generalize keyN L[i] = k at *
    generalize dsN L[i] = ds at *
    have hD : 0 < D.length ∧ D.length ≤ 1000000 := by omega
    simp [hi, AV.bx, flatLen, h5]
    omega
theorem st_bn (p : List Int) (hp : okS (some p)) (hc : contN (some p) last L[i] = none) (hq : At16 C L L.length (keyN L[i]) ((i : Int) + 1) Q (resN (some p) last L[i]) ([] ++ pksN (some p) last L[i])) :
    Ev C (f16h16_0b L L.length p last i) (f16h16_0bm L L.length p last i) Q := by
  have hg : L.getD i .top = L[i] := by simp [hi]
  have e2 : std.add (i : Int) 1 = ((i : Int) + 1) := rfl
  obtain ⟨hf, hl, hb⟩ := hx
  unfold resN pksN bytN at hq
  rw [hc] at hq
  obtain ⟨q1, q2, q3⟩ := hp
  have hE : expB p (dsN L[i]) = true := by
    unfold expB
    have := bytP_get (q1.app hb) 2
    simp only [Bool.and_eq_true, decide_eq_true_eq]
    omega
  unfold contN at hc
  dsimp only at hc
  by_cases h5 : fiN L[i] = 255
  · rw [if_pos h5] at hq
    by_cases h6 : keyN L[i] = last + 1
    · have h7 : ¬ fiN L[i] = expI (dsN L[i]).length p (dsN L[i]) := fun e => by rw [if_pos ⟨h6, e⟩] at hc; cases hc
      have hw := f16p11 std L L.length p last i
      simp only [s_nat, s_nthA, s_len, s_sub3, s_subN, Int.toNat_natCast, hg, e2, show (AV.cellAt L[i] 2).toI = fiN L[i] from rfl, show (AV.cellAt L[i] 3).toIs = dsN L[i] from rfl, show (AV.cellAt L[i] 4).toI = keyN L[i] from rfl, drop_tl, show List.append = (fun (a b : List Int) => a ++ b) from rfl] at hw
      refine go hC BOp_ok hw ?_ (by simp at hq; exact hq)
      generalize fiN L[i] = f at *
      generalize keyN L[i] = k at *
      simp [hi, h5, h6, h7, hE]
      omega
    · have hw := f16p9 std L L.length p last i
      simp only [s_nat, s_nthA, s_len, s_sub3, s_subN, Int.toNat_natCast, hg, e2, show (AV.cellAt L[i] 2).toI = fiN L[i] from rfl, show (AV.cellAt L[i] 3).toIs = dsN L[i] from rfl, show (AV.cellAt L[i] 4).toI = keyN L[i] from rfl, drop_tl, show List.append = (fun (a b : List Int) => a ++ b) from rfl] at hw
      refine go hC BOp_ok hw ?_ (by simp at hq; exact hq)
      generalize fiN L[i] = f at *
      generalize keyN L[i] = k at *
      simp [hi, h5, h6]
      omega
  · rw [if_neg h5] at hq
    by_cases h6 : keyN L[i] = last + 1
    · have h7 : ¬ fiN L[i] = expI (dsN L[i]).length p (dsN L[i]) := fun e => by rw [if_pos ⟨h6, e⟩] at hc; cases hc
      have hw := f16p12 std L L.length p last i
      simp only [s_nat, s_nthA, s_len, s_sub3, s_subN, Int.toNat_natCast, hg, e2, show (AV.cellAt L[i] 2).toI = fiN L[i] from rfl, show (AV.cellAt L[i] 3).toIs = dsN L[i] from rfl, show (AV.cellAt L[i] 4).toI = keyN L[i] from rfl, drop_tl, show List.append = (fun (a b : List Int) => a ++ b) from rfl] at hw
      have hd1 : ((dsN L[i]).drop (fiN L[i]).toNat).length = (dsN L[i]).length - (fiN L[i]).toNat := List.length_drop
      refine go hC BOp_ok hw ?_ (eat_a hC L L.length (keyN L[i]) i ⟨by omega, by omega⟩ _ _ (Nat.le_refl _) (hb.drop _) (by omega) hq)
      generalize (dsN L[i]).drop (fiN L[i]).toNat = D at *
      generalize fiN L[i] = f at *
      generalize keyN L[i] = k at *
      generalize dsN L[i] = ds at *
      have hD : 0 < D.length ∧ D.length ≤ 1000000 := by omega
      simp [hi, AV.bx, flatLen, h5, h6, h7, hE]
      omega
    · have hw := f16p10 std L L.length p last i
      simp only [s_nat, s_nthA, s_len, s_sub3, s_subN, Int.toNat_natCast, hg, e2, show (AV.cellAt L[i] 2).toI = fiN L[i] from rfl, show (AV.cellAt L[i] 3).toIs = dsN L[i] from rfl, show (AV.cellAt L[i] 4).toI = keyN L[i] from rfl, drop_tl, show List.append = (fun (a b : List Int) => a ++ b) from rfl] at hw
      have hd1 : ((dsN L[i]).drop (fiN L[i]).toNat).length = (dsN L[i]).length - (fiN L[i]).toNat := List.length_drop
      refine go hC BOp_ok hw ?_ (eat_a hC L L.length (keyN L[i]) i ⟨by omega, by omega⟩ _ _ (Nat.le_refl _) (hb.drop _) (by omega) hq)
      generalize (dsN L[i]).drop (fiN L[i]).toNat = D at *
      generalize fiN L[i] = f at *
      generalize keyN L[i] = k at *
      generalize dsN L[i] = ds at *
      have hD : 0 < D.length ∧ D.length ≤ 1000000 := by omega
      simp [hi, AV.bx, flatLen, h5, h6]
      omega
theorem st_bc (p : List Int) (hp : okS (some p)) (hc : contN (some p) last L[i] = some p) (hq : At16 C L L.length (keyN L[i]) ((i : Int) + 1) Q (resN (some p) last L[i]) ([] ++ pksN (some p) last L[i])) :
    Ev C (f16h16_0b L L.length p last i) (f16h16_0bm L L.length p last i) Q := by
  have hg : L.getD i .top = L[i] := by simp [hi]
  have e2 : std.add (i : Int) 1 = ((i : Int) + 1) := rfl
  obtain ⟨hf, hl, hb⟩ := hx
  unfold resN pksN bytN at hq
  rw [hc] at hq
  dsimp only at hq
  obtain ⟨q1, q2, q3⟩ := hp
  have hE : expB p (dsN L[i]) = true := by
    unfold expB
    have := bytP_get (q1.app hb) 2
    simp only [Bool.and_eq_true, decide_eq_true_eq]
    omega
  have h67 : keyN L[i] = last + 1 ∧ fiN L[i] = expI (dsN L[i]).length p (dsN L[i]) := by
    unfold contN at hc
    dsimp only at hc
    by_cases h : keyN L[i] = last + 1 ∧ fiN L[i] = expI (dsN L[i]).length p (dsN L[i])
    · exact h
    · rw [if_neg h] at hc; cases hc
  have hw := f16p13 std L L.length p last i
  simp only [s_nat, s_nthA, s_len, s_sub3, s_subN, Int.toNat_natCast, hg, e2, show (AV.cellAt L[i] 2).toI = fiN L[i] from rfl, show (AV.cellAt L[i] 3).toIs = dsN L[i] from rfl, show (AV.cellAt L[i] 4).toI = keyN L[i] from rfl, drop_tl, show List.append = (fun (a b : List Int) => a ++ b) from rfl] at hw
  have hpl : (p ++ dsN L[i]).length = p.length + (dsN L[i]).length := List.length_append
  refine go hC BOp_ok hw ?_ (eat_a hC L L.length (keyN L[i]) i ⟨by omega, by omega⟩ _ _ (Nat.le_refl _) (q1.app hb) (by omega) hq)
  rw [← h67.2, h67.1, hE]
  generalize fiN L[i] = f at *
  generalize keyN L[i] = k at *
  generalize dsN L[i] = ds at *
  simp [hi, AV.bx, flatLen]
  omega
theorem st_cn (p : List Int) (y : AV) (Y : List AV) (hY : (y :: Y).length ≤ 500000) (hp : okS (some p)) (hc : contN (some p) last L[i] = none) (hq : At16 C L L.length (keyN L[i]) ((i : Int) + 1) Q (resN (some p) last L[i]) ((y :: Y) ++ pksN (some p) last L[i])) :
    Ev C (f16h16_0c L L.length p (y :: Y) last i) (f16h16_0cm L L.length p (y :: Y) last i) Q := by
  have hg : L.getD i .top = L[i] := by simp [hi]
  have e2 : std.add (i : Int) 1 = ((i : Int) + 1) := rfl
  obtain ⟨hf, hl, hb⟩ := hx
  unfold resN pksN bytN at hq
  rw [hc] at hq
  obtain ⟨q1, q2, q3⟩ := hp
  have hE : expB p (dsN L[i]) = true := by
    unfold expB
    have := bytP_get (q1.app hb) 2
    simp only [Bool.and_eq_true, decide_eq_true_eq]
    omega
  unfold contN at hc
  dsimp only at hc
  by_cases h5 : fiN L[i] = 255
  · rw [if_pos h5] at hq
    by_cases h6 : keyN L[i] = last + 1
    · have h7 : ¬ fiN L[i] = expI (dsN L[i]).length p (dsN L[i]) := fun e => by rw [if_pos ⟨h6, e⟩] at hc; cases hc
      have hw := f16p21 std L L.length p (y :: Y) last i
      simp only [s_nat, s_nthA, s_len, s_sub3, s_subN, Int.toNat_natCast, hg, e2, show (AV.cellAt L[i] 2).toI = fiN L[i] from rfl, show (AV.cellAt L[i] 3).toIs = dsN L[i] from rfl, show (AV.cellAt L[i] 4).toI = keyN L[i] from rfl, drop_tl, show List.append = (fun (a b : List Int) => a ++ b) from rfl] at hw
      refine go hC BOp_ok hw ?_ (by simp at hq; exact hq)
      generalize fiN L[i] = f at *
      generalize keyN L[i] = k at *
      simp [hi, h5, h6, h7, hE]
      omega
    · have hw := f16p19 std L L.length p (y :: Y) last i
      simp only [s_nat, s_nthA, s_len, s_sub3, s_subN, Int.toNat_natCast, hg, e2, show (AV.cellAt L[i] 2).toI = fiN L[i] from rfl, show (AV.cellAt L[i] 3).toIs = dsN L[i] from rfl, show (AV.cellAt L[i] 4).toI = keyN L[i] from rfl, drop_tl, show List.append = (fun (a b : List Int) => a ++ b) from rfl] at hw
      refine go hC BOp_ok hw ?_ (by simp at hq; exact hq)
      generalize fiN L[i] = f at *
      generalize keyN L[i] = k at *
      simp [hi, h5, h6]
      omega
  · rw [if_neg h5] at hq
    by_cases h6 : keyN L[i] = last + 1
    · have h7 : ¬ fiN L[i] = expI (dsN L[i]).length p (dsN L[i]) := fun e => by rw [if_pos ⟨h6, e⟩] at hc; cases hc
      have hw := f16p22 std L L.length p (y :: Y) last i
      simp only [s_nat, s_nthA, s_len, s_sub3, s_subN, Int.toNat_natCast, hg, e2, show (AV.cellAt L[i] 2).toI = fiN L[i] from rfl, show (AV.cellAt L[i] 3).toIs = dsN L[i] from rfl, show (AV.cellAt L[i] 4).toI = keyN L[i] from rfl, drop_tl, show List.append = (fun (a b : List Int) => a ++ b) from rfl] at hw
      have hd1 : ((dsN L[i]).drop (fiN L[i]).toNat).length = (dsN L[i]).length - (fiN L[i]).toNat := List.length_drop
      refine go hC BOp_ok hw ?_ (eat_b hC L L.length (keyN L[i]) i ⟨by omega, by omega⟩ _ _ (y :: Y) (Nat.le_refl _) (hb.drop _) (by omega) (by simp) (by omega) hq)
      generalize (dsN L[i]).drop (fiN L[i]).toNat = D at *
      generalize fiN L[i] = f at *
      generalize keyN L[i] = k at *
      generalize dsN L[i] = ds at *
      have hD : 0 < D.length ∧ D.length ≤ 1000000 := by omega
      simp [hi, AV.bx, flatLen, h5, h6, h7, hE]
      omega
    · have hw := f16p20 std L L.length p (y :: Y) last i
      simp only [s_nat, s_nthA, s_len, s_sub3, s_subN, Int.toNat_natCast, hg, e2, show (AV.cellAt L[i] 2).toI = fiN L[i] from rfl, show (AV.cellAt L[i] 3).toIs = dsN L[i] from rfl, show (AV.cellAt L[i] 4).toI = keyN L[i] from rfl, drop_tl, show List.append = (fun (a b : List Int) => a ++ b) from rfl] at hw
      have hd1 : ((dsN L[i]).drop (fiN L[i]).toNat).length = (dsN L[i]).length - (fiN L[i]).toNat := List.length_drop
      refine go hC BOp_ok hw ?_ (eat_b hC L L.length (keyN L[i]) i ⟨by omega, by omega⟩ _ _ (y :: Y) (Nat.le_refl _) (hb.drop _) (by omega) (by simp) (by omega) hq)
      generalize (dsN L[i]).drop (fiN L[i]).toNat = D at *
      generalize fiN L[i] = f at *
      generalize keyN L[i] = k at *
      generalize dsN L[i] = ds at *
      have hD : 0 < D.length ∧ D.length ≤ 1000000 := by omega
      simp [hi, AV.bx, flatLen, h5, h6]
      omega
theorem st_cc (p : List Int) (y : AV) (Y : List AV) (hY : (y :: Y).length ≤ 500000) (hp : okS (some p)) (hc : contN (some p) last L[i] = some p) (hq : At16 C L L.length (keyN L[i]) ((i : Int) + 1) Q (resN (some p) last L[i]) ((y :: Y) ++ pksN (some p) last L[i])) :
    Ev C (f16h16_0c L L.length p (y :: Y) last i) (f16h16_0cm L L.length p (y :: Y) last i) Q := by
  have hg : L.getD i .top = L[i] := by simp [hi]
  have e2 : std.add (i : Int) 1 = ((i : Int) + 1) := rfl
  obtain ⟨hf, hl, hb⟩ := hx
  unfold resN pksN bytN at hq
  rw [hc] at hq
  dsimp only at hq
  obtain ⟨q1, q2, q3⟩ := hp
  have hE : expB p (dsN L[i]) = true := by
    unfold expB
    have := bytP_get (q1.app hb) 2
    simp only [Bool.and_eq_true, decide_eq_true_eq]
    omega
  have h67 : keyN L[i] = last + 1 ∧ fiN L[i] = expI (dsN L[i]).length p (dsN L[i]) := by
    unfold contN at hc
    dsimp only at hc
    by_cases h : keyN L[i] = last + 1 ∧ fiN L[i] = expI (dsN L[i]).length p (dsN L[i])
    · exact h
    · rw [if_neg h] at hc; cases hc
  have hw := f16p23 std L L.length p (y :: Y) last i
  simp only [s_nat, s_nthA, s_len, s_sub3, s_subN, Int.toNat_natCast, hg, e2, show (AV.cellAt L[i] 2).toI = fiN L[i] from rfl, show (AV.cellAt L[i] 3).toIs = dsN L[i] from rfl, show (AV.cellAt L[i] 4).toI = keyN L[i] from rfl, drop_tl, show List.append = (fun (a b : List Int) => a ++ b) from rfl] at hw
  have hpl : (p ++ dsN L[i]).length = p.length + (dsN L[i]).length := List.length_append
  refine go hC BOp_ok hw ?_ (eat_b hC L L.length (keyN L[i]) i ⟨by omega, by omega⟩ _ _ (y :: Y) (Nat.le_refl _) (q1.app hb) (by omega) (by simp) (by omega) hq)
  rw [← h67.2, h67.1, hE]
  generalize fiN L[i] = f at *
  generalize keyN L[i] = k at *
  generalize dsN L[i] = ds at *
  simp [hi, AV.bx, flatLen]
  omega
end
theorem numR_of {c : Int} {x : AV} : ∀ {fs : List AV} {last : Int}, x ∈ numR c fs last → ∃ f ∈ fs, ∃ k, x = numF f k
  | [], _, h => by simp [numR] at h
  | f :: fs, last, h => by
    unfold numR at h
    split at h
    · rcases List.mem_cons.1 h with rfl | h
      · exact ⟨f, by simp, _, rfl⟩
      · obtain ⟨g, hg, k, hk⟩ := numR_of h; exact ⟨g, by simp [hg], k, hk⟩
    · obtain ⟨g, hg, k, hk⟩ := numR_of h; exact ⟨g, by simp [hg], k, hk⟩
theorem numR0_of {c : Int} {x : AV} : ∀ {fs : List AV}, x ∈ numR0 c fs → ∃ f ∈ fs, ∃ k, x = numF f k
  | [], h => by simp [numR0] at h
  | f :: fs, h => by
    unfold numR0 at h
    split at h
    · rcases List.mem_cons.1 h with rfl | h
      · exact ⟨f, by simp, _, rfl⟩
      · obtain ⟨g, hg, k, hk⟩ := numR_of h; exact ⟨g, by simp [hg], k, hk⟩
    · obtain ⟨g, hg, k, hk⟩ := numR0_of h; exact ⟨g, by simp [hg], k, hk⟩
def okFr (a : Int) (f : AV) : Prop := ((0 ≤ (AV.cellAt f 2).toI ∧ (AV.cellAt f 2).toI ≤ a - 1) ∨ (AV.cellAt f 2).toI = 255) ∧ (((AV.cellAt f 3).toIs.length : Int) = a) ∧ bytP (AV.cellAt f 3).toIs
theorem okX_of {a c : Int} {fs : List AV} (h : ∀ f ∈ fs, okFr a f) : ∀ x ∈ ordL c fs, okX a x := fun x hx => by
  obtain ⟨f, hf, k, rfl⟩ := numR0_of (ordL_mem hx)
  exact h f hf
theorem open_fr {a b c : Int} {fs : List AV} (h : openE a b c fs = 0) : (4 ≤ a ∧ a ≤ 24) ∧ ∀ f ∈ fs, okFr a f := by
  obtain ⟨h1, h2, h3, h4⟩ := open_ok h
  have hrb : rulesB a b = true := by
    unfold rulesE at h1
    by_cases hb : rulesB a b = true
    · exact hb
    · rw [if_neg hb] at h1; cases h1
  refine ⟨?_, fun f hf => ?_⟩
  · unfold rulesB at hrb
    simp at hrb
    omega
  · have hw := eachW_ok h4 f hf
    unfold frW at hw
    rw [frameW_eq hrb] at hw
    obtain ⟨_, _, h5, h6, h7⟩ := frameE_ok hw
    exact ⟨h5, h6, bytesE_mem h7⟩
theorem main16 {C : Ctx} (hC : C.P = Try.prog) (L : List AV) (a : Int) (ha : 4 ≤ a ∧ a ≤ 24) (hL : L.length ≤ 1000) (hx : ∀ x ∈ L, okX a x) (hk : ∀ x ∈ L, -400000 ≤ keyN x ∧ keyN x ≤ 400000) : ∀ (d i : Nat) (last : Int) (st : Option (List Int)) (X : List AV), L.length - i = d → i ≤ L.length → okS st → X.length ≤ 300 * i → (-400000 ≤ last ∧ last ≤ 400000) →
    At16 C L L.length last i (Q16 (X ++ extN st last (L.drop i))) st X := by
  intro d
  induction d with
  | zero =>
    intro i last st X hd hi hs hX hl
    rw [List.drop_of_length_le (by omega), extN, List.append_nil]
    match st, X with
    | none, [] => exact fin hC BOp_ok (f16p4 std L L.length last i) (by simp; omega) rfl rfl
    | some p, [] => exact fin hC BOp_ok (f16p14 std L L.length p last i) (by simp; omega) rfl rfl
    | some p, y :: Y => exact fin hC BOp_ok (f16p24 std L L.length p (y :: Y) last i) (by simp; omega) rfl rfl
    | none, y :: Y => exact fin hC BOp_ok (f16p27 std L L.length (y :: Y) last i) (by simp; omega) rfl rfl
  | succ d ih =>
    intro i last st X hd hi hs hX hl
    have hlt : i < L.length := by omega
    have hxi := hx L[i] (List.getElem_mem hlt)
    have hki := hk L[i] (List.getElem_mem hlt)
    rw [List.drop_eq_getElem_cons hlt, extN, ← List.append_assoc]
    have hq := ih (i + 1) (keyN L[i]) (resN st last L[i]) (X ++ pksN st last L[i]) (by omega) (by omega) (resN_ok hs hxi ha) (by
      have := (pksN_len (last := last) hs hxi ha).1
      rw [List.length_append]; omega) hki
    rw [show (((i + 1 : Nat) : Nat) : Int) = (i : Int) + 1 by omega] at hq
    match st, X, hs, hX, hq with
    | none, [], hs, hX, hq => exact st_a hC L a ha i hlt (by omega) hxi hki last hl rfl hq
    | none, y :: Y, hs, hX, hq => exact st_d hC L a ha i hlt (by omega) hxi hki last hl y Y (by omega) rfl hq
    | some p, X, hs, hX, hq =>
      have hcc : contN (some p) last L[i] = none ∨ contN (some p) last L[i] = some p := by
        unfold contN
        dsimp only
        split
        · exact .inr rfl
        · exact .inl rfl
      match X, hX, hq with
      | [], hX, hq =>
        rcases hcc with hc | hc
        · exact st_bn hC L a ha i hlt (by omega) hxi hki last hl p hs hc hq
        · exact st_bc hC L a ha i hlt (by omega) hxi hki last hl p hs hc hq
      | y :: Y, hX, hq =>
        rcases hcc with hc | hc
        · exact st_cn hC L a ha i hlt (by omega) hxi hki last hl p y Y (by omega) hs hc hq
        · exact st_cc hC L a ha i hlt (by omega) hxi hki last hl p y Y (by omega) hs hc hq
def exO (a b c : Int) (fs : List AV) : List AV := if openE a b c fs = 0 then extN none 0 (ordL c fs) else []
theorem exO_eq (a b c : Int) (fs : List AV) : exO a b c fs = if openE a b c fs = 0 then extN none 0 (ordL c fs) else [] := rfl
theorem ext16 (a b c : Int) (fs : List AV) (h : smallF fs = true) : Pure Try.prog 16 [.agg (.gen [.int .i64 a, .int .i64 b]), .int .i64 c, .list (.big shFr fs)] (.tup [.list (.big shP (exO a b c fs)), .int .i64 (openE a b c fs)]) none := by
  unfold exO
  by_cases h0 : openE a b c fs = 0
  · rw [if_pos h0, h0]
    have hnm := open_nm h0
    obtain ⟨ha, hfr⟩ := open_fr h0
    have hlen := ordL_len c fs
    have h40 := (open_ok h0).2.2.1
    have key : ∀ C : Ctx, C.P = Try.prog → Ev C (f16e a b c fs) [] (Q16 (extN none 0 (ordL c fs))) := fun C hC => by
      refine go hC BOp_ok (f16p1 std a b c fs) (by simp [h, h0, hnm]) ?_
      have := main16 hC (ordL c fs) a ha (by omega) (okX_of hfr) (ordL_rng hnm) _ 0 0 none [] rfl (Nat.zero_le _) trivial (by simp) (by omega)
      simp at this
      exact this
    cases hz : extN none 0 (ordL c fs) with
    | nil =>
      rw [hz] at key
      exact wk2_tup (xs := [.nils, .int .i64 0]) (start (f16e_at a b c fs) key) ⟨.one (.nil _ rfl), wk2_refl _, trivial⟩
    | cons y Y =>
      rw [hz] at key
      exact frz2_tup (e := 57) (sz := 2) (xs := [.row 0 0, .int .i64 0]) (start (f16e_at a b c fs) key) rfl ⟨.row, .same _ rfl, trivial⟩
  · rw [if_neg h0]
    exact wk2_tup (xs := [.nils, .int .i64 (openE a b c fs)]) (start (f16e_at a b c fs) fun C hC => fin hC BOp_ok (f16p0 std a b c fs) (by simp [h, h0]) rfl rfl) ⟨.one (.nil _ rfl), wk2_refl _, trivial⟩
attribute [irreducible] exO
end Go.Proofs.Ytjhdnpmojhkbjaa
/- Contracts as a list. No condition. -/
namespace Go.Proofs.Ytjhdnpmojhkbjaa
theorem copy55n : Pure Try.prog 55 [.nils] (.list (.ints .i64 [])) newF := pure_args (copy_new [] (by simp)) ⟨.one (.nil _ rfl), trivial⟩
theorem copy55nr : Pure Try.prog 55 [.nils] (.row 0 0) (some ⟨3, 1, .ints .i64 []⟩) := pure_args (copy_row [] (by simp)) ⟨.one (.nil _ rfl), trivial⟩
def k55o : Ctr := ⟨55, 1, fun pa a => match pa with
  | [] => (match a with | _ => some (false, .nils, none))
  | b :: _ => (match a with
    | [.nils] => some (true, (match b with | true => .row 0 0 | false => .list (.ints .i64 [])), (match b with | true => some ⟨3, 1, .ints .i64 []⟩ | false => newF))
    | [.list (.ints .i64 xs)] => some (decide (xs.length ≤ 4294967296), (match b with | true => .row 0 0 | false => .list (.ints .i64 xs)), (match b with | true => some ⟨3, 1, .ints .i64 xs⟩ | false => newF))
    | _ => none)⟩
theorem k55o_ok : k55o.OK Try.prog := fun pa args r fr h => by
  simp only [k55o] at h
  split at h
  · simp at h
  · split at h
    · simp only [Option.some.injEq, Prod.mk.injEq, true_and] at h
      obtain ⟨rfl, rfl⟩ := h
      split
      · exact copy55nr
      · exact copy55n
    · simp only [Option.some.injEq, Prod.mk.injEq, decide_eq_true_eq] at h
      obtain ⟨h0, rfl, rfl⟩ := h
      split
      · exact copy_row _ h0
      · exact copy_new _ h0
    · cases h
def k16 : Ctr := ⟨16, 0, fun _ a => match a with | [.agg (.gen [.int .i64 a, .int .i64 b]), .int .i64 c, .list (.big (.agg [.int .i64, .int .i64, .int .i64, .ints .i64]) fs)] => some (decide (smallF fs = true), .tup [.list (.big shP (exO a b c fs)), .int .i64 (openE a b c fs)], none) | _ => none⟩
theorem k16_ok : k16.OK Try.prog := fun pa args r fr h => by
  simp only [k16] at h
  split at h
  · simp only [Option.some.injEq, Prod.mk.injEq, decide_eq_true_eq] at h
    obtain ⟨h0, rfl, rfl⟩ := h
    exact ext16 _ _ _ _ h0
  · cases h
def BOq : List Ctr := [k16] ++ BOp
theorem BOq_ok : CtrsOK Try.prog BOq := ⟨k16_ok, BOp_ok⟩
def BOr : List Ctr := k55o :: BOq
theorem BOr_ok : CtrsOK Try.prog BOr := ⟨k55o_ok, BOq_ok⟩
end Go.Proofs.Ytjhdnpmojhkbjaa
