/- The reference's extraction. No condition. -/
import Derived.Test.YtjhdnpmojhkbjaaQb
import Derived.KernelRfl
namespace Go.Proofs.Ytjhdnpmojhkbjaa
def At22 (C : Ctx) (a b : Int) (x0 : List AV) (l1 : List Int) (i : Int) (Q : List AFrame → AHeap → Prop) : Option (List Int) → List AV → Prop
  | none, [] => Ev C (f22h22_0a a b x0 l1 i false) (f22h22_0am a b x0 l1 i false) Q
  | some [], [] => Ev C (f22h22_0a a b x0 l1 i true) (f22h22_0am a b x0 l1 i true) Q
  | some (q :: p), [] => Ev C (f22h22_0b a b x0 l1 (q :: p) true i) (f22h22_0bm a b x0 l1 (q :: p) true i) Q
  | none, y :: Y => Ev C (f22h22_0c a b x0 l1 (y :: Y) i false) (f22h22_0cm a b x0 l1 (y :: Y) i false) Q
  | some [], y :: Y => Ev C (f22h22_0c a b x0 l1 (y :: Y) i true) (f22h22_0cm a b x0 l1 (y :: Y) i true) Q
  | some (q :: p), y :: Y => Ev C (f22h22_0d a b x0 l1 (y :: Y) (q :: p) true i) (f22h22_0dm a b x0 l1 (y :: Y) (q :: p) true i) Q
def In22 (C : Ctx) (a b : Int) (x0 : List AV) (l1 : List Int) (k i u v w : Int) (ds : List Int) (Q : List AFrame → AHeap → Prop) : List Int → List AV → Prop
  | [], [] => Ev C (f22h22_1a a b x0 l1 k u v w ds true i) (f22h22_1am a b x0 l1 k u v w ds true i) Q
  | q :: p, [] => Ev C (f22h22_1b a b x0 l1 k (q :: p) i u v w ds true) (f22h22_1bm a b x0 l1 k (q :: p) i u v w ds true) Q
  | [], y :: Y => Ev C (f22h22_1c a b x0 l1 k (y :: Y) i u v w ds true) (f22h22_1cm a b x0 l1 k (y :: Y) i u v w ds true) Q
  | q :: p, y :: Y => Ev C (f22h22_1d a b x0 l1 (y :: Y) k (q :: p) i u v w ds true) (f22h22_1dm a b x0 l1 (y :: Y) k (q :: p) i u v w ds true) Q
theorem needB_ok {p : List Int} (h : bytP p) (hl : p.length ≤ 1000) : needB p = true := by
  unfold needB
  have := bytP_get h 2
  simp only [Bool.and_eq_true, decide_eq_true_eq]
  omega
section
variable {C : Ctx} (hC : C.P = Try.prog) {Q : List AFrame → AHeap → Prop} (a b : Int) (x0 : List AV) (l1 : List Int) (i u v w : Int) (hi : 0 ≤ i ∧ i ≤ 100000) (ds : List Int) (hds : bytP ds) (hdl : ds.length ≤ 500)
include hC hi hds hdl
theorem feed22 : ∀ (d k : Nat) (p : List Int) (X : List AV), ds.length - k = d → k ≤ ds.length → bytP p → p.length + d ≤ 900 → 0 < needN p → X.length + d ≤ 1000000 →
    At22 C a b x0 l1 (i + 1) Q (some (feedL p (ds.drop k)).2) (X ++ (feedL p (ds.drop k)).1) → In22 C a b x0 l1 k i u v w ds Q p X := by
  intro d
  induction d with
  | zero =>
    intro k p X hd hk hp hpl hn hX hq
    rw [List.drop_of_length_le (by omega), feedL, List.append_nil] at hq
    match p, X, hq with
    | [], [], hq => exact go hC BOr_ok (f22p12 std a b x0 l1 (k : Int) u v w ds true i) (by simp; omega) hq
    | q :: p, [], hq => exact go hC BOr_ok (f22p16 std a b x0 l1 (k : Int) (q :: p) i u v w ds true) (by simp; omega) hq
    | [], y :: Y, hq => exact go hC BOr_ok (f22p20 std a b x0 l1 (k : Int) (y :: Y) i u v w ds true) (by simp; omega) hq
    | q :: p, y :: Y, hq => exact go hC BOr_ok (f22p32 std a b x0 l1 (y :: Y) (k : Int) (q :: p) i u v w ds true) (by simp; omega) hq
  | succ d ih =>
    intro k p X hd hk hp hpl hn hX hq
    have hlt : k < ds.length := by omega
    have e1 : ds.getD k 0 = ds[k] := by simp [hlt]
    have hbk : 0 ≤ ds[k] ∧ ds[k] ≤ 255 := hds _ (List.getElem_mem hlt)
    have hpb : bytP (p ++ [ds[k]]) := hp.app (fun x hx => by rw [List.mem_singleton] at hx; rw [hx]; exact hbk)
    have hlb : (p ++ [ds[k]]).length = p.length + 1 := by simp
    have hNB : needB (p ++ [ds[k]]) = true := needB_ok hpb (by omega)
    rw [List.drop_eq_getElem_cons hlt, feedL] at hq
    by_cases h1 : 0 < needN (p ++ [ds[k]])
    · rw [if_pos h1] at hq
      have hi2 := ih (k + 1) (p ++ [ds[k]]) X (by omega) (by omega) hpb (by omega) h1 (by omega) hq
      match p, X, hi2 with
      | [], [], hi2 =>
        have hw := f22p9 std a b x0 l1 (k : Int) u v w ds true i
        simp only [s_nat, s_nth, s_app, s_len, s_int, s_sub3, s_subN, s_appA, Int.toNat_natCast, show ∀ n : Nat, std.add (n : Int) 1 = ((n + 1 : Nat) : Int) from fun _ => rfl, e1, show Int.toNat 0 = 0 from rfl, show Int.toNat 1 = 1 from rfl, show Int.toNat 3 = 3 from rfl] at hw
        rw [hNB] at hw
        refine go hC BOr_ok hw ?_ hi2
        clear hi2 hw hq
        try simp only [List.length_cons] at hpl hlb
        generalize hrr : [] ++ [ds[k]] = r at *
        generalize needN r = nn at *
        simp [hlt, h1, AV.bx, flatLen]
        omega
      | q :: p, [], hi2 =>
        have hw := f22p13 std a b x0 l1 (k : Int) (q :: p) i u v w ds true
        simp only [s_nat, s_nth, s_app, s_len, s_int, s_sub3, s_subN, s_appA, Int.toNat_natCast, show ∀ n : Nat, std.add (n : Int) 1 = ((n + 1 : Nat) : Int) from fun _ => rfl, e1, show Int.toNat 0 = 0 from rfl, show Int.toNat 1 = 1 from rfl, show Int.toNat 3 = 3 from rfl] at hw
        rw [hNB] at hw
        refine go hC BOr_ok hw ?_ hi2
        clear hi2 hw hq
        try simp only [List.length_cons] at hpl hlb
        generalize hrr : q :: p ++ [ds[k]] = r at *
        generalize needN r = nn at *
        simp [hlt, h1, AV.bx, flatLen]
        omega
      | [], y :: Y, hi2 =>
        have hw := f22p17 std a b x0 l1 (k : Int) (y :: Y) i u v w ds true
        simp only [s_nat, s_nth, s_app, s_len, s_int, s_sub3, s_subN, s_appA, Int.toNat_natCast, show ∀ n : Nat, std.add (n : Int) 1 = ((n + 1 : Nat) : Int) from fun _ => rfl, e1, show Int.toNat 0 = 0 from rfl, show Int.toNat 1 = 1 from rfl, show Int.toNat 3 = 3 from rfl] at hw
        rw [hNB] at hw
        refine go hC BOr_ok hw ?_ hi2
        clear hi2 hw hq
        try simp only [List.length_cons] at hpl hlb
        generalize hrr : [] ++ [ds[k]] = r at *
        generalize needN r = nn at *
        simp [hlt, h1, AV.bx, flatLen]
        omega
      | q :: p, y :: Y, hi2 =>
        have hw := f22p29 std a b x0 l1 (y :: Y) (k : Int) (q :: p) i u v w ds true
        simp only [s_nat, s_nth, s_app, s_len, s_int, s_sub3, s_subN, s_appA, Int.toNat_natCast, show ∀ n : Nat, std.add (n : Int) 1 = ((n + 1 : Nat) : Int) from fun _ => rfl, e1, show Int.toNat 0 = 0 from rfl, show Int.toNat 1 = 1 from rfl, show Int.toNat 3 = 3 from rfl] at hw
        rw [hNB] at hw
        refine go hC BOr_ok hw ?_ hi2
        clear hi2 hw hq
        try simp only [List.length_cons] at hpl hlb
        generalize hrr : q :: p ++ [ds[k]] = r at *
        generalize needN r = nn at *
        simp [hlt, h1, AV.bx, flatLen]
        omega
    · rw [if_neg h1] at hq
      have h3 : 3 ≤ (p ++ [ds[k]]).length := by
        rw [need_pos] at h1
        omega
      match p, X, hq with
      | [], _, _ => simp at h3
      | q :: p, [], hq =>
        have hdl3 : ((q :: p ++ [ds[k]]).drop 3).length ≤ 4294967296 := by rw [List.length_drop]; omega
        have htk : ((q :: p ++ [ds[k]]).drop 3).take ((q :: p ++ [ds[k]]).length - 3) = (q :: p ++ [ds[k]]).drop 3 := List.take_of_length_le (by rw [List.length_drop]; omega)
        by_cases h2 : (q :: p ++ [ds[k]]).getD 0 0 = 255
        · rw [if_pos h2, List.nil_append] at hq
          have hi2 := ih (k + 1) [] [] (by omega) (by omega) (fun x hx => by simp at hx) (by simp; omega) (by simp [needN]) (by omega) hq
          have hw := f22p15 std a b x0 l1 (k : Int) (q :: p) i u v w ds true
          simp only [s_nat, s_nth, s_app, s_len, s_int, s_sub3, s_subN, s_appA, Int.toNat_natCast, show ∀ n : Nat, std.add (n : Int) 1 = ((n + 1 : Nat) : Int) from fun _ => rfl, e1, show Int.toNat 0 = 0 from rfl, show Int.toNat 1 = 1 from rfl, show Int.toNat 3 = 3 from rfl] at hw
          rw [hNB] at hw
          refine go hC BOr_ok hw ?_ hi2
          clear hi2 hw hq
          simp only [List.length_cons] at hpl hlb
          generalize q :: p ++ [ds[k]] = r at *
          generalize r.getD 0 0 = r0 at *
          generalize needN r = nn at *
          simp [hlt, h2, h1, AV.bx, flatLen, Row.len]
          omega
        · rw [if_neg h2, ← List.append_assoc] at hq
          have hi2 := ih (k + 1) [] ([] ++ [AV.agg (Row.gen [AV.int .i64 ((q :: p ++ [ds[k]]).getD 0 0), AV.int .i64 ((q :: p ++ [ds[k]]).getD 1 0), AV.list (.ints .i64 ((q :: p ++ [ds[k]]).drop 3))])]) (by omega) (by omega) (fun x hx => by simp at hx) (by simp; omega) (by simp [needN]) (by rw [List.length_append, List.length_singleton]; omega) hq
          have hw := f22p14 std a b x0 l1 (k : Int) (q :: p) i u v w ds true
          simp only [s_nat, s_nth, s_app, s_len, s_int, s_sub3, s_subN, s_appA, Int.toNat_natCast, show ∀ n : Nat, std.add (n : Int) 1 = ((n + 1 : Nat) : Int) from fun _ => rfl, e1, show Int.toNat 0 = 0 from rfl, show Int.toNat 1 = 1 from rfl, show Int.toNat 3 = 3 from rfl] at hw
          rw [hNB, htk] at hw
          refine go hC BOr_ok hw ?_ hi2
          clear hi2 hw hq
          simp only [List.length_cons, List.length_nil] at hpl hlb hX
          generalize hrr : q :: p ++ [ds[k]] = r at *
          generalize r.getD 0 0 = r0 at *
          generalize r.getD 1 0 = r1 at *
          generalize needN r = nn at *
          generalize r.drop 3 = D at *
          simp [hlt, h2, h1, AV.bx, flatLen, Row.len]
          omega
      | q :: p, y :: Y, hq =>
        have hdl3 : ((q :: p ++ [ds[k]]).drop 3).length ≤ 4294967296 := by rw [List.length_drop]; omega
        have htk : ((q :: p ++ [ds[k]]).drop 3).take ((q :: p ++ [ds[k]]).length - 3) = (q :: p ++ [ds[k]]).drop 3 := List.take_of_length_le (by rw [List.length_drop]; omega)
        by_cases h2 : (q :: p ++ [ds[k]]).getD 0 0 = 255
        · rw [if_pos h2, List.nil_append] at hq
          have hi2 := ih (k + 1) [] (y :: Y) (by omega) (by omega) (fun x hx => by simp at hx) (by simp; omega) (by simp [needN]) (by omega) hq
          have hw := f22p31 std a b x0 l1 (y :: Y) (k : Int) (q :: p) i u v w ds true
          simp only [s_nat, s_nth, s_app, s_len, s_int, s_sub3, s_subN, s_appA, Int.toNat_natCast, show ∀ n : Nat, std.add (n : Int) 1 = ((n + 1 : Nat) : Int) from fun _ => rfl, e1, show Int.toNat 0 = 0 from rfl, show Int.toNat 1 = 1 from rfl, show Int.toNat 3 = 3 from rfl] at hw
          rw [hNB] at hw
          refine go hC BOr_ok hw ?_ hi2
          clear hi2 hw hq
          simp only [List.length_cons] at hpl hlb
          generalize q :: p ++ [ds[k]] = r at *
          generalize r.getD 0 0 = r0 at *
          generalize needN r = nn at *
          simp [hlt, h2, h1, AV.bx, flatLen, Row.len]
          omega
        · rw [if_neg h2, ← List.append_assoc] at hq
          have hi2 := ih (k + 1) [] ((y :: Y) ++ [AV.agg (Row.gen [AV.int .i64 ((q :: p ++ [ds[k]]).getD 0 0), AV.int .i64 ((q :: p ++ [ds[k]]).getD 1 0), AV.list (.ints .i64 ((q :: p ++ [ds[k]]).drop 3))])]) (by omega) (by omega) (fun x hx => by simp at hx) (by simp; omega) (by simp [needN]) (by rw [List.length_append, List.length_singleton]; omega) hq
          have hw := f22p30 std a b x0 l1 (y :: Y) (k : Int) (q :: p) i u v w ds true
          simp only [s_nat, s_nth, s_app, s_len, s_int, s_sub3, s_subN, s_appA, Int.toNat_natCast, show ∀ n : Nat, std.add (n : Int) 1 = ((n + 1 : Nat) : Int) from fun _ => rfl, e1, show Int.toNat 0 = 0 from rfl, show Int.toNat 1 = 1 from rfl, show Int.toNat 3 = 3 from rfl] at hw
          rw [hNB, htk] at hw
          refine go hC BOr_ok hw ?_ hi2
          clear hi2 hw hq
          simp only [List.length_cons, List.length_nil] at hpl hlb hX
          generalize hrr : q :: p ++ [ds[k]] = r at *
          generalize r.getD 0 0 = r0 at *
          generalize r.getD 1 0 = r1 at *
          generalize needN r = nn at *
          generalize r.drop 3 = D at *
          simp [hlt, h2, h1, AV.bx, flatLen, Row.len]
          omega
end
section
variable {C : Ctx} (hC : C.P = Try.prog) {Q : List AFrame → AHeap → Prop} (L : List AV) (a b : Int) (ha : 4 ≤ a ∧ a ≤ 24) (i : Nat) (hi : i < L.length) (hL : L.length ≤ 1000) (hk : ∀ x ∈ L, -400000 ≤ keyN x ∧ keyN x ≤ 400000) (hx : okX a L[i])
include hC ha hi hL hk hx
theorem in22_go (p : List Int) (X : List AV) (k : Nat) (hp : bytP p) (hpl : p.length ≤ 300) (hn : 0 < needN p) (hX : X.length ≤ 500000) (u v w : Int) (hkd : k ≤ (dsN L[i]).length)
    (hq : At22 C a b (L.map valF) (L.map keyN) ((i : Int) + 1) Q (some (eat (p ++ (dsN L[i]).drop k)).2) (X ++ (eat (p ++ (dsN L[i]).drop k)).1)) : In22 C a b (L.map valF) (L.map keyN) k i u v w (dsN L[i]) Q p X := by
  obtain ⟨hf, hl, hb⟩ := hx
  refine feed22 hC a b (L.map valF) (L.map keyN) i u v w ⟨by omega, by omega⟩ (dsN L[i]) hb (by omega) _ k p X rfl hkd hp (by omega) hn (by omega) ?_
  rw [feed_eat _ p hp (hb.drop k) hn]
  exact hq
section
variable (last : Int)
theorem rt_a  (hq : At22 C a b (L.map valF) (L.map keyN) ((i : Int) + 1) Q (resN none last L[i]) ([] ++ pksN none last L[i])) : At22 C a b (L.map valF) (L.map keyN) i Q none [] := by
  have hgx : (L.map valF).getD i .top = valF L[i] := by simp [hi]
  have hgk : (L.map keyN).getD i 0 = keyN L[i] := by simp [hi]
  have hlm : (L.map valF).length = L.length := List.length_map _
  have hlk : (L.map keyN).length = L.length := List.length_map _
  have ei : ((i : Int) - 1).toNat = i - 1 := by omega
  have hxx := hx
  obtain ⟨hf, hl, hb⟩ := hx
  unfold resN pksN bytN at hq
  rw [show contN none last L[i] = none from rfl] at hq
  dsimp only at hq
  by_cases h5 : fiN L[i] = 255
  · rw [if_pos h5] at hq
    have hw := f22p6 std a b (L.map valF) (L.map keyN) (i : Int) false
    simp only [s_nat, s_nth, s_nthA, s_len, s_lenA, s_sub, s_add, Int.toNat_natCast, hgx, hgk, ei, hlm, hlk, show (AV.cellAt (valF L[i]) 2).toI = fiN L[i] from rfl, show (AV.cellAt (valF L[i]) 3).toIs = dsN L[i] from rfl] at hw
    refine go hC BOr_ok hw ?_ (by simp at hq; exact hq)
    clear hq hw
    generalize fiN L[i] = f at *
    simp [hi, h5] <;> omega
  · rw [if_neg h5] at hq
    have hw := f22p7 std a b (L.map valF) (L.map keyN) (i : Int) false
    simp only [s_nat, s_nth, s_nthA, s_len, s_lenA, s_sub, s_add, Int.toNat_natCast, hgx, hgk, ei, hlm, hlk, show (AV.cellAt (valF L[i]) 2).toI = fiN L[i] from rfl, show (AV.cellAt (valF L[i]) 3).toIs = dsN L[i] from rfl] at hw
    have hin := in22_go hC L a b ha i hi hL hk hxx [] [] (fiN L[i]).toNat (fun x hx => by simp at hx) (by simp) (by simp [needN]) (by first | exact hY | simp) (AV.cellAt (valF L[i]) 0).toI (AV.cellAt (valF L[i]) 1).toI (fiN L[i]) (by omega) (by simpa using hq)
    rw [show ((fiN L[i]).toNat : Int) = fiN L[i] by omega] at hin
    refine go hC BOr_ok hw ?_ hin
    clear hq hw hin
    generalize fiN L[i] = f at *
    generalize dsN L[i] = ds at *
    simp [hi, h5, AV.bx, flatLen] <;> omega
theorem rt_c (y : AV) (Y : List AV) (hY : (y :: Y).length ≤ 500000) (hq : At22 C a b (L.map valF) (L.map keyN) ((i : Int) + 1) Q (resN none last L[i]) ((y :: Y) ++ pksN none last L[i])) : At22 C a b (L.map valF) (L.map keyN) i Q none (y :: Y) := by
  have hgx : (L.map valF).getD i .top = valF L[i] := by simp [hi]
  have hgk : (L.map keyN).getD i 0 = keyN L[i] := by simp [hi]
  have hlm : (L.map valF).length = L.length := List.length_map _
  have hlk : (L.map keyN).length = L.length := List.length_map _
  have ei : ((i : Int) - 1).toNat = i - 1 := by omega
  have hxx := hx
  obtain ⟨hf, hl, hb⟩ := hx
  unfold resN pksN bytN at hq
  rw [show contN none last L[i] = none from rfl] at hq
  dsimp only at hq
  by_cases h5 : fiN L[i] = 255
  · rw [if_pos h5] at hq
    have hw := f22p38 std a b (L.map valF) (L.map keyN) (y :: Y) (i : Int) false
    simp only [s_nat, s_nth, s_nthA, s_len, s_lenA, s_sub, s_add, Int.toNat_natCast, hgx, hgk, ei, hlm, hlk, show (AV.cellAt (valF L[i]) 2).toI = fiN L[i] from rfl, show (AV.cellAt (valF L[i]) 3).toIs = dsN L[i] from rfl] at hw
    refine go hC BOr_ok hw ?_ (by simp at hq; exact hq)
    clear hq hw
    generalize fiN L[i] = f at *
    simp [hi, h5] <;> omega
  · rw [if_neg h5] at hq
    have hw := f22p39 std a b (L.map valF) (L.map keyN) (y :: Y) (i : Int) false
    simp only [s_nat, s_nth, s_nthA, s_len, s_lenA, s_sub, s_add, Int.toNat_natCast, hgx, hgk, ei, hlm, hlk, show (AV.cellAt (valF L[i]) 2).toI = fiN L[i] from rfl, show (AV.cellAt (valF L[i]) 3).toIs = dsN L[i] from rfl] at hw
    have hin := in22_go hC L a b ha i hi hL hk hxx [] (y :: Y) (fiN L[i]).toNat (fun x hx => by simp at hx) (by simp) (by simp [needN]) (by first | exact hY | simp) (AV.cellAt (valF L[i]) 0).toI (AV.cellAt (valF L[i]) 1).toI (fiN L[i]) (by omega) (by simpa using hq)
    rw [show ((fiN L[i]).toNat : Int) = fiN L[i] by omega] at hin
    refine go hC BOr_ok hw ?_ hin
    clear hq hw hin
    generalize fiN L[i] = f at *
    generalize dsN L[i] = ds at *
    simp [hi, h5, AV.bx, flatLen] <;> omega
end
theorem ro_a  (hp : okS (some [])) (hi0 : 0 < i) (hq : At22 C a b (L.map valF) (L.map keyN) ((i : Int) + 1) Q (resN (some []) (keyN L[i - 1]) L[i]) ([] ++ pksN (some []) (keyN L[i - 1]) L[i])) : At22 C a b (L.map valF) (L.map keyN) i Q (some []) [] := by
  have hgx : (L.map valF).getD i .top = valF L[i] := by simp [hi]
  have hgk : (L.map keyN).getD i 0 = keyN L[i] := by simp [hi]
  have hgl : (L.map keyN).getD (i - 1) 0 = keyN L[i - 1] := by simp [show i - 1 < L.length by omega]
  have hlm : (L.map valF).length = L.length := List.length_map _
  have hlk : (L.map keyN).length = L.length := List.length_map _
  have ei : ((i : Int) - 1).toNat = i - 1 := by omega
  have hk1 := hk L[i] (List.getElem_mem hi)
  have hk2 := hk (L[i - 1]'(by omega)) (List.getElem_mem _)
  have hxx := hx
  obtain ⟨hf, hl, hb⟩ := hx
  obtain ⟨q1, q2, q3⟩ := hp
  have hex : expI (dsN L[i]).length [] (dsN L[i]) = 0 := rfl
  unfold resN pksN bytN contN at hq
  dsimp only at hq
  rw [hex] at hq
  by_cases h6 : keyN L[i] = keyN L[i - 1] + 1
  · by_cases h7 : fiN L[i] = 0
    · rw [if_pos ⟨h6, h7⟩] at hq
      dsimp only at hq
      have hw := f22p5 std a b (L.map valF) (L.map keyN) (i : Int) true
      simp only [s_nat, s_nth, s_nthA, s_len, s_lenA, s_sub, s_add, Int.toNat_natCast, hgx, hgk, ei, hlm, hlk, show (AV.cellAt (valF L[i]) 2).toI = fiN L[i] from rfl, show (AV.cellAt (valF L[i]) 3).toIs = dsN L[i] from rfl] at hw
      rw [hgl] at hw
      have hin := in22_go hC L a b ha i hi hL hk hxx [] [] 0 q1 (by omega) ((need_pos _).2 q3) (by first | exact hY | simp) (AV.cellAt (valF L[i]) 0).toI (AV.cellAt (valF L[i]) 1).toI (fiN L[i]) (by omega) (by simpa using hq)
      refine go hC BOr_ok hw ?_ hin
      clear hq hw hin
      rw [h6]
      simp [hi, AV.bx, flatLen, h7]
      omega
    · rw [if_neg (fun e => h7 e.2)] at hq
      dsimp only at hq
      by_cases h5 : fiN L[i] = 255
      · rw [if_pos h5] at hq
        have hw := f22p3 std a b (L.map valF) (L.map keyN) (i : Int) true
        simp only [s_nat, s_nth, s_nthA, s_len, s_lenA, s_sub, s_add, Int.toNat_natCast, hgx, hgk, ei, hlm, hlk, show (AV.cellAt (valF L[i]) 2).toI = fiN L[i] from rfl, show (AV.cellAt (valF L[i]) 3).toIs = dsN L[i] from rfl] at hw
        rw [hgl] at hw
        refine go hC BOr_ok hw ?_ (by simp at hq; exact hq)
        clear hq hw
        simp [hi, h5, h6, AV.bx, flatLen]
        first | omega | (simp [h7]; omega)
      · rw [if_neg h5] at hq
        have hw := f22p4 std a b (L.map valF) (L.map keyN) (i : Int) true
        simp only [s_nat, s_nth, s_nthA, s_len, s_lenA, s_sub, s_add, Int.toNat_natCast, hgx, hgk, ei, hlm, hlk, show (AV.cellAt (valF L[i]) 2).toI = fiN L[i] from rfl, show (AV.cellAt (valF L[i]) 3).toIs = dsN L[i] from rfl] at hw
        rw [hgl] at hw
        have hin := in22_go hC L a b ha i hi hL hk hxx [] [] (fiN L[i]).toNat (fun x hx => by simp at hx) (by simp) (by simp [needN]) (by first | exact hY | simp) (AV.cellAt (valF L[i]) 0).toI (AV.cellAt (valF L[i]) 1).toI (fiN L[i]) (by omega) (by simpa using hq)
        rw [show ((fiN L[i]).toNat : Int) = fiN L[i] by omega] at hin
        refine go hC BOr_ok hw ?_ hin
        clear hq hw hin
        simp [hi, h5, h6, h7, AV.bx, flatLen] <;> omega
  · rw [if_neg (fun e => h6 e.1)] at hq
    dsimp only at hq
    by_cases h5 : fiN L[i] = 255
    · rw [if_pos h5] at hq
      have hw := f22p1 std a b (L.map valF) (L.map keyN) (i : Int) true
      simp only [s_nat, s_nth, s_nthA, s_len, s_lenA, s_sub, s_add, Int.toNat_natCast, hgx, hgk, ei, hlm, hlk, show (AV.cellAt (valF L[i]) 2).toI = fiN L[i] from rfl, show (AV.cellAt (valF L[i]) 3).toIs = dsN L[i] from rfl] at hw
      rw [hgl] at hw
      refine go hC BOr_ok hw ?_ (by simp at hq; exact hq)
      clear hq hw
      simp [hi, h5, h6, AV.bx, flatLen] <;> omega
    · rw [if_neg h5] at hq
      have hw := f22p2 std a b (L.map valF) (L.map keyN) (i : Int) true
      simp only [s_nat, s_nth, s_nthA, s_len, s_lenA, s_sub, s_add, Int.toNat_natCast, hgx, hgk, ei, hlm, hlk, show (AV.cellAt (valF L[i]) 2).toI = fiN L[i] from rfl, show (AV.cellAt (valF L[i]) 3).toIs = dsN L[i] from rfl] at hw
      rw [hgl] at hw
      have hin := in22_go hC L a b ha i hi hL hk hxx [] [] (fiN L[i]).toNat (fun x hx => by simp at hx) (by simp) (by simp [needN]) (by first | exact hY | simp) (AV.cellAt (valF L[i]) 0).toI (AV.cellAt (valF L[i]) 1).toI (fiN L[i]) (by omega) (by simpa using hq)
      rw [show ((fiN L[i]).toNat : Int) = fiN L[i] by omega] at hin
      refine go hC BOr_ok hw ?_ hin
      clear hq hw hin
      simp [hi, h5, h6, AV.bx, flatLen] <;> omega
theorem ro_b (q : Int) (p : List Int) (hp : okS (some (q :: p))) (hi0 : 0 < i) (hq : At22 C a b (L.map valF) (L.map keyN) ((i : Int) + 1) Q (resN (some (q :: p)) (keyN L[i - 1]) L[i]) ([] ++ pksN (some (q :: p)) (keyN L[i - 1]) L[i])) : At22 C a b (L.map valF) (L.map keyN) i Q (some (q :: p)) [] := by
  have hgx : (L.map valF).getD i .top = valF L[i] := by simp [hi]
  have hgk : (L.map keyN).getD i 0 = keyN L[i] := by simp [hi]
  have hgl : (L.map keyN).getD (i - 1) 0 = keyN L[i - 1] := by simp [show i - 1 < L.length by omega]
  have hlm : (L.map valF).length = L.length := List.length_map _
  have hlk : (L.map keyN).length = L.length := List.length_map _
  have ei : ((i : Int) - 1).toNat = i - 1 := by omega
  have hk1 := hk L[i] (List.getElem_mem hi)
  have hk2 := hk (L[i - 1]'(by omega)) (List.getElem_mem _)
  have hxx := hx
  obtain ⟨hf, hl, hb⟩ := hx
  obtain ⟨q1, q2, q3⟩ := hp
  have hE : exrB a (q :: p) (dsN L[i]) = true := by
    unfold exrB expB
    have := bytP_get (q1.app hb) 2
    simp only [Bool.and_eq_true, decide_eq_true_eq]
    omega
  have hex : expI (dsN L[i]).length (q :: p) (dsN L[i]) = expI a (q :: p) (dsN L[i]) := by rw [hl]
  unfold resN pksN bytN contN at hq
  dsimp only at hq
  rw [hex] at hq
  by_cases h6 : keyN L[i] = keyN L[i - 1] + 1
  · by_cases h7 : fiN L[i] = expI a (q :: p) (dsN L[i])
    · rw [if_pos ⟨h6, h7⟩] at hq
      dsimp only at hq
      have hw := f22p25 std a b (L.map valF) (L.map keyN) (q :: p) true (i : Int)
      simp only [s_nat, s_nth, s_nthA, s_len, s_lenA, s_sub, s_add, Int.toNat_natCast, hgx, hgk, ei, hlm, hlk, show (AV.cellAt (valF L[i]) 2).toI = fiN L[i] from rfl, show (AV.cellAt (valF L[i]) 3).toIs = dsN L[i] from rfl] at hw
      rw [hgl] at hw
      have hin := in22_go hC L a b ha i hi hL hk hxx (q :: p) [] 0 q1 (by omega) ((need_pos _).2 q3) (by first | exact hY | simp) (AV.cellAt (valF L[i]) 0).toI (AV.cellAt (valF L[i]) 1).toI (fiN L[i]) (by omega) (by simpa using hq)
      refine go hC BOr_ok hw ?_ hin
      clear hq hw hin
      rw [h6]
      rw [← h7, hE]
      simp [hi, AV.bx, flatLen]
      omega
    · rw [if_neg (fun e => h7 e.2)] at hq
      dsimp only at hq
      by_cases h5 : fiN L[i] = 255
      · rw [if_pos h5] at hq
        have hw := f22p23 std a b (L.map valF) (L.map keyN) (q :: p) true (i : Int)
        simp only [s_nat, s_nth, s_nthA, s_len, s_lenA, s_sub, s_add, Int.toNat_natCast, hgx, hgk, ei, hlm, hlk, show (AV.cellAt (valF L[i]) 2).toI = fiN L[i] from rfl, show (AV.cellAt (valF L[i]) 3).toIs = dsN L[i] from rfl] at hw
        rw [hgl] at hw
        refine go hC BOr_ok hw ?_ (by simp at hq; exact hq)
        clear hq hw
        rw [hE]
        simp [hi, h5, h6, AV.bx, flatLen]
        rw [h5] at h7
        first | omega | (simp [h7]; omega)
      · rw [if_neg h5] at hq
        have hw := f22p24 std a b (L.map valF) (L.map keyN) (q :: p) true (i : Int)
        simp only [s_nat, s_nth, s_nthA, s_len, s_lenA, s_sub, s_add, Int.toNat_natCast, hgx, hgk, ei, hlm, hlk, show (AV.cellAt (valF L[i]) 2).toI = fiN L[i] from rfl, show (AV.cellAt (valF L[i]) 3).toIs = dsN L[i] from rfl] at hw
        rw [hgl] at hw
        have hin := in22_go hC L a b ha i hi hL hk hxx [] [] (fiN L[i]).toNat (fun x hx => by simp at hx) (by simp) (by simp [needN]) (by first | exact hY | simp) (AV.cellAt (valF L[i]) 0).toI (AV.cellAt (valF L[i]) 1).toI (fiN L[i]) (by omega) (by simpa using hq)
        rw [show ((fiN L[i]).toNat : Int) = fiN L[i] by omega] at hin
        refine go hC BOr_ok hw ?_ hin
        clear hq hw hin
        rw [hE]
        simp [hi, h5, h6, h7, AV.bx, flatLen] <;> omega
  · rw [if_neg (fun e => h6 e.1)] at hq
    dsimp only at hq
    by_cases h5 : fiN L[i] = 255
    · rw [if_pos h5] at hq
      have hw := f22p21 std a b (L.map valF) (L.map keyN) (q :: p) true (i : Int)
      simp only [s_nat, s_nth, s_nthA, s_len, s_lenA, s_sub, s_add, Int.toNat_natCast, hgx, hgk, ei, hlm, hlk, show (AV.cellAt (valF L[i]) 2).toI = fiN L[i] from rfl, show (AV.cellAt (valF L[i]) 3).toIs = dsN L[i] from rfl] at hw
      rw [hgl] at hw
      refine go hC BOr_ok hw ?_ (by simp at hq; exact hq)
      clear hq hw
      simp [hi, h5, h6, AV.bx, flatLen] <;> omega
    · rw [if_neg h5] at hq
      have hw := f22p22 std a b (L.map valF) (L.map keyN) (q :: p) true (i : Int)
      simp only [s_nat, s_nth, s_nthA, s_len, s_lenA, s_sub, s_add, Int.toNat_natCast, hgx, hgk, ei, hlm, hlk, show (AV.cellAt (valF L[i]) 2).toI = fiN L[i] from rfl, show (AV.cellAt (valF L[i]) 3).toIs = dsN L[i] from rfl] at hw
      rw [hgl] at hw
      have hin := in22_go hC L a b ha i hi hL hk hxx [] [] (fiN L[i]).toNat (fun x hx => by simp at hx) (by simp) (by simp [needN]) (by first | exact hY | simp) (AV.cellAt (valF L[i]) 0).toI (AV.cellAt (valF L[i]) 1).toI (fiN L[i]) (by omega) (by simpa using hq)
      rw [show ((fiN L[i]).toNat : Int) = fiN L[i] by omega] at hin
      refine go hC BOr_ok hw ?_ hin
      clear hq hw hin
      simp [hi, h5, h6, AV.bx, flatLen] <;> omega
theorem ro_c (y : AV) (Y : List AV) (hY : (y :: Y).length ≤ 500000) (hp : okS (some [])) (hi0 : 0 < i) (hq : At22 C a b (L.map valF) (L.map keyN) ((i : Int) + 1) Q (resN (some []) (keyN L[i - 1]) L[i]) ((y :: Y) ++ pksN (some []) (keyN L[i - 1]) L[i])) : At22 C a b (L.map valF) (L.map keyN) i Q (some []) (y :: Y) := by
  have hgx : (L.map valF).getD i .top = valF L[i] := by simp [hi]
  have hgk : (L.map keyN).getD i 0 = keyN L[i] := by simp [hi]
  have hgl : (L.map keyN).getD (i - 1) 0 = keyN L[i - 1] := by simp [show i - 1 < L.length by omega]
  have hlm : (L.map valF).length = L.length := List.length_map _
  have hlk : (L.map keyN).length = L.length := List.length_map _
  have ei : ((i : Int) - 1).toNat = i - 1 := by omega
  have hk1 := hk L[i] (List.getElem_mem hi)
  have hk2 := hk (L[i - 1]'(by omega)) (List.getElem_mem _)
  have hxx := hx
  obtain ⟨hf, hl, hb⟩ := hx
  obtain ⟨q1, q2, q3⟩ := hp
  have hex : expI (dsN L[i]).length [] (dsN L[i]) = 0 := rfl
  unfold resN pksN bytN contN at hq
  dsimp only at hq
  rw [hex] at hq
  by_cases h6 : keyN L[i] = keyN L[i - 1] + 1
  · by_cases h7 : fiN L[i] = 0
    · rw [if_pos ⟨h6, h7⟩] at hq
      dsimp only at hq
      have hw := f22p37 std a b (L.map valF) (L.map keyN) (y :: Y) (i : Int) true
      simp only [s_nat, s_nth, s_nthA, s_len, s_lenA, s_sub, s_add, Int.toNat_natCast, hgx, hgk, ei, hlm, hlk, show (AV.cellAt (valF L[i]) 2).toI = fiN L[i] from rfl, show (AV.cellAt (valF L[i]) 3).toIs = dsN L[i] from rfl] at hw
      rw [hgl] at hw
      have hin := in22_go hC L a b ha i hi hL hk hxx [] (y :: Y) 0 q1 (by omega) ((need_pos _).2 q3) (by first | exact hY | simp) (AV.cellAt (valF L[i]) 0).toI (AV.cellAt (valF L[i]) 1).toI (fiN L[i]) (by omega) (by simpa using hq)
      refine go hC BOr_ok hw ?_ hin
      clear hq hw hin
      rw [h6]
      simp [hi, AV.bx, flatLen, h7]
      omega
    · rw [if_neg (fun e => h7 e.2)] at hq
      dsimp only at hq
      by_cases h5 : fiN L[i] = 255
      · rw [if_pos h5] at hq
        have hw := f22p35 std a b (L.map valF) (L.map keyN) (y :: Y) (i : Int) true
        simp only [s_nat, s_nth, s_nthA, s_len, s_lenA, s_sub, s_add, Int.toNat_natCast, hgx, hgk, ei, hlm, hlk, show (AV.cellAt (valF L[i]) 2).toI = fiN L[i] from rfl, show (AV.cellAt (valF L[i]) 3).toIs = dsN L[i] from rfl] at hw
        rw [hgl] at hw
        refine go hC BOr_ok hw ?_ (by simp at hq; exact hq)
        clear hq hw
        simp [hi, h5, h6, AV.bx, flatLen]
        first | omega | (simp [h7]; omega)
      · rw [if_neg h5] at hq
        have hw := f22p36 std a b (L.map valF) (L.map keyN) (y :: Y) (i : Int) true
        simp only [s_nat, s_nth, s_nthA, s_len, s_lenA, s_sub, s_add, Int.toNat_natCast, hgx, hgk, ei, hlm, hlk, show (AV.cellAt (valF L[i]) 2).toI = fiN L[i] from rfl, show (AV.cellAt (valF L[i]) 3).toIs = dsN L[i] from rfl] at hw
        rw [hgl] at hw
        have hin := in22_go hC L a b ha i hi hL hk hxx [] (y :: Y) (fiN L[i]).toNat (fun x hx => by simp at hx) (by simp) (by simp [needN]) (by first | exact hY | simp) (AV.cellAt (valF L[i]) 0).toI (AV.cellAt (valF L[i]) 1).toI (fiN L[i]) (by omega) (by simpa using hq)
        rw [show ((fiN L[i]).toNat : Int) = fiN L[i] by omega] at hin
        refine go hC BOr_ok hw ?_ hin
        clear hq hw hin
        simp [hi, h5, h6, h7, AV.bx, flatLen] <;> omega
  · rw [if_neg (fun e => h6 e.1)] at hq
    dsimp only at hq
    by_cases h5 : fiN L[i] = 255
    · rw [if_pos h5] at hq
      have hw := f22p33 std a b (L.map valF) (L.map keyN) (y :: Y) (i : Int) true
      simp only [s_nat, s_nth, s_nthA, s_len, s_lenA, s_sub, s_add, Int.toNat_natCast, hgx, hgk, ei, hlm, hlk, show (AV.cellAt (valF L[i]) 2).toI = fiN L[i] from rfl, show (AV.cellAt (valF L[i]) 3).toIs = dsN L[i] from rfl] at hw
      rw [hgl] at hw
      refine go hC BOr_ok hw ?_ (by simp at hq; exact hq)
      clear hq hw
      simp [hi, h5, h6, AV.bx, flatLen] <;> omega
    · rw [if_neg h5] at hq
      have hw := f22p34 std a b (L.map valF) (L.map keyN) (y :: Y) (i : Int) true
      simp only [s_nat, s_nth, s_nthA, s_len, s_lenA, s_sub, s_add, Int.toNat_natCast, hgx, hgk, ei, hlm, hlk, show (AV.cellAt (valF L[i]) 2).toI = fiN L[i] from rfl, show (AV.cellAt (valF L[i]) 3).toIs = dsN L[i] from rfl] at hw
      rw [hgl] at hw
      have hin := in22_go hC L a b ha i hi hL hk hxx [] (y :: Y) (fiN L[i]).toNat (fun x hx => by simp at hx) (by simp) (by simp [needN]) (by first | exact hY | simp) (AV.cellAt (valF L[i]) 0).toI (AV.cellAt (valF L[i]) 1).toI (fiN L[i]) (by omega) (by simpa using hq)
      rw [show ((fiN L[i]).toNat : Int) = fiN L[i] by omega] at hin
      refine go hC BOr_ok hw ?_ hin
      clear hq hw hin
      simp [hi, h5, h6, AV.bx, flatLen] <;> omega
theorem ro_d (q : Int) (p : List Int) (y : AV) (Y : List AV) (hY : (y :: Y).length ≤ 500000) (hp : okS (some (q :: p))) (hi0 : 0 < i) (hq : At22 C a b (L.map valF) (L.map keyN) ((i : Int) + 1) Q (resN (some (q :: p)) (keyN L[i - 1]) L[i]) ((y :: Y) ++ pksN (some (q :: p)) (keyN L[i - 1]) L[i])) : At22 C a b (L.map valF) (L.map keyN) i Q (some (q :: p)) (y :: Y) := by
  have hgx : (L.map valF).getD i .top = valF L[i] := by simp [hi]
  have hgk : (L.map keyN).getD i 0 = keyN L[i] := by simp [hi]
  have hgl : (L.map keyN).getD (i - 1) 0 = keyN L[i - 1] := by simp [show i - 1 < L.length by omega]
  have hlm : (L.map valF).length = L.length := List.length_map _
  have hlk : (L.map keyN).length = L.length := List.length_map _
  have ei : ((i : Int) - 1).toNat = i - 1 := by omega
  have hk1 := hk L[i] (List.getElem_mem hi)
  have hk2 := hk (L[i - 1]'(by omega)) (List.getElem_mem _)
  have hxx := hx
  obtain ⟨hf, hl, hb⟩ := hx
  obtain ⟨q1, q2, q3⟩ := hp
  have hE : exrB a (q :: p) (dsN L[i]) = true := by
    unfold exrB expB
    have := bytP_get (q1.app hb) 2
    simp only [Bool.and_eq_true, decide_eq_true_eq]
    omega
  have hex : expI (dsN L[i]).length (q :: p) (dsN L[i]) = expI a (q :: p) (dsN L[i]) := by rw [hl]
  unfold resN pksN bytN contN at hq
  dsimp only at hq
  rw [hex] at hq
  by_cases h6 : keyN L[i] = keyN L[i - 1] + 1
  · by_cases h7 : fiN L[i] = expI a (q :: p) (dsN L[i])
    · rw [if_pos ⟨h6, h7⟩] at hq
      dsimp only at hq
      have hw := f22p45 std a b (L.map valF) (L.map keyN) (y :: Y) (q :: p) true (i : Int)
      simp only [s_nat, s_nth, s_nthA, s_len, s_lenA, s_sub, s_add, Int.toNat_natCast, hgx, hgk, ei, hlm, hlk, show (AV.cellAt (valF L[i]) 2).toI = fiN L[i] from rfl, show (AV.cellAt (valF L[i]) 3).toIs = dsN L[i] from rfl] at hw
      rw [hgl] at hw
      have hin := in22_go hC L a b ha i hi hL hk hxx (q :: p) (y :: Y) 0 q1 (by omega) ((need_pos _).2 q3) (by first | exact hY | simp) (AV.cellAt (valF L[i]) 0).toI (AV.cellAt (valF L[i]) 1).toI (fiN L[i]) (by omega) (by simpa using hq)
      refine go hC BOr_ok hw ?_ hin
      clear hq hw hin
      rw [h6]
      rw [← h7, hE]
      simp [hi, AV.bx, flatLen]
      omega
    · rw [if_neg (fun e => h7 e.2)] at hq
      dsimp only at hq
      by_cases h5 : fiN L[i] = 255
      · rw [if_pos h5] at hq
        have hw := f22p43 std a b (L.map valF) (L.map keyN) (y :: Y) (q :: p) true (i : Int)
        simp only [s_nat, s_nth, s_nthA, s_len, s_lenA, s_sub, s_add, Int.toNat_natCast, hgx, hgk, ei, hlm, hlk, show (AV.cellAt (valF L[i]) 2).toI = fiN L[i] from rfl, show (AV.cellAt (valF L[i]) 3).toIs = dsN L[i] from rfl] at hw
        rw [hgl] at hw
        refine go hC BOr_ok hw ?_ (by simp at hq; exact hq)
        clear hq hw
        rw [hE]
        simp [hi, h5, h6, AV.bx, flatLen]
        rw [h5] at h7
        first | omega | (simp [h7]; omega)
      · rw [if_neg h5] at hq
        have hw := f22p44 std a b (L.map valF) (L.map keyN) (y :: Y) (q :: p) true (i : Int)
        simp only [s_nat, s_nth, s_nthA, s_len, s_lenA, s_sub, s_add, Int.toNat_natCast, hgx, hgk, ei, hlm, hlk, show (AV.cellAt (valF L[i]) 2).toI = fiN L[i] from rfl, show (AV.cellAt (valF L[i]) 3).toIs = dsN L[i] from rfl] at hw
        rw [hgl] at hw
        have hin := in22_go hC L a b ha i hi hL hk hxx [] (y :: Y) (fiN L[i]).toNat (fun x hx => by simp at hx) (by simp) (by simp [needN]) (by first | exact hY | simp) (AV.cellAt (valF L[i]) 0).toI (AV.cellAt (valF L[i]) 1).toI (fiN L[i]) (by omega) (by simpa using hq)
        rw [show ((fiN L[i]).toNat : Int) = fiN L[i] by omega] at hin
        refine go hC BOr_ok hw ?_ hin
        clear hq hw hin
        rw [hE]
        simp [hi, h5, h6, h7, AV.bx, flatLen] <;> omega
  · rw [if_neg (fun e => h6 e.1)] at hq
    dsimp only at hq
    by_cases h5 : fiN L[i] = 255
    · rw [if_pos h5] at hq
      have hw := f22p41 std a b (L.map valF) (L.map keyN) (y :: Y) (q :: p) true (i : Int)
      simp only [s_nat, s_nth, s_nthA, s_len, s_lenA, s_sub, s_add, Int.toNat_natCast, hgx, hgk, ei, hlm, hlk, show (AV.cellAt (valF L[i]) 2).toI = fiN L[i] from rfl, show (AV.cellAt (valF L[i]) 3).toIs = dsN L[i] from rfl] at hw
      rw [hgl] at hw
      refine go hC BOr_ok hw ?_ (by simp at hq; exact hq)
      clear hq hw
      simp [hi, h5, h6, AV.bx, flatLen] <;> omega
    · rw [if_neg h5] at hq
      have hw := f22p42 std a b (L.map valF) (L.map keyN) (y :: Y) (q :: p) true (i : Int)
      simp only [s_nat, s_nth, s_nthA, s_len, s_lenA, s_sub, s_add, Int.toNat_natCast, hgx, hgk, ei, hlm, hlk, show (AV.cellAt (valF L[i]) 2).toI = fiN L[i] from rfl, show (AV.cellAt (valF L[i]) 3).toIs = dsN L[i] from rfl] at hw
      rw [hgl] at hw
      have hin := in22_go hC L a b ha i hi hL hk hxx [] (y :: Y) (fiN L[i]).toNat (fun x hx => by simp at hx) (by simp) (by simp [needN]) (by first | exact hY | simp) (AV.cellAt (valF L[i]) 0).toI (AV.cellAt (valF L[i]) 1).toI (fiN L[i]) (by omega) (by simpa using hq)
      rw [show ((fiN L[i]).toNat : Int) = fiN L[i] by omega] at hin
      refine go hC BOr_ok hw ?_ hin
      clear hq hw hin
      simp [hi, h5, h6, AV.bx, flatLen] <;> omega
end
def Q22 : List AV → List AFrame → AHeap → Prop
  | [] => FinQ 22 .nils none
  | z :: Z => FinQ 22 (.row 0 0) (some ⟨57, 3, .big shP (z :: Z)⟩)
theorem main22 {C : Ctx} (hC : C.P = Try.prog) (L : List AV) (a b : Int) (ha : 4 ≤ a ∧ a ≤ 24) (hL : L.length ≤ 1000) (hx : ∀ x ∈ L, okX a x) (hk : ∀ x ∈ L, -400000 ≤ keyN x ∧ keyN x ≤ 400000) : ∀ (d i : Nat) (last : Int) (st : Option (List Int)) (X : List AV), L.length - i = d → i ≤ L.length → okS st → X.length ≤ 300 * i →
    (∀ h : i - 1 < L.length, 0 < i → last = keyN (L[i - 1]'h)) → (i = 0 → st = none) → At22 C a b (L.map valF) (L.map keyN) i (Q22 (X ++ extN st last (L.drop i))) st X := by
  intro d
  induction d with
  | zero =>
    intro i last st X hd hi hs hX hl h0
    rw [List.drop_of_length_le (by omega), extN, List.append_nil]
    have hlm : (L.map valF).length = L.length := List.length_map _
    match st, X with
    | none, [] => exact fin hC BOr_ok (f22p8 std a b (L.map valF) (L.map keyN) i false) (by simp; omega) rfl rfl
    | some [], [] => exact fin hC BOr_ok (f22p8 std a b (L.map valF) (L.map keyN) i true) (by simp; omega) rfl rfl
    | some (q :: p), [] => exact fin hC BOr_ok (f22p28 std a b (L.map valF) (L.map keyN) (q :: p) true i) (by simp; omega) rfl rfl
    | none, y :: Y => exact fin hC BOr_ok (f22p40 std a b (L.map valF) (L.map keyN) (y :: Y) i false) (by simp; omega) rfl rfl
    | some [], y :: Y => exact fin hC BOr_ok (f22p40 std a b (L.map valF) (L.map keyN) (y :: Y) i true) (by simp; omega) rfl rfl
    | some (q :: p), y :: Y => exact fin hC BOr_ok (f22p48 std a b (L.map valF) (L.map keyN) (y :: Y) (q :: p) true i) (by simp; omega) rfl rfl
  | succ d ih =>
    intro i last st X hd hi hs hX hl h0
    have hlt : i < L.length := by omega
    have hxi := hx L[i] (List.getElem_mem hlt)
    rw [List.drop_eq_getElem_cons hlt, extN, ← List.append_assoc]
    have hq := ih (i + 1) (keyN L[i]) (resN st last L[i]) (X ++ pksN st last L[i]) (by omega) (by omega) (resN_ok hs hxi ha) (by
      have := (pksN_len (last := last) hs hxi ha).1
      rw [List.length_append]; omega) (fun h _ => rfl) (fun h => by omega)
    rw [show (((i + 1 : Nat) : Nat) : Int) = (i : Int) + 1 by omega] at hq
    match st, X, hs, hX, hq, h0 with
    | none, [], hs, hX, hq, _ => exact rt_a hC L a b ha i hlt hL hk hxi last hq
    | none, y :: Y, hs, hX, hq, _ => exact rt_c hC L a b ha i hlt hL hk hxi last y Y (by omega) hq
    | some p, X, hs, hX, hq, h0 =>
      have hi0 : 0 < i := by
        rcases Nat.eq_zero_or_pos i with h | h
        · cases h0 h
        · exact h
      have hll := hl (by omega) hi0
      rw [hll] at hq ⊢
      match p, X, hs, hX, hq with
      | [], [], hs, hX, hq => exact ro_a hC L a b ha i hlt hL hk hxi hs hi0 hq
      | q :: p, [], hs, hX, hq => exact ro_b hC L a b ha i hlt hL hk hxi q p hs hi0 hq
      | [], y :: Y, hs, hX, hq => exact ro_c hC L a b ha i hlt hL hk hxi y Y (by omega) hs hi0 hq
      | q :: p, y :: Y, hs, hX, hq => exact ro_d hC L a b ha i hlt hL hk hxi q p y Y (by omega) hs hi0 hq
theorem ext22 (a b c : Int) (fs : List AV) (h0 : openE a b c fs = 0) : Pure Try.prog 22 [.agg (.gen [.int .i64 a, .int .i64 b]), .int .i64 c, .list (.big shFr fs)] (.list (.big shP (extN none 0 (ordL c fs)))) none := by
  have hnm := open_nm h0
  obtain ⟨ha, hfr⟩ := open_fr h0
  have hlen := ordL_len c fs
  have h40 := (open_ok h0).2.2.1
  have key : ∀ C : Ctx, C.P = Try.prog → Ev C (f22e a b c fs) [] (Q22 (extN none 0 (ordL c fs))) := fun C hC => by
    have hw := f22p0 std a b c fs
    rw [refN0_ord] at hw
    refine go hC BOr_ok hw (by simp [hnm]) ?_
    have := main22 hC (ordL c fs) a b ha (by omega) (okX_of hfr) (ordL_rng hnm) _ 0 0 none [] rfl (Nat.zero_le _) trivial (by simp) (fun _ h => by omega) (fun _ => rfl)
    simp at this
    exact this
  cases hz : extN none 0 (ordL c fs) with
  | nil =>
    rw [hz] at key
    exact frz2_nil (start (f22e_at a b c fs) key) rfl
  | cons y Y =>
    rw [hz] at key
    exact frz2_row (e := 57) (sz := 2) (start (f22e_at a b c fs) key) rfl
end Go.Proofs.Ytjhdnpmojhkbjaa
/- Contracts as a list. No condition. -/
namespace Go.Proofs.Ytjhdnpmojhkbjaa
def exR (c : Int) (fs : List AV) : List AV := extN none 0 (ordL c fs)
theorem exR_eq (c : Int) (fs : List AV) : exR c fs = extN none 0 (ordL c fs) := rfl
attribute [irreducible] exR
def k22 : Ctr := ⟨22, 0, fun _ a => match a with | [.agg (.gen [.int .i64 a, .int .i64 b]), .int .i64 c, .list (.big (.agg [.int .i64, .int .i64, .int .i64, .ints .i64]) fs)] => some (decide (openE a b c fs = 0), .list (.big shP (exR c fs)), none) | _ => none⟩
theorem k22_ok : k22.OK Try.prog := fun pa args r fr h => by
  simp only [k22] at h
  split at h
  · simp only [Option.some.injEq, Prod.mk.injEq, decide_eq_true_eq] at h
    obtain ⟨h0, rfl, rfl⟩ := h
    exact (by rw [exR_eq]; exact ext22 _ _ _ _ h0)
  · cases h
def BOs : List Ctr := [k22] ++ BOq
theorem BOs_ok : CtrsOK Try.prog BOs := ⟨k22_ok, BOq_ok⟩
end Go.Proofs.Ytjhdnpmojhkbjaa
/- Paths of functions, printed by the explorer (Gx). No condition. -/
namespace Go.Proofs.Ytjhdnpmojhkbjaa
set_option maxRecDepth 100000
set_option linter.unusedVariables false
def f3e (a : Int) (b : Int) (c : Int) (fs : List AV) : List AFrame := [{ fn := 3, N := 55, env := [(0, AV.agg (Row.gen [AV.int .i64 a, AV.int .i64 b])), (1, AV.int .i64 c), (2, AV.list (Row.big (Sh.agg [Sh.int .i64, Sh.int .i64, Sh.int .i64, Sh.ints .i64]) fs))], todo := [.code a3.code], defs := [], rnd := none, ret := false, res := [ARes.tmp 6] }]
theorem f3e_at (a : Int) (b : Int) (c : Int) (fs : List AV) : enterA tab 3 [AV.agg (Row.gen [AV.int .i64 a, AV.int .i64 b]), AV.int .i64 c, AV.list (Row.big (Sh.agg [Sh.int .i64, Sh.int .i64, Sh.int .i64, Sh.ints .i64]) fs)] = some { fn := 3, N := 55, env := [(0, AV.agg (Row.gen [AV.int .i64 a, AV.int .i64 b])), (1, AV.int .i64 c), (2, AV.list (Row.big (Sh.agg [Sh.int .i64, Sh.int .i64, Sh.int .i64, Sh.ints .i64]) fs))], todo := [.code a3.code], defs := [], rnd := none, ret := false, res := [ARes.tmp 6] } := rfl
theorem f3p0 (A : Ar) (a : Int) (b : Int) (c : Int) (fs : List AV) : gfin A tab BOs 26 [false, true] 3 (f3e a b c fs) [] =
  some ([A.and true (A.and true true), true, A.not (fewF fs), true, A.and true true, true, !A.not true, true, A.and true true, true, A.and true (A.ltN 0 2)],
   AV.bool true, none) := by kernel_rfl
theorem f3p1 (A : Ar) (a : Int) (b : Int) (c : Int) (fs : List AV) : gfin A tab BOs 78 [false, false, true, true, true, true, true, true, true] 3 (f3e a b c fs) [] =
  some ([A.and true (A.and true true), true, true, true, true, true, true, true, true, A.eq (openE a b c fs) (refE a b fs), true, true, true, true, A.not (A.eq (refE a b fs) 0), true, true, true, A.and true (decide (f20B a b fs = true)), true, A.and (A.ltN 0 1) (A.leN (A.addN 0 2) 2), A.eq (chanE b c) 0, true, true, true, A.and true (decide (-1000000 ≤ b ∧ b ≤ 1000000)), true, A.and (A.ltN 0 1) (A.leN (A.addN 0 2) 2), A.eq (rulesE a b) 0, true, true, true, A.and true true, A.and (A.ltN 0 1) (A.leN (A.addN 0 2) 2), true, true, true, true, true, A.and true (decide (smallF fs = true)), A.and true (decide (smallF fs = true)), true, true, A.and (A.ltN 0 1) (A.leN (A.addN 0 2) 2), !A.not (fewF fs), true, A.and true true, true, !A.not true, true, A.and true true, true, A.and true (A.ltN 0 2)],
   AV.bool (A.eq (A.int (A.lenA (exO a b c fs))) 0), none) := by kernel_rfl
theorem f3p2 (A : Ar) (a : Int) (b : Int) (c : Int) (fs : List AV) : gfin A tab BOs 81 [false, false, true, true, false, true, true, true, true, true, true, true] 3 (f3e a b c fs) [] =
  some ([A.and true (A.and true true), true, true, true, A.and true (decide (lenP (exO a b c fs) = true)), true, A.and true (decide (openE a b c fs = 0)), true, true, true, true, true, A.and (A.ltN 0 1) (A.leN (A.addN 0 2) 2), true, true, A.eq (openE a b c fs) 0, true, true, true, !A.not (A.eq (refE a b fs) 0), true, true, true, A.and true (decide (f20B a b fs = true)), true, A.and (A.ltN 0 1) (A.leN (A.addN 0 2) 2), A.eq (chanE b c) 0, true, true, true, A.and true (decide (-1000000 ≤ b ∧ b ≤ 1000000)), true, A.and (A.ltN 0 1) (A.leN (A.addN 0 2) 2), A.eq (rulesE a b) 0, true, true, true, A.and true true, A.and (A.ltN 0 1) (A.leN (A.addN 0 2) 2), true, true, true, true, true, A.and true (decide (smallF fs = true)), A.and true (decide (smallF fs = true)), true, true, A.and (A.ltN 0 1) (A.leN (A.addN 0 2) 2), !A.not (fewF fs), true, A.and true true, true, !A.not true, true, A.and true true, true, A.and true (A.ltN 0 2)],
   AV.bool (decide (List.map pkT (exO a b c fs) = List.map pkT (exR c fs))), none) := by kernel_rfl
theorem f3p3 (A : Ar) (a : Int) (b : Int) (c : Int) (fs : List AV) : gfin A tab BOs 73 [false, false, true, false, true, true, true, true, true] 3 (f3e a b c fs) [] =
  some ([A.and true (A.and true true), true, true, true, true, true, true, true, true, A.eq (openE a b c fs) (chanE b c), true, true, true, true, A.not (A.eq (chanE b c) 0), true, true, !A.eq (chanE b c) 0, true, true, true, A.and true (decide (-1000000 ≤ b ∧ b ≤ 1000000)), true, A.and (A.ltN 0 1) (A.leN (A.addN 0 2) 2), A.eq (rulesE a b) 0, true, true, true, A.and true true, A.and (A.ltN 0 1) (A.leN (A.addN 0 2) 2), true, true, true, true, true, A.and true (decide (smallF fs = true)), A.and true (decide (smallF fs = true)), true, true, A.and (A.ltN 0 1) (A.leN (A.addN 0 2) 2), !A.not (fewF fs), true, A.and true true, true, !A.not true, true, A.and true true, true, A.and true (A.ltN 0 2)],
   AV.bool (A.eq (A.int (A.lenA (exO a b c fs))) 0), none) := by kernel_rfl
theorem f3p4 (A : Ar) (a : Int) (b : Int) (c : Int) (fs : List AV) : gfin A tab BOs 68 [false, false, false, false, true, true, true, true, true] 3 (f3e a b c fs) [] =
  some ([A.and true (A.and true true), true, true, true, true, true, true, true, true, A.eq (openE a b c fs) (rulesE a b), true, true, true, true, A.not (A.eq (rulesE a b) 0), true, true, !A.eq (rulesE a b) 0, true, true, !A.eq (rulesE a b) 0, true, true, true, A.and true true, A.and (A.ltN 0 1) (A.leN (A.addN 0 2) 2), true, true, true, true, true, A.and true (decide (smallF fs = true)), A.and true (decide (smallF fs = true)), true, true, A.and (A.ltN 0 1) (A.leN (A.addN 0 2) 2), !A.not (fewF fs), true, A.and true true, true, !A.not true, true, A.and true true, true, A.and true (A.ltN 0 2)],
   AV.bool (A.eq (A.int (A.lenA (exO a b c fs))) 0), none) := by kernel_rfl
end Go.Proofs.Ytjhdnpmojhkbjaa
/- FrameExtracts: the law returns true. No condition. -/
namespace Go.Proofs.Ytjhdnpmojhkbjaa
set_option maxRecDepth 20000
theorem extN_len {a : Int} (ha : 4 ≤ a ∧ a ≤ 24) : ∀ (L : List AV) (st : Option (List Int)) (last : Int), okS st → (∀ x ∈ L, okX a x) → (extN st last L).length ≤ 290 * L.length ∧ ∀ y ∈ extN st last L, (pkT y).2.2.length ≤ 255
  | [], _, _, _, _ => ⟨by simp [extN], by simp [extN]⟩
  | x :: L, st, last, hs, hx => by
    have hxi := hx x (by simp)
    obtain ⟨h1, h2⟩ := pksN_len (last := last) hs hxi ha
    obtain ⟨h3, h4⟩ := extN_len ha L (resN st last x) (keyN x) (resN_ok hs hxi ha) (fun y hy => hx y (by simp [hy]))
    unfold extN
    refine ⟨by rw [List.length_append, List.length_cons]; omega, fun y hy => ?_⟩
    rcases List.mem_append.1 hy with hy | hy
    · exact h2 y hy
    · exact h4 y hy
theorem exO_lenP {a b c : Int} {fs : List AV} (h0 : openE a b c fs = 0) : lenP (exO a b c fs) = true := by
  obtain ⟨ha, hfr⟩ := open_fr h0
  have hlen := ordL_len c fs
  have h40 := (open_ok h0).2.2.1
  obtain ⟨h1, h2⟩ := extN_len ha (ordL c fs) none 0 trivial (okX_of hfr)
  unfold lenP
  rw [exO_eq, if_pos h0, Bool.and_eq_true, decide_eq_true_eq, List.all_eq_true]
  exact ⟨by omega, fun y hy => decide_eq_true (by have := h2 y hy; omega)⟩
theorem extracts_ok (a b c : Int) (fs : List AV) : Pure Try.prog 3 [.agg (.gen [.int .i64 a, .int .i64 b]), .int .i64 c, .list (.big shFr fs)] (.bool true) none :=
  start (f3e_at a b c fs) fun C hC => by
    by_cases hf : fewF fs = true
    · have hs := few_small hf
      have hlen := (small_of hs).1
      have errs : ∀ x, openE a b c fs = x → x ≠ 0 → exO a b c fs = [] := fun x hx h0 => by rw [exO_eq, hx, if_neg h0]
      by_cases h1 : rulesE a b = 0
      · obtain ⟨q1, q2, q3, q4⟩ := rules_ok2 h1
        have ho := open_eq (c := c) fs h1
        have hb : -1000000 ≤ b ∧ b ≤ 1000000 := by omega
        have hfB : f20B a b fs = true := by
          unfold f20B medR
          simp only [Bool.and_eq_true, decide_eq_true_eq]
          omega
        by_cases h2 : chanE b c = 0
        · rw [if_pos h2] at ho
          by_cases h3 : refE a b fs = 0
          · rw [h3] at ho
            have e1 : exO a b c fs = exR c fs := by rw [exO_eq, if_pos ho, exR_eq]
            refine fin hC BOs_ok (f3p2 std a b c fs) ?_ (by rw [e1]; simp) rfl
            rw [exO_lenP ho, ho, hfB, hs, hf, h1, h2, h3]
            simp [hb]
          · have e1 := errs _ ho h3
            refine fin hC BOs_ok (f3p1 std a b c fs) ?_ (by rw [e1]; rfl) rfl
            rw [ho, hfB, hs, hf, h1, h2]
            simp [h3, hb]
        · rw [if_neg h2] at ho
          have e1 := errs _ ho h2
          refine fin hC BOs_ok (f3p3 std a b c fs) ?_ (by rw [e1]; rfl) rfl
          rw [ho, hs, hf, h1]
          simp [h2, hb]
      · have ho := open_bad (c := c) fs h1
        have e1 := errs _ ho h1
        refine fin hC BOs_ok (f3p4 std a b c fs) ?_ (by rw [e1]; rfl) rfl
        rw [ho, hs, hf]
        simp [h1]
    · exact fin hC BOs_ok (f3p0 std a b c fs) (by simpa using hf) rfl rfl
end Go.Proofs.Ytjhdnpmojhkbjaa
