/- Contracts as a list. No condition. -/
import Derived.Test.YtjhdnpmojhkbjaaPK
namespace Go.Proofs.Ytjhdnpmojhkbjaa
/-! ### Packets that fill the last field -/
def sizeP : List AV → Nat
  | [] => 0
  | p :: ps => (3 + (kD p).length) + sizeP ps
def idleP (k : Int) : AV := .agg (.gen [.int .i64 255, .int .i64 0, .list (.ints .i64 (List.replicate k.toNat 0))])
def filP (n : Int) (ps : List AV) : List AV :=
  if (sizeP ps : Int).tmod n = 0 then ps
  else if n - (sizeP ps : Int).tmod n < 3 then ps ++ [idleP (n - (sizeP ps : Int).tmod n + n - 3)]
  else ps ++ [idleP (n - (sizeP ps : Int).tmod n - 3)]
theorem sizeP_le : ∀ {ps : List AV}, (∀ p ∈ ps, (kD p).length ≤ 42) → sizeP ps ≤ 45 * ps.length
  | [], _ => by simp [sizeP]
  | p :: ps, h => by
    have := sizeP_le (ps := ps) (fun q hq => h q (by simp [hq]))
    have := h p (by simp)
    simp only [sizeP, List.length_cons]
    omega
theorem l98 {C : Ctx} (hC : C.P = Try.prog) (n c : Int) (ps : List AV) (hlen : ps.length ≤ 22) (hk : ∀ p ∈ ps, (kD p).length ≤ 42) (Q : AV) (fr : Option Fresh) (hend : Ev C (f98h98_0a n c ps ps.length (sizeP ps) ps.length) (f98h98_0am n c ps ps.length (sizeP ps) ps.length) (FinQ 98 Q fr)) : ∀ (d i s : Nat), i + d = ps.length → s + sizeP (ps.drop i) = sizeP ps →
    Ev C (f98h98_0a n c ps ps.length s i) (f98h98_0am n c ps ps.length s i) (FinQ 98 Q fr) := by
  have hsz := sizeP_le hk
  intro d
  induction d with
  | zero =>
    intro i s hd hs
    rw [List.drop_of_length_le (by omega), sizeP] at hs
    have h1 : i = ps.length := by omega
    have h2 : s = sizeP ps := by omega
    rw [h1, h2]; exact hend
  | succ d ih =>
    intro i s hd hs
    have hlt : i < ps.length := by omega
    have e1 : std.nthA ps (std.nat (i : Int)) = ps[i] := by simp [hlt]
    have g2 : (ps[i].cellAt 2).toIs = kD ps[i] := rfl
    have hk' := hk ps[i] (by simp)
    rw [List.drop_eq_getElem_cons hlt, sizeP] at hs
    have ih' := ih (i + 1) (s + (3 + (kD ps[i]).length)) (by omega) (by omega)
    refine go hC BD3_ok (f98p1 std n c ps ps.length s i) ?_ ?_
    · simp only [e1, g2]; simp [hlt]; omega
    · simp only [e1, g2]; simpa using ih'
theorem fill98_ok (n c : Int) (ps : List AV) (h : (3 < n ∧ n ≤ 1000) ∧ fewB ps = true) : Pure Try.prog 98 [.agg (.gen [.int .i64 n, .int .i64 c]), .list (.big (.agg [.int .i64, .int .i64, .ints .i64]) ps)] (.list (.big (.agg [.int .i64, .int .i64, .ints .i64]) (filP n ps))) none := by
  obtain ⟨⟨hn0, hn⟩, hf⟩ := h
  obtain ⟨hlen, hk⟩ := few_ok hf
  have hsz := sizeP_le hk
  have hr0 := Int.tmod_nonneg n (show 0 ≤ (sizeP ps : Int) by omega)
  have hr1 := Int.tmod_lt_of_pos (sizeP ps : Int) (show 0 < n by omega)
  have main : ∀ (Q : AV) (fr : Option Fresh), (∀ C : Ctx, C.P = Try.prog → Ev C (f98h98_0a n c ps ps.length (sizeP ps) ps.length) (f98h98_0am n c ps ps.length (sizeP ps) ps.length) (FinQ 98 Q fr)) → Pure Try.prog 98 [.agg (.gen [.int .i64 n, .int .i64 c]), .list (.big (.agg [.int .i64, .int .i64, .ints .i64]) ps)] Q fr := fun Q fr hQ =>
    start (f98e_at n c ps) fun C hC => go hC BD3_ok (f98p0 std n c ps) (by simp) (l98 hC n c ps hlen hk Q fr (hQ C hC) ps.length 0 0 (by omega) (by simp))
  have hn1 : n ≠ 0 := by omega
  unfold filP
  generalize hR : (sizeP ps : Int).tmod n = R at *
  by_cases h0 : R = 0
  · rw [if_pos h0]
    exact main _ _ fun C hC => fin hC BD3_ok (f98p2 std n c ps _ _ _) (by simp [hR, h0, hn1]; try omega) rfl rfl
  · rw [if_neg h0]
    have hpos : 0 < ps.length := by
      cases ps with
      | nil => exact absurd (by rw [← hR]; simp [sizeP]) h0
      | cons => simp
    by_cases h3 : n - R < 3
    · rw [if_pos h3]
      exact frzD_row (e := 57) (sz := 2) (main _ _ fun C hC => fin hC BD3_ok (f98p3 std n c ps _ _ _) (by simp [hR, h0, hn1, AV.bx, flatLen, Row.len]; omega) rfl (by simp [hR, idleP])) rfl
    · rw [if_neg h3]
      exact frzD_row (e := 57) (sz := 2) (main _ _ fun C hC => fin hC BD3_ok (f98p4 std n c ps _ _ _) (by simp [hR, h0, hn1, AV.bx, flatLen, Row.len]; omega) rfl (by simp [hR, idleP])) rfl
def k98 : Ctr := ⟨98, 0, fun _ a => match a with | [.agg (.gen [.int .i64 n, .int .i64 c]), .list (.big (.agg [.int .i64, .int .i64, .ints .i64]) ps)] => some (decide ((3 < n ∧ n ≤ 1000) ∧ fewB ps = true), .list (.big (.agg [.int .i64, .int .i64, .ints .i64]) (filP n ps)), none) | _ => none⟩
theorem k98_ok : k98.OK Try.prog := fun pa args r fr h => by
  simp only [k98] at h
  split at h
  · simp only [Option.some.injEq, Prod.mk.injEq, decide_eq_true_eq] at h
    obtain ⟨h0, rfl, rfl⟩ := h
    exact fill98_ok _ _ _ h0
  · cases h
def BD4 : List Ctr := [k98] ++ BD3
theorem BD4_ok : CtrsOK Try.prog BD4 := ⟨k98_ok, BD3_ok⟩
end Go.Proofs.Ytjhdnpmojhkbjaa
