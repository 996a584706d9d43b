/- Contracts as a list. No condition. -/
import Derived.Test.YtjhdnpmojhkbjaaPI
namespace Go.Proofs.Ytjhdnpmojhkbjaa
/-- a row that comes back, read as a list -/
theorem frzD_row {f : FuncId} {args : List AV} {e sz : Nat} {r : Row} (h : Pure Try.prog f args (.row 0 0) (some ⟨e, sz + 1, r⟩)) (hp : r.pure = true) : Pure Try.prog f args (.list r) none := by
  intro w okA L vs hargs hok
  refine (h w okA L vs hargs hok).mono ?_
  rintro e' w' ⟨x, L', rfl, hb, hpo⟩
  obtain ⟨H, hr⟩ : HRel ⟨Try.prog, w, okA, []⟩ (frHeap (some ⟨e, sz + 1, r⟩)) L' w' ∧ RelC ⟨Try.prog, w, okA, []⟩ (frHeap (some ⟨e, sz + 1, r⟩)) L' w' (.row 0 0) x := hpo
  refine ⟨x, L', rfl, hb, ?_⟩
  show HRel _ (frHeap none) L' w' ∧ RelC _ (frHeap none) L' w' (.list r) x
  refine ⟨H.nil, ?_⟩
  have hbk : blk (frHeap (some ⟨e, sz + 1, r⟩)) 0 0 = .row e (sz + 1) r := rfl
  obtain ⟨ht, h0, h1, h2, h3, cur, h4, h5, h6, h7, h8⟩ := H.rowAt hbk
  have hl := H.live 0 0 (by rw [ht]; simp)
  cases hr with
  | row _ _ g o n c hn hlv =>
    obtain ⟨rfl, rfl, rfl, rfl⟩ := hlv.2 _ ht
    have hpa := pureL_flatAll hp
    exact .list r _ rfl ⟨L'.loc 0 0, 0, none⟩ _ _ (sz + 1) _ hl.2 (.inr ⟨hl.1, fun a i ht => absurd rfl ht⟩) rfl hn h3 h6.1.symm h7 (fun j v hj => h8 j v hj) hpa
      (fun j u v hu hv => ((h6.2 j u v hu hv).okmono (fun g _ ho => okOf_nil ho)).pure (AV.pureL_mem hpa hu))
/-! ### Lists of packets -/
def pksE : List AV → Int
  | [] => 0
  | p :: ps => if pkE (kI p) (kC p) (kD p) = 0 then pksE ps else pkE (kI p) (kC p) (kD p)
theorem fewK_mem : ∀ {ps : List AV}, fewK ps = true → ∀ p ∈ ps, (kD p).length ≤ 42
  | [], _, p, hp => absurd hp List.not_mem_nil
  | q :: ps, h, p, hp => by
    rw [fewK, Bool.and_eq_true, decide_eq_true_eq] at h
    rcases List.mem_cons.1 hp with rfl | hp
    · exact h.1
    · exact fewK_mem h.2 p hp
theorem few_ok {ps : List AV} (h : fewB ps = true) : ps.length ≤ 22 ∧ ∀ p ∈ ps, (kD p).length ≤ 42 := by
  rw [fewB, Bool.and_eq_true, decide_eq_true_eq] at h
  exact ⟨h.1, fewK_mem h.2⟩
theorem l129 {C : Ctx} (hC : C.P = Try.prog) (ps : List AV) (hlen : ps.length ≤ 22) (hk : ∀ p ∈ ps, (kD p).length ≤ 42) : ∀ (d i : Nat), ps.length - i = d → i ≤ ps.length →
    Ev C (f129h129_0a ps ps.length i) (f129h129_0am ps ps.length i) (FinQ 129 (.int .i64 (pksE (ps.drop i))) none) := by
  intro d
  induction d with
  | zero =>
    intro i hd hi
    exact fin hC BD1_ok (f129p3 std ps ps.length i) (by simp; omega) (by rw [List.drop_of_length_le (by omega)]; rfl) rfl
  | succ d ih =>
    intro i hd hi
    have hlt : i < ps.length := by omega
    have e1 : std.nthA ps (std.nat (i : Int)) = ps[i] := by simp [hlt]
    have g0 : (ps[i].cellAt 0).toI = kI ps[i] := rfl
    have g1 : (ps[i].cellAt 1).toI = kC ps[i] := rfl
    have g2 : (ps[i].cellAt 2).toIs = kD ps[i] := rfl
    have hb := hk ps[i] (by simp)
    have hb' : (kD ps[i]).length ≤ 1000000 := by omega
    rw [List.drop_eq_getElem_cons hlt, pksE]
    by_cases h : pkE (kI ps[i]) (kC ps[i]) (kD ps[i]) = 0
    · rw [if_pos h]
      exact go hC BD1_ok (f129p2 std ps ps.length i) (by simp only [e1, g0, g1, g2, h]; simp [hlt, hb']; omega) (ih (i + 1) (by omega) (by omega))
    · rw [if_neg h]
      exact fin hC BD1_ok (f129p1 std ps ps.length i) (by simp only [e1, g0, g1, g2]; simp [hlt, hb', h]) (by simp only [e1, g0, g1, g2]) rfl
theorem each129_ok (ps : List AV) (h : fewB ps = true) : Pure Try.prog 129 [.list (.big (.agg [.int .i64, .int .i64, .ints .i64]) ps), .fn 30 []] (.int .i64 (pksE ps)) none :=
  start (f129e_at ps) fun C hC => go hC BD1_ok (f129p0 std ps) (by simp) (l129 hC ps (few_ok h).1 (few_ok h).2 ps.length 0 (by omega) (by omega))
theorem l36 {C : Ctx} (hC : C.P = Try.prog) (ps : List AV) (hlen : ps.length ≤ 22) (hk : ∀ p ∈ ps, (kD p).length ≤ 42) : ∀ (d i : Nat), ps.length - i = d → i ≤ ps.length →
    Ev C (f36h36_0a ps i) (f36h36_0am ps i) (FinQ 36 (.int .i64 (pksE (ps.drop i))) none) := by
  intro d
  induction d with
  | zero =>
    intro i hd hi
    exact fin hC BD1_ok (f36p4 std ps i) (by simp; omega) (by rw [List.drop_of_length_le (by omega)]; rfl) rfl
  | succ d ih =>
    intro i hd hi
    have hlt : i < ps.length := by omega
    have e1 : std.nthA ps (std.nat (i : Int)) = ps[i] := by simp [hlt]
    have g0 : (ps[i].cellAt 0).toI = kI ps[i] := rfl
    have g1 : (ps[i].cellAt 1).toI = kC ps[i] := rfl
    have g2 : (ps[i].cellAt 2).toIs = kD ps[i] := rfl
    have hb := hk ps[i] (by simp)
    have hb' : (kD ps[i]).length ≤ 1000000 := by omega
    rw [List.drop_eq_getElem_cons hlt, pksE]
    by_cases h : pkE (kI ps[i]) (kC ps[i]) (kD ps[i]) = 0
    · rw [if_pos h]
      exact go hC BD1_ok (f36p3 std ps i) (by simp only [e1, g0, g1, g2, h]; simp [hlt, hb']; omega) (ih (i + 1) (by omega) (by omega))
    · rw [if_neg h]
      exact fin hC BD1_ok (f36p2 std ps i) (by simp only [e1, g0, g1, g2]; simp [hlt, hb', h]) (by simp only [e1, g0, g1, g2]) rfl
def packE (ps : List AV) : Int := if 20 < ps.length then 8 else pksE ps
theorem errs36_ok (ps : List AV) (h : fewB ps = true) : Pure Try.prog 36 [.list (.big (.agg [.int .i64, .int .i64, .ints .i64]) ps)] (.int .i64 (packE ps)) none :=
  start (f36e_at ps) fun C hC => by
    unfold packE
    by_cases h2 : 20 < ps.length
    · rw [if_pos h2]; exact fin hC BD1_ok (f36p0 std ps) (by simp; omega) rfl rfl
    · rw [if_neg h2]; exact go hC BD1_ok (f36p1 std ps) (by simp; omega) (l36 hC ps (few_ok h).1 (few_ok h).2 ps.length 0 (by omega) (by omega))
def pkV (p : AV) : AV := .agg (.gen [.int .i64 (kI p), .int .i64 (kC p), .list (.ints .i64 (kD p))])
theorem l34 {C : Ctx} (hC : C.P = Try.prog) (ps : List AV) (hlen : ps.length ≤ 22) (hk : ∀ p ∈ ps, (kD p).length ≤ 42) : ∀ (d i : Nat), ps.length - i = d → i ≤ ps.length →
    Ev C (f34h34_0b ps i ((ps.take i).map pkV)) (f34h34_0bm ps i ((ps.take i).map pkV)) (FinQ 34 (.row 0 0) (some ⟨57, 3, .big (.agg [.int .i64, .int .i64, .ints .i64]) (ps.map pkV)⟩)) := by
  intro d
  induction d with
  | zero =>
    intro i hd hi
    have ht : ps.take i = ps := List.take_of_length_le (by omega)
    rw [ht]
    exact fin hC BD1_ok (f34p4 std ps i (ps.map pkV)) (by simp; omega) rfl rfl
  | succ d ih =>
    intro i hd hi
    have hlt : i < ps.length := by omega
    have e1 : std.nthA ps (std.nat (i : Int)) = ps[i] := by simp [hlt]
    have g0 : (ps[i].cellAt 0).toI = kI ps[i] := rfl
    have g1 : (ps[i].cellAt 1).toI = kC ps[i] := rfl
    have g2 : (ps[i].cellAt 2).toIs = kD ps[i] := rfl
    have hb := hk ps[i] (by simp)
    have hb' : (kD ps[i]).length ≤ 4294967296 := by omega
    have ih' := ih (i + 1) (by omega) (by omega)
    rw [List.take_succ_eq_append_getElem hlt, List.map_append, List.map_singleton] at ih'
    have hlen2 : ((ps.take i).map pkV).length = i := by simp; omega
    have e5 : std.add (i : Int) 1 = ((i + 1 : Nat) : Int) := by simp
    generalize (ps.take i).map pkV = X at *
    refine go hC BD1_ok (f34p3 std ps i X) ?_ ?_
    · simp only [e1, g0, g1, g2]; simp [hlt, hb', hlen2, AV.bx, flatLen, Row.len]; omega
    · simp only [e1, g0, g1, g2, e5]; exact ih'
theorem pk_pure (xs : List AV) : (Row.big (.agg [.int .i64, .int .i64, .ints .i64]) xs).pure = true := rfl
theorem cpks34_ok (ps : List AV) (h : fewB ps = true) : Pure Try.prog 34 [.list (.big (.agg [.int .i64, .int .i64, .ints .i64]) ps)] (.list (.big (.agg [.int .i64, .int .i64, .ints .i64]) ps)) none := by
  obtain ⟨hl, hk⟩ := few_ok h
  cases ps with
  | nil => exact wk2 (start (f34e_at []) fun C hC => go hC BD1_ok (f34p0 std []) (by simp) (fin hC BD1_ok (f34p2 std []) (by simp) rfl rfl)) (.one (.nil _ rfl))
  | cons p qs =>
    have key := frzD_row (e := 57) (sz := 2) (f := 34) (args := [.list (.big (.agg [.int .i64, .int .i64, .ints .i64]) (p :: qs))]) (r := .big (.agg [.int .i64, .int .i64, .ints .i64]) ((p :: qs).map pkV))
      (start (f34e_at (p :: qs)) fun C hC => by
        refine go hC BD1_ok (f34p0 std (p :: qs)) (by simp) ?_
        have hb := hk p (by simp)
        have g0 : (p.cellAt 0).toI = kI p := rfl
        have g1 : (p.cellAt 1).toI = kC p := rfl
        have g2 : (p.cellAt 2).toIs = kD p := rfl
        have e1 : std.nthA (p :: qs) (std.nat 0) = p := by simp
        refine go hC BD1_ok (f34p1 std (p :: qs)) ?_ ?_
        · simp only [e1, g0, g1, g2]; simp [AV.bx, flatLen, Row.len]; omega
        · have := l34 hC (p :: qs) hl hk qs.length 1 (by simp) (by simp)
          simp only [e1, g0, g1, g2]
          simpa [pkV] using this) (pk_pure _)
    exact pure_same key (by simp [Row.elems, pkV, kI, kC, kD, Sh.view, viewL, Sh.view1, AV.cellAt, AV.toI, AV.toIs])
/-! ### The stream of packets -/
def pkB (p : AV) : List Int := kI p :: kC p :: ((kD p).length : Int) :: kD p
def bytesP : List AV → List Int
  | [] => []
  | p :: ps => pkB p ++ bytesP ps
def startsP : Nat → List AV → List Int
  | _, [] => []
  | n, p :: ps => (n : Int) :: startsP (n + (pkB p).length) ps
def lenK : List AV → Bool
  | [] => true
  | p :: ps => decide ((kD p).length ≤ 1000) && lenK ps
def strG (ps : List AV) : Bool := decide (ps.length ≤ 1000) && lenK ps
theorem lenK_mem : ∀ {ps : List AV}, lenK ps = true → ∀ p ∈ ps, (kD p).length ≤ 1000
  | [], _, p, hp => absurd hp List.not_mem_nil
  | q :: ps, h, p, hp => by
    rw [lenK, Bool.and_eq_true, decide_eq_true_eq] at h
    rcases List.mem_cons.1 hp with rfl | hp
    · exact h.1
    · exact lenK_mem h.2 p hp
theorem l97 {C : Ctx} (hC : C.P = Try.prog) (ps : List AV) (hlen : ps.length ≤ 1000) (hk : ∀ p ∈ ps, (kD p).length ≤ 1000) (B S : List Int) : ∀ (d i : Nat) (b s : List Int), i + d = ps.length → b.length ≤ 1003 * i → s.length ≤ i → b ++ bytesP (ps.drop i) = B → s ++ startsP b.length (ps.drop i) = S →
    Ev C (f97h97_0b ps ps.length i s b) (f97h97_0bm ps ps.length i s b) (FinQ 97 (.tup [.list (.ints .i64 B), .list (.ints .i64 S)]) none) := by
  intro d
  induction d with
  | zero =>
    intro i b s hd hb hs hB hS
    rw [List.drop_of_length_le (by omega), bytesP, List.append_nil] at hB
    rw [List.drop_of_length_le (by omega), startsP, List.append_nil] at hS
    exact fin hC BD1_ok (f97p4 std ps ps.length i s b) (by simp; omega) (by rw [hB, hS]) rfl
  | succ d ih =>
    intro i b s hd hb hs hB hS
    have hlt : i < ps.length := by omega
    have e1 : std.nthA ps (std.nat (i : Int)) = ps[i] := by simp [hlt]
    have g0 : (ps[i].cellAt 0).toI = kI ps[i] := rfl
    have g1 : (ps[i].cellAt 1).toI = kC ps[i] := rfl
    have g2 : (ps[i].cellAt 2).toIs = kD ps[i] := rfl
    have hk' := hk ps[i] (by simp)
    have e5 : std.add (i : Int) 1 = ((i + 1 : Nat) : Int) := by simp
    rw [List.drop_eq_getElem_cons hlt] at hB hS
    rw [bytesP, ← List.append_assoc] at hB
    rw [startsP, List.append_cons] at hS
    have hpl : (pkB ps[i]).length = (kD ps[i]).length + 3 := by simp [pkB]
    have ih' := ih (i + 1) (b ++ pkB ps[i]) (s ++ [(b.length : Int)]) (by omega) (by rw [List.length_append, hpl]; omega) (by simp; omega) hB (by rw [List.length_append]; exact hS)
    refine go hC BD1_ok (f97p3 std ps ps.length i s b) ?_ ?_
    · simp only [e1, g0, g1, g2]; simp [hlt, AV.bx, flatLen]; omega
    · simp only [e1, g0, g1, g2, e5]
      simpa [pkB] using ih'
theorem strm97_ok (ps : List AV) (h : strG ps = true) : Pure Try.prog 97 [.list (.big (.agg [.int .i64, .int .i64, .ints .i64]) ps)] (.tup [.list (.ints .i64 (bytesP ps)), .list (.ints .i64 (startsP 0 ps))]) none := by
  rw [strG, Bool.and_eq_true, decide_eq_true_eq] at h
  obtain ⟨hl, hk⟩ := h
  have hk := lenK_mem hk
  cases ps with
  | nil => exact wk_tup (xs := [.nils, .nils]) (start (f97e_at []) fun C hC => go hC BD1_ok (f97p0 std []) (by simp) (fin hC BD1_ok (f97p2 std [] _) (by simp) rfl rfl)) ⟨.nil _ rfl, .nil _ rfl, trivial⟩
  | cons p qs =>
    refine start (f97e_at (p :: qs)) fun C hC => ?_
    refine go hC BD1_ok (f97p0 std (p :: qs)) (by simp) ?_
    have hb := hk p (by simp)
    have g0 : (p.cellAt 0).toI = kI p := rfl
    have g1 : (p.cellAt 1).toI = kC p := rfl
    have g2 : (p.cellAt 2).toIs = kD p := rfl
    have e1 : std.nthA (p :: qs) (std.nat 0) = p := by simp
    refine go hC BD1_ok (f97p1 std (p :: qs) _) ?_ ?_
    · simp only [e1, g0, g1, g2]; simp [AV.bx, flatLen]; omega
    · have := l97 hC (p :: qs) hl hk (bytesP (p :: qs)) (startsP 0 (p :: qs)) qs.length 1 (pkB p) [0] (by simp; omega) (by simp [pkB]; omega) (by simp) rfl (by simp [startsP])
      simp only [e1, g0, g1, g2]
      simpa [pkB] using this
def k129 : Ctr := ⟨129, 0, fun _ a => match a with | [.list (.big (.agg [.int .i64, .int .i64, .ints .i64]) ps), .fn 30 []] => some (decide (fewB ps = true), .int .i64 (pksE ps), none) | _ => none⟩
theorem k129_ok : k129.OK Try.prog := fun pa args r fr h => by
  simp only [k129] at h
  split at h
  · simp only [Option.some.injEq, Prod.mk.injEq, decide_eq_true_eq] at h
    obtain ⟨h0, rfl, rfl⟩ := h
    exact each129_ok _ h0
  · cases h
def k36 : Ctr := ⟨36, 0, fun _ a => match a with | [.list (.big (.agg [.int .i64, .int .i64, .ints .i64]) ps)] => some (decide (fewB ps = true), .int .i64 (packE ps), none) | _ => none⟩
theorem k36_ok : k36.OK Try.prog := fun pa args r fr h => by
  simp only [k36] at h
  split at h
  · simp only [Option.some.injEq, Prod.mk.injEq, decide_eq_true_eq] at h
    obtain ⟨h0, rfl, rfl⟩ := h
    exact errs36_ok _ h0
  · cases h
def k34 : Ctr := ⟨34, 0, fun _ a => match a with | [.list (.big (.agg [.int .i64, .int .i64, .ints .i64]) ps)] => some (decide (fewB ps = true), .list (.big (.agg [.int .i64, .int .i64, .ints .i64]) ps), none) | _ => none⟩
theorem k34_ok : k34.OK Try.prog := fun pa args r fr h => by
  simp only [k34] at h
  split at h
  · simp only [Option.some.injEq, Prod.mk.injEq, decide_eq_true_eq] at h
    obtain ⟨h0, rfl, rfl⟩ := h
    exact cpks34_ok _ h0
  · cases h
def k97 : Ctr := ⟨97, 0, fun _ a => match a with | [.list (.big (.agg [.int .i64, .int .i64, .ints .i64]) ps)] => some (decide (strG ps = true), .tup [.list (.ints .i64 (bytesP ps)), .list (.ints .i64 (startsP 0 ps))], none) | _ => none⟩
theorem k97_ok : k97.OK Try.prog := fun pa args r fr h => by
  simp only [k97] at h
  split at h
  · simp only [Option.some.injEq, Prod.mk.injEq, decide_eq_true_eq] at h
    obtain ⟨h0, rfl, rfl⟩ := h
    exact strm97_ok _ h0
  · cases h
def BD2 : List Ctr := [k129, k36, k34, k97] ++ BD1
theorem BD2_ok : CtrsOK Try.prog BD2 := ⟨k129_ok, ⟨k36_ok, ⟨k34_ok, ⟨k97_ok, BD1_ok⟩⟩⟩⟩
end Go.Proofs.Ytjhdnpmojhkbjaa
