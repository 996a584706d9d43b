/- Contracts as a list. No condition. -/
import Derived.Test.YtjhdnpmojhkbjaaPH
namespace Go.Proofs.Ytjhdnpmojhkbjaa
/-! ### Packets -/
def pkE (a b : Int) (ds : List Int) : Int := if byteB a = true ∧ byteB b = true then (if 40 < ds.length then 8 else bytesE ds) else 2
theorem pkt30_ok (a b : Int) (ds : List Int) (h : ds.length ≤ 1000000) : Pure Try.prog 30 [.agg (.gen [.int .i64 a, .int .i64 b, .list (.ints .i64 ds)])] (.int .i64 (pkE a b ds)) none :=
  start (f30e_at a b ds) fun C hC => by
    by_cases h1 : byteB a = true
    · refine fin hC B5_ok (f30p0 std a b ds) (by simp [h1, h, AV.bx, flatLen]) ?_ rfl
      by_cases h2 : byteB b = true
      · rw [pkE, if_pos ⟨h1, h2⟩, h2]
        by_cases h3 : 40 < ds.length
        · have : std.le (std.int (std.len ds)) 40 = false := by simp; omega
          rw [this, if_pos h3]; simp [firstE]
        · have : std.le (std.int (std.len ds)) 40 = true := by simp; omega
          rw [this, if_neg h3]; simp [firstE]; exact fun h => h.symm
      · rw [pkE, if_neg (fun h => h2 h.2)]
        have : byteB b = false := by simpa using h2
        rw [this]; simp [firstE]
    · refine fin hC B5_ok (f30p1 std a b ds) (by simp [h, AV.bx, flatLen]; simpa using h1) ?_ rfl
      rw [pkE, if_neg (fun h => h1 h.1)]; simp [firstE]
theorem pkt32_ok (a b : Int) (ds : List Int) (h : ds.length ≤ 1000000) : Pure Try.prog 32 [.agg (.gen [.int .i64 a, .int .i64 b, .list (.ints .i64 ds)])] (.int .i64 (pkE a b ds)) none :=
  start (f32e_at a b ds) fun C hC => by
    by_cases h1 : 0 ≤ a ∧ a ≤ 255
    · by_cases h2 : 0 ≤ b ∧ b ≤ 255
      · rw [pkE, if_pos ⟨decide_eq_true h1, decide_eq_true h2⟩]
        by_cases h3 : 40 < ds.length
        · exact fin hC B5_ok (f32p2 std a b ds) (by simp [h1, h2]; omega) (by rw [if_pos h3]) rfl
        · exact fin hC B5_ok (f32p3 std a b ds) (by simp [h1, h2, h]; omega) (by rw [if_neg h3]) rfl
      · rw [pkE, if_neg (fun h => h2 (of_decide_eq_true h.2))]
        exact fin hC B5_ok (f32p1 std a b ds) (by simp only [decide_eq_false h2]; simp [h1]) rfl rfl
    · rw [pkE, if_neg (fun h => h1 (of_decide_eq_true h.1))]
      exact fin hC B5_ok (f32p0 std a b ds) (by simp only [decide_eq_false h1]; simp) rfl rfl
theorem cpk31_ok (a b : Int) (ds : List Int) (h : ds.length ≤ 4294967296) : Pure Try.prog 31 [.agg (.gen [.int .i64 a, .int .i64 b, .list (.ints .i64 ds)])] (.agg (.gen [.int .i64 a, .int .i64 b, .list (.ints .i64 ds)])) none :=
  start (f31e_at a b ds) fun C hC => fin hC B5_ok (f31p0 std a b ds) (by simp [h]) rfl rfl
def kI (p : AV) : Int := (p.cellAt 0).toI
def kC (p : AV) : Int := (p.cellAt 1).toI
def kD (p : AV) : List Int := (p.cellAt 2).toIs
def fewK : List AV → Bool
  | [] => true
  | p :: ps => decide ((kD p).length ≤ 42) && fewK ps
def fewB (ps : List AV) : Bool := decide (ps.length ≤ 22) && fewK ps
theorem l29 {C : Ctx} (hC : C.P = Try.prog) (ps : List AV) (hlen : ps.length ≤ 1000000) : ∀ (d i : Nat), ps.length - i = d → i ≤ ps.length →
    Ev C (f29h29_0a ps i) (f29h29_0am ps i) (FinQ 29 (.bool (fewK (ps.drop i))) none) := by
  intro d
  induction d with
  | zero =>
    intro i hd hi
    exact fin hC B5_ok (f29p4 std ps i) (by simp; omega) (by rw [List.drop_of_length_le (by omega)]; rfl) rfl
  | succ d ih =>
    intro i hd hi
    have hlt : i < ps.length := by omega
    have e1 : std.nthA ps (std.nat (i : Int)) = ps[i] := by simp [hlt]
    have g1 : (ps[i].cellAt 2).toIs = kD ps[i] := rfl
    rw [List.drop_eq_getElem_cons hlt, fewK]
    by_cases h : (kD ps[i]).length ≤ 42
    · rw [decide_eq_true h, Bool.true_and]
      exact go hC B5_ok (f29p3 std ps i) (by simp only [e1, g1]; simp [hlt]; omega) (ih (i + 1) (by omega) (by omega))
    · rw [decide_eq_false h, Bool.false_and]
      exact fin hC B5_ok (f29p2 std ps i) (by simp only [e1, g1]; simp [hlt]; omega) rfl rfl
theorem few29_ok (ps : List AV) : Pure Try.prog 29 [.list (.big (.agg [.int .i64, .int .i64, .ints .i64]) ps)] (.bool (fewB ps)) none :=
  start (f29e_at ps) fun C hC => by
    by_cases h : ps.length ≤ 22
    · rw [fewB, decide_eq_true h, Bool.true_and]
      exact go hC B5_ok (f29p1 std ps) (by simp; omega) (l29 hC ps (by omega) ps.length 0 (by omega) (by omega))
    · rw [fewB, decide_eq_false h, Bool.false_and]
      exact fin hC B5_ok (f29p0 std ps) (by simp; omega) rfl rfl
/-! ### Frames compared -/
def frV (f : AV) : Int × Int × Int × List Int := ((f.cellAt 0).toI, (f.cellAt 1).toI, (f.cellAt 2).toI, (f.cellAt 3).toIs)
def lenG (fs : List AV) : Bool := decide (fs.length ≤ 1000000) && fs.all fun f => decide ((frV f).2.2.2.length ≤ 1000000)
theorem l38 {C : Ctx} (hC : C.P = Try.prog) (xs ys : List AV) (hl : xs.length = ys.length) (hlen : xs.length ≤ 1000000) (hk : ∀ f ∈ xs, (frV f).2.2.2.length ≤ 1000000) : ∀ (d i : Nat), xs.length - i = d → i ≤ xs.length → (xs.take i).map frV = (ys.take i).map frV →
    Ev C (f38h38_0a xs ys i) (f38h38_0am xs ys i) (FinQ 38 (.bool (decide (xs.map frV = ys.map frV))) none) := by
  intro d
  induction d with
  | zero =>
    intro i hd hi ht
    have hi : i = xs.length := by omega
    have he : xs.map frV = ys.map frV := by rw [hi] at ht; rw [List.take_length, hl, List.take_length] at ht; exact ht
    exact fin hC B5_ok (f38p4 std xs ys i) (by simp; omega) (by simp [he]) rfl
  | succ d ih =>
    intro i hd hi ht
    have hlt : i < xs.length := by omega
    have hlt2 : i < ys.length := by omega
    have e1 : std.nthA xs (std.nat (i : Int)) = xs[i] := by simp [hlt]
    have e2 : std.nthA ys (std.nat (i : Int)) = ys[i] := by simp [hlt2]
    have hb : (xs[i].cellAt 3).toIs.length ≤ 1000000 := hk xs[i] (by simp)
    by_cases h1 : frV xs[i] = frV ys[i]
    · have h2 := h1
      simp only [frV, Prod.mk.injEq] at h2
      refine go hC B5_ok (f38p3 std xs ys i) ?_ (ih (i + 1) (by omega) (by omega) (by
        rw [List.take_succ_eq_append_getElem hlt, List.take_succ_eq_append_getElem hlt2, List.map_append, List.map_append, ht, List.map_singleton, List.map_singleton, h1]))
      simp only [e1, e2, decide_eq_true h2, decide_eq_true hb]
      simp [hlt, hlt2]
      omega
    · have h2 : ¬ ((xs[i].cellAt 0).toI = (ys[i].cellAt 0).toI ∧ (xs[i].cellAt 1).toI = (ys[i].cellAt 1).toI ∧ (xs[i].cellAt 2).toI = (ys[i].cellAt 2).toI ∧ (xs[i].cellAt 3).toIs = (ys[i].cellAt 3).toIs) := fun h => h1 (by simp only [frV, Prod.mk.injEq]; exact h)
      refine fin hC B5_ok (f38p2 std xs ys i) ?_ ?_ rfl
      · simp only [e1, e2, decide_eq_false h2, decide_eq_true hb]
        simp [hlt, hlt2]
      · have : xs.map frV ≠ ys.map frV := fun e => h1 (by
          have := congrArg (fun l => l[i]?) e
          simpa [hlt, hlt2] using this)
        simp [this]
theorem same38_ok (xs ys : List AV) (h : lenG xs = true) : Pure Try.prog 38 [.list (.big (.agg [.int .i64, .int .i64, .int .i64, .ints .i64]) xs), .list (.big (.agg [.int .i64, .int .i64, .int .i64, .ints .i64]) ys)] (.bool (decide (xs.map frV = ys.map frV))) none :=
  start (f38e_at xs ys) fun C hC => by
    rw [lenG, Bool.and_eq_true, decide_eq_true_eq, List.all_eq_true] at h
    by_cases hl : xs.length = ys.length
    · exact go hC B5_ok (f38p1 std xs ys) (by simp; omega) (l38 hC xs ys hl h.1 (fun f hf => of_decide_eq_true (h.2 f hf)) xs.length 0 (by omega) (by omega) rfl)
    · refine fin hC B5_ok (f38p0 std xs ys) (by simp; omega) ?_ rfl
      have : xs.map frV ≠ ys.map frV := fun e => hl (by have := congrArg List.length e; simpa using this)
      simp [this]
def k30 : Ctr := ⟨30, 0, fun _ a => match a with | [.agg (.gen [.int .i64 a, .int .i64 b, .list (.ints .i64 ds)])] => some (decide (ds.length ≤ 1000000), .int .i64 (pkE a b ds), none) | _ => none⟩
theorem k30_ok : k30.OK Try.prog := fun pa args r fr h => by
  simp only [k30] at h
  split at h
  · simp only [Option.some.injEq, Prod.mk.injEq, decide_eq_true_eq] at h
    obtain ⟨h0, rfl, rfl⟩ := h
    exact pkt30_ok _ _ _ h0
  · cases h
def k32 : Ctr := ⟨32, 0, fun _ a => match a with | [.agg (.gen [.int .i64 a, .int .i64 b, .list (.ints .i64 ds)])] => some (decide (ds.length ≤ 1000000), .int .i64 (pkE a b ds), none) | _ => none⟩
theorem k32_ok : k32.OK Try.prog := fun pa args r fr h => by
  simp only [k32] at h
  split at h
  · simp only [Option.some.injEq, Prod.mk.injEq, decide_eq_true_eq] at h
    obtain ⟨h0, rfl, rfl⟩ := h
    exact pkt32_ok _ _ _ h0
  · cases h
def k31 : Ctr := ⟨31, 0, fun _ a => match a with | [.agg (.gen [.int .i64 a, .int .i64 b, .list (.ints .i64 ds)])] => some (decide (ds.length ≤ 4294967296), .agg (.gen [.int .i64 a, .int .i64 b, .list (.ints .i64 ds)]), none) | _ => none⟩
theorem k31_ok : k31.OK Try.prog := fun pa args r fr h => by
  simp only [k31] at h
  split at h
  · simp only [Option.some.injEq, Prod.mk.injEq, decide_eq_true_eq] at h
    obtain ⟨h0, rfl, rfl⟩ := h
    exact cpk31_ok _ _ _ h0
  · cases h
def k29 : Ctr := ⟨29, 0, fun _ a => match a with | [.list (.big (.agg [.int .i64, .int .i64, .ints .i64]) ps)] => some (true, .bool (fewB ps), none) | _ => none⟩
theorem k29_ok : k29.OK Try.prog := fun pa args r fr h => by
  simp only [k29] at h
  split at h
  · cases h
    exact few29_ok _
  · cases h
def k38 : Ctr := ⟨38, 0, fun _ a => match a with | [.list (.big (.agg [.int .i64, .int .i64, .int .i64, .ints .i64]) xs), .list (.big (.agg [.int .i64, .int .i64, .int .i64, .ints .i64]) ys)] => some (decide (lenG xs = true), .bool (decide (xs.map frV = ys.map frV)), none) | _ => none⟩
theorem k38_ok : k38.OK Try.prog := fun pa args r fr h => by
  simp only [k38] at h
  split at h
  · simp only [Option.some.injEq, Prod.mk.injEq, decide_eq_true_eq] at h
    obtain ⟨h0, rfl, rfl⟩ := h
    exact same38_ok _ _ h0
  · cases h
def BD1 : List Ctr := [k30, k32, k31, k29, k38] ++ B5
theorem BD1_ok : CtrsOK Try.prog BD1 := ⟨k30_ok, ⟨k32_ok, ⟨k31_ok, ⟨k29_ok, ⟨k38_ok, B5_ok⟩⟩⟩⟩⟩
end Go.Proofs.Ytjhdnpmojhkbjaa
