/- Copies: owned or values, as the path says. No condition. -/
import Derived.Test.YtimmgjppippdiaaRm
namespace Go.Proofs.Ytimmgjppippdiaa
def k20b : Ctr := ⟨20, 1, fun pa a => match pa with
  | [] => (match a with | _ => some (false, .nils, none))
  | b :: _ => (match a with
    | [.list (.ints .i64 xs)] => some (decide (xs.length ≤ 4294967296), (match b with | true => .row 0 0 | false => .list (.ints .i64 xs)), (match b with | true => some ⟨3, 1, .ints .i64 xs⟩ | false => newF))
    | _ => none)⟩
theorem k20b_ok : k20b.OK Try.prog := fun pa args r fr h => by
  simp only [k20b] at h
  split at h
  · simp at h
  · split at h
    · simp only [Option.some.injEq, Prod.mk.injEq, decide_eq_true_eq] at h
      obtain ⟨h0, rfl, rfl⟩ := h
      split
      · exact copy_row _ h0
      · exact copy_new _ h0
    · cases h
/-- ParityErr of a word of any length -/
theorem par40w_ok (n : Int) (cs : List AV) (w : List Int) (h : cs.length ≤ 1000000) (hf : cs.all few1 = true) : Pure Try.prog 40 [.agg (.gen [.int .i64 n, .list (.big (.ints .i64) cs)]), .list (.ints .i64 w)] (.int .i64 (parE n (iss cs) w)) none :=
  start (f40e_at n cs w) fun C hC => by
    by_cases h1 : (chkE n (iss cs)).2 = 0
    · have hr := chkE_rng h1
      by_cases h2 : (w.length : Int) = n
      · exact fin hC F3_ok (f40p2 std n cs w) (by rw [hf]; simp [h, h1, h2]; omega) (by simp [parE, h1, h2]) rfl
      · exact fin hC F3_ok (f40p1 std n cs w) (by rw [hf]; simp [h, h1, h2]) (by simp [parE, h1, h2]) rfl
    · exact fin hC F3_ok (f40p0 std n cs w) (by rw [hf]; simp [h, h1]) (by simp [parE, h1]) rfl
def k40w : Ctr := ⟨40, 0, fun _ a => match a with | [.agg (.gen [.int .i64 n, .list (.big (.ints .i64) cs)]), .list (.ints .i64 w)] => some (decide (cs.length ≤ 1000000 ∧ cs.all few1 = true), .int .i64 (parE n (iss cs) w), none) | _ => none⟩
theorem k40w_ok : k40w.OK Try.prog := fun pa args r fr h => by
  simp only [k40w] at h
  split at h
  · simp only [Option.some.injEq, Prod.mk.injEq, decide_eq_true_eq] at h
    obtain ⟨h0, rfl, rfl⟩ := h
    exact par40w_ok _ _ _ h0.1 h0.2
  · cases h
def G5 : List Ctr := k20b :: k40w :: G4
theorem G5_ok : CtrsOK Try.prog G5 := ⟨k20b_ok, k40w_ok, G4_ok⟩
end Go.Proofs.Ytimmgjppippdiaa
