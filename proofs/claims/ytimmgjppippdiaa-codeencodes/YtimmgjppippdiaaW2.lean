/- A convolutional code, as it is read. No condition. -/
import Derived.Test.YtimmgjppippdiaaW1
namespace Go.Proofs.Ytimmgjppippdiaa
open Go.ChangeShapes Go.WideShapes Go.ChangeAt Go.RowKit
theorem rel_conv {H : Type} {enc : TypeId × Value → H} {W : World} {L : Lay} {v : Value} {d : DataW H} {ps : List MemPlace} (hv : ∃ cs, v = .agg cs ∧ cs.size = Try.prog.cellsOf 24) (h : DataW.Trod enc Try.prog W 0 (fun _ => true) true 24 v d ps) :
    ∃ c : List Int, c.length = 3 ∧ Rel W (oldOk W) [] L (.agg (.ints .i64 c)) v := by
  obtain ⟨cells, rfl, hsz⟩ := hv
  obtain ⟨fuel, hf⟩ := h
  have c24 : Try.prog.cellsOf 24 = 3 := by kernel_rfl
  rw [c24] at hsz
  obtain ⟨a, b, e, rfl⟩ : ∃ a b e, cells = #[a, b, e] := by
    obtain ⟨l⟩ := cells
    match l, hsz with
    | [a, b, e], _ => exact ⟨a, b, e, rfl⟩
  obtain ⟨y0, y1, m, _, _, h0, h1⟩ := trod_struct2 Try.underlying24 hf
  have c3 : Try.prog.cellsOf 3 = 1 := by kernel_rfl
  have c22 : Try.prog.cellsOf 22 = 2 := by kernel_rfl
  simp only [Value.cells, c3, c22, List.drop_zero, List.drop_succ_cons, List.take_succ_cons, List.take_zero] at h0 h1
  obtain ⟨xs, m', rfl, _, _, hlen, hall⟩ := DataW.trod_array Try.underlying22 h1
  have g0 := hall 0 (by omega)
  have g1 := hall 1 (by omega)
  simp only [c3, Nat.zero_mul, Nat.one_mul, List.drop_zero, List.drop_succ_cons, List.take_succ_cons, List.take_zero] at g0 g1
  match xs, hlen, g0, g1 with
  | [x0, x1], _, g0, g1 =>
    have ha : ∃ n, a = .int .i64 n := by
      obtain ⟨n, hn⟩ := DataW.trod_int Try.underlying3 h0
      exact ⟨n, by simpa using hn.1⟩
    have hb : ∃ n, b = .int .i64 n := by
      obtain ⟨n, hn⟩ := DataW.trod_int Try.underlying3 (show DataW.trod enc Try.prog W 0 (fun _ => true) true m' 3 [b] = some x0 from g0)
      exact ⟨n, by simpa using hn.1⟩
    have he : ∃ n, e = .int .i64 n := by
      obtain ⟨n, hn⟩ := DataW.trod_int Try.underlying3 (show DataW.trod enc Try.prog W 0 (fun _ => true) true m' 3 [e] = some x1 from g1)
      exact ⟨n, by simpa using hn.1⟩
    obtain ⟨p, rfl⟩ := ha
    obtain ⟨q, rfl⟩ := hb
    obtain ⟨r, rfl⟩ := he
    refine ⟨[p, q, r], rfl, .agg _ _ rfl #[.int .i64 p, .int .i64 q, .int .i64 r] rfl (fun x hx => ?_) (fun j u x hu hx => ?_)⟩
    · simp at hx
      rcases hx with rfl | rfl | rfl <;> rfl
    · match j, hu, hx with
      | 0, hu, hx => simp [Row.elems] at hu hx; subst hu; subst hx; exact .int .i64 p
      | 1, hu, hx => simp [Row.elems] at hu hx; subst hu; subst hx; exact .int .i64 q
      | 2, hu, hx => simp [Row.elems] at hu hx; subst hu; subst hx; exact .int .i64 r
      | j + 3, hu, hx => simp [Row.elems] at hu
end Go.Proofs.Ytimmgjppippdiaa
