/- Contracts as a list. No condition. -/
import Derived.Test.YtimmgjppippdiaaRe
namespace Go.Proofs.Ytimmgjppippdiaa
section
variable {C : Ctx} (hC : C.P = Try.prog) {Q : List AFrame → AHeap → Prop}
include hC
theorem l116_flip (w wr : List Int) (css : List (List Int)) (hw : w.all bitB = true) (hN : w.length ≤ 24) (V : List Int) (hV : V = vN w.length fun b => moreS wr b 0 css) : ∀ (d i : Nat), w.length - i = d → i ≤ w.length →
    Ev C (f116h116_0a V w.length i (vN w.length fun j => if j < i then flipG w wr css j else w.getD j 0)) (f116h116_0am V w.length i (vN w.length fun j => if j < i then flipG w wr css j else w.getD j 0)) (FinQ 116 (.row 0 0) (some ⟨3, 1, .ints .i64 (vN w.length (flipG w wr css))⟩)) := by
  intro d
  induction d with
  | zero =>
    intro i hd hi
    refine fin hC F5_ok (f116p8 std V w.length i _) (by simp; omega) rfl ?_
    rw [vN_congr (g := flipG w wr css) (fun j hj => by rw [if_pos (by omega)])]
  | succ d ih =>
    intro i hd hi
    have hlt : i < w.length := by omega
    have next := ih (i + 1) (by omega) (by omega)
    have hg : (vN w.length fun j => if j < i then flipG w wr css j else w.getD j 0).getD i 0 = w.getD i 0 := by rw [vN_get hlt]; simp
    have hVg : V.getD i 0 = moreS wr i 0 css := by rw [hV, vN_get hlt]
    have hVl : V.length = w.length := by rw [hV, vN_len]
    by_cases h0 : 0 < moreS wr i 0 css
    · have e : (vN w.length fun j => if j < i + 1 then flipG w wr css j else w.getD j 0) = (vN w.length fun j => if j < i then flipG w wr css j else w.getD j 0).set i (1 - w.getD i 0) := by
        rw [vN_set]
        refine vN_congr fun j _ => ?_
        by_cases e : j = i
        · subst e; simp [flipG, h0]
        · rw [if_neg e]
          by_cases e2 : j < i
          · rw [if_pos e2, if_pos (by omega)]
          · rw [if_neg e2, if_neg (by omega)]
      rw [e] at next
      refine go hC F5_ok (f116p6 std V w.length i _) ?_ ?_
      · simp only [s_nth, s_nat, s_lt, s_le, s_len, vN_len, s_inR64, s_add, s_ltN, Int.toNat_natCast, hVg, hVl]
        simp [h0, hlt]
        omega
      · simp only [s_nth, s_nat, s_set, s_add, Int.toNat_natCast, hg, xor_one (bit_get hw i)]
        exact next
    · have e : (vN w.length fun j => if j < i + 1 then flipG w wr css j else w.getD j 0) = (vN w.length fun j => if j < i then flipG w wr css j else w.getD j 0) := by
        refine vN_congr fun j _ => ?_
        by_cases e : j = i
        · subst e; simp [flipG, h0]
        · by_cases e2 : j < i
          · rw [if_pos e2, if_pos (by omega)]
          · rw [if_neg e2, if_neg (by omega)]
      rw [e] at next
      refine go hC F5_ok (f116p7 std V w.length i _) ?_ next
      simp only [s_nth, s_nat, s_lt, s_le, s_len, vN_len, s_inR64, s_add, s_ltN, Int.toNat_natCast, hVg, hVl]
      simp [h0, hlt]
      omega
theorem l116_out (cs : List AV) (w wr : List Int) (hw : w.all bitB = true) (hN : 1 ≤ w.length ∧ w.length ≤ 24) (h : cs.length ≤ 16) (hwr : wr.length ≤ 1000000) (ho : ∀ (i : Nat) (hi : i < cs.length), okL1 w.length (cs[i].toIs)) (hs : ∀ (i : Nat) (hi : i < cs.length), (cs[i].toIs).Pairwise (· < ·)) : ∀ (d i : Nat), cs.length - i = d → i ≤ cs.length →
    Ev C (f116h116_1a cs w wr cs.length (vN w.length fun b => moreS wr b 0 ((iss cs).take i)) i) (f116h116_1am cs w wr cs.length (vN w.length fun b => moreS wr b 0 ((iss cs).take i)) i) (FinQ 116 (.row 0 0) (some ⟨3, 1, .ints .i64 (vN w.length (flipG w wr (iss cs)))⟩)) := by
  intro d
  induction d with
  | zero =>
    intro i hd hi
    have : i = cs.length := by omega
    subst this
    rw [show (iss cs).take cs.length = iss cs by rw [← iss_len]; exact List.take_length]
    refine go hC F5_ok (f116p3 std cs w wr cs.length _ cs.length) (by simp [vN_len]; omega) ?_
    have := l116_flip hC w wr (iss cs) hw (by omega) _ rfl w.length 0 (by omega) (by omega)
    have e0 : (vN w.length fun j => if j < 0 then flipG w wr (iss cs) j else w.getD j 0) = w := by
      rw [vN_congr (g := fun b => w.getD b 0) (fun j _ => by simp), vN_self]
    rw [e0] at this
    have hl : std.int (std.len (vN w.length fun b => moreS wr b 0 (iss cs))) = (w.length : Int) := by rw [s_int, s_len, vN_len]
    rw [hl]
    exact this
  | succ d ih =>
    intro i hd hi
    have hlt : i < cs.length := by omega
    have hlt2 : i < (iss cs).length := by rw [iss_len]; exact hlt
    have hg : (iss cs)[i] = cs[i].toIs := by simp [iss]
    have next := ih (i + 1) (by omega) (by omega)
    have htl : ((iss cs).take i).length = i := by rw [List.length_take, iss_len]; omega
    have key : ∀ vote : Int, (if hasB wr i = true then (1 : Int) else -1) = vote → (vN w.length fun b => moreS wr b 0 ((iss cs).take (i + 1))) = vN w.length fun b => moreS wr b 0 ((iss cs).take i) + if hasB (cs[i].toIs) b = true then vote else 0 := fun vote hv => by
      refine vN_congr fun b _ => ?_
      rw [List.take_succ_eq_append_getElem hlt2, moreS_app, htl, hg]
      simp only [moreS, Nat.zero_add, Int.add_zero, hv]
    have hmb : ∀ b, -1000000 ≤ moreS wr b 0 ((iss cs).take i) ∧ moreS wr b 0 ((iss cs).take i) ≤ 1000000 := fun b => by
      have := moreS_abs wr b 0 ((iss cs).take i)
      rw [htl] at this; omega
    by_cases hb : hasB wr i = true
    · rw [key 1 (by rw [if_pos hb])] at next
      refine go hC F5_ok (f116p1 std cs w wr cs.length _ i) (by simp [hb, hlt]; omega) ?_
      have := l116_in hC cs w wr w.length hN.2 i (by omega) (cs[i].toIs) (ho i hlt) (hs i hlt) 1 (.inl rfl) _ hmb next (cs[i].toIs).length 0 (by omega) (by omega)
      rw [vN_congr (g := fun b => moreS wr b 0 ((iss cs).take i)) (fun j _ => by simp [hasB])] at this
      simpa [hlt] using this
    · rw [key (-1) (by rw [if_neg hb])] at next
      refine go hC F5_ok (f116p2 std cs w wr cs.length _ i) (by simp [hb, hlt]; omega) ?_
      have := l116_in hC cs w wr w.length hN.2 i (by omega) (cs[i].toIs) (ho i hlt) (hs i hlt) (-1) (.inr rfl) _ hmb next (cs[i].toIs).length 0 (by omega) (by omega)
      rw [vN_congr (g := fun b => moreS wr b 0 ((iss cs).take i)) (fun j _ => by simp [hasB])] at this
      simpa [hlt] using this
end
theorem unsS_len (w : List Int) : ∀ (i : Nat) (cs : List (List Int)), (unsS w i cs).length ≤ cs.length
  | _, [] => by simp [unsS]
  | i, l :: cs => by
    have := unsS_len w (i + 1) cs
    simp only [unsS]
    split <;> simp <;> omega
theorem flip116_ok (n : Int) (cs : List AV) (w : List Int) (h : parE n (iss cs) w = 0) (hf : cs.all few1 = true) : Pure Try.prog 116 [.agg (.gen [.int .i64 n, .list (.big (.ints .i64) cs)]), .list (.ints .i64 w)] (.list (.ints .i64 (flipS w (iss cs)))) newF := by
  obtain ⟨h1, h2, h3, h4, h5, h6⟩ := parE_ok h hf
  have hu := unsS_len w 0 (iss cs)
  rw [iss_len] at hu
  refine new_row (e := 3) (sz := 0) (start (f116e_at n cs w) fun C hC => go hC F5_ok (f116p0 std n cs w) (by rw [hf, h]; simp; omega) ?_) rfl rfl
  have := l116_out hC cs w (unsS w 0 (iss cs)) h2 (by omega) h5 (by omega) h6 (parE_srt h) cs.length 0 (by omega) (by omega)
  have e : (vN w.length fun b => moreS (unsS w 0 (iss cs)) b 0 ((iss cs).take 0)) = List.replicate n.toNat 0 := by
    rw [show n.toNat = w.length by omega]
    apply List.ext_getElem (by simp [vN])
    intro j h1 h2
    simp [vN, moreS]
  rw [e] at this
  exact this
theorem flip42_ok (n : Int) (cs : List AV) (w : List Int) (h : parE n (iss cs) w = 0) (hf : cs.all few1 = true) : Pure Try.prog 42 [.agg (.gen [.int .i64 n, .list (.big (.ints .i64) cs)]), .list (.ints .i64 w)] (.list (.ints .i64 (flipS w (iss cs)))) newF := by
  obtain ⟨h1, h2, h3, h4, h5, h6⟩ := parE_ok h hf
  have hu := unsS_len w 0 (iss cs)
  rw [iss_len] at hu
  subst h1
  refine new_row (e := 3) (sz := 0) (start (f42e_at _ cs w) fun C hC => go hC F6_ok (f42p0 std _ cs w) (by rw [hf, h]; simp; omega) ?_) rfl rfl
  have := l42_out hC cs w (unsS w 0 (iss cs)) h2 hf h5 (by omega) (by omega) w.length 0 (by omega) (by omega)
  rw [vN_congr (g := fun b => w.getD b 0) (fun j _ => by simp), vN_self] at this
  exact this
def k42 : Ctr := ⟨42, 0, fun _ a => match a with | [.agg (.gen [.int .i64 n, .list (.big (.ints .i64) cs)]), .list (.ints .i64 w)] => some (decide (parE n (iss cs) w = 0 ∧ cs.all few1 = true), .list (.ints .i64 (flipS w (iss cs))), newF) | _ => none⟩
theorem k42_ok : k42.OK Try.prog := fun pa args r fr h => by
  simp only [k42] at h
  split at h
  · simp only [Option.some.injEq, Prod.mk.injEq, decide_eq_true_eq] at h
    obtain ⟨h0, rfl, rfl⟩ := h
    exact flip42_ok _ _ _ h0.1 h0.2
  · cases h
def k116 : Ctr := ⟨116, 0, fun _ a => match a with | [.agg (.gen [.int .i64 n, .list (.big (.ints .i64) cs)]), .list (.ints .i64 w)] => some (decide (parE n (iss cs) w = 0 ∧ cs.all few1 = true), .list (.ints .i64 (flipS w (iss cs))), newF) | _ => none⟩
theorem k116_ok : k116.OK Try.prog := fun pa args r fr h => by
  simp only [k116] at h
  split at h
  · simp only [Option.some.injEq, Prod.mk.injEq, decide_eq_true_eq] at h
    obtain ⟨h0, rfl, rfl⟩ := h
    exact flip116_ok _ _ _ h0.1 h0.2
  · cases h
def F8 : List Ctr := [k42, k116] ++ F7
theorem F8_ok : CtrsOK Try.prog F8 := ⟨k42_ok, ⟨k116_ok, F7_ok⟩⟩
end Go.Proofs.Ytimmgjppippdiaa
