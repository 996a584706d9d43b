/- Soundness of all operations. No condition. -/
import Derived.Test.YtjhdnpmojhkbjaaXh
namespace Go.Proofs.Ytjhdnpmojhkbjaa
open Go.RowKit (Below)
section
variable {C : Ctx} {o : Oper} {ρ : Opd → AV} {ev : Operand → Value} {h h' : AHeap} {w w' : World} {L : Lay} {v : AV} {P : Program}

theorem sub_zero_elems (s : Row) (m : Nat) : (s.sub std 0 m).elems = s.elems.take m := by rw [Row.sub_std]; simp [sub3]
theorem flats_take {sz : Nat} {xs : List AV} (hf : ∀ x ∈ xs, x.flat.length = sz) (m : Nat) : ∀ x ∈ xs.take m, x.flat.length = sz := fun x hx => hf x (List.mem_of_mem_take hx)

/-- cells are copied into a tracked row -/
theorem copy_into (H : HRel C h L w) {t e : TypeId} {i : TypeInfo} {sz : Nat} {y : AV} {x' y' : Operand} (ho : o.op = .call { callee := .builtin .copy, args := #[x', y'], argTypes := #[t, t] }) (ry : RelC C h L w y (ev y')) {s : Row} (hcont : contR std h y = some (true, s)) (hu : s.unit std sz = true)
    (ht : C.P.underlying t = some (.slice e)) (hi : C.P.info? e = some i) (hsz : i.size = sz) {a j e' sz' : Nat} {r r' : Row} (hbk : blk h a j = .row e' sz' r) {q n : Nat} {cap : Nat}
    (hx : ev x' = .slice (some ⟨L.loc a j, q, none⟩) n cap) (hfl : flatAll r'.elems = spl (flatAll r.elems) q (flatAll (s.elems.take (min s.elems.length n)))) (hlen : r'.elems.length = r.elems.length) (hff : ∀ x ∈ r'.elems, x.flat.length = sz') (hq : q + (min s.elems.length n) * sz ≤ r.elems.length * sz') :
    Snd C h L w ev o (setB h a j (.row e' sz' r')) (.int .i64 (std.int (std.minN (s.len std) n))) := by
  obtain ⟨ad, c', us, hyv, hrel, h1, hf, hul, hcl, hnone⟩ := source H ry hcont hu
  have hmin : (min s.elems.length n) ≤ s.elems.length := Nat.min_le_left _ _
  have hrel' := hrel.take (min s.elems.length n * sz)
  rw [← flatAll_take _ _ hf] at hrel'
  have htl : (us.take (min s.elems.length n * sz)).length = min s.elems.length n * sz := by rw [List.length_take, hul]; exact Nat.min_eq_left (Nat.mul_le_mul_right _ hmin)
  have h1' : ∀ c ∈ us.take (min s.elems.length n * sz), c.oneCell' = true := fun c hc => h1 c (List.mem_of_mem_take hc)
  obtain ⟨cur, h4, hfit, hst, H'⟩ := H.write hbk (r' := r') hfl hlen hff (by rw [hrel'.1, htl]; exact hq) hrel' h1'
  refine ⟨_, L, .int .i64 (min s.elems.length n : Nat), .inl ?_, hst, H', fun _ => by rw [Row.len_std]; exact .int _ _⟩
  cases ad with
  | none =>
    have he := hnone rfl
    have hus : us = [] := List.eq_nil_of_length_eq_zero (by rw [hul, he]; simp)
    subst hus
    have hw : w.setRow (L.loc a j) (spl cur.toList q (([] : List Value).take (min s.elems.length n * sz))).toArray = w := by
      have : (spl cur.toList q (([] : List Value).take (min s.elems.length n * sz))).toArray = cur := by simp [spl]
      rw [this]; exact setRow_self w _ cur e' (0, 0) h4
    rw [hw, he]
    simp [execOp, ho, resolve, invoke, builtin, hx, hyv, he, Builtin.copy_, run_und ht, Builtin.lenOf, Builtin.firstCells, sizeOf, typeInfo, hi, storeCells, goInt]
  | some ad =>
    have hl := run_loadCells_list (P := C.P) w ad (us.take (min s.elems.length n * sz)) (fun j v hj => by
      rw [List.getElem?_take] at hj
      split at hj
      · exact hcl ad rfl j v hj
      · cases hj)
    rw [htl] at hl
    have hst := run_storeCells_at C.P (L.loc a j) q e' (us.take (min s.elems.length n * sz)) 0 cur w h4 (by simpa using hfit) h1'
    simp only [Nat.add_zero] at hst
    simp [execOp, ho, resolve, invoke, builtin, hx, hyv, Builtin.copy_, run_und ht, Builtin.lenOf, Builtin.firstCells, sizeOf, typeInfo, hi, hsz, hl, hst, goInt, spl]

theorem sound_copy (H : HRel C h L w) {t e : TypeId} {i : TypeInfo} {sz : Nat} {x y : AV} {x' y' : Operand} (ho : o.op = .call { callee := .builtin .copy, args := #[x', y'], argTypes := #[t, t] }) (rx : RelC C h L w x (ev x')) (ry : RelC C h L w y (ev y'))
    (ht : C.P.underlying t = some (.slice e)) (hi : C.P.info? e = some i) (hsz : i.size = sz) (hpos : 0 < sz) (hv : copyR std h sz x y = some (true, v, h')) : Snd C h L w ev o h' v := by
  unfold copyR at hv
  split at hv
  · cases hv
  · rename_i b s hcont
    generalize hxv : ev x' = xv at rx
    split at hv
    · rename_i c j
      split at hv
      · rename_i e' sz' r hbk
        simp only [Option.some.injEq, Prod.mk.injEq, std_and] at hv
        obtain ⟨⟨⟨rfl, hu⟩, hs⟩, rfl, rfl⟩ := hv
        have hs : sz' = sz := by simpa [std] using hs
        subst hs
        obtain ⟨htg, g0, g1, g2, g3, _⟩ := H.rowAt hbk
        obtain ⟨ad, c', us, _, _, _, hf, _⟩ := source H ry hcont hu
        cases rx with
        | row _ _ g oo n cc hn hl =>
          obtain ⟨rfl, rfl, rfl, rfl⟩ := hl.2 _ htg
          have hel : (r.blit std 0 (s.sub std 0 (std.minN (s.len std) (r.len std)))).elems = spl r.elems 0 (s.elems.take (min s.elems.length r.elems.length)) := by
            rw [Row.blit_std, sub_zero_elems, Row.len_std, Row.len_std]; rfl
          have hmin : (s.elems.take (min s.elems.length r.elems.length)).length ≤ r.elems.length := by rw [List.length_take]; omega
          have := copy_into H ho ry hcont hu ht hi hsz hbk (r' := r.blit std 0 (s.sub std 0 (std.minN (s.len std) (r.len std)))) (q := 0) (n := r.elems.length) hxv
            (by rw [hel]; unfold spl; rw [flatAll_append, flatAll_append, flatAll_drop _ _ g3, flatAll_length (flats_take hf _), Nat.zero_add, Nat.zero_add]; simp [flatAll])
            (by rw [hel, spl_length (by omega)])
            (fun x hx => by
              rw [hel] at hx
              rcases spl_mem hx with hx | hx
              · exact g3 x hx
              · exact flats_take hf _ x hx)
            (by rw [Nat.zero_add]; exact Nat.mul_le_mul_right _ (Nat.min_le_right _ _))
          rw [Row.len_std r] at this ⊢
          exact this
      · cases hv
    · rename_i c j k n cp
      split at hv
      · rename_i e' sz' r hbk
        simp only [Option.some.injEq, Prod.mk.injEq, std_and] at hv
        obtain ⟨⟨⟨rfl, hu⟩, hs, hkn⟩, rfl, rfl⟩ := hv
        have hs : sz' = sz := by simpa [std] using hs
        subst hs
        have hkn : k + n ≤ r.elems.length := by rw [Row.len_std] at hkn; simpa [std] using hkn
        obtain ⟨htg, g0, g1, g2, g3, _⟩ := H.rowAt hbk
        obtain ⟨ad, c', us, hyv, _, _, hf, _, _, hnone⟩ := source H ry hcont hu
        have hel : (r.blit std k (s.sub std 0 (std.minN (s.len std) n))).elems = spl r.elems k (s.elems.take (min s.elems.length n)) := by
          rw [Row.blit_std, sub_zero_elems, Row.len_std]; rfl
        have hmin : k + (s.elems.take (min s.elems.length n)).length ≤ r.elems.length := by rw [List.length_take]; omega
        have hfl : flatAll (r.blit std k (s.sub std 0 (std.minN (s.len std) n))).elems = spl (flatAll r.elems) (k * sz') (flatAll (s.elems.take (min s.elems.length n))) := by
          rw [hel]; unfold spl; rw [flatAll_append, flatAll_append, flatAll_take _ _ g3, flatAll_drop _ _ g3, flatAll_length (flats_take hf _), Nat.add_mul]
        have hff : ∀ x ∈ (r.blit std k (s.sub std 0 (std.minN (s.len std) n))).elems, x.flat.length = sz' := fun x hx => by
          rw [hel] at hx
          rcases spl_mem hx with hx | hx
          · exact g3 x hx
          · exact flats_take hf _ x hx
        cases rx with
        | slc _ _ _ _ _ g oo cc hn hl =>
          rcases hl.2 _ htg with ⟨h0, rfl⟩ | ⟨rfl, rfl, hkc, hcc⟩
          · -- nothing is copied
            have hr0 : (r.blit std k (s.sub std 0 (std.minN (s.len std) 0))).elems = r.elems := by rw [hel]; simp [spl]
            have hset : ∃ L', Step w (okOf C h L) h L w (okOf C (setB h c j (.row e' sz' (r.blit std k (s.sub std 0 (std.minN (s.len std) 0))))) L') (setB h c j (.row e' sz' (r.blit std k (s.sub std 0 (std.minN (s.len std) 0))))) L' ∧ HRel C (setB h c j (.row e' sz' (r.blit std k (s.sub std 0 (std.minN (s.len std) 0))))) L' w := by
              have hw := H.write hbk (r' := r.blit std k (s.sub std 0 (std.minN (s.len std) 0))) (q := 0) (xs := []) (ys := []) (by rw [hr0]; simp [spl]) (by rw [hr0]) hff (by simp) RelL.nil (by simp)
              obtain ⟨cur, h4, _, h6, h7⟩ := hw
              have : (spl cur.toList 0 ([] : List Value)).toArray = cur := by simp [spl]
              rw [this, setRow_self w _ cur e' (0, 0) h4] at h6 h7
              exact ⟨L, h6, h7⟩
            obtain ⟨L', s1, s2⟩ := hset
            refine ⟨w, L', .int .i64 0, .inl ?_, s1, s2, fun _ => by rw [Row.len_std]; simp [std]; exact .int _ _⟩
            cases ad with
            | none => simp [execOp, ho, resolve, invoke, builtin, hxv, hyv, Builtin.copy_, run_und ht, Builtin.lenOf, Builtin.firstCells, sizeOf, typeInfo, hi, storeCells, goInt]
            | some a2 => simp [execOp, ho, resolve, invoke, builtin, hxv, hyv, Builtin.copy_, run_und ht, Builtin.lenOf, Builtin.firstCells, sizeOf, typeInfo, hi, storeCells, goInt, loadCells, loadCellsFrom]
          · exact copy_into H ho ry hcont hu ht hi hsz hbk hxv hfl (by rw [hel, spl_length hmin]) hff (by
              rw [← Nat.add_mul]; exact Nat.mul_le_mul_right _ (by omega))
      · cases hv
    · rename_i c j k off n
      split at hv
      · rename_i e' sz' r hbk
        split at hv
        · rename_i us hget0
          simp only [Option.some.injEq, Prod.mk.injEq, std_and] at hv
          obtain ⟨⟨⟨rfl, hu⟩, hk, hs, hsing, hon⟩, rfl, rfl⟩ := hv
          have hs : sz = 1 := by simpa [std] using hs
          subst hs
          have hk : k < r.elems.length := by rw [Row.len_std] at hk; simpa [std] using hk
          have hon : off + n ≤ us.elems.length := by rw [Row.len_std] at hon; simpa [std] using hon
          obtain ⟨htg, g0, g1, g2, g3, _⟩ := H.rowAt hbk
          obtain ⟨ad, c', us2, hyv, _, _, hf, _, _, hnone⟩ := source H ry hcont hu
          have hget := Row.get_std hk
          rw [hget0] at hget
          have hul : us.elems.length = sz' := by have := g3 _ (List.mem_of_getElem? hget); simpa [AV.flat] using this
          have hbl : (us.blit std off (s.sub std 0 (std.minN (s.len std) n))).elems = spl us.elems off (s.elems.take (min s.elems.length n)) := by
            rw [Row.blit_std, sub_zero_elems, Row.len_std]; rfl
          have htl : (s.elems.take (min s.elems.length n)).length = min s.elems.length n := by rw [List.length_take]; omega
          have hge : k * sz' + sz' ≤ r.elems.length * sz' := by
            have := Nat.mul_le_mul_right sz' (Nat.succ_le_of_lt hk)
            rwa [Nat.succ_mul] at this
          have hfa := flatAll_length g3
          have hsing' : ∀ x ∈ s.elems.take (min s.elems.length n), x.single = true := fun x hx => Row.sing_std hsing x (List.mem_of_mem_take hx)
          have hfl1 := flatAll_single hsing'
          have hvl : (AV.agg (us.blit std off (s.sub std 0 (std.minN (s.len std) n)))).flat.length = sz' := by
            show (us.blit std off _).elems.length = sz'
            rw [hbl, spl_length (by omega)]; exact hul
          have hfl' : flatAll (r.set std k (.agg (us.blit std off (s.sub std 0 (std.minN (s.len std) n))))).elems = spl (flatAll r.elems) (k * sz' + off) (flatAll (s.elems.take (min s.elems.length n))) := by
            rw [Row.set_std, flatAll_set g3 hk hvl]
            show spl _ _ (us.blit std off _).elems = _
            rw [hbl, hfl1]
            exact spl_spl (by omega) (fun j hj => elem_sub g3 hget j hj) hul (by omega)
          cases rx with
          | aslc _ _ _ _ _ g oo cc hn hl =>
            rcases hl.2 _ htg with rfl | ⟨rfl, rfl⟩
            · have hw := H.write hbk (r' := r.set std k (.agg (us.blit std off (s.sub std 0 (std.minN (s.len std) 0))))) (q := 0) (xs := []) (ys := []) (by rw [hfl']; simp [spl, flatAll]) (by rw [Row.set_std, List.length_set]) (by rw [Row.set_std]; exact flats_set g3 hvl) (by simp) RelL.nil (by simp)
              obtain ⟨cur, h4, _, h6, h7⟩ := hw
              have : (spl cur.toList 0 ([] : List Value)).toArray = cur := by simp [spl]
              rw [this, setRow_self w _ cur e' (0, 0) h4] at h6 h7
              refine ⟨w, L, .int .i64 0, .inl ?_, h6, h7, fun _ => by rw [Row.len_std]; simp [std]; exact .int _ _⟩
              cases ad with
              | none => simp [execOp, ho, resolve, invoke, builtin, hxv, hyv, Builtin.copy_, run_und ht, Builtin.lenOf, Builtin.firstCells, sizeOf, typeInfo, hi, storeCells, goInt]
              | some a2 => simp [execOp, ho, resolve, invoke, builtin, hxv, hyv, Builtin.copy_, run_und ht, Builtin.lenOf, Builtin.firstCells, sizeOf, typeInfo, hi, storeCells, goInt, loadCells, loadCellsFrom]
            · exact copy_into H ho ry hcont hu ht hi hsz hbk (q := k * sz' + off) hxv hfl' (by rw [Row.set_std, List.length_set]) (by rw [Row.set_std]; exact flats_set g3 hvl) (by omega)
        · cases hv
      · cases hv
    · cases hv
end
end Go.Proofs.Ytjhdnpmojhkbjaa
