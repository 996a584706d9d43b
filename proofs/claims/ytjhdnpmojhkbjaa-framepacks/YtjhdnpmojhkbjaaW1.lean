/- Arguments' readings as the machine's values; how a law is closed. No condition. -/
import Derived.Test.YtjhdnpmojhkbjaaR0
import Derived.Test.YtjhdnpmojhkbjaaRows
import Derived.ProofKit
import Derived.ChangeSlices
import Derived.Carry
import Derived.OpenShut
import Derived.Deep.Matrix
import Derived.ChangeSame
namespace Go.Proofs.Ytjhdnpmojhkbjaa
open Go.ChangeShapes Go.WideShapes Go.ChangeAt Go.RowKit
theorem own : ownKnob Try.prog.godebug = none := by kernel_rfl
theorem laidOut : laidOutB Try.prog = true := by kernel_rfl
theorem cells3 : Try.prog.cellsOf 3 = 1 := by kernel_rfl
abbrev oldOk (W : World) : Nat → Prop := fun g => g < W.heap.size
theorem cell_lt {W : World} {a : Addr} {v : Value} (h : W.cell? a = some v) : a.block < W.heap.size := by
  unfold World.cell? at h
  cases hb : W.heap[a.block]? with
  | none => simp [hb] at h
  | some o => exact (Array.getElem?_eq_some_iff.1 hb).1
/-- a slice of integers, as it is read -/
theorem rel_ints {H : Type} {enc : TypeId × Value → H} {W : World} {L : Lay} {t e : TypeId} {k : IntKind} {v : Value} {d : DataW H} {ps : List MemPlace} (ht : Try.prog.underlying t = some (.slice e)) (he : Try.prog.underlying e = some (.int k)) (hc : Try.prog.cellsOf e = 1)
    (h1 : v.oneCell' = true) (h : DataW.Trod enc Try.prog W 0 (fun _ => true) true t v d ps) : ∃ xs : List Int, Rel W (oldOk W) [] L (.list (.ints k xs)) v ∧ ∀ x ∈ xs, (Lit.int k x).wf = true := by
  obtain ⟨fuel, hf⟩ := h
  have hcs : v.cells.toList = [v] := by cases v <;> first | rfl | (simp [Value.oneCell'] at h1)
  rcases open_ints ht he hc hf with ⟨hx, _⟩ | ⟨a, len, cap, zs, hx, hb, hl, hm, hz, _, hcell, hwz⟩
  · rw [hcs] at hx
    cases hx
    exact ⟨[], .nil _ none 0 rfl, fun x hx => by cases hx⟩
  · rw [hcs] at hx
    cases hx
    simp only [if_true] at hz
    refine ⟨zs.take len, ?_, fun x hx => hwz x (List.mem_of_mem_take hx)⟩
    by_cases h0 : len = 0
    · subst h0; exact .nil _ (some a) cap rfl
    · have hz0 : 0 < zs.length := by omega
      have hc0 := hcell 0 hz0
      have hlt : a.block < W.heap.size := by have := cell_lt hc0; rw [block_add] at this; exact this
      have hfa : flatAll ((zs.take len).map (AV.int k)) = (zs.take len).map (AV.int k) := flatAll_single (fun x hx => by obtain ⟨n, _, rfl⟩ := List.mem_map.1 hx; rfl)
      refine .list _ _ rfl a len cap 1 ((zs.take len).map (Value.int k)) hlt hlt (by simp [Row.elems]; omega) hl (fun x hx => by obtain ⟨n, _, rfl⟩ := List.mem_map.1 hx; rfl) (by show ((zs.take len).map (Value.int k)).length = (flatAll ((zs.take len).map (AV.int k))).length; rw [hfa, List.length_map, List.length_map]) (fun x hx => by obtain ⟨n, _, rfl⟩ := List.mem_map.1 hx; rfl) (fun j x hj => ?_) ?_ (fun j u x hu hx => ?_)
      · rw [List.getElem?_map] at hj
        cases hq : (zs.take len)[j]? with
        | none => rw [hq] at hj; cases hj
        | some n =>
          rw [hq] at hj
          simp only [Option.map_some, Option.some.injEq] at hj
          subst hj
          rw [List.getElem?_take] at hq
          split at hq
          · have hjl := (List.getElem?_eq_some_iff.1 hq).1
            rw [hcell j hjl]
            simp [List.getD_eq_getElem?_getD, hq]
          · cases hq
      · simp only [Row.elems, hfa]
        exact pureL_elems (q := .ints k (zs.take len)) rfl
      · simp only [Row.elems, hfa] at hu
        rw [List.getElem?_map] at hu hx
        cases hq : (zs.take len)[j]? with
        | none => rw [hq] at hu; cases hu
        | some n =>
          rw [hq] at hu hx
          simp only [Option.map_some, Option.some.injEq] at hu hx
          subst hu; subst hx
          exact .int k n
/-- what a law's contract gives -/
theorem law_runs {f : FuncId} {args : List AV} {vs : Array Value} {W : World} (hp : Pure Try.prog f args (.bool true) none) (hr : RelL W (oldOk W) [] ⟨fun _ _ => 0, fun _ _ => 0⟩ args vs.toList) :
    Calls Try.prog f vs W fun e W' => e = .returned (.bool true) ∧ Below W.heap.size W W' := by
  refine (hp W (oldOk W) _ vs hr (fun g hg => hg)).mono ?_
  rintro e W' ⟨v, L', rfl, hb, hpo⟩
  refine ⟨?_, hb⟩
  have : RelC ⟨Try.prog, W, oldOk W, []⟩ (frHeap none) L' W' (.bool true) v := hpo.2
  cases this
  rfl
end Go.Proofs.Ytjhdnpmojhkbjaa

/- Arguments' readings: rows of integers, a parity-check code. No condition. -/
namespace Go.Proofs.Ytjhdnpmojhkbjaa
open Go.ChangeShapes Go.WideShapes Go.ChangeAt Go.RowKit Go.Deep
theorem rel_ints' {W : World} {L : Lay} {k : IntKind} {ad : Option Addr} {len cap : Nat} {zs : List Int} (hl : len ≤ cap) (hz : zs.length = cap) (hnone : ad = none → cap = 0) (hcell : ∀ a, ad = some a → ∀ i, i < cap → W.cell? (a.add i) = some (.int k (zs.getD i 0))) :
    Rel W (oldOk W) [] L (.list (.ints k (zs.take len))) (.slice ad len cap) := by
  by_cases h0 : len = 0
  · subst h0; exact .nil _ ad cap rfl
  · cases ad with
    | none => have := hnone rfl; omega
    | some a =>
      have hc0 := hcell a rfl 0 (by omega)
      have hlt : a.block < W.heap.size := by have := cell_lt hc0; rw [block_add] at this; exact this
      have hfa : flatAll ((zs.take len).map (AV.int k)) = (zs.take len).map (AV.int k) := flatAll_single (fun x hx => by obtain ⟨n, _, rfl⟩ := List.mem_map.1 hx; rfl)
      refine .list _ _ rfl a len cap 1 ((zs.take len).map (Value.int k)) hlt hlt (by simp [Row.elems]; omega) hl (fun x hx => by obtain ⟨n, _, rfl⟩ := List.mem_map.1 hx; rfl) (by show ((zs.take len).map (Value.int k)).length = (flatAll ((zs.take len).map (AV.int k))).length; rw [hfa, List.length_map, List.length_map]) (fun x hx => by obtain ⟨n, _, rfl⟩ := List.mem_map.1 hx; rfl) (fun j x hj => ?_) ?_ (fun j u x hu hx => ?_)
      · rw [List.getElem?_map] at hj
        cases hq : (zs.take len)[j]? with
        | none => rw [hq] at hj; cases hj
        | some n =>
          rw [hq] at hj
          simp only [Option.map_some, Option.some.injEq] at hj
          subst hj
          rw [List.getElem?_take] at hq
          split at hq
          · have hjl := (List.getElem?_eq_some_iff.1 hq).1
            rw [hcell a rfl j (by omega)]
            simp [List.getD_eq_getElem?_getD, hq]
          · cases hq
      · simp only [Row.elems, hfa]
        exact pureL_elems (q := .ints k (zs.take len)) rfl
      · simp only [Row.elems, hfa] at hu
        rw [List.getElem?_map] at hu hx
        cases hq : (zs.take len)[j]? with
        | none => rw [hq] at hu; cases hu
        | some n =>
          rw [hq] at hu hx
          simp only [Option.map_some, Option.some.injEq] at hu hx
          subst hu; subst hx
          exact .int k n
/-- a slice of slices of integers -/
theorem rel_rows {H : Type} {enc : TypeId × Value → H} {W : World} {L : Lay} {t e q : TypeId} {k : IntKind} {v : Value} {fuel : Nat} {x : DataW H × List MemPlace} (ht : Try.prog.underlying t = some (.slice e)) (he : Try.prog.underlying e = some (.slice q)) (hq : Try.prog.underlying q = some (.int k))
    (ce : Try.prog.cellsOf e = 1) (cq : Try.prog.cellsOf q = 1) (h : DataW.trod enc Try.prog W 0 (fun _ => true) true fuel t [v] = some x) : ∃ cs : List AV, Rel W (oldOk W) [] L (.list (.big (.ints k) cs)) v := by
  rcases open_int_rows ht he hq ce cq h with ⟨hx, _⟩ | ⟨a, len, cap, A, Ln, Cp, Z, hx, _, hl, hm, _, hr⟩
  · cases hx
    exact ⟨[], .nil _ none 0 rfl⟩
  · cases hx
    refine ⟨(List.range len).map fun r => .list (.ints k ((Z r).take (Ln r))), ?_⟩
    by_cases h0 : len = 0
    · subst h0; exact .nil _ (some a) cap rfl
    · have hc0 := (hr 0 (by omega)).1
      have hlt : a.block < W.heap.size := by have := cell_lt hc0; rw [block_add] at this; exact this
      have hel : (Row.big (.ints k) ((List.range len).map fun r => .list (.ints k ((Z r).take (Ln r))))).elems = (List.range len).map fun r => AV.list (.ints k ((Z r).take (Ln r))) := by
        simp [Row.elems, Sh.view, Sh.view1, AV.toIs, List.map_map, Function.comp_def]
      have hfa : flatAll ((List.range len).map fun r => AV.list (.ints k ((Z r).take (Ln r)))) = (List.range len).map fun r => AV.list (.ints k ((Z r).take (Ln r))) := flatAll_single (fun x hx => by obtain ⟨n, _, rfl⟩ := List.mem_map.1 hx; rfl)
      refine .list _ _ hel.symm a len cap 1 ((List.range len).map fun r => Value.slice (A r) (Ln r) (Cp r)) hlt hlt (by simp) hl (fun x hx => by obtain ⟨n, _, rfl⟩ := List.mem_map.1 hx; rfl) (by rw [hfa]; simp) (fun x hx => by obtain ⟨n, _, rfl⟩ := List.mem_map.1 hx; rfl) (fun j x hj => ?_) ?_ (fun j u x hu hx => ?_)
      · rw [List.getElem?_map] at hj
        by_cases hjl : j < len
        · rw [List.getElem?_range hjl] at hj
          simp only [Option.map_some, Option.some.injEq] at hj
          subst hj
          exact (hr j (by omega)).1
        · rw [List.getElem?_eq_none (by simp; omega)] at hj; cases hj
      · rw [hfa]
        have hall : ∀ l : List Nat, AV.pureL (l.map fun r => AV.list (.ints k ((Z r).take (Ln r)))) = true := fun l => by
          induction l with
          | nil => rfl
          | cons b l ih => simp only [List.map_cons, AV.pureL, AV.pure, ih, Bool.and_self]
        exact hall _
      · rw [hfa] at hu
        rw [List.getElem?_map] at hu hx
        by_cases hjl : j < len
        · rw [List.getElem?_range hjl] at hu hx
          simp only [Option.map_some, Option.some.injEq] at hu hx
          subst hu; subst hx
          obtain ⟨_, h2, _, h4, _, h6, h7⟩ := hr j (by omega)
          exact rel_ints' h2 h4 h6 (fun a' ha c hc => (h7 a' ha).2 c hc)
        · rw [List.getElem?_eq_none (by simp; omega)] at hu; cases hu
end Go.Proofs.Ytjhdnpmojhkbjaa
