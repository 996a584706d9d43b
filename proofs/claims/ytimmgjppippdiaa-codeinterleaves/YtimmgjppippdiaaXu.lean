/- A function called at given values, run to its end. No condition. -/
import Derived.Test.YtimmgjppippdiaaXt
namespace Go.Proofs.Ytimmgjppippdiaa
open Go.RowKit (Below)
def K0 : Con := fun _ _ => none
/-- what a run's last state hands back -/
def finR (A : Ar) (f : FuncId) (s : ASt) : Option (Bool × AV × Option Fresh) :=
  match s with
  | (acc, g, fs, h) => match fs with
    | _ :: _ => none
    | [] => match g.ret && Nat.beq g.fn f with
      | false => none
      | true => match g.rnd with
        | some _ => none
        | none => match g.defs with
          | _ :: _ => none
          | [] => match collR A g.env h g.res with
            | none => none
            | some (b, vs) => match exportR h (joinR vs) with
              | none => none
              | some (r, fr) => match acc.all (fun b => b) with
                | true => some (b, r, fr)
                | false => none
/-- run f on args to its end -/
def runF (A : Ar) (T : Tab) (K : Con) (n : Nat) (f : FuncId) (args : List AV) : Option (Bool × AV × Option Fresh) :=
  match enterA T f args with
  | none => none
  | some af => finR A f (arun A T K false n [] af [] [])
/-- contracts by runs, so deep -/
def conF (A : Ar) (T : Tab) (n : Nat) : Nat → Con
  | 0 => K0
  | d + 1 => fun f args => runF A T (conF A T n d) n f args
section
variable {P : Program} {T : Tab} {K : Con}
theorem arun_ev (hfol : P.follows .mixedOrders = true) (hT : TabOK P T) (hK : ConOK P K) {stop : Bool} {n : Nat} {f f' : AFrame} {fs fs' : List AFrame} {h h' : AHeap} {acc : List Bool} {C : Ctx} (hC : C.P = P) {Q : List AFrame → AHeap → Prop}
    (hr : arun std T K stop n [] f fs h = (acc, f', fs', h')) (hb : acc.all (fun b => b) = true) (hq : Ev C (f' :: fs') h' Q) : Ev C (f :: fs) h Q := by
  subst hC
  refine (arun_sound hfol hT hK n (Q := Q) acc f' fs' h' (by rw [hr]) (fun b hb' => ?_) hq).2
  have := List.all_eq_true.1 hb b hb'
  simpa using this
theorem k0_ok : ConOK P K0 := fun f args r fr h => by cases h
theorem finR_spec {f : FuncId} {s : ASt} {r : AV} {fr : Option Fresh} (h : finR std f s = some (true, r, fr)) : ∃ acc g h', s = (acc, g, [], h') ∧ acc.all (fun b => b) = true ∧ FinQ f r fr [g] h' := by
  obtain ⟨acc, g, fs, hp⟩ := s
  unfold finR at h
  dsimp only at h
  split at h
  · cases h
  · split at h
    · cases h
    · rename_i hg
      simp only [Bool.and_eq_true] at hg
      split at h
      · cases h
      · rename_i hn
        split at h
        · cases h
        · rename_i hd
          split at h
          · cases h
          · rename_i b vs hc
            split at h
            · cases h
            · rename_i r' fr' hex
              split at h
              · rename_i hacc
                simp only [Option.some.injEq, Prod.mk.injEq] at h
                obtain ⟨rfl, rfl, rfl⟩ := h
                exact ⟨acc, g, hp, rfl, hacc, g, vs, rfl, Nat.eq_of_beq_eq_true hg.2, hg.1, hn, hd, hc, hex⟩
              · cases h
theorem runF_sound (hfol : P.follows .mixedOrders = true) (hT : TabOK P T) (hK : ConOK P K) {n : Nat} : ConOK P (runF std T K n) := fun f args r fr h => by
  unfold runF at h
  split at h
  · cases h
  · rename_i af haf
    obtain ⟨acc, g, h', hs, hacc, hfin⟩ := finR_spec h
    exact pure_of_ev hT haf (fun w okA cs => arun_ev hfol hT hK rfl hs hacc (.now (by simp) hfin))
theorem conF_ok (hfol : P.follows .mixedOrders = true) (hT : TabOK P T) {n : Nat} : ∀ d, ConOK P (conF std T n d)
  | 0 => k0_ok
  | d + 1 => runF_sound hfol hT (conF_ok hfol hT d)
end
end Go.Proofs.Ytimmgjppippdiaa
