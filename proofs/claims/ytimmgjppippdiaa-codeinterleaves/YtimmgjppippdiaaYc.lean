/- What comes back is read as a value. No condition. -/
import Derived.Test.YtimmgjppippdiaaYb
namespace Go.Proofs.Ytimmgjppippdiaa
open Go.RowKit (Below)

/-- a row that comes back, or nil, read as an immutable list -/
inductive Frz1 (fr : Option Fresh) : AV → AV → Prop
  | row (f : Fresh) (hf : fr = some f) (hp : f.r.pure = true) (hs : f.r.solid = true) : Frz1 fr (.row 0 0) (.list f.r)
  | nil (r : Row) (h : r.elems = []) : Frz1 fr .nils (.list r)
  | same (v : AV) (hp : v.pure = true) (hs : v.solid = true) : Frz1 fr v v
def FrzL (fr : Option Fresh) : List AV → List AV → Prop
  | [], [] => True
  | x :: xs, y :: ys => Frz1 fr x y ∧ FrzL fr xs ys
  | _, _ => False
inductive Frz (fr : Option Fresh) : AV → AV → Prop
  | one {v v' : AV} (h : Frz1 fr v v') : Frz fr v v'
  | tup {xs ys : List AV} (h : FrzL fr xs ys) : Frz fr (.tup xs) (.tup ys)
theorem FrzL.spec {fr : Option Fresh} : ∀ {xs ys : List AV}, FrzL fr xs ys → xs.length = ys.length ∧ ∀ (j : Nat) (y : AV), ys[j]? = some y → ∃ x, xs[j]? = some x ∧ Frz1 fr x y
  | [], [], _ => ⟨rfl, fun j y h => by simp at h⟩
  | x :: xs, y :: ys, h => by
    obtain ⟨h1, h2⟩ := h
    obtain ⟨e1, e2⟩ := FrzL.spec h2
    refine ⟨by simp [e1], fun j z hz => ?_⟩
    cases j with
    | zero => simp at hz; subst hz; exact ⟨x, rfl, h1⟩
    | succ j => obtain ⟨q, q1, q2⟩ := e2 j z (by simpa using hz); exact ⟨q, by simpa using q1, q2⟩
section
variable {P : Program} {w w' : World} {okA : Nat → Prop} {L' : Lay} {fr : Option Fresh}
theorem frz1_rel (H : HRel ⟨P, w, okA, []⟩ (frHeap fr) L' w') {v v' : AV} {x : Value} (hs : Frz1 fr v v') (hr : RelC ⟨P, w, okA, []⟩ (frHeap fr) L' w' v x) : RelC ⟨P, w, fun _ => False, []⟩ [] L' w' v' x := by
  cases hs with
  | nil r h => cases hr with | nils => exact .nil r none 0 h
  | same _ hp hs =>
    exact ((hr.pure hp : Rel w' _ [] L' v x).solid hs)
  | row f hf hp hso =>
    subst hf
    have hb : blk (frHeap (some f)) 0 0 = .row f.e f.sz f.r := rfl
    obtain ⟨ht, h0, h1, h2, h3, cur, h4, h5, h6, h7, h8⟩ := H.rowAt hb
    have hl := H.live 0 0 (by rw [ht]; simp)
    cases hr with
    | row _ _ g o n c hn hlv =>
      obtain ⟨rfl, rfl, rfl, rfl⟩ := hlv.2 _ ht
      have hpa := pureL_flatAll hp
      refine .list f.r _ rfl ⟨L'.loc 0 0, 0, none⟩ _ _ f.sz _ hl.2 (.inr ⟨hl.1, fun a i ht => absurd rfl ht⟩) rfl hn h3 h6.1.symm h7 (fun j v hj => h8 j v hj) hpa (fun j u v hu hv => ?_)
      have hsu : u.solid = true := AV.solidL_mem (allSolid_of hso) hu
      exact ((h6.2 j u v hu hv).pure (AV.pureL_mem hpa hu) : Rel w' _ [] L' u v).solid hsu
theorem pure_new {f : FuncId} {args : List AV} {r r' : AV} (h : Pure P f args r fr) (hz : isNew fr = false) (hs : Frz fr r r') : Pure P f args r' newF := by
  intro w okA L vs hargs hok
  refine (h w okA L vs hargs hok).mono ?_
  rintro e w' ⟨x, L', rfl, hb, hp⟩
  unfold PostC at hp
  rw [hz] at hp
  obtain ⟨H, hr⟩ := hp
  refine ⟨x, L', rfl, hb, ?_⟩
  show RelC ⟨P, w, fun _ => False, []⟩ [] L' w' r' x
  cases hs with
  | one hs => exact frz1_rel H hs hr
  | tup hs =>
    obtain ⟨e1, e2⟩ := hs.spec
    cases hr with
    | tup xs vs hl hrr =>
      refine .tup _ vs (by rw [← e1]; exact hl) (fun j u v hu hv => ?_)
      obtain ⟨q, q1, q2⟩ := e2 j u hu
      exact frz1_rel H q2 (hrr j q v q1 hv)
end

/-! ### Walks over lists of frames, and to a function's end -/
def gwalkL (A : Ar) (T : Tab) (l : List Ctr) (n : Nat) (pa : List Bool) (fs : List AFrame) (h : AHeap) : Option (List Bool × List AFrame × AHeap) :=
  match fs with
  | [] => none
  | f :: fs => gwalk A T l n true pa f fs h
def gfin (A : Ar) (T : Tab) (l : List Ctr) (n : Nat) (pa : List Bool) (fn : FuncId) (fs : List AFrame) (h : AHeap) : Option (List Bool × AV × Option Fresh) :=
  match fs with
  | [] => none
  | f :: fs => match gsteps A T l n pa [] f fs h with
    | none => none
    | some (acc, g, gs, h') => match gs with
      | _ :: _ => none
      | [] => match g.ret && Nat.beq g.fn fn with
        | false => none
        | true => match g.rnd with
          | some _ => none
          | none => match g.defs with
            | _ :: _ => none
            | [] => match collR A g.env h' g.res with
              | none => none
              | some (b, vs) => match exportR h' (joinR vs) with
                | none => none
                | some (r, fr) => some (b :: acc, r, fr)
section
variable {C : Ctx} {T : Tab} {l : List Ctr} {n : Nat} {pa acc : List Bool} {fs gs : List AFrame} {h h' : AHeap} {Q : List AFrame → AHeap → Prop}
/-- from a loop's head to the next -/
theorem ev_go (hfol : C.P.follows .mixedOrders = true) (hT : TabOK C.P T) (hl : CtrsOK C.P l) (hw : gwalkL std T l n pa fs h = some (acc, gs, h')) (hb : AllT acc) (hq : Ev C gs h' Q) : Ev C fs h Q := by
  unfold gwalkL at hw
  split at hw
  · cases hw
  · exact ev_walk hfol hT hl hw hb hq
/-- to the end -/
theorem ev_end (hfol : C.P.follows .mixedOrders = true) (hT : TabOK C.P T) (hl : CtrsOK C.P l) {fn : FuncId} {r r' : AV} {fr fr' : Option Fresh} (hw : gfin std T l n pa fn fs h = some (acc, r', fr')) (hb : AllT acc) (hr : r' = r) (hfr : fr' = fr) : Ev C fs h (FinQ fn r fr) := by
  subst hr; subst hfr
  unfold gfin at hw
  split at hw
  · cases hw
  · split at hw
    · cases hw
    · rename_i acc1 g gs1 h1 hs
      split at hw
      · cases hw
      · split at hw
        · cases hw
        · rename_i hg
          simp only [Bool.and_eq_true] at hg
          split at hw
          · cases hw
          · rename_i hn
            split at hw
            · cases hw
            · rename_i hd
              split at hw
              · cases hw
              · rename_i b vs hc
                split at hw
                · cases hw
                · rename_i hex
                  cases hw
                  have hb1 : b = true := hb.1
                  subst hb1
                  exact (gsteps_sound hfol hT hl n _ _ _ _ hs hb.2.mem (.now (by simp) ⟨g, vs, rfl, Nat.eq_of_beq_eq_true hg.2, hg.1, hn, hd, hc, hex⟩)).2
end
end Go.Proofs.Ytimmgjppippdiaa
namespace Go.Proofs.Ytimmgjppippdiaa
/-! ### The standard arithmetic, read -/
@[simp] theorem s_add (a b : Int) : std.add a b = a + b := rfl
@[simp] theorem s_sub (a b : Int) : std.sub a b = a - b := rfl
@[simp] theorem s_mul (a b : Int) : std.mul a b = a * b := rfl
@[simp] theorem s_quo (a b : Int) : std.quo a b = Int.tdiv a b := rfl
@[simp] theorem s_rem (a b : Int) : std.rem a b = Int.tmod a b := rfl
@[simp] theorem s_neg (a : Int) : std.neg a = -a := rfl
@[simp] theorem s_lt (a b : Int) : std.lt a b = decide (a < b) := rfl
@[simp] theorem s_le (a b : Int) : std.le a b = decide (a ≤ b) := rfl
@[simp] theorem s_eq (a b : Int) : std.eq a b = decide (a = b) := rfl
@[simp] theorem s_nat (a : Int) : std.nat a = a.toNat := rfl
@[simp] theorem s_int (a : Nat) : std.int a = (a : Int) := rfl
@[simp] theorem s_max (a b : Int) : std.max a b = Max.max a b := rfl
@[simp] theorem s_min (a b : Int) : std.min a b = Min.min a b := rfl
@[simp] theorem s_ltN (a b : Nat) : std.ltN a b = decide (a < b) := rfl
@[simp] theorem s_leN (a b : Nat) : std.leN a b = decide (a ≤ b) := rfl
@[simp] theorem s_eqN (a b : Nat) : std.eqN a b = decide (a = b) := rfl
@[simp] theorem s_addN (a b : Nat) : std.addN a b = a + b := rfl
@[simp] theorem s_subN (a b : Nat) : std.subN a b = a - b := rfl
@[simp] theorem s_minN (a b : Nat) : std.minN a b = Min.min a b := rfl
@[simp] theorem s_len (l : List Int) : std.len l = l.length := rfl
@[simp] theorem s_nth (l : List Int) (j : Nat) : std.nth l j = l.getD j 0 := rfl
@[simp] theorem s_set (l : List Int) (j : Nat) (x : Int) : std.set l j x = l.set j x := rfl
@[simp] theorem s_app (a b : List Int) : std.app a b = a ++ b := rfl
@[simp] theorem s_sub3 (l : List Int) (k n : Nat) : std.sub3 l k n = (l.drop k).take n := rfl
@[simp] theorem s_rep (n : Nat) (x : Int) : std.rep n x = List.replicate n x := rfl
@[simp] theorem s_and (a b : Bool) : std.and a b = (a && b) := rfl
@[simp] theorem s_not (a : Bool) : std.not a = !a := rfl
@[simp] theorem s_shl (a b : Int) : std.shl a b = a * 2 ^ b.toNat := rfl
@[simp] theorem s_shr (a b : Int) : std.shr a b = a.fdiv (2 ^ b.toNat) := rfl
@[simp] theorem s_inR64 (n : Int) : std.inR .i64 n = decide (-9223372036854775808 ≤ n ∧ n ≤ 9223372036854775807) := rfl
@[simp] theorem allT_nil : AllT [] = True := rfl
@[simp] theorem allT_cons (b : Bool) (l : List Bool) : AllT (b :: l) = (b = true ∧ AllT l) := rfl
end Go.Proofs.Ytimmgjppippdiaa
