/- Tracked blocks are named anew: those that nothing names are dropped, the others are counted from 0. No condition. -/
import Derived.Test.YtimmgjppippdiaaYa
namespace Go.Proofs.Ytimmgjppippdiaa
open Go.RowKit (Below)

mutual
def AV.ren (σ : Nat → Nat → Option Nat) : AV → AV
  | .ptr a i k o => match σ a i with | some j => .ptr a j k o | none => .top
  | .row a i => match σ a i with | some j => .row a j | none => .top
  | .slc a i k n c => match σ a i with | some j => .slc a j k n c | none => .top
  | .aslc a i k o n => match σ a i with | some j => .aslc a j k o n | none => .top
  | .yld a i => match σ a i with | some j => .yld a j | none => .top
  | .agg r => .agg (Row.ren σ r)
  | .tup xs => .tup (AV.renL σ xs)
  | .fn f xs => .fn f (AV.renL σ xs)
  | .int k n => .int k n
  | .bool b => .bool b
  | .str s => .str s
  | .flt k b => .flt k b
  | .val v => .val v
  | .nils => .nils
  | .list r => .list r
  | .eptr x o => .eptr x o
  | .und => .und
  | .top => .top
def AV.renL (σ : Nat → Nat → Option Nat) : List AV → List AV
  | [] => []
  | x :: xs => AV.ren σ x :: AV.renL σ xs
def Row.ren (σ : Nat → Nat → Option Nat) : Row → Row
  | .gen xs => .gen (AV.renL σ xs)
  | .ints k l => .ints k l
  | .flts k l => .flts k l
  | .tab n f => .tab n fun j => AV.ren σ (f j)
end
section
variable {σ : Nat → Nat → Option Nat}
theorem renL_map : ∀ xs : List AV, AV.renL σ xs = xs.map (AV.ren σ)
  | [] => rfl
  | x :: xs => by rw [AV.renL, renL_map xs]; rfl
theorem ren_elems (r : Row) : (Row.ren σ r).elems = r.elems.map (AV.ren σ) := by
  cases r with
  | gen xs => rw [Row.ren, Row.elems, Row.elems, renL_map]
  | ints k l => rw [Row.ren, Row.elems, List.map_map]; rfl
  | flts k l => rw [Row.ren, Row.elems, List.map_map]; rfl
  | tab n f => rw [Row.ren, Row.elems, Row.elems, List.map_map]; rfl
theorem ren_flat (v : AV) : (AV.ren σ v).flat = v.flat.map (AV.ren σ) := by
  cases v with
  | agg r => simp only [AV.ren, AV.flat, ren_elems]
  | ptr a i k o => simp only [AV.ren]; split <;> simp_all [AV.flat, AV.ren]
  | row a i => simp only [AV.ren]; split <;> simp_all [AV.flat, AV.ren]
  | slc a i k n c => simp only [AV.ren]; split <;> simp_all [AV.flat, AV.ren]
  | aslc a i k o n => simp only [AV.ren]; split <;> simp_all [AV.flat, AV.ren]
  | yld a i => simp only [AV.ren]; split <;> simp_all [AV.flat, AV.ren]
  | _ => rfl
theorem ren_flatAll (xs : List AV) : flatAll (xs.map (AV.ren σ)) = (flatAll xs).map (AV.ren σ) := by
  induction xs with
  | nil => rfl
  | cons x xs ih => rw [List.map_cons, flatAll_cons, flatAll_cons, List.map_append, ih, ren_flat]
end

/-- new names for tracked blocks -/
structure Good (h : AHeap) (L : Lay) (h' : AHeap) (L' : Lay) (σ : Nat → Nat → Option Nat) : Prop where
  fwd : ∀ a i j, σ a i = some j → j < nxt h' a ∧ (∀ sz, (blk h' a j).tag = some sz → (blk h a i).tag = some sz) ∧ L'.loc a j = L.loc a i ∧ L'.size a j = L.size a i
  bwd : ∀ a j, (blk h' a j).tag ≠ none → ∃ i, (blk h a i).tag ≠ none ∧ L'.loc a j = L.loc a i

section
variable {C : Ctx} {h h' : AHeap} {L L' : Lay} {w : World} {σ : Nat → Nat → Option Nat} {ok ok' : Nat → Prop}
theorem Good.okk (G : Good h L h' L' σ) {g : Nat} (ho : okOf C h L g) : okOf C h' L' g := by
  rcases ho with ho | ⟨h1, h2⟩
  · exact .inl ho
  · refine .inr ⟨h1, fun a j ht e => ?_⟩
    obtain ⟨i, hi, hl⟩ := G.bwd a j ht
    exact h2 a i hi (hl.symm.trans e)
theorem Live.ren (G : Good h L h' L' σ) {a i j : Nat} (hs : σ a i = some j) {p p' : Nat → Nat × Nat → Prop} (hl : Live h L a i p) (hp : ∀ sz, L'.size a j = L.size a i → p (L.loc a i) sz → p' (L.loc a i) sz) : Live h' L' a j p' := by
  obtain ⟨g1, g2, g3, g4⟩ := G.fwd a i j hs
  exact ⟨g1, fun sz ht => by rw [g3]; exact hp sz g4 (hl.2 sz (g2 sz ht))⟩
theorem Rel.ren (G : Good h L h' L' σ) (hok : ∀ g, ok g → ok' g) {av : AV} {v : Value} (hr : Rel w ok h L av v) : Rel w ok' h' L' (AV.ren σ av) v := by
  induction hr with
  | int k n => exact .int k n
  | bool b => exact .bool b
  | str x => exact .str x
  | flt k b => exact .flt k b
  | val v => exact .val v
  | nils => exact .nils
  | nil r a c hr => exact .nil r a c hr
  | list r xs hx ad n cap sz cs hb ho hn hcap hsz hl h1 hc hp hr ih =>
    exact .list r xs hx ad n cap sz cs hb (hok _ ho) hn hcap hsz hl h1 hc hp (fun j u v hu hv => ((hr j u v hu hv).okmono (fun g _ ho => hok g ho)).pure (AV.pureL_mem hp hu))
  | eptr x off ad cs hs hb ho hl h1 hc hp hr ih =>
    exact .eptr x off ad cs hs hb (hok _ ho) hl h1 hc hp (fun j u v hu hv => ((hr j u v hu hv).okmono (fun g _ ho => hok g ho)).pure (AV.pureL_mem hp hu))
  | agg r xs hx vs hl h1 hr ih =>
    rw [AV.ren]
    refine .agg _ (xs.map (AV.ren σ)) (by rw [ren_elems, hx]) vs (by simpa using hl) h1 (fun j u v hu hv => ?_)
    rw [List.getElem?_map] at hu
    cases hxj : xs[j]? with
    | none => rw [hxj] at hu; cases hu
    | some z => rw [hxj] at hu; simp only [Option.map_some, Option.some.injEq] at hu; subst hu; exact ih j z v hxj hv
  | tup xs vs hl hr ih =>
    rw [AV.ren, renL_map]
    refine .tup _ vs (by simpa using hl) (fun j u v hu hv => ?_)
    rw [List.getElem?_map] at hu
    cases hxj : xs[j]? with
    | none => rw [hxj] at hu; cases hu
    | some z => rw [hxj] at hu; simp only [Option.map_some, Option.some.injEq] at hu; subst hu; exact ih j z v hxj hv
  | fn f xs vs hl hr ih =>
    rw [AV.ren, renL_map]
    refine .fn f _ vs (by simpa using hl) (fun j u v hu hv => ?_)
    rw [List.getElem?_map] at hu
    cases hxj : xs[j]? with
    | none => rw [hxj] at hu; cases hu
    | some z => rw [hxj] at hu; simp only [Option.map_some, Option.some.injEq] at hu; subst hu; exact ih j z v hxj hv
  | ptr a i k off g o hl =>
    rw [AV.ren]
    cases hs : σ a i with
    | none => exact .top _
    | some j => exact .ptr a j k off g o (hl.ren G hs fun _ _ h => h)
  | row a i g o n c hn hl =>
    rw [AV.ren]
    cases hs : σ a i with
    | none => exact .top _
    | some j => exact .row a j g o n c hn (hl.ren G hs fun _ e h => by rw [e]; exact h)
  | slc a i k n cap g o c hn hl =>
    rw [AV.ren]
    cases hs : σ a i with
    | none => exact .top _
    | some j => exact .slc a j k n cap g o c hn (hl.ren G hs fun _ e h => by rw [e]; exact h)
  | aslc a i k off n g o c hn hl =>
    rw [AV.ren]
    cases hs : σ a i with
    | none => exact .top _
    | some j => exact .aslc a j k off n g o c hn (hl.ren G hs fun _ _ h => h)
  | yld a i g hl =>
    rw [AV.ren]
    cases hs : σ a i with
    | none => exact .top _
    | some j => exact .yld a j g (hl.ren G hs fun _ _ h => h)
  | und => exact .und
  | top v => exact .top v
def renEnv (σ : Nat → Nat → Option Nat) : Env0 → Env0
  | [] => []
  | (t, v) :: l => (t, AV.ren σ v) :: renEnv σ l
theorem aget_renEnv : ∀ (env : Env0) (t : Nat), aget (renEnv σ env) t = (aget env t).map (AV.ren σ)
  | [], t => rfl
  | (i, x) :: l, t => by
    simp only [renEnv, aget]
    split
    · rfl
    · exact aget_renEnv l t
theorem EnvRel.ren (G : Good h L h' L' σ) {env : Env0} {tmps : Array Value} (he : EnvRel C h L w env tmps) : EnvRel C h' L' w (renEnv σ env) tmps := by
  intro t av ht
  rw [aget_renEnv] at ht
  cases hx : aget env t with
  | none => rw [hx] at ht; cases ht
  | some u => rw [hx] at ht; simp only [Option.map_some, Option.some.injEq] at ht; subst ht; exact (he t u hx).ren G (fun g ho => G.okk ho)
def Blk.ren (σ : Nat → Nat → Option Nat) : Blk → Blk
  | .row e sz r => .row e sz (Row.ren σ r)
  | .lp l => .lp { l with env := renEnv σ l.env }
  | .dfr => .dfr
  | .dead => .dead
theorem Blk.ren_tag (b : Blk) : (b.ren σ).tag = b.tag := by
  cases b with
  | row e sz r => simp only [Blk.ren, Blk.tag, ren_elems, List.length_map]
  | _ => rfl
theorem BRel.ren (G : Good h L h' L' σ) {g n : Nat} {b : Blk} (hb : BRel C h L w g n b) : BRel C h' L' w g n (b.ren σ) := by
  cases b with
  | row e sz r =>
    obtain ⟨h0, h1, h2, h3, cur, h4, h5, h6, h7⟩ := hb
    refine ⟨h0, h1, by rw [ren_elems, List.length_map]; exact h2, fun x hx => ?_, cur, h4, h5, ?_, by rw [ren_elems, List.length_map]; exact h7⟩
    · rw [ren_elems] at hx
      obtain ⟨y, hy, rfl⟩ := List.mem_map.1 hx
      rw [ren_flat, List.length_map]; exact h3 y hy
    · rw [ren_elems, List.length_map, ren_flatAll]
      refine ⟨by rw [List.length_map]; exact h6.1, fun j u v hu hv => ?_⟩
      rw [List.getElem?_map] at hu
      cases hx : (flatAll r.elems)[j]? with
      | none => rw [hx] at hu; cases hu
      | some z => rw [hx] at hu; simp only [Option.map_some, Option.some.injEq] at hu; subst hu; exact (h6.2 j z v hx hv).ren G (fun g ho => G.okk ho)
  | lp l =>
    obtain ⟨r, h1, h2, h3, h4, h5, h6, h7, h8, h9⟩ := hb
    exact ⟨r, h1, h2, h3, h4, h5.ren G, h6, h7, h8, h9⟩
  | dfr => exact hb
  | dead => trivial

/-! ### Frames -/
def renIt (σ : Nat → Nat → Option Nat) : AItem → Option AItem
  | .inRF a i => match σ a i with | some j => some (.inRF a j) | none => none
  | .endRF a i => match σ a i with | some j => some (.endRF a j) | none => none
  | .code c => some (.code c)
  | .inBlock i => some (.inBlock i)
  | .inLoop b => some (.inLoop b)
  | .inReg os => some (.inReg os)
  | .beginRound => some .beginRound
def renIts (σ : Nat → Nat → Option Nat) : List AItem → Option (List AItem)
  | [] => some []
  | x :: k => match renIt σ x with
    | none => none
    | some y => match renIts σ k with | some l => some (y :: l) | none => none
def renPs (σ : Nat → Nat → Option Nat) : List (Nat × Nat) → Option (List (Nat × Nat))
  | [] => some []
  | (a, i) :: k => match σ a i with
    | none => none
    | some j => match renPs σ k with | some l => some ((a, j) :: l) | none => none
def renRnd (σ : Nat → Nat → Option Nat) : Option (Nat × Nat) → Option (Option (Nat × Nat))
  | none => some none
  | some (a, i) => match σ a i with | some j => some (some (a, j)) | none => none
/-- is there any work that names a tracked block -/
def plainIt : AItem → Bool
  | .inRF _ _ => false
  | .endRF _ _ => false
  | _ => true
def plainIts : List AItem → Bool
  | [] => true
  | x :: k => match plainIt x with | true => plainIts k | false => false
def renF (σ : Nat → Nat → Option Nat) (f : AFrame) : Option AFrame :=
  match renPs σ f.defs with
  | none => none
  | some ds => match renRnd σ f.rnd with
    | none => none
    | some rd => match plainIts f.todo with
      | true => some { f with env := renEnv σ f.env, defs := ds, rnd := rd }
      | false => match renIts σ f.todo with
        | none => none
        | some td => some { f with env := renEnv σ f.env, todo := td, defs := ds, rnd := rd }
def renFs (σ : Nat → Nat → Option Nat) : List AFrame → Option (List AFrame)
  | [] => some []
  | f :: fs => match renF σ f with
    | none => none
    | some g => match renFs σ fs with | some gs => some (g :: gs) | none => none
theorem ItRel.ren {P : Program} {N : Nat} (G : Good h L h' L' σ) {x x' : AItem} {y : Item} (hr : renIt σ x = some x') (hx : ItRel P h L N x y) : ItRel P h' L' N x' y := by
  cases hx with
  | code a c hm => cases hr; exact .code a c hm
  | inBlock id => cases hr; exact .inBlock id
  | inLoop a c hm => cases hr; exact .inLoop a c hm
  | inReg ops k aos hm => cases hr; exact .inReg ops k aos hm
  | beginRound => cases hr; exact .beginRound
  | inRF a i g hl =>
    simp only [renIt] at hr
    split at hr
    · rename_i j hs; cases hr; exact .inRF a j g (hl.ren G hs fun _ _ h => h)
    · cases hr
  | endRF a i g hl =>
    simp only [renIt] at hr
    split at hr
    · rename_i j hs; cases hr; exact .endRF a j g (hl.ren G hs fun _ _ h => h)
    · cases hr
theorem ItsRel.ren {P : Program} {N : Nat} (G : Good h L h' L' σ) : ∀ {x x' : List AItem} {y : List Item}, renIts σ x = some x' → ItsRel P h L N x y → ItsRel P h' L' N x' y
  | [], x', y, hr, hx => by cases hx; cases hr; exact .nil
  | x :: k, x', y, hr, hx => by
    cases hx with
    | cons hx hk =>
      simp only [renIts] at hr
      split at hr
      · cases hr
      · rename_i z hz
        split at hr
        · rename_i l hl; cases hr; exact .cons (hx.ren G hz) (ItsRel.ren G hl hk)
        · cases hr
theorem plain_ren : ∀ {x : List AItem}, plainIts x = true → renIts σ x = some x
  | [], _ => rfl
  | x :: k, hp => by
    simp only [plainIts] at hp
    split at hp
    · rename_i h1
      simp only [renIts, plain_ren hp]
      cases x <;> first | rfl | cases h1
    · cases hp
theorem renPs_spec (G : Good h L h' L' σ) {p : Nat → Nat × Nat → Prop} : ∀ {l l' : List (Nat × Nat)}, renPs σ l = some l' → l'.length = l.length ∧ ∀ (j : Nat) (d : Nat × Nat), l'[j]? = some d → ∃ d0 : Nat × Nat, l[j]? = some d0 ∧ d0.1 = d.1 ∧ σ d0.1 d0.2 = some d.2
  | [], l', hr => by cases hr; exact ⟨rfl, fun j d hd => by simp at hd⟩
  | (a, i) :: k, l', hr => by
    simp only [renPs] at hr
    split at hr
    · cases hr
    · rename_i j hs
      split at hr
      · rename_i l hl
        cases hr
        obtain ⟨h1, h2⟩ := renPs_spec (p := p) G hl
        refine ⟨by simp [h1], fun q d hd => ?_⟩
        cases q with
        | zero => simp at hd; subst hd; exact ⟨(a, i), rfl, rfl, hs⟩
        | succ q => obtain ⟨d0, e1, e2, e3⟩ := h2 q d (by simpa using hd); exact ⟨d0, by simpa using e1, e2, e3⟩
      · cases hr
theorem FrRel.ren (G : Good h L h' L' σ) {af af' : AFrame} {fr : Frame} (hr : renF σ af = some af') (hf : FrRel C h L w af fr) : FrRel C h' L' w af' fr := by
  unfold renF at hr
  split at hr
  · cases hr
  · rename_i ds hds
    split at hr
    · cases hr
    · rename_i rd hrd
      have hd : DefRel h' L' ds fr.defers := by
        obtain ⟨gs, h1, h2, h3⟩ := hf.defs
        obtain ⟨e1, e2⟩ := renPs_spec (p := fun _ _ => True) G hds
        refine ⟨gs, h1, h2.trans e1.symm, fun j d g hd hg => ?_⟩
        obtain ⟨d0, q1, q2, q3⟩ := e2 j d hd
        obtain ⟨d1, d2⟩ := d
        obtain ⟨d3, d4⟩ := d0
        simp only at q2 q3
        subst q2
        exact (h3 j _ g q1 hg).ren G q3 fun _ _ h => h
      have hn : RndRel h' L' rd fr.roundOf ∧ (rd = none → af.rnd = none) := by
        have hrn := hf.rnd
        unfold renRnd at hrd
        split at hrd
        · rename_i e; cases hrd; rw [e] at hrn; exact ⟨hrn, fun _ => e⟩
        · rename_i a i e
          rw [e] at hrn
          split at hrd
          · rename_i j hs; cases hrd
            obtain ⟨g, hg, hl⟩ := hrn
            exact ⟨⟨g, hg, hl.ren G hs fun _ _ h => h⟩, fun e => by cases e⟩
          · cases hrd
      split at hr
      · rename_i hp
        cases hr
        exact ⟨hf.fn, hf.size, hf.env.ren G, hf.kind, hd, hn.1, hf.mode.imp id fun ⟨a, b, c⟩ => ⟨a, b, c.ren G (plain_ren hp)⟩, fun e => hf.res (hn.2 e)⟩
      · split at hr
        · cases hr
        · rename_i td htd
          cases hr
          exact ⟨hf.fn, hf.size, hf.env.ren G, hf.kind, hd, hn.1, hf.mode.imp id fun ⟨a, b, c⟩ => ⟨a, b, c.ren G htd⟩, fun e => hf.res (hn.2 e)⟩
theorem FrsRel.ren (G : Good h L h' L' σ) : ∀ {afs afs' : List AFrame} {cs : List Frame}, renFs σ afs = some afs' → FrsRel C h L w afs cs → FrsRel C h' L' w afs' cs
  | [], afs', cs, hr, hf => by cases hf; cases hr; exact .base
  | f :: fs, afs', cs, hr, hf => by
    cases hf with
    | cons hf hk =>
      simp only [renFs] at hr
      split at hr
      · cases hr
      · rename_i g hg
        split at hr
        · rename_i gs hgs; cases hr; exact .cons (hf.ren G hg) (FrsRel.ren G hgs hk)
        · cases hr
end

/-! ### The new names -/
/-- which family is moved by how much, and what is left of it -/
abbrev PTab := List (Nat × Nat × List Blk)
def deadB : Blk → Bool
  | .dead => true
  | _ => false
/-- what nothing names is dropped; what is dead at the end, too -/
def killB (R : List (Nat × Nat)) (a : Nat) : Nat → List Blk → List Blk
  | _, [] => []
  | i, b :: l => match (match memB (a, i) R with | true => b | false => .dead), killB R a (i + 1) l with
    | .dead, [] => []
    | b', l' => b' :: l'
def leadB : Nat → List Blk → Nat × List Blk
  | n, [] => (n, [])
  | n, b :: l => match deadB b with | true => leadB (n + 1) l | false => (n, b :: l)
def packFam (R : List (Nat × Nat)) (a : Nat) (f : Fam) : Nat × List Blk := leadB f.base (killB R a f.base f.blks)
def packT (R : List (Nat × Nat)) : AHeap → PTab
  | [] => []
  | (a, f) :: rest => match packFam R a f with
    | (s, l) => (match l, aget rest a with
      | [], none => packT R rest
      | l, _ => (a, s, l) :: packT R rest)
def sigT (t : PTab) (a i : Nat) : Option Nat :=
  match aget t a with
  | none => none
  | some p => match Nat.ble p.1 i with
    | false => none
    | true => match deadB (p.2.getD (i - p.1) .dead) with | true => none | false => some (i - p.1)
def heapT (σ : Nat → Nat → Option Nat) : PTab → AHeap
  | [] => []
  | (a, _, l) :: t => (a, ⟨0, l.map (Blk.ren σ)⟩) :: heapT σ t
def layT (t : PTab) (L : Lay) : Lay := ⟨fun a j => L.loc a (j + match aget t a with | some p => p.1 | none => 0), fun a j => L.size a (j + match aget t a with | some p => p.1 | none => 0)⟩
theorem killB_spec {R : List (Nat × Nat)} {a : Nat} : ∀ (l : List Blk) (i j : Nat), (killB R a i l).getD j .dead = .dead ∨ (killB R a i l).getD j .dead = l.getD j .dead
  | [], i, j => .inl (by simp [killB])
  | b :: l, i, j => by
    have ih := killB_spec (R := R) (a := a) l (i + 1)
    simp only [killB]
    split
    · left; simp
    · cases j with
      | zero =>
        simp only [List.getD_cons_zero]
        split
        · right; rfl
        · left; rfl
      | succ j => simp only [List.getD_cons_succ]; exact ih j
theorem leadB_spec : ∀ (l : List Blk) (n j : Nat), ∃ d, (leadB n l).1 = n + d ∧ (leadB n l).2.getD j .dead = l.getD (j + d) .dead
  | [], n, j => ⟨0, rfl, rfl⟩
  | b :: l, n, j => by
    simp only [leadB]
    split
    · obtain ⟨d, h1, h2⟩ := leadB_spec l (n + 1) j
      exact ⟨d + 1, by rw [h1]; omega, by rw [h2, ← Nat.add_assoc, List.getD_cons_succ]⟩
    · exact ⟨0, rfl, rfl⟩
theorem packT_spec {R : List (Nat × Nat)} : ∀ {h : AHeap} {a : Nat} {p : Nat × List Blk}, aget (packT R h) a = some p → ∃ f, aget h a = some f ∧ packFam R a f = p
  | [], a, p, h => by cases h
  | (b, f) :: rest, a, p, h => by
    have ih := @packT_spec R rest a p
    have hb : ∀ x y : Nat, Nat.beq x y = decide (x = y) := fun x y => by rw [Bool.eq_iff_iff]; simp
    simp only [packT] at h
    split at h
    · rename_i hl hr
      obtain ⟨f', h1, h2⟩ := ih h
      refine ⟨f', ?_, h2⟩
      simp only [aget, hb]
      by_cases hba : b = a
      · subst hba; rw [hr] at h1; cases h1
      · simp only [hba, decide_false]; exact h1
    · simp only [aget, hb] at h ⊢
      by_cases hba : b = a
      · subst hba; simp only [decide_true, Option.some.injEq] at h ⊢; exact ⟨f, rfl, h⟩
      · simp only [hba, decide_false] at h ⊢; exact ih h
theorem aget_heapT {σ : Nat → Nat → Option Nat} : ∀ (t : PTab) (a : Nat), aget (heapT σ t) a = (aget t a).map fun p => ⟨0, p.2.map (Blk.ren σ)⟩
  | [], a => rfl
  | (b, s, l) :: t, a => by
    simp only [heapT, aget]
    split
    · rfl
    · exact aget_heapT t a
theorem blk_heapT {σ : Nat → Nat → Option Nat} (t : PTab) (a j : Nat) : blk (heapT σ t) a j = Blk.ren σ (match aget t a with | some p => p.2.getD j .dead | none => .dead) ∧ nxt (heapT σ t) a = match aget t a with | some p => p.2.length | none => 0 := by
  unfold blk nxt fam
  rw [aget_heapT]
  cases aget t a with
  | none => simp [Fam.get, blt_false, Blk.ren]
  | some p =>
    simp only [Option.map_some, Option.getD_some, Fam.get, blt_false (Nat.zero_le _), Nat.sub_zero, List.length_map, Nat.zero_add, and_true]
    simp only [List.getD_eq_getElem?_getD, List.getElem?_map]
    cases p.2[j]? <;> rfl
theorem packT_blk {R : List (Nat × Nat)} {h : AHeap} {a : Nat} {p : Nat × List Blk} (hp : aget (packT R h) a = some p) (j : Nat) : p.2.getD j .dead = .dead ∨ p.2.getD j .dead = blk h a (j + p.1) := by
  obtain ⟨f, h1, h2⟩ := packT_spec hp
  unfold packFam at h2
  obtain ⟨d, e1, e2⟩ := leadB_spec (killB R a f.base f.blks) f.base j
  rw [h2] at e1 e2
  rw [e2]
  rcases killB_spec (R := R) (a := a) f.blks f.base (j + d) with h3 | h3
  · exact .inl h3
  · right
    rw [h3, e1]
    unfold blk fam Fam.get
    rw [h1]
    simp only [Option.getD_some, blt_false (show f.base ≤ j + (f.base + d) by omega)]
    congr 1; omega
theorem pack_good {R : List (Nat × Nat)} {h : AHeap} {L : Lay} : Good h L (heapT (sigT (packT R h)) (packT R h)) (layT (packT R h) L) (sigT (packT R h)) := by
  refine ⟨fun a i j hs => ?_, fun a j ht => ?_⟩
  · obtain ⟨hb, hn⟩ := blk_heapT (σ := sigT (packT R h)) (packT R h) a j
    unfold sigT at hs
    cases hp : aget (packT R h) a with
    | none => rw [hp] at hs; cases hs
    | some p =>
      rw [hp] at hs hb hn
      simp only at hs hb hn
      split at hs
      · cases hs
      · rename_i hle
        have hle : p.1 ≤ i := by simpa using hle
        split at hs
        · cases hs
        · rename_i hd
          cases hs
          have hlt : i - p.1 < p.2.length := by
            rcases Nat.lt_or_ge (i - p.1) p.2.length with h1 | h1
            · exact h1
            · rw [List.getD_eq_getElem?_getD, List.getElem?_eq_none h1] at hd; cases hd
          have hadd : i - p.1 + p.1 = i := by omega
          refine ⟨by rw [hn]; exact hlt, fun sz ht => ?_, by simp only [layT, hp, hadd], by simp only [layT, hp, hadd]⟩
          rw [hb, Blk.ren_tag] at ht
          rcases packT_blk hp (i - p.1) with h1 | h1
          · rw [h1] at hd; cases hd
          · rw [h1, hadd] at ht; exact ht
  · obtain ⟨hb, _⟩ := blk_heapT (σ := sigT (packT R h)) (packT R h) a j
    rw [hb, Blk.ren_tag] at ht
    cases hp : aget (packT R h) a with
    | none => rw [hp] at ht; exact absurd rfl ht
    | some p =>
      rw [hp] at ht
      simp only at ht
      rcases packT_blk hp j with h1 | h1
      · rw [h1] at ht; exact absurd rfl ht
      · exact ⟨j + p.1, by rw [← h1]; exact ht, by simp only [layT, hp]⟩
theorem HRel.packed {C : Ctx} {R : List (Nat × Nat)} {h : AHeap} {L : Lay} {w : World} (H : HRel C h L w) : HRel C (heapT (sigT (packT R h)) (packT R h)) (layT (packT R h) L) w := by
  have key : ∀ a j, (blk (heapT (sigT (packT R h)) (packT R h)) a j).tag ≠ none → ∃ p, aget (packT R h) a = some p ∧ (blk h a (j + p.1)).tag ≠ none := fun a j ht => by
    obtain ⟨hb, _⟩ := blk_heapT (σ := sigT (packT R h)) (packT R h) a j
    rw [hb, Blk.ren_tag] at ht
    cases hp : aget (packT R h) a with
    | none => rw [hp] at ht; exact absurd rfl ht
    | some p =>
      rw [hp] at ht
      simp only at ht
      rcases packT_blk hp j with h1 | h1
      · rw [h1] at ht; exact absurd rfl ht
      · exact ⟨p, rfl, by rw [← h1]; exact ht⟩
  refine ⟨H.below, fun a j ht => ?_, fun a j => ?_, fun a i b j h1 h2 e => ?_⟩
  · obtain ⟨p, hp, ht'⟩ := key a j ht
    simp only [layT, hp]; exact H.live a _ ht'
  · obtain ⟨hb, _⟩ := blk_heapT (σ := sigT (packT R h)) (packT R h) a j
    rw [hb]
    cases hp : aget (packT R h) a with
    | none => trivial
    | some p =>
      simp only
      rcases packT_blk hp j with h1 | h1
      · rw [h1]; trivial
      · rw [h1]; simp only [layT, hp]; exact (H.blks a _).ren pack_good
  · obtain ⟨p, hp, hp'⟩ := key a i h1
    obtain ⟨q, hq, hq'⟩ := key b j h2
    simp only [layT, hp, hq] at e
    obtain ⟨rfl, e2⟩ := H.inj _ _ _ _ hp' hq' e
    rw [hp] at hq; cases hq
    exact ⟨rfl, by omega⟩

/-! ### What is named -/
def refsV : AV → List (Nat × Nat)
  | .tup xs => xs.flatMap refs
  | v => refs v
def refsR : Row → List (Nat × Nat)
  | .gen xs => xs.flatMap refsV
  | _ => []
def refsE : Env0 → List (Nat × Nat)
  | [] => []
  | (_, v) :: l => refsV v ++ refsE l
def refsB : Blk → List (Nat × Nat)
  | .row _ _ r => refsR r
  | .lp l => refsE l.env
  | _ => []
def refsI : List AItem → List (Nat × Nat)
  | [] => []
  | x :: k => (match x with | .inRF a i => [(a, i)] | .endRF a i => [(a, i)] | _ => []) ++ refsI k
def refsF : List AFrame → List (Nat × Nat)
  | [] => []
  | f :: fs => refsE f.env ++ ((match plainIts f.todo with | true => [] | false => refsI f.todo) ++ (f.defs ++ ((match f.rnd with | some p => [p] | none => []) ++ refsF fs)))
def addN (R : List (Nat × Nat)) : List (Nat × Nat) → List (Nat × Nat)
  | [] => R
  | p :: l => match memB p R with | true => addN R l | false => addN (p :: R) l
def reachN (h : AHeap) : Nat → List (Nat × Nat) → List (Nat × Nat) → List (Nat × Nat)
  | 0, R, _ => R
  | n + 1, R, new => match new.flatMap (fun p => refsB (blk h p.1 p.2)) with
    | [] => R
    | l => reachN h n (addN R l) l
def pack (fs : List AFrame) (h : AHeap) : Option (List AFrame × AHeap) :=
  match addN [] (refsF fs) with
  | R0 => match packT (reachN h 4 R0 R0) h with
    | t => match renFs (sigT t) fs with
      | none => none
      | some fs' => some (fs', heapT (sigT t) t)
theorem pack_ev {C : Ctx} {fs fs' : List AFrame} {h h' : AHeap} {Q : List AFrame → AHeap → Prop} (hp : pack fs h = some (fs', h')) (hq : Ev C fs' h' Q) : Ev C fs h Q := by
  intro L fr cs w hf H hne
  unfold pack at hp
  dsimp only at hp
  split at hp
  · cases hp
  · rename_i gs hgs
    cases hp
    refine hq _ fr cs w (FrsRel.ren pack_good hgs hf) H.packed (fun e => ?_)
    subst e
    cases fs with
    | nil => exact hne rfl
    | cons f fs =>
      simp only [renFs] at hgs
      split at hgs
      · cases hgs
      · split at hgs <;> cases hgs

/-- a walk: so many steps, then perhaps the blocks are named anew -/
def gwalk (A : Ar) (T : Tab) (l : List Ctr) (n : Nat) (pk : Bool) (pa : List Bool) (f : AFrame) (fs : List AFrame) (h : AHeap) : Option (List Bool × List AFrame × AHeap) :=
  match gsteps A T l n pa [] f fs h with
  | none => none
  | some (acc, f', fs', h') => match pk with
    | false => some (acc, f' :: fs', h')
    | true => match pack (f' :: fs') h' with
      | none => none
      | some (gs, h2) => some (acc, gs, h2)
theorem ev_walk {C : Ctx} {T : Tab} {l : List Ctr} {n : Nat} {pk : Bool} {pa acc : List Bool} {f : AFrame} {fs gs : List AFrame} {h h' : AHeap} {Q : List AFrame → AHeap → Prop} (hfol : C.P.follows .mixedOrders = true) (hT : TabOK C.P T) (hl : CtrsOK C.P l)
    (hw : gwalk std T l n pk pa f fs h = some (acc, gs, h')) (hb : AllT acc) (hq : Ev C gs h' Q) : Ev C (f :: fs) h Q := by
  unfold gwalk at hw
  split at hw
  · cases hw
  · rename_i acc1 f1 fs1 h1 hs
    split at hw
    · cases hw
      exact (gsteps_sound hfol hT hl n _ _ _ _ hs hb.mem hq).2
    · split at hw
      · cases hw
      · rename_i gs2 h2 hp
        cases hw
        exact (gsteps_sound hfol hT hl n _ _ _ _ hs hb.mem (pack_ev hp hq)).2
end Go.Proofs.Ytimmgjppippdiaa
