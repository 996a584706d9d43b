/- Runs that keep their states small, for the kernel. No condition. -/
import Derived.Test.YtimmgjppippdiaaXv
namespace Go.Proofs.Ytimmgjppippdiaa
section
variable {β : Type}
def fN (n : Nat) (k : Nat → β) : β := match n with | 0 => k 0 | m + 1 => k (Nat.succ m)
def fZ (z : Int) (k : Int → β) : β := match z with | .ofNat n => fN n fun n => k (.ofNat n) | .negSucc n => fN n fun n => k (.negSucc n)
def fB (b : Bool) (k : Bool → β) : β := match b with | true => k true | false => k false
def fL {α : Type} (fa : α → (α → β) → β) : List α → (List α → β) → β
  | [], k => k []
  | x :: xs, k => fa x fun x => fL fa xs fun xs => k (x :: xs)
def fRow (fa : AV → (AV → β) → β) (r : Row) (k : Row → β) : β :=
  match r with
  | .ints kd l => fL fZ l fun l => k (.ints kd l)
  | .flts kd l => fL fN l fun l => k (.flts kd l)
  | .gen xs => fL fa xs fun xs => k (.gen xs)
  | .tab n f => k (.tab n f)
def fA : Nat → AV → (AV → β) → β
  | 0, v, k => k v
  | d + 1, v, k => match v with
    | .int kd n => fZ n fun n => k (.int kd n)
    | .bool b => fB b fun b => k (.bool b)
    | .list r => fRow (fA d) r fun r => k (.list r)
    | .agg r => fRow (fA d) r fun r => k (.agg r)
    | .tup xs => fL (fA d) xs fun xs => k (.tup xs)
    | .fn f xs => fL (fA d) xs fun xs => k (.fn f xs)
    | .eptr u o => fA d u fun u => fN o fun o => k (.eptr u o)
    | .ptr a i j o => fN i fun i => fN j fun j => fN o fun o => k (.ptr a i j o)
    | .row a i => fN i fun i => k (.row a i)
    | .slc a i j n c => fN i fun i => fN j fun j => fN n fun n => (match c with | none => k (.slc a i j n none) | some c => fN c fun c => k (.slc a i j n (some c)))
    | .aslc a i j o n => fN i fun i => fN j fun j => fN o fun o => fN n fun n => k (.aslc a i j o n)
    | .yld a i => fN i fun i => k (.yld a i)
    | v => k v
def fBlk (b : Blk) (k : Blk → β) : β :=
  match b with
  | .row e sz r => fRow (fA 3) r fun r => k (.row e sz r)
  | b => k b
def fFam (f : Fam) (k : Fam → β) : β := match f with | ⟨b, l⟩ => fN b fun b => fL fBlk l fun l => k ⟨b, l⟩
def fHeap (h : AHeap) (k : AHeap → β) : β := fL (fun p k => match p with | (a, f) => fFam f fun f => k (a, f)) h k
def fEnv (e : List (Nat × AV)) (k : List (Nat × AV) → β) : β := fL (fun p k => match p with | (t, v) => fA 4 v fun v => k (t, v)) e k
def fO (o : Option (Nat × Nat)) (k : Option (Nat × Nat) → β) : β := match o with | none => k none | some p => match p with | (a, i) => fN a fun a => fN i fun i => k (some (a, i))
def fH {α : Type} (l : List α) (k : List α → β) : β := match l with | [] => k [] | x :: xs => k (x :: xs)
def fFr (f : AFrame) (k : AFrame → β) : β :=
  match f with
  | ⟨fn, N, env, todo, defs, rnd, ret, res⟩ => fN fn fun fn => fN N fun N => fH defs fun defs => fO rnd fun rnd => fB ret fun ret => fH res fun res => k ⟨fn, N, env, todo, defs, rnd, ret, res⟩
def fDeep (f : AFrame) (k : AFrame → β) : β :=
  match f with
  | ⟨fn, N, env, todo, defs, rnd, ret, res⟩ => fEnv env fun env => k ⟨fn, N, env, todo, defs, rnd, ret, res⟩

theorem fN_eq (n : Nat) (k : Nat → β) : fN n k = k n := by cases n <;> rfl
theorem fZ_eq (z : Int) (k : Int → β) : fZ z k = k z := by cases z <;> simp only [fZ, fN_eq]
theorem fB_eq (b : Bool) (k : Bool → β) : fB b k = k b := by cases b <;> rfl
theorem fL_eq {α : Type} {fa : α → (α → β) → β} (hf : ∀ x k, fa x k = k x) : ∀ (l : List α) (k : List α → β), fL fa l k = k l
  | [], k => rfl
  | x :: xs, k => by simp only [fL, hf]; exact fL_eq hf xs _
theorem fRow_eq {fa : AV → (AV → β) → β} (hf : ∀ x k, fa x k = k x) (r : Row) (k : Row → β) : fRow fa r k = k r := by
  cases r with
  | gen xs => exact fL_eq hf xs _
  | ints kd l => exact fL_eq fZ_eq l _
  | flts kd l => exact fL_eq fN_eq l _
  | tab n f => rfl
theorem fA_eq : ∀ (d : Nat) (v : AV) (k : AV → β), fA d v k = k v
  | 0, v, k => rfl
  | d + 1, v, k => by
    have ih := fA_eq d
    cases v with
    | int kd n => simp only [fA, fZ_eq]
    | bool b => simp only [fA, fB_eq]
    | list r => simp only [fA, fRow_eq ih]
    | agg r => simp only [fA, fRow_eq ih]
    | tup xs => simp only [fA, fL_eq ih]
    | fn f xs => simp only [fA, fL_eq ih]
    | eptr u o => simp only [fA, ih, fN_eq]
    | ptr a i j o => simp only [fA, fN_eq]
    | row a i => simp only [fA, fN_eq]
    | slc a i j n c => simp only [fA, fN_eq]; cases c <;> rfl
    | aslc a i j o n => simp only [fA, fN_eq]
    | yld a i => simp only [fA, fN_eq]
    | _ => rfl
theorem fBlk_eq (b : Blk) (k : Blk → β) : fBlk b k = k b := by cases b <;> first | rfl | simp only [fBlk, fRow_eq (fA_eq 3)]
theorem fFam_eq (f : Fam) (k : Fam → β) : fFam f k = k f := by obtain ⟨b, l⟩ := f; simp only [fFam, fN_eq]; exact fL_eq fBlk_eq l _
theorem fHeap_eq (h : AHeap) (k : AHeap → β) : fHeap h k = k h := fL_eq (fun p k => by obtain ⟨a, f⟩ := p; exact fFam_eq f _) h k
theorem fEnv_eq (e : List (Nat × AV)) (k : List (Nat × AV) → β) : fEnv e k = k e := fL_eq (fun p k => by obtain ⟨t, v⟩ := p; exact fA_eq 4 v _) e k
theorem fO_eq (o : Option (Nat × Nat)) (k : Option (Nat × Nat) → β) : fO o k = k o := by cases o <;> simp only [fO, fN_eq]
theorem fH_eq {α : Type} (l : List α) (k : List α → β) : fH l k = k l := by cases l <;> rfl
theorem fFr_eq (f : AFrame) (k : AFrame → β) : fFr f k = k f := by simp only [fFr, fN_eq, fH_eq, fO_eq, fB_eq]
theorem fDeep_eq (f : AFrame) (k : AFrame → β) : fDeep f k = k f := by simp only [fDeep, fEnv_eq]
end

def allT (acc : List Bool) (k : List Bool → ASt) : ASt := match acc.all (fun b => b) with | true => k [] | false => k acc
/-- as arun does -/
def arunS (A : Ar) (T : Tab) (K : Con) (n : Nat) : List Bool → AFrame → List AFrame → AHeap → ASt :=
  Nat.rec (motive := fun _ => List Bool → AFrame → List AFrame → AHeap → ASt) (fun acc f fs h => (acc, f, fs, h))
    (fun _ ih acc f fs h => match astep A T K acc f fs h with
      | none => (acc, f, fs, h)
      | some (acc', f', fs', h') => fFr f' fun f' => match markA f with
        | true => allT acc' fun acc' => fDeep f' fun f' => fHeap h' fun h' => ih acc' f' fs' h'
        | false => ih acc' f' fs' h') n
theorem arunS_succ {A : Ar} {T : Tab} {K : Con} {n : Nat} {acc : List Bool} {f : AFrame} {fs : List AFrame} {h : AHeap} : arunS A T K (n + 1) acc f fs h = match astep A T K acc f fs h with
      | none => (acc, f, fs, h)
      | some (acc', f', fs', h') => fFr f' fun f' => match markA f with
        | true => allT acc' fun acc' => fDeep f' fun f' => fHeap h' fun h' => arunS A T K n acc' f' fs' h'
        | false => arunS A T K n acc' f' fs' h' := rfl
section
variable {C : Ctx} {T : Tab} {K : Con} {Q : List AFrame → AHeap → Prop}
theorem arunS_sound (hfol : C.P.follows .mixedOrders = true) (hT : TabOK C.P T) (hK : ConOK C.P K) : ∀ (n : Nat) {acc : List Bool} {f : AFrame} {fs : List AFrame} {h : AHeap}, Sound C Q acc f fs h (some (arunS std T K n acc f fs h))
  | 0, acc, f, fs, h => by
    intro acc' f' fs' h' he hb hq
    have he : some (acc, f, fs, h) = some (acc', f', fs', h') := he
    simp only [Option.some.injEq, Prod.mk.injEq] at he
    obtain ⟨rfl, rfl, rfl, rfl⟩ := he
    exact ⟨hb, hq⟩
  | n + 1, acc, f, fs, h => by
    intro acc' f' fs' h' he hb hq
    rw [arunS_succ] at he
    split at he
    · simp only [Option.some.injEq, Prod.mk.injEq] at he
      obtain ⟨rfl, rfl, rfl, rfl⟩ := he
      exact ⟨hb, hq⟩
    · rename_i acc1 f1 fs1 h1 hs
      rw [fFr_eq] at he
      have go : ∀ acc2, ((∀ b ∈ acc2, b = true) → ∀ b ∈ acc1, b = true) → some (arunS std T K n acc2 f1 fs1 h1) = some (acc', f', fs', h') → (∀ b ∈ acc, b = true) ∧ Ev C (f :: fs) h Q := fun acc2 ha he => by
        obtain ⟨hb1, hq1⟩ := arunS_sound hfol hT hK n _ _ _ _ he hb hq
        exact astep_sound hfol hT hK _ _ _ _ hs (ha hb1) hq1
      split at he
      · unfold allT at he
        split at he
        · rename_i hall
          simp only [fDeep_eq, fHeap_eq] at he
          exact go [] (fun _ b hb => by have := List.all_eq_true.1 hall b hb; simpa using this) he
        · simp only [fDeep_eq, fHeap_eq] at he
          exact go acc1 (fun h => h) he
      · exact go acc1 (fun h => h) he
end
def runS (A : Ar) (T : Tab) (K : Con) (n : Nat) (f : FuncId) (args : List AV) : Option (Bool × AV × Option Fresh) :=
  match enterA T f args with
  | none => none
  | some af => finR A f (arunS A T K n [] af [] [])
theorem runS_sound {P : Program} {T : Tab} {K : Con} (hfol : P.follows .mixedOrders = true) (hT : TabOK P T) (hK : ConOK P K) {n : Nat} : ConOK P (runS std T K n) := fun f args r fr h => by
  unfold runS at h
  split at h
  · cases h
  · rename_i af haf
    obtain ⟨acc, g, h', hs, hacc, hfin⟩ := finR_spec h
    refine pure_of_ev hT haf (fun w okA cs => ?_)
    refine (arunS_sound (C := ⟨P, w, okA, cs⟩) hfol hT hK n (Q := FinQ f r fr) acc g [] h' (by rw [hs]) (fun b hb => ?_) (.now (by simp) hfin)).2
    have := List.all_eq_true.1 hacc b hb
    simpa using this
def conS (A : Ar) (T : Tab) (n : Nat) : Nat → Con
  | 0 => K0
  | d + 1 => fun f args => runS A T (conS A T n d) n f args
theorem conS_ok {P : Program} {T : Tab} (hfol : P.follows .mixedOrders = true) (hT : TabOK P T) {n : Nat} : ∀ d, ConOK P (conS std T n d)
  | 0 => k0_ok
  | d + 1 => runS_sound hfol hT (conS_ok hfol hT d)
end Go.Proofs.Ytimmgjppippdiaa
