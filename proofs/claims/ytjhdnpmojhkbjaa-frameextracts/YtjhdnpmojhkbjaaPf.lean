/- Paths of functions, printed by the explorer (Gx). No condition. -/
import Derived.Test.YtjhdnpmojhkbjaaM0
import Derived.KernelRfl
namespace Go.Proofs.Ytjhdnpmojhkbjaa
set_option maxRecDepth 100000
set_option linter.unusedVariables false
def ZuR (a : Int) (b : Int) (c : Int) (d : Int) (a2 : Int) (b2 : Int) (c2 : Int) (e : Int) (xs : Row) (ys : Row) : AFrame := { fn := 119, N := 10, env := [(0, AV.agg (Row.gen [AV.int .i64 a, AV.int .i64 b, AV.int .i64 c, AV.list xs, AV.int .i64 d])), (1, AV.agg (Row.gen [AV.int .i64 a2, AV.int .i64 b2, AV.int .i64 c2, AV.list ys, AV.int .i64 e]))], todo := [.code a119.code], defs := [], rnd := none, ret := false, res := [ARes.tmp 4] }
def ZJR (a : Int) (b : Int) (c : Int) (d : Int) (a2 : Int) (b2 : Int) (c2 : Int) (e : Int) (xs : Row) (ys : Row) : List AFrame := [(ZuR a b c d a2 b2 c2 e xs ys)]
theorem Zsz (a : Int) (b : Int) (c : Int) (d : Int) (a2 : Int) (b2 : Int) (c2 : Int) (e : Int) (xs : Row) (ys : Row) : Zal tab 119 [AV.agg (Row.gen [AV.int .i64 a, AV.int .i64 b, AV.int .i64 c, AV.list xs, AV.int .i64 d]), AV.agg (Row.gen [AV.int .i64 a2, AV.int .i64 b2, AV.int .i64 c2, AV.list ys, AV.int .i64 e])] = some (ZuR a b c d a2 b2 c2 e xs ys) := rfl
theorem ZBD (A : Ar) (a b c d a2 b2 c2 e : Int) (xs ys : Row) : ZaD A tab BO0 16 [] 119 (ZJR a b c d a2 b2 c2 e xs ys) [] =
  some (tr [10] [],
   AV.int .i64 (ZhG d e), none) := by kernel_rfl
def Ztg (a : Int) (b : Int) (c : Int) (d : Int) (a2 : Int) (b2 : Int) (c2 : Int) (e : Int) (xs : Row) (ys : Row) : AFrame := { fn := 122, N := 10, env := [(0, AV.agg (Row.gen [AV.int .i64 a, AV.int .i64 b, AV.int .i64 c, AV.list xs, AV.int .i64 d])), (1, AV.agg (Row.gen [AV.int .i64 a2, AV.int .i64 b2, AV.int .i64 c2, AV.list ys, AV.int .i64 e]))], todo := [.code a122.code], defs := [], rnd := none, ret := false, res := [ARes.tmp 4] }
def ZJo (a : Int) (b : Int) (c : Int) (d : Int) (a2 : Int) (b2 : Int) (c2 : Int) (e : Int) (xs : Row) (ys : Row) : List AFrame := [(Ztg a b c d a2 b2 c2 e xs ys)]
theorem ZsG (a : Int) (b : Int) (c : Int) (d : Int) (a2 : Int) (b2 : Int) (c2 : Int) (e : Int) (xs : Row) (ys : Row) : Zal tab 122 [AV.agg (Row.gen [AV.int .i64 a, AV.int .i64 b, AV.int .i64 c, AV.list xs, AV.int .i64 d]), AV.agg (Row.gen [AV.int .i64 a2, AV.int .i64 b2, AV.int .i64 c2, AV.list ys, AV.int .i64 e])] = some (Ztg a b c d a2 b2 c2 e xs ys) := rfl
theorem ZCe (A : Ar) (a b c d a2 b2 c2 e : Int) (xs ys : Row) : ZaD A tab BO0 16 [] 122 (ZJo a b c d a2 b2 c2 e xs ys) [] =
  some (tr [10] [],
   AV.bool (A.eq d e), none) := by kernel_rfl
end Go.Proofs.Ytjhdnpmojhkbjaa
/- Contracts as a list. No condition. -/
namespace Go.Proofs.Ytjhdnpmojhkbjaa
def Zf4 (a b : Int) : Bool := decide (a = b)
theorem Zq8 (a b c d a2 b2 c2 e : Int) (xs ys : Row) : ZaI Try.prog 119 [.agg (.gen [.int .i64 a, .int .i64 b, .int .i64 c, .list xs, .int .i64 d]), .agg (.gen [.int .i64 a2, .int .i64 b2, .int .i64 c2, .list ys, .int .i64 e])] (.int .i64 (ZhG d e)) none :=
  start (Zsz a b c d a2 b2 c2 e xs ys) fun C hC => fin hC Zpt (ZBD std a b c d a2 b2 c2 e xs ys) (by simp) rfl rfl
theorem Zom (a b c d a2 b2 c2 e : Int) (xs ys : Row) : ZaI Try.prog 122 [.agg (.gen [.int .i64 a, .int .i64 b, .int .i64 c, .list xs, .int .i64 d]), .agg (.gen [.int .i64 a2, .int .i64 b2, .int .i64 c2, .list ys, .int .i64 e])] (.bool (Zf4 d e)) none :=
  start (ZsG a b c d a2 b2 c2 e xs ys) fun C hC => fin hC Zpt (ZCe std a b c d a2 b2 c2 e xs ys) (by simp) rfl rfl
def k119 : Ctr := ⟨119, 0, fun _ a => match a with | [.agg (.gen [.int .i64 _, .int .i64 _, .int .i64 _, .list _, .int .i64 d]), .agg (.gen [.int .i64 _, .int .i64 _, .int .i64 _, .list _, .int .i64 e])] => some (true, .int .i64 (ZhG d e), none) | _ => none⟩
theorem Zy1 : k119.OK Try.prog := fun pa args r fr h => by
  simp only [k119] at h
  split at h
  · cases h
    exact Zq8 _ _ _ _ _ _ _ _ _ _
  · cases h
def k122 : Ctr := ⟨122, 0, fun _ a => match a with | [.agg (.gen [.int .i64 _, .int .i64 _, .int .i64 _, .list _, .int .i64 d]), .agg (.gen [.int .i64 _, .int .i64 _, .int .i64 _, .list _, .int .i64 e])] => some (true, .bool (Zf4 d e), none) | _ => none⟩
theorem Zzk : k122.OK Try.prog := fun pa args r fr h => by
  simp only [k122] at h
  split at h
  · cases h
    exact Zom _ _ _ _ _ _ _ _ _ _
  · cases h
def BO1 : List Ctr := [k119, k122] ++ BO0
theorem Zfr : Zas Try.prog BO1 := ⟨Zy1, ⟨Zzk, Zpt⟩⟩
end Go.Proofs.Ytjhdnpmojhkbjaa
/- Paths of functions, printed by the explorer (Gx). No condition. -/
namespace Go.Proofs.Ytjhdnpmojhkbjaa
set_option maxRecDepth 100000
set_option linter.unusedVariables false
def ZtA (xs : List AV) (a : Int) (b : Int) : AFrame := { fn := 139, N := 53, env := [(0, AV.row 0 0), (1, AV.int .i64 a), (2, AV.int .i64 b), (3, AV.fn 119 [])], todo := [.code a139.code], defs := [], rnd := none, ret := false, res := [] }
def ZHs (xs : List AV) (a : Int) (b : Int) : List AFrame := [(ZtA xs a b)]
theorem ZsS (xs : List AV) (a : Int) (b : Int) : Zal tab 139 [AV.row 0 0, AV.int .i64 a, AV.int .i64 b, AV.fn 119 []] = some (ZtA xs a b) := rfl
def ZDH (xs : List AV) (a : Int) (b : Int) : Zaa := [(0, { base := 0, blks := [Blk.row 140 5 (Row.big (Sh.agg [Sh.int .i64, Sh.int .i64, Sh.int .i64, Sh.ints .i64, Sh.int .i64]) xs)] })]
def Zb6 (a b n0 : Int) (x1 : List AV) : List AFrame := [{ fn := 139, N := 53, env := [(0, AV.row 0 0), (1, AV.int .i64 a), (2, AV.int .i64 b), (3, AV.fn 119 []), (8, AV.int .i64 n0)], todo := .code (ACode.gh [] Zpc) :: Zuf, defs := [], rnd := none, ret := false, res := [] }]
def ZbH (a : Int) (b : Int) (n0 : Int) (x1 : List AV) : Zaa := [(0, { base := 0, blks := [Blk.row 140 5 (Row.big (Sh.agg [Sh.int .i64, Sh.int .i64, Sh.int .i64, Sh.ints .i64, Sh.int .i64]) x1)] })]
abbrev Zep (a : Int) (b : Int) (n0 : Int) (x1 : List AV) : List AFrame × Zaa := (Zb6 a b n0 x1, ZbH a b n0 x1)
def Zbm (a b n0 n2 : Int) (x3 : List AV) : List AFrame := [{ fn := 139, N := 53, env := [(0, AV.row 0 0), (1, AV.int .i64 a), (2, AV.int .i64 b), (3, AV.fn 119 []), (8, AV.int .i64 n0), (9, AV.int .i64 n2)], todo := .code (ACode.gh [] ZtN) :: ZC0, defs := [], rnd := none, ret := false, res := [] }]
def Za3 (a : Int) (b : Int) (n0 : Int) (n2 : Int) (x3 : List AV) : Zaa := [(0, { base := 0, blks := [Blk.row 140 5 (Row.big (Sh.agg [Sh.int .i64, Sh.int .i64, Sh.int .i64, Sh.ints .i64, Sh.int .i64]) x3)] })]
abbrev Zgv (a : Int) (b : Int) (n0 : Int) (n2 : Int) (x3 : List AV) : List AFrame × Zaa := (Zbm a b n0 n2 x3, Za3 a b n0 n2 x3)
theorem Ztr (A : Ar) (xs : List AV) (a b : Int) : Zac A tab BO1 9 [] (ZHs xs a b) (ZDH xs a b) =
  some (tr [1, 1] [A.inR .i64 (A.add a 1)],
   Zep (a) (b) (A.add a 1) (xs)) := by kernel_rfl
theorem ZB4 (A : Ar) (a b n0 : Int) (x1 : List AV) : Zac A tab BO1 20 [true] (Zb6 a b n0 x1) (ZbH a b n0 x1) =
  some (tr [2, 3] [A.lt n0 b],
   Zgv (a) (b) (n0) (n0) (x1)) := by kernel_rfl
theorem ZtE (A : Ar) (a b n0 : Int) (x1 : List AV) : Za2 A tab BO1 11 [false] 139 (Zb6 a b n0 x1) (ZbH a b n0 x1) =
  some (tr [1, 3] [!A.lt n0 b],
   AV.tup [], 140, 5, Row.big (.agg [.int .i64, .int .i64, .int .i64, .ints .i64, .int .i64]) x1) := by kernel_rfl
theorem ZAx (A : Ar) (a b n0 n2 : Int) (x3 : List AV) : Zac A tab BO1 18 [true, true] (Zbm a b n0 n2 x3) (Za3 a b n0 n2 x3) =
  some (tr [1, 1, 0, 0, 0, 0, 0, 2, 0, 0, 2, 4, 3, 0, 0, 2, 0, 3, 4] [A.inR .i64 (A.sub n2 1), Zab (Nat.blt (A.nat (A.sub n2 1)) (A.lenA (A.setA x3 (A.nat n2) (AV.agg (Row.gen [.int .i64 ((A.nthA x3 (A.nat (A.sub n2 1))).cellAt 0).toI, .int .i64 ((A.nthA x3 (A.nat (A.sub n2 1))).cellAt 1).toI, .int .i64 ((A.nthA x3 (A.nat (A.sub n2 1))).cellAt 2).toI, .list (.ints .i64 ((A.nthA x3 (A.nat (A.sub n2 1))).cellAt 3).toIs), .int .i64 ((A.nthA x3 (A.nat (A.sub n2 1))).cellAt 4).toI]))))) true, Zab (A.le 0 (A.sub n2 1)) (Nat.blt (A.nat (A.sub n2 1)) (A.lenA (A.setA x3 (A.nat n2) (AV.agg (Row.gen [.int .i64 ((A.nthA x3 (A.nat (A.sub n2 1))).cellAt 0).toI, .int .i64 ((A.nthA x3 (A.nat (A.sub n2 1))).cellAt 1).toI, .int .i64 ((A.nthA x3 (A.nat (A.sub n2 1))).cellAt 2).toI, .list (.ints .i64 ((A.nthA x3 (A.nat (A.sub n2 1))).cellAt 3).toIs), .int .i64 ((A.nthA x3 (A.nat (A.sub n2 1))).cellAt 4).toI]))))), Zab (Nat.blt (A.nat n2) (A.lenA x3)) true, Zab (A.le 0 n2) (Nat.blt (A.nat n2) (A.lenA x3)), Zab (Nat.blt (A.nat n2) (A.lenA x3)) true, Zab (A.le 0 n2) (Nat.blt (A.nat n2) (A.lenA x3)), Zab (Nat.blt (A.nat (A.sub n2 1)) (A.lenA x3)) true, Zab (A.le 0 (A.sub n2 1)) (Nat.blt (A.nat (A.sub n2 1)) (A.lenA x3)), A.inR .i64 (A.sub n2 1), A.inR .i64 (A.sub n2 1), A.lt (ZhG ((A.nthA x3 (A.nat n2)).cellAt 4).toI ((A.nthA x3 (A.nat (A.sub n2 1))).cellAt 4).toI) 0, Zab (Nat.blt (A.nat (A.sub n2 1)) (A.lenA x3)) true, Zab (A.le 0 (A.sub n2 1)) (Nat.blt (A.nat (A.sub n2 1)) (A.lenA x3)), A.inR .i64 (A.sub n2 1), Zab (Nat.blt (A.nat n2) (A.lenA x3)) true, Zab (A.le 0 n2) (Nat.blt (A.nat n2) (A.lenA x3)), A.lt a n2],
   Zgv (a) (b) (n0) (A.sub n2 1) (A.setA (A.setA x3 (A.nat n2) (AV.agg (Row.gen [.int .i64 ((A.nthA x3 (A.nat (A.sub n2 1))).cellAt 0).toI, .int .i64 ((A.nthA x3 (A.nat (A.sub n2 1))).cellAt 1).toI, .int .i64 ((A.nthA x3 (A.nat (A.sub n2 1))).cellAt 2).toI, .list (.ints .i64 ((A.nthA x3 (A.nat (A.sub n2 1))).cellAt 3).toIs), .int .i64 ((A.nthA x3 (A.nat (A.sub n2 1))).cellAt 4).toI]))) (A.nat (A.sub n2 1)) (AV.agg (Row.gen [.int .i64 ((A.nthA x3 (A.nat n2)).cellAt 0).toI, .int .i64 ((A.nthA x3 (A.nat n2)).cellAt 1).toI, .int .i64 ((A.nthA x3 (A.nat n2)).cellAt 2).toI, .list (.ints .i64 ((A.nthA x3 (A.nat n2)).cellAt 3).toIs), .int .i64 ((A.nthA x3 (A.nat n2)).cellAt 4).toI])))) := by kernel_rfl
theorem ZGf (A : Ar) (a b n0 n2 : Int) (x3 : List AV) : Zac A tab BO1 15 [true, false] (Zbm a b n0 n2 x3) (Za3 a b n0 n2 x3) =
  some (tr [1, 1, 3, 0, 0, 2, 0, 3, 4] [A.inR .i64 (A.add n0 1), !A.lt (ZhG ((A.nthA x3 (A.nat n2)).cellAt 4).toI ((A.nthA x3 (A.nat (A.sub n2 1))).cellAt 4).toI) 0, Zab (Nat.blt (A.nat (A.sub n2 1)) (A.lenA x3)) true, Zab (A.le 0 (A.sub n2 1)) (Nat.blt (A.nat (A.sub n2 1)) (A.lenA x3)), A.inR .i64 (A.sub n2 1), Zab (Nat.blt (A.nat n2) (A.lenA x3)) true, Zab (A.le 0 n2) (Nat.blt (A.nat n2) (A.lenA x3)), A.lt a n2],
   Zep (a) (b) (A.add n0 1) (x3)) := by kernel_rfl
theorem ZBc (A : Ar) (a b n0 n2 : Int) (x3 : List AV) : Zac A tab BO1 15 [false, false] (Zbm a b n0 n2 x3) (Za3 a b n0 n2 x3) =
  some (tr [1, 15, 4] [A.inR .i64 (A.add n0 1), !A.lt a n2],
   Zep (a) (b) (A.add n0 1) (x3)) := by kernel_rfl
end Go.Proofs.Ytjhdnpmojhkbjaa
/- Contracts as a list. No condition. -/
namespace Go.Proofs.Ytjhdnpmojhkbjaa
def Zah (x : AV) : Int := (AV.cellAt x 4).toI
abbrev shN : Sh := .agg [.int .i64, .int .i64, .int .i64, .ints .i64, .int .i64]
def Zmb (x : AV) : AV := AV.agg (Row.gen [AV.int .i64 (AV.toI (AV.cellAt x 0)), AV.int .i64 (AV.toI (AV.cellAt x 1)), AV.int .i64 (AV.toI (AV.cellAt x 2)), AV.list (.ints .i64 (AV.toIs (AV.cellAt x 3))), AV.int .i64 (AV.toI (AV.cellAt x 4))])
def isN : AV → Bool
  | .agg (.gen [.int .i64 _, .int .i64 _, .int .i64 _, .list (.ints .i64 _), .int .i64 _]) => true
  | _ => false
theorem ZlX {x : AV} (h : isN x = true) : Zmb x = x := by
  unfold isN at h
  split at h
  · rfl
  · cases h
def ZaF (xs : List AV) : Bool := xs.all isN
theorem ZdC {xs : List AV} (h : ZaF xs = true) {j : Nat} (hj : j < xs.length) : Zmb (xs.getD j .top) = xs.getD j .top := by
  have : isN (xs.getD j .top) = true := by
    rw [List.getD_eq_getElem?_getD, List.getElem?_eq_getElem hj]
    exact List.all_eq_true.mp h _ (List.getElem_mem hj)
  exact ZlX this
def Zet (x : AV) : List AV → List AV
  | [] => [x]
  | y :: l => if Zah x < Zah y then y :: Zet x l else x :: y :: l
def ZgQ (S : List AV) (x : AV) : List AV := (Zet x S.reverse).reverse
theorem Zj4 (S : List AV) (y x : AV) : ZgQ (S ++ [y]) x = if Zah x < Zah y then ZgQ S x ++ [y] else S ++ [y, x] := by
  unfold ZgQ
  rw [List.reverse_append]
  simp only [List.reverse_cons, List.reverse_nil, List.nil_append, List.singleton_append, Zet]
  split
  · simp
  · simp
def Zau (l : List AV) : List AV := l.foldl ZgQ []
theorem ZnK (l : List AV) (x : AV) : Zau (l ++ [x]) = ZgQ (Zau l) x := by simp [Zau, List.foldl_append]
theorem Zj8 (x : AV) : ∀ l : List AV, (Zet x l).length = l.length + 1
  | [] => rfl
  | y :: l => by
    unfold Zet
    split
    · simp [Zj8 x l]
    · simp
theorem ZrC (S : List AV) (x : AV) : (ZgQ S x).length = S.length + 1 := by simp [ZgQ, Zj8]
theorem Zcc (l : List AV) : (Zau l).length = l.length := by
  have : ∀ (l acc : List AV), (l.foldl ZgQ acc).length = acc.length + l.length := by
    intro l
    induction l with
    | nil => intro acc; simp
    | cons x l ih => intro acc; rw [List.foldl_cons, ih, ZrC, List.length_cons]; omega
  have h := this l []
  simpa [Zau] using h
def Zbu (a b : Nat) (xs : List AV) : List AV := xs.take a ++ Zau ((xs.take b).drop a) ++ xs.drop b
theorem Zfz (a b : Int) : decide (ZhG a b < 0) = decide (a < b) := by
  unfold ZhG
  split
  · rename_i h; simp [h]
  · split
    · rename_i h _; simp [h]
    · rename_i h _; simp [h]
theorem Zpz (p S q : List AV) (y x : AV) (j : Nat) (hj : j = p.length + S.length + 1) : ((p ++ (S ++ [y] ++ [x]) ++ q).set j y).set (j - 1) x = p ++ (S ++ [x] ++ [y]) ++ q := by
  subst hj
  have e1 : p ++ (S ++ [y] ++ [x]) ++ q = (p ++ S) ++ (y :: x :: q) := by simp
  have e2 : p ++ (S ++ [x] ++ [y]) ++ q = (p ++ S) ++ (x :: y :: q) := by simp
  rw [e1, e2, List.set_append_right _ _ (by rw [List.length_append]; omega), List.set_append_right _ _ (by rw [List.length_append]; omega)]
  have h1 : p.length + S.length + 1 - (p ++ S).length = 1 := by rw [List.length_append]; omega
  have h2 : p.length + S.length + 1 - 1 - (p ++ S).length = 0 := by simp
  rw [h1, h2]; rfl
theorem ZdO (T q : List AV) (x : AV) (j : Nat) (hj : j = T.length) : (T ++ x :: q).getD j .top = x := by
  subst hj
  simp [List.getD_eq_getElem?_getD]
theorem Zrm {C : Ctx} (hC : C.P = Try.prog) {Q : List AFrame → Zaa → Prop} (xs : List AV) (i a b : Int) (j : Nat) {x y : AV} (g1 : xs.getD (j + 1) .top = x) (g2 : xs.getD j .top = y) (hl : j + 1 < xs.length) (hL : xs.length < 1000000) (hx : Zmb x = x) (hy : Zmb y = y) (haj : a ≤ j) (hk : Zah x < Zah y)
    (hq : Ev C (Zbm a b i (j : Int) []) (Za3 a b i (j : Int) ((xs.set (j + 1) y).set j x)) Q) : Ev C (Zbm a b i ((j : Int) + 1) []) (Za3 a b i ((j : Int) + 1) xs) Q := by
  have e1 : ((j : Int) + 1).toNat = j + 1 := by omega
  have e2 : (j : Int) + 1 - 1 = j := by omega
  have hw := ZAx std a b i ((j : Int) + 1) xs
  simp only [Zam, Zai, Zho, Zax, e1, e2, g1, g2, Int.toNat_natCast] at hw
  rw [show (AV.agg (Row.gen [AV.int .i64 (AV.toI (AV.cellAt x 0)), AV.int .i64 (AV.toI (AV.cellAt x 1)), AV.int .i64 (AV.toI (AV.cellAt x 2)), AV.list (.ints .i64 (AV.toIs (AV.cellAt x 3))), AV.int .i64 (AV.toI (AV.cellAt x 4))])) = x from hx, show (AV.agg (Row.gen [AV.int .i64 (AV.toI (AV.cellAt y 0)), AV.int .i64 (AV.toI (AV.cellAt y 1)), AV.int .i64 (AV.toI (AV.cellAt y 2)), AV.list (.ints .i64 (AV.toIs (AV.cellAt y 3))), AV.int .i64 (AV.toI (AV.cellAt y 4))])) = y from hy] at hw
  have hk' : ZhG (AV.toI (AV.cellAt x 4)) (AV.toI (AV.cellAt y 4)) < 0 := by
    have := Zfz (Zah x) (Zah y)
    rw [decide_eq_true hk] at this
    exact of_decide_eq_true this
  refine go hC Zfr hw ?_ hq
  have r1 : std.inR .i64 (j : Int) = true := by simp; omega
  simp [hk', hl]
  omega
theorem Zrk {C : Ctx} (hC : C.P = Try.prog) {Q : List AFrame → Zaa → Prop} (xs : List AV) (i a b : Int) (j : Nat) {x y : AV} (g1 : xs.getD (j + 1) .top = x) (g2 : xs.getD j .top = y) (hl : j + 1 < xs.length) (hL : xs.length < 1000000) (haj : a ≤ j) (hi0 : 0 ≤ i) (hi1 : i < 1000000) (hk : ¬ Zah x < Zah y)
    (hq : Ev C (Zb6 a b (i + 1) []) (ZbH a b (i + 1) xs) Q) : Ev C (Zbm a b i ((j : Int) + 1) []) (Za3 a b i ((j : Int) + 1) xs) Q := by
  have e1 : ((j : Int) + 1).toNat = j + 1 := by omega
  have e2 : (j : Int) + 1 - 1 = j := by omega
  have hw := ZGf std a b i ((j : Int) + 1) xs
  simp only [Zam, Zai, Zax, e1, e2, g1, g2, Int.toNat_natCast] at hw
  have hk' : ¬ ZhG (AV.toI (AV.cellAt x 4)) (AV.toI (AV.cellAt y 4)) < 0 := by
    have := Zfz (Zah x) (Zah y)
    rw [decide_eq_false hk] at this
    exact of_decide_eq_false this
  refine go hC Zfr hw ?_ hq
  simp [hk', hl]
  omega
theorem ZsD {C : Ctx} (hC : C.P = Try.prog) {Q : List AFrame → Zaa → Prop} (p q : List AV) (x : AV) (i b : Int) (a : Nat) (ha : p.length = a) (hx : Zmb x = x) (hi1 : i < 1000000) (hi0 : 0 ≤ i) : ∀ (n : Nat) (S S2 : List AV), S.length = n → (∀ y ∈ S, Zmb y = y) → p.length + S.length + S2.length + q.length + 1 < 1000000 →
    (∀ R, R = ZgQ S x → Ev C (Zb6 a b (i + 1) []) (ZbH a b (i + 1) (p ++ R ++ (S2 ++ q))) Q) →
    Ev C (Zbm a b i ((a + S.length : Nat) : Int) []) (Za3 a b i ((a + S.length : Nat) : Int) (p ++ (S ++ [x]) ++ (S2 ++ q))) Q := by
  intro n
  induction n with
  | zero =>
    intro S S2 hn hS hl hq
    cases S with
    | cons y S => simp at hn
    | nil =>
      refine go hC Zfr (ZBc std a b i _ _) (by simp; omega) ?_
      exact hq _ rfl
  | succ n ih =>
    intro S S2 hn hS hl hq
    rcases List.eq_nil_or_concat S with rfl | ⟨T, y, rfl⟩
    · simp at hn
    · rw [List.concat_eq_append] at hn hS hl hq ⊢
      have hy : Zmb y = y := hS y (by simp)
      have hT : T.length = n := by simpa using hn
      have hl' : p.length + (T.length + 1) + S2.length + q.length + 1 < 1000000 := by simpa using hl
      have g1 : (p ++ (T ++ [y] ++ [x]) ++ (S2 ++ q)).getD (a + T.length + 1) .top = x := by
        rw [show p ++ (T ++ [y] ++ [x]) ++ (S2 ++ q) = (p ++ T ++ [y]) ++ x :: (S2 ++ q) by simp]
        exact ZdO _ _ _ _ (by simp [ha]; omega)
      have g2 : (p ++ (T ++ [y] ++ [x]) ++ (S2 ++ q)).getD (a + T.length) .top = y := by
        rw [show p ++ (T ++ [y] ++ [x]) ++ (S2 ++ q) = (p ++ T) ++ y :: x :: (S2 ++ q) by simp]
        exact ZdO _ _ _ _ (by simp [ha])
      have gl : (p ++ (T ++ [y] ++ [x]) ++ (S2 ++ q)).length = a + T.length + 2 + (S2.length + q.length) := by simp [ha]; omega
      have e3 : ((a + (T ++ [y]).length : Nat) : Int) = (a + T.length : Nat) + 1 := by simp; omega
      rw [e3]
      by_cases hk : Zah x < Zah y
      · refine Zrm hC _ i a b (a + T.length) g1 g2 (by rw [gl]; omega) (by rw [gl]; omega) hx hy (by omega) hk ?_
        have := Zpz p T (S2 ++ q) y x (a + T.length + 1) (by omega)
        rw [Nat.add_sub_cancel] at this
        rw [this, show p ++ (T ++ [x] ++ [y]) ++ (S2 ++ q) = p ++ (T ++ [x]) ++ ((y :: S2) ++ q) by simp]
        refine ih T (y :: S2) hT (fun z hz => hS z (by simp [hz])) (by simp; omega) fun R hR => ?_
        have := hq (R ++ [y]) (by rw [Zj4, if_pos hk, hR])
        simpa using this
      · refine Zrk hC _ i a b (a + T.length) g1 g2 (by rw [gl]; omega) (by rw [gl]; omega) (by omega) hi0 hi1 hk ?_
        have := hq (T ++ [y] ++ [x]) (by rw [Zj4, if_neg hk]; simp)
        exact this
theorem ZjO (xs : List AV) (a k : Nat) (ha : a ≤ k) (hk : k < xs.length) : (xs.take (k + 1)).drop a = (xs.take k).drop a ++ [xs.getD k .top] := by
  rw [List.getD_eq_getElem?_getD, List.getElem?_eq_getElem hk, List.take_succ_eq_append_getElem hk, List.drop_append_of_le_length (by simp; omega)]
  rfl
theorem ZfC {l : List AV} {y : AV} (h : y ∈ Zau l) : y ∈ l := by
  have hb : ∀ (l : List AV) (x y : AV), y ∈ Zet x l → y = x ∨ y ∈ l := by
    intro l
    induction l with
    | nil => intro x y h; simp [Zet] at h; exact .inl h
    | cons z l ih =>
      intro x y h
      unfold Zet at h
      split at h
      · rcases List.mem_cons.mp h with h | h
        · exact .inr (by simp [h])
        · rcases ih x y h with h | h
          · exact .inl h
          · exact .inr (by simp [h])
      · rcases List.mem_cons.mp h with h | h
        · exact .inl h
        · exact .inr h
  have hf : ∀ (l acc : List AV), y ∈ l.foldl ZgQ acc → y ∈ acc ∨ y ∈ l := by
    intro l
    induction l with
    | nil => intro acc h; exact .inl h
    | cons x l ih =>
      intro acc h
      rcases ih _ h with h | h
      · have h : y ∈ Zet x acc.reverse := by simpa [ZgQ] using h
        rcases hb _ _ _ h with h | h
        · exact .inr (by simp [h])
        · exact .inl (by simpa using h)
      · exact .inr (by simp [h])
  simpa using hf l [] h
theorem Zqa {C : Ctx} (hC : C.P = Try.prog) (xs : List AV) (a b : Nat) (hab : a ≤ b) (hb : b ≤ xs.length) (hL : xs.length < 1000000) (hn : ZaF xs = true) : ∀ (d k : Nat), b - k = d → a ≤ k → k ≤ b →
    Ev C (Zb6 a b (k : Int) []) (ZbH a b (k : Int) (Zbu a k xs)) (Zg8 139 140 5 (.big shN (Zbu a b xs)) (.tup [])) := by
  intro d
  induction d with
  | zero =>
    intro k hd hak hkb
    have : k = b := by omega
    subst this
    exact ZdU hC Zfr (ZtE std a k k (Zbu a k xs)) (by simp) rfl rfl rfl rfl
  | succ d ih =>
    intro k hd hak hkb
    have hk : k < xs.length := by omega
    refine go hC Zfr (ZB4 std a b k (Zbu a k xs)) (by simp; omega) ?_
    have hv : ∀ y ∈ xs, Zmb y = y := fun y hy => ZlX (List.all_eq_true.mp hn y hy)
    have e1 : Zbu a k xs = xs.take a ++ (Zau ((xs.take k).drop a) ++ [xs.getD k .top]) ++ ([] ++ xs.drop (k + 1)) := by
      unfold Zbu
      rw [List.drop_eq_getElem_cons hk, List.getD_eq_getElem?_getD, List.getElem?_eq_getElem hk]
      simp
    have e2 : (k : Int) = ((a + (Zau ((xs.take k).drop a)).length : Nat) : Int) := by
      rw [Zcc]; simp; omega
    have hlen : (xs.take a).length = a := by simp; omega
    have key := ZsD hC (Q := Zg8 139 140 5 (.big shN (Zbu a b xs)) (.tup [])) (xs.take a) (xs.drop (k + 1)) (xs.getD k .top) k b a hlen (ZdC hn hk) (by omega) (by omega) _ (Zau ((xs.take k).drop a)) [] rfl
      (fun y hy => hv y (List.mem_of_mem_take (List.mem_of_mem_drop (ZfC hy)))) (by rw [Zcc]; simp; omega) (fun R hR => by
        have := ih (k + 1) (by omega) (by omega) (by omega)
        have e3 : Zbu a (k + 1) xs = xs.take a ++ R ++ ([] ++ xs.drop (k + 1)) := by
          unfold Zbu
          rw [ZjO xs a k hak hk, ZnK, hR]
          simp
        rw [← e3]
        exact this)
    rw [← e1, ← e2] at key
    exact key
theorem ZxR (xs : List AV) (a b : Nat) (h : a ≤ b ∧ b ≤ xs.length ∧ xs.length < 1000000) (hn : ZaF xs = true) : Zk6 Try.prog 139 140 5 (.big shN xs) (.big shN (Zbu a b xs)) [.int .i64 a, .int .i64 b, .fn 119 []] (.tup []) :=
  Zgy (ZsS xs a b) fun C hC => by
    by_cases hab : a < b
    · refine go hC Zfr (Ztr std xs a b) (by simp; omega) ?_
      have e : Zbu a (a + 1) xs = xs := by
        unfold Zbu
        rw [ZjO xs a a (Nat.le_refl _) (by omega)]
        have : (xs.take a).drop a = [] := by simp
        rw [this]
        show xs.take a ++ [xs.getD a .top] ++ xs.drop (a + 1) = xs
        rw [List.getD_eq_getElem?_getD, List.getElem?_eq_getElem (by omega : a < xs.length), List.append_assoc]
        show xs.take a ++ (xs[a] :: xs.drop (a + 1)) = xs
        rw [← List.drop_eq_getElem_cons, List.take_append_drop]
      have := Zqa hC xs a b h.1 h.2.1 h.2.2 hn _ (a + 1) rfl (by omega) (by omega)
      rw [e] at this
      exact this
    · have hab : a = b := by omega
      subst hab
      have e : Zbu a a xs = xs := by
        unfold Zbu
        have : (xs.take a).drop a = [] := by simp
        rw [this]
        show xs.take a ++ [] ++ xs.drop a = xs
        simp
      refine go hC Zfr (Ztr std xs a a) (by simp; omega) ?_
      rw [e]
      exact ZdU hC Zfr (ZtE std a a (a + 1) xs) (by simp; omega) rfl rfl rfl rfl
theorem Zc2 {P : Program} {F f e : Nat} {sz : Nat} {x y : Row} {rest : List AV} {r : AV} (he : F = f + 1000000) (h : Zk6 P f e sz x y rest r) : Zhc P F (.list x :: rest) r (some ⟨e, sz, y⟩) := by
  have hb : Nat.blt F 1000000 = false := Zcl (by rw [he]; exact Nat.le_add_left _ _)
  have hs : F - 1000000 = f := by rw [he]; exact Nat.add_sub_cancel _ _
  unfold Zhc
  rw [hb]
  intro x' rest' fs h1 h2
  cases h1; cases h2
  rw [hs]
  exact h
attribute [irreducible] Zbu
def sgB (xs : List AV) (a b : Int) : Bool := decide (0 ≤ a ∧ a ≤ b ∧ b ≤ xs.length ∧ xs.length < 1000000) && ZaF xs
theorem ZwH (xs : List AV) (a b : Int) (h : sgB xs a b = true) : Zhc Try.prog 1000139 [.list (.big shN xs), .int .i64 a, .int .i64 b, .fn 119 []] (.tup []) (some ⟨140, 5, .big shN (Zbu a.toNat b.toNat xs)⟩) := by
  unfold sgB at h
  simp only [Bool.and_eq_true, decide_eq_true_eq] at h
  obtain ⟨⟨h1, h2, h3, h4⟩, h5⟩ := h
  obtain ⟨a, rfl⟩ := Int.eq_ofNat_of_zero_le h1
  obtain ⟨b, rfl⟩ := Int.eq_ofNat_of_zero_le (Int.le_trans h1 h2)
  exact Zc2 (f := 139) rfl (ZxR xs a b ⟨by omega, by omega, h4⟩ h5)
def k139 : Ctr := ⟨1000139, 0, fun _ a => match a with | [.list (.big (.agg [.int .i64, .int .i64, .int .i64, .ints .i64, .int .i64]) xs), .int .i64 a, .int .i64 b, .fn 119 []] => some (decide (sgB xs a b = true), .tup [], some ⟨140, 5, .big shN (Zbu a.toNat b.toNat xs)⟩) | _ => none⟩
theorem ZwJ : k139.OK Try.prog := fun pa args r fr h => by
  simp only [k139] at h
  split at h
  · simp only [Option.some.injEq, Prod.mk.injEq, decide_eq_true_eq] at h
    obtain ⟨h0, rfl, rfl⟩ := h
    exact ZwH _ _ _ h0
  · cases h
def BO2 : List Ctr := [k139] ++ BO1
theorem ZmZ : Zas Try.prog BO2 := ⟨ZwJ, Zfr⟩
end Go.Proofs.Ytjhdnpmojhkbjaa
/- Paths of functions, printed by the explorer (Gx). No condition. -/
namespace Go.Proofs.Ytjhdnpmojhkbjaa
set_option maxRecDepth 100000
set_option linter.unusedVariables false
def ZuM (xs : List AV) (a : Int) (b : Int) (n : Int) : AFrame := { fn := 142, N := 38, env := [(0, AV.row 0 0), (1, AV.int .i64 a), (2, AV.int .i64 b), (3, AV.int .i64 n), (4, AV.fn 119 [])], todo := [.code a142.code], defs := [], rnd := none, ret := false, res := [] }
def ZHN (xs : List AV) (a : Int) (b : Int) (n : Int) : List AFrame := [(ZuM xs a b n)]
theorem Zsb (xs : List AV) (a : Int) (b : Int) (n : Int) : Zal tab 142 [AV.row 0 0, AV.int .i64 a, AV.int .i64 b, AV.int .i64 n, AV.fn 119 []] = some (ZuM xs a b n) := rfl
def ZEI (xs : List AV) (a : Int) (b : Int) (n : Int) : Zaa := [(0, { base := 0, blks := [Blk.row 140 5 (Row.big (Sh.agg [Sh.int .i64, Sh.int .i64, Sh.int .i64, Sh.ints .i64, Sh.int .i64]) xs)] })]
def ZdR (a b n n0 : Int) (x1 : List AV) : List AFrame := [{ fn := 142, N := 38, env := [(0, AV.row 0 0), (1, AV.int .i64 a), (2, AV.int .i64 b), (3, AV.int .i64 n), (10, AV.int .i64 n0)], todo := .code (ACode.gh [] ZuD) :: ZzG, defs := [], rnd := none, ret := false, res := [] }]
def Zc9 (a : Int) (b : Int) (n : Int) (n0 : Int) (x1 : List AV) : Zaa := [(0, { base := 0, blks := [Blk.row 140 5 (Row.big (Sh.agg [Sh.int .i64, Sh.int .i64, Sh.int .i64, Sh.ints .i64, Sh.int .i64]) x1)] })]
abbrev ZgD (a : Int) (b : Int) (n : Int) (n0 : Int) (x1 : List AV) : List AFrame × Zaa := (ZdR a b n n0 x1, Zc9 a b n n0 x1)
theorem ZAg (A : Ar) (xs : List AV) (a b n : Int) : Zac A tab BO2 7 [] (ZHN xs a b n) (ZEI xs a b n) =
  some (tr [1] [],
   ZgD (a) (b) (n) (0) (xs)) := by kernel_rfl
theorem ZFq (A : Ar) (a b n n0 : Int) (x1 : List AV) : Zac A tab BO2 21 [true] (ZdR a b n n0 x1) (Zc9 a b n n0 x1) =
  some (tr [1, 1, 0, 0, 0, 0, 0, 0, 3, 0, 0, 3, 3, 3, 3] [A.inR .i64 (A.add n0 1), Zab (Nat.blt (A.nat (A.add b n0)) (A.lenA (A.setA x1 (A.nat (A.add a n0)) (AV.agg (Row.gen [.int .i64 ((A.nthA x1 (A.nat (A.add b n0))).cellAt 0).toI, .int .i64 ((A.nthA x1 (A.nat (A.add b n0))).cellAt 1).toI, .int .i64 ((A.nthA x1 (A.nat (A.add b n0))).cellAt 2).toI, .list (.ints .i64 ((A.nthA x1 (A.nat (A.add b n0))).cellAt 3).toIs), .int .i64 ((A.nthA x1 (A.nat (A.add b n0))).cellAt 4).toI]))))) true, Zab (A.le 0 (A.add b n0)) (Nat.blt (A.nat (A.add b n0)) (A.lenA (A.setA x1 (A.nat (A.add a n0)) (AV.agg (Row.gen [.int .i64 ((A.nthA x1 (A.nat (A.add b n0))).cellAt 0).toI, .int .i64 ((A.nthA x1 (A.nat (A.add b n0))).cellAt 1).toI, .int .i64 ((A.nthA x1 (A.nat (A.add b n0))).cellAt 2).toI, .list (.ints .i64 ((A.nthA x1 (A.nat (A.add b n0))).cellAt 3).toIs), .int .i64 ((A.nthA x1 (A.nat (A.add b n0))).cellAt 4).toI]))))), Zab (Nat.blt (A.nat (A.add a n0)) (A.lenA x1)) true, Zab (A.le 0 (A.add a n0)) (Nat.blt (A.nat (A.add a n0)) (A.lenA x1)), Zab (Nat.blt (A.nat (A.add a n0)) (A.lenA x1)) true, Zab (A.le 0 (A.add a n0)) (Nat.blt (A.nat (A.add a n0)) (A.lenA x1)), A.inR .i64 (A.add a n0), Zab (Nat.blt (A.nat (A.add b n0)) (A.lenA x1)) true, Zab (A.le 0 (A.add b n0)) (Nat.blt (A.nat (A.add b n0)) (A.lenA x1)), A.inR .i64 (A.add b n0), A.inR .i64 (A.add b n0), A.inR .i64 (A.add a n0), A.lt n0 n],
   ZgD (a) (b) (n) (A.add n0 1) (A.setA (A.setA x1 (A.nat (A.add a n0)) (AV.agg (Row.gen [.int .i64 ((A.nthA x1 (A.nat (A.add b n0))).cellAt 0).toI, .int .i64 ((A.nthA x1 (A.nat (A.add b n0))).cellAt 1).toI, .int .i64 ((A.nthA x1 (A.nat (A.add b n0))).cellAt 2).toI, .list (.ints .i64 ((A.nthA x1 (A.nat (A.add b n0))).cellAt 3).toIs), .int .i64 ((A.nthA x1 (A.nat (A.add b n0))).cellAt 4).toI]))) (A.nat (A.add b n0)) (AV.agg (Row.gen [.int .i64 ((A.nthA x1 (A.nat (A.add a n0))).cellAt 0).toI, .int .i64 ((A.nthA x1 (A.nat (A.add a n0))).cellAt 1).toI, .int .i64 ((A.nthA x1 (A.nat (A.add a n0))).cellAt 2).toI, .list (.ints .i64 ((A.nthA x1 (A.nat (A.add a n0))).cellAt 3).toIs), .int .i64 ((A.nthA x1 (A.nat (A.add a n0))).cellAt 4).toI])))) := by kernel_rfl
theorem ZEM (A : Ar) (a b n n0 : Int) (x1 : List AV) : Za2 A tab BO2 11 [false] 142 (ZdR a b n n0 x1) (Zc9 a b n n0 x1) =
  some (tr [1, 3] [!A.lt n0 n],
   AV.tup [], 140, 5, Row.big (.agg [.int .i64, .int .i64, .int .i64, .ints .i64, .int .i64]) x1) := by kernel_rfl
end Go.Proofs.Ytjhdnpmojhkbjaa
/- Contracts as a list. No condition. -/
namespace Go.Proofs.Ytjhdnpmojhkbjaa
def ZfQ (a b : Nat) : Nat → List AV → List AV
  | 0, xs => xs
  | k + 1, xs => ((ZfQ a b k xs).set (a + k) ((ZfQ a b k xs).getD (b + k) .top)).set (b + k) ((ZfQ a b k xs).getD (a + k) .top)
theorem Zjb (a b : Nat) (xs : List AV) : ∀ k, (ZfQ a b k xs).length = xs.length
  | 0 => rfl
  | k + 1 => by simp [ZfQ, Zjb a b xs k]
theorem ZjK (a b : Nat) (xs : List AV) : ∀ k, a + k ≤ b → b + k ≤ xs.length → ∀ i, (ZfQ a b k xs)[i]? = if a ≤ i ∧ i < a + k then xs[i + b - a]? else if b ≤ i ∧ i < b + k then xs[i + a - b]? else xs[i]?
  | 0, _, _, i => by
    rw [if_neg (by omega), if_neg (by omega)]; rfl
  | k + 1, h1, h2, i => by
    have ih := ZjK a b xs k (by omega) (by omega)
    have l := Zjb a b xs k
    have gb : (ZfQ a b k xs)[b + k]? = xs[b + k]? := by rw [ih, if_neg (by omega), if_neg (by omega)]
    have ga : (ZfQ a b k xs)[a + k]? = xs[a + k]? := by rw [ih, if_neg (by omega), if_neg (by omega)]
    have hb : xs[b + k]? = some ((ZfQ a b k xs).getD (b + k) .top) := by
      rw [List.getD_eq_getElem?_getD, gb, List.getElem?_eq_getElem (by omega : b + k < xs.length)]; rfl
    have ha : xs[a + k]? = some ((ZfQ a b k xs).getD (a + k) .top) := by
      rw [List.getD_eq_getElem?_getD, ga, List.getElem?_eq_getElem (by omega : a + k < xs.length)]; rfl
    rw [ZfQ, List.getElem?_set, List.getElem?_set, List.length_set, l, ih]
    by_cases e1 : b + k = i
    · subst e1
      rw [if_pos rfl, if_pos (by omega), if_neg (by omega), if_pos (by omega), ← ha]
      congr 1; omega
    · rw [if_neg e1]
      by_cases e2 : a + k = i
      · subst e2
        rw [if_pos rfl, if_pos (by omega), if_pos (by omega), ← hb]
        congr 1; omega
      · rw [if_neg e2]
        by_cases c1 : a ≤ i ∧ i < a + k
        · rw [if_pos c1, if_pos (by omega)]
        · rw [if_neg c1]
          by_cases c2 : b ≤ i ∧ i < b + k
          · rw [if_pos c2, if_neg (by omega), if_pos (by omega)]
          · rw [if_neg c2, if_neg (by omega), if_neg (by omega)]
theorem Zgj (P U M V S : List AV) (h : U.length = V.length) : ZfQ P.length (P.length + U.length + M.length) U.length (P ++ U ++ M ++ V ++ S) = P ++ V ++ M ++ U ++ S := by
  apply List.ext_getElem?
  intro i
  rw [ZjK _ _ _ _ (by omega) (by simp; omega)]
  simp only [List.getElem?_append, List.length_append]
  repeat' split
  all_goals (try omega)
  all_goals (first | rfl | (congr 1; omega))
theorem numsB_mem {xs : List AV} : ZaF xs = true ↔ ∀ x ∈ xs, isN x = true := by
  unfold ZaF; exact List.all_eq_true
theorem Zql (a b : Nat) (xs : List AV) (h : ZaF xs = true) (k : Nat) (h1 : a + k ≤ b) (h2 : b + k ≤ xs.length) : ZaF (ZfQ a b k xs) = true := by
  rw [numsB_mem] at h ⊢
  intro x hx
  obtain ⟨i, hi⟩ := List.mem_iff_getElem?.mp hx
  rw [ZjK a b xs k h1 h2 i] at hi
  split at hi
  · exact h x (List.mem_of_getElem? hi)
  · split at hi
    · exact h x (List.mem_of_getElem? hi)
    · exact h x (List.mem_of_getElem? hi)
theorem Zre {C : Ctx} (hC : C.P = Try.prog) (xs : List AV) (a b n : Nat) (h1 : a + n ≤ b) (h2 : b + n ≤ xs.length) (hL : xs.length < 1000000) (hn : ZaF xs = true) : ∀ (d k : Nat), n - k = d → k ≤ n →
    Ev C (ZdR a b n (k : Int) []) (Zc9 a b n (k : Int) (ZfQ a b k xs)) (Zg8 142 140 5 (.big shN (ZfQ a b n xs)) (.tup [])) := by
  intro d
  induction d with
  | zero =>
    intro k hd hk
    have : k = n := by omega
    subst this
    exact ZdU hC ZmZ (ZEM std a b k k (ZfQ a b k xs)) (by simp) rfl rfl rfl rfl
  | succ d ih =>
    intro k hd hk
    have hw := ZFq std a b n k (ZfQ a b k xs)
    have e1 : ((a : Int) + k).toNat = a + k := by omega
    have e2 : ((b : Int) + k).toNat = b + k := by omega
    have l := Zjb a b xs k
    have hv := Zql a b xs hn k (by omega) (by omega)
    have hx := ZdC hv (j := a + k) (by omega)
    have hy := ZdC hv (j := b + k) (by omega)
    have ih' := ih (k + 1) (by omega) (by omega)
    rw [ZfQ] at ih'
    generalize hX : (ZfQ a b k xs).getD (a + k) .top = x at *
    generalize hY : (ZfQ a b k xs).getD (b + k) .top = y at *
    simp only [Zam, Zai, Zho, ZaV, e1, e2, hX, hY] at hw
    rw [show (AV.agg (Row.gen [AV.int .i64 (AV.toI (AV.cellAt x 0)), AV.int .i64 (AV.toI (AV.cellAt x 1)), AV.int .i64 (AV.toI (AV.cellAt x 2)), AV.list (.ints .i64 (AV.toIs (AV.cellAt x 3))), AV.int .i64 (AV.toI (AV.cellAt x 4))])) = x from hx, show (AV.agg (Row.gen [AV.int .i64 (AV.toI (AV.cellAt y 0)), AV.int .i64 (AV.toI (AV.cellAt y 1)), AV.int .i64 (AV.toI (AV.cellAt y 2)), AV.list (.ints .i64 (AV.toIs (AV.cellAt y 3))), AV.int .i64 (AV.toI (AV.cellAt y 4))])) = y from hy] at hw
    refine go hC ZmZ hw ?_ ih'
    simp [l]
    omega
theorem ZvE (xs : List AV) (a b n : Nat) (h : a + n ≤ b ∧ b + n ≤ xs.length ∧ xs.length < 1000000) (hn : ZaF xs = true) : Zk6 Try.prog 142 140 5 (.big shN xs) (.big shN (ZfQ a b n xs)) [.int .i64 a, .int .i64 b, .int .i64 n, .fn 119 []] (.tup []) :=
  Zgy (Zsb xs a b n) fun C hC => go hC ZmZ (ZAg std xs a b n) (by simp) (Zre hC xs a b n h.1 h.2.1 h.2.2 hn _ 0 rfl (by omega))
def swB (xs : List AV) (a b n : Int) : Bool := decide (0 ≤ a ∧ 0 ≤ n ∧ a + n ≤ b ∧ b + n ≤ xs.length ∧ xs.length < 1000000) && ZaF xs
theorem ZwR (xs : List AV) (a b n : Int) (h : swB xs a b n = true) : Zhc Try.prog 1000142 [.list (.big shN xs), .int .i64 a, .int .i64 b, .int .i64 n, .fn 119 []] (.tup []) (some ⟨140, 5, .big shN (ZfQ a.toNat b.toNat n.toNat xs)⟩) := by
  unfold swB at h
  simp only [Bool.and_eq_true, decide_eq_true_eq] at h
  obtain ⟨⟨h1, h2, h3, h4, h6⟩, h5⟩ := h
  obtain ⟨a, rfl⟩ := Int.eq_ofNat_of_zero_le h1
  obtain ⟨n, rfl⟩ := Int.eq_ofNat_of_zero_le h2
  obtain ⟨b, rfl⟩ := Int.eq_ofNat_of_zero_le (by omega : 0 ≤ b)
  exact Zc2 (f := 142) rfl (ZvE xs a b n ⟨by omega, by omega, h6⟩ h5)
def k142 : Ctr := ⟨1000142, 0, fun _ a => match a with | [.list (.big (.agg [.int .i64, .int .i64, .int .i64, .ints .i64, .int .i64]) xs), .int .i64 a, .int .i64 b, .int .i64 n, .fn 119 []] => some (decide (swB xs a b n = true), .tup [], some ⟨140, 5, .big shN (ZfQ a.toNat b.toNat n.toNat xs)⟩) | _ => none⟩
theorem ZwI : k142.OK Try.prog := fun pa args r fr h => by
  simp only [k142] at h
  split at h
  · simp only [Option.some.injEq, Prod.mk.injEq, decide_eq_true_eq] at h
    obtain ⟨h0, rfl, rfl⟩ := h
    exact ZwR _ _ _ _ h0
  · cases h
def BO3 : List Ctr := [k142] ++ BO2
theorem ZkG : Zas Try.prog BO3 := ⟨ZwI, ZmZ⟩
end Go.Proofs.Ytjhdnpmojhkbjaa
/- Paths of functions, printed by the explorer (Gx). No condition. -/
namespace Go.Proofs.Ytjhdnpmojhkbjaa
set_option maxRecDepth 100000
set_option linter.unusedVariables false
def Zuj (xs : List AV) (a : Int) (m : Int) (b : Int) : AFrame := { fn := 141, N := 58, env := [(0, AV.row 0 0), (1, AV.int .i64 a), (2, AV.int .i64 m), (3, AV.int .i64 b), (4, AV.fn 119 [])], todo := [.code a141.code], defs := [], rnd := none, ret := false, res := [] }
def ZHm (xs : List AV) (a : Int) (m : Int) (b : Int) : List AFrame := [(Zuj xs a m b)]
theorem Zrt (xs : List AV) (a : Int) (m : Int) (b : Int) : Zal tab 141 [AV.row 0 0, AV.int .i64 a, AV.int .i64 m, AV.int .i64 b, AV.fn 119 []] = some (Zuj xs a m b) := rfl
def ZE6 (xs : List AV) (a : Int) (m : Int) (b : Int) : Zaa := [(0, { base := 0, blks := [Blk.row 140 5 (Row.big (Sh.agg [Sh.int .i64, Sh.int .i64, Sh.int .i64, Sh.ints .i64, Sh.int .i64]) xs)] })]
def Zc3 (m n0 n1 : Int) (x2 : List AV) : List AFrame := [{ fn := 141, N := 58, env := [(0, AV.row 0 0), (2, AV.int .i64 m), (4, AV.fn 119 []), (10, AV.int .i64 n0), (11, AV.int .i64 n1)], todo := .code (ACode.gh [] Zt1) :: ZF8, defs := [], rnd := none, ret := false, res := [] }]
def Zck (m : Int) (n0 : Int) (n1 : Int) (x2 : List AV) : Zaa := [(0, { base := 0, blks := [Blk.row 140 5 (Row.big (Sh.agg [Sh.int .i64, Sh.int .i64, Sh.int .i64, Sh.ints .i64, Sh.int .i64]) x2)] })]
abbrev Zev (m : Int) (n0 : Int) (n1 : Int) (x2 : List AV) : List AFrame × Zaa := (Zc3 m n0 n1 x2, Zck m n0 n1 x2)
theorem ZB9 (A : Ar) (xs : List AV) (a m b : Int) : Zac A tab BO3 18 [] (ZHm xs a m b) (ZE6 xs a m b) =
  some (tr [1, 3, 2] [A.inR .i64 (A.sub b m), A.inR .i64 (A.sub m a)],
   Zev (m) (A.sub m a) (A.sub b m) (xs)) := by kernel_rfl
theorem ZAC (A : Ar) (m n0 n1 : Int) (x2 : List AV) : Zac A tab BO3 39 [true, true] (Zc3 m n0 n1 x2) (Zck m n0 n1 x2) =
  some (tr [1, 2, 3, 3, 3, 3] [A.inR .i64 (A.sub n0 n1), Zab (decide (swB x2 (A.sub m n0) m n1 = true)) true, A.inR .i64 (A.sub m n0), A.lt n1 n0, A.not (A.eq n0 n1)],
   Zev (m) (A.sub n0 n1) (n1) (ZfQ (Int.toNat (A.sub m n0)) (Int.toNat m) (Int.toNat n1) x2)) := by kernel_rfl
theorem ZB7 (A : Ar) (m n0 n1 : Int) (x2 : List AV) : Zac A tab BO3 43 [true, false] (Zc3 m n0 n1 x2) (Zck m n0 n1 x2) =
  some (tr [1, 2, 2, 1, 2, 3, 3, 3] [A.inR .i64 (A.sub n1 n0), Zab (decide (swB x2 (A.sub m n0) (A.sub (A.add m n1) n0) n0 = true)) true, A.inR .i64 (A.sub (A.add m n1) n0), A.inR .i64 (A.add m n1), A.inR .i64 (A.sub m n0), !A.lt n1 n0, A.not (A.eq n0 n1)],
   Zev (m) (n0) (A.sub n1 n0) (ZfQ (Int.toNat (A.sub m n0)) (Int.toNat (A.sub (A.add m n1) n0)) (Int.toNat n0) x2)) := by kernel_rfl
theorem ZBS (A : Ar) (m n0 n1 : Int) (x2 : List AV) : Za2 A tab BO3 21 [false] 141 (Zc3 m n0 n1 x2) (Zck m n0 n1 x2) =
  some (tr [1, 3, 3, 3] [Zab (decide (swB x2 (A.sub m n0) m n0 = true)) true, A.inR .i64 (A.sub m n0), !A.not (A.eq n0 n1)],
   AV.tup [], 140, 5, Row.big (.agg [.int .i64, .int .i64, .int .i64, .ints .i64, .int .i64]) (ZfQ (Int.toNat (A.sub m n0)) (Int.toNat m) (Int.toNat n0) x2)) := by kernel_rfl
end Go.Proofs.Ytjhdnpmojhkbjaa
/- Contracts as a list. No condition. -/
namespace Go.Proofs.Ytjhdnpmojhkbjaa
theorem Zbi (a b : List AV) : ZaF (a ++ b) = (ZaF a && ZaF b) := by unfold ZaF; exact List.all_append
theorem Zsc {C : Ctx} (hC : C.P = Try.prog) (R : List AV) : ∀ (N : Nat) (P U V S : List AV), U.length + V.length ≤ N → 0 < U.length → 0 < V.length → P.length + U.length + V.length + S.length < 1000000 → ZaF (P ++ U ++ V ++ S) = true → P ++ V ++ U ++ S = R →
    Ev C (Zc3 ((P.length + U.length : Nat) : Int) (U.length : Int) (V.length : Int) []) (Zck ((P.length + U.length : Nat) : Int) (U.length : Int) (V.length : Int) (P ++ U ++ V ++ S)) (Zg8 141 140 5 (.big shN R) (.tup [])) := by
  intro N
  induction N with
  | zero => intro P U V S h1 h2; omega
  | succ N ih =>
    intro P U V S hN hU hV hL hn hR
    have hlen : (P ++ U ++ V ++ S).length = P.length + U.length + V.length + S.length := by simp [Nat.add_assoc]
    have em : ((P.length + U.length : Nat) : Int) - (U.length : Int) = (P.length : Nat) := by omega
    have hn4 : ZaF P = true ∧ ZaF U = true ∧ ZaF V = true ∧ ZaF S = true := by
      rw [Zbi, Zbi, Zbi] at hn
      simp only [Bool.and_eq_true] at hn
      exact ⟨hn.1.1.1, hn.1.1.2, hn.1.2, hn.2⟩
    by_cases he : U.length = V.length
    · have hw := ZBS std ((P.length + U.length : Nat) : Int) (U.length : Int) (V.length : Int) (P ++ U ++ V ++ S)
      simp only [Zax, em, Int.toNat_natCast] at hw
      have hs := Zgj P U [] V S he
      simp only [List.length_nil, Nat.add_zero, List.append_nil] at hs
      rw [hs, hR] at hw
      refine ZdU hC ZkG hw ?_ rfl rfl rfl rfl
      have hb : swB (P ++ U ++ V ++ S) (P.length : Nat) ((P.length + U.length : Nat) : Int) (U.length : Nat) = true := by
        unfold swB
        rw [hn, hlen]
        simp only [Bool.and_true, decide_eq_true_eq]
        omega
      simp only [hb]
      simp [he]
      omega
    · by_cases hlt : V.length < U.length
      · have hw := ZAC std ((P.length + U.length : Nat) : Int) (U.length : Int) (V.length : Int) (P ++ U ++ V ++ S)
        obtain ⟨A, B, hA, rfl⟩ : ∃ A B : List AV, A.length = V.length ∧ U = A ++ B := ⟨U.take V.length, U.drop V.length, by simp; omega, by simp⟩
        have hs := Zgj P A B V S hA
        simp only [Zax, em, Int.toNat_natCast] at hw
        have e1 : P.length + (A ++ B).length = P.length + A.length + B.length := by simp [Nat.add_assoc]
        have e2 : P ++ (A ++ B) ++ V ++ S = P ++ A ++ B ++ V ++ S := by simp
        have e3 : (((A ++ B).length : Nat) : Int) - (V.length : Nat) = (B.length : Nat) := by simp; omega
        have hb : swB (P ++ (A ++ B) ++ V ++ S) (P.length : Nat) ((P.length + (A ++ B).length : Nat) : Int) (V.length : Nat) = true := by
          unfold swB
          rw [hn, hlen]
          simp only [Bool.and_true, decide_eq_true_eq]
          simp only [List.length_append] at *
          omega
        have hsw : ZfQ P.length (P.length + (A ++ B).length) V.length (P ++ (A ++ B) ++ V ++ S) = P ++ V ++ B ++ A ++ S := by
          rw [e1, e2, ← hA]; exact hs
        rw [hsw, e3] at hw
        simp only [List.length_append] at *
        refine go hC ZkG hw ?_ ?_
        · simp only [hb]
          simp
          omega
        · have := ih (P ++ V) B A S (by omega) (by omega) (by omega) (by rw [List.length_append]; omega) (by
            simp only [Zbi, Bool.and_eq_true] at *
            exact ⟨⟨⟨⟨hn4.1, hn4.2.2.1⟩, hn4.2.1.2⟩, hn4.2.1.1⟩, hn4.2.2.2⟩) (by rw [← hR]; simp)
          have e4 : ((P.length + (A.length + B.length) : Nat) : Int) = (((P ++ V).length + B.length : Nat) : Int) := by rw [List.length_append]; omega
          rw [e4, ← hA]
          exact this
      · have hw := ZB7 std ((P.length + U.length : Nat) : Int) (U.length : Int) (V.length : Int) (P ++ U ++ V ++ S)
        obtain ⟨A, B, hB, rfl⟩ : ∃ A B : List AV, U.length = B.length ∧ V = A ++ B := ⟨V.take (V.length - U.length), V.drop (V.length - U.length), by simp; omega, by simp⟩
        have hs := Zgj P U A B S hB
        have e0 : ((P.length + U.length : Nat) : Int) + ((A ++ B).length : Nat) - (U.length : Nat) = ((P.length + U.length + A.length : Nat) : Int) := by rw [List.length_append]; omega
        simp only [Zax, ZaV, em, e0, Int.toNat_natCast] at hw
        have e2 : P ++ U ++ (A ++ B) ++ S = P ++ U ++ A ++ B ++ S := by simp
        have e3 : (((A ++ B).length : Nat) : Int) - (U.length : Nat) = (A.length : Nat) := by rw [List.length_append]; omega
        have hb : swB (P ++ U ++ (A ++ B) ++ S) (P.length : Nat) ((P.length + U.length + A.length : Nat) : Int) (U.length : Nat) = true := by
          unfold swB
          rw [hn, hlen]
          simp only [Bool.and_true, decide_eq_true_eq]
          simp only [List.length_append] at *
          omega
        rw [e2] at hb
        rw [e2, hs, e3] at hw
        rw [e2]
        simp only [List.length_append] at *
        refine go hC ZkG hw ?_ ?_
        · simp only [hb]
          simp
          omega
        · have := ih P B A (U ++ S) (by omega) (by omega) (by omega) (by rw [List.length_append]; omega) (by
            simp only [Zbi, Bool.and_eq_true] at *
            exact ⟨⟨⟨hn4.1, hn4.2.2.1.2⟩, hn4.2.2.1.1⟩, hn4.2.1, hn4.2.2.2⟩) (by rw [← hR]; simp)
          have e5 : P ++ B ++ A ++ U ++ S = P ++ B ++ A ++ (U ++ S) := by simp
          rw [e5, hB]
          exact this
def Zhd (a m b : Nat) (xs : List AV) : List AV := xs.take a ++ (xs.take b).drop m ++ (xs.take m).drop a ++ xs.drop b
theorem ZHD (xs : List AV) (a m b : Nat) (h1 : a ≤ m) (h2 : m ≤ b) : xs.take a ++ (xs.take m).drop a ++ (xs.take b).drop m ++ xs.drop b = xs := by
  have e1 : xs.take a ++ (xs.take m).drop a = xs.take m := by
    have := List.take_append_drop a (xs.take m)
    rwa [List.take_take, Nat.min_eq_left h1] at this
  have e2 : xs.take m ++ (xs.take b).drop m = xs.take b := by
    have := List.take_append_drop m (xs.take b)
    rwa [List.take_take, Nat.min_eq_left h2] at this
  rw [e1, e2, List.take_append_drop]
theorem ZET (xs : List AV) (a m b : Nat) (h : a < m ∧ m < b ∧ b ≤ xs.length ∧ xs.length < 1000000) (hn : ZaF xs = true) : Zk6 Try.prog 141 140 5 (.big shN xs) (.big shN (Zhd a m b xs)) [.int .i64 a, .int .i64 m, .int .i64 b, .fn 119 []] (.tup []) :=
  Zgy (Zrt xs a m b) fun C hC => by
    obtain ⟨h1, h2, h3, h4⟩ := h
    refine go hC ZkG (ZB9 std xs a m b) (by simp; omega) ?_
    have hc := ZHD xs a m b (by omega) (by omega)
    have l1 : (xs.take a).length = a := by simp; omega
    have l2 : ((xs.take m).drop a).length = m - a := by simp; omega
    have l3 : ((xs.take b).drop m).length = b - m := by simp; omega
    have l4 : (xs.drop b).length = xs.length - b := by simp
    have := Zsc hC (Zhd a m b xs) _ (xs.take a) ((xs.take m).drop a) ((xs.take b).drop m) (xs.drop b) (Nat.le_refl _) (by rw [l2]; omega) (by rw [l3]; omega) (by rw [l1, l2, l3, l4]; omega) (by rw [hc]; exact hn) rfl
    rw [hc, l1, l2, l3] at this
    have e1 : ((a + (m - a) : Nat) : Int) = (m : Int) := by omega
    have e2 : ((m - a : Nat) : Int) = (m : Int) - a := by omega
    have e3 : ((b - m : Nat) : Int) = (b : Int) - m := by omega
    rw [e1, e2, e3] at this
    exact this
attribute [irreducible] Zhd
def Zmp (xs : List AV) (a m b : Int) : Bool := decide (0 ≤ a ∧ a < m ∧ m < b ∧ b ≤ xs.length ∧ xs.length < 1000000) && ZaF xs
theorem ZBL (xs : List AV) (a m b : Int) (h : Zmp xs a m b = true) : Zhc Try.prog 1000141 [.list (.big shN xs), .int .i64 a, .int .i64 m, .int .i64 b, .fn 119 []] (.tup []) (some ⟨140, 5, .big shN (Zhd a.toNat m.toNat b.toNat xs)⟩) := by
  unfold Zmp at h
  simp only [Bool.and_eq_true, decide_eq_true_eq] at h
  obtain ⟨⟨h1, h2, h3, h4, h6⟩, h5⟩ := h
  obtain ⟨a, rfl⟩ := Int.eq_ofNat_of_zero_le h1
  obtain ⟨m, rfl⟩ := Int.eq_ofNat_of_zero_le (by omega : 0 ≤ m)
  obtain ⟨b, rfl⟩ := Int.eq_ofNat_of_zero_le (by omega : 0 ≤ b)
  exact Zc2 (f := 141) rfl (ZET xs a m b ⟨by omega, by omega, by omega, h6⟩ h5)
def k141 : Ctr := ⟨1000141, 0, fun _ a => match a with | [.list (.big (.agg [.int .i64, .int .i64, .int .i64, .ints .i64, .int .i64]) xs), .int .i64 a, .int .i64 m, .int .i64 b, .fn 119 []] => some (decide (Zmp xs a m b = true), .tup [], some ⟨140, 5, .big shN (Zhd a.toNat m.toNat b.toNat xs)⟩) | _ => none⟩
theorem Zwa : k141.OK Try.prog := fun pa args r fr h => by
  simp only [k141] at h
  split at h
  · simp only [Option.some.injEq, Prod.mk.injEq, decide_eq_true_eq] at h
    obtain ⟨h0, rfl, rfl⟩ := h
    exact ZBL _ _ _ _ h0
  · cases h
def BO4 : List Ctr := [k141] ++ BO3
theorem Ztt : Zas Try.prog BO4 := ⟨Zwa, ZkG⟩
end Go.Proofs.Ytjhdnpmojhkbjaa
/- Sorting that keeps the order of equals. No condition. -/
namespace Go.Proofs.Ytjhdnpmojhkbjaa
def fkN (k : Int) (l : List AV) : List AV := l.filter fun x => decide (Zah x = k)
def Za5 (l : List AV) : Prop := l.Pairwise fun x y => Zah x ≤ Zah y
theorem Zbk (k : Int) (a b : List AV) : fkN k (a ++ b) = fkN k a ++ fkN k b := by simp [fkN]
theorem ZaC (k : Int) (x : AV) (l : List AV) : fkN k (x :: l) = if Zah x = k then x :: fkN k l else fkN k l := by
  unfold fkN
  rw [List.filter_cons]
  by_cases h : Zah x = k
  · simp [h]
  · simp [h]
theorem ZmV (k : Int) (x : AV) : ∀ l, fkN k (Zet x l) = fkN k (x :: l)
  | [] => rfl
  | y :: l => by
    unfold Zet
    split
    · rename_i h
      rw [ZaC, ZmV k x l, ZaC, ZaC k x (y :: l), ZaC]
      by_cases h1 : Zah y = k
      · rw [if_pos h1, if_neg (by omega), if_neg (by omega), if_pos h1]
      · rw [if_neg h1, if_neg h1]
    · rfl
theorem Zk1 {x y : AV} : ∀ {l : List AV}, y ∈ Zet x l → y = x ∨ y ∈ l
  | [], h => by simp [Zet] at h; exact .inl h
  | z :: l, h => by
    unfold Zet at h
    split at h
    · rcases List.mem_cons.mp h with h | h
      · exact .inr (by simp [h])
      · rcases Zk1 h with h | h
        · exact .inl h
        · exact .inr (by simp [h])
    · rcases List.mem_cons.mp h with h | h
      · exact .inl h
      · exact .inr h
theorem Zit (x : AV) : ∀ {l : List AV}, l.Pairwise (fun a b => Zah b ≤ Zah a) → (Zet x l).Pairwise (fun a b => Zah b ≤ Zah a)
  | [], _ => by simp [Zet]
  | y :: l, h => by
    obtain ⟨h1, h2⟩ := List.pairwise_cons.mp h
    unfold Zet
    split
    · rename_i hlt
      refine List.pairwise_cons.mpr ⟨fun z hz => ?_, Zit x h2⟩
      rcases Zk1 hz with rfl | hz
      · omega
      · exact h1 z hz
    · rename_i hge
      refine List.pairwise_cons.mpr ⟨fun z hz => ?_, h⟩
      rcases List.mem_cons.mp hz with rfl | hz
      · omega
      · have := h1 z hz; omega
theorem Zp3 (k : Int) (l : List AV) : fkN k l.reverse = (fkN k l).reverse := by simp [fkN]
theorem ZpK (S : List AV) (x : AV) (h : Za5 S) : Za5 (ZgQ S x) := by
  unfold ZgQ Za5
  rw [List.pairwise_reverse]
  exact Zit x (by rw [List.pairwise_reverse]; exact h)
theorem ZxF (k : Int) (S : List AV) (x : AV) : fkN k (ZgQ S x) = fkN k (S ++ [x]) := by
  unfold ZgQ
  rw [Zp3, ZmV, ← Zp3]; simp
theorem Zbp (l : List AV) : Za5 (Zau l) ∧ ∀ k, fkN k (Zau l) = fkN k l := by
  have : ∀ (l acc : List AV), Za5 acc → Za5 (l.foldl ZgQ acc) ∧ ∀ k, fkN k (l.foldl ZgQ acc) = fkN k (acc ++ l) := by
    intro l
    induction l with
    | nil => intro acc h; exact ⟨h, fun k => by simp⟩
    | cons x l ih =>
      intro acc h
      obtain ⟨h1, h2⟩ := ih (ZgQ acc x) (ZpK acc x h)
      refine ⟨h1, fun k => ?_⟩
      rw [List.foldl_cons, h2 k, Zbk, ZxF, ← Zbk]; simp
  have h := this l [] List.Pairwise.nil
  simp only [List.nil_append] at h
  exact h
theorem fkN_mem {k : Int} {x : AV} {l : List AV} : x ∈ fkN k l ↔ x ∈ l ∧ Zah x = k := by simp [fkN]
theorem Zjf : ∀ {l m : List AV}, Za5 l → Za5 m → (∀ k, fkN k l = fkN k m) → l = m
  | [], [], _, _, _ => rfl
  | [], y :: m, _, _, h => by
    have := h (Zah y)
    rw [ZaC, if_pos rfl] at this
    simp [fkN] at this
  | x :: l, [], _, _, h => by
    have := h (Zah x)
    rw [ZaC, if_pos rfl] at this
    simp [fkN] at this
  | x :: l, y :: m, hl, hm, h => by
    obtain ⟨l1, l2⟩ := List.pairwise_cons.mp hl
    obtain ⟨m1, m2⟩ := List.pairwise_cons.mp hm
    have hx : x ∈ y :: m := by
      have : x ∈ fkN (Zah x) (x :: l) := fkN_mem.mpr ⟨by simp, rfl⟩
      rw [h] at this; exact (fkN_mem.mp this).1
    have hy : y ∈ x :: l := by
      have : y ∈ fkN (Zah y) (y :: m) := fkN_mem.mpr ⟨by simp, rfl⟩
      rw [← h] at this; exact (fkN_mem.mp this).1
    have e1 : Zah x ≤ Zah y := by
      rcases List.mem_cons.mp hy with e | e
      · rw [e]; exact Int.le_refl _
      · exact l1 y e
    have e2 : Zah y ≤ Zah x := by
      rcases List.mem_cons.mp hx with e | e
      · rw [e]; exact Int.le_refl _
      · exact m1 x e
    have hk := h (Zah x)
    rw [ZaC, if_pos rfl, ZaC, if_pos (by omega)] at hk
    obtain ⟨exy, _⟩ := List.cons.inj hk
    subst exy
    rw [Zjf l2 m2 fun k => ?_]
    have := h k
    rw [ZaC, ZaC] at this
    split at this
    · exact (List.cons.inj this).2
    · exact this
theorem ZjI {l m : List AV} (h : Za5 m) (hk : ∀ k, fkN k m = fkN k l) : Zau l = m :=
  Zjf (Zbp l).1 h fun k => by rw [(Zbp l).2, hk]
theorem Zbr {l : List AV} (h : Za5 l) : Zau l = l := ZjI h fun _ => rfl
theorem mem_sort {l : List AV} {y : AV} : y ∈ Zau l ↔ y ∈ l := by
  constructor
  · exact ZfC
  · intro h
    have : y ∈ fkN (Zah y) l := fkN_mem.mpr ⟨h, rfl⟩
    rw [← (Zbp l).2] at this
    exact (fkN_mem.mp this).1
theorem Ze4 (X U V Y : List AV) (hl : Za5 (X ++ U)) (hr : Za5 (V ++ Y)) (hs : ∀ v ∈ V, ∀ u ∈ U, Zah v < Zah u) (hxy : ∀ x ∈ X, ∀ y ∈ Y, Zah x ≤ Zah y) : Zau (X ++ U ++ (V ++ Y)) = Zau (X ++ V) ++ Zau (U ++ Y) := by
  obtain ⟨a1, a2, a3⟩ := List.pairwise_append.mp hl
  obtain ⟨b1, b2, b3⟩ := List.pairwise_append.mp hr
  refine ZjI (List.pairwise_append.mpr ⟨(Zbp _).1, (Zbp _).1, fun p hp q hq => ?_⟩) fun k => ?_
  · have hp := List.mem_append.mp (mem_sort.mp hp)
    have hq := List.mem_append.mp (mem_sort.mp hq)
    rcases hp with hp | hp <;> rcases hq with hq | hq
    · exact a3 p hp q hq
    · exact hxy p hp q hq
    · exact Int.le_of_lt (hs p hp q hq)
    · exact b3 p hp q hq
  · rw [Zbk, (Zbp _).2, (Zbp _).2, Zbk, Zbk, Zbk, Zbk, Zbk]
    have : fkN k V ++ fkN k U = fkN k U ++ fkN k V := by
      cases hv : fkN k V with
      | nil => simp
      | cons v vs =>
        cases hu : fkN k U with
        | nil => simp
        | cons u us =>
          have h1 := fkN_mem.mp (show v ∈ fkN k V by rw [hv]; simp)
          have h2 := fkN_mem.mp (show u ∈ fkN k U by rw [hu]; simp)
          have := hs v h1.1 u h2.1
          omega
    rw [List.append_assoc, ← List.append_assoc (fkN k V), this]
    simp
end Go.Proofs.Ytjhdnpmojhkbjaa
/- Merging: the contract that the recursion uses. No condition. -/
namespace Go.Proofs.Ytjhdnpmojhkbjaa
def Zgd : List AV → Bool
  | [] => true
  | x :: l => l.all (fun y => decide (Zah x ≤ Zah y)) && Zgd l
def smB (N : Nat) (xs : List AV) (a m b : Int) : Bool := decide (0 ≤ a ∧ a < m ∧ m < b ∧ b ≤ xs.length ∧ xs.length < 1000000 ∧ b - a < N) && ZaF xs && Zgd ((xs.take m.toNat).drop a.toNat) && Zgd ((xs.take b.toNat).drop m.toNat)
def ZGx (N : Nat) : Ctr := ⟨1000140, 0, fun _ a => match a with | [.list (.big (.agg [.int .i64, .int .i64, .int .i64, .ints .i64, .int .i64]) xs), .int .i64 a, .int .i64 m, .int .i64 b, .fn 119 []] => some (decide (smB N xs a m b = true), .tup [], some ⟨140, 5, .big shN (Zbu a.toNat b.toNat xs)⟩) | _ => none⟩
def BO5 (N : Nat) : List Ctr := ZGx N :: BO4
end Go.Proofs.Ytjhdnpmojhkbjaa
/- Paths of functions, printed by the explorer (Gx). No condition. -/
namespace Go.Proofs.Ytjhdnpmojhkbjaa
set_option maxRecDepth 100000
set_option linter.unusedVariables false
def ZtT (xs : List AV) (a : Int) (m : Int) (b : Int) : AFrame := { fn := 140, N := 220, env := [(0, AV.row 0 0), (1, AV.int .i64 a), (2, AV.int .i64 m), (3, AV.int .i64 b), (4, AV.fn 119 [])], todo := [.code a140.code], defs := [], rnd := none, ret := false, res := [] }
def Zru (xs : List AV) (a : Int) (m : Int) (b : Int) : List AFrame := [(ZtT xs a m b)]
theorem Zsx (xs : List AV) (a : Int) (m : Int) (b : Int) : Zal tab 140 [AV.row 0 0, AV.int .i64 a, AV.int .i64 m, AV.int .i64 b, AV.fn 119 []] = some (ZtT xs a m b) := rfl
def ZmY (xs : List AV) (a : Int) (m : Int) (b : Int) : Zaa := [(0, { base := 0, blks := [Blk.row 140 5 (Row.big (Sh.agg [Sh.int .i64, Sh.int .i64, Sh.int .i64, Sh.ints .i64, Sh.int .i64]) xs)] })]
def Zb3 (xs : List AV) (a n0 n1 : Int) : List AFrame := [{ fn := 140, N := 220, env := [(0, AV.row 0 0), (1, AV.int .i64 a), (4, AV.fn 119 []), (10, AV.int .i64 n0), (11, AV.int .i64 n1)], todo := .code (ACode.gh [] Ztq) :: ZFm, defs := [], rnd := none, ret := false, res := [] }]
def ZbF (xs : List AV) (a : Int) (n0 : Int) (n1 : Int) : Zaa := [(0, { base := 0, blks := [Blk.row 140 5 (Row.big (Sh.agg [Sh.int .i64, Sh.int .i64, Sh.int .i64, Sh.ints .i64, Sh.int .i64]) xs)] })]
abbrev Zej (xs : List AV) (a : Int) (n0 : Int) (n1 : Int) : List AFrame × Zaa := (Zb3 xs a n0 n1, ZbF xs a n0 n1)
def ZbV (xs : List AV) (m n2 n3 : Int) : List AFrame := [{ fn := 140, N := 220, env := [(0, AV.row 0 0), (2, AV.int .i64 m), (4, AV.fn 119 []), (14, AV.int .i64 n2), (15, AV.int .i64 n3)], todo := .code (ACode.gh [] Ztk) :: ZFi, defs := [], rnd := none, ret := false, res := [] }]
def ZbN (xs : List AV) (m : Int) (n2 : Int) (n3 : Int) : Zaa := [(0, { base := 0, blks := [Blk.row 140 5 (Row.big (Sh.agg [Sh.int .i64, Sh.int .i64, Sh.int .i64, Sh.ints .i64, Sh.int .i64]) xs)] })]
abbrev Zer (xs : List AV) (m : Int) (n2 : Int) (n3 : Int) : List AFrame × Zaa := (ZbV xs m n2 n3, ZbN xs m n2 n3)
def Zag (xs : List AV) (a m b n4 n5 n6 n7 n8 : Int) : List AFrame := [{ fn := 140, N := 220, env := [(0, AV.row 0 0), (1, AV.int .i64 a), (2, AV.int .i64 m), (3, AV.int .i64 b), (4, AV.fn 119 []), (18, AV.int .i64 n4), (19, AV.int .i64 n5), (20, AV.int .i64 n6), (21, AV.int .i64 n7), (22, AV.int .i64 n8)], todo := .code (ACode.gh [] ZuK) :: ZFY, defs := [], rnd := none, ret := false, res := [] }]
def Zaf (xs : List AV) (a : Int) (m : Int) (b : Int) (n4 : Int) (n5 : Int) (n6 : Int) (n7 : Int) (n8 : Int) : Zaa := [(0, { base := 0, blks := [Blk.row 140 5 (Row.big (Sh.agg [Sh.int .i64, Sh.int .i64, Sh.int .i64, Sh.ints .i64, Sh.int .i64]) xs)] })]
abbrev Zc8 (xs : List AV) (a : Int) (m : Int) (b : Int) (n4 : Int) (n5 : Int) (n6 : Int) (n7 : Int) (n8 : Int) : List AFrame × Zaa := (Zag xs a m b n4 n5 n6 n7 n8, Zaf xs a m b n4 n5 n6 n7 n8)
def ZcW (n0 n9 : Int) (x10 : List AV) : List AFrame := [{ fn := 140, N := 220, env := [(0, AV.row 0 0), (10, AV.int .i64 n0), (13, AV.int .i64 n9)], todo := .code (ACode.gh [] Ztc) :: ZAu, defs := [], rnd := none, ret := false, res := [] }]
def Zci (n0 : Int) (n9 : Int) (x10 : List AV) : Zaa := [(0, { base := 0, blks := [Blk.row 140 5 (Row.big (Sh.agg [Sh.int .i64, Sh.int .i64, Sh.int .i64, Sh.ints .i64, Sh.int .i64]) x10)] })]
abbrev ZgB (n0 : Int) (n9 : Int) (x10 : List AV) : List AFrame × Zaa := (ZcW n0 n9 x10, Zci n0 n9 x10)
def ZcQ (n2 n11 : Int) (x12 : List AV) : List AFrame := [{ fn := 140, N := 220, env := [(0, AV.row 0 0), (14, AV.int .i64 n2), (17, AV.int .i64 n11)], todo := .code (ACode.gh [] ZtF) :: ZBl, defs := [], rnd := none, ret := false, res := [] }]
def Zcd (n2 : Int) (n11 : Int) (x12 : List AV) : Zaa := [(0, { base := 0, blks := [Blk.row 140 5 (Row.big (Sh.agg [Sh.int .i64, Sh.int .i64, Sh.int .i64, Sh.ints .i64, Sh.int .i64]) x12)] })]
abbrev Zgz (n2 : Int) (n11 : Int) (x12 : List AV) : List AFrame × Zaa := (ZcQ n2 n11 x12, Zcd n2 n11 x12)
theorem ZA6 (A : Ar) (N : Nat) (xs : List AV) (a m b : Int) : Zac A tab (BO5 N) 23 [true] (Zru xs a m b) (ZmY xs a m b) =
  some (tr [4, 1, 2] [A.eq (A.sub m a) 1, A.inR .i64 (A.sub m a)],
   Zej (xs) (a) (m) (b)) := by kernel_rfl
theorem ZDv (A : Ar) (N : Nat) (xs : List AV) (a m b : Int) : Zac A tab (BO5 N) 33 [false, true] (Zru xs a m b) (ZmY xs a m b) =
  some (tr [4, 1, 2, 1, 2] [A.eq (A.sub b m) 1, A.inR .i64 (A.sub b m), !A.eq (A.sub m a) 1, A.inR .i64 (A.sub m a)],
   Zer (xs) (m) (a) (m)) := by kernel_rfl
theorem ZFo (A : Ar) (N : Nat) (xs : List AV) (a m b : Int) : Zac A tab (BO5 N) 72 [false, false, true] (Zru xs a m b) (ZmY xs a m b) =
  some (tr [1, 4, 2, 6, 3, 0, 0, 0, 2, 1, 2, 1, 2] [A.inR .i64 (A.sub (A.add (A.shr (A.add a b) 1) m) 1), A.inR .i64 (A.sub (A.add (A.shr (A.add a b) 1) m) b), A.lt (A.shr (A.add a b) 1) m, A.inR .i64 (A.add (A.shr (A.add a b) 1) m), A.inR .i64 (A.shr (A.add a b) 1), Zab (A.le 0 1) (Nat.blt (A.nat 1) 64), A.inR .u64 (A.add a b), A.inR .i64 (A.add a b), !A.eq (A.sub b m) 1, A.inR .i64 (A.sub b m), !A.eq (A.sub m a) 1, A.inR .i64 (A.sub m a)],
   Zc8 (xs) (a) (m) (b) (A.shr (A.add a b) 1) (A.add (A.shr (A.add a b) 1) m) (A.sub (A.add (A.shr (A.add a b) 1) m) b) (A.shr (A.add a b) 1) (A.sub (A.add (A.shr (A.add a b) 1) m) 1)) := by kernel_rfl
theorem ZzM (A : Ar) (N : Nat) (xs : List AV) (a m b : Int) : Zac A tab (BO5 N) 70 [false, false, false] (Zru xs a m b) (ZmY xs a m b) =
  some (tr [1, 5, 6, 3, 0, 0, 0, 2, 1, 2, 1, 2] [A.inR .i64 (A.sub (A.add (A.shr (A.add a b) 1) m) 1), !A.lt (A.shr (A.add a b) 1) m, A.inR .i64 (A.add (A.shr (A.add a b) 1) m), A.inR .i64 (A.shr (A.add a b) 1), Zab (A.le 0 1) (Nat.blt (A.nat 1) 64), A.inR .u64 (A.add a b), A.inR .i64 (A.add a b), !A.eq (A.sub b m) 1, A.inR .i64 (A.sub b m), !A.eq (A.sub m a) 1, A.inR .i64 (A.sub m a)],
   Zc8 (xs) (a) (m) (b) (A.shr (A.add a b) 1) (A.add (A.shr (A.add a b) 1) m) (a) (m) (A.sub (A.add (A.shr (A.add a b) 1) m) 1)) := by kernel_rfl
theorem ZC1 (A : Ar) (N : Nat) (xs : List AV) (a n0 n1 : Int) : Zac A tab (BO5 N) 34 [true, true] (Zb3 xs a n0 n1) (ZbF xs a n0 n1) =
  some (tr [1, 1, 2, 0, 2, 0, 4, 0, 0, 0, 2, 3] [A.inR .i64 (A.add (A.shr (A.add n0 n1) 1) 1), A.lt (ZhG ((A.nthA xs (A.nat (A.shr (A.add n0 n1) 1))).cellAt 4).toI ((A.nthA xs (A.nat a)).cellAt 4).toI) 0, Zab (Nat.blt (A.nat a) (A.lenA xs)) true, Zab (A.le 0 a) (Nat.blt (A.nat a) (A.lenA xs)), Zab (Nat.blt (A.nat (A.shr (A.add n0 n1) 1)) (A.lenA xs)) true, Zab (A.le 0 (A.shr (A.add n0 n1) 1)) (Nat.blt (A.nat (A.shr (A.add n0 n1) 1)) (A.lenA xs)), A.inR .i64 (A.shr (A.add n0 n1) 1), Zab (A.le 0 1) (Nat.blt (A.nat 1) 64), A.inR .u64 (A.add n0 n1), A.inR .i64 (A.add n0 n1), A.lt n0 n1],
   Zej (xs) (a) (A.add (A.shr (A.add n0 n1) 1) 1) (n1)) := by kernel_rfl
theorem ZAR (A : Ar) (N : Nat) (xs : List AV) (a n0 n1 : Int) : Zac A tab (BO5 N) 33 [true, false] (Zb3 xs a n0 n1) (ZbF xs a n0 n1) =
  some (tr [2, 2, 0, 2, 0, 4, 0, 0, 0, 2, 3] [!A.lt (ZhG ((A.nthA xs (A.nat (A.shr (A.add n0 n1) 1))).cellAt 4).toI ((A.nthA xs (A.nat a)).cellAt 4).toI) 0, Zab (Nat.blt (A.nat a) (A.lenA xs)) true, Zab (A.le 0 a) (Nat.blt (A.nat a) (A.lenA xs)), Zab (Nat.blt (A.nat (A.shr (A.add n0 n1) 1)) (A.lenA xs)) true, Zab (A.le 0 (A.shr (A.add n0 n1) 1)) (Nat.blt (A.nat (A.shr (A.add n0 n1) 1)) (A.lenA xs)), A.inR .i64 (A.shr (A.add n0 n1) 1), Zab (A.le 0 1) (Nat.blt (A.nat 1) 64), A.inR .u64 (A.add n0 n1), A.inR .i64 (A.add n0 n1), A.lt n0 n1],
   Zej (xs) (a) (n0) (A.shr (A.add n0 n1) 1)) := by kernel_rfl
theorem Zzx (A : Ar) (N : Nat) (xs : List AV) (a n0 n1 : Int) : Zac A tab (BO5 N) 19 [false] (Zb3 xs a n0 n1) (ZbF xs a n0 n1) =
  some (tr [2, 3] [!A.lt n0 n1],
   ZgB (n0) (a) (xs)) := by kernel_rfl
theorem ZBP (A : Ar) (N : Nat) (xs : List AV) (m n2 n3 : Int) : Zac A tab (BO5 N) 34 [true, true] (ZbV xs m n2 n3) (ZbN xs m n2 n3) =
  some (tr [1, 1, 3, 0, 2, 0, 4, 0, 0, 0, 2, 3] [A.inR .i64 (A.add (A.shr (A.add n2 n3) 1) 1), A.not (A.lt (ZhG ((A.nthA xs (A.nat m)).cellAt 4).toI ((A.nthA xs (A.nat (A.shr (A.add n2 n3) 1))).cellAt 4).toI) 0), Zab (Nat.blt (A.nat (A.shr (A.add n2 n3) 1)) (A.lenA xs)) true, Zab (A.le 0 (A.shr (A.add n2 n3) 1)) (Nat.blt (A.nat (A.shr (A.add n2 n3) 1)) (A.lenA xs)), Zab (Nat.blt (A.nat m) (A.lenA xs)) true, Zab (A.le 0 m) (Nat.blt (A.nat m) (A.lenA xs)), A.inR .i64 (A.shr (A.add n2 n3) 1), Zab (A.le 0 1) (Nat.blt (A.nat 1) 64), A.inR .u64 (A.add n2 n3), A.inR .i64 (A.add n2 n3), A.lt n2 n3],
   Zer (xs) (m) (A.add (A.shr (A.add n2 n3) 1) 1) (n3)) := by kernel_rfl
theorem ZEN (A : Ar) (N : Nat) (xs : List AV) (m n2 n3 : Int) : Zac A tab (BO5 N) 33 [true, false] (ZbV xs m n2 n3) (ZbN xs m n2 n3) =
  some (tr [2, 3, 0, 2, 0, 4, 0, 0, 0, 2, 3] [!A.not (A.lt (ZhG ((A.nthA xs (A.nat m)).cellAt 4).toI ((A.nthA xs (A.nat (A.shr (A.add n2 n3) 1))).cellAt 4).toI) 0), Zab (Nat.blt (A.nat (A.shr (A.add n2 n3) 1)) (A.lenA xs)) true, Zab (A.le 0 (A.shr (A.add n2 n3) 1)) (Nat.blt (A.nat (A.shr (A.add n2 n3) 1)) (A.lenA xs)), Zab (Nat.blt (A.nat m) (A.lenA xs)) true, Zab (A.le 0 m) (Nat.blt (A.nat m) (A.lenA xs)), A.inR .i64 (A.shr (A.add n2 n3) 1), Zab (A.le 0 1) (Nat.blt (A.nat 1) 64), A.inR .u64 (A.add n2 n3), A.inR .i64 (A.add n2 n3), A.lt n2 n3],
   Zer (xs) (m) (n2) (A.shr (A.add n2 n3) 1)) := by kernel_rfl
theorem ZE3 (A : Ar) (N : Nat) (xs : List AV) (m n2 n3 : Int) : Zac A tab (BO5 N) 19 [false] (ZbV xs m n2 n3) (ZbN xs m n2 n3) =
  some (tr [2, 3] [!A.lt n2 n3],
   Zgz (n2) (m) (xs)) := by kernel_rfl
theorem ZwK (A : Ar) (N : Nat) (xs : List AV) (a m b n4 n5 n6 n7 n8 : Int) : Zac A tab (BO5 N) 34 [true, true] (Zag xs a m b n4 n5 n6 n7 n8) (Zaf xs a m b n4 n5 n6 n7 n8) =
  some (tr [1, 1, 3, 0, 2, 0, 0, 5, 0, 0, 0, 2, 3] [A.inR .i64 (A.add (A.shr (A.add n6 n7) 1) 1), A.not (A.lt (ZhG ((A.nthA xs (A.nat (A.sub n8 (A.shr (A.add n6 n7) 1)))).cellAt 4).toI ((A.nthA xs (A.nat (A.shr (A.add n6 n7) 1))).cellAt 4).toI) 0), Zab (Nat.blt (A.nat (A.shr (A.add n6 n7) 1)) (A.lenA xs)) true, Zab (A.le 0 (A.shr (A.add n6 n7) 1)) (Nat.blt (A.nat (A.shr (A.add n6 n7) 1)) (A.lenA xs)), Zab (Nat.blt (A.nat (A.sub n8 (A.shr (A.add n6 n7) 1))) (A.lenA xs)) true, Zab (A.le 0 (A.sub n8 (A.shr (A.add n6 n7) 1))) (Nat.blt (A.nat (A.sub n8 (A.shr (A.add n6 n7) 1))) (A.lenA xs)), A.inR .i64 (A.sub n8 (A.shr (A.add n6 n7) 1)), A.inR .i64 (A.shr (A.add n6 n7) 1), Zab (A.le 0 1) (Nat.blt (A.nat 1) 64), A.inR .u64 (A.add n6 n7), A.inR .i64 (A.add n6 n7), A.lt n6 n7],
   Zc8 (xs) (a) (m) (b) (n4) (n5) (A.add (A.shr (A.add n6 n7) 1) 1) (n7) (n8)) := by kernel_rfl
theorem ZyH (A : Ar) (N : Nat) (xs : List AV) (a m b n4 n5 n6 n7 n8 : Int) : Zac A tab (BO5 N) 33 [true, false] (Zag xs a m b n4 n5 n6 n7 n8) (Zaf xs a m b n4 n5 n6 n7 n8) =
  some (tr [2, 3, 0, 2, 0, 0, 5, 0, 0, 0, 2, 3] [!A.not (A.lt (ZhG ((A.nthA xs (A.nat (A.sub n8 (A.shr (A.add n6 n7) 1)))).cellAt 4).toI ((A.nthA xs (A.nat (A.shr (A.add n6 n7) 1))).cellAt 4).toI) 0), Zab (Nat.blt (A.nat (A.shr (A.add n6 n7) 1)) (A.lenA xs)) true, Zab (A.le 0 (A.shr (A.add n6 n7) 1)) (Nat.blt (A.nat (A.shr (A.add n6 n7) 1)) (A.lenA xs)), Zab (Nat.blt (A.nat (A.sub n8 (A.shr (A.add n6 n7) 1))) (A.lenA xs)) true, Zab (A.le 0 (A.sub n8 (A.shr (A.add n6 n7) 1))) (Nat.blt (A.nat (A.sub n8 (A.shr (A.add n6 n7) 1))) (A.lenA xs)), A.inR .i64 (A.sub n8 (A.shr (A.add n6 n7) 1)), A.inR .i64 (A.shr (A.add n6 n7) 1), Zab (A.le 0 1) (Nat.blt (A.nat 1) 64), A.inR .u64 (A.add n6 n7), A.inR .i64 (A.add n6 n7), A.lt n6 n7],
   Zc8 (xs) (a) (m) (b) (n4) (n5) (n6) (A.shr (A.add n6 n7) 1) (n8)) := by kernel_rfl
theorem ZvA (A : Ar) (N : Nat) (xs : List AV) (a m b n4 n5 n6 n7 n8 : Int) : Za2 A tab (BO5 N) 83 [false, true, true, true, true, true, true, true, true, true, true, true, true, true, true, true] 140 (Zag xs a m b n4 n5 n6 n7 n8) (Zaf xs a m b n4 n5 n6 n7 n8) =
  some (tr [1, 5, 7, 4, 5, 7, 4, 5, 7, 5, 2, 3] [Zab (decide (smB N (Zbu (Int.toNat a) (Int.toNat n4) (Zhd (Int.toNat n6) (Int.toNat m) (Int.toNat (A.sub n5 n6)) xs)) n4 (A.sub n5 n6) b = true)) true, A.lt (A.sub n5 n6) b, A.lt n4 (A.sub n5 n6), Zab (decide (smB N (Zhd (Int.toNat n6) (Int.toNat m) (Int.toNat (A.sub n5 n6)) xs) a n6 n4 = true)) true, A.lt n6 n4, A.lt a n6, Zab (decide (Zmp xs n6 m (A.sub n5 n6) = true)) true, A.lt m (A.sub n5 n6), A.lt n6 m, A.inR .i64 (A.sub n5 n6), !A.lt n6 n7],
   AV.tup [], 140, 5, Row.big (.agg [.int .i64, .int .i64, .int .i64, .ints .i64, .int .i64]) (Zbu (Int.toNat n4) (Int.toNat b) (Zbu (Int.toNat a) (Int.toNat n4) (Zhd (Int.toNat n6) (Int.toNat m) (Int.toNat (A.sub n5 n6)) xs)))) := by kernel_rfl
theorem Zwd (A : Ar) (N : Nat) (xs : List AV) (a m b n4 n5 n6 n7 n8 : Int) : Za2 A tab (BO5 N) 76 [false, true, true, true, true, true, true, true, true, true, true, true, true, true, true, false] 140 (Zag xs a m b n4 n5 n6 n7 n8) (Zaf xs a m b n4 n5 n6 n7 n8) =
  some (tr [1, 7, 4, 5, 7, 4, 5, 7, 5, 2, 3] [!A.lt (A.sub n5 n6) b, A.lt n4 (A.sub n5 n6), Zab (decide (smB N (Zhd (Int.toNat n6) (Int.toNat m) (Int.toNat (A.sub n5 n6)) xs) a n6 n4 = true)) true, A.lt n6 n4, A.lt a n6, Zab (decide (Zmp xs n6 m (A.sub n5 n6) = true)) true, A.lt m (A.sub n5 n6), A.lt n6 m, A.inR .i64 (A.sub n5 n6), !A.lt n6 n7],
   AV.tup [], 140, 5, Row.big (.agg [.int .i64, .int .i64, .int .i64, .ints .i64, .int .i64]) (Zbu (Int.toNat a) (Int.toNat n4) (Zhd (Int.toNat n6) (Int.toNat m) (Int.toNat (A.sub n5 n6)) xs))) := by kernel_rfl
theorem ZxY (A : Ar) (N : Nat) (xs : List AV) (a m b n4 n5 n6 n7 n8 : Int) : Za2 A tab (BO5 N) 76 [false, true, true, true, true, true, true, true, true, true, true, false, false, false, false, false] 140 (Zag xs a m b n4 n5 n6 n7 n8) (Zaf xs a m b n4 n5 n6 n7 n8) =
  some (tr [9, 4, 5, 7, 4, 5, 7, 5, 2, 3] [!A.lt n4 (A.sub n5 n6), Zab (decide (smB N (Zhd (Int.toNat n6) (Int.toNat m) (Int.toNat (A.sub n5 n6)) xs) a n6 n4 = true)) true, A.lt n6 n4, A.lt a n6, Zab (decide (Zmp xs n6 m (A.sub n5 n6) = true)) true, A.lt m (A.sub n5 n6), A.lt n6 m, A.inR .i64 (A.sub n5 n6), !A.lt n6 n7],
   AV.tup [], 140, 5, Row.big (.agg [.int .i64, .int .i64, .int .i64, .ints .i64, .int .i64]) (Zbu (Int.toNat a) (Int.toNat n4) (Zhd (Int.toNat n6) (Int.toNat m) (Int.toNat (A.sub n5 n6)) xs))) := by kernel_rfl
theorem Zxl (A : Ar) (N : Nat) (xs : List AV) (a m b n4 n5 n6 n7 n8 : Int) : Za2 A tab (BO5 N) 76 [false, true, true, true, true, true, true, true, true, true, false, true, true, true, true, true] 140 (Zag xs a m b n4 n5 n6 n7 n8) (Zaf xs a m b n4 n5 n6 n7 n8) =
  some (tr [1, 5, 7, 4, 7, 4, 5, 7, 5, 2, 3] [Zab (decide (smB N (Zhd (Int.toNat n6) (Int.toNat m) (Int.toNat (A.sub n5 n6)) xs) n4 (A.sub n5 n6) b = true)) true, A.lt (A.sub n5 n6) b, A.lt n4 (A.sub n5 n6), !A.lt n6 n4, A.lt a n6, Zab (decide (Zmp xs n6 m (A.sub n5 n6) = true)) true, A.lt m (A.sub n5 n6), A.lt n6 m, A.inR .i64 (A.sub n5 n6), !A.lt n6 n7],
   AV.tup [], 140, 5, Row.big (.agg [.int .i64, .int .i64, .int .i64, .ints .i64, .int .i64]) (Zbu (Int.toNat n4) (Int.toNat b) (Zhd (Int.toNat n6) (Int.toNat m) (Int.toNat (A.sub n5 n6)) xs))) := by kernel_rfl
theorem ZyF (A : Ar) (N : Nat) (xs : List AV) (a m b n4 n5 n6 n7 n8 : Int) : Za2 A tab (BO5 N) 69 [false, true, true, true, true, true, true, true, true, true, false, true, true, true, true, false] 140 (Zag xs a m b n4 n5 n6 n7 n8) (Zaf xs a m b n4 n5 n6 n7 n8) =
  some (tr [1, 7, 4, 7, 4, 5, 7, 5, 2, 3] [!A.lt (A.sub n5 n6) b, A.lt n4 (A.sub n5 n6), !A.lt n6 n4, A.lt a n6, Zab (decide (Zmp xs n6 m (A.sub n5 n6) = true)) true, A.lt m (A.sub n5 n6), A.lt n6 m, A.inR .i64 (A.sub n5 n6), !A.lt n6 n7],
   AV.tup [], 140, 5, Row.big (.agg [.int .i64, .int .i64, .int .i64, .ints .i64, .int .i64]) (Zhd (Int.toNat n6) (Int.toNat m) (Int.toNat (A.sub n5 n6)) xs)) := by kernel_rfl
theorem Zy4 (A : Ar) (N : Nat) (xs : List AV) (a m b n4 n5 n6 n7 n8 : Int) : Za2 A tab (BO5 N) 69 [false, true, true, true, true, true, true, true, true, true, false, false, false, false, false, false] 140 (Zag xs a m b n4 n5 n6 n7 n8) (Zaf xs a m b n4 n5 n6 n7 n8) =
  some (tr [9, 4, 7, 4, 5, 7, 5, 2, 3] [!A.lt n4 (A.sub n5 n6), !A.lt n6 n4, A.lt a n6, Zab (decide (Zmp xs n6 m (A.sub n5 n6) = true)) true, A.lt m (A.sub n5 n6), A.lt n6 m, A.inR .i64 (A.sub n5 n6), !A.lt n6 n7],
   AV.tup [], 140, 5, Row.big (.agg [.int .i64, .int .i64, .int .i64, .ints .i64, .int .i64]) (Zhd (Int.toNat n6) (Int.toNat m) (Int.toNat (A.sub n5 n6)) xs)) := by kernel_rfl
theorem Zwk (A : Ar) (N : Nat) (xs : List AV) (a m b n4 n5 n6 n7 n8 : Int) : Za2 A tab (BO5 N) 76 [false, true, true, true, true, true, false, false, false, false, false, true, true, true, true, true] 140 (Zag xs a m b n4 n5 n6 n7 n8) (Zaf xs a m b n4 n5 n6 n7 n8) =
  some (tr [1, 5, 7, 12, 4, 5, 7, 5, 2, 3] [Zab (decide (smB N (Zhd (Int.toNat n6) (Int.toNat m) (Int.toNat (A.sub n5 n6)) xs) n4 (A.sub n5 n6) b = true)) true, A.lt (A.sub n5 n6) b, A.lt n4 (A.sub n5 n6), !A.lt a n6, Zab (decide (Zmp xs n6 m (A.sub n5 n6) = true)) true, A.lt m (A.sub n5 n6), A.lt n6 m, A.inR .i64 (A.sub n5 n6), !A.lt n6 n7],
   AV.tup [], 140, 5, Row.big (.agg [.int .i64, .int .i64, .int .i64, .ints .i64, .int .i64]) (Zbu (Int.toNat n4) (Int.toNat b) (Zhd (Int.toNat n6) (Int.toNat m) (Int.toNat (A.sub n5 n6)) xs))) := by kernel_rfl
theorem Zvc (A : Ar) (N : Nat) (xs : List AV) (a m b n4 n5 n6 n7 n8 : Int) : Za2 A tab (BO5 N) 69 [false, true, true, true, true, true, false, false, false, false, false, true, true, true, true, false] 140 (Zag xs a m b n4 n5 n6 n7 n8) (Zaf xs a m b n4 n5 n6 n7 n8) =
  some (tr [1, 7, 12, 4, 5, 7, 5, 2, 3] [!A.lt (A.sub n5 n6) b, A.lt n4 (A.sub n5 n6), !A.lt a n6, Zab (decide (Zmp xs n6 m (A.sub n5 n6) = true)) true, A.lt m (A.sub n5 n6), A.lt n6 m, A.inR .i64 (A.sub n5 n6), !A.lt n6 n7],
   AV.tup [], 140, 5, Row.big (.agg [.int .i64, .int .i64, .int .i64, .ints .i64, .int .i64]) (Zhd (Int.toNat n6) (Int.toNat m) (Int.toNat (A.sub n5 n6)) xs)) := by kernel_rfl
theorem ZyD (A : Ar) (N : Nat) (xs : List AV) (a m b n4 n5 n6 n7 n8 : Int) : Za2 A tab (BO5 N) 69 [false, true, true, true, true, true, false, false, false, false, false, false, false, false, false, false] 140 (Zag xs a m b n4 n5 n6 n7 n8) (Zaf xs a m b n4 n5 n6 n7 n8) =
  some (tr [9, 12, 4, 5, 7, 5, 2, 3] [!A.lt n4 (A.sub n5 n6), !A.lt a n6, Zab (decide (Zmp xs n6 m (A.sub n5 n6) = true)) true, A.lt m (A.sub n5 n6), A.lt n6 m, A.inR .i64 (A.sub n5 n6), !A.lt n6 n7],
   AV.tup [], 140, 5, Row.big (.agg [.int .i64, .int .i64, .int .i64, .ints .i64, .int .i64]) (Zhd (Int.toNat n6) (Int.toNat m) (Int.toNat (A.sub n5 n6)) xs)) := by kernel_rfl
theorem Zxv (A : Ar) (N : Nat) (xs : List AV) (a m b n4 n5 n6 n7 n8 : Int) : Za2 A tab (BO5 N) 76 [false, true, true, true, true, false, true, true, true, true, true, true, true, true, true, true] 140 (Zag xs a m b n4 n5 n6 n7 n8) (Zaf xs a m b n4 n5 n6 n7 n8) =
  some (tr [1, 5, 7, 4, 5, 7, 4, 7, 5, 2, 3] [Zab (decide (smB N (Zbu (Int.toNat a) (Int.toNat n4) xs) n4 (A.sub n5 n6) b = true)) true, A.lt (A.sub n5 n6) b, A.lt n4 (A.sub n5 n6), Zab (decide (smB N xs a n6 n4 = true)) true, A.lt n6 n4, A.lt a n6, !A.lt m (A.sub n5 n6), A.lt n6 m, A.inR .i64 (A.sub n5 n6), !A.lt n6 n7],
   AV.tup [], 140, 5, Row.big (.agg [.int .i64, .int .i64, .int .i64, .ints .i64, .int .i64]) (Zbu (Int.toNat n4) (Int.toNat b) (Zbu (Int.toNat a) (Int.toNat n4) xs))) := by kernel_rfl
theorem Zzj (A : Ar) (N : Nat) (xs : List AV) (a m b n4 n5 n6 n7 n8 : Int) : Za2 A tab (BO5 N) 69 [false, true, true, true, true, false, true, true, true, true, true, true, true, true, true, false] 140 (Zag xs a m b n4 n5 n6 n7 n8) (Zaf xs a m b n4 n5 n6 n7 n8) =
  some (tr [1, 7, 4, 5, 7, 4, 7, 5, 2, 3] [!A.lt (A.sub n5 n6) b, A.lt n4 (A.sub n5 n6), Zab (decide (smB N xs a n6 n4 = true)) true, A.lt n6 n4, A.lt a n6, !A.lt m (A.sub n5 n6), A.lt n6 m, A.inR .i64 (A.sub n5 n6), !A.lt n6 n7],
   AV.tup [], 140, 5, Row.big (.agg [.int .i64, .int .i64, .int .i64, .ints .i64, .int .i64]) (Zbu (Int.toNat a) (Int.toNat n4) xs)) := by kernel_rfl
theorem Zvq (A : Ar) (N : Nat) (xs : List AV) (a m b n4 n5 n6 n7 n8 : Int) : Za2 A tab (BO5 N) 69 [false, true, true, true, true, false, true, true, true, true, true, false, false, false, false, false] 140 (Zag xs a m b n4 n5 n6 n7 n8) (Zaf xs a m b n4 n5 n6 n7 n8) =
  some (tr [9, 4, 5, 7, 4, 7, 5, 2, 3] [!A.lt n4 (A.sub n5 n6), Zab (decide (smB N xs a n6 n4 = true)) true, A.lt n6 n4, A.lt a n6, !A.lt m (A.sub n5 n6), A.lt n6 m, A.inR .i64 (A.sub n5 n6), !A.lt n6 n7],
   AV.tup [], 140, 5, Row.big (.agg [.int .i64, .int .i64, .int .i64, .ints .i64, .int .i64]) (Zbu (Int.toNat a) (Int.toNat n4) xs)) := by kernel_rfl
theorem Zyz (A : Ar) (N : Nat) (xs : List AV) (a m b n4 n5 n6 n7 n8 : Int) : Za2 A tab (BO5 N) 69 [false, true, true, true, true, false, true, true, true, true, false, true, true, true, true, true] 140 (Zag xs a m b n4 n5 n6 n7 n8) (Zaf xs a m b n4 n5 n6 n7 n8) =
  some (tr [1, 5, 7, 4, 7, 4, 7, 5, 2, 3] [Zab (decide (smB N xs n4 (A.sub n5 n6) b = true)) true, A.lt (A.sub n5 n6) b, A.lt n4 (A.sub n5 n6), !A.lt n6 n4, A.lt a n6, !A.lt m (A.sub n5 n6), A.lt n6 m, A.inR .i64 (A.sub n5 n6), !A.lt n6 n7],
   AV.tup [], 140, 5, Row.big (.agg [.int .i64, .int .i64, .int .i64, .ints .i64, .int .i64]) (Zbu (Int.toNat n4) (Int.toNat b) xs)) := by kernel_rfl
theorem ZwD (A : Ar) (N : Nat) (xs : List AV) (a m b n4 n5 n6 n7 n8 : Int) : Za2 A tab (BO5 N) 62 [false, true, true, true, true, false, true, true, true, true, false, true, true, true, true, false] 140 (Zag xs a m b n4 n5 n6 n7 n8) (Zaf xs a m b n4 n5 n6 n7 n8) =
  some (tr [1, 7, 4, 7, 4, 7, 5, 2, 3] [!A.lt (A.sub n5 n6) b, A.lt n4 (A.sub n5 n6), !A.lt n6 n4, A.lt a n6, !A.lt m (A.sub n5 n6), A.lt n6 m, A.inR .i64 (A.sub n5 n6), !A.lt n6 n7],
   AV.tup [], 140, 5, Row.big (.agg [.int .i64, .int .i64, .int .i64, .ints .i64, .int .i64]) xs) := by kernel_rfl
theorem Zyd (A : Ar) (N : Nat) (xs : List AV) (a m b n4 n5 n6 n7 n8 : Int) : Za2 A tab (BO5 N) 62 [false, true, true, true, true, false, true, true, true, true, false, false, false, false, false, false] 140 (Zag xs a m b n4 n5 n6 n7 n8) (Zaf xs a m b n4 n5 n6 n7 n8) =
  some (tr [9, 4, 7, 4, 7, 5, 2, 3] [!A.lt n4 (A.sub n5 n6), !A.lt n6 n4, A.lt a n6, !A.lt m (A.sub n5 n6), A.lt n6 m, A.inR .i64 (A.sub n5 n6), !A.lt n6 n7],
   AV.tup [], 140, 5, Row.big (.agg [.int .i64, .int .i64, .int .i64, .ints .i64, .int .i64]) xs) := by kernel_rfl
theorem Zye (A : Ar) (N : Nat) (xs : List AV) (a m b n4 n5 n6 n7 n8 : Int) : Za2 A tab (BO5 N) 69 [false, true, true, true, true, false, false, false, false, false, false, true, true, true, true, true] 140 (Zag xs a m b n4 n5 n6 n7 n8) (Zaf xs a m b n4 n5 n6 n7 n8) =
  some (tr [1, 5, 7, 12, 4, 7, 5, 2, 3] [Zab (decide (smB N xs n4 (A.sub n5 n6) b = true)) true, A.lt (A.sub n5 n6) b, A.lt n4 (A.sub n5 n6), !A.lt a n6, !A.lt m (A.sub n5 n6), A.lt n6 m, A.inR .i64 (A.sub n5 n6), !A.lt n6 n7],
   AV.tup [], 140, 5, Row.big (.agg [.int .i64, .int .i64, .int .i64, .ints .i64, .int .i64]) (Zbu (Int.toNat n4) (Int.toNat b) xs)) := by kernel_rfl
theorem Zxd (A : Ar) (N : Nat) (xs : List AV) (a m b n4 n5 n6 n7 n8 : Int) : Za2 A tab (BO5 N) 62 [false, true, true, true, true, false, false, false, false, false, false, true, true, true, true, false] 140 (Zag xs a m b n4 n5 n6 n7 n8) (Zaf xs a m b n4 n5 n6 n7 n8) =
  some (tr [1, 7, 12, 4, 7, 5, 2, 3] [!A.lt (A.sub n5 n6) b, A.lt n4 (A.sub n5 n6), !A.lt a n6, !A.lt m (A.sub n5 n6), A.lt n6 m, A.inR .i64 (A.sub n5 n6), !A.lt n6 n7],
   AV.tup [], 140, 5, Row.big (.agg [.int .i64, .int .i64, .int .i64, .ints .i64, .int .i64]) xs) := by kernel_rfl
theorem Zw9 (A : Ar) (N : Nat) (xs : List AV) (a m b n4 n5 n6 n7 n8 : Int) : Za2 A tab (BO5 N) 62 [false, true, true, true, true, false, false, false, false, false, false, false, false, false, false, false] 140 (Zag xs a m b n4 n5 n6 n7 n8) (Zaf xs a m b n4 n5 n6 n7 n8) =
  some (tr [9, 12, 4, 7, 5, 2, 3] [!A.lt n4 (A.sub n5 n6), !A.lt a n6, !A.lt m (A.sub n5 n6), A.lt n6 m, A.inR .i64 (A.sub n5 n6), !A.lt n6 n7],
   AV.tup [], 140, 5, Row.big (.agg [.int .i64, .int .i64, .int .i64, .ints .i64, .int .i64]) xs) := by kernel_rfl
theorem Zv2 (A : Ar) (N : Nat) (xs : List AV) (a m b n4 n5 n6 n7 n8 : Int) : Za2 A tab (BO5 N) 76 [false, false, false, false, false, false, true, true, true, true, true, true, true, true, true, true] 140 (Zag xs a m b n4 n5 n6 n7 n8) (Zaf xs a m b n4 n5 n6 n7 n8) =
  some (tr [1, 5, 7, 4, 5, 7, 12, 5, 2, 3] [Zab (decide (smB N (Zbu (Int.toNat a) (Int.toNat n4) xs) n4 (A.sub n5 n6) b = true)) true, A.lt (A.sub n5 n6) b, A.lt n4 (A.sub n5 n6), Zab (decide (smB N xs a n6 n4 = true)) true, A.lt n6 n4, A.lt a n6, !A.lt n6 m, A.inR .i64 (A.sub n5 n6), !A.lt n6 n7],
   AV.tup [], 140, 5, Row.big (.agg [.int .i64, .int .i64, .int .i64, .ints .i64, .int .i64]) (Zbu (Int.toNat n4) (Int.toNat b) (Zbu (Int.toNat a) (Int.toNat n4) xs))) := by kernel_rfl
theorem ZyU (A : Ar) (N : Nat) (xs : List AV) (a m b n4 n5 n6 n7 n8 : Int) : Za2 A tab (BO5 N) 69 [false, false, false, false, false, false, true, true, true, true, true, true, true, true, true, false] 140 (Zag xs a m b n4 n5 n6 n7 n8) (Zaf xs a m b n4 n5 n6 n7 n8) =
  some (tr [1, 7, 4, 5, 7, 12, 5, 2, 3] [!A.lt (A.sub n5 n6) b, A.lt n4 (A.sub n5 n6), Zab (decide (smB N xs a n6 n4 = true)) true, A.lt n6 n4, A.lt a n6, !A.lt n6 m, A.inR .i64 (A.sub n5 n6), !A.lt n6 n7],
   AV.tup [], 140, 5, Row.big (.agg [.int .i64, .int .i64, .int .i64, .ints .i64, .int .i64]) (Zbu (Int.toNat a) (Int.toNat n4) xs)) := by kernel_rfl
theorem Zys (A : Ar) (N : Nat) (xs : List AV) (a m b n4 n5 n6 n7 n8 : Int) : Za2 A tab (BO5 N) 69 [false, false, false, false, false, false, true, true, true, true, true, false, false, false, false, false] 140 (Zag xs a m b n4 n5 n6 n7 n8) (Zaf xs a m b n4 n5 n6 n7 n8) =
  some (tr [9, 4, 5, 7, 12, 5, 2, 3] [!A.lt n4 (A.sub n5 n6), Zab (decide (smB N xs a n6 n4 = true)) true, A.lt n6 n4, A.lt a n6, !A.lt n6 m, A.inR .i64 (A.sub n5 n6), !A.lt n6 n7],
   AV.tup [], 140, 5, Row.big (.agg [.int .i64, .int .i64, .int .i64, .ints .i64, .int .i64]) (Zbu (Int.toNat a) (Int.toNat n4) xs)) := by kernel_rfl
theorem Zwc (A : Ar) (N : Nat) (xs : List AV) (a m b n4 n5 n6 n7 n8 : Int) : Za2 A tab (BO5 N) 69 [false, false, false, false, false, false, true, true, true, true, false, true, true, true, true, true] 140 (Zag xs a m b n4 n5 n6 n7 n8) (Zaf xs a m b n4 n5 n6 n7 n8) =
  some (tr [1, 5, 7, 4, 7, 12, 5, 2, 3] [Zab (decide (smB N xs n4 (A.sub n5 n6) b = true)) true, A.lt (A.sub n5 n6) b, A.lt n4 (A.sub n5 n6), !A.lt n6 n4, A.lt a n6, !A.lt n6 m, A.inR .i64 (A.sub n5 n6), !A.lt n6 n7],
   AV.tup [], 140, 5, Row.big (.agg [.int .i64, .int .i64, .int .i64, .ints .i64, .int .i64]) (Zbu (Int.toNat n4) (Int.toNat b) xs)) := by kernel_rfl
theorem ZyG (A : Ar) (N : Nat) (xs : List AV) (a m b n4 n5 n6 n7 n8 : Int) : Za2 A tab (BO5 N) 62 [false, false, false, false, false, false, true, true, true, true, false, true, true, true, true, false] 140 (Zag xs a m b n4 n5 n6 n7 n8) (Zaf xs a m b n4 n5 n6 n7 n8) =
  some (tr [1, 7, 4, 7, 12, 5, 2, 3] [!A.lt (A.sub n5 n6) b, A.lt n4 (A.sub n5 n6), !A.lt n6 n4, A.lt a n6, !A.lt n6 m, A.inR .i64 (A.sub n5 n6), !A.lt n6 n7],
   AV.tup [], 140, 5, Row.big (.agg [.int .i64, .int .i64, .int .i64, .ints .i64, .int .i64]) xs) := by kernel_rfl
theorem Zzg (A : Ar) (N : Nat) (xs : List AV) (a m b n4 n5 n6 n7 n8 : Int) : Za2 A tab (BO5 N) 62 [false, false, false, false, false, false, true, true, true, true, false, false, false, false, false, false] 140 (Zag xs a m b n4 n5 n6 n7 n8) (Zaf xs a m b n4 n5 n6 n7 n8) =
  some (tr [9, 4, 7, 12, 5, 2, 3] [!A.lt n4 (A.sub n5 n6), !A.lt n6 n4, A.lt a n6, !A.lt n6 m, A.inR .i64 (A.sub n5 n6), !A.lt n6 n7],
   AV.tup [], 140, 5, Row.big (.agg [.int .i64, .int .i64, .int .i64, .ints .i64, .int .i64]) xs) := by kernel_rfl
theorem Zyf (A : Ar) (N : Nat) (xs : List AV) (a m b n4 n5 n6 n7 n8 : Int) : Za2 A tab (BO5 N) 69 [false, false, false, false, false, false, false, false, false, false, false, true, true, true, true, true] 140 (Zag xs a m b n4 n5 n6 n7 n8) (Zaf xs a m b n4 n5 n6 n7 n8) =
  some (tr [1, 5, 7, 12, 12, 5, 2, 3] [Zab (decide (smB N xs n4 (A.sub n5 n6) b = true)) true, A.lt (A.sub n5 n6) b, A.lt n4 (A.sub n5 n6), !A.lt a n6, !A.lt n6 m, A.inR .i64 (A.sub n5 n6), !A.lt n6 n7],
   AV.tup [], 140, 5, Row.big (.agg [.int .i64, .int .i64, .int .i64, .ints .i64, .int .i64]) (Zbu (Int.toNat n4) (Int.toNat b) xs)) := by kernel_rfl
theorem ZxG (A : Ar) (N : Nat) (xs : List AV) (a m b n4 n5 n6 n7 n8 : Int) : Za2 A tab (BO5 N) 62 [false, false, false, false, false, false, false, false, false, false, false, true, true, true, true, false] 140 (Zag xs a m b n4 n5 n6 n7 n8) (Zaf xs a m b n4 n5 n6 n7 n8) =
  some (tr [1, 7, 12, 12, 5, 2, 3] [!A.lt (A.sub n5 n6) b, A.lt n4 (A.sub n5 n6), !A.lt a n6, !A.lt n6 m, A.inR .i64 (A.sub n5 n6), !A.lt n6 n7],
   AV.tup [], 140, 5, Row.big (.agg [.int .i64, .int .i64, .int .i64, .ints .i64, .int .i64]) xs) := by kernel_rfl
theorem ZyC (A : Ar) (N : Nat) (xs : List AV) (a m b n4 n5 n6 n7 n8 : Int) : Za2 A tab (BO5 N) 62 [false, false, false, false, false, false, false, false, false, false, false, false, false, false, false, false] 140 (Zag xs a m b n4 n5 n6 n7 n8) (Zaf xs a m b n4 n5 n6 n7 n8) =
  some (tr [9, 12, 12, 5, 2, 3] [!A.lt n4 (A.sub n5 n6), !A.lt a n6, !A.lt n6 m, A.inR .i64 (A.sub n5 n6), !A.lt n6 n7],
   AV.tup [], 140, 5, Row.big (.agg [.int .i64, .int .i64, .int .i64, .ints .i64, .int .i64]) xs) := by kernel_rfl
theorem ZvU (A : Ar) (N : Nat) (n0 n9 : Int) (x10 : List AV) : Zac A tab (BO5 N) 22 [true] (ZcW n0 n9 x10) (Zci n0 n9 x10) =
  some (tr [1, 1, 0, 0, 0, 0, 0, 2, 0, 0, 2, 4, 1, 2] [A.inR .i64 (A.add n9 1), Zab (Nat.blt (A.nat (A.add n9 1)) (A.lenA (A.setA x10 (A.nat n9) (AV.agg (Row.gen [.int .i64 ((A.nthA x10 (A.nat (A.add n9 1))).cellAt 0).toI, .int .i64 ((A.nthA x10 (A.nat (A.add n9 1))).cellAt 1).toI, .int .i64 ((A.nthA x10 (A.nat (A.add n9 1))).cellAt 2).toI, .list (.ints .i64 ((A.nthA x10 (A.nat (A.add n9 1))).cellAt 3).toIs), .int .i64 ((A.nthA x10 (A.nat (A.add n9 1))).cellAt 4).toI]))))) true, Zab (A.le 0 (A.add n9 1)) (Nat.blt (A.nat (A.add n9 1)) (A.lenA (A.setA x10 (A.nat n9) (AV.agg (Row.gen [.int .i64 ((A.nthA x10 (A.nat (A.add n9 1))).cellAt 0).toI, .int .i64 ((A.nthA x10 (A.nat (A.add n9 1))).cellAt 1).toI, .int .i64 ((A.nthA x10 (A.nat (A.add n9 1))).cellAt 2).toI, .list (.ints .i64 ((A.nthA x10 (A.nat (A.add n9 1))).cellAt 3).toIs), .int .i64 ((A.nthA x10 (A.nat (A.add n9 1))).cellAt 4).toI]))))), Zab (Nat.blt (A.nat n9) (A.lenA x10)) true, Zab (A.le 0 n9) (Nat.blt (A.nat n9) (A.lenA x10)), Zab (Nat.blt (A.nat n9) (A.lenA x10)) true, Zab (A.le 0 n9) (Nat.blt (A.nat n9) (A.lenA x10)), Zab (Nat.blt (A.nat (A.add n9 1)) (A.lenA x10)) true, Zab (A.le 0 (A.add n9 1)) (Nat.blt (A.nat (A.add n9 1)) (A.lenA x10)), A.inR .i64 (A.add n9 1), A.inR .i64 (A.add n9 1), A.lt n9 (A.sub n0 1), A.inR .i64 (A.sub n0 1)],
   ZgB (n0) (A.add n9 1) (A.setA (A.setA x10 (A.nat n9) (AV.agg (Row.gen [.int .i64 ((A.nthA x10 (A.nat (A.add n9 1))).cellAt 0).toI, .int .i64 ((A.nthA x10 (A.nat (A.add n9 1))).cellAt 1).toI, .int .i64 ((A.nthA x10 (A.nat (A.add n9 1))).cellAt 2).toI, .list (.ints .i64 ((A.nthA x10 (A.nat (A.add n9 1))).cellAt 3).toIs), .int .i64 ((A.nthA x10 (A.nat (A.add n9 1))).cellAt 4).toI]))) (A.nat (A.add n9 1)) (AV.agg (Row.gen [.int .i64 ((A.nthA x10 (A.nat n9)).cellAt 0).toI, .int .i64 ((A.nthA x10 (A.nat n9)).cellAt 1).toI, .int .i64 ((A.nthA x10 (A.nat n9)).cellAt 2).toI, .list (.ints .i64 ((A.nthA x10 (A.nat n9)).cellAt 3).toIs), .int .i64 ((A.nthA x10 (A.nat n9)).cellAt 4).toI])))) := by kernel_rfl
theorem Zyp (A : Ar) (N : Nat) (n0 n9 : Int) (x10 : List AV) : Za2 A tab (BO5 N) 12 [false] 140 (ZcW n0 n9 x10) (Zci n0 n9 x10) =
  some (tr [1, 1, 2] [!A.lt n9 (A.sub n0 1), A.inR .i64 (A.sub n0 1)],
   AV.tup [], 140, 5, Row.big (.agg [.int .i64, .int .i64, .int .i64, .ints .i64, .int .i64]) x10) := by kernel_rfl
theorem Zxy (A : Ar) (N : Nat) (n2 n11 : Int) (x12 : List AV) : Zac A tab (BO5 N) 21 [true] (ZcQ n2 n11 x12) (Zcd n2 n11 x12) =
  some (tr [1, 1, 0, 0, 0, 0, 0, 2, 0, 0, 2, 4, 3] [A.inR .i64 (A.sub n11 1), Zab (Nat.blt (A.nat (A.sub n11 1)) (A.lenA (A.setA x12 (A.nat n11) (AV.agg (Row.gen [.int .i64 ((A.nthA x12 (A.nat (A.sub n11 1))).cellAt 0).toI, .int .i64 ((A.nthA x12 (A.nat (A.sub n11 1))).cellAt 1).toI, .int .i64 ((A.nthA x12 (A.nat (A.sub n11 1))).cellAt 2).toI, .list (.ints .i64 ((A.nthA x12 (A.nat (A.sub n11 1))).cellAt 3).toIs), .int .i64 ((A.nthA x12 (A.nat (A.sub n11 1))).cellAt 4).toI]))))) true, Zab (A.le 0 (A.sub n11 1)) (Nat.blt (A.nat (A.sub n11 1)) (A.lenA (A.setA x12 (A.nat n11) (AV.agg (Row.gen [.int .i64 ((A.nthA x12 (A.nat (A.sub n11 1))).cellAt 0).toI, .int .i64 ((A.nthA x12 (A.nat (A.sub n11 1))).cellAt 1).toI, .int .i64 ((A.nthA x12 (A.nat (A.sub n11 1))).cellAt 2).toI, .list (.ints .i64 ((A.nthA x12 (A.nat (A.sub n11 1))).cellAt 3).toIs), .int .i64 ((A.nthA x12 (A.nat (A.sub n11 1))).cellAt 4).toI]))))), Zab (Nat.blt (A.nat n11) (A.lenA x12)) true, Zab (A.le 0 n11) (Nat.blt (A.nat n11) (A.lenA x12)), Zab (Nat.blt (A.nat n11) (A.lenA x12)) true, Zab (A.le 0 n11) (Nat.blt (A.nat n11) (A.lenA x12)), Zab (Nat.blt (A.nat (A.sub n11 1)) (A.lenA x12)) true, Zab (A.le 0 (A.sub n11 1)) (Nat.blt (A.nat (A.sub n11 1)) (A.lenA x12)), A.inR .i64 (A.sub n11 1), A.inR .i64 (A.sub n11 1), A.lt n2 n11],
   Zgz (n2) (A.sub n11 1) (A.setA (A.setA x12 (A.nat n11) (AV.agg (Row.gen [.int .i64 ((A.nthA x12 (A.nat (A.sub n11 1))).cellAt 0).toI, .int .i64 ((A.nthA x12 (A.nat (A.sub n11 1))).cellAt 1).toI, .int .i64 ((A.nthA x12 (A.nat (A.sub n11 1))).cellAt 2).toI, .list (.ints .i64 ((A.nthA x12 (A.nat (A.sub n11 1))).cellAt 3).toIs), .int .i64 ((A.nthA x12 (A.nat (A.sub n11 1))).cellAt 4).toI]))) (A.nat (A.sub n11 1)) (AV.agg (Row.gen [.int .i64 ((A.nthA x12 (A.nat n11)).cellAt 0).toI, .int .i64 ((A.nthA x12 (A.nat n11)).cellAt 1).toI, .int .i64 ((A.nthA x12 (A.nat n11)).cellAt 2).toI, .list (.ints .i64 ((A.nthA x12 (A.nat n11)).cellAt 3).toIs), .int .i64 ((A.nthA x12 (A.nat n11)).cellAt 4).toI])))) := by kernel_rfl
theorem ZxM (A : Ar) (N : Nat) (n2 n11 : Int) (x12 : List AV) : Za2 A tab (BO5 N) 11 [false] 140 (ZcQ n2 n11 x12) (Zcd n2 n11 x12) =
  some (tr [1, 3] [!A.lt n2 n11],
   AV.tup [], 140, 5, Row.big (.agg [.int .i64, .int .i64, .int .i64, .ints .i64, .int .i64]) x12) := by kernel_rfl
end Go.Proofs.Ytjhdnpmojhkbjaa
