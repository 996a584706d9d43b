/- Paths of functions, printed by the explorer (Gx). No condition. -/
import Derived.Test.YtjhdnpmojhkbjaaMu
import Derived.KernelRfl
namespace Go.Proofs.Ytjhdnpmojhkbjaa
set_option maxRecDepth 100000
set_option linter.unusedVariables false
def ZGh (c : Int) (fs : List AV) : AFrame := { fn := 79, N := 60, env := [(0, AV.int .i64 c), (1, AV.list (Row.big (Sh.agg [Sh.int .i64, Sh.int .i64, Sh.int .i64, Sh.ints .i64]) fs))], todo := [.code a79.code], defs := [], rnd := none, ret := false, res := [ARes.tmp 4] }
def ZLY (c : Int) (fs : List AV) : List AFrame := [(ZGh c fs)]
theorem ZqT (c : Int) (fs : List AV) : Zal tab 79 [AV.int .i64 c, AV.list (Row.big (Sh.agg [Sh.int .i64, Sh.int .i64, Sh.int .i64, Sh.ints .i64]) fs)] = some (ZGh c fs) := rfl
def Zdu (c : Int) (fs : List AV) (n0 n1 : Int) : List AFrame := [{ fn := 79, N := 60, env := [(0, AV.int .i64 c), (5, AV.nils), (11, AV.list (Row.big (Sh.agg [Sh.int .i64, Sh.int .i64, Sh.int .i64, Sh.ints .i64]) fs)), (12, AV.int .i64 n0), (13, AV.int .i64 n1)], todo := .code (ACode.gh [] Zwn) :: ZDZ, defs := [], rnd := none, ret := false, res := [ARes.tmp 4] }]
def ZcI (c : Int) (fs : List AV) (n0 : Int) (n1 : Int) : Zaa := []
abbrev ZiC (c : Int) (fs : List AV) (n0 : Int) (n1 : Int) : List AFrame × Zaa := (Zdu c fs n0 n1, ZcI c fs n0 n1)
def ZdF (c : Int) (fs : List AV) (n0 n2 : Int) (x3 : List AV) : List AFrame := [{ fn := 79, N := 60, env := [(0, AV.int .i64 c), (5, AV.row 79055 0), (11, AV.list (Row.big (Sh.agg [Sh.int .i64, Sh.int .i64, Sh.int .i64, Sh.ints .i64]) fs)), (12, AV.int .i64 n0), (13, AV.int .i64 n2)], todo := .code (ACode.gh [] Zwn) :: ZDZ, defs := [], rnd := none, ret := false, res := [ARes.tmp 4] }]
def ZcL (c : Int) (fs : List AV) (n0 : Int) (n2 : Int) (x3 : List AV) : Zaa := [(79055, { base := 0, blks := [Blk.row 140 5 (Row.big (Sh.agg [Sh.int .i64, Sh.int .i64, Sh.int .i64, Sh.ints .i64, Sh.int .i64]) x3)] })]
abbrev ZeN (c : Int) (fs : List AV) (n0 : Int) (n2 : Int) (x3 : List AV) : List AFrame × Zaa := (ZdF c fs n0 n2 x3, ZcL c fs n0 n2 x3)
theorem ZEa (A : Ar) (c : Int) (fs : List AV) : Zac A tab BOk 18 [] (ZLY c fs) [] =
  some (tr [5] [],
   ZiC (c) (fs) (A.int (A.lenA fs)) (0)) := by kernel_rfl
theorem ZF9 (A : Ar) (c : Int) (fs : List AV) (n0 n1 : Int) : Zac A tab BOk 33 [true, true] (Zdu c fs n0 n1) (ZcI c fs n0 n1) =
  some (tr [1, 0, 7, 0, 1] [A.inR .i64 (A.add n1 1), A.not (A.eq ((A.nthA fs (A.nat n1)).cellAt 0).toI c), Zab (Zab (A.le 0 n1) (Nat.blt (A.nat n1) (A.lenA fs))) true, A.lt n1 n0],
   ZiC (c) (fs) (n0) (A.add n1 1)) := by kernel_rfl
theorem ZJL (A : Ar) (c : Int) (fs : List AV) (n0 n1 : Int) : Zac A tab BOk 60 [true, false, false] (Zdu c fs n0 n1) (ZcI c fs n0 n1) =
  some (tr [1, 1, 0, 2, 6, 3, 7, 0, 1] [A.inR .i64 (A.add n1 1), Zab (Nat.ble (A.lenA [AV.agg (Row.gen [.int .i64 ((A.nthA fs (A.nat n1)).cellAt 0).toI, .int .i64 ((A.nthA fs (A.nat n1)).cellAt 1).toI, .int .i64 ((A.nthA fs (A.nat n1)).cellAt 2).toI, .list (.ints .i64 ((A.nthA fs (A.nat n1)).cellAt 3).toIs), .int .i64 (A.add ((A.nthA fs (A.nat n1)).cellAt 1).toI 64)])]) 4294967296) (Nat.blt 0 (A.lenA [AV.agg (Row.gen [.int .i64 ((A.nthA fs (A.nat n1)).cellAt 0).toI, .int .i64 ((A.nthA fs (A.nat n1)).cellAt 1).toI, .int .i64 ((A.nthA fs (A.nat n1)).cellAt 2).toI, .list (.ints .i64 ((A.nthA fs (A.nat n1)).cellAt 3).toIs), .int .i64 (A.add ((A.nthA fs (A.nat n1)).cellAt 1).toI 64)])])), List.all [AV.agg (Row.gen [.int .i64 ((A.nthA fs (A.nat n1)).cellAt 0).toI, .int .i64 ((A.nthA fs (A.nat n1)).cellAt 1).toI, .int .i64 ((A.nthA fs (A.nat n1)).cellAt 2).toI, .list (.ints .i64 ((A.nthA fs (A.nat n1)).cellAt 3).toIs), .int .i64 (A.add ((A.nthA fs (A.nat n1)).cellAt 1).toI 64)])] fun x => AV.bx x && Nat.beq (Zae A x) 5, !A.lt 0 (A.int 0), A.inR .i64 (A.add ((A.nthA fs (A.nat n1)).cellAt 1).toI 64), !A.not (A.eq ((A.nthA fs (A.nat n1)).cellAt 0).toI c), Zab (Zab (A.le 0 n1) (Nat.blt (A.nat n1) (A.lenA fs))) true, A.lt n1 n0],
   ZeN (c) (fs) (n0) (A.add n1 1) ([AV.agg (Row.gen [.int .i64 ((A.nthA fs (A.nat n1)).cellAt 0).toI, .int .i64 ((A.nthA fs (A.nat n1)).cellAt 1).toI, .int .i64 ((A.nthA fs (A.nat n1)).cellAt 2).toI, .list (.ints .i64 ((A.nthA fs (A.nat n1)).cellAt 3).toIs), .int .i64 (A.add ((A.nthA fs (A.nat n1)).cellAt 1).toI 64)])])) := by kernel_rfl
theorem ZJe (A : Ar) (c : Int) (fs : List AV) (n0 n1 : Int) : ZaD A tab BOk 20 [false] 79 (Zdu c fs n0 n1) (ZcI c fs n0 n1) =
  some (tr [6, 1] [!A.lt n1 n0],
   AV.nils, none) := by kernel_rfl
theorem ZId (A : Ar) (c : Int) (fs : List AV) (n0 n2 : Int) (x3 : List AV) : Zac A tab BOk 33 [true, true] (ZdF c fs n0 n2 x3) (ZcL c fs n0 n2 x3) =
  some (tr [1, 0, 7, 0, 1] [A.inR .i64 (A.add n2 1), A.not (A.eq ((A.nthA fs (A.nat n2)).cellAt 0).toI c), Zab (Zab (A.le 0 n2) (Nat.blt (A.nat n2) (A.lenA fs))) true, A.lt n2 n0],
   ZeN (c) (fs) (n0) (A.add n2 1) (x3)) := by kernel_rfl
theorem ZJq (A : Ar) (c : Int) (fs : List AV) (n0 n2 : Int) (x3 : List AV) : Zac A tab BOk 102 [true, false, true, true] (ZdF c fs n0 n2 x3) (ZcL c fs n0 n2 x3) =
  some (tr [1, 1, 0, 4, 3, 1, 3, 0, 0, 0, 4, 1, 0, 3, 6, 3, 7, 0, 1] [A.inR .i64 (A.add n2 1), Nat.ble (A.lenA x3 + A.lenA [AV.agg (Row.gen [.int .i64 ((A.nthA fs (A.nat n2)).cellAt 0).toI, .int .i64 ((A.nthA fs (A.nat n2)).cellAt 1).toI, .int .i64 ((A.nthA fs (A.nat n2)).cellAt 2).toI, .list (.ints .i64 ((A.nthA fs (A.nat n2)).cellAt 3).toIs), .int .i64 (A.add ((A.nthA x3 (A.nat (A.sub (A.int (A.lenA x3)) 1))).cellAt 4).toI (A.sub (A.rem (A.add (A.rem (A.sub ((A.nthA fs (A.nat n2)).cellAt 1).toI ((A.nthA x3 (A.nat (A.sub (A.int (A.lenA x3)) 1))).cellAt 4).toI) 64) 64) 64) 64))])]) 4294967296, List.all [AV.agg (Row.gen [.int .i64 ((A.nthA fs (A.nat n2)).cellAt 0).toI, .int .i64 ((A.nthA fs (A.nat n2)).cellAt 1).toI, .int .i64 ((A.nthA fs (A.nat n2)).cellAt 2).toI, .list (.ints .i64 ((A.nthA fs (A.nat n2)).cellAt 3).toIs), .int .i64 (A.add ((A.nthA x3 (A.nat (A.sub (A.int (A.lenA x3)) 1))).cellAt 4).toI (A.sub (A.rem (A.add (A.rem (A.sub ((A.nthA fs (A.nat n2)).cellAt 1).toI ((A.nthA x3 (A.nat (A.sub (A.int (A.lenA x3)) 1))).cellAt 4).toI) 64) 64) 64) 64))])] fun x => AV.bx x && Nat.beq (Zae A x) 5, A.inR .i64 (A.add ((A.nthA x3 (A.nat (A.sub (A.int (A.lenA x3)) 1))).cellAt 4).toI (A.sub (A.rem (A.add (A.rem (A.sub ((A.nthA fs (A.nat n2)).cellAt 1).toI ((A.nthA x3 (A.nat (A.sub (A.int (A.lenA x3)) 1))).cellAt 4).toI) 64) 64) 64) 64)), A.inR .i64 (A.sub (A.rem (A.add (A.rem (A.sub ((A.nthA fs (A.nat n2)).cellAt 1).toI ((A.nthA x3 (A.nat (A.sub (A.int (A.lenA x3)) 1))).cellAt 4).toI) 64) 64) 64) 64), A.lt 32 (A.rem (A.add (A.rem (A.sub ((A.nthA fs (A.nat n2)).cellAt 1).toI ((A.nthA x3 (A.nat (A.sub (A.int (A.lenA x3)) 1))).cellAt 4).toI) 64) 64) 64), A.not (A.eq 64 0), A.inR .i64 (A.add (A.rem (A.sub ((A.nthA fs (A.nat n2)).cellAt 1).toI ((A.nthA x3 (A.nat (A.sub (A.int (A.lenA x3)) 1))).cellAt 4).toI) 64) 64), A.not (A.eq 64 0), A.inR .i64 (A.sub ((A.nthA fs (A.nat n2)).cellAt 1).toI ((A.nthA x3 (A.nat (A.sub (A.int (A.lenA x3)) 1))).cellAt 4).toI), Zab (Nat.blt (A.nat (A.sub (A.int (A.lenA x3)) 1)) (A.lenA x3)) true, Zab (A.le 0 (A.sub (A.int (A.lenA x3)) 1)) (Nat.blt (A.nat (A.sub (A.int (A.lenA x3)) 1)) (A.lenA x3)), A.inR .i64 (A.sub (A.int (A.lenA x3)) 1), A.lt 0 (A.int (A.lenA x3)), A.inR .i64 (A.add ((A.nthA fs (A.nat n2)).cellAt 1).toI 64), !A.not (A.eq ((A.nthA fs (A.nat n2)).cellAt 0).toI c), Zab (Zab (A.le 0 n2) (Nat.blt (A.nat n2) (A.lenA fs))) true, A.lt n2 n0],
   ZeN (c) (fs) (n0) (A.add n2 1) (A.appA x3 [AV.agg (Row.gen [.int .i64 ((A.nthA fs (A.nat n2)).cellAt 0).toI, .int .i64 ((A.nthA fs (A.nat n2)).cellAt 1).toI, .int .i64 ((A.nthA fs (A.nat n2)).cellAt 2).toI, .list (.ints .i64 ((A.nthA fs (A.nat n2)).cellAt 3).toIs), .int .i64 (A.add ((A.nthA x3 (A.nat (A.sub (A.int (A.lenA x3)) 1))).cellAt 4).toI (A.sub (A.rem (A.add (A.rem (A.sub ((A.nthA fs (A.nat n2)).cellAt 1).toI ((A.nthA x3 (A.nat (A.sub (A.int (A.lenA x3)) 1))).cellAt 4).toI) 64) 64) 64) 64))])])) := by kernel_rfl
theorem ZHT (A : Ar) (c : Int) (fs : List AV) (n0 n2 : Int) (x3 : List AV) : Zac A tab BOk 98 [true, false, true, false] (ZdF c fs n0 n2 x3) (ZcL c fs n0 n2 x3) =
  some (tr [1, 1, 0, 4, 2, 3, 0, 0, 0, 4, 1, 0, 3, 6, 3, 7, 0, 1] [A.inR .i64 (A.add n2 1), Nat.ble (A.lenA x3 + A.lenA [AV.agg (Row.gen [.int .i64 ((A.nthA fs (A.nat n2)).cellAt 0).toI, .int .i64 ((A.nthA fs (A.nat n2)).cellAt 1).toI, .int .i64 ((A.nthA fs (A.nat n2)).cellAt 2).toI, .list (.ints .i64 ((A.nthA fs (A.nat n2)).cellAt 3).toIs), .int .i64 (A.add ((A.nthA x3 (A.nat (A.sub (A.int (A.lenA x3)) 1))).cellAt 4).toI (A.rem (A.add (A.rem (A.sub ((A.nthA fs (A.nat n2)).cellAt 1).toI ((A.nthA x3 (A.nat (A.sub (A.int (A.lenA x3)) 1))).cellAt 4).toI) 64) 64) 64))])]) 4294967296, List.all [AV.agg (Row.gen [.int .i64 ((A.nthA fs (A.nat n2)).cellAt 0).toI, .int .i64 ((A.nthA fs (A.nat n2)).cellAt 1).toI, .int .i64 ((A.nthA fs (A.nat n2)).cellAt 2).toI, .list (.ints .i64 ((A.nthA fs (A.nat n2)).cellAt 3).toIs), .int .i64 (A.add ((A.nthA x3 (A.nat (A.sub (A.int (A.lenA x3)) 1))).cellAt 4).toI (A.rem (A.add (A.rem (A.sub ((A.nthA fs (A.nat n2)).cellAt 1).toI ((A.nthA x3 (A.nat (A.sub (A.int (A.lenA x3)) 1))).cellAt 4).toI) 64) 64) 64))])] fun x => AV.bx x && Nat.beq (Zae A x) 5, A.inR .i64 (A.add ((A.nthA x3 (A.nat (A.sub (A.int (A.lenA x3)) 1))).cellAt 4).toI (A.rem (A.add (A.rem (A.sub ((A.nthA fs (A.nat n2)).cellAt 1).toI ((A.nthA x3 (A.nat (A.sub (A.int (A.lenA x3)) 1))).cellAt 4).toI) 64) 64) 64)), !A.lt 32 (A.rem (A.add (A.rem (A.sub ((A.nthA fs (A.nat n2)).cellAt 1).toI ((A.nthA x3 (A.nat (A.sub (A.int (A.lenA x3)) 1))).cellAt 4).toI) 64) 64) 64), A.not (A.eq 64 0), A.inR .i64 (A.add (A.rem (A.sub ((A.nthA fs (A.nat n2)).cellAt 1).toI ((A.nthA x3 (A.nat (A.sub (A.int (A.lenA x3)) 1))).cellAt 4).toI) 64) 64), A.not (A.eq 64 0), A.inR .i64 (A.sub ((A.nthA fs (A.nat n2)).cellAt 1).toI ((A.nthA x3 (A.nat (A.sub (A.int (A.lenA x3)) 1))).cellAt 4).toI), Zab (Nat.blt (A.nat (A.sub (A.int (A.lenA x3)) 1)) (A.lenA x3)) true, Zab (A.le 0 (A.sub (A.int (A.lenA x3)) 1)) (Nat.blt (A.nat (A.sub (A.int (A.lenA x3)) 1)) (A.lenA x3)), A.inR .i64 (A.sub (A.int (A.lenA x3)) 1), A.lt 0 (A.int (A.lenA x3)), A.inR .i64 (A.add ((A.nthA fs (A.nat n2)).cellAt 1).toI 64), !A.not (A.eq ((A.nthA fs (A.nat n2)).cellAt 0).toI c), Zab (Zab (A.le 0 n2) (Nat.blt (A.nat n2) (A.lenA fs))) true, A.lt n2 n0],
   ZeN (c) (fs) (n0) (A.add n2 1) (A.appA x3 [AV.agg (Row.gen [.int .i64 ((A.nthA fs (A.nat n2)).cellAt 0).toI, .int .i64 ((A.nthA fs (A.nat n2)).cellAt 1).toI, .int .i64 ((A.nthA fs (A.nat n2)).cellAt 2).toI, .list (.ints .i64 ((A.nthA fs (A.nat n2)).cellAt 3).toIs), .int .i64 (A.add ((A.nthA x3 (A.nat (A.sub (A.int (A.lenA x3)) 1))).cellAt 4).toI (A.rem (A.add (A.rem (A.sub ((A.nthA fs (A.nat n2)).cellAt 1).toI ((A.nthA x3 (A.nat (A.sub (A.int (A.lenA x3)) 1))).cellAt 4).toI) 64) 64) 64))])])) := by kernel_rfl
theorem ZIR (A : Ar) (c : Int) (fs : List AV) (n0 n2 : Int) (x3 : List AV) : ZaD A tab BOk 20 [false] 79 (ZdF c fs n0 n2 x3) (ZcL c fs n0 n2 x3) =
  some (tr [2, 1, 1, 1] [Zab (Nat.ble (cpL (List.foldl ZgQ [] x3)) (A.lenA (cpZ (List.foldl ZgQ [] x3)))) (Zab (decide (soB (List.foldl ZgQ [] x3) = true)) true), Zab (decide (soB x3 = true)) true, !A.lt n2 n0],
   AV.row 0 0, some { e := 140, sz := 5, r := Row.big (.agg [.int .i64, .int .i64, .int .i64, .ints .i64, .int .i64]) (A.subA (cpZ (List.foldl ZgQ [] x3)) 0 (cpL (List.foldl ZgQ [] x3))) }) := by kernel_rfl
end Go.Proofs.Ytjhdnpmojhkbjaa
/- Contracts as a list. No condition. -/
namespace Go.Proofs.Ytjhdnpmojhkbjaa
theorem Zr9 {f : FuncId} {args : List AV} {e sz : Nat} {r : Row} (h : ZaI Try.prog f args (.row 0 0) (some ⟨e, sz + 1, r⟩)) (hp : r.pure = true) : ZaI Try.prog f args (.list r) none := by
  intro w okA L vs hargs hok
  refine (h w okA L vs hargs hok).mono ?_
  rintro e' w' ⟨x, L', rfl, hb, hpo⟩
  obtain ⟨H, hr⟩ : HRel (Ctx.of Try.prog w okA []) (Zaj (some ⟨e, sz + 1, r⟩)) L' w' ∧ Zaw (Ctx.of Try.prog w okA []) (Zaj (some ⟨e, sz + 1, r⟩)) L' w' (.row 0 0) x := hpo
  refine ⟨x, L', rfl, hb, ?_⟩
  show HRel _ (Zaj none) L' w' ∧ Zaw _ (Zaj none) L' w' (.list r) x
  refine ⟨H.nil, ?_⟩
  have hbk : blk (Zaj (some ⟨e, sz + 1, r⟩)) 0 0 = .row e (sz + 1) r := rfl
  obtain ⟨ht, h0, h1, h2, h3, cur, h4, h5, h6, h7, h8⟩ := H.rowAt hbk
  have hl := H.live 0 0 (by rw [ht]; simp)
  cases hr with
  | row _ _ g o n c hn hlv =>
    obtain ⟨rfl, rfl, rfl, rfl⟩ := hlv.2 _ ht
    have hpa := ZaB hp
    exact .list r _ rfl ⟨L'.loc 0 0, 0, none⟩ _ _ (sz + 1) _ hl.2 (.inr ⟨hl.1, fun a i ht => absurd rfl ht⟩) rfl hn h3 h6.1.symm h7 (fun j v hj => h8 j v hj) hpa
      (fun j u v hu hv => ((h6.2 j u v hu hv).okmono (fun g _ ho => Zcx ho)).pure (AV.pureL_mem hpa hu))
theorem Zqr (L c : Int) : ((c - L).tmod 64 + 64).tmod 64 = ZjQ (c - L) 64 := by
  rw [ZbQ]
  rcases Int.le_total 0 (c - L) with h | h
  · rw [Int.tmod_eq_emod_of_nonneg h, Int.tmod_eq_emod_of_nonneg (by omega)]; omega
  · obtain ⟨y, hy⟩ : ∃ y, c - L = -y := ⟨-(c - L), by omega⟩
    rw [hy, Int.neg_tmod, Int.tmod_eq_emod_of_nonneg (by omega : (0 : Int) ≤ y), Int.tmod_eq_emod_of_nonneg (by omega)]; omega
def Zcq (X : List AV) : Int := Zah (X.getD (X.length - 1) .top)
theorem ZiA (X : List AV) (x : AV) : Zcq (X ++ [x]) = Zah x := by
  unfold Zcq
  simp
theorem ZqH (X : List AV) (f : AV) (k : Int) (h : ZaF X = true) : ZaF (X ++ [Zi1 f k]) = true := by
  rw [Zbi, h]; rfl
theorem Zmr (x : Int) : -64 < x.tmod 64 ∧ x.tmod 64 < 64 := by
  rcases Int.le_total 0 x with h | h
  · rw [Int.tmod_eq_emod_of_nonneg h]; omega
  · obtain ⟨y, rfl⟩ : ∃ y, x = -y := ⟨-x, by omega⟩
    rw [Int.neg_tmod, Int.tmod_eq_emod_of_nonneg (by omega : (0 : Int) ≤ y)]; omega
theorem ZnM {X : List AV} (h : ZaF X = true) : ZaF (Zau X) = true := by
  unfold ZaF at *
  rw [List.all_eq_true] at *
  intro x hx
  exact h x (ZfC hx)
def ZfF (c : Int) (fs : List AV) : List AV := cpN (Zau (Zcy c fs))
section
variable {C : Ctx} (hC : C.P = Try.prog) (c : Int) (fs : List AV) (hfl : fs.length < 10000) (hct : ctB fs = true)
include hC hfl hct
theorem ZIU : ∀ (d i : Nat) (X : List AV), fs.length - i = d → i ≤ fs.length → X ≠ [] → X.length ≤ i → ZaF X = true → (-32 * (i : Int) ≤ Zcq X ∧ Zcq X ≤ 200 + 32 * i) → X ++ Zjq c (fs.drop i) (Zcq X) = Zcy c fs →
    Ev C (ZdF c fs fs.length i X) (ZcL c fs fs.length i X) (ZfK 79 (.row 0 0) (some ⟨140, 5, .big shN (ZfF c fs)⟩)) := by
  intro d
  induction d with
  | zero =>
    intro i X hd hi hX hXl hn hb hinv
    rw [List.drop_of_length_le (by omega), Zjq, List.append_nil] at hinv
    have hw := ZIR std c fs fs.length i X
    rw [show List.foldl ZgQ [] X = Zau X from rfl, Zua] at hw
    have hl : (Zau X).length = X.length := Zcc X
    have hsl := ZqJ (Zau X)
    have s1 : soB X = true := by unfold soB; rw [hn, Bool.and_true]; exact decide_eq_true (by omega)
    have s2 : soB (Zau X) = true := by unfold soB; rw [ZnM hn, Bool.and_true]; exact decide_eq_true (by omega)
    have hz : (cpZ (Zau X)).length = (Zau X).length := by unfold cpZ; rw [List.length_append, List.length_replicate]; omega
    have hz2 : std.subA (cpZ (Zau X)) 0 (cpN (Zau X)).length = cpN (Zau X) := by
      show sub3 _ _ _ = _
      unfold cpZ sub3
      simp
    rw [hz2, s1, s2] at hw
    refine fin hC Zd7 hw ?_ rfl ?_
    · simp only [ZaJ, hz]; simp [hl]; omega
    · unfold ZfF; rw [← hinv]
  | succ d ih =>
    intro i X hd hi hX hXl hn hb hinv
    have hlt : i < fs.length := by omega
    have hg : fs.getD i .top = fs[i] := by simp [hlt]
    have hcf : 0 ≤ ctF fs[i] ∧ ctF fs[i] ≤ 63 := by
      have := List.all_eq_true.mp hct fs[i] (List.getElem_mem hlt)
      exact of_decide_eq_true this
    have hXp : 0 < X.length := List.length_pos_iff.mpr hX
    have e1 : (std.sub (std.int X.length) 1).toNat = X.length - 1 := by simp
    have e2 : std.add (i : Int) 1 = ((i + 1 : Nat) : Int) := by simp
    rw [List.drop_eq_getElem_cons hlt, Zjq] at hinv
    by_cases hch : chF fs[i] = c
    · rw [if_pos hch] at hinv
      have hch' : AV.toI (AV.cellAt fs[i] 0) = c := hch
      have hnr := Zjj (Zcq X) (ctF fs[i])
      have hm := Zqr (Zcq X) (ctF fs[i])
      have hm2 := ZbQ (ctF fs[i] - Zcq X)
      have hne : ZaH (Zcq X) (ctF fs[i]) = if ZjQ (ctF fs[i] - Zcq X) 64 ≤ 32 then Zcq X + ZjQ (ctF fs[i] - Zcq X) 64 else Zcq X + ZjQ (ctF fs[i] - Zcq X) 64 - 64 := rfl
      have ih' := ih (i + 1) (X ++ [Zi1 fs[i] (ZaH (Zcq X) (ctF fs[i]))]) (by omega) (by omega) (by simp) (by simp; omega) (ZqH _ _ _ hn) (by rw [ZiA, Ze7]; omega) (by rw [ZiA, Ze7, List.append_assoc]; exact hinv)
      by_cases hm3 : ZjQ (ctF fs[i] - Zcq X) 64 ≤ 32
      · rw [if_pos hm3] at hne
        have hw := ZHT std c fs fs.length i X
        simp only [Zam, Zai, ZaJ, ZiW, Int.toNat_natCast, hg, e1, e2, hch'] at hw
        simp only [show (AV.cellAt fs[i] 1).toI = ctF fs[i] from rfl, show (AV.cellAt (X.getD (X.length - 1) .top) 4).toI = Zcq X from rfl] at hw
        simp only [Zax, ZaV, ZAl, hm] at hw
        rw [← hne] at hw
        rw [← hch', show (AV.agg (Row.gen [AV.int .i64 (AV.toI (AV.cellAt fs[i] 0)), AV.int .i64 (ctF fs[i]), AV.int .i64 (AV.toI (AV.cellAt fs[i] 2)), AV.list (.ints .i64 (AV.toIs (AV.cellAt fs[i] 3))), AV.int .i64 (ZaH (Zcq X) (ctF fs[i]))])) = Zi1 fs[i] (ZaH (Zcq X) (ctF fs[i])) from rfl, hch'] at hw
        refine go hC Zd7 hw ?_ ih'
        have hr := Zmr (ctF fs[i] - Zcq X)
        generalize Zcq X = L at *
        generalize ctF fs[i] = q at *
        simp [hlt, AV.bx, Zae, Row.len, Zi1]
        omega
      · rw [if_neg hm3] at hne
        have hw := ZJq std c fs fs.length i X
        simp only [Zam, Zai, ZaJ, ZiW, Int.toNat_natCast, hg, e1, e2, hch'] at hw
        simp only [show (AV.cellAt fs[i] 1).toI = ctF fs[i] from rfl, show (AV.cellAt (X.getD (X.length - 1) .top) 4).toI = Zcq X from rfl] at hw
        simp only [Zax, ZaV, ZAl, hm] at hw
        rw [Int.add_sub_assoc] at hne
        rw [← hne] at hw
        rw [← hch', show (AV.agg (Row.gen [AV.int .i64 (AV.toI (AV.cellAt fs[i] 0)), AV.int .i64 (ctF fs[i]), AV.int .i64 (AV.toI (AV.cellAt fs[i] 2)), AV.list (.ints .i64 (AV.toIs (AV.cellAt fs[i] 3))), AV.int .i64 (ZaH (Zcq X) (ctF fs[i]))])) = Zi1 fs[i] (ZaH (Zcq X) (ctF fs[i])) from rfl, hch'] at hw
        refine go hC Zd7 hw ?_ ih'
        have hr := Zmr (ctF fs[i] - Zcq X)
        generalize Zcq X = L at *
        generalize ctF fs[i] = q at *
        simp [hlt, AV.bx, Zae, Row.len, Zi1]
        omega
    · rw [if_neg hch] at hinv
      have hch' : ¬ AV.toI (AV.cellAt fs[i] 0) = c := hch
      have hw := ZId std c fs fs.length i X
      simp only [Zam, Zai, Int.toNat_natCast, hg, e2] at hw
      exact go hC Zd7 hw (by simp [hlt, hch']; omega) (ih (i + 1) X (by omega) (by omega) hX (by omega) hn (by omega) hinv)
theorem ZJP : ∀ (d i : Nat), fs.length - i = d → i ≤ fs.length → (Zcy c (fs.drop i) = Zcy c fs) → Zcy c fs ≠ [] →
    Ev C (Zdu c fs fs.length i) (ZcI c fs fs.length i) (ZfK 79 (.row 0 0) (some ⟨140, 5, .big shN (ZfF c fs)⟩)) := by
  intro d
  induction d with
  | zero =>
    intro i hd hi hinv hne
    rw [List.drop_of_length_le (by omega)] at hinv
    exact absurd hinv.symm hne
  | succ d ih =>
    intro i hd hi hinv hne
    have hlt : i < fs.length := by omega
    have hg : fs.getD i .top = fs[i] := by simp [hlt]
    have hcf : 0 ≤ ctF fs[i] ∧ ctF fs[i] ≤ 63 := by
      have := List.all_eq_true.mp hct fs[i] (List.getElem_mem hlt)
      exact of_decide_eq_true this
    have e2 : std.add (i : Int) 1 = ((i + 1 : Nat) : Int) := by simp
    rw [List.drop_eq_getElem_cons hlt, Zcy] at hinv
    by_cases hch : chF fs[i] = c
    · rw [if_pos hch] at hinv
      have hch' : AV.toI (AV.cellAt fs[i] 0) = c := hch
      have hw := ZJL std c fs fs.length i
      simp only [Zam, Zai, Int.toNat_natCast, hg, e2, hch'] at hw
      simp only [show (AV.cellAt fs[i] 1).toI = ctF fs[i] from rfl, ZaV] at hw
      rw [← hch', show (AV.agg (Row.gen [AV.int .i64 (AV.toI (AV.cellAt fs[i] 0)), AV.int .i64 (ctF fs[i]), AV.int .i64 (AV.toI (AV.cellAt fs[i] 2)), AV.list (.ints .i64 (AV.toIs (AV.cellAt fs[i] 3))), AV.int .i64 (ctF fs[i] + 64)])) = Zi1 fs[i] (ctF fs[i] + 64) from rfl, hch'] at hw
      refine go hC Zd7 hw ?_ (ZIU hC c fs hfl hct _ (i + 1) [Zi1 fs[i] (ctF fs[i] + 64)] rfl (by omega) (by simp) (by simp) rfl ?_ ?_)
      · generalize ctF fs[i] = q at *
        simp [hlt, AV.bx, Zae, Row.len, Zi1]
        omega
      · show -32 * (((i + 1 : Nat) : Nat) : Int) ≤ ctF fs[i] + 64 ∧ ctF fs[i] + 64 ≤ 200 + 32 * (((i + 1 : Nat) : Nat) : Int)
        omega
      · exact hinv
    · rw [if_neg hch] at hinv
      have hch' : ¬ AV.toI (AV.cellAt fs[i] 0) = c := hch
      have hw := ZF9 std c fs fs.length i
      simp only [Zam, Zai, Int.toNat_natCast, hg, e2] at hw
      exact go hC Zd7 hw (by simp [hlt, hch']; omega) (ih (i + 1) (by omega) (by omega) hinv hne)
end
section
variable {C : Ctx} (hC : C.P = Try.prog) (c : Int) (fs : List AV) (hfl : fs.length < 10000)
include hC hfl
theorem ZIk : ∀ (d i : Nat), fs.length - i = d → i ≤ fs.length → Zcy c (fs.drop i) = [] →
    Ev C (Zdu c fs fs.length i) (ZcI c fs fs.length i) (ZfK 79 .nils none) := by
  intro d
  induction d with
  | zero => intro i hd hi _; exact fin hC Zd7 (ZJe std c fs fs.length i) (by simp; omega) rfl rfl
  | succ d ih =>
    intro i hd hi hinv
    have hlt : i < fs.length := by omega
    have hg : fs.getD i .top = fs[i] := by simp [hlt]
    have e2 : std.add (i : Int) 1 = ((i + 1 : Nat) : Int) := by simp
    rw [List.drop_eq_getElem_cons hlt, Zcy] at hinv
    by_cases hch : chF fs[i] = c
    · rw [if_pos hch] at hinv; cases hinv
    · rw [if_neg hch] at hinv
      have hch' : ¬ AV.toI (AV.cellAt fs[i] 0) = c := hch
      have hw := ZF9 std c fs fs.length i
      simp only [Zam, Zai, Int.toNat_natCast, hg, e2] at hw
      exact go hC Zd7 hw (by simp [hlt, hch']; omega) (ih (i + 1) (by omega) (by omega) hinv)
end
theorem ZIl (c : Int) (fs : List AV) (h : nmB fs = true) : ZaI Try.prog 79 [.int .i64 c, .list (.big ZgT fs)] (.list (.big shN (ZfF c fs))) none := by
  unfold nmB at h
  simp only [Bool.and_eq_true, decide_eq_true_eq] at h
  by_cases h0 : Zcy c fs = []
  · have e : ZfF c fs = [] := by unfold ZfF; rw [h0]; rfl
    rw [e]
    exact wk2 (start (ZqT c fs) fun C hC => go hC Zd7 (ZEa std c fs) (by simp) (by
      have := ZIk hC c fs h.1 fs.length 0 (by omega) (by omega) (by simpa using h0)
      simpa using this)) (.one (.nil _ rfl))
  · exact Zr9 (e := 140) (sz := 4) (start (ZqT c fs) fun C hC => go hC Zd7 (ZEa std c fs) (by simp) (by
      have := ZJP hC c fs h.1 h.2 fs.length 0 (by omega) (by omega) (by simp) h0
      simpa using this)) rfl
theorem Zlf (c : Int) (fs : List AV) : ZfF c fs = cpN (Zau (Zcy c fs)) := rfl
attribute [irreducible] ZfF
def k79 : Ctr := ⟨79, 0, fun _ a => match a with | [.int .i64 c, .list (.big (.agg [.int .i64, .int .i64, .int .i64, .ints .i64]) fs)] => some (decide (nmB fs = true), .list (.big shN (ZfF c fs)), none) | _ => none⟩
theorem ZAh : k79.OK Try.prog := fun pa args r fr h => by
  simp only [k79] at h
  split at h
  · simp only [Option.some.injEq, Prod.mk.injEq, decide_eq_true_eq] at h
    obtain ⟨h0, rfl, rfl⟩ := h
    exact ZIl _ _ h0
  · cases h
def BOl : List Ctr := [k79] ++ BOk
theorem Zdd : Zas Try.prog BOl := ⟨ZAh, Zd7⟩
end Go.Proofs.Ytjhdnpmojhkbjaa
/- Owned rows that come back are read as lists. No condition. -/
namespace Go.Proofs.Ytjhdnpmojhkbjaa
theorem Zmu {f : FuncId} {args : List AV} {e sz : Nat} {r : Row} (h : ZaI Try.prog f args (.row 0 0) (some ⟨e, sz + 1, r⟩)) (hp : r.pure = true) : ZaI Try.prog f args (.list r) none := by
  intro w okA L vs hargs hok
  refine (h w okA L vs hargs hok).mono ?_
  rintro e' w' ⟨x, L', rfl, hb, hpo⟩
  obtain ⟨H, hr⟩ : HRel (Ctx.of Try.prog w okA []) (Zaj (some ⟨e, sz + 1, r⟩)) L' w' ∧ Zaw (Ctx.of Try.prog w okA []) (Zaj (some ⟨e, sz + 1, r⟩)) L' w' (.row 0 0) x := hpo
  refine ⟨x, L', rfl, hb, ?_⟩
  show HRel _ (Zaj none) L' w' ∧ Zaw _ (Zaj none) L' w' (.list r) x
  refine ⟨H.nil, ?_⟩
  have hbk : blk (Zaj (some ⟨e, sz + 1, r⟩)) 0 0 = .row e (sz + 1) r := rfl
  obtain ⟨ht, h0, h1, h2, h3, cur, h4, h5, h6, h7, h8⟩ := H.rowAt hbk
  have hl := H.live 0 0 (by rw [ht]; simp)
  cases hr with
  | row _ _ g o n c hn hlv =>
    obtain ⟨rfl, rfl, rfl, rfl⟩ := hlv.2 _ ht
    have hpa := ZaB hp
    exact .list r _ rfl ⟨L'.loc 0 0, 0, none⟩ _ _ (sz + 1) _ hl.2 (.inr ⟨hl.1, fun a i ht => absurd rfl ht⟩) rfl hn h3 h6.1.symm h7 (fun j v hj => h8 j v hj) hpa
      (fun j u v hu hv => ((h6.2 j u v hu hv).okmono (fun g _ ho => Zcx ho)).pure (AV.pureL_mem hpa hu))
theorem ZmG {f : FuncId} {args : List AV} {r : Row} (h : ZaI Try.prog f args .nils none) (hr : r.elems = []) : ZaI Try.prog f args (.list r) none := by
  intro w okA L vs hargs hok
  refine (h w okA L vs hargs hok).mono ?_
  rintro e' w' ⟨x, L', rfl, hb, hpo⟩
  have hpo : HRel (Ctx.of Try.prog w okA []) (Zaj none) L' w' ∧ Zaw (Ctx.of Try.prog w okA []) (Zaj none) L' w' .nils x := hpo
  exact ⟨x, L', rfl, hb, ⟨hpo.1, (Wk1.nil r hr).rel hpo.2⟩⟩
inductive Frz2N (r : Row) : AV → AV → Prop
  | row : Frz2N r (.row 0 0) (.list r)
  | same (v : AV) (hp : v.pure = true) : Frz2N r v v
def Frz2NL (r : Row) : List AV → List AV → Prop
  | [], [] => True
  | x :: xs, y :: ys => Frz2N r x y ∧ Frz2NL r xs ys
  | _, _ => False
theorem Frz2NL.spec {r : Row} : ∀ {xs ys : List AV}, Frz2NL r xs ys → xs.length = ys.length ∧ ∀ (j : Nat) (y : AV), ys[j]? = some y → ∃ x, xs[j]? = some x ∧ Frz2N r x y
  | [], [], _ => ⟨rfl, fun j y h => by simp at h⟩
  | x :: xs, y :: ys, h => by
    obtain ⟨h1, h2⟩ := h
    obtain ⟨e1, e2⟩ := Frz2NL.spec h2
    refine ⟨by simp [e1], fun j z hz => ?_⟩
    cases j with
    | zero => simp at hz; subst hz; exact ⟨x, rfl, h1⟩
    | succ j => obtain ⟨q, q1, q2⟩ := e2 j z (by simpa using hz); exact ⟨q, by simpa using q1, q2⟩
theorem Zss {f : FuncId} {args xs ys : List AV} {e sz : Nat} {r : Row} (h : ZaI Try.prog f args (.tup xs) (some ⟨e, sz + 1, r⟩)) (hp : r.pure = true) (hs : Frz2NL r xs ys) : ZaI Try.prog f args (.tup ys) none := by
  intro w okA L vs hargs hok
  refine (h w okA L vs hargs hok).mono ?_
  rintro e' w' ⟨x, L', rfl, hb, hpo⟩
  obtain ⟨H, hr⟩ : HRel (Ctx.of Try.prog w okA []) (Zaj (some ⟨e, sz + 1, r⟩)) L' w' ∧ Zaw (Ctx.of Try.prog w okA []) (Zaj (some ⟨e, sz + 1, r⟩)) L' w' (.tup xs) x := hpo
  refine ⟨x, L', rfl, hb, ?_⟩
  show HRel _ (Zaj none) L' w' ∧ Zaw _ (Zaj none) L' w' (.tup ys) x
  refine ⟨H.nil, ?_⟩
  have hbk : blk (Zaj (some ⟨e, sz + 1, r⟩)) 0 0 = .row e (sz + 1) r := rfl
  obtain ⟨ht, h0, h1, h2, h3, cur, h4, h5, h6, h7, h8⟩ := H.rowAt hbk
  have hl := H.live 0 0 (by rw [ht]; simp)
  have hpa := ZaB hp
  obtain ⟨e1, e2⟩ := hs.spec
  cases hr with
  | tup _ vs hlen hrr =>
    refine .tup _ vs (by rw [← e1]; exact hlen) (fun j u v hu hv => ?_)
    obtain ⟨q, q1, q2⟩ := e2 j u hu
    have hqv := hrr j q v q1 hv
    cases q2 with
    | same _ hpu => exact (hqv.okmono (fun g _ ho => Zcx ho)).pure hpu
    | row =>
      cases hqv with
      | row _ _ g o n c hn hlv =>
        obtain ⟨rfl, rfl, rfl, rfl⟩ := hlv.2 _ ht
        exact .list r _ rfl ⟨L'.loc 0 0, 0, none⟩ _ _ (sz + 1) _ hl.2 (.inr ⟨hl.1, fun a i ht => absurd rfl ht⟩) rfl hn h3 h6.1.symm h7 (fun j v hj => h8 j v hj) hpa
          (fun j u v hu hv => ((h6.2 j u v hu hv).okmono (fun g _ ho => Zcx ho)).pure (AV.pureL_mem hpa hu))
end Go.Proofs.Ytjhdnpmojhkbjaa
/- Paths of functions, printed by the explorer (Gx). No condition. -/
namespace Go.Proofs.Ytjhdnpmojhkbjaa
set_option maxRecDepth 100000
set_option linter.unusedVariables false
def ZBJ (fs : List AV) : AFrame := { fn := 17, N := 20, env := [(0, AV.list (Row.big (Sh.agg [Sh.int .i64, Sh.int .i64, Sh.int .i64, Sh.ints .i64]) fs))], todo := [.code a17.code], defs := [], rnd := none, ret := false, res := [ARes.tmp 2] }
def ZLF (fs : List AV) : List AFrame := [(ZBJ fs)]
theorem ZpY (fs : List AV) : Zal tab 17 [AV.list (Row.big (Sh.agg [Sh.int .i64, Sh.int .i64, Sh.int .i64, Sh.ints .i64]) fs)] = some (ZBJ fs) := rfl
def ZhK (fs : List AV) : List AFrame := [{ fn := 17, N := 20, env := [(0, AV.list (Row.big (Sh.agg [Sh.int .i64, Sh.int .i64, Sh.int .i64, Sh.ints .i64]) fs)), (3, AV.nils), (4, AV.int .i64 0)], todo := .code (ACode.gh [] Zv0) :: ZBp, defs := [], rnd := none, ret := false, res := [ARes.tmp 2] }]
def Zf3 (fs : List AV) : Zaa := []
abbrev ZnC (fs : List AV) : List AFrame × Zaa := (ZhK fs, Zf3 fs)
def Zfn (fs : List AV) (n0 : Int) (x1 : List AV) : List AFrame := [{ fn := 17, N := 20, env := [(0, AV.list (Row.big (Sh.agg [Sh.int .i64, Sh.int .i64, Sh.int .i64, Sh.ints .i64]) fs)), (3, AV.row 17019 0), (4, AV.int .i64 n0)], todo := .code (ACode.gh [] Zv0) :: ZBp, defs := [], rnd := none, ret := false, res := [ARes.tmp 2] }]
def ZeB (fs : List AV) (n0 : Int) (x1 : List AV) : Zaa := [(17019, { base := 0, blks := [Blk.row 74 4 (Row.big (Sh.agg [Sh.int .i64, Sh.int .i64, Sh.int .i64, Sh.ints .i64]) x1)] })]
abbrev ZiB (fs : List AV) (n0 : Int) (x1 : List AV) : List AFrame × Zaa := (Zfn fs n0 x1, ZeB fs n0 x1)
theorem ZES (A : Ar) (fs : List AV) : Zac A tab BOl 16 [] (ZLF fs) [] =
  some (tr [3] [],
   ZnC (fs)) := by kernel_rfl
theorem ZHH (A : Ar) (fs : List AV) : Zac A tab BOl 32 [true] (ZhK fs) (Zf3 fs) =
  some (tr [1, 2, 0, 0, 1, 3, 4] [A.inR .i64 (A.add 0 1), Zab (Nat.ble (A.lenA [AV.agg (Row.gen [.int .i64 ((A.nthA fs (A.nat 0)).cellAt 0).toI, .int .i64 ((A.nthA fs (A.nat 0)).cellAt 1).toI, .int .i64 ((A.nthA fs (A.nat 0)).cellAt 2).toI, .list (.ints .i64 ((A.nthA fs (A.nat 0)).cellAt 3).toIs)])]) 4294967296) (Nat.blt 0 (A.lenA [AV.agg (Row.gen [.int .i64 ((A.nthA fs (A.nat 0)).cellAt 0).toI, .int .i64 ((A.nthA fs (A.nat 0)).cellAt 1).toI, .int .i64 ((A.nthA fs (A.nat 0)).cellAt 2).toI, .list (.ints .i64 ((A.nthA fs (A.nat 0)).cellAt 3).toIs)])])), List.all [AV.agg (Row.gen [.int .i64 ((A.nthA fs (A.nat 0)).cellAt 0).toI, .int .i64 ((A.nthA fs (A.nat 0)).cellAt 1).toI, .int .i64 ((A.nthA fs (A.nat 0)).cellAt 2).toI, .list (.ints .i64 ((A.nthA fs (A.nat 0)).cellAt 3).toIs)])] fun x => AV.bx x && Nat.beq (Zae A x) 4, decide (List.length ((A.nthA fs (A.nat 0)).cellAt 3).toIs ≤ 4294967296), Zab (Zab (A.le 0 0) (Nat.blt (A.nat 0) (A.lenA fs))) true, A.lt 0 (A.int (A.lenA fs))],
   ZiB (fs) (A.add 0 1) ([AV.agg (Row.gen [.int .i64 ((A.nthA fs (A.nat 0)).cellAt 0).toI, .int .i64 ((A.nthA fs (A.nat 0)).cellAt 1).toI, .int .i64 ((A.nthA fs (A.nat 0)).cellAt 2).toI, .list (.ints .i64 ((A.nthA fs (A.nat 0)).cellAt 3).toIs)])])) := by kernel_rfl
theorem ZI9 (A : Ar) (fs : List AV) : ZaD A tab BOl 17 [false] 17 (ZhK fs) (Zf3 fs) =
  some (tr [3, 4] [!A.lt 0 (A.int (A.lenA fs))],
   AV.nils, none) := by kernel_rfl
theorem ZGY (A : Ar) (fs : List AV) (n0 : Int) (x1 : List AV) : Zac A tab BOl 32 [true] (Zfn fs n0 x1) (ZeB fs n0 x1) =
  some (tr [1, 2, 0, 0, 1, 3, 4] [A.inR .i64 (A.add n0 1), Nat.ble (A.lenA x1 + A.lenA [AV.agg (Row.gen [.int .i64 ((A.nthA fs (A.nat n0)).cellAt 0).toI, .int .i64 ((A.nthA fs (A.nat n0)).cellAt 1).toI, .int .i64 ((A.nthA fs (A.nat n0)).cellAt 2).toI, .list (.ints .i64 ((A.nthA fs (A.nat n0)).cellAt 3).toIs)])]) 4294967296, List.all [AV.agg (Row.gen [.int .i64 ((A.nthA fs (A.nat n0)).cellAt 0).toI, .int .i64 ((A.nthA fs (A.nat n0)).cellAt 1).toI, .int .i64 ((A.nthA fs (A.nat n0)).cellAt 2).toI, .list (.ints .i64 ((A.nthA fs (A.nat n0)).cellAt 3).toIs)])] fun x => AV.bx x && Nat.beq (Zae A x) 4, decide (List.length ((A.nthA fs (A.nat n0)).cellAt 3).toIs ≤ 4294967296), Zab (Zab (A.le 0 n0) (Nat.blt (A.nat n0) (A.lenA fs))) true, A.lt n0 (A.int (A.lenA fs))],
   ZiB (fs) (A.add n0 1) (A.appA x1 [AV.agg (Row.gen [.int .i64 ((A.nthA fs (A.nat n0)).cellAt 0).toI, .int .i64 ((A.nthA fs (A.nat n0)).cellAt 1).toI, .int .i64 ((A.nthA fs (A.nat n0)).cellAt 2).toI, .list (.ints .i64 ((A.nthA fs (A.nat n0)).cellAt 3).toIs)])])) := by kernel_rfl
theorem ZJV (A : Ar) (fs : List AV) (n0 : Int) (x1 : List AV) : ZaD A tab BOl 17 [false] 17 (Zfn fs n0 x1) (ZeB fs n0 x1) =
  some (tr [3, 4] [!A.lt n0 (A.int (A.lenA fs))],
   AV.row 0 0, some { e := 74, sz := 4, r := Row.big (.agg [.int .i64, .int .i64, .int .i64, .ints .i64]) x1 }) := by kernel_rfl
def ZBh (fs : List AV) : AFrame := { fn := 15, N := 30, env := [(0, AV.list (Row.big (Sh.agg [Sh.int .i64, Sh.int .i64, Sh.int .i64, Sh.ints .i64]) fs))], todo := [.code a15.code], defs := [], rnd := none, ret := false, res := [ARes.tmp 2] }
def ZGy (fs : List AV) : List AFrame := [(ZBh fs)]
theorem Zv9 (fs : List AV) : Zal tab 15 [AV.list (Row.big (Sh.agg [Sh.int .i64, Sh.int .i64, Sh.int .i64, Sh.ints .i64]) fs)] = some (ZBh fs) := rfl
def Zeg (fs : List AV) (n0 : Int) : List AFrame := [{ fn := 15, N := 30, env := [(0, AV.list (Row.big (Sh.agg [Sh.int .i64, Sh.int .i64, Sh.int .i64, Sh.ints .i64]) fs)), (3, AV.int .i64 n0)], todo := .code (ACode.gh [] ZCn) :: ZHf, defs := [], rnd := none, ret := false, res := [ARes.tmp 2] }]
def ZdL (fs : List AV) (n0 : Int) : Zaa := []
abbrev Zf5 (fs : List AV) (n0 : Int) : List AFrame × Zaa := (Zeg fs n0, ZdL fs n0)
theorem ZIK (A : Ar) (fs : List AV) : ZaD A tab BOl 28 [true, true, true, true, true, true, true, true, true] 15 (ZGy fs) [] =
  some (tr [10, 8, 5] [A.le (A.int (A.lenA fs)) 40, A.lt 24 (A.int (A.lenA fs))],
   AV.bool false, none) := by kernel_rfl
theorem ZHu (A : Ar) (fs : List AV) : ZaD A tab BOl 28 [true, true, true, true, false, false, false, false, true] 15 (ZGy fs) [] =
  some (tr [2, 7, 8, 5] [A.lt 42 (A.int (A.lenA fs)), !A.le (A.int (A.lenA fs)) 40, A.lt 24 (A.int (A.lenA fs))],
   AV.bool false, none) := by kernel_rfl
theorem ZHp (A : Ar) (fs : List AV) : Zac A tab BOl 32 [true, true, true, true, false, false, false, false, false] (ZGy fs) [] =
  some (tr [1, 7, 8, 5] [!A.lt 42 (A.int (A.lenA fs)), !A.le (A.int (A.lenA fs)) 40, A.lt 24 (A.int (A.lenA fs))],
   Zf5 (fs) (0)) := by kernel_rfl
theorem ZIE (A : Ar) (fs : List AV) : Zac A tab BOl 32 [false, false, false, false, false, false, false, false, false] (ZGy fs) [] =
  some (tr [1, 16, 5] [!A.lt 42 (A.int (A.lenA fs)), !A.lt 24 (A.int (A.lenA fs))],
   Zf5 (fs) (0)) := by kernel_rfl
theorem ZIf (A : Ar) (fs : List AV) (n0 : Int) : ZaD A tab BOl 30 [true, true] 15 (Zeg fs n0) (ZdL fs n0) =
  some (tr [2, 4, 2, 4] [A.lt 26 (A.int (A.len ((A.nthA fs (A.nat n0)).cellAt 3).toIs)), Zab (Zab (A.le 0 n0) (Nat.blt (A.nat n0) (A.lenA fs))) true, A.lt n0 (A.int (A.lenA fs))],
   AV.bool false, none) := by kernel_rfl
theorem ZHX (A : Ar) (fs : List AV) (n0 : Int) : Zac A tab BOl 34 [true, false] (Zeg fs n0) (ZdL fs n0) =
  some (tr [1, 1, 4, 2, 4] [A.inR .i64 (A.add n0 1), !A.lt 26 (A.int (A.len ((A.nthA fs (A.nat n0)).cellAt 3).toIs)), Zab (Zab (A.le 0 n0) (Nat.blt (A.nat n0) (A.lenA fs))) true, A.lt n0 (A.int (A.lenA fs))],
   Zf5 (fs) (A.add n0 1)) := by kernel_rfl
theorem ZJS (A : Ar) (fs : List AV) (n0 : Int) : ZaD A tab BOl 16 [false] 15 (Zeg fs n0) (ZdL fs n0) =
  some (tr [2, 4] [!A.lt n0 (A.int (A.lenA fs))],
   AV.bool true, none) := by kernel_rfl
end Go.Proofs.Ytjhdnpmojhkbjaa
/- Contracts as a list. No condition. -/
namespace Go.Proofs.Ytjhdnpmojhkbjaa
theorem ZjF (c : Int) : ∀ (fs : List AV) (last : Int), ∀ x ∈ Zjq c fs last, last - 32 * (fs.length : Int) ≤ Zah x ∧ Zah x ≤ last + 32 * (fs.length : Int)
  | [], _, x, hx => by simp [Zjq] at hx
  | f :: fs, last, x, hx => by
    unfold Zjq at hx
    have hn := Zjj last (ctF f)
    split at hx
    · rcases List.mem_cons.1 hx with rfl | hx
      · rw [Ze7]; simp only [List.length_cons]; omega
      · have := ZjF c fs _ x hx; simp only [List.length_cons]; omega
    · have := ZjF c fs _ x hx; simp only [List.length_cons]; omega
theorem Zkb (c : Int) : ∀ (fs : List AV), ctB fs = true → ∀ x ∈ Zcy c fs, -32 * (fs.length : Int) ≤ Zah x ∧ Zah x ≤ 200 + 32 * (fs.length : Int)
  | [], _, x, hx => by simp [Zcy] at hx
  | f :: fs, h, x, hx => by
    have h1 : 0 ≤ ctF f ∧ ctF f ≤ 63 := of_decide_eq_true (List.all_eq_true.mp h f (by simp))
    have h2 : ctB fs = true := List.all_eq_true.mpr fun g hg => List.all_eq_true.mp h g (by simp [hg])
    unfold Zcy at hx
    split at hx
    · rcases List.mem_cons.1 hx with rfl | hx
      · rw [Ze7]; simp only [List.length_cons]; omega
      · have := ZjF c fs _ x hx; simp only [List.length_cons]; omega
    · have := Zkb c fs h2 x hx; simp only [List.length_cons]; omega
theorem Zjt (c : Int) : ∀ (fs : List AV) (last : Int), (Zjq c fs last).length ≤ fs.length
  | [], _ => Nat.le_refl _
  | f :: fs, last => by
    unfold Zjq
    split
    · have := Zjt c fs (ZaH last (ctF f)); simp only [List.length_cons]; omega
    · have := Zjt c fs last; simp only [List.length_cons]; omega
theorem Zks (c : Int) : ∀ (fs : List AV), (Zcy c fs).length ≤ fs.length
  | [] => Nat.le_refl _
  | f :: fs => by
    unfold Zcy
    split
    · have := Zjt c fs (ctF f + 64); simp only [List.length_cons]; omega
    · have := Zks c fs; simp only [List.length_cons]; omega
theorem ZlU {x : AV} : ∀ {l : List AV} {p : AV}, x ∈ cpA p l → x ∈ l
  | [], _, h => h
  | y :: l, p, h => by
    unfold cpA at h
    split at h
    · exact List.mem_cons_of_mem _ (ZlU h)
    · rcases List.mem_cons.1 h with rfl | h
      · exact List.mem_cons_self
      · exact List.mem_cons_of_mem _ (ZlU h)
theorem Zvw {x : AV} {l : List AV} (h : x ∈ cpN l) : x ∈ l := by
  cases l with
  | nil => exact h
  | cons y l =>
    rcases List.mem_cons.1 h with rfl | h
    · exact List.mem_cons_self
    · exact List.mem_cons_of_mem _ (ZlU h)
theorem ZmW {x : AV} {c : Int} {fs : List AV} (h : x ∈ ZfF c fs) : x ∈ Zcy c fs := by
  rw [Zlf] at h
  exact ZfC (Zvw h)
theorem Zjy (c : Int) (fs : List AV) : (ZfF c fs).length ≤ fs.length := by
  rw [Zlf]
  have h1 := ZqJ (Zau (Zcy c fs))
  rw [Zcc] at h1
  have := Zks c fs
  omega
theorem ZIw {fs : List AV} (h : nmB fs = true) : fs.length < 10000 ∧ ctB fs = true := by
  unfold nmB at h
  simpa using h
theorem Zmt {c : Int} {fs : List AV} (h : nmB fs = true) : ∀ x ∈ ZfF c fs, -400000 ≤ Zah x ∧ Zah x ≤ 400000 := fun x hx => by
  obtain ⟨h1, h2⟩ := ZIw h
  have := Zkb c fs h2 x (ZmW hx)
  omega
theorem ZpV (c : Int) (fs : List AV) : Zd4 c fs = ((ZfF c fs).map Zaq, (ZfF c fs).map Zah) := by
  rw [Zlf]; exact Zmw c fs
theorem ZjA {a b : Int} : ∀ {fs : List AV}, Ze3 a b fs = 0 → ∀ f ∈ fs, frW a b f = 0
  | [], _, f, hf => absurd hf List.not_mem_nil
  | g :: fs, h, f, hf => by
    unfold Ze3 at h
    split at h
    · rename_i h0
      rcases List.mem_cons.1 hf with rfl | hf
      · exact h0
      · exact ZjA h f hf
    · rename_i h0; exact absurd h h0
theorem ZhH {a b c : Int} {fs : List AV} (h : ZbO a b c fs = 0) : ZaK a b = 0 ∧ Zcv b c = 0 ∧ fs.length ≤ 40 ∧ Ze3 a b fs = 0 := by
  unfold ZbO at h
  simp only [Zbb] at h
  by_cases h1 : ZaK a b = 0
  · by_cases h2 : Zcv b c = 0
    · by_cases h3 : (fs.length : Int) ≤ 40
      · simp [h1, h2, h3] at h
        exact ⟨h1, h2, by omega, by by_cases h9 : Ze3 a b fs = 0
                                    · exact h9
                                    · exact h h9⟩
      · simp [h1, h2, h3, Zaz] at h
    · simp [h1, h2] at h
  · simp [h1] at h
theorem ZpJ {a b c : Int} {fs : List AV} (h : ZbO a b c fs = 0) : nmB fs = true := by
  obtain ⟨h1, h2, h3, h4⟩ := ZhH h
  unfold nmB
  simp only [Bool.and_eq_true, decide_eq_true_eq]
  refine ⟨by omega, List.all_eq_true.mpr fun f hf => decide_eq_true ?_⟩
  have hw := ZjA h4 f hf
  have hrb : Zcj a b = true := by
    unfold ZaK at h1
    by_cases hb : Zcj a b = true
    · exact hb
    · rw [if_neg hb] at h1; cases h1
  unfold frW at hw
  rw [ZhV hrb] at hw
  exact (Zku hw).2.1
def ZqF (fs : List AV) : Bool := decide (fs.length ≤ 24 ∨ 40 < fs.length ∧ fs.length ≤ 42) && fs.all fun f => decide ((dtF f).length ≤ 26)
theorem Zm9 {C : Ctx} (hC : C.P = Try.prog) (fs : List AV) (hl : fs.length ≤ 42) : ∀ (d i : Nat), fs.length - i = d → i ≤ fs.length →
    Ev C (Zeg fs i) (ZdL fs i) (ZfK 15 (.bool ((fs.drop i).all fun f => decide ((dtF f).length ≤ 26))) none) := by
  intro d
  induction d with
  | zero => intro i hd hi; exact fin hC Zdd (ZJS std fs i) (by simp; omega) (by rw [List.drop_of_length_le (by omega)]; rfl) rfl
  | succ d ih =>
    intro i hd hi
    have hlt : i < fs.length := by omega
    have hg : fs.getD i .top = fs[i] := by simp [hlt]
    have e2 : std.add (i : Int) 1 = ((i + 1 : Nat) : Int) := by simp
    rw [List.drop_eq_getElem_cons hlt, List.all_cons]
    by_cases h : (dtF fs[i]).length ≤ 26
    · rw [decide_eq_true h, Bool.true_and]
      have hw := ZHX std fs i
      simp only [Zam, Zai, Int.toNat_natCast, hg, e2, show (AV.toIs (AV.cellAt fs[i] 3)) = dtF fs[i] from rfl] at hw
      exact go hC Zdd hw (by simp [hlt]; omega) (ih (i + 1) (by omega) (by omega))
    · rw [decide_eq_false h, Bool.false_and]
      have hw := ZIf std fs i
      simp only [Zam, Zai, Int.toNat_natCast, hg, show (AV.toIs (AV.cellAt fs[i] 3)) = dtF fs[i] from rfl] at hw
      exact fin hC Zdd hw (by simp [hlt]; omega) rfl rfl
theorem ZH6 (fs : List AV) : ZaI Try.prog 15 [.list (.big ZgT fs)] (.bool (ZqF fs)) none :=
  start (Zv9 fs) fun C hC => by
    unfold ZqF
    by_cases h1 : 24 < fs.length
    · by_cases h2 : fs.length ≤ 40
      · exact fin hC Zdd (ZIK std fs) (by simp; omega) (by rw [decide_eq_false (by omega)]; rfl) rfl
      · by_cases h3 : 42 < fs.length
        · exact fin hC Zdd (ZHu std fs) (by simp; omega) (by rw [decide_eq_false (by omega)]; rfl) rfl
        · rw [decide_eq_true (by omega), Bool.true_and]
          refine go hC Zdd (ZHp std fs) (by simp; omega) ?_
          have := Zm9 hC fs (by omega) fs.length 0 (by omega) (by omega)
          simpa using this
    · rw [decide_eq_true (by omega), Bool.true_and]
      refine go hC Zdd (ZIE std fs) (by simp; omega) ?_
      have := Zm9 hC fs (by omega) fs.length 0 (by omega) (by omega)
      simpa using this
theorem ZmK {fs : List AV} (h : Zbd fs = true) : fs.length ≤ 1000000 ∧ ∀ f ∈ fs, (dtF f).length ≤ 1000000 := by
  unfold Zbd at h
  simpa using h
theorem ZpM {fs : List AV} (h : ZqF fs = true) : Zbd fs = true := by
  unfold ZqF at h
  simp only [Bool.and_eq_true, decide_eq_true_eq, List.all_eq_true] at h
  unfold Zbd
  simp only [Bool.and_eq_true, decide_eq_true_eq, List.all_eq_true]
  exact ⟨by omega, fun f hf => by have := h.2 f hf; omega⟩
theorem ZqO {C : Ctx} (hC : C.P = Try.prog) (fs : List AV) (hl : fs.length ≤ 1000000) (hk : ∀ f ∈ fs, (dtF f).length ≤ 1000000) : ∀ (d i : Nat), fs.length - i = d → i ≤ fs.length →
    Ev C (Zfn fs i ((fs.take i).map Zaq)) (ZeB fs i ((fs.take i).map Zaq)) (ZfK 17 (.row 0 0) (some ⟨74, 4, .big ZgT (fs.map Zaq)⟩)) := by
  intro d
  induction d with
  | zero =>
    intro i hd hi
    rw [List.take_of_length_le (by omega)]
    exact fin hC Zdd (ZJV std fs i _) (by simp; omega) rfl rfl
  | succ d ih =>
    intro i hd hi
    have hlt : i < fs.length := by omega
    have hg : fs.getD i .top = fs[i] := by simp [hlt]
    have e2 : std.add (i : Int) 1 = ((i + 1 : Nat) : Int) := by simp
    have hb := hk fs[i] (by simp)
    have ih' := ih (i + 1) (by omega) (by omega)
    rw [List.take_succ_eq_append_getElem hlt, List.map_append, List.map_singleton] at ih'
    have hlen2 : ((fs.take i).map Zaq).length = i := by simp; omega
    have hw := ZGY std fs i ((fs.take i).map Zaq)
    generalize (fs.take i).map Zaq = X at *
    simp only [Zam, Zai, Int.toNat_natCast, hg, e2, ZiW] at hw
    rw [show (AV.agg (Row.gen [AV.int .i64 (AV.toI (AV.cellAt fs[i] 0)), AV.int .i64 (AV.toI (AV.cellAt fs[i] 1)), AV.int .i64 (AV.toI (AV.cellAt fs[i] 2)), AV.list (.ints .i64 (AV.toIs (AV.cellAt fs[i] 3)))])) = Zaq fs[i] from rfl] at hw
    refine go hC Zdd hw ?_ ih'
    have hb' : (AV.toIs (AV.cellAt fs[i] 3)).length ≤ 1000000 := hb
    simp [hlt, hlen2, AV.bx, Zae, Row.len, Zaq]
    omega
theorem ZDs (fs : List AV) (h : Zbd fs = true) : ZaI Try.prog 17 [.list (.big ZgT fs)] (.list (.big ZgT fs)) none := by
  obtain ⟨hl, hk⟩ := ZmK h
  cases fs with
  | nil => exact ZmG (start (ZpY []) fun C hC => go hC Zdd (ZES std []) (by simp) (fin hC Zdd (ZI9 std []) (by simp) rfl rfl)) rfl
  | cons f gs =>
    have key := Zmu (e := 74) (sz := 3) (f := 17) (args := [.list (.big ZgT (f :: gs))]) (r := .big ZgT ((f :: gs).map Zaq))
      (start (ZpY (f :: gs)) fun C hC => by
        refine go hC Zdd (ZES std (f :: gs)) (by simp) ?_
        have hb : (AV.toIs (AV.cellAt f 3)).length ≤ 1000000 := hk f (by simp)
        have hw := ZHH std (f :: gs)
        have e1 : (f :: gs).getD (Int.toNat 0) .top = f := rfl
        simp only [Zam, Zai, e1] at hw
        refine go hC Zdd hw ?_ ?_
        · simp [AV.bx, Zae, Row.len]; omega
        · have := ZqO hC (f :: gs) hl hk gs.length 1 (by simp) (by simp)
          simpa [Zaq] using this) rfl
    exact ZkF key (by simp [Row.elems, Zaq, Sh.view, ZeV, Sh.view1, AV.cellAt, AV.toI, AV.toIs])
def k15 : Ctr := ⟨15, 0, fun _ a => match a with | [.list (.big (.agg [.int .i64, .int .i64, .int .i64, .ints .i64]) fs)] => some (true, .bool (ZqF fs), none) | _ => none⟩
theorem ZEQ : k15.OK Try.prog := fun pa args r fr h => by
  simp only [k15] at h
  split at h
  · cases h
    exact ZH6 _
  · cases h
def k17 : Ctr := ⟨17, 0, fun _ a => match a with | [.list (.big (.agg [.int .i64, .int .i64, .int .i64, .ints .i64]) fs)] => some (decide (Zbd fs = true), .list (.big ZgT fs), none) | _ => none⟩
theorem ZFZ : k17.OK Try.prog := fun pa args r fr h => by
  simp only [k17] at h
  split at h
  · simp only [Option.some.injEq, Prod.mk.injEq, decide_eq_true_eq] at h
    obtain ⟨h0, rfl, rfl⟩ := h
    exact ZDs _ h0
  · cases h
def BOm : List Ctr := [k15, k17] ++ BOl
theorem ZzA : Zas Try.prog BOm := ⟨ZEQ, ⟨ZFZ, Zdd⟩⟩
end Go.Proofs.Ytjhdnpmojhkbjaa
/- The contracts of frames that are compared, too. No condition. -/
namespace Go.Proofs.Ytjhdnpmojhkbjaa
def BOn : List Ctr := BOm
theorem Ziy : Zas Try.prog BOn := ZzA
end Go.Proofs.Ytjhdnpmojhkbjaa
/- FrameOrders: the law returns true. No condition. -/
namespace Go.Proofs.Ytjhdnpmojhkbjaa
set_option maxRecDepth 20000
theorem Zkf {a b : Int} (h : ZaK a b = 0) : Zcj a b = true ∧ (4 ≤ a ∧ a ≤ 24) ∧ 1 ≤ b ∧ b ≤ 8 := by
  unfold ZaK at h
  by_cases hb : Zcj a b = true
  · refine ⟨hb, ?_⟩
    unfold Zcj at hb
    simp at hb
    omega
  · rw [if_neg hb] at h; cases h
theorem ZnL {b c : Int} (h1 : 1 ≤ b) (h2 : b ≤ 8) : Zcv b c = ZbS b c := by
  have : wr (b - 1) = b - 1 := by unfold wr; unfold IntKind.wrap; simp [IntKind.bits]; omega
  rw [Zcv, ZbS, this]
theorem Zkp {a b : Int} (h : Zcj a b = true) : ∀ fs : List AV, Ze3 a b fs = ZlA a b fs
  | [] => rfl
  | f :: fs => by
    unfold Ze3 ZlA
    have : frW a b f = frE a b f := by unfold frW frE; exact ZhV h _ _ _ _
    rw [this, Zkp h fs]
theorem ZvW {a b c : Int} (fs : List AV) (h : ZaK a b = 0) : ZbO a b c fs = if ZbS b c = 0 then Zrb a b fs else ZbS b c := by
  obtain ⟨h1, h2, h3, h4⟩ := Zkf h
  unfold ZbO Zrb
  rw [Zkp h1, ZnL h3 h4, h]
  by_cases hc : ZbS b c = 0
  · by_cases hl : 40 < fs.length
    · have : ¬ (fs.length : Int) ≤ 40 := by omega
      simp [Zbb, hc, hl, this, Zaz]
    · have : (fs.length : Int) ≤ 40 := by omega
      simp [Zbb, hc, hl, this]
      by_cases he : ZlA a b fs = 0 <;> simp [he]
  · simp [Zbb, hc]
theorem Zr0 {a b c : Int} (fs : List AV) (h : ZaK a b ≠ 0) : ZbO a b c fs = ZaK a b := by
  unfold ZbO
  simp [Zbb, h]
end Go.Proofs.Ytjhdnpmojhkbjaa
/- Paths of functions, printed by the explorer (Gx). No condition. -/
namespace Go.Proofs.Ytjhdnpmojhkbjaa
set_option maxRecDepth 100000
set_option linter.unusedVariables false
def Zzw (a : Int) (b : Int) (a2 : Int) (b2 : Int) (ds : List Int) (es : List Int) : AFrame := { fn := 81, N := 24, env := [(0, AV.agg (Row.gen [AV.int .i64 a, AV.int .i64 b, AV.list (.ints .i64 ds)])), (1, AV.agg (Row.gen [AV.int .i64 a2, AV.int .i64 b2, AV.list (.ints .i64 es)]))], todo := [.code a81.code], defs := [], rnd := none, ret := false, res := [ARes.tmp 4] }
def ZIp (a : Int) (b : Int) (a2 : Int) (b2 : Int) (ds : List Int) (es : List Int) : List AFrame := [(Zzw a b a2 b2 ds es)]
theorem ZyN (a : Int) (b : Int) (a2 : Int) (b2 : Int) (ds : List Int) (es : List Int) : Zal tab 81 [AV.agg (Row.gen [AV.int .i64 a, AV.int .i64 b, AV.list (.ints .i64 ds)]), AV.agg (Row.gen [AV.int .i64 a2, AV.int .i64 b2, AV.list (.ints .i64 es)])] = some (Zzw a b a2 b2 ds es) := rfl
theorem ZHk (A : Ar) (a b a2 b2 : Int) (ds es : List Int) : ZaD A tab BOn 31 [true, true, true, true, true, true, true, true, true, true, true, true] 81 (ZIp a b a2 b2 ds es) [] =
  some (tr [4, 8, 12, 9] [decide (List.length ds ≤ 1000000), A.eq b b2, A.eq a a2],
   AV.bool (decide (ds = es)), none) := by kernel_rfl
theorem ZIy (A : Ar) (a b a2 b2 : Int) (ds es : List Int) : ZaD A tab BOn 31 [true, true, true, true, true, true, false, false, false, false, false, false] 81 (ZIp a b a2 b2 ds es) [] =
  some (tr [13, 12, 9] [!A.eq b b2, A.eq a a2],
   AV.bool false, none) := by kernel_rfl
theorem ZGG (A : Ar) (a b a2 b2 : Int) (ds es : List Int) : ZaD A tab BOn 31 [false, false, false, false, false, false, false, false, false, false, false, false] 81 (ZIp a b a2 b2 ds es) [] =
  some (tr [26, 9] [!A.eq a a2],
   AV.bool false, none) := by kernel_rfl
def ZD6 (xs : List Int) : AFrame := { fn := 83, N := 16, env := [(0, AV.list (.ints .i64 xs))], todo := [.code a83.code], defs := [], rnd := none, ret := false, res := [ARes.tmp 2] }
def ZJ4 (xs : List Int) : List AFrame := [(ZD6 xs)]
theorem Zwt (xs : List Int) : Zal tab 83 [AV.list (.ints .i64 xs)] = some (ZD6 xs) := rfl
theorem ZHS (A : Ar) (xs : List Int) : ZaD A tab BOn 20 [true] 83 (ZJ4 xs) [] =
  some (tr [2, 2, 4] [A.inR .i64 (A.sub 3 (A.int (A.len xs))), A.lt (A.int (A.len xs)) 3],
   AV.int .i64 (A.sub 3 (A.int (A.len xs))), none) := by kernel_rfl
theorem ZH4 (A : Ar) (xs : List Int) : ZaD A tab BOn 26 [false] 83 (ZJ4 xs) [] =
  some (tr [2, 2, 1, 1, 4] [A.inR .i64 (A.sub (A.add 3 (A.nth xs (A.nat 2))) (A.int (A.len xs))), A.inR .i64 (A.add 3 (A.nth xs (A.nat 2))), Zab (Zab (A.le 0 2) (Nat.blt (A.nat 2) (A.len xs))) true, !A.lt (A.int (A.len xs)) 3],
   AV.int .i64 (A.sub (A.add 3 (A.nth xs (A.nat 2))) (A.int (A.len xs))), none) := by kernel_rfl
end Go.Proofs.Ytjhdnpmojhkbjaa
/- Contracts as a list. No condition. -/
namespace Go.Proofs.Ytjhdnpmojhkbjaa
theorem ZvJ {w : World} {ok : Nat → Prop} {h : Zaa} {L : Lay} {r : Row} {v : Value} (hr : Rel w ok h L (.list (.gen [.nils, .list r])) v) : Rel w ok h L (.list (.gen [.list (.ints .i64 []), .list r])) v := by
  cases hr with
  | nil _ a c h0 => simp [Row.elems] at h0
  | list _ xs hx ad n cap sz cs hb hok hn hcap hsz hl h1 hc hp hrr =>
    simp only [Row.elems] at hx
    subst hx
    refine .list _ _ rfl ad n cap sz cs hb hok hn hcap ?_ hl h1 hc ?_ (fun j u v hu hv => ?_)
    · intro x hx
      simp only [Row.elems, List.mem_cons, List.not_mem_nil, or_false] at hx
      rcases hx with rfl | rfl
      · exact hsz .nils (by simp)
      · exact hsz (.list r) (by simp)
    · simp [Zad, AV.flat, AV.pureL, AV.pure, Row.elems]
    · have hu' : ([AV.list (.ints .i64 []), AV.list r])[j]? = some u := by simpa [Zad, AV.flat, Row.elems] using hu
      match j, hu' with
      | 0, hu' =>
        simp at hu'
        subst hu'
        have := hrr 0 .nils v (by simp [Zad, AV.flat]) hv
        cases this
        exact .nil _ none 0 rfl
      | 1, hu' =>
        simp at hu'
        subst hu'
        exact hrr 1 _ v (by simp [Zad, AV.flat]) hv
      | j + 2, hu' => simp at hu'
theorem Zos (b : List Int) (h : 0 < b.length ∧ b.length ≤ 1000000) : ZaI Try.prog 113 [.list (.gen [.nils, .list (.ints .i64 b)])] (.list (.ints .i64 b)) Zko := by
  intro w okA L vs hargs hok
  refine Zhl [] b (by simpa using h) w okA L vs ⟨by have := hargs.1; simpa using this, fun j u v hu hv => ?_⟩ hok
  cases j with
  | zero =>
    simp at hu
    subst hu
    exact ZvJ (hargs.2 0 _ v rfl hv)
  | succ j => simp at hu
theorem Zoj (a b : List Int) (h : 0 < a.length + b.length ∧ a.length + b.length ≤ 1000000) : ZaI Try.prog 113 [.list (.big (.ints .i64) [.list (.ints .i64 a), .list (.ints .i64 b)])] (.list (.ints .i64 (a ++ b))) Zko :=
  Zm1 (xs := []) (ys := []) (Zhl a b h) rfl
theorem ZEH (a b a2 b2 : Int) (ds es : List Int) (h : ds.length ≤ 1000000) : ZaI Try.prog 81 [.agg (.gen [.int .i64 a, .int .i64 b, .list (.ints .i64 ds)]), .agg (.gen [.int .i64 a2, .int .i64 b2, .list (.ints .i64 es)])] (.bool (decide (a = a2 ∧ b = b2 ∧ ds = es))) none :=
  start (ZyN a b a2 b2 ds es) fun C hC => by
    by_cases h1 : a = a2
    · by_cases h2 : b = b2
      · exact fin hC Ziy (ZHk std a b a2 b2 ds es) (by simp [h1, h2, h]) (by simp [h1, h2]) rfl
      · exact fin hC Ziy (ZIy std a b a2 b2 ds es) (by simp [h1, h2]) (by simp [h1, h2]) rfl
    · exact fin hC Ziy (ZGG std a b a2 b2 ds es) (by simp [h1]) (by simp [h1]) rfl
def ZaM (xs : List Int) : Int := if xs.length < 3 then 3 - (xs.length : Int) else 3 + xs.getD 2 0 - xs.length
def Zc7 (xs : List Int) : Bool := decide (xs.length ≤ 1000000) && decide (-1000000 ≤ xs.getD 2 0 ∧ xs.getD 2 0 ≤ 1000000)
theorem ZCA (xs : List Int) (h : Zc7 xs = true) : ZaI Try.prog 83 [.list (.ints .i64 xs)] (.int .i64 (ZaM xs)) none :=
  start (Zwt xs) fun C hC => by
    unfold Zc7 at h
    simp only [Bool.and_eq_true, decide_eq_true_eq] at h
    unfold ZaM
    by_cases h1 : xs.length < 3
    · rw [if_pos h1]
      exact fin hC Ziy (ZHS std xs) (by simp; omega) rfl rfl
    · rw [if_neg h1]
      have hw := ZH4 std xs
      simp only [Zam, Za0, Zax, Zdt, ZaP, ZaV, show Int.toNat 2 = 2 from rfl] at hw
      generalize xs.getD 2 0 = u at *
      exact fin hC Ziy hw (by simp; omega) rfl rfl
def k81 : Ctr := ⟨81, 0, fun _ a => match a with | [.agg (.gen [.int .i64 a, .int .i64 b, .list (.ints .i64 ds)]), .agg (.gen [.int .i64 a2, .int .i64 b2, .list (.ints .i64 es)])] => some (decide (ds.length ≤ 1000000), .bool (decide (a = a2 ∧ b = b2 ∧ ds = es)), none) | _ => none⟩
theorem ZC4 : k81.OK Try.prog := fun pa args r fr h => by
  simp only [k81] at h
  split at h
  · simp only [Option.some.injEq, Prod.mk.injEq, decide_eq_true_eq] at h
    obtain ⟨h0, rfl, rfl⟩ := h
    exact ZEH _ _ _ _ _ _ h0
  · cases h
def k83 : Ctr := ⟨83, 0, fun _ a => match a with | [.list (.ints .i64 xs)] => some (decide (Zc7 xs = true), .int .i64 (ZaM xs), none) | _ => none⟩
theorem ZDO : k83.OK Try.prog := fun pa args r fr h => by
  simp only [k83] at h
  split at h
  · simp only [Option.some.injEq, Prod.mk.injEq, decide_eq_true_eq] at h
    obtain ⟨h0, rfl, rfl⟩ := h
    exact ZCA _ h0
  · cases h
def k113n : Ctr := ⟨113, 0, fun _ a => match a with | [.list (.gen [.nils, .list (.ints .i64 b)])] => some (decide (0 < b.length ∧ b.length ≤ 1000000), .list (.ints .i64 b), Zko) | _ => none⟩
theorem ZrD : k113n.OK Try.prog := fun pa args r fr h => by
  simp only [k113n] at h
  split at h
  · simp only [Option.some.injEq, Prod.mk.injEq, decide_eq_true_eq] at h
    obtain ⟨h0, rfl, rfl⟩ := h
    exact Zos _ h0
  · cases h
def k113g : Ctr := ⟨113, 0, fun _ a => match a with | [.list (.big (.ints .i64) [.list (.ints .i64 a), .list (.ints .i64 b)])] => some (decide (0 < a.length + b.length ∧ a.length + b.length ≤ 1000000), .list (.ints .i64 (a ++ b)), Zko) | _ => none⟩
theorem ZsR : k113g.OK Try.prog := fun pa args r fr h => by
  simp only [k113g] at h
  split at h
  · simp only [Option.some.injEq, Prod.mk.injEq, decide_eq_true_eq] at h
    obtain ⟨h0, rfl, rfl⟩ := h
    exact Zoj _ _ h0
  · cases h
def BOo : List Ctr := [k81, k83, k113n, k113g] ++ BOn
theorem Zc0 : Zas Try.prog BOo := ⟨ZC4, ⟨ZDO, ⟨ZrD, ⟨ZsR, Ziy⟩⟩⟩⟩
end Go.Proofs.Ytjhdnpmojhkbjaa
/- Paths of functions, printed by the explorer (Gx). No condition. -/
namespace Go.Proofs.Ytjhdnpmojhkbjaa
set_option maxRecDepth 100000
set_option linter.unusedVariables false
def ZuN (o : Bool) (p : List Int) (ds : List Int) (c : Int) (n : Int) (f : Int) (q : AV) : AFrame := { fn := 123, N := 37, env := [(0, AV.eptr (AV.agg (Row.gen [AV.bool o, AV.list (.ints .i64 p), q])) 0), (1, AV.agg (Row.gen [AV.int .i64 c, AV.int .i64 n, AV.int .i64 f, AV.list (.ints .i64 ds)]))], todo := [.code a123.code], defs := [], rnd := none, ret := false, res := [ARes.tmp 4] }
def Zv5 (o : Bool) (p : List Int) (ds : List Int) (c : Int) (n : Int) (f : Int) (q : AV) : List AFrame := [(ZuN o p ds c n f q)]
theorem ZrP (o : Bool) (p : List Int) (ds : List Int) (c : Int) (n : Int) (f : Int) (q : AV) : Zal tab 123 [AV.eptr (AV.agg (Row.gen [AV.bool o, AV.list (.ints .i64 p), q])) 0, AV.agg (Row.gen [AV.int .i64 c, AV.int .i64 n, AV.int .i64 f, AV.list (.ints .i64 ds)])] = some (ZuN o p ds c n f q) := rfl
theorem ZAV (A : Ar) (o : Bool) (p ds : List Int) (c n f : Int) (q : AV) : ZaD A tab BOo 21 [true] 123 (Zv5 o p ds c n f q) [] =
  some (tr [2, 8] [A.eq (A.int (A.len p)) 0],
   AV.int .i64 0, none) := by kernel_rfl
theorem ZCR (A : Ar) (o : Bool) (p ds : List Int) (c n f : Int) (q : AV) : ZaD A tab BOo 39 [false, true] 123 (Zv5 o p ds c n f q) [] =
  some (tr [3, 6, 5, 1, 2, 0, 6, 8] [A.lt (A.sub (A.add 3 (A.nth (List.append p ds) (A.nat 2))) (A.int (A.len p))) (A.int (A.len ds)), A.inR .i64 (A.sub (A.add 3 (A.nth (List.append p ds) (A.nat 2))) (A.int (A.len p))), A.inR .i64 (A.add 3 (A.nth (List.append p ds) (A.nat 2))), Zab (Zab (A.le 0 2) (Nat.blt (A.nat 2) (A.len (List.append p ds)))) true, decide (0 < List.length p + List.length ds ∧ List.length p + List.length ds ≤ 1000000), List.all [AV.list (.ints .i64 p), AV.list (.ints .i64 ds)] fun x => AV.bx x && Nat.beq (Zae A x) 1, !A.eq (A.int (A.len p)) 0],
   AV.int .i64 (A.sub (A.add 3 (A.nth (List.append p ds) (A.nat 2))) (A.int (A.len p))), none) := by kernel_rfl
theorem ZAb (A : Ar) (o : Bool) (p ds : List Int) (c n f : Int) (q : AV) : ZaD A tab BOo 39 [false, false] 123 (Zv5 o p ds c n f q) [] =
  some (tr [2, 6, 5, 1, 2, 0, 6, 8] [!A.lt (A.sub (A.add 3 (A.nth (List.append p ds) (A.nat 2))) (A.int (A.len p))) (A.int (A.len ds)), A.inR .i64 (A.sub (A.add 3 (A.nth (List.append p ds) (A.nat 2))) (A.int (A.len p))), A.inR .i64 (A.add 3 (A.nth (List.append p ds) (A.nat 2))), Zab (Zab (A.le 0 2) (Nat.blt (A.nat 2) (A.len (List.append p ds)))) true, decide (0 < List.length p + List.length ds ∧ List.length p + List.length ds ≤ 1000000), List.all [AV.list (.ints .i64 p), AV.list (.ints .i64 ds)] fun x => AV.bx x && Nat.beq (Zae A x) 1, !A.eq (A.int (A.len p)) 0],
   AV.int .i64 255, none) := by kernel_rfl
def ZDa (a : Int) (b : Int) (xs : List Int) (ds : List Int) : AFrame := { fn := 82, N := 34, env := [(0, AV.agg (Row.gen [AV.int .i64 a, AV.int .i64 b])), (1, AV.list (.ints .i64 xs)), (2, AV.list (.ints .i64 ds))], todo := [.code a82.code], defs := [], rnd := none, ret := false, res := [ARes.tmp 6] }
def ZDo (a : Int) (b : Int) (xs : List Int) (ds : List Int) : List AFrame := [(ZDa a b xs ds)]
theorem Zvi (a : Int) (b : Int) (xs : List Int) (ds : List Int) : Zal tab 82 [AV.agg (Row.gen [AV.int .i64 a, AV.int .i64 b]), AV.list (.ints .i64 xs), AV.list (.ints .i64 ds)] = some (ZDa a b xs ds) := rfl
theorem ZJB (A : Ar) (a b : Int) (xs ds : List Int) : ZaD A tab BOo 18 [true] 82 (ZDo a b xs ds) [] =
  some (tr [2, 5] [A.eq (A.int (A.len xs)) 0],
   AV.int .i64 0, none) := by kernel_rfl
theorem ZHZ (A : Ar) (a b : Int) (xs ds : List Int) : ZaD A tab BOo 63 [false, true, true] 82 (ZDo a b xs ds) [] =
  some (tr [3, 5, 1, 4, 0, 0, 3, 4, 1, 5] [A.lt (A.add (A.sub 3 (A.int (A.len xs))) (A.nth ds (A.nat (A.sub (A.sub 3 (A.int (A.len xs))) 1)))) a, A.inR .i64 (A.add (A.sub 3 (A.int (A.len xs))) (A.nth ds (A.nat (A.sub (A.sub 3 (A.int (A.len xs))) 1)))), A.inR .i64 (A.sub 3 (A.int (A.len xs))), Zab (Zab (A.le 0 (A.sub (A.sub 3 (A.int (A.len xs))) 1)) (Nat.blt (A.nat (A.sub (A.sub 3 (A.int (A.len xs))) 1)) (A.len ds))) true, A.inR .i64 (A.sub (A.sub 3 (A.int (A.len xs))) 1), A.inR .i64 (A.sub 3 (A.int (A.len xs))), A.lt (A.int (A.len xs)) 3, decide (Zc7 xs = true), !A.eq (A.int (A.len xs)) 0],
   AV.int .i64 (A.add (A.sub 3 (A.int (A.len xs))) (A.nth ds (A.nat (A.sub (A.sub 3 (A.int (A.len xs))) 1)))), none) := by kernel_rfl
theorem ZHv (A : Ar) (a b : Int) (xs ds : List Int) : ZaD A tab BOo 63 [false, true, false] 82 (ZDo a b xs ds) [] =
  some (tr [2, 5, 1, 4, 0, 0, 3, 4, 1, 5] [!A.lt (A.add (A.sub 3 (A.int (A.len xs))) (A.nth ds (A.nat (A.sub (A.sub 3 (A.int (A.len xs))) 1)))) a, A.inR .i64 (A.add (A.sub 3 (A.int (A.len xs))) (A.nth ds (A.nat (A.sub (A.sub 3 (A.int (A.len xs))) 1)))), A.inR .i64 (A.sub 3 (A.int (A.len xs))), Zab (Zab (A.le 0 (A.sub (A.sub 3 (A.int (A.len xs))) 1)) (Nat.blt (A.nat (A.sub (A.sub 3 (A.int (A.len xs))) 1)) (A.len ds))) true, A.inR .i64 (A.sub (A.sub 3 (A.int (A.len xs))) 1), A.inR .i64 (A.sub 3 (A.int (A.len xs))), A.lt (A.int (A.len xs)) 3, decide (Zc7 xs = true), !A.eq (A.int (A.len xs)) 0],
   AV.int .i64 255, none) := by kernel_rfl
theorem ZIN (A : Ar) (a b : Int) (xs ds : List Int) : ZaD A tab BOo 44 [false, false, true] 82 (ZDo a b xs ds) [] =
  some (tr [3, 4, 4, 1, 5] [A.lt (ZaM xs) a, !A.lt (A.int (A.len xs)) 3, decide (Zc7 xs = true), !A.eq (A.int (A.len xs)) 0],
   AV.int .i64 (ZaM xs), none) := by kernel_rfl
theorem ZGZ (A : Ar) (a b : Int) (xs ds : List Int) : ZaD A tab BOo 44 [false, false, false] 82 (ZDo a b xs ds) [] =
  some (tr [2, 4, 4, 1, 5] [!A.lt (ZaM xs) a, !A.lt (A.int (A.len xs)) 3, decide (Zc7 xs = true), !A.eq (A.int (A.len xs)) 0],
   AV.int .i64 255, none) := by kernel_rfl
def Ztf (a : Int) (b : Int) (ds : List Int) : AFrame := { fn := 82, N := 34, env := [(0, AV.agg (Row.gen [AV.int .i64 a, AV.int .i64 b])), (1, AV.nils), (2, AV.list (.ints .i64 ds))], todo := [.code a82.code], defs := [], rnd := none, ret := false, res := [ARes.tmp 6] }
def ZGR (a : Int) (b : Int) (ds : List Int) : List AFrame := [(Ztf a b ds)]
theorem Zry (a : Int) (b : Int) (ds : List Int) : Zal tab 82 [AV.agg (Row.gen [AV.int .i64 a, AV.int .i64 b]), AV.nils, AV.list (.ints .i64 ds)] = some (Ztf a b ds) := rfl
theorem ZFv (A : Ar) (a b : Int) (ds : List Int) : ZaD A tab BOo 18 [true] 82 (ZGR a b ds) [] =
  some (tr [2, 5] [A.eq (A.int 0) 0],
   AV.int .i64 0, none) := by kernel_rfl
def ZGk (ps : List AV) (qs : List AV) : AFrame := { fn := 21, N := 27, env := [(0, AV.list (Row.big (Sh.agg [Sh.int .i64, Sh.int .i64, Sh.ints .i64]) ps)), (1, AV.list (Row.big (Sh.agg [Sh.int .i64, Sh.int .i64, Sh.ints .i64]) qs))], todo := [.code a21.code], defs := [], rnd := none, ret := false, res := [ARes.tmp 4] }
def ZJ6 (ps : List AV) (qs : List AV) : List AFrame := [(ZGk ps qs)]
theorem Zx9 (ps : List AV) (qs : List AV) : Zal tab 21 [AV.list (Row.big (Sh.agg [Sh.int .i64, Sh.int .i64, Sh.ints .i64]) ps), AV.list (Row.big (Sh.agg [Sh.int .i64, Sh.int .i64, Sh.ints .i64]) qs)] = some (ZGk ps qs) := rfl
def Zeb (ps qs : List AV) (n0 : Int) : List AFrame := [{ fn := 21, N := 27, env := [(0, AV.list (Row.big (Sh.agg [Sh.int .i64, Sh.int .i64, Sh.ints .i64]) ps)), (1, AV.list (Row.big (Sh.agg [Sh.int .i64, Sh.int .i64, Sh.ints .i64]) qs)), (5, AV.int .i64 n0)], todo := .code (ACode.gh [] ZE5) :: ZJs, defs := [], rnd := none, ret := false, res := [ARes.tmp 4] }]
def ZdG (ps : List AV) (qs : List AV) (n0 : Int) : Zaa := []
abbrev Zi3 (ps : List AV) (qs : List AV) (n0 : Int) : List AFrame × Zaa := (Zeb ps qs n0, ZdG ps qs n0)
theorem ZJz (A : Ar) (ps qs : List AV) : ZaD A tab BOo 19 [true] 21 (ZJ6 ps qs) [] =
  some (tr [2, 6] [A.not (A.eq (A.int (A.lenA ps)) (A.int (A.lenA qs)))],
   AV.bool false, none) := by kernel_rfl
theorem ZID (A : Ar) (ps qs : List AV) : Zac A tab BOo 23 [false] (ZJ6 ps qs) [] =
  some (tr [1, 6] [!A.not (A.eq (A.int (A.lenA ps)) (A.int (A.lenA qs)))],
   Zi3 (ps) (qs) (0)) := by kernel_rfl
theorem ZJp (A : Ar) (ps qs : List AV) (n0 : Int) : ZaD A tab BOo 22 [true, true] 21 (Zeb ps qs n0) (ZdG ps qs n0) =
  some (tr [2, 1, 1, 3, 2, 4] [A.not (decide (AV.toI (AV.cellAt (A.nthA ps (A.nat n0)) 0) = AV.toI (AV.cellAt (A.nthA qs (A.nat n0)) 0) ∧ AV.toI (AV.cellAt (A.nthA ps (A.nat n0)) 1) = AV.toI (AV.cellAt (A.nthA qs (A.nat n0)) 1) ∧ AV.toIs (AV.cellAt (A.nthA ps (A.nat n0)) 2) = AV.toIs (AV.cellAt (A.nthA qs (A.nat n0)) 2))), decide (List.length ((A.nthA ps (A.nat n0)).cellAt 2).toIs ≤ 1000000), Zab (Zab (A.le 0 n0) (Nat.blt (A.nat n0) (A.lenA qs))) true, Zab (Zab (A.le 0 n0) (Nat.blt (A.nat n0) (A.lenA ps))) true, A.lt n0 (A.int (A.lenA ps))],
   AV.bool false, none) := by kernel_rfl
theorem ZIc (A : Ar) (ps qs : List AV) (n0 : Int) : Zac A tab BOo 26 [true, false] (Zeb ps qs n0) (ZdG ps qs n0) =
  some (tr [1, 1, 1, 1, 3, 2, 4] [A.inR .i64 (A.add n0 1), !A.not (decide (AV.toI (AV.cellAt (A.nthA ps (A.nat n0)) 0) = AV.toI (AV.cellAt (A.nthA qs (A.nat n0)) 0) ∧ AV.toI (AV.cellAt (A.nthA ps (A.nat n0)) 1) = AV.toI (AV.cellAt (A.nthA qs (A.nat n0)) 1) ∧ AV.toIs (AV.cellAt (A.nthA ps (A.nat n0)) 2) = AV.toIs (AV.cellAt (A.nthA qs (A.nat n0)) 2))), decide (List.length ((A.nthA ps (A.nat n0)).cellAt 2).toIs ≤ 1000000), Zab (Zab (A.le 0 n0) (Nat.blt (A.nat n0) (A.lenA qs))) true, Zab (Zab (A.le 0 n0) (Nat.blt (A.nat n0) (A.lenA ps))) true, A.lt n0 (A.int (A.lenA ps))],
   Zi3 (ps) (qs) (A.add n0 1)) := by kernel_rfl
theorem ZJx (A : Ar) (ps qs : List AV) (n0 : Int) : ZaD A tab BOo 16 [false] 21 (Zeb ps qs n0) (ZdG ps qs n0) =
  some (tr [2, 4] [!A.lt n0 (A.int (A.lenA ps))],
   AV.bool true, none) := by kernel_rfl
end Go.Proofs.Ytjhdnpmojhkbjaa
/- Contracts as a list. No condition. -/
namespace Go.Proofs.Ytjhdnpmojhkbjaa
def ZrN (p ds : List Int) : Int := 3 + (p ++ ds).getD 2 0 - (p.length : Int)
def Zec (a : Int) (p ds : List Int) : Int := if p.length = 0 then 0 else if ZrN p ds < a then ZrN p ds else 255
def Zh9 (p ds : List Int) : Bool := decide (p.length ≤ 400000 ∧ ds.length ≤ 400000 ∧ 3 ≤ p.length + ds.length) && decide (-1000000 ≤ (p ++ ds).getD 2 0 ∧ (p ++ ds).getD 2 0 ≤ 1000000)
theorem ZBK (o : Bool) (p ds : List Int) (c n f : Int) (q : AV) (h : Zh9 p ds = true) : ZaI Try.prog 123 [.eptr (.agg (.gen [.bool o, .list (.ints .i64 p), q])) 0, .agg (.gen [.int .i64 c, .int .i64 n, .int .i64 f, .list (.ints .i64 ds)])] (.int .i64 (Zec ds.length p ds)) none :=
  start (ZrP o p ds c n f q) fun C hC => by
    unfold Zh9 at h
    simp only [Bool.and_eq_true, decide_eq_true_eq] at h
    unfold Zec
    by_cases h1 : p.length = 0
    · rw [if_pos h1]
      exact fin hC Zc0 (ZAV std o p ds c n f q) (by simp [h1]) rfl rfl
    · rw [if_neg h1]
      have hl : (p ++ ds).length = p.length + ds.length := List.length_append
      have hp : p ≠ [] := fun e => h1 (by rw [e]; rfl)
      have hv : ZrN p ds = 3 + (p ++ ds).getD 2 0 - (p.length : Int) := rfl
      by_cases h2 : ZrN p ds < ds.length
      · rw [if_pos h2]
        have hw := ZCR std o p ds c n f q
        simp only [Zam, Za0, Zax, Zdt, ZaP, ZaV, show Int.toNat 2 = 2 from rfl, show List.append p ds = p ++ ds from rfl] at hw
        rw [← hv] at hw
        refine fin hC Zc0 hw ?_ rfl rfl
        generalize (p ++ ds).getD 2 0 = u at *
        simp [h1, h2, hl, AV.bx, Zae]
        omega
      · rw [if_neg h2]
        have hw := ZAb std o p ds c n f q
        simp only [Zam, Za0, Zax, Zdt, ZaP, ZaV, show Int.toNat 2 = 2 from rfl, show List.append p ds = p ++ ds from rfl] at hw
        rw [← hv] at hw
        refine fin hC Zc0 hw ?_ rfl rfl
        generalize (p ++ ds).getD 2 0 = u at *
        simp [h1, h2, hl, AV.bx, Zae]
        omega
def ZnX (a : Int) (p ds : List Int) : Bool := Zh9 p ds && decide (-1000000 ≤ a ∧ a ≤ 1000000)
theorem ZGJ (a b : Int) (p ds : List Int) (h : ZnX a p ds = true) : ZaI Try.prog 82 [.agg (.gen [.int .i64 a, .int .i64 b]), .list (.ints .i64 p), .list (.ints .i64 ds)] (.int .i64 (Zec a p ds)) none :=
  start (Zvi a b p ds) fun C hC => by
    unfold ZnX Zh9 at h
    simp only [Bool.and_eq_true, decide_eq_true_eq] at h
    unfold Zec
    by_cases h1 : p.length = 0
    · rw [if_pos h1]
      exact fin hC Zc0 (ZJB std a b p ds) (by simp [h1]) rfl rfl
    · rw [if_neg h1]
      have hp : p ≠ [] := fun e => h1 (by rw [e]; rfl)
      have hv : ZrN p ds = 3 + (p ++ ds).getD 2 0 - (p.length : Int) := rfl
      by_cases h3 : p.length < 3
      · have e1 : (3 - (p.length : Int) - 1).toNat = 2 - p.length := by omega
        have e2 : (p ++ ds).getD 2 0 = ds.getD (2 - p.length) 0 := by
          rw [List.getD_eq_getElem?_getD, List.getElem?_append_right (by omega), List.getD_eq_getElem?_getD]
        have hnB : Zc7 p = true := by
          unfold Zc7
          have : p.getD 2 0 = 0 := by rw [List.getD_eq_getElem?_getD, List.getElem?_eq_none (by omega)]; rfl
          rw [this]
          simp; omega
        have hv2 : 3 - (p.length : Int) + ds.getD (2 - p.length) 0 = ZrN p ds := by rw [hv, e2]; omega
        by_cases h2 : ZrN p ds < a
        · rw [if_pos h2]
          have hw := ZHZ std a b p ds
          simp only [Zam, Za0, Zax, Zdt, ZaP, ZaV, e1, hv2] at hw
          refine fin hC Zc0 hw ?_ rfl rfl
          rw [e2] at h
          generalize ds.getD (2 - p.length) 0 = u at *
          simp [h1, h2, hnB]
          omega
        · rw [if_neg h2]
          have hw := ZHv std a b p ds
          simp only [Zam, Za0, Zax, Zdt, ZaP, ZaV, e1, hv2] at hw
          refine fin hC Zc0 hw ?_ rfl rfl
          rw [e2] at h
          generalize ds.getD (2 - p.length) 0 = u at *
          simp [h1, h2, hnB]
          omega
      · have e2 : (p ++ ds).getD 2 0 = p.getD 2 0 := by
          rw [List.getD_eq_getElem?_getD, List.getElem?_append_left (by omega), List.getD_eq_getElem?_getD]
        rw [e2] at h
        have hnB : Zc7 p = true := by
          unfold Zc7
          simp only [Bool.and_eq_true, decide_eq_true_eq]
          exact ⟨by omega, h.1.2⟩
        have hn : ZaM p = ZrN p ds := by unfold ZaM; rw [if_neg h3, hv, e2]
        by_cases h2 : ZrN p ds < a
        · rw [if_pos h2]
          have hw := ZIN std a b p ds
          rw [hn] at hw
          exact fin hC Zc0 hw (by simp [h1, h2, hnB]; omega) rfl rfl
        · rw [if_neg h2]
          have hw := ZGZ std a b p ds
          rw [hn] at hw
          exact fin hC Zc0 hw (by simp [h1, h2, hnB]; omega) rfl rfl
theorem ZFK (a b : Int) (ds : List Int) : ZaI Try.prog 82 [.agg (.gen [.int .i64 a, .int .i64 b]), .nils, .list (.ints .i64 ds)] (.int .i64 0) none :=
  start (Zry a b ds) fun C hC => fin hC Zc0 (ZFv std a b ds) (by simp) rfl rfl
def pkT (p : AV) : Int × Int × List Int := ((p.cellAt 0).toI, (p.cellAt 1).toI, (p.cellAt 2).toIs)
def Zzm (ps : List AV) : Bool := decide (ps.length ≤ 1000000) && ps.all fun p => decide ((pkT p).2.2.length ≤ 1000000)
theorem l21 {C : Ctx} (hC : C.P = Try.prog) (xs ys : List AV) (hl : xs.length = ys.length) (hlen : xs.length ≤ 1000000) (hk : ∀ f ∈ xs, (pkT f).2.2.length ≤ 1000000) : ∀ (d i : Nat), xs.length - i = d → i ≤ xs.length → (xs.take i).map pkT = (ys.take i).map pkT →
    Ev C (Zeb xs ys i) (ZdG xs ys i) (ZfK 21 (.bool (decide (xs.map pkT = ys.map pkT))) none) := by
  intro d
  induction d with
  | zero =>
    intro i hd hi ht
    have hi : i = xs.length := by omega
    have he : xs.map pkT = ys.map pkT := by rw [hi] at ht; rw [List.take_length, hl, List.take_length] at ht; exact ht
    exact fin hC Zc0 (ZJx std xs ys i) (by simp; omega) (by simp [he]) rfl
  | succ d ih =>
    intro i hd hi ht
    have hlt : i < xs.length := by omega
    have hlt2 : i < ys.length := by omega
    have e1 : xs.getD i .top = xs[i] := by simp [hlt]
    have e2 : ys.getD i .top = ys[i] := by simp [hlt2]
    have hb : (xs[i].cellAt 2).toIs.length ≤ 1000000 := hk xs[i] (by simp)
    by_cases h1 : pkT xs[i] = pkT ys[i]
    · have h2 := h1
      simp only [pkT, Prod.mk.injEq] at h2
      have hw := ZIc std xs ys i
      simp only [Zam, Zai, Int.toNat_natCast, e1, e2, decide_eq_true h2, decide_eq_true hb] at hw
      refine go hC Zc0 hw ?_ (ih (i + 1) (by omega) (by omega) (by
        rw [List.take_succ_eq_append_getElem hlt, List.take_succ_eq_append_getElem hlt2, List.map_append, List.map_append, ht, List.map_singleton, List.map_singleton, h1]))
      simp [hlt, hlt2]
      omega
    · have h2 : ¬ ((xs[i].cellAt 0).toI = (ys[i].cellAt 0).toI ∧ (xs[i].cellAt 1).toI = (ys[i].cellAt 1).toI ∧ (xs[i].cellAt 2).toIs = (ys[i].cellAt 2).toIs) := fun e => h1 (by simp only [pkT, e.1, e.2.1, e.2.2])
      have hw := ZJp std xs ys i
      simp only [Zam, Zai, Int.toNat_natCast, e1, e2, decide_eq_false h2, decide_eq_true hb] at hw
      refine fin hC Zc0 hw ?_ ?_ rfl
      · simp [hlt, hlt2]
      · have : xs.map pkT ≠ ys.map pkT := fun e => h1 (by
          have := congrArg (fun l => l[i]?) e
          simpa [hlt, hlt2] using this)
        simp [this]
theorem ZD4 (xs ys : List AV) (h : Zzm xs = true) : ZaI Try.prog 21 [.list (.big (.agg [.int .i64, .int .i64, .ints .i64]) xs), .list (.big (.agg [.int .i64, .int .i64, .ints .i64]) ys)] (.bool (decide (xs.map pkT = ys.map pkT))) none :=
  start (Zx9 xs ys) fun C hC => by
    unfold Zzm at h
    simp only [Bool.and_eq_true, decide_eq_true_eq, List.all_eq_true] at h
    by_cases hl : xs.length = ys.length
    · exact go hC Zc0 (ZID std xs ys) (by simp [hl]) (l21 hC xs ys hl h.1 h.2 xs.length 0 (by omega) (by omega) rfl)
    · refine fin hC Zc0 (ZJz std xs ys) (by simp; omega) ?_ rfl
      have : xs.map pkT ≠ ys.map pkT := fun e => hl (by have := congrArg List.length e; simpa using this)
      simp [this]
def k123 : Ctr := ⟨123, 0, fun _ a => match a with | [.eptr (.agg (.gen [.bool _, .list (.ints .i64 p), _])) 0, .agg (.gen [.int .i64 _, .int .i64 _, .int .i64 _, .list (.ints .i64 ds)])] => some (decide (Zh9 p ds = true), .int .i64 (Zec ds.length p ds), none) | _ => none⟩
theorem Zxp : k123.OK Try.prog := fun pa args r fr h => by
  simp only [k123] at h
  split at h
  · simp only [Option.some.injEq, Prod.mk.injEq, decide_eq_true_eq] at h
    obtain ⟨h0, rfl, rfl⟩ := h
    exact ZBK _ _ _ _ _ _ _ h0
  · cases h
def k82 : Ctr := ⟨82, 0, fun _ a => match a with | [.agg (.gen [.int .i64 a, .int .i64 _]), .list (.ints .i64 p), .list (.ints .i64 ds)] => some (decide (ZnX a p ds = true), .int .i64 (Zec a p ds), none) | _ => none⟩
theorem ZFP : k82.OK Try.prog := fun pa args r fr h => by
  simp only [k82] at h
  split at h
  · simp only [Option.some.injEq, Prod.mk.injEq, decide_eq_true_eq] at h
    obtain ⟨h0, rfl, rfl⟩ := h
    exact ZGJ _ _ _ _ h0
  · cases h
def k82n : Ctr := ⟨82, 0, fun _ a => match a with | [.agg (.gen [.int .i64 _, .int .i64 _]), .nils, .list (.ints .i64 _)] => some (true, .int .i64 0, none) | _ => none⟩
theorem Zxb : k82n.OK Try.prog := fun pa args r fr h => by
  simp only [k82n] at h
  split at h
  · cases h
    exact ZFK _ _ _
  · cases h
def k21 : Ctr := ⟨21, 0, fun _ a => match a with | [.list (.big (.agg [.int .i64, .int .i64, .ints .i64]) xs), .list (.big (.agg [.int .i64, .int .i64, .ints .i64]) ys)] => some (decide (Zzm xs = true), .bool (decide (xs.map pkT = ys.map pkT)), none) | _ => none⟩
theorem ZDM : k21.OK Try.prog := fun pa args r fr h => by
  simp only [k21] at h
  split at h
  · simp only [Option.some.injEq, Prod.mk.injEq, decide_eq_true_eq] at h
    obtain ⟨h0, rfl, rfl⟩ := h
    exact ZD4 _ _ h0
  · cases h
def BOp : List Ctr := [k123, k82, k82n, k21] ++ BOo
theorem ZaO : Zas Try.prog BOp := ⟨Zxp, ⟨ZFP, ⟨Zxb, ⟨ZDM, Zc0⟩⟩⟩⟩
end Go.Proofs.Ytjhdnpmojhkbjaa
/- Packets out of bytes: by whole packets, and byte by byte; frames one after the other. No condition. -/
namespace Go.Proofs.Ytjhdnpmojhkbjaa
def bytP (p : List Int) : Prop := ∀ b ∈ p, 0 ≤ b ∧ b ≤ 255
theorem Zbo {p : List Int} (h : bytP p) (i : Nat) : 0 ≤ p.getD i 0 ∧ p.getD i 0 ≤ 255 := by
  by_cases hi : i < p.length
  · have : p.getD i 0 ∈ p := by rw [List.getD_eq_getElem?_getD, List.getElem?_eq_getElem hi]; exact List.getElem_mem _
    exact h _ this
  · rw [List.getD_eq_getElem?_getD, List.getElem?_eq_none (by omega)]; decide
theorem bytP.drop {p : List Int} (h : bytP p) (n : Nat) : bytP (p.drop n) := fun b hb => h b (List.mem_of_mem_drop hb)
theorem bytP.app {p q : List Int} (h : bytP p) (h2 : bytP q) : bytP (p ++ q) := fun b hb => by
  rcases List.mem_append.1 hb with hb | hb
  · exact h b hb
  · exact h2 b hb
def pkA (p : List Int) : AV := .agg (.gen [.int .i64 (p.getD 0 0), .int .i64 (p.getD 1 0), .list (.ints .i64 ((p.drop 3).take (p.getD 2 0).toNat))])
def eat (p : List Int) : List AV × List Int :=
  if h : 3 ≤ p.length ∧ 0 ≤ p.getD 2 0 ∧ 3 + p.getD 2 0 ≤ p.length then
    ((if p.getD 0 0 = 255 then [] else [pkA p]) ++ (eat (p.drop (3 + p.getD 2 0).toNat)).1, (eat (p.drop (3 + p.getD 2 0).toNat)).2)
  else ([], p)
termination_by p.length
decreasing_by all_goals (rw [List.length_drop]; omega)
theorem Zcu {p : List Int} (h : p.length < 3 ∨ (p.length : Int) < 3 + p.getD 2 0) : eat p = ([], p) := by
  rw [eat, dif_neg (by omega)]
theorem Zg2 {p : List Int} (hb : bytP p) (h1 : 3 ≤ p.length) (h2 : 3 + p.getD 2 0 ≤ p.length) : eat p = ((if p.getD 0 0 = 255 then [] else [pkA p]) ++ (eat (p.drop (3 + p.getD 2 0).toNat)).1, (eat (p.drop (3 + p.getD 2 0).toNat)).2) := by
  rw [eat, dif_pos ⟨h1, (Zbo hb 2).1, h2⟩]
theorem ZjN : ∀ (n : Nat) (p : List Int), p.length ≤ n → bytP p → bytP (eat p).2 ∧ ((eat p).2.length < 3 ∨ ((eat p).2.length : Int) < 3 + (eat p).2.getD 2 0) ∧ (eat p).1.length ≤ p.length ∧ ∀ x ∈ (eat p).1, (pkT x).2.2.length ≤ 255 ∧ x = .agg (.gen [.int .i64 (pkT x).1, .int .i64 (pkT x).2.1, .list (.ints .i64 (pkT x).2.2)]) := by
  intro n
  induction n with
  | zero =>
    intro p hp hb
    rw [Zcu (by omega)]
    exact ⟨hb, by dsimp only; omega, by simp, by simp⟩
  | succ n ih =>
    intro p hp hb
    have hv := Zbo hb 2
    by_cases h : 3 ≤ p.length ∧ 3 + p.getD 2 0 ≤ p.length
    · rw [Zg2 hb h.1 h.2]
      obtain ⟨i1, i2, i3, i4⟩ := ih (p.drop (3 + p.getD 2 0).toNat) (by rw [List.length_drop]; omega) (hb.drop _)
      refine ⟨i1, i2, ?_, ?_⟩
      · rw [List.length_append]
        rw [List.length_drop] at i3
        split
        · rw [List.length_nil]; omega
        · rw [List.length_singleton]; omega
      · intro x hx
        rcases List.mem_append.1 hx with hx | hx
        · split at hx
          · simp at hx
          · rw [List.mem_singleton] at hx
            subst hx
            refine ⟨?_, rfl⟩
            show ((p.drop 3).take (p.getD 2 0).toNat).length ≤ 255
            rw [List.length_take]; omega
        · exact i4 x hx
    · rw [Zcu (by omega)]
      exact ⟨hb, by dsimp only; omega, by simp, by simp⟩
theorem Zo1 {p : List Int} (hb : bytP p) : (eat p).2.length ≤ 257 := by
  obtain ⟨h1, h2, _⟩ := ZjN p.length p (Nat.le_refl _) hb
  have := Zbo h1 2
  omega
def ZjB : List Int → List Int → List AV × List Int
  | p, [] => ([], p)
  | p, b :: ds => if 0 < ZaM (p ++ [b]) then ZjB (p ++ [b]) ds
    else ((if (p ++ [b]).getD 0 0 = 255 then [] else [.agg (.gen [.int .i64 ((p ++ [b]).getD 0 0), .int .i64 ((p ++ [b]).getD 1 0), .list (.ints .i64 ((p ++ [b]).drop 3))])]) ++ (ZjB [] ds).1, (ZjB [] ds).2)
theorem ZdP (p : List Int) : 0 < ZaM p ↔ (p.length < 3 ∨ (p.length : Int) < 3 + p.getD 2 0) := by
  unfold ZaM
  split
  · rename_i h
    exact ⟨fun _ => .inl h, fun _ => by omega⟩
  · rename_i h
    exact ⟨fun _ => .inr (by omega), fun _ => by omega⟩
theorem ZjH : ∀ (ds p : List Int), bytP p → bytP ds → 0 < ZaM p → ZjB p ds = eat (p ++ ds)
  | [], p, hp, _, h => by rw [List.append_nil, Zcu ((ZdP p).1 h)]; rfl
  | b :: ds, p, hp, hd, h => by
    have hb : 0 ≤ b ∧ b ≤ 255 := hd b (by simp)
    have hd2 : bytP ds := fun x hx => hd x (by simp [hx])
    have hr : bytP (p ++ [b]) := hp.app (fun x hx => by rw [List.mem_singleton] at hx; rw [hx]; exact hb)
    have e : p ++ b :: ds = (p ++ [b]) ++ ds := by simp
    unfold ZjB
    by_cases h1 : 0 < ZaM (p ++ [b])
    · rw [if_pos h1, e]; exact ZjH ds _ hr hd2 h1
    · rw [if_neg h1, ZjH ds [] (fun x hx => by simp at hx) hd2 (by unfold ZaM; simp), List.nil_append]
      rw [ZdP] at h h1
      have hl : (p ++ [b]).length = p.length + 1 := by simp
      have hv := Zbo hr 2
      have hlen : ((p ++ [b]).length : Int) = 3 + (p ++ [b]).getD 2 0 := by
        by_cases h3 : p.length < 3
        · have : p.length = 2 := by omega
          omega
        · have : (p ++ [b]).getD 2 0 = p.getD 2 0 := by
            rw [List.getD_eq_getElem?_getD, List.getElem?_append_left (by omega), List.getD_eq_getElem?_getD]
          omega
      have hg : ∀ i, i < 3 → ((p ++ [b]) ++ ds).getD i 0 = (p ++ [b]).getD i 0 := fun i hi => by
        rw [List.getD_eq_getElem?_getD, List.getElem?_append_left (by omega), List.getD_eq_getElem?_getD]
      have hdrop : ((p ++ [b]) ++ ds).drop (3 + (p ++ [b]).getD 2 0).toNat = ds := by
        rw [show (3 + (p ++ [b]).getD 2 0).toNat = (p ++ [b]).length by omega, List.drop_left]
      have htake : (((p ++ [b]) ++ ds).drop 3).take ((p ++ [b]).getD 2 0).toNat = (p ++ [b]).drop 3 := by
        rw [List.drop_append_of_le_length (by omega), List.take_append_of_le_length (by rw [List.length_drop]; omega)]
        exact List.take_of_length_le (by rw [List.length_drop]; omega)
      rw [e, Zg2 (hr.app hd2) (by rw [List.length_append]; omega) (by rw [hg 2 (by omega), List.length_append]; omega)]
      unfold pkA
      rw [hg 0 (by omega), hg 1 (by omega), hg 2 (by omega), hdrop, htake]
def dsN (x : AV) : List Int := (AV.cellAt x 3).toIs
def fiN (x : AV) : Int := (AV.cellAt x 2).toI
def Zdj (st : Option (List Int)) (last : Int) (x : AV) : Option (List Int) := match st with
  | none => none
  | some p => if Zah x = last + 1 ∧ fiN x = Zec (dsN x).length p (dsN x) then some p else none
def Zk7 (st : Option (List Int)) (last : Int) (x : AV) : Option (List Int) := match Zdj st last x with
  | some p => some (p ++ dsN x)
  | none => if fiN x = 255 then none else some ((dsN x).drop (fiN x).toNat)
def Zfh (st : Option (List Int)) (last : Int) (x : AV) : List AV := match Zk7 st last x with | some p => (eat p).1 | none => []
def Zfg (st : Option (List Int)) (last : Int) (x : AV) : Option (List Int) := match Zk7 st last x with | some p => some (eat p).2 | none => none
def Zic (st : Option (List Int)) (last : Int) : List AV → List AV
  | [] => []
  | x :: xs => Zfh st last x ++ Zic (Zfg st last x) (Zah x) xs
def okX (a : Int) (x : AV) : Prop := ((0 ≤ fiN x ∧ fiN x ≤ a - 1) ∨ fiN x = 255) ∧ ((dsN x).length : Int) = a ∧ bytP (dsN x)
def okS (st : Option (List Int)) : Prop := match st with | none => True | some p => bytP p ∧ p.length ≤ 257 ∧ (p.length < 3 ∨ (p.length : Int) < 3 + p.getD 2 0)
theorem Zpb {a : Int} {st : Option (List Int)} {last : Int} {x : AV} (hs : okS st) (hx : okX a x) (ha : 4 ≤ a ∧ a ≤ 24) {p : List Int} (hp : Zk7 st last x = some p) : bytP p ∧ p.length ≤ 290 ∧ 0 < p.length := by
  obtain ⟨h1, h2, h3⟩ := hx
  unfold Zk7 at hp
  split at hp
  · rename_i q hq
    cases hp
    have : st = some q := by
      unfold Zdj at hq
      split at hq
      · cases hq
      · split at hq
        · cases hq; rfl
        · cases hq
    rw [this] at hs
    obtain ⟨q1, q2, _⟩ := hs
    exact ⟨q1.app h3, by rw [List.length_append]; omega, by rw [List.length_append]; omega⟩
  · split at hp
    · cases hp
    · cases hp
      rename_i h4
      exact ⟨h3.drop _, by rw [List.length_drop]; omega, by rw [List.length_drop]; omega⟩
theorem ZlY {a : Int} {st : Option (List Int)} {last : Int} {x : AV} (hs : okS st) (hx : okX a x) (ha : 4 ≤ a ∧ a ≤ 24) : okS (Zfg st last x) := by
  unfold Zfg
  split
  · rename_i p hp
    obtain ⟨h1, h2, h3⟩ := Zpb hs hx ha hp
    obtain ⟨i1, i2, _⟩ := ZjN _ p (Nat.le_refl _) h1
    exact ⟨i1, Zo1 h1, i2⟩
  · trivial
theorem Zjp {a : Int} {st : Option (List Int)} {last : Int} {x : AV} (hs : okS st) (hx : okX a x) (ha : 4 ≤ a ∧ a ≤ 24) : (Zfh st last x).length ≤ 290 ∧ ∀ y ∈ Zfh st last x, (pkT y).2.2.length ≤ 255 := by
  unfold Zfh
  split
  · rename_i p hp
    obtain ⟨h1, h2, h3⟩ := Zpb hs hx ha hp
    obtain ⟨_, _, i3, i4⟩ := ZjN _ p (Nat.le_refl _) h1
    exact ⟨by omega, fun y hy => (i4 y hy).1⟩
  · exact ⟨by simp, by simp⟩
end Go.Proofs.Ytjhdnpmojhkbjaa
