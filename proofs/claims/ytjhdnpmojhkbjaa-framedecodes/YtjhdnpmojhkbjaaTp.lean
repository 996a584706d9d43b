/- The code of the program, for the machine, part 1. Printed by gen2.py. -/
import Derived.Test.YtjhdnpmojhkbjaaXz
namespace Go.Proofs.Ytjhdnpmojhkbjaa
/-! 2 gosem.cut.init params [] nfree 0 ntmps 1 -/
def c2 : ACode :=
 .reg none [
 ⟨some 0, none, .ncall true 0 1 []⟩]
def a2 : AFunc := ⟨1, c2, []⟩
/-! 3 cassegrain/cassegrainlaw06.FrameExtracts params [23, 3, 24] nfree 0 ntmps 55 -/
def c3 : ACode :=
 .seq (
 .reg none [
 ⟨some 3, none, .box 3004 23 (.t 0)⟩,
 ⟨some 6, none, .mov (.c (.bool false))⟩]) (
 .seq (
 .seq (
 .reg none [
 ⟨some 10, none, .ncall true 0 14 []⟩,
 ⟨some 11, none, .not (.t 10)⟩]) (
 .cond (.t 11) (
 .seq (
 .reg none [
 ⟨some 6, none, .mov (.c (.bool false))⟩]) (
 .ret)) (
 .skip))) (
 .seq (
 .seq (
 .reg none [
 ⟨some 12, none, .mov (.t 2)⟩,
 ⟨some 13, none, .ncall true 0 15 [(.t 12)]⟩,
 ⟨some 14, none, .not (.t 13)⟩]) (
 .cond (.t 14) (
 .seq (
 .reg none [
 ⟨some 6, none, .mov (.c (.bool true))⟩]) (
 .ret)) (
 .skip))) (
 .seq (
 .reg (some [(0, 3), (1, 3)]) [
 ⟨some 16, none, .load true 2 (.t 3)⟩,
 ⟨some 17, none, .mov (.t 1)⟩,
 ⟨some 18, none, .mov (.t 2)⟩,
 ⟨some 19, none, .ncall true 3020 17 [(.t 18)]⟩,
 ⟨some 20, none, .ncall true 3021 16 [(.t 16), (.t 17), (.t 19)]⟩,
 ⟨some 15, none, .mov (.t 20)⟩,
 ⟨some 21, none, .ext 0 (.t 15)⟩,
 ⟨some 22, none, .ext 1 (.t 15)⟩,
 ⟨some 7, none, .mov (.t 21)⟩,
 ⟨some 8, none, .mov (.t 22)⟩]) (
 .gh [.keep [1, 2, 3, 7, 8]] (
 .seq (
 .reg none [
 ⟨some 23, none, .load true 2 (.t 3)⟩,
 ⟨some 24, none, .ncall true 0 18 [(.t 23)]⟩,
 ⟨some 9, none, .mov (.t 24)⟩]) (
 .seq (
 .seq (
 .reg none [
 ⟨some 25, none, .mov (.t 9)⟩,
 ⟨some 26, none, .bin .eql (.t 25) (.c (.int .i64 0))⟩]) (
 .cond (.t 26) (
 .reg none [
 ⟨some 27, none, .load true 2 (.t 3)⟩,
 ⟨some 28, none, .mov (.t 1)⟩,
 ⟨some 29, none, .ncall true 0 19 [(.t 27), (.t 28)]⟩,
 ⟨some 9, none, .mov (.t 29)⟩]) (
 .skip))) (
 .seq (
 .seq (
 .reg none [
 ⟨some 30, none, .mov (.t 9)⟩,
 ⟨some 31, none, .bin .eql (.t 30) (.c (.int .i64 0))⟩]) (
 .cond (.t 31) (
 .reg none [
 ⟨some 32, none, .load true 2 (.t 3)⟩,
 ⟨some 33, none, .mov (.t 2)⟩,
 ⟨some 34, none, .ncall true 0 20 [(.t 32), (.t 33)]⟩,
 ⟨some 9, none, .mov (.t 34)⟩]) (
 .skip))) (
 .seq (
 .seq (
 .reg none [
 ⟨some 35, none, .mov (.t 9)⟩,
 ⟨some 36, none, .bin .neq (.t 35) (.c (.int .i64 0))⟩]) (
 .cond (.t 36) (
 .seq (
 .reg none [
 ⟨some 37, none, .mov (.t 8)⟩,
 ⟨some 38, none, .mov (.t 9)⟩,
 ⟨some 39, none, .bin .eql (.t 37) (.t 38)⟩,
 ⟨some 40, none, .mov (.t 39)⟩,
 ⟨some 41, (some (40, true)), .mov (.t 7)⟩,
 ⟨some 42, (some (40, true)), .len (.t 41)⟩,
 ⟨some 43, (some (40, true)), .bin .eql (.t 42) (.c (.int .i64 0))⟩,
 ⟨some 44, none, .pick (.t 40) (.t 43) (.c (.bool false))⟩,
 ⟨some 6, none, .mov (.t 44)⟩]) (
 .gh [.keep [6]] (
 .ret))) (
 .skip))) (
 .seq (
 .reg none [
 ⟨some 45, none, .mov (.t 8)⟩,
 ⟨some 46, none, .bin .eql (.t 45) (.c (.int .i64 0))⟩,
 ⟨some 47, none, .mov (.t 46)⟩,
 ⟨some 48, (some (47, true)), .mov (.t 7)⟩,
 ⟨some 49, (some (47, true)), .load true 2 (.t 3)⟩,
 ⟨some 50, (some (47, true)), .mov (.t 1)⟩,
 ⟨some 51, (some (47, true)), .mov (.t 2)⟩,
 ⟨some 52, (some (47, true)), .ncall true 3053 22 [(.t 49), (.t 50), (.t 51)]⟩,
 ⟨some 53, (some (47, true)), .ncall true 0 21 [(.t 48), (.t 52)]⟩,
 ⟨some 54, none, .pick (.t 47) (.t 53) (.c (.bool false))⟩,
 ⟨some 6, none, .mov (.t 54)⟩]) (
 .gh [.keep [6]] (
 .ret)))))))))))
def a3 : AFunc := ⟨55, c3, [.tmp 6]⟩
/-! 4 cassegrain/cassegrainlaw06.FrameTimes params [38, 3] nfree 0 ntmps 105 -/
def l4_0 : ACode :=
 .seq (
 .seq (
 .reg none [
 ⟨some 70, none, .mov (.t 8)⟩,
 ⟨some 71, none, .mov (.t 0)⟩,
 ⟨some 72, none, .len (.t 71)⟩,
 ⟨some 73, none, .bin .lss (.t 70) (.t 72)⟩]) (
 .cond (.t 73) (
 .skip) (
 .exit 0))) (
 .seq (
 .block 1 (
 .seq (
 .reg (some []) [
 ⟨some 76, none, .mov (.t 0)⟩,
 ⟨some 77, none, .mov (.t 8)⟩,
 ⟨some 78, none, .iaddr 3 (.t 76) (.t 77)⟩,
 ⟨some 79, none, .faddr 0 (.t 78)⟩,
 ⟨some 80, none, .load false 1 (.t 79)⟩,
 ⟨some 81, none, .mov (.t 1)⟩,
 ⟨some 82, none, .bin .eql (.t 80) (.t 81)⟩,
 ⟨some 83, none, .mov (.t 82)⟩,
 ⟨some 84, (some (83, true)), .faddr 0 (.t 5)⟩,
 ⟨some 85, (some (83, true)), .load false 1 (.t 84)⟩,
 ⟨some 86, (some (83, true)), .mov (.t 0)⟩,
 ⟨some 87, (some (83, true)), .mov (.t 8)⟩,
 ⟨some 88, (some (83, true)), .iaddr 3 (.t 86) (.t 87)⟩,
 ⟨some 89, (some (83, true)), .faddr 1 (.t 88)⟩,
 ⟨some 90, (some (83, true)), .faddr 0 (.t 89)⟩,
 ⟨some 91, (some (83, true)), .load false 1 (.t 90)⟩,
 ⟨some 92, (some (83, true)), .bin .lss (.t 85) (.t 91)⟩,
 ⟨some 93, (some (83, true)), .mov (.t 92)⟩,
 ⟨some 94, (some (93, false)), .faddr 1 (.t 5)⟩,
 ⟨some 95, (some (93, false)), .load false 1 (.t 94)⟩,
 ⟨some 96, (some (93, false)), .mov (.t 0)⟩,
 ⟨some 97, (some (93, false)), .mov (.t 8)⟩,
 ⟨some 98, (some (93, false)), .iaddr 3 (.t 96) (.t 97)⟩,
 ⟨some 99, (some (93, false)), .faddr 1 (.t 98)⟩,
 ⟨some 100, (some (93, false)), .faddr 1 (.t 99)⟩,
 ⟨some 101, (some (93, false)), .load false 1 (.t 100)⟩,
 ⟨some 102, (some (93, false)), .bin .gtr (.t 95) (.t 101)⟩,
 ⟨some 103, (some (83, true)), .pick (.t 93) (.c (.bool true)) (.t 102)⟩,
 ⟨some 104, none, .pick (.t 83) (.t 103) (.c (.bool false))⟩]) (
 .gh [.keep [0, 1, 5, 8, 104]] (
 .cond (.t 104) (
 .seq (
 .reg none [
 ⟨some 4, none, .mov (.c (.bool false))⟩]) (
 .ret)) (
 .skip))))) (
 .reg none [
 ⟨some 74, none, .mov (.t 8)⟩,
 ⟨some 75, none, .bin .add (.t 74) (.c (.int .i64 1))⟩,
 ⟨some 8, none, .mov (.t 75)⟩]))
def b4_0 : ACode := .gh [.keep [0, 1, 5, 8]] (.gh [] l4_0)
def k4_0 : List AItem := .inLoop b4_0 :: [.inBlock 0,
 .code (.seq (
 .reg none [
 ⟨some 4, none, .mov (.c (.bool true))⟩]) (
 .ret))]
def c4 : ACode :=
 .seq (
 .reg none [
 ⟨some 4, none, .mov (.c (.bool false))⟩]) (
 .seq (
 .seq (
 .reg none [
 ⟨some 9, none, .ncall true 0 14 []⟩,
 ⟨some 10, none, .not (.t 9)⟩]) (
 .cond (.t 10) (
 .seq (
 .reg none [
 ⟨some 4, none, .mov (.c (.bool false))⟩]) (
 .ret)) (
 .skip))) (
 .seq (
 .seq (
 .reg none [
 ⟨some 11, none, .mov (.t 0)⟩,
 ⟨some 12, none, .len (.t 11)⟩,
 ⟨some 13, none, .bin .gtr (.t 12) (.c (.int .i64 22))⟩]) (
 .cond (.t 13) (
 .seq (
 .reg none [
 ⟨some 4, none, .mov (.c (.bool true))⟩]) (
 .ret)) (
 .skip))) (
 .seq (
 .reg none [
 ⟨some 15, none, .mov (.t 0)⟩,
 ⟨some 16, none, .ncall true 4017 24 [(.t 15)]⟩,
 ⟨some 17, none, .mov (.t 1)⟩,
 ⟨some 18, none, .ncall true 0 23 [(.t 16), (.t 17)]⟩,
 ⟨some 14, none, .mov (.t 18)⟩,
 ⟨some 19, none, .ext 0 (.t 14)⟩,
 ⟨some 20, none, .ext 1 (.t 14)⟩,
 ⟨some 5, none, .alloc 4006 40 (.agg (.gen [(.int .i64 0), (.int .i64 0)]))⟩,
 ⟨none, none, .store 2 (.t 5) (.t 19)⟩,
 ⟨some 6, none, .mov (.t 20)⟩]) (
 .gh [.keep [0, 1, 5, 6]] (
 .seq (
 .reg none [
 ⟨some 21, none, .mov (.t 0)⟩,
 ⟨some 22, none, .ncall true 0 25 [(.t 21)]⟩,
 ⟨some 7, none, .mov (.t 22)⟩]) (
 .seq (
 .seq (
 .reg none [
 ⟨some 23, none, .mov (.t 7)⟩,
 ⟨some 24, none, .bin .eql (.t 23) (.c (.int .i64 0))⟩,
 ⟨some 25, none, .mov (.t 24)⟩,
 ⟨some 26, (some (25, true)), .mov (.t 0)⟩,
 ⟨some 27, (some (25, true)), .len (.t 26)⟩,
 ⟨some 28, (some (25, true)), .bin .eql (.t 27) (.c (.int .i64 1))⟩,
 ⟨some 29, none, .pick (.t 25) (.t 28) (.c (.bool false))⟩]) (
 .gh [.keep [0, 1, 5, 6, 7, 29]] (
 .cond (.t 29) (
 .reg none [
 ⟨some 7, none, .mov (.c (.int .i64 10))⟩]) (
 .skip)))) (
 .seq (
 .seq (
 .reg none [
 ⟨some 30, none, .mov (.t 7)⟩,
 ⟨some 31, none, .bin .eql (.t 30) (.c (.int .i64 0))⟩,
 ⟨some 32, none, .mov (.t 31)⟩,
 ⟨some 33, (some (32, true)), .mov (.t 0)⟩,
 ⟨some 34, (some (32, true)), .ncall true 0 26 [(.t 33)]⟩,
 ⟨some 35, (some (32, true)), .not (.t 34)⟩,
 ⟨some 36, none, .pick (.t 32) (.t 35) (.c (.bool false))⟩]) (
 .gh [.keep [0, 1, 5, 6, 7, 36]] (
 .cond (.t 36) (
 .reg none [
 ⟨some 7, none, .mov (.c (.int .i64 13))⟩]) (
 .skip)))) (
 .seq (
 .seq (
 .reg none [
 ⟨some 37, none, .mov (.t 7)⟩,
 ⟨some 38, none, .bin .eql (.t 37) (.c (.int .i64 0))⟩,
 ⟨some 39, none, .mov (.t 38)⟩,
 ⟨some 40, (some (39, true)), .mov (.t 1)⟩,
 ⟨some 41, (some (39, true)), .ncall true 0 27 [(.t 40), (.c (.int .i64 0)), (.c (.int .i64 1000000))]⟩,
 ⟨some 42, (some (39, true)), .not (.t 41)⟩,
 ⟨some 43, none, .pick (.t 39) (.t 42) (.c (.bool false))⟩]) (
 .gh [.keep [0, 1, 5, 6, 7, 43]] (
 .cond (.t 43) (
 .reg none [
 ⟨some 7, none, .mov (.c (.int .i64 2))⟩]) (
 .skip)))) (
 .seq (
 .seq (
 .reg none [
 ⟨some 44, none, .mov (.t 7)⟩,
 ⟨some 45, none, .bin .neq (.t 44) (.c (.int .i64 0))⟩]) (
 .cond (.t 45) (
 .seq (
 .reg none [
 ⟨some 46, none, .mov (.t 6)⟩,
 ⟨some 47, none, .mov (.t 7)⟩,
 ⟨some 48, none, .bin .eql (.t 46) (.t 47)⟩,
 ⟨some 49, none, .mov (.t 48)⟩,
 ⟨some 50, (some (49, true)), .load true 2 (.t 5)⟩,
 ⟨some 51, (some (49, true)), .build (.gen [(.int .i64 0), (.int .i64 0)]) []⟩,
 ⟨some 52, (some (49, true)), .aeq false [.i, .i] (.t 50) (.t 51)⟩,
 ⟨some 53, none, .pick (.t 49) (.t 52) (.c (.bool false))⟩,
 ⟨some 4, none, .mov (.t 53)⟩]) (
 .gh [.keep [4]] (
 .ret))) (
 .skip))) (
 .seq (
 .seq (
 .reg (some []) [
 ⟨some 54, none, .mov (.t 6)⟩,
 ⟨some 55, none, .bin .neq (.t 54) (.c (.int .i64 0))⟩,
 ⟨some 56, none, .mov (.t 55)⟩,
 ⟨some 57, (some (56, false)), .load true 2 (.t 5)⟩,
 ⟨some 58, (some (56, false)), .mov (.t 0)⟩,
 ⟨some 59, (some (56, false)), .mov (.t 1)⟩,
 ⟨some 60, (some (56, false)), .ncall true 0 28 [(.t 58), (.t 59)]⟩,
 ⟨some 61, (some (56, false)), .aeq true [.i, .i] (.t 57) (.t 60)⟩,
 ⟨some 62, none, .pick (.t 56) (.c (.bool true)) (.t 61)⟩,
 ⟨some 63, none, .mov (.t 62)⟩,
 ⟨some 64, (some (63, false)), .faddr 0 (.t 5)⟩,
 ⟨some 65, (some (63, false)), .load false 1 (.t 64)⟩,
 ⟨some 66, (some (63, false)), .faddr 1 (.t 5)⟩,
 ⟨some 67, (some (63, false)), .load false 1 (.t 66)⟩,
 ⟨some 68, (some (63, false)), .bin .gtr (.t 65) (.t 67)⟩,
 ⟨some 69, none, .pick (.t 63) (.c (.bool true)) (.t 68)⟩]) (
 .gh [.keep [0, 1, 5, 69]] (
 .cond (.t 69) (
 .seq (
 .reg none [
 ⟨some 4, none, .mov (.c (.bool false))⟩]) (
 .ret)) (
 .skip)))) (
 .seq (
 .seq (
 .reg none [
 ⟨some 8, none, .mov (.c (.int .i64 0))⟩]) (
 .block 0 (
 .loop b4_0))) (
 .seq (
 .reg none [
 ⟨some 4, none, .mov (.c (.bool true))⟩]) (
 .ret)))))))))))))
def a4 : AFunc := ⟨105, c4, [.tmp 4]⟩
/-! 5 cassegrain/cassegrainlaw06.FramePacks params [23, 52, 27] nfree 0 ntmps 144 -/
def l5_0 : ACode :=
 .seq (
 .seq (
 .reg none [
 ⟨some 19, none, .mov (.t 7)⟩,
 ⟨some 20, none, .mov (.t 2)⟩,
 ⟨some 21, none, .len (.t 20)⟩,
 ⟨some 22, none, .bin .lss (.t 19) (.t 21)⟩]) (
 .cond (.t 22) (
 .skip) (
 .exit 0))) (
 .seq (
 .block 1 (
 .seq (
 .reg (some [(4, 6), (4, 7), (4, 8), (4, 9)]) [
 ⟨some 25, none, .mov (.t 2)⟩,
 ⟨some 26, none, .mov (.t 7)⟩,
 ⟨some 27, none, .iaddr 3 (.t 25) (.t 26)⟩,
 ⟨some 28, none, .load true 3 (.t 27)⟩,
 ⟨some 29, none, .ncall true 5030 31 [(.t 28)]⟩,
 ⟨some 30, none, .ncall true 0 30 [(.t 29)]⟩,
 ⟨some 31, none, .mov (.t 2)⟩,
 ⟨some 32, none, .mov (.t 7)⟩,
 ⟨some 33, none, .iaddr 3 (.t 31) (.t 32)⟩,
 ⟨some 34, none, .load true 3 (.t 33)⟩,
 ⟨some 35, none, .ncall true 0 32 [(.t 34)]⟩,
 ⟨some 36, none, .bin .neq (.t 30) (.t 35)⟩]) (
 .gh [.keep [2, 3, 4, 7, 36]] (
 .cond (.t 36) (
 .seq (
 .reg none [
 ⟨some 6, none, .mov (.c (.bool false))⟩]) (
 .ret)) (
 .skip))))) (
 .reg none [
 ⟨some 23, none, .mov (.t 7)⟩,
 ⟨some 24, none, .bin .add (.t 23) (.c (.int .i64 1))⟩,
 ⟨some 7, none, .mov (.t 24)⟩]))
def b5_0 : ACode := .gh [.keep [2, 3, 4, 7]] (.gh [] l5_0)
def k5_0 : List AItem := .inLoop b5_0 :: [.inBlock 0,
 .code (.seq (
 .reg (some [(0, 2)]) [
 ⟨some 38, none, .load true 2 (.t 3)⟩,
 ⟨some 39, none, .mov (.t 2)⟩,
 ⟨some 40, none, .ncall true 5041 34 [(.t 39)]⟩,
 ⟨some 41, none, .ncall true 0 33 [(.t 38), (.t 40)]⟩,
 ⟨some 37, none, .mov (.t 41)⟩,
 ⟨some 42, none, .ext 0 (.t 37)⟩,
 ⟨some 43, none, .ext 1 (.t 37)⟩,
 ⟨some 8, none, .mov (.t 42)⟩,
 ⟨some 9, none, .mov (.t 43)⟩]) (
 .gh [.keep [2, 3, 4, 8, 9]] (
 .seq (
 .reg (some [(0, 3), (1, 3)]) [
 ⟨some 45, none, .load true 2 (.t 3)⟩,
 ⟨some 46, none, .load true 2 (.t 4)⟩,
 ⟨some 47, none, .mov (.t 2)⟩,
 ⟨some 48, none, .ncall true 5049 34 [(.t 47)]⟩,
 ⟨some 49, none, .ncall true 5050 35 [(.t 45), (.t 46), (.t 48)]⟩,
 ⟨some 44, none, .mov (.t 49)⟩,
 ⟨some 50, none, .ext 0 (.t 44)⟩,
 ⟨some 51, none, .ext 1 (.t 44)⟩,
 ⟨some 10, none, .mov (.t 50)⟩,
 ⟨some 11, none, .mov (.t 51)⟩]) (
 .gh [.keep [2, 3, 4, 8, 9, 10, 11]] (
 .seq (
 .reg none [
 ⟨some 52, none, .load true 2 (.t 3)⟩,
 ⟨some 53, none, .ncall true 0 18 [(.t 52)]⟩,
 ⟨some 12, none, .mov (.t 53)⟩]) (
 .seq (
 .seq (
 .reg none [
 ⟨some 54, none, .mov (.t 12)⟩,
 ⟨some 55, none, .bin .neq (.t 54) (.c (.int .i64 0))⟩]) (
 .cond (.t 55) (
 .seq (
 .reg none [
 ⟨some 56, none, .mov (.t 9)⟩,
 ⟨some 57, none, .mov (.t 12)⟩,
 ⟨some 58, none, .bin .eql (.t 56) (.t 57)⟩,
 ⟨some 59, none, .mov (.t 58)⟩,
 ⟨some 60, (some (59, true)), .mov (.t 11)⟩,
 ⟨some 61, (some (59, true)), .mov (.t 12)⟩,
 ⟨some 62, (some (59, true)), .bin .eql (.t 60) (.t 61)⟩,
 ⟨some 63, none, .pick (.t 59) (.t 62) (.c (.bool false))⟩,
 ⟨some 64, none, .mov (.t 63)⟩,
 ⟨some 65, (some (64, true)), .mov (.t 8)⟩,
 ⟨some 66, (some (64, true)), .bin .eql (.t 65) (.c (.int .i64 0))⟩,
 ⟨some 67, none, .pick (.t 64) (.t 66) (.c (.bool false))⟩,
 ⟨some 68, none, .mov (.t 67)⟩,
 ⟨some 69, (some (68, true)), .mov (.t 10)⟩,
 ⟨some 70, (some (68, true)), .len (.t 69)⟩,
 ⟨some 71, (some (68, true)), .bin .eql (.t 70) (.c (.int .i64 0))⟩,
 ⟨some 72, none, .pick (.t 68) (.t 71) (.c (.bool false))⟩,
 ⟨some 6, none, .mov (.t 72)⟩]) (
 .gh [.keep [6]] (
 .ret))) (
 .skip))) (
 .seq (
 .reg none [
 ⟨some 73, none, .mov (.t 2)⟩,
 ⟨some 74, none, .ncall true 0 36 [(.t 73)]⟩,
 ⟨some 13, none, .mov (.t 74)⟩]) (
 .seq (
 .seq (
 .reg none [
 ⟨some 75, none, .mov (.t 13)⟩,
 ⟨some 76, none, .bin .neq (.t 75) (.c (.int .i64 0))⟩,
 ⟨some 77, none, .mov (.t 76)⟩,
 ⟨some 78, (some (77, true)), .mov (.t 9)⟩,
 ⟨some 79, (some (77, true)), .mov (.t 13)⟩,
 ⟨some 80, (some (77, true)), .bin .neq (.t 78) (.t 79)⟩,
 ⟨some 81, (some (77, true)), .mov (.t 80)⟩,
 ⟨some 82, (some (81, false)), .mov (.t 8)⟩,
 ⟨some 83, (some (81, false)), .bin .neq (.t 82) (.c (.int .i64 0))⟩,
 ⟨some 84, (some (77, true)), .pick (.t 81) (.c (.bool true)) (.t 83)⟩,
 ⟨some 85, none, .pick (.t 77) (.t 84) (.c (.bool false))⟩,
 ⟨some 86, none, .mov (.t 85)⟩,
 ⟨some 87, (some (86, false)), .mov (.t 13)⟩,
 ⟨some 88, (some (86, false)), .bin .eql (.t 87) (.c (.int .i64 0))⟩,
 ⟨some 89, (some (86, false)), .mov (.t 88)⟩,
 ⟨some 90, (some (89, true)), .mov (.t 9)⟩,
 ⟨some 91, (some (89, true)), .bin .neq (.t 90) (.c (.int .i64 0))⟩,
 ⟨some 92, (some (89, true)), .mov (.t 91)⟩,
 ⟨some 93, (some (92, false)), .mov (.t 8)⟩,
 ⟨some 94, (some (92, false)), .load true 2 (.t 3)⟩,
 ⟨some 95, (some (92, false)), .mov (.t 2)⟩,
 ⟨some 96, (some (92, false)), .ncall true 0 37 [(.t 94), (.t 95)]⟩,
 ⟨some 97, (some (92, false)), .bin .neq (.t 93) (.t 96)⟩,
 ⟨some 98, (some (89, true)), .pick (.t 92) (.c (.bool true)) (.t 97)⟩,
 ⟨some 99, (some (86, false)), .pick (.t 89) (.t 98) (.c (.bool false))⟩,
 ⟨some 100, none, .pick (.t 86) (.c (.bool true)) (.t 99)⟩]) (
 .gh [.keep [2, 3, 4, 10, 11, 13, 100]] (
 .cond (.t 100) (
 .seq (
 .reg none [
 ⟨some 6, none, .mov (.c (.bool false))⟩]) (
 .ret)) (
 .skip)))) (
 .seq (
 .reg none [
 ⟨some 101, none, .load true 2 (.t 3)⟩,
 ⟨some 102, none, .faddr 0 (.t 4)⟩,
 ⟨some 103, none, .load false 1 (.t 102)⟩,
 ⟨some 104, none, .ncall true 0 19 [(.t 101), (.t 103)]⟩,
 ⟨some 12, none, .mov (.t 104)⟩]) (
 .seq (
 .seq (
 .reg none [
 ⟨some 105, none, .mov (.t 12)⟩,
 ⟨some 106, none, .bin .eql (.t 105) (.c (.int .i64 0))⟩,
 ⟨some 107, none, .mov (.t 106)⟩,
 ⟨some 108, (some (107, true)), .faddr 1 (.t 4)⟩,
 ⟨some 109, (some (107, true)), .load false 1 (.t 108)⟩,
 ⟨some 110, (some (107, true)), .ncall true 0 27 [(.t 109), (.c (.int .i64 0)), (.c (.int .i64 63))]⟩,
 ⟨some 111, (some (107, true)), .not (.t 110)⟩,
 ⟨some 112, none, .pick (.t 107) (.t 111) (.c (.bool false))⟩]) (
 .gh [.keep [2, 3, 4, 10, 11, 12, 13, 112]] (
 .cond (.t 112) (
 .reg none [
 ⟨some 12, none, .mov (.c (.int .i64 2))⟩]) (
 .skip)))) (
 .seq (
 .seq (
 .reg none [
 ⟨some 113, none, .mov (.t 12)⟩,
 ⟨some 114, none, .bin .eql (.t 113) (.c (.int .i64 0))⟩]) (
 .cond (.t 114) (
 .reg none [
 ⟨some 115, none, .mov (.t 13)⟩,
 ⟨some 12, none, .mov (.t 115)⟩]) (
 .skip))) (
 .seq (
 .seq (
 .reg none [
 ⟨some 116, none, .mov (.t 12)⟩,
 ⟨some 117, none, .bin .eql (.t 116) (.c (.int .i64 0))⟩,
 ⟨some 118, none, .mov (.t 117)⟩,
 ⟨some 119, (some (118, true)), .load true 2 (.t 3)⟩,
 ⟨some 120, (some (118, true)), .mov (.t 2)⟩,
 ⟨some 121, (some (118, true)), .ncall true 0 37 [(.t 119), (.t 120)]⟩,
 ⟨some 122, (some (118, true)), .bin .gtr (.t 121) (.c (.int .i64 40))⟩,
 ⟨some 123, none, .pick (.t 118) (.t 122) (.c (.bool false))⟩]) (
 .gh [.keep [2, 3, 4, 10, 11, 12, 123]] (
 .cond (.t 123) (
 .reg none [
 ⟨some 12, none, .mov (.c (.int .i64 8))⟩]) (
 .skip)))) (
 .seq (
 .seq (
 .reg none [
 ⟨some 124, none, .mov (.t 12)⟩,
 ⟨some 125, none, .bin .neq (.t 124) (.c (.int .i64 0))⟩]) (
 .cond (.t 125) (
 .seq (
 .reg none [
 ⟨some 126, none, .mov (.t 11)⟩,
 ⟨some 127, none, .mov (.t 12)⟩,
 ⟨some 128, none, .bin .eql (.t 126) (.t 127)⟩,
 ⟨some 129, none, .mov (.t 128)⟩,
 ⟨some 130, (some (129, true)), .mov (.t 10)⟩,
 ⟨some 131, (some (129, true)), .len (.t 130)⟩,
 ⟨some 132, (some (129, true)), .bin .eql (.t 131) (.c (.int .i64 0))⟩,
 ⟨some 133, none, .pick (.t 129) (.t 132) (.c (.bool false))⟩,
 ⟨some 6, none, .mov (.t 133)⟩]) (
 .gh [.keep [6]] (
 .ret))) (
 .skip))) (
 .seq (
 .reg none [
 ⟨some 134, none, .mov (.t 11)⟩,
 ⟨some 135, none, .bin .eql (.t 134) (.c (.int .i64 0))⟩,
 ⟨some 136, none, .mov (.t 135)⟩,
 ⟨some 137, (some (136, true)), .mov (.t 10)⟩,
 ⟨some 138, (some (136, true)), .load true 2 (.t 3)⟩,
 ⟨some 139, (some (136, true)), .load true 2 (.t 4)⟩,
 ⟨some 140, (some (136, true)), .mov (.t 2)⟩,
 ⟨some 141, (some (136, true)), .ncall true 5142 39 [(.t 138), (.t 139), (.t 140)]⟩,
 ⟨some 142, (some (136, true)), .ncall true 0 38 [(.t 137), (.t 141)]⟩,
 ⟨some 143, none, .pick (.t 136) (.t 142) (.c (.bool false))⟩,
 ⟨some 6, none, .mov (.t 143)⟩]) (
 .gh [.keep [6]] (
 .ret))))))))))))))))]
def c5 : ACode :=
 .seq (
 .reg none [
 ⟨some 3, none, .box 5004 23 (.t 0)⟩,
 ⟨some 4, none, .box 5005 52 (.t 1)⟩,
 ⟨some 6, none, .mov (.c (.bool false))⟩]) (
 .seq (
 .seq (
 .reg none [
 ⟨some 14, none, .ncall true 0 14 []⟩,
 ⟨some 15, none, .not (.t 14)⟩]) (
 .cond (.t 15) (
 .seq (
 .reg none [
 ⟨some 6, none, .mov (.c (.bool false))⟩]) (
 .ret)) (
 .skip))) (
 .seq (
 .seq (
 .reg none [
 ⟨some 16, none, .mov (.t 2)⟩,
 ⟨some 17, none, .ncall true 0 29 [(.t 16)]⟩,
 ⟨some 18, none, .not (.t 17)⟩]) (
 .cond (.t 18) (
 .seq (
 .reg none [
 ⟨some 6, none, .mov (.c (.bool true))⟩]) (
 .ret)) (
 .skip))) (
 .seq (
 .seq (
 .reg none [
 ⟨some 7, none, .mov (.c (.int .i64 0))⟩]) (
 .block 0 (
 .loop b5_0))) (
 .seq (
 .reg (some [(0, 2)]) [
 ⟨some 38, none, .load true 2 (.t 3)⟩,
 ⟨some 39, none, .mov (.t 2)⟩,
 ⟨some 40, none, .ncall true 5041 34 [(.t 39)]⟩,
 ⟨some 41, none, .ncall true 0 33 [(.t 38), (.t 40)]⟩,
 ⟨some 37, none, .mov (.t 41)⟩,
 ⟨some 42, none, .ext 0 (.t 37)⟩,
 ⟨some 43, none, .ext 1 (.t 37)⟩,
 ⟨some 8, none, .mov (.t 42)⟩,
 ⟨some 9, none, .mov (.t 43)⟩]) (
 .gh [.keep [2, 3, 4, 8, 9]] (
 .seq (
 .reg (some [(0, 3), (1, 3)]) [
 ⟨some 45, none, .load true 2 (.t 3)⟩,
 ⟨some 46, none, .load true 2 (.t 4)⟩,
 ⟨some 47, none, .mov (.t 2)⟩,
 ⟨some 48, none, .ncall true 5049 34 [(.t 47)]⟩,
 ⟨some 49, none, .ncall true 5050 35 [(.t 45), (.t 46), (.t 48)]⟩,
 ⟨some 44, none, .mov (.t 49)⟩,
 ⟨some 50, none, .ext 0 (.t 44)⟩,
 ⟨some 51, none, .ext 1 (.t 44)⟩,
 ⟨some 10, none, .mov (.t 50)⟩,
 ⟨some 11, none, .mov (.t 51)⟩]) (
 .gh [.keep [2, 3, 4, 8, 9, 10, 11]] (
 .seq (
 .reg none [
 ⟨some 52, none, .load true 2 (.t 3)⟩,
 ⟨some 53, none, .ncall true 0 18 [(.t 52)]⟩,
 ⟨some 12, none, .mov (.t 53)⟩]) (
 .seq (
 .seq (
 .reg none [
 ⟨some 54, none, .mov (.t 12)⟩,
 ⟨some 55, none, .bin .neq (.t 54) (.c (.int .i64 0))⟩]) (
 .cond (.t 55) (
 .seq (
 .reg none [
 ⟨some 56, none, .mov (.t 9)⟩,
 ⟨some 57, none, .mov (.t 12)⟩,
 ⟨some 58, none, .bin .eql (.t 56) (.t 57)⟩,
 ⟨some 59, none, .mov (.t 58)⟩,
 ⟨some 60, (some (59, true)), .mov (.t 11)⟩,
 ⟨some 61, (some (59, true)), .mov (.t 12)⟩,
 ⟨some 62, (some (59, true)), .bin .eql (.t 60) (.t 61)⟩,
 ⟨some 63, none, .pick (.t 59) (.t 62) (.c (.bool false))⟩,
 ⟨some 64, none, .mov (.t 63)⟩,
 ⟨some 65, (some (64, true)), .mov (.t 8)⟩,
 ⟨some 66, (some (64, true)), .bin .eql (.t 65) (.c (.int .i64 0))⟩,
 ⟨some 67, none, .pick (.t 64) (.t 66) (.c (.bool false))⟩,
 ⟨some 68, none, .mov (.t 67)⟩,
 ⟨some 69, (some (68, true)), .mov (.t 10)⟩,
 ⟨some 70, (some (68, true)), .len (.t 69)⟩,
 ⟨some 71, (some (68, true)), .bin .eql (.t 70) (.c (.int .i64 0))⟩,
 ⟨some 72, none, .pick (.t 68) (.t 71) (.c (.bool false))⟩,
 ⟨some 6, none, .mov (.t 72)⟩]) (
 .gh [.keep [6]] (
 .ret))) (
 .skip))) (
 .seq (
 .reg none [
 ⟨some 73, none, .mov (.t 2)⟩,
 ⟨some 74, none, .ncall true 0 36 [(.t 73)]⟩,
 ⟨some 13, none, .mov (.t 74)⟩]) (
 .seq (
 .seq (
 .reg none [
 ⟨some 75, none, .mov (.t 13)⟩,
 ⟨some 76, none, .bin .neq (.t 75) (.c (.int .i64 0))⟩,
 ⟨some 77, none, .mov (.t 76)⟩,
 ⟨some 78, (some (77, true)), .mov (.t 9)⟩,
 ⟨some 79, (some (77, true)), .mov (.t 13)⟩,
 ⟨some 80, (some (77, true)), .bin .neq (.t 78) (.t 79)⟩,
 ⟨some 81, (some (77, true)), .mov (.t 80)⟩,
 ⟨some 82, (some (81, false)), .mov (.t 8)⟩,
 ⟨some 83, (some (81, false)), .bin .neq (.t 82) (.c (.int .i64 0))⟩,
 ⟨some 84, (some (77, true)), .pick (.t 81) (.c (.bool true)) (.t 83)⟩,
 ⟨some 85, none, .pick (.t 77) (.t 84) (.c (.bool false))⟩,
 ⟨some 86, none, .mov (.t 85)⟩,
 ⟨some 87, (some (86, false)), .mov (.t 13)⟩,
 ⟨some 88, (some (86, false)), .bin .eql (.t 87) (.c (.int .i64 0))⟩,
 ⟨some 89, (some (86, false)), .mov (.t 88)⟩,
 ⟨some 90, (some (89, true)), .mov (.t 9)⟩,
 ⟨some 91, (some (89, true)), .bin .neq (.t 90) (.c (.int .i64 0))⟩,
 ⟨some 92, (some (89, true)), .mov (.t 91)⟩,
 ⟨some 93, (some (92, false)), .mov (.t 8)⟩,
 ⟨some 94, (some (92, false)), .load true 2 (.t 3)⟩,
 ⟨some 95, (some (92, false)), .mov (.t 2)⟩,
 ⟨some 96, (some (92, false)), .ncall true 0 37 [(.t 94), (.t 95)]⟩,
 ⟨some 97, (some (92, false)), .bin .neq (.t 93) (.t 96)⟩,
 ⟨some 98, (some (89, true)), .pick (.t 92) (.c (.bool true)) (.t 97)⟩,
 ⟨some 99, (some (86, false)), .pick (.t 89) (.t 98) (.c (.bool false))⟩,
 ⟨some 100, none, .pick (.t 86) (.c (.bool true)) (.t 99)⟩]) (
 .gh [.keep [2, 3, 4, 10, 11, 13, 100]] (
 .cond (.t 100) (
 .seq (
 .reg none [
 ⟨some 6, none, .mov (.c (.bool false))⟩]) (
 .ret)) (
 .skip)))) (
 .seq (
 .reg none [
 ⟨some 101, none, .load true 2 (.t 3)⟩,
 ⟨some 102, none, .faddr 0 (.t 4)⟩,
 ⟨some 103, none, .load false 1 (.t 102)⟩,
 ⟨some 104, none, .ncall true 0 19 [(.t 101), (.t 103)]⟩,
 ⟨some 12, none, .mov (.t 104)⟩]) (
 .seq (
 .seq (
 .reg none [
 ⟨some 105, none, .mov (.t 12)⟩,
 ⟨some 106, none, .bin .eql (.t 105) (.c (.int .i64 0))⟩,
 ⟨some 107, none, .mov (.t 106)⟩,
 ⟨some 108, (some (107, true)), .faddr 1 (.t 4)⟩,
 ⟨some 109, (some (107, true)), .load false 1 (.t 108)⟩,
 ⟨some 110, (some (107, true)), .ncall true 0 27 [(.t 109), (.c (.int .i64 0)), (.c (.int .i64 63))]⟩,
 ⟨some 111, (some (107, true)), .not (.t 110)⟩,
 ⟨some 112, none, .pick (.t 107) (.t 111) (.c (.bool false))⟩]) (
 .gh [.keep [2, 3, 4, 10, 11, 12, 13, 112]] (
 .cond (.t 112) (
 .reg none [
 ⟨some 12, none, .mov (.c (.int .i64 2))⟩]) (
 .skip)))) (
 .seq (
 .seq (
 .reg none [
 ⟨some 113, none, .mov (.t 12)⟩,
 ⟨some 114, none, .bin .eql (.t 113) (.c (.int .i64 0))⟩]) (
 .cond (.t 114) (
 .reg none [
 ⟨some 115, none, .mov (.t 13)⟩,
 ⟨some 12, none, .mov (.t 115)⟩]) (
 .skip))) (
 .seq (
 .seq (
 .reg none [
 ⟨some 116, none, .mov (.t 12)⟩,
 ⟨some 117, none, .bin .eql (.t 116) (.c (.int .i64 0))⟩,
 ⟨some 118, none, .mov (.t 117)⟩,
 ⟨some 119, (some (118, true)), .load true 2 (.t 3)⟩,
 ⟨some 120, (some (118, true)), .mov (.t 2)⟩,
 ⟨some 121, (some (118, true)), .ncall true 0 37 [(.t 119), (.t 120)]⟩,
 ⟨some 122, (some (118, true)), .bin .gtr (.t 121) (.c (.int .i64 40))⟩,
 ⟨some 123, none, .pick (.t 118) (.t 122) (.c (.bool false))⟩]) (
 .gh [.keep [2, 3, 4, 10, 11, 12, 123]] (
 .cond (.t 123) (
 .reg none [
 ⟨some 12, none, .mov (.c (.int .i64 8))⟩]) (
 .skip)))) (
 .seq (
 .seq (
 .reg none [
 ⟨some 124, none, .mov (.t 12)⟩,
 ⟨some 125, none, .bin .neq (.t 124) (.c (.int .i64 0))⟩]) (
 .cond (.t 125) (
 .seq (
 .reg none [
 ⟨some 126, none, .mov (.t 11)⟩,
 ⟨some 127, none, .mov (.t 12)⟩,
 ⟨some 128, none, .bin .eql (.t 126) (.t 127)⟩,
 ⟨some 129, none, .mov (.t 128)⟩,
 ⟨some 130, (some (129, true)), .mov (.t 10)⟩,
 ⟨some 131, (some (129, true)), .len (.t 130)⟩,
 ⟨some 132, (some (129, true)), .bin .eql (.t 131) (.c (.int .i64 0))⟩,
 ⟨some 133, none, .pick (.t 129) (.t 132) (.c (.bool false))⟩,
 ⟨some 6, none, .mov (.t 133)⟩]) (
 .gh [.keep [6]] (
 .ret))) (
 .skip))) (
 .seq (
 .reg none [
 ⟨some 134, none, .mov (.t 11)⟩,
 ⟨some 135, none, .bin .eql (.t 134) (.c (.int .i64 0))⟩,
 ⟨some 136, none, .mov (.t 135)⟩,
 ⟨some 137, (some (136, true)), .mov (.t 10)⟩,
 ⟨some 138, (some (136, true)), .load true 2 (.t 3)⟩,
 ⟨some 139, (some (136, true)), .load true 2 (.t 4)⟩,
 ⟨some 140, (some (136, true)), .mov (.t 2)⟩,
 ⟨some 141, (some (136, true)), .ncall true 5142 39 [(.t 138), (.t 139), (.t 140)]⟩,
 ⟨some 142, (some (136, true)), .ncall true 0 38 [(.t 137), (.t 141)]⟩,
 ⟨some 143, none, .pick (.t 136) (.t 142) (.c (.bool false))⟩,
 ⟨some 6, none, .mov (.t 143)⟩]) (
 .gh [.keep [6]] (
 .ret)))))))))))))))))))
def a5 : AFunc := ⟨144, c5, [.tmp 6]⟩
/-! 6 cassegrain/cassegrainlaw06.FrameWhole params [23, 72] nfree 0 ntmps 197 -/
def l6_1 : ACode :=
 .seq (
 .seq (
 .reg none [
 ⟨some 150, none, .mov (.t 17)⟩,
 ⟨some 151, none, .mov (.t 15)⟩,
 ⟨some 152, none, .bin .sub (.t 151) (.c (.int .i64 1))⟩,
 ⟨some 153, none, .faddr 0 (.t 2)⟩,
 ⟨some 154, none, .load false 1 (.t 153)⟩,
 ⟨some 155, none, .bin .quo (.t 152) (.t 154)⟩,
 ⟨some 156, none, .bin .leq (.t 150) (.t 155)⟩]) (
 .gh [.keep [2, 3, 9, 11, 13, 14, 15, 16, 17, 156]] (
 .cond (.t 156) (
 .skip) (
 .exit 4)))) (
 .seq (
 .block 5 (
 .reg none [
 ⟨some 159, none, .mov (.t 16)⟩,
 ⟨some 160, none, .mov (.t 159)⟩,
 ⟨some 161, (some (160, true)), .mov (.t 17)⟩,
 ⟨some 162, (some (160, true)), .faddr 3 (.t 3)⟩,
 ⟨some 163, (some (160, true)), .load false 1 (.t 162)⟩,
 ⟨some 164, (some (160, true)), .len (.t 163)⟩,
 ⟨some 165, (some (160, true)), .bin .geq (.t 161) (.t 164)⟩,
 ⟨some 166, (some (160, true)), .mov (.t 165)⟩,
 ⟨some 167, (some (166, false)), .faddr 3 (.t 3)⟩,
 ⟨some 168, (some (166, false)), .load false 1 (.t 167)⟩,
 ⟨some 169, (some (166, false)), .mov (.t 17)⟩,
 ⟨some 170, (some (166, false)), .iaddr 1 (.t 168) (.t 169)⟩,
 ⟨some 171, (some (166, false)), .load false 1 (.t 170)⟩,
 ⟨some 172, (some (166, false)), .not (.t 171)⟩,
 ⟨some 173, (some (160, true)), .pick (.t 166) (.c (.bool true)) (.t 172)⟩,
 ⟨some 174, none, .pick (.t 160) (.t 173) (.c (.bool false))⟩,
 ⟨some 16, none, .mov (.t 174)⟩])) (
 .reg none [
 ⟨some 157, none, .mov (.t 17)⟩,
 ⟨some 158, none, .bin .add (.t 157) (.c (.int .i64 1))⟩,
 ⟨some 17, none, .mov (.t 158)⟩]))
def b6_1 : ACode := .gh [.keep [2, 3, 9, 11, 13, 14, 15, 16, 17]] (.gh [] l6_1)
def l6_0 : ACode :=
 .seq (
 .seq (
 .reg none [
 ⟨some 125, none, .mov (.t 13)⟩,
 ⟨some 126, none, .faddr 2 (.t 3)⟩,
 ⟨some 127, none, .load false 1 (.t 126)⟩,
 ⟨some 128, none, .len (.t 127)⟩,
 ⟨some 129, none, .bin .lss (.t 125) (.t 128)⟩]) (
 .cond (.t 129) (
 .skip) (
 .exit 2))) (
 .seq (
 .block 3 (
 .seq (
 .reg none [
 ⟨some 132, none, .faddr 2 (.t 3)⟩,
 ⟨some 133, none, .load false 1 (.t 132)⟩,
 ⟨some 134, none, .mov (.t 13)⟩,
 ⟨some 135, none, .iaddr 3 (.t 133) (.t 134)⟩,
 ⟨some 136, none, .load true 3 (.t 135)⟩,
 ⟨some 14, none, .alloc 6015 57 (.agg (.gen [(.int .i64 0), (.int .i64 0), .nils]))⟩,
 ⟨none, none, .store 3 (.t 14) (.t 136)⟩]) (
 .seq (
 .reg none [
 ⟨some 137, none, .mov (.t 12)⟩,
 ⟨some 138, none, .bin .add (.t 137) (.c (.int .i64 3))⟩,
 ⟨some 139, none, .faddr 2 (.t 14)⟩,
 ⟨some 140, none, .load false 1 (.t 139)⟩,
 ⟨some 141, none, .len (.t 140)⟩,
 ⟨some 142, none, .bin .add (.t 138) (.t 141)⟩,
 ⟨some 15, none, .mov (.t 142)⟩]) (
 .gh [.keep [2, 3, 9, 11, 12, 13, 14, 15]] (
 .seq (
 .reg none [
 ⟨some 143, none, .faddr 0 (.t 14)⟩,
 ⟨some 144, none, .load false 1 (.t 143)⟩,
 ⟨some 145, none, .bin .neq (.t 144) (.c (.int .i64 255))⟩,
 ⟨some 16, none, .mov (.t 145)⟩]) (
 .seq (
 .seq (
 .reg none [
 ⟨some 146, none, .mov (.t 12)⟩,
 ⟨some 147, none, .faddr 0 (.t 2)⟩,
 ⟨some 148, none, .load false 1 (.t 147)⟩,
 ⟨some 149, none, .bin .quo (.t 146) (.t 148)⟩,
 ⟨some 17, none, .mov (.t 149)⟩]) (
 .block 4 (
 .loop b6_1))) (
 .seq (
 .seq (
 .reg none [
 ⟨some 175, none, .mov (.t 16)⟩]) (
 .cond (.t 175) (
 .reg none [
 ⟨some 176, none, .mov (.t 11)⟩,
 ⟨some 177, none, .load true 3 (.t 14)⟩,
 ⟨some 178, none, .bslice 6179 57 3 [(.t 177)]⟩,
 ⟨some 179, none, .append 6180 57 3 (.t 176) (.t 178)⟩,
 ⟨some 11, none, .mov (.t 179)⟩]) (
 .skip))) (
 .reg none [
 ⟨some 180, none, .mov (.t 15)⟩,
 ⟨some 12, none, .mov (.t 180)⟩])))))))) (
 .reg none [
 ⟨some 130, none, .mov (.t 13)⟩,
 ⟨some 131, none, .bin .add (.t 130) (.c (.int .i64 1))⟩,
 ⟨some 13, none, .mov (.t 131)⟩]))
def b6_0 : ACode := .gh [.keep [2, 3, 9, 11, 12, 13]] (.gh [] l6_0)
def l6_2 : ACode :=
 .seq (
 .seq (
 .reg none [
 ⟨some 98, none, .mov (.t 10)⟩,
 ⟨some 99, none, .mov (.t 7)⟩,
 ⟨some 100, none, .len (.t 99)⟩,
 ⟨some 101, none, .bin .lss (.t 98) (.t 100)⟩]) (
 .cond (.t 101) (
 .skip) (
 .exit 0))) (
 .seq (
 .block 1 (
 .seq (
 .reg none [
 ⟨some 104, none, .mov (.t 10)⟩,
 ⟨some 105, none, .faddr 3 (.t 3)⟩,
 ⟨some 106, none, .load false 1 (.t 105)⟩,
 ⟨some 107, none, .len (.t 106)⟩,
 ⟨some 108, none, .bin .geq (.t 104) (.t 107)⟩,
 ⟨some 109, none, .mov (.t 108)⟩,
 ⟨some 110, (some (109, false)), .faddr 3 (.t 3)⟩,
 ⟨some 111, (some (109, false)), .load false 1 (.t 110)⟩,
 ⟨some 112, (some (109, false)), .mov (.t 10)⟩,
 ⟨some 113, (some (109, false)), .iaddr 1 (.t 111) (.t 112)⟩,
 ⟨some 114, (some (109, false)), .load false 1 (.t 113)⟩,
 ⟨some 115, (some (109, false)), .not (.t 114)⟩,
 ⟨some 116, none, .pick (.t 109) (.c (.bool true)) (.t 115)⟩]) (
 .gh [.keep [2, 3, 7, 9, 10, 116]] (
 .cond (.t 116) (
 .reg none [
 ⟨some 117, none, .mov (.t 9)⟩,
 ⟨some 118, none, .mov (.t 7)⟩,
 ⟨some 119, none, .mov (.t 10)⟩,
 ⟨some 120, none, .iaddr 4 (.t 118) (.t 119)⟩,
 ⟨some 121, none, .load true 4 (.t 120)⟩,
 ⟨some 122, none, .ncall true 6123 40 [(.t 121)]⟩,
 ⟨some 123, none, .bslice 6124 74 4 [(.t 122)]⟩,
 ⟨some 124, none, .append 6125 74 4 (.t 117) (.t 123)⟩,
 ⟨some 9, none, .mov (.t 124)⟩]) (
 .skip))))) (
 .reg none [
 ⟨some 102, none, .mov (.t 10)⟩,
 ⟨some 103, none, .bin .add (.t 102) (.c (.int .i64 1))⟩,
 ⟨some 10, none, .mov (.t 103)⟩]))
def b6_2 : ACode := .gh [.keep [2, 3, 7, 9, 10]] (.gh [] l6_2)
def k6_1 : List AItem := .inLoop b6_1 :: [.inBlock 4,
 .code (.seq (
 .seq (
 .reg none [
 ⟨some 175, none, .mov (.t 16)⟩]) (
 .cond (.t 175) (
 .reg none [
 ⟨some 176, none, .mov (.t 11)⟩,
 ⟨some 177, none, .load true 3 (.t 14)⟩,
 ⟨some 178, none, .bslice 6179 57 3 [(.t 177)]⟩,
 ⟨some 179, none, .append 6180 57 3 (.t 176) (.t 178)⟩,
 ⟨some 11, none, .mov (.t 179)⟩]) (
 .skip))) (
 .reg none [
 ⟨some 180, none, .mov (.t 15)⟩,
 ⟨some 12, none, .mov (.t 180)⟩])),
 .inBlock 3,
 .code (.reg none [
 ⟨some 130, none, .mov (.t 13)⟩,
 ⟨some 131, none, .bin .add (.t 130) (.c (.int .i64 1))⟩,
 ⟨some 13, none, .mov (.t 131)⟩]),
 .inLoop b6_0,
 .inBlock 2,
 .code (.seq (
 .reg none [
 ⟨some 182, none, .load true 2 (.t 2)⟩,
 ⟨some 183, none, .faddr 0 (.t 3)⟩,
 ⟨some 184, none, .faddr 0 (.t 183)⟩,
 ⟨some 185, none, .load false 1 (.t 184)⟩,
 ⟨some 186, none, .mov (.t 9)⟩,
 ⟨some 187, none, .ncall true 6188 16 [(.t 182), (.t 185), (.t 186)]⟩,
 ⟨some 181, none, .mov (.t 187)⟩,
 ⟨some 188, none, .ext 0 (.t 181)⟩,
 ⟨some 189, none, .ext 1 (.t 181)⟩,
 ⟨some 18, none, .mov (.t 188)⟩,
 ⟨some 19, none, .mov (.t 189)⟩]) (
 .gh [.keep [11, 18, 19]] (
 .seq (
 .reg none [
 ⟨some 190, none, .mov (.t 19)⟩,
 ⟨some 191, none, .bin .eql (.t 190) (.c (.int .i64 0))⟩,
 ⟨some 192, none, .mov (.t 191)⟩,
 ⟨some 193, (some (192, true)), .mov (.t 18)⟩,
 ⟨some 194, (some (192, true)), .mov (.t 11)⟩,
 ⟨some 195, (some (192, true)), .ncall true 0 21 [(.t 193), (.t 194)]⟩,
 ⟨some 196, none, .pick (.t 192) (.t 195) (.c (.bool false))⟩,
 ⟨some 4, none, .mov (.t 196)⟩]) (
 .gh [.keep [4]] (
 .ret)))))]
def k6_0 : List AItem := .inLoop b6_0 :: [.inBlock 2,
 .code (.seq (
 .reg none [
 ⟨some 182, none, .load true 2 (.t 2)⟩,
 ⟨some 183, none, .faddr 0 (.t 3)⟩,
 ⟨some 184, none, .faddr 0 (.t 183)⟩,
 ⟨some 185, none, .load false 1 (.t 184)⟩,
 ⟨some 186, none, .mov (.t 9)⟩,
 ⟨some 187, none, .ncall true 6188 16 [(.t 182), (.t 185), (.t 186)]⟩,
 ⟨some 181, none, .mov (.t 187)⟩,
 ⟨some 188, none, .ext 0 (.t 181)⟩,
 ⟨some 189, none, .ext 1 (.t 181)⟩,
 ⟨some 18, none, .mov (.t 188)⟩,
 ⟨some 19, none, .mov (.t 189)⟩]) (
 .gh [.keep [11, 18, 19]] (
 .seq (
 .reg none [
 ⟨some 190, none, .mov (.t 19)⟩,
 ⟨some 191, none, .bin .eql (.t 190) (.c (.int .i64 0))⟩,
 ⟨some 192, none, .mov (.t 191)⟩,
 ⟨some 193, (some (192, true)), .mov (.t 18)⟩,
 ⟨some 194, (some (192, true)), .mov (.t 11)⟩,
 ⟨some 195, (some (192, true)), .ncall true 0 21 [(.t 193), (.t 194)]⟩,
 ⟨some 196, none, .pick (.t 192) (.t 195) (.c (.bool false))⟩,
 ⟨some 4, none, .mov (.t 196)⟩]) (
 .gh [.keep [4]] (
 .ret)))))]
def k6_2 : List AItem := .inLoop b6_2 :: [.inBlock 0,
 .code (.seq (
 .reg none [
 ⟨some 11, none, .mov (.c .nils)⟩]) (
 .seq (
 .reg none [
 ⟨some 12, none, .mov (.c (.int .i64 0))⟩]) (
 .seq (
 .seq (
 .reg none [
 ⟨some 13, none, .mov (.c (.int .i64 0))⟩]) (
 .block 2 (
 .loop b6_0))) (
 .seq (
 .reg none [
 ⟨some 182, none, .load true 2 (.t 2)⟩,
 ⟨some 183, none, .faddr 0 (.t 3)⟩,
 ⟨some 184, none, .faddr 0 (.t 183)⟩,
 ⟨some 185, none, .load false 1 (.t 184)⟩,
 ⟨some 186, none, .mov (.t 9)⟩,
 ⟨some 187, none, .ncall true 6188 16 [(.t 182), (.t 185), (.t 186)]⟩,
 ⟨some 181, none, .mov (.t 187)⟩,
 ⟨some 188, none, .ext 0 (.t 181)⟩,
 ⟨some 189, none, .ext 1 (.t 181)⟩,
 ⟨some 18, none, .mov (.t 188)⟩,
 ⟨some 19, none, .mov (.t 189)⟩]) (
 .gh [.keep [11, 18, 19]] (
 .seq (
 .reg none [
 ⟨some 190, none, .mov (.t 19)⟩,
 ⟨some 191, none, .bin .eql (.t 190) (.c (.int .i64 0))⟩,
 ⟨some 192, none, .mov (.t 191)⟩,
 ⟨some 193, (some (192, true)), .mov (.t 18)⟩,
 ⟨some 194, (some (192, true)), .mov (.t 11)⟩,
 ⟨some 195, (some (192, true)), .ncall true 0 21 [(.t 193), (.t 194)]⟩,
 ⟨some 196, none, .pick (.t 192) (.t 195) (.c (.bool false))⟩,
 ⟨some 4, none, .mov (.t 196)⟩]) (
 .gh [.keep [4]] (
 .ret))))))))]
def c6 : ACode :=
 .seq (
 .reg none [
 ⟨some 2, none, .box 6003 23 (.t 0)⟩,
 ⟨some 3, none, .box 6004 72 (.t 1)⟩,
 ⟨some 4, none, .mov (.c (.bool false))⟩]) (
 .seq (
 .seq (
 .reg none [
 ⟨some 20, none, .ncall true 0 14 []⟩,
 ⟨some 21, none, .not (.t 20)⟩]) (
 .cond (.t 21) (
 .seq (
 .reg none [
 ⟨some 4, none, .mov (.c (.bool false))⟩]) (
 .ret)) (
 .skip))) (
 .seq (
 .seq (
 .reg none [
 ⟨some 22, none, .faddr 2 (.t 3)⟩,
 ⟨some 23, none, .load false 1 (.t 22)⟩,
 ⟨some 24, none, .len (.t 23)⟩,
 ⟨some 25, none, .bin .gtr (.t 24) (.c (.int .i64 12))⟩,
 ⟨some 26, none, .mov (.t 25)⟩,
 ⟨some 27, (some (26, false)), .faddr 2 (.t 3)⟩,
 ⟨some 28, (some (26, false)), .load false 1 (.t 27)⟩,
 ⟨some 29, (some (26, false)), .ncall true 0 29 [(.t 28)]⟩,
 ⟨some 30, (some (26, false)), .not (.t 29)⟩,
 ⟨some 31, none, .pick (.t 26) (.c (.bool true)) (.t 30)⟩,
 ⟨some 32, none, .mov (.t 31)⟩,
 ⟨some 33, (some (32, false)), .load true 2 (.t 2)⟩,
 ⟨some 34, (some (32, false)), .ncall true 0 18 [(.t 33)]⟩,
 ⟨some 35, (some (32, false)), .bin .neq (.t 34) (.c (.int .i64 0))⟩,
 ⟨some 36, none, .pick (.t 32) (.c (.bool true)) (.t 35)⟩,
 ⟨some 37, none, .mov (.t 36)⟩,
 ⟨some 38, (some (37, false)), .load true 2 (.t 2)⟩,
 ⟨some 39, (some (37, false)), .faddr 0 (.t 3)⟩,
 ⟨some 40, (some (37, false)), .faddr 0 (.t 39)⟩,
 ⟨some 41, (some (37, false)), .load false 1 (.t 40)⟩,
 ⟨some 42, (some (37, false)), .ncall true 0 19 [(.t 38), (.t 41)]⟩,
 ⟨some 43, (some (37, false)), .bin .neq (.t 42) (.c (.int .i64 0))⟩,
 ⟨some 44, none, .pick (.t 37) (.c (.bool true)) (.t 43)⟩,
 ⟨some 45, none, .mov (.t 44)⟩,
 ⟨some 46, (some (45, false)), .faddr 0 (.t 3)⟩,
 ⟨some 47, (some (45, false)), .faddr 1 (.t 46)⟩,
 ⟨some 48, (some (45, false)), .load false 1 (.t 47)⟩,
 ⟨some 49, (some (45, false)), .ncall true 0 27 [(.t 48), (.c (.int .i64 0)), (.c (.int .i64 63))]⟩,
 ⟨some 50, (some (45, false)), .not (.t 49)⟩,
 ⟨some 51, none, .pick (.t 45) (.c (.bool true)) (.t 50)⟩,
 ⟨some 52, none, .mov (.t 51)⟩,
 ⟨some 53, (some (52, false)), .faddr 2 (.t 3)⟩,
 ⟨some 54, (some (52, false)), .load false 1 (.t 53)⟩,
 ⟨some 55, (some (52, false)), .ncall true 0 36 [(.t 54)]⟩,
 ⟨some 56, (some (52, false)), .bin .neq (.t 55) (.c (.int .i64 0))⟩,
 ⟨some 57, none, .pick (.t 52) (.c (.bool true)) (.t 56)⟩]) (
 .gh [.keep [2, 3, 57]] (
 .cond (.t 57) (
 .seq (
 .reg none [
 ⟨some 4, none, .mov (.c (.bool true))⟩]) (
 .ret)) (
 .skip)))) (
 .seq (
 .reg (some [(0, 3)]) [
 ⟨some 59, none, .load true 2 (.t 2)⟩,
 ⟨some 60, none, .faddr 2 (.t 3)⟩,
 ⟨some 61, none, .load false 1 (.t 60)⟩,
 ⟨some 62, none, .ncall true 6063 34 [(.t 61)]⟩,
 ⟨some 63, none, .ncall true 0 33 [(.t 59), (.t 62)]⟩,
 ⟨some 58, none, .mov (.t 63)⟩,
 ⟨some 64, none, .ext 0 (.t 58)⟩,
 ⟨some 65, none, .ext 1 (.t 58)⟩,
 ⟨some 5, none, .mov (.t 64)⟩,
 ⟨some 6, none, .mov (.t 65)⟩]) (
 .gh [.keep [2, 3, 5, 6]] (
 .seq (
 .seq (
 .reg none [
 ⟨some 66, none, .mov (.t 6)⟩,
 ⟨some 67, none, .bin .neq (.t 66) (.c (.int .i64 0))⟩,
 ⟨some 68, none, .mov (.t 67)⟩,
 ⟨some 69, (some (68, false)), .mov (.t 5)⟩,
 ⟨some 70, (some (68, false)), .bin .lss (.t 69) (.c (.int .i64 0))⟩,
 ⟨some 71, none, .pick (.t 68) (.c (.bool true)) (.t 70)⟩]) (
 .cond (.t 71) (
 .seq (
 .reg none [
 ⟨some 4, none, .mov (.c (.bool false))⟩]) (
 .ret)) (
 .skip))) (
 .seq (
 .seq (
 .reg none [
 ⟨some 72, none, .mov (.t 5)⟩,
 ⟨some 73, none, .bin .gtr (.t 72) (.c (.int .i64 24))⟩]) (
 .cond (.t 73) (
 .seq (
 .reg none [
 ⟨some 4, none, .mov (.c (.bool true))⟩]) (
 .ret)) (
 .skip))) (
 .seq (
 .reg (some [(0, 5), (1, 5), (2, 5)]) [
 ⟨some 75, none, .load true 2 (.t 2)⟩,
 ⟨some 76, none, .faddr 0 (.t 3)⟩,
 ⟨some 77, none, .load true 2 (.t 76)⟩,
 ⟨some 78, none, .faddr 2 (.t 3)⟩,
 ⟨some 79, none, .load false 1 (.t 78)⟩,
 ⟨some 80, none, .ncall true 6081 34 [(.t 79)]⟩,
 ⟨some 81, none, .ncall true 6082 35 [(.t 75), (.t 77), (.t 80)]⟩,
 ⟨some 74, none, .mov (.t 81)⟩,
 ⟨some 82, none, .ext 0 (.t 74)⟩,
 ⟨some 83, none, .ext 1 (.t 74)⟩,
 ⟨some 7, none, .mov (.t 82)⟩,
 ⟨some 8, none, .mov (.t 83)⟩]) (
 .gh [.keep [2, 3, 5, 7, 8]] (
 .seq (
 .seq (
 .reg none [
 ⟨some 84, none, .mov (.t 8)⟩,
 ⟨some 85, none, .bin .neq (.t 84) (.c (.int .i64 0))⟩,
 ⟨some 86, none, .mov (.t 85)⟩,
 ⟨some 87, (some (86, false)), .mov (.t 7)⟩,
 ⟨some 88, (some (86, false)), .len (.t 87)⟩,
 ⟨some 89, (some (86, false)), .mov (.t 5)⟩,
 ⟨some 90, (some (86, false)), .bin .neq (.t 88) (.t 89)⟩,
 ⟨some 91, none, .pick (.t 86) (.c (.bool true)) (.t 90)⟩,
 ⟨some 92, none, .mov (.t 91)⟩,
 ⟨some 93, (some (92, false)), .load true 2 (.t 2)⟩,
 ⟨some 94, (some (92, false)), .mov (.t 7)⟩,
 ⟨some 95, (some (92, false)), .ncall true 0 20 [(.t 93), (.t 94)]⟩,
 ⟨some 96, (some (92, false)), .bin .neq (.t 95) (.c (.int .i64 0))⟩,
 ⟨some 97, none, .pick (.t 92) (.c (.bool true)) (.t 96)⟩]) (
 .gh [.keep [2, 3, 7, 97]] (
 .cond (.t 97) (
 .seq (
 .reg none [
 ⟨some 4, none, .mov (.c (.bool false))⟩]) (
 .ret)) (
 .skip)))) (
 .seq (
 .reg none [
 ⟨some 9, none, .mov (.c .nils)⟩]) (
 .seq (
 .seq (
 .reg none [
 ⟨some 10, none, .mov (.c (.int .i64 0))⟩]) (
 .block 0 (
 .loop b6_2))) (
 .seq (
 .reg none [
 ⟨some 11, none, .mov (.c .nils)⟩]) (
 .seq (
 .reg none [
 ⟨some 12, none, .mov (.c (.int .i64 0))⟩]) (
 .seq (
 .seq (
 .reg none [
 ⟨some 13, none, .mov (.c (.int .i64 0))⟩]) (
 .block 2 (
 .loop b6_0))) (
 .seq (
 .reg none [
 ⟨some 182, none, .load true 2 (.t 2)⟩,
 ⟨some 183, none, .faddr 0 (.t 3)⟩,
 ⟨some 184, none, .faddr 0 (.t 183)⟩,
 ⟨some 185, none, .load false 1 (.t 184)⟩,
 ⟨some 186, none, .mov (.t 9)⟩,
 ⟨some 187, none, .ncall true 6188 16 [(.t 182), (.t 185), (.t 186)]⟩,
 ⟨some 181, none, .mov (.t 187)⟩,
 ⟨some 188, none, .ext 0 (.t 181)⟩,
 ⟨some 189, none, .ext 1 (.t 181)⟩,
 ⟨some 18, none, .mov (.t 188)⟩,
 ⟨some 19, none, .mov (.t 189)⟩]) (
 .gh [.keep [11, 18, 19]] (
 .seq (
 .reg none [
 ⟨some 190, none, .mov (.t 19)⟩,
 ⟨some 191, none, .bin .eql (.t 190) (.c (.int .i64 0))⟩,
 ⟨some 192, none, .mov (.t 191)⟩,
 ⟨some 193, (some (192, true)), .mov (.t 18)⟩,
 ⟨some 194, (some (192, true)), .mov (.t 11)⟩,
 ⟨some 195, (some (192, true)), .ncall true 0 21 [(.t 193), (.t 194)]⟩,
 ⟨some 196, none, .pick (.t 192) (.t 195) (.c (.bool false))⟩,
 ⟨some 4, none, .mov (.t 196)⟩]) (
 .gh [.keep [4]] (
 .ret)))))))))))))))))))
def a6 : AFunc := ⟨197, c6, [.tmp 4]⟩
/-! 7 cassegrain/cassegrainlaw06.FrameClocks params [38] nfree 0 ntmps 126 -/
def c7 : ACode :=
 .seq (
 .reg none [
 ⟨some 2, none, .mov (.c (.bool false))⟩]) (
 .seq (
 .seq (
 .reg none [
 ⟨some 13, none, .ncall true 0 14 []⟩,
 ⟨some 14, none, .not (.t 13)⟩]) (
 .cond (.t 14) (
 .seq (
 .reg none [
 ⟨some 2, none, .mov (.c (.bool false))⟩]) (
 .ret)) (
 .skip))) (
 .seq (
 .seq (
 .reg none [
 ⟨some 15, none, .mov (.t 0)⟩,
 ⟨some 16, none, .len (.t 15)⟩,
 ⟨some 17, none, .bin .gtr (.t 16) (.c (.int .i64 22))⟩]) (
 .cond (.t 17) (
 .seq (
 .reg none [
 ⟨some 2, none, .mov (.c (.bool true))⟩]) (
 .ret)) (
 .skip))) (
 .seq (
 .reg none [
 ⟨some 19, none, .mov (.t 0)⟩,
 ⟨some 20, none, .ncall true 7021 24 [(.t 19)]⟩,
 ⟨some 21, none, .ncall true 0 41 [(.t 20)]⟩,
 ⟨some 18, none, .mov (.t 21)⟩,
 ⟨some 22, none, .ext 0 (.t 18)⟩,
 ⟨some 23, none, .ext 1 (.t 18)⟩,
 ⟨some 3, none, .mov (.t 22)⟩,
 ⟨some 4, none, .mov (.t 23)⟩]) (
 .gh [.keep [0, 3, 4]] (
 .seq (
 .reg none [
 ⟨some 25, none, .mov (.t 0)⟩,
 ⟨some 26, none, .ncall true 7027 24 [(.t 25)]⟩,
 ⟨some 27, none, .ncall true 0 42 [(.t 26)]⟩,
 ⟨some 24, none, .mov (.t 27)⟩,
 ⟨some 28, none, .ext 0 (.t 24)⟩,
 ⟨some 29, none, .ext 1 (.t 24)⟩,
 ⟨some 5, none, .alloc 7006 80 (.agg (.ints .i64 [0, 0, 0, 0]))⟩,
 ⟨none, none, .store 4 (.t 5) (.t 28)⟩,
 ⟨some 6, none, .mov (.t 29)⟩]) (
 .gh [.keep [0, 3, 4, 5, 6]] (
 .seq (
 .reg none [
 ⟨some 31, none, .mov (.t 0)⟩,
 ⟨some 32, none, .ncall true 7033 24 [(.t 31)]⟩,
 ⟨some 33, none, .ncall true 7034 43 [(.t 32)]⟩,
 ⟨some 30, none, .mov (.t 33)⟩,
 ⟨some 34, none, .ext 0 (.t 30)⟩,
 ⟨some 35, none, .ext 1 (.t 30)⟩,
 ⟨some 7, none, .mov (.t 34)⟩,
 ⟨some 8, none, .mov (.t 35)⟩]) (
 .gh [.keep [0, 3, 4, 5, 6, 7, 8]] (
 .seq (
 .reg none [
 ⟨some 37, none, .mov (.t 0)⟩,
 ⟨some 38, none, .ncall true 0 44 [(.t 37)]⟩,
 ⟨some 36, none, .mov (.t 38)⟩,
 ⟨some 39, none, .ext 0 (.t 36)⟩,
 ⟨some 40, none, .ext 1 (.t 36)⟩,
 ⟨some 9, none, .mov (.t 39)⟩,
 ⟨some 10, none, .mov (.t 40)⟩]) (
 .seq (
 .seq (
 .reg none [
 ⟨some 41, none, .mov (.t 4)⟩,
 ⟨some 42, none, .mov (.t 10)⟩,
 ⟨some 43, none, .bin .neq (.t 41) (.t 42)⟩,
 ⟨some 44, none, .mov (.t 43)⟩,
 ⟨some 45, (some (44, false)), .mov (.t 3)⟩,
 ⟨some 46, (some (44, false)), .mov (.t 9)⟩,
 ⟨some 47, (some (44, false)), .bin .neq (.t 45) (.t 46)⟩,
 ⟨some 48, none, .pick (.t 44) (.c (.bool true)) (.t 47)⟩]) (
 .gh [.keep [0, 5, 6, 7, 8, 10, 48]] (
 .cond (.t 48) (
 .seq (
 .reg none [
 ⟨some 2, none, .mov (.c (.bool false))⟩]) (
 .ret)) (
 .skip)))) (
 .seq (
 .seq (
 .reg none [
 ⟨some 49, none, .mov (.t 10)⟩,
 ⟨some 50, none, .bin .neq (.t 49) (.c (.int .i64 0))⟩]) (
 .cond (.t 50) (
 .seq (
 .reg none [
 ⟨some 51, none, .mov (.t 6)⟩,
 ⟨some 52, none, .mov (.t 10)⟩,
 ⟨some 53, none, .bin .eql (.t 51) (.t 52)⟩,
 ⟨some 54, none, .mov (.t 53)⟩,
 ⟨some 55, (some (54, true)), .mov (.t 8)⟩,
 ⟨some 56, (some (54, true)), .mov (.t 10)⟩,
 ⟨some 57, (some (54, true)), .bin .eql (.t 55) (.t 56)⟩,
 ⟨some 58, none, .pick (.t 54) (.t 57) (.c (.bool false))⟩,
 ⟨some 59, none, .mov (.t 58)⟩,
 ⟨some 60, (some (59, true)), .load true 4 (.t 5)⟩,
 ⟨some 61, (some (59, true)), .build (.ints .i64 [0, 0, 0, 0]) []⟩,
 ⟨some 62, (some (59, true)), .aeq false [.i, .i, .i, .i] (.t 60) (.t 61)⟩,
 ⟨some 63, none, .pick (.t 59) (.t 62) (.c (.bool false))⟩,
 ⟨some 64, none, .mov (.t 63)⟩,
 ⟨some 65, (some (64, true)), .mov (.t 7)⟩,
 ⟨some 66, (some (64, true)), .len (.t 65)⟩,
 ⟨some 67, (some (64, true)), .bin .eql (.t 66) (.c (.int .i64 0))⟩,
 ⟨some 68, none, .pick (.t 64) (.t 67) (.c (.bool false))⟩,
 ⟨some 2, none, .mov (.t 68)⟩]) (
 .gh [.keep [2]] (
 .ret))) (
 .skip))) (
 .seq (
 .seq (
 .reg none [
 ⟨some 69, none, .mov (.t 8)⟩,
 ⟨some 70, none, .bin .neq (.t 69) (.c (.int .i64 0))⟩,
 ⟨some 71, none, .mov (.t 70)⟩,
 ⟨some 72, (some (71, false)), .mov (.t 7)⟩,
 ⟨some 73, (some (71, false)), .mov (.t 0)⟩,
 ⟨some 74, (some (71, false)), .ncall true 7075 46 [(.t 73)]⟩,
 ⟨some 75, (some (71, false)), .ncall true 0 45 [(.t 72), (.t 74)]⟩,
 ⟨some 76, (some (71, false)), .not (.t 75)⟩,
 ⟨some 77, none, .pick (.t 71) (.c (.bool true)) (.t 76)⟩]) (
 .gh [.keep [0, 5, 6, 77]] (
 .cond (.t 77) (
 .seq (
 .reg none [
 ⟨some 2, none, .mov (.c (.bool false))⟩]) (
 .ret)) (
 .skip)))) (
 .seq (
 .seq (
 .reg none [
 ⟨some 78, none, .mov (.t 0)⟩,
 ⟨some 79, none, .len (.t 78)⟩,
 ⟨some 80, none, .bin .eql (.t 79) (.c (.int .i64 1))⟩]) (
 .cond (.t 80) (
 .seq (
 .reg none [
 ⟨some 81, none, .mov (.t 6)⟩,
 ⟨some 82, none, .bin .eql (.t 81) (.c (.int .i64 10))⟩,
 ⟨some 83, none, .mov (.t 82)⟩,
 ⟨some 84, (some (83, true)), .load true 4 (.t 5)⟩,
 ⟨some 85, (some (83, true)), .build (.ints .i64 [0, 0, 0, 0]) []⟩,
 ⟨some 86, (some (83, true)), .aeq false [.i, .i, .i, .i] (.t 84) (.t 85)⟩,
 ⟨some 87, none, .pick (.t 83) (.t 86) (.c (.bool false))⟩,
 ⟨some 2, none, .mov (.t 87)⟩]) (
 .gh [.keep [2]] (
 .ret))) (
 .skip))) (
 .seq (
 .reg none [
 ⟨some 89, none, .mov (.t 0)⟩,
 ⟨some 90, none, .ncall true 0 47 [(.t 89)]⟩,
 ⟨some 88, none, .mov (.t 90)⟩,
 ⟨some 91, none, .ext 0 (.t 88)⟩,
 ⟨some 92, none, .ext 1 (.t 88)⟩,
 ⟨some 11, none, .alloc 7012 80 (.agg (.ints .i64 [0, 0, 0, 0]))⟩,
 ⟨none, none, .store 4 (.t 11) (.t 91)⟩,
 ⟨some 12, none, .mov (.t 92)⟩]) (
 .seq (
 .seq (
 .reg none [
 ⟨some 93, none, .mov (.t 12)⟩,
 ⟨some 94, none, .not (.t 93)⟩]) (
 .cond (.t 94) (
 .seq (
 .reg none [
 ⟨some 95, none, .mov (.t 6)⟩,
 ⟨some 96, none, .bin .eql (.t 95) (.c (.int .i64 13))⟩,
 ⟨some 97, none, .mov (.t 96)⟩,
 ⟨some 98, (some (97, true)), .load true 4 (.t 5)⟩,
 ⟨some 99, (some (97, true)), .build (.ints .i64 [0, 0, 0, 0]) []⟩,
 ⟨some 100, (some (97, true)), .aeq false [.i, .i, .i, .i] (.t 98) (.t 99)⟩,
 ⟨some 101, none, .pick (.t 97) (.t 100) (.c (.bool false))⟩,
 ⟨some 2, none, .mov (.t 101)⟩]) (
 .gh [.keep [2]] (
 .ret))) (
 .skip))) (
 .seq (
 .seq (
 .reg none [
 ⟨some 102, none, .aaddr 2 2 (.t 11) (.c (.int .i64 0))⟩,
 ⟨some 103, none, .load true 2 (.t 102)⟩,
 ⟨some 104, none, .ncall true 0 48 [(.t 103)]⟩,
 ⟨some 105, none, .not (.t 104)⟩,
 ⟨some 106, none, .mov (.t 105)⟩,
 ⟨some 107, (some (106, false)), .aaddr 2 2 (.t 11) (.c (.int .i64 1))⟩,
 ⟨some 108, (some (106, false)), .load true 2 (.t 107)⟩,
 ⟨some 109, (some (106, false)), .ncall true 0 48 [(.t 108)]⟩,
 ⟨some 110, (some (106, false)), .not (.t 109)⟩,
 ⟨some 111, none, .pick (.t 106) (.c (.bool true)) (.t 110)⟩]) (
 .gh [.keep [5, 6, 11, 111]] (
 .cond (.t 111) (
 .seq (
 .reg none [
 ⟨some 112, none, .mov (.t 6)⟩,
 ⟨some 113, none, .bin .eql (.t 112) (.c (.int .i64 8))⟩,
 ⟨some 114, none, .mov (.t 113)⟩,
 ⟨some 115, (some (114, true)), .load true 4 (.t 5)⟩,
 ⟨some 116, (some (114, true)), .build (.ints .i64 [0, 0, 0, 0]) []⟩,
 ⟨some 117, (some (114, true)), .aeq false [.i, .i, .i, .i] (.t 115) (.t 116)⟩,
 ⟨some 118, none, .pick (.t 114) (.t 117) (.c (.bool false))⟩,
 ⟨some 2, none, .mov (.t 118)⟩]) (
 .gh [.keep [2]] (
 .ret))) (
 .skip)))) (
 .seq (
 .reg none [
 ⟨some 119, none, .mov (.t 6)⟩,
 ⟨some 120, none, .bin .eql (.t 119) (.c (.int .i64 0))⟩,
 ⟨some 121, none, .mov (.t 120)⟩,
 ⟨some 122, (some (121, true)), .load true 4 (.t 5)⟩,
 ⟨some 123, (some (121, true)), .load true 4 (.t 11)⟩,
 ⟨some 124, (some (121, true)), .aeq false [.i, .i, .i, .i] (.t 122) (.t 123)⟩,
 ⟨some 125, none, .pick (.t 121) (.t 124) (.c (.bool false))⟩,
 ⟨some 2, none, .mov (.t 125)⟩]) (
 .gh [.keep [2]] (
 .ret)))))))))))))))))))
def a7 : AFunc := ⟨126, c7, [.tmp 2]⟩
/-! 8 cassegrain/cassegrainlaw06.FrameEncloses params [94, 3, 3] nfree 0 ntmps 387 -/
def l8_0 : ACode :=
 .seq (
 .seq (
 .reg none [
 ⟨some 67, none, .mov (.t 8)⟩,
 ⟨some 68, none, .faddr 2 (.t 3)⟩,
 ⟨some 69, none, .load false 1 (.t 68)⟩,
 ⟨some 70, none, .len (.t 69)⟩,
 ⟨some 71, none, .bin .lss (.t 67) (.t 70)⟩]) (
 .cond (.t 71) (
 .skip) (
 .exit 0))) (
 .seq (
 .block 1 (
 .seq (
 .seq (
 .reg (some []) [
 ⟨some 74, none, .faddr 2 (.t 3)⟩,
 ⟨some 75, none, .load false 1 (.t 74)⟩,
 ⟨some 76, none, .mov (.t 8)⟩,
 ⟨some 77, none, .iaddr 1 (.t 75) (.t 76)⟩,
 ⟨some 78, none, .load false 1 (.t 77)⟩,
 ⟨some 79, none, .ncall true 0 27 [(.t 78), (.c (.int .i64 0)), (.c (.int .i64 100000))]⟩,
 ⟨some 80, none, .not (.t 79)⟩,
 ⟨some 81, none, .mov (.t 80)⟩,
 ⟨some 82, (some (81, false)), .mov (.t 8)⟩,
 ⟨some 83, (some (81, false)), .bin .gtr (.t 82) (.c (.int .i64 0))⟩,
 ⟨some 84, (some (81, false)), .mov (.t 83)⟩,
 ⟨some 85, (some (84, true)), .faddr 2 (.t 3)⟩,
 ⟨some 86, (some (84, true)), .load false 1 (.t 85)⟩,
 ⟨some 87, (some (84, true)), .mov (.t 8)⟩,
 ⟨some 88, (some (84, true)), .iaddr 1 (.t 86) (.t 87)⟩,
 ⟨some 89, (some (84, true)), .load false 1 (.t 88)⟩,
 ⟨some 90, (some (84, true)), .faddr 2 (.t 3)⟩,
 ⟨some 91, (some (84, true)), .load false 1 (.t 90)⟩,
 ⟨some 92, (some (84, true)), .mov (.t 8)⟩,
 ⟨some 93, (some (84, true)), .bin .sub (.t 92) (.c (.int .i64 1))⟩,
 ⟨some 94, (some (84, true)), .iaddr 1 (.t 91) (.t 93)⟩,
 ⟨some 95, (some (84, true)), .load false 1 (.t 94)⟩,
 ⟨some 96, (some (84, true)), .bin .leq (.t 89) (.t 95)⟩,
 ⟨some 97, (some (81, false)), .pick (.t 84) (.t 96) (.c (.bool false))⟩,
 ⟨some 98, none, .pick (.t 81) (.c (.bool true)) (.t 97)⟩,
 ⟨some 99, none, .mov (.t 98)⟩,
 ⟨some 100, (some (99, false)), .faddr 3 (.t 3)⟩,
 ⟨some 101, (some (99, false)), .load false 1 (.t 100)⟩,
 ⟨some 102, (some (99, false)), .mov (.t 8)⟩,
 ⟨some 103, (some (99, false)), .iaddr 1 (.t 101) (.t 102)⟩,
 ⟨some 104, (some (99, false)), .load false 1 (.t 103)⟩,
 ⟨some 105, (some (99, false)), .ncall true 0 27 [(.t 104), (.c (.int .i64 0)), (.c (.int .i64 1000))]⟩,
 ⟨some 106, (some (99, false)), .not (.t 105)⟩,
 ⟨some 107, none, .pick (.t 99) (.c (.bool true)) (.t 106)⟩]) (
 .gh [.keep [1, 2, 3, 7, 8, 107]] (
 .cond (.t 107) (
 .seq (
 .reg none [
 ⟨some 6, none, .mov (.c (.bool true))⟩]) (
 .ret)) (
 .skip)))) (
 .seq (
 .reg (some []) [
 ⟨some 108, none, .faddr 0 (.t 3)⟩,
 ⟨some 109, none, .load false 1 (.t 108)⟩,
 ⟨some 110, none, .bin .mul (.c (.int .i64 100)) (.t 109)⟩,
 ⟨some 111, none, .faddr 1 (.t 3)⟩,
 ⟨some 112, none, .load false 1 (.t 111)⟩,
 ⟨some 113, none, .faddr 2 (.t 3)⟩,
 ⟨some 114, none, .load false 1 (.t 113)⟩,
 ⟨some 115, none, .mov (.t 8)⟩,
 ⟨some 116, none, .iaddr 1 (.t 114) (.t 115)⟩,
 ⟨some 117, none, .load false 1 (.t 116)⟩,
 ⟨some 118, none, .bin .mul (.t 112) (.t 117)⟩,
 ⟨some 119, none, .bin .add (.t 110) (.t 118)⟩,
 ⟨some 9, none, .mov (.t 119)⟩]) (
 .gh [.keep [1, 2, 3, 7, 8, 9]] (
 .reg (some [(0, 24)]) [
 ⟨some 120, none, .mov (.t 7)⟩,
 ⟨some 121, none, .faddr 2 (.t 3)⟩,
 ⟨some 122, none, .load false 1 (.t 121)⟩,
 ⟨some 123, none, .mov (.t 8)⟩,
 ⟨some 124, none, .iaddr 1 (.t 122) (.t 123)⟩,
 ⟨some 125, none, .load false 1 (.t 124)⟩,
 ⟨some 126, none, .mov (.t 9)⟩,
 ⟨some 127, none, .ncall true 0 49 [(.t 126), (.c (.int .i64 100))]⟩,
 ⟨some 128, none, .faddr 3 (.t 3)⟩,
 ⟨some 129, none, .load false 1 (.t 128)⟩,
 ⟨some 130, none, .mov (.t 8)⟩,
 ⟨some 131, none, .iaddr 1 (.t 129) (.t 130)⟩,
 ⟨some 132, none, .load false 1 (.t 131)⟩,
 ⟨some 133, none, .bin .sub (.t 127) (.t 132)⟩,
 ⟨some 134, none, .mov (.t 9)⟩,
 ⟨some 135, none, .ncall true 0 50 [(.t 134), (.c (.int .i64 100))]⟩,
 ⟨some 136, none, .faddr 3 (.t 3)⟩,
 ⟨some 137, none, .load false 1 (.t 136)⟩,
 ⟨some 138, none, .mov (.t 8)⟩,
 ⟨some 139, none, .iaddr 1 (.t 137) (.t 138)⟩,
 ⟨some 140, none, .load false 1 (.t 139)⟩,
 ⟨some 141, none, .bin .add (.t 135) (.t 140)⟩,
 ⟨some 142, none, .build (.gen [(.int .i64 0), (.int .i64 0)]) [(0, 1, (.t 133)), (1, 1, (.t 141))]⟩,
 ⟨some 143, none, .build (.gen [(.int .i64 0), (.int .i64 0), (.int .i64 0)]) [(0, 1, (.t 125)), (1, 2, (.t 142))]⟩,
 ⟨some 144, none, .bslice 8145 49 3 [(.t 143)]⟩,
 ⟨some 145, none, .append 8146 49 3 (.t 120) (.t 144)⟩,
 ⟨some 7, none, .mov (.t 145)⟩]))))) (
 .reg none [
 ⟨some 72, none, .mov (.t 8)⟩,
 ⟨some 73, none, .bin .add (.t 72) (.c (.int .i64 1))⟩,
 ⟨some 8, none, .mov (.t 73)⟩]))
def b8_0 : ACode := .gh [.keep [1, 2, 3, 7, 8]] (.gh [] l8_0)
def k8_0 : List AItem := .inLoop b8_0 :: [.inBlock 0,
 .code (.seq (
 .reg none [
 ⟨some 147, none, .mov (.t 7)⟩,
 ⟨some 148, none, .ncall true 8149 24 [(.t 147)]⟩,
 ⟨some 149, none, .ncall true 8150 43 [(.t 148)]⟩,
 ⟨some 146, none, .mov (.t 149)⟩,
 ⟨some 150, none, .ext 0 (.t 146)⟩,
 ⟨some 151, none, .ext 1 (.t 146)⟩,
 ⟨some 10, none, .mov (.t 150)⟩,
 ⟨some 11, none, .mov (.t 151)⟩]) (
 .gh [.keep [1, 2, 3, 7, 10, 11]] (
 .seq (
 .reg none [
 ⟨some 153, none, .mov (.t 7)⟩,
 ⟨some 154, none, .ncall true 8155 24 [(.t 153)]⟩,
 ⟨some 155, none, .ncall true 0 42 [(.t 154)]⟩,
 ⟨some 152, none, .mov (.t 155)⟩,
 ⟨some 156, none, .ext 0 (.t 152)⟩,
 ⟨some 157, none, .ext 1 (.t 152)⟩,
 ⟨some 12, none, .alloc 8013 80 (.agg (.ints .i64 [0, 0, 0, 0]))⟩,
 ⟨none, none, .store 4 (.t 12) (.t 156)⟩,
 ⟨some 13, none, .mov (.t 157)⟩]) (
 .gh [.keep [1, 2, 3, 7, 10, 11, 12, 13]] (
 .seq (
 .reg none [
 ⟨some 159, none, .mov (.t 7)⟩,
 ⟨some 160, none, .ncall true 8161 24 [(.t 159)]⟩,
 ⟨some 161, none, .mov (.t 1)⟩,
 ⟨some 162, none, .ncall true 0 23 [(.t 160), (.t 161)]⟩,
 ⟨some 158, none, .mov (.t 162)⟩,
 ⟨some 163, none, .ext 0 (.t 158)⟩,
 ⟨some 164, none, .ext 1 (.t 158)⟩,
 ⟨some 14, none, .alloc 8015 40 (.agg (.gen [(.int .i64 0), (.int .i64 0)]))⟩,
 ⟨none, none, .store 2 (.t 14) (.t 163)⟩,
 ⟨some 15, none, .mov (.t 164)⟩]) (
 .gh [.keep [1, 2, 3, 7, 10, 11, 12, 13, 14, 15]] (
 .seq (
 .seq (
 .reg none [
 ⟨some 165, none, .mov (.t 11)⟩,
 ⟨some 166, none, .bin .neq (.t 165) (.c (.int .i64 0))⟩,
 ⟨some 167, none, .mov (.t 166)⟩,
 ⟨some 168, (some (167, false)), .mov (.t 10)⟩,
 ⟨some 169, (some (167, false)), .mov (.t 7)⟩,
 ⟨some 170, (some (167, false)), .len (.t 169)⟩,
 ⟨some 171, (some (167, false)), .bin .sub (.t 170) (.c (.int .i64 1))⟩,
 ⟨some 172, (some (167, false)), .build (.gen [(.int .i64 0), (.int .i64 0)]) [(1, 1, (.t 171))]⟩,
 ⟨some 173, (some (167, false)), .bslice 8174 40 2 [(.t 172)]⟩,
 ⟨some 174, (some (167, false)), .ncall true 0 45 [(.t 168), (.t 173)]⟩,
 ⟨some 175, (some (167, false)), .not (.t 174)⟩,
 ⟨some 176, none, .pick (.t 167) (.c (.bool true)) (.t 175)⟩,
 ⟨some 177, none, .mov (.t 176)⟩,
 ⟨some 178, (some (177, false)), .mov (.t 13)⟩,
 ⟨some 179, (some (177, false)), .bin .neq (.t 178) (.c (.int .i64 0))⟩,
 ⟨some 180, none, .pick (.t 177) (.c (.bool true)) (.t 179)⟩,
 ⟨some 181, none, .mov (.t 180)⟩,
 ⟨some 182, (some (181, false)), .aaddr 2 2 (.t 12) (.c (.int .i64 0))⟩,
 ⟨some 183, (some (181, false)), .load true 2 (.t 182)⟩,
 ⟨some 184, (some (181, false)), .ncall true 0 51 [(.t 183)]⟩,
 ⟨some 185, (some (181, false)), .not (.t 184)⟩,
 ⟨some 186, none, .pick (.t 181) (.c (.bool true)) (.t 185)⟩,
 ⟨some 187, none, .mov (.t 186)⟩,
 ⟨some 188, (some (187, false)), .aaddr 2 2 (.t 12) (.c (.int .i64 1))⟩,
 ⟨some 189, (some (187, false)), .load true 2 (.t 188)⟩,
 ⟨some 190, (some (187, false)), .ncall true 0 51 [(.t 189)]⟩,
 ⟨some 191, (some (187, false)), .not (.t 190)⟩,
 ⟨some 192, none, .pick (.t 187) (.c (.bool true)) (.t 191)⟩,
 ⟨some 193, none, .mov (.t 192)⟩,
 ⟨some 194, (some (193, false)), .mov (.t 15)⟩,
 ⟨some 195, (some (193, false)), .bin .neq (.t 194) (.c (.int .i64 0))⟩,
 ⟨some 196, none, .pick (.t 193) (.c (.bool true)) (.t 195)⟩]) (
 .gh [.keep [1, 2, 3, 7, 12, 14, 196]] (
 .cond (.t 196) (
 .seq (
 .reg none [
 ⟨some 6, none, .mov (.c (.bool false))⟩]) (
 .ret)) (
 .skip)))) (
 .seq (
 .reg none [
 ⟨some 197, none, .faddr 0 (.t 3)⟩,
 ⟨some 198, none, .load false 1 (.t 197)⟩,
 ⟨some 199, none, .bin .mul (.c (.int .i64 100)) (.t 198)⟩,
 ⟨some 200, none, .faddr 1 (.t 3)⟩,
 ⟨some 201, none, .load false 1 (.t 200)⟩,
 ⟨some 202, none, .mov (.t 1)⟩,
 ⟨some 203, none, .bin .mul (.t 201) (.t 202)⟩,
 ⟨some 204, none, .bin .add (.t 199) (.t 203)⟩,
 ⟨some 16, none, .mov (.t 204)⟩]) (
 .gh [.keep [1, 2, 3, 7, 12, 14, 16]] (
 .seq (
 .seq (
 .reg (some []) [
 ⟨some 205, none, .aaddr 2 2 (.t 12) (.c (.int .i64 0))⟩,
 ⟨some 206, none, .faddr 0 (.t 205)⟩,
 ⟨some 207, none, .load false 1 (.t 206)⟩,
 ⟨some 208, none, .aaddr 2 2 (.t 12) (.c (.int .i64 0))⟩,
 ⟨some 209, none, .faddr 1 (.t 208)⟩,
 ⟨some 210, none, .load false 1 (.t 209)⟩,
 ⟨some 211, none, .faddr 1 (.t 3)⟩,
 ⟨some 212, none, .load false 1 (.t 211)⟩,
 ⟨some 213, none, .ncall true 0 52 [(.t 207), (.t 210), (.t 212), (.c (.int .i64 100))]⟩,
 ⟨some 214, none, .bin .gtr (.t 213) (.c (.int .i64 0))⟩,
 ⟨some 215, none, .mov (.t 214)⟩,
 ⟨some 216, (some (215, false)), .faddr 1 (.t 3)⟩,
 ⟨some 217, (some (215, false)), .load false 1 (.t 216)⟩,
 ⟨some 218, (some (215, false)), .aaddr 2 2 (.t 12) (.c (.int .i64 1))⟩,
 ⟨some 219, (some (215, false)), .faddr 0 (.t 218)⟩,
 ⟨some 220, (some (215, false)), .load false 1 (.t 219)⟩,
 ⟨some 221, (some (215, false)), .aaddr 2 2 (.t 12) (.c (.int .i64 1))⟩,
 ⟨some 222, (some (215, false)), .faddr 1 (.t 221)⟩,
 ⟨some 223, (some (215, false)), .load false 1 (.t 222)⟩,
 ⟨some 224, (some (215, false)), .ncall true 0 52 [(.t 217), (.c (.int .i64 100)), (.t 220), (.t 223)]⟩,
 ⟨some 225, (some (215, false)), .bin .gtr (.t 224) (.c (.int .i64 0))⟩,
 ⟨some 226, none, .pick (.t 215) (.c (.bool true)) (.t 225)⟩,
 ⟨some 227, none, .mov (.t 226)⟩,
 ⟨some 228, (some (227, false)), .faddr 0 (.t 14)⟩,
 ⟨some 229, (some (227, false)), .load false 1 (.t 228)⟩,
 ⟨some 230, (some (227, false)), .mov (.t 16)⟩,
 ⟨some 231, (some (227, false)), .ncall true 0 49 [(.t 230), (.c (.int .i64 100))]⟩,
 ⟨some 232, (some (227, false)), .bin .gtr (.t 229) (.t 231)⟩,
 ⟨some 233, none, .pick (.t 227) (.c (.bool true)) (.t 232)⟩,
 ⟨some 234, none, .mov (.t 233)⟩,
 ⟨some 235, (some (234, false)), .faddr 1 (.t 14)⟩,
 ⟨some 236, (some (234, false)), .load false 1 (.t 235)⟩,
 ⟨some 237, (some (234, false)), .mov (.t 16)⟩,
 ⟨some 238, (some (234, false)), .ncall true 0 50 [(.t 237), (.c (.int .i64 100))]⟩,
 ⟨some 239, (some (234, false)), .bin .lss (.t 236) (.t 238)⟩,
 ⟨some 240, none, .pick (.t 234) (.c (.bool true)) (.t 239)⟩]) (
 .gh [.keep [1, 2, 7, 12, 14, 240]] (
 .cond (.t 240) (
 .seq (
 .reg none [
 ⟨some 6, none, .mov (.c (.bool false))⟩]) (
 .ret)) (
 .skip)))) (
 .seq (
 .reg none [
 ⟨some 241, none, .mov (.t 2)⟩,
 ⟨some 242, none, .mov (.t 7)⟩,
 ⟨some 243, none, .len (.t 242)⟩,
 ⟨some 244, none, .ncall true 0 53 [(.t 241), (.t 243)]⟩,
 ⟨some 17, none, .mov (.t 244)⟩]) (
 .seq (
 .reg (some [(3, 4), (3, 5), (3, 6), (3, 7)]) [
 ⟨some 245, none, .mov (.t 7)⟩,
 ⟨some 246, none, .mov (.t 17)⟩,
 ⟨some 247, none, .slc 3 (.t 245) none (some (.t 246)) none⟩,
 ⟨some 248, none, .ncall true 8249 24 [(.t 247)]⟩,
 ⟨some 249, none, .mov (.t 7)⟩,
 ⟨some 250, none, .mov (.t 17)⟩,
 ⟨some 251, none, .bin .add (.t 250) (.c (.int .i64 1))⟩,
 ⟨some 252, none, .slc 3 (.t 249) (some (.t 251)) none none⟩,
 ⟨some 253, none, .append 8254 49 3 (.t 248) (.t 252)⟩,
 ⟨some 18, none, .mov (.t 253)⟩]) (
 .gh [.keep [1, 7, 12, 14, 18]] (
 .seq (
 .reg none [
 ⟨some 255, none, .mov (.t 18)⟩,
 ⟨some 256, none, .ncall true 8257 24 [(.t 255)]⟩,
 ⟨some 257, none, .ncall true 0 42 [(.t 256)]⟩,
 ⟨some 254, none, .mov (.t 257)⟩,
 ⟨some 258, none, .ext 0 (.t 254)⟩,
 ⟨some 259, none, .ext 1 (.t 254)⟩,
 ⟨some 19, none, .alloc 8020 80 (.agg (.ints .i64 [0, 0, 0, 0]))⟩,
 ⟨none, none, .store 4 (.t 19) (.t 258)⟩,
 ⟨some 20, none, .mov (.t 259)⟩]) (
 .gh [.keep [1, 7, 12, 14, 18, 19, 20]] (
 .seq (
 .reg none [
 ⟨some 261, none, .mov (.t 18)⟩,
 ⟨some 262, none, .mov (.t 1)⟩,
 ⟨some 263, none, .ncall true 0 23 [(.t 261), (.t 262)]⟩,
 ⟨some 260, none, .mov (.t 263)⟩,
 ⟨some 264, none, .ext 0 (.t 260)⟩,
 ⟨some 265, none, .ext 1 (.t 260)⟩,
 ⟨some 21, none, .alloc 8022 40 (.agg (.gen [(.int .i64 0), (.int .i64 0)]))⟩,
 ⟨none, none, .store 2 (.t 21) (.t 264)⟩,
 ⟨some 22, none, .mov (.t 265)⟩]) (
 .gh [.keep [7, 12, 14, 19, 20, 21, 22]] (
 .seq (
 .seq (
 .reg none [
 ⟨some 266, none, .mov (.t 20)⟩,
 ⟨some 267, none, .bin .neq (.t 266) (.c (.int .i64 0))⟩,
 ⟨some 268, none, .mov (.t 267)⟩,
 ⟨some 269, (some (268, false)), .mov (.t 22)⟩,
 ⟨some 270, (some (268, false)), .bin .neq (.t 269) (.c (.int .i64 0))⟩,
 ⟨some 271, none, .pick (.t 268) (.c (.bool true)) (.t 270)⟩,
 ⟨some 272, none, .mov (.t 271)⟩,
 ⟨some 273, (some (272, false)), .aaddr 2 2 (.t 19) (.c (.int .i64 0))⟩,
 ⟨some 274, (some (272, false)), .load true 2 (.t 273)⟩,
 ⟨some 275, (some (272, false)), .ncall true 0 51 [(.t 274)]⟩,
 ⟨some 276, (some (272, false)), .not (.t 275)⟩,
 ⟨some 277, none, .pick (.t 272) (.c (.bool true)) (.t 276)⟩,
 ⟨some 278, none, .mov (.t 277)⟩,
 ⟨some 279, (some (278, false)), .aaddr 2 2 (.t 19) (.c (.int .i64 1))⟩,
 ⟨some 280, (some (278, false)), .load true 2 (.t 279)⟩,
 ⟨some 281, (some (278, false)), .ncall true 0 51 [(.t 280)]⟩,
 ⟨some 282, (some (278, false)), .not (.t 281)⟩,
 ⟨some 283, none, .pick (.t 278) (.c (.bool true)) (.t 282)⟩,
 ⟨some 284, none, .mov (.t 283)⟩,
 ⟨some 285, (some (284, false)), .faddr 0 (.t 21)⟩,
 ⟨some 286, (some (284, false)), .load false 1 (.t 285)⟩,
 ⟨some 287, (some (284, false)), .faddr 0 (.t 14)⟩,
 ⟨some 288, (some (284, false)), .load false 1 (.t 287)⟩,
 ⟨some 289, (some (284, false)), .bin .gtr (.t 286) (.t 288)⟩,
 ⟨some 290, none, .pick (.t 284) (.c (.bool true)) (.t 289)⟩,
 ⟨some 291, none, .mov (.t 290)⟩,
 ⟨some 292, (some (291, false)), .faddr 1 (.t 21)⟩,
 ⟨some 293, (some (291, false)), .load false 1 (.t 292)⟩,
 ⟨some 294, (some (291, false)), .faddr 1 (.t 14)⟩,
 ⟨some 295, (some (291, false)), .load false 1 (.t 294)⟩,
 ⟨some 296, (some (291, false)), .bin .lss (.t 293) (.t 295)⟩,
 ⟨some 297, none, .pick (.t 291) (.c (.bool true)) (.t 296)⟩,
 ⟨some 298, none, .mov (.t 297)⟩,
 ⟨some 299, (some (298, false)), .aaddr 2 2 (.t 19) (.c (.int .i64 0))⟩,
 ⟨some 300, (some (298, false)), .faddr 0 (.t 299)⟩,
 ⟨some 301, (some (298, false)), .load false 1 (.t 300)⟩,
 ⟨some 302, (some (298, false)), .aaddr 2 2 (.t 19) (.c (.int .i64 0))⟩,
 ⟨some 303, (some (298, false)), .faddr 1 (.t 302)⟩,
 ⟨some 304, (some (298, false)), .load false 1 (.t 303)⟩,
 ⟨some 305, (some (298, false)), .aaddr 2 2 (.t 12) (.c (.int .i64 0))⟩,
 ⟨some 306, (some (298, false)), .faddr 0 (.t 305)⟩,
 ⟨some 307, (some (298, false)), .load false 1 (.t 306)⟩,
 ⟨some 308, (some (298, false)), .aaddr 2 2 (.t 12) (.c (.int .i64 0))⟩,
 ⟨some 309, (some (298, false)), .faddr 1 (.t 308)⟩,
 ⟨some 310, (some (298, false)), .load false 1 (.t 309)⟩,
 ⟨some 311, (some (298, false)), .ncall true 0 52 [(.t 301), (.t 304), (.t 307), (.t 310)]⟩,
 ⟨some 312, (some (298, false)), .bin .gtr (.t 311) (.c (.int .i64 0))⟩,
 ⟨some 313, none, .pick (.t 298) (.c (.bool true)) (.t 312)⟩,
 ⟨some 314, none, .mov (.t 313)⟩,
 ⟨some 315, (some (314, false)), .aaddr 2 2 (.t 19) (.c (.int .i64 1))⟩,
 ⟨some 316, (some (314, false)), .faddr 0 (.t 315)⟩,
 ⟨some 317, (some (314, false)), .load false 1 (.t 316)⟩,
 ⟨some 318, (some (314, false)), .aaddr 2 2 (.t 19) (.c (.int .i64 1))⟩,
 ⟨some 319, (some (314, false)), .faddr 1 (.t 318)⟩,
 ⟨some 320, (some (314, false)), .load false 1 (.t 319)⟩,
 ⟨some 321, (some (314, false)), .aaddr 2 2 (.t 12) (.c (.int .i64 1))⟩,
 ⟨some 322, (some (314, false)), .faddr 0 (.t 321)⟩,
 ⟨some 323, (some (314, false)), .load false 1 (.t 322)⟩,
 ⟨some 324, (some (314, false)), .aaddr 2 2 (.t 12) (.c (.int .i64 1))⟩,
 ⟨some 325, (some (314, false)), .faddr 1 (.t 324)⟩,
 ⟨some 326, (some (314, false)), .load false 1 (.t 325)⟩,
 ⟨some 327, (some (314, false)), .ncall true 0 52 [(.t 317), (.t 320), (.t 323), (.t 326)]⟩,
 ⟨some 328, (some (314, false)), .bin .lss (.t 327) (.c (.int .i64 0))⟩,
 ⟨some 329, none, .pick (.t 314) (.c (.bool true)) (.t 328)⟩]) (
 .gh [.keep [7, 329]] (
 .cond (.t 329) (
 .seq (
 .reg none [
 ⟨some 6, none, .mov (.c (.bool false))⟩]) (
 .ret)) (
 .skip)))) (
 .seq (
 .reg none [
 ⟨some 330, none, .mov (.t 7)⟩,
 ⟨some 331, none, .len (.t 330)⟩,
 ⟨some 332, none, .bin .sub (.t 331) (.c (.int .i64 1))⟩,
 ⟨some 23, none, .mov (.t 332)⟩]) (
 .seq (
 .reg (some [(0, 13), (1, 13), (2, 13), (3, 4), (3, 5), (3, 6), (3, 7), (3, 8), (3, 13), (4, 13), (5, 13), (6, 13), (7, 13), (8, 13), (9, 13), (10, 13), (11, 13), (12, 13), (12, 14)]) [
 ⟨some 334, none, .mov (.t 7)⟩,
 ⟨some 335, none, .mov (.t 23)⟩,
 ⟨some 336, none, .slc 3 (.t 334) none (some (.t 335)) none⟩,
 ⟨some 337, none, .ncall true 8338 24 [(.t 336)]⟩,
 ⟨some 338, none, .mov (.t 7)⟩,
 ⟨some 339, none, .mov (.t 23)⟩,
 ⟨some 340, none, .iaddr 3 (.t 338) (.t 339)⟩,
 ⟨some 341, none, .faddr 0 (.t 340)⟩,
 ⟨some 342, none, .load false 1 (.t 341)⟩,
 ⟨some 343, none, .ncall true 0 23 [(.t 337), (.t 342)]⟩,
 ⟨some 333, none, .mov (.t 343)⟩,
 ⟨some 344, none, .ext 0 (.t 333)⟩,
 ⟨some 345, none, .ext 1 (.t 333)⟩,
 ⟨some 24, none, .alloc 8025 40 (.agg (.gen [(.int .i64 0), (.int .i64 0)]))⟩,
 ⟨none, none, .store 2 (.t 24) (.t 344)⟩,
 ⟨some 25, none, .mov (.t 345)⟩]) (
 .gh [.keep [7, 23, 24, 25]] (
 .seq (
 .seq (
 .reg none [
 ⟨some 346, none, .mov (.t 25)⟩,
 ⟨some 347, none, .bin .neq (.t 346) (.c (.int .i64 0))⟩,
 ⟨some 348, none, .mov (.t 347)⟩,
 ⟨some 349, (some (348, false)), .faddr 1 (.t 24)⟩,
 ⟨some 350, (some (348, false)), .load false 1 (.t 349)⟩,
 ⟨some 351, (some (348, false)), .ncall true 0 27 [(.t 350), (.c (.int .i64 0)), (.c (.int .i64 999999999999))]⟩,
 ⟨some 352, (some (348, false)), .not (.t 351)⟩,
 ⟨some 353, none, .pick (.t 348) (.c (.bool true)) (.t 352)⟩]) (
 .gh [.keep [7, 23, 24, 25, 353]] (
 .cond (.t 353) (
 .seq (
 .reg none [
 ⟨some 354, none, .mov (.t 25)⟩,
 ⟨some 355, none, .bin .eql (.t 354) (.c (.int .i64 0))⟩,
 ⟨some 6, none, .mov (.t 355)⟩]) (
 .ret)) (
 .skip)))) (
 .seq (
 .reg none [
 ⟨some 356, none, .mov (.t 7)⟩,
 ⟨some 357, none, .ncall true 8358 24 [(.t 356)]⟩,
 ⟨some 26, none, .mov (.t 357)⟩]) (
 .seq (
 .reg none [
 ⟨some 358, none, .mov (.t 26)⟩,
 ⟨some 359, none, .mov (.t 23)⟩,
 ⟨some 360, none, .faddr 1 (.t 24)⟩,
 ⟨some 361, none, .load false 1 (.t 360)⟩,
 ⟨some 362, none, .bin .add (.t 361) (.c (.int .i64 1))⟩,
 ⟨some 363, none, .faddr 1 (.t 24)⟩,
 ⟨some 364, none, .load false 1 (.t 363)⟩,
 ⟨some 365, none, .bin .add (.t 364) (.c (.int .i64 1))⟩,
 ⟨some 366, none, .build (.gen [(.int .i64 0), (.int .i64 0)]) [(0, 1, (.t 362)), (1, 1, (.t 365))]⟩,
 ⟨some 367, none, .iaddr 3 (.t 358) (.t 359)⟩,
 ⟨some 368, none, .faddr 1 (.t 367)⟩,
 ⟨none, none, .store 2 (.t 368) (.t 366)⟩]) (
 .gh [.keep [23, 26]] (
 .seq (
 .reg none [
 ⟨some 370, none, .mov (.t 26)⟩,
 ⟨some 371, none, .ncall true 8372 43 [(.t 370)]⟩,
 ⟨some 369, none, .mov (.t 371)⟩,
 ⟨some 372, none, .ext 0 (.t 369)⟩,
 ⟨some 373, none, .ext 1 (.t 369)⟩,
 ⟨some 27, none, .mov (.t 372)⟩,
 ⟨some 28, none, .mov (.t 373)⟩]) (
 .seq (
 .reg none [
 ⟨some 374, none, .mov (.t 28)⟩,
 ⟨some 375, none, .bin .eql (.t 374) (.c (.int .i64 0))⟩,
 ⟨some 376, none, .mov (.t 375)⟩,
 ⟨some 377, (some (376, true)), .mov (.t 27)⟩,
 ⟨some 378, (some (376, true)), .mov (.t 23)⟩,
 ⟨some 379, (some (376, true)), .bin .sub (.t 378) (.c (.int .i64 1))⟩,
 ⟨some 380, (some (376, true)), .build (.gen [(.int .i64 0), (.int .i64 0)]) [(1, 1, (.t 379))]⟩,
 ⟨some 381, (some (376, true)), .mov (.t 23)⟩,
 ⟨some 382, (some (376, true)), .mov (.t 23)⟩,
 ⟨some 383, (some (376, true)), .build (.gen [(.int .i64 0), (.int .i64 0)]) [(0, 1, (.t 381)), (1, 1, (.t 382))]⟩,
 ⟨some 384, (some (376, true)), .bslice 8385 40 2 [(.t 380), (.t 383)]⟩,
 ⟨some 385, (some (376, true)), .ncall true 0 45 [(.t 377), (.t 384)]⟩,
 ⟨some 386, none, .pick (.t 376) (.t 385) (.c (.bool false))⟩,
 ⟨some 6, none, .mov (.t 386)⟩]) (
 .gh [.keep [6]] (
 .ret)))))))))))))))))))))))))))))]
def c8 : ACode :=
 .seq (
 .reg none [
 ⟨some 3, none, .box 8004 94 (.t 0)⟩,
 ⟨some 6, none, .mov (.c (.bool false))⟩]) (
 .seq (
 .seq (
 .reg none [
 ⟨some 29, none, .ncall true 0 14 []⟩,
 ⟨some 30, none, .not (.t 29)⟩]) (
 .cond (.t 30) (
 .seq (
 .reg none [
 ⟨some 6, none, .mov (.c (.bool false))⟩]) (
 .ret)) (
 .skip))) (
 .seq (
 .seq (
 .reg none [
 ⟨some 31, none, .faddr 2 (.t 3)⟩,
 ⟨some 32, none, .load false 1 (.t 31)⟩,
 ⟨some 33, none, .len (.t 32)⟩,
 ⟨some 34, none, .bin .lss (.t 33) (.c (.int .i64 3))⟩,
 ⟨some 35, none, .mov (.t 34)⟩,
 ⟨some 36, (some (35, false)), .faddr 2 (.t 3)⟩,
 ⟨some 37, (some (35, false)), .load false 1 (.t 36)⟩,
 ⟨some 38, (some (35, false)), .len (.t 37)⟩,
 ⟨some 39, (some (35, false)), .bin .gtr (.t 38) (.c (.int .i64 10))⟩,
 ⟨some 40, none, .pick (.t 35) (.c (.bool true)) (.t 39)⟩,
 ⟨some 41, none, .mov (.t 40)⟩,
 ⟨some 42, (some (41, false)), .faddr 3 (.t 3)⟩,
 ⟨some 43, (some (41, false)), .load false 1 (.t 42)⟩,
 ⟨some 44, (some (41, false)), .len (.t 43)⟩,
 ⟨some 45, (some (41, false)), .faddr 2 (.t 3)⟩,
 ⟨some 46, (some (41, false)), .load false 1 (.t 45)⟩,
 ⟨some 47, (some (41, false)), .len (.t 46)⟩,
 ⟨some 48, (some (41, false)), .bin .neq (.t 44) (.t 47)⟩,
 ⟨some 49, none, .pick (.t 41) (.c (.bool true)) (.t 48)⟩,
 ⟨some 50, none, .mov (.t 49)⟩,
 ⟨some 51, (some (50, false)), .faddr 0 (.t 3)⟩,
 ⟨some 52, (some (50, false)), .load false 1 (.t 51)⟩,
 ⟨some 53, (some (50, false)), .ncall true 0 27 [(.t 52), (.c (.int .i64 1000)), (.c (.int .i64 1000000))]⟩,
 ⟨some 54, (some (50, false)), .not (.t 53)⟩,
 ⟨some 55, none, .pick (.t 50) (.c (.bool true)) (.t 54)⟩,
 ⟨some 56, none, .mov (.t 55)⟩,
 ⟨some 57, (some (56, false)), .faddr 1 (.t 3)⟩,
 ⟨some 58, (some (56, false)), .load false 1 (.t 57)⟩,
 ⟨some 59, (some (56, false)), .ncall true 0 27 [(.t 58), (.c (.int .i64 0)), (.c (.int .i64 100000))]⟩,
 ⟨some 60, (some (56, false)), .not (.t 59)⟩,
 ⟨some 61, none, .pick (.t 56) (.c (.bool true)) (.t 60)⟩,
 ⟨some 62, none, .mov (.t 61)⟩,
 ⟨some 63, (some (62, false)), .mov (.t 1)⟩,
 ⟨some 64, (some (62, false)), .ncall true 0 27 [(.t 63), (.c (.int .i64 0)), (.c (.int .i64 100000))]⟩,
 ⟨some 65, (some (62, false)), .not (.t 64)⟩,
 ⟨some 66, none, .pick (.t 62) (.c (.bool true)) (.t 65)⟩]) (
 .gh [.keep [1, 2, 3, 66]] (
 .cond (.t 66) (
 .seq (
 .reg none [
 ⟨some 6, none, .mov (.c (.bool true))⟩]) (
 .ret)) (
 .skip)))) (
 .seq (
 .reg none [
 ⟨some 7, none, .mov (.c .nils)⟩]) (
 .seq (
 .seq (
 .reg none [
 ⟨some 8, none, .mov (.c (.int .i64 0))⟩]) (
 .block 0 (
 .loop b8_0))) (
 .seq (
 .reg none [
 ⟨some 147, none, .mov (.t 7)⟩,
 ⟨some 148, none, .ncall true 8149 24 [(.t 147)]⟩,
 ⟨some 149, none, .ncall true 8150 43 [(.t 148)]⟩,
 ⟨some 146, none, .mov (.t 149)⟩,
 ⟨some 150, none, .ext 0 (.t 146)⟩,
 ⟨some 151, none, .ext 1 (.t 146)⟩,
 ⟨some 10, none, .mov (.t 150)⟩,
 ⟨some 11, none, .mov (.t 151)⟩]) (
 .gh [.keep [1, 2, 3, 7, 10, 11]] (
 .seq (
 .reg none [
 ⟨some 153, none, .mov (.t 7)⟩,
 ⟨some 154, none, .ncall true 8155 24 [(.t 153)]⟩,
 ⟨some 155, none, .ncall true 0 42 [(.t 154)]⟩,
 ⟨some 152, none, .mov (.t 155)⟩,
 ⟨some 156, none, .ext 0 (.t 152)⟩,
 ⟨some 157, none, .ext 1 (.t 152)⟩,
 ⟨some 12, none, .alloc 8013 80 (.agg (.ints .i64 [0, 0, 0, 0]))⟩,
 ⟨none, none, .store 4 (.t 12) (.t 156)⟩,
 ⟨some 13, none, .mov (.t 157)⟩]) (
 .gh [.keep [1, 2, 3, 7, 10, 11, 12, 13]] (
 .seq (
 .reg none [
 ⟨some 159, none, .mov (.t 7)⟩,
 ⟨some 160, none, .ncall true 8161 24 [(.t 159)]⟩,
 ⟨some 161, none, .mov (.t 1)⟩,
 ⟨some 162, none, .ncall true 0 23 [(.t 160), (.t 161)]⟩,
 ⟨some 158, none, .mov (.t 162)⟩,
 ⟨some 163, none, .ext 0 (.t 158)⟩,
 ⟨some 164, none, .ext 1 (.t 158)⟩,
 ⟨some 14, none, .alloc 8015 40 (.agg (.gen [(.int .i64 0), (.int .i64 0)]))⟩,
 ⟨none, none, .store 2 (.t 14) (.t 163)⟩,
 ⟨some 15, none, .mov (.t 164)⟩]) (
 .gh [.keep [1, 2, 3, 7, 10, 11, 12, 13, 14, 15]] (
 .seq (
 .seq (
 .reg none [
 ⟨some 165, none, .mov (.t 11)⟩,
 ⟨some 166, none, .bin .neq (.t 165) (.c (.int .i64 0))⟩,
 ⟨some 167, none, .mov (.t 166)⟩,
 ⟨some 168, (some (167, false)), .mov (.t 10)⟩,
 ⟨some 169, (some (167, false)), .mov (.t 7)⟩,
 ⟨some 170, (some (167, false)), .len (.t 169)⟩,
 ⟨some 171, (some (167, false)), .bin .sub (.t 170) (.c (.int .i64 1))⟩,
 ⟨some 172, (some (167, false)), .build (.gen [(.int .i64 0), (.int .i64 0)]) [(1, 1, (.t 171))]⟩,
 ⟨some 173, (some (167, false)), .bslice 8174 40 2 [(.t 172)]⟩,
 ⟨some 174, (some (167, false)), .ncall true 0 45 [(.t 168), (.t 173)]⟩,
 ⟨some 175, (some (167, false)), .not (.t 174)⟩,
 ⟨some 176, none, .pick (.t 167) (.c (.bool true)) (.t 175)⟩,
 ⟨some 177, none, .mov (.t 176)⟩,
 ⟨some 178, (some (177, false)), .mov (.t 13)⟩,
 ⟨some 179, (some (177, false)), .bin .neq (.t 178) (.c (.int .i64 0))⟩,
 ⟨some 180, none, .pick (.t 177) (.c (.bool true)) (.t 179)⟩,
 ⟨some 181, none, .mov (.t 180)⟩,
 ⟨some 182, (some (181, false)), .aaddr 2 2 (.t 12) (.c (.int .i64 0))⟩,
 ⟨some 183, (some (181, false)), .load true 2 (.t 182)⟩,
 ⟨some 184, (some (181, false)), .ncall true 0 51 [(.t 183)]⟩,
 ⟨some 185, (some (181, false)), .not (.t 184)⟩,
 ⟨some 186, none, .pick (.t 181) (.c (.bool true)) (.t 185)⟩,
 ⟨some 187, none, .mov (.t 186)⟩,
 ⟨some 188, (some (187, false)), .aaddr 2 2 (.t 12) (.c (.int .i64 1))⟩,
 ⟨some 189, (some (187, false)), .load true 2 (.t 188)⟩,
 ⟨some 190, (some (187, false)), .ncall true 0 51 [(.t 189)]⟩,
 ⟨some 191, (some (187, false)), .not (.t 190)⟩,
 ⟨some 192, none, .pick (.t 187) (.c (.bool true)) (.t 191)⟩,
 ⟨some 193, none, .mov (.t 192)⟩,
 ⟨some 194, (some (193, false)), .mov (.t 15)⟩,
 ⟨some 195, (some (193, false)), .bin .neq (.t 194) (.c (.int .i64 0))⟩,
 ⟨some 196, none, .pick (.t 193) (.c (.bool true)) (.t 195)⟩]) (
 .gh [.keep [1, 2, 3, 7, 12, 14, 196]] (
 .cond (.t 196) (
 .seq (
 .reg none [
 ⟨some 6, none, .mov (.c (.bool false))⟩]) (
 .ret)) (
 .skip)))) (
 .seq (
 .reg none [
 ⟨some 197, none, .faddr 0 (.t 3)⟩,
 ⟨some 198, none, .load false 1 (.t 197)⟩,
 ⟨some 199, none, .bin .mul (.c (.int .i64 100)) (.t 198)⟩,
 ⟨some 200, none, .faddr 1 (.t 3)⟩,
 ⟨some 201, none, .load false 1 (.t 200)⟩,
 ⟨some 202, none, .mov (.t 1)⟩,
 ⟨some 203, none, .bin .mul (.t 201) (.t 202)⟩,
 ⟨some 204, none, .bin .add (.t 199) (.t 203)⟩,
 ⟨some 16, none, .mov (.t 204)⟩]) (
 .gh [.keep [1, 2, 3, 7, 12, 14, 16]] (
 .seq (
 .seq (
 .reg (some []) [
 ⟨some 205, none, .aaddr 2 2 (.t 12) (.c (.int .i64 0))⟩,
 ⟨some 206, none, .faddr 0 (.t 205)⟩,
 ⟨some 207, none, .load false 1 (.t 206)⟩,
 ⟨some 208, none, .aaddr 2 2 (.t 12) (.c (.int .i64 0))⟩,
 ⟨some 209, none, .faddr 1 (.t 208)⟩,
 ⟨some 210, none, .load false 1 (.t 209)⟩,
 ⟨some 211, none, .faddr 1 (.t 3)⟩,
 ⟨some 212, none, .load false 1 (.t 211)⟩,
 ⟨some 213, none, .ncall true 0 52 [(.t 207), (.t 210), (.t 212), (.c (.int .i64 100))]⟩,
 ⟨some 214, none, .bin .gtr (.t 213) (.c (.int .i64 0))⟩,
 ⟨some 215, none, .mov (.t 214)⟩,
 ⟨some 216, (some (215, false)), .faddr 1 (.t 3)⟩,
 ⟨some 217, (some (215, false)), .load false 1 (.t 216)⟩,
 ⟨some 218, (some (215, false)), .aaddr 2 2 (.t 12) (.c (.int .i64 1))⟩,
 ⟨some 219, (some (215, false)), .faddr 0 (.t 218)⟩,
 ⟨some 220, (some (215, false)), .load false 1 (.t 219)⟩,
 ⟨some 221, (some (215, false)), .aaddr 2 2 (.t 12) (.c (.int .i64 1))⟩,
 ⟨some 222, (some (215, false)), .faddr 1 (.t 221)⟩,
 ⟨some 223, (some (215, false)), .load false 1 (.t 222)⟩,
 ⟨some 224, (some (215, false)), .ncall true 0 52 [(.t 217), (.c (.int .i64 100)), (.t 220), (.t 223)]⟩,
 ⟨some 225, (some (215, false)), .bin .gtr (.t 224) (.c (.int .i64 0))⟩,
 ⟨some 226, none, .pick (.t 215) (.c (.bool true)) (.t 225)⟩,
 ⟨some 227, none, .mov (.t 226)⟩,
 ⟨some 228, (some (227, false)), .faddr 0 (.t 14)⟩,
 ⟨some 229, (some (227, false)), .load false 1 (.t 228)⟩,
 ⟨some 230, (some (227, false)), .mov (.t 16)⟩,
 ⟨some 231, (some (227, false)), .ncall true 0 49 [(.t 230), (.c (.int .i64 100))]⟩,
 ⟨some 232, (some (227, false)), .bin .gtr (.t 229) (.t 231)⟩,
 ⟨some 233, none, .pick (.t 227) (.c (.bool true)) (.t 232)⟩,
 ⟨some 234, none, .mov (.t 233)⟩,
 ⟨some 235, (some (234, false)), .faddr 1 (.t 14)⟩,
 ⟨some 236, (some (234, false)), .load false 1 (.t 235)⟩,
 ⟨some 237, (some (234, false)), .mov (.t 16)⟩,
 ⟨some 238, (some (234, false)), .ncall true 0 50 [(.t 237), (.c (.int .i64 100))]⟩,
 ⟨some 239, (some (234, false)), .bin .lss (.t 236) (.t 238)⟩,
 ⟨some 240, none, .pick (.t 234) (.c (.bool true)) (.t 239)⟩]) (
 .gh [.keep [1, 2, 7, 12, 14, 240]] (
 .cond (.t 240) (
 .seq (
 .reg none [
 ⟨some 6, none, .mov (.c (.bool false))⟩]) (
 .ret)) (
 .skip)))) (
 .seq (
 .reg none [
 ⟨some 241, none, .mov (.t 2)⟩,
 ⟨some 242, none, .mov (.t 7)⟩,
 ⟨some 243, none, .len (.t 242)⟩,
 ⟨some 244, none, .ncall true 0 53 [(.t 241), (.t 243)]⟩,
 ⟨some 17, none, .mov (.t 244)⟩]) (
 .seq (
 .reg (some [(3, 4), (3, 5), (3, 6), (3, 7)]) [
 ⟨some 245, none, .mov (.t 7)⟩,
 ⟨some 246, none, .mov (.t 17)⟩,
 ⟨some 247, none, .slc 3 (.t 245) none (some (.t 246)) none⟩,
 ⟨some 248, none, .ncall true 8249 24 [(.t 247)]⟩,
 ⟨some 249, none, .mov (.t 7)⟩,
 ⟨some 250, none, .mov (.t 17)⟩,
 ⟨some 251, none, .bin .add (.t 250) (.c (.int .i64 1))⟩,
 ⟨some 252, none, .slc 3 (.t 249) (some (.t 251)) none none⟩,
 ⟨some 253, none, .append 8254 49 3 (.t 248) (.t 252)⟩,
 ⟨some 18, none, .mov (.t 253)⟩]) (
 .gh [.keep [1, 7, 12, 14, 18]] (
 .seq (
 .reg none [
 ⟨some 255, none, .mov (.t 18)⟩,
 ⟨some 256, none, .ncall true 8257 24 [(.t 255)]⟩,
 ⟨some 257, none, .ncall true 0 42 [(.t 256)]⟩,
 ⟨some 254, none, .mov (.t 257)⟩,
 ⟨some 258, none, .ext 0 (.t 254)⟩,
 ⟨some 259, none, .ext 1 (.t 254)⟩,
 ⟨some 19, none, .alloc 8020 80 (.agg (.ints .i64 [0, 0, 0, 0]))⟩,
 ⟨none, none, .store 4 (.t 19) (.t 258)⟩,
 ⟨some 20, none, .mov (.t 259)⟩]) (
 .gh [.keep [1, 7, 12, 14, 18, 19, 20]] (
 .seq (
 .reg none [
 ⟨some 261, none, .mov (.t 18)⟩,
 ⟨some 262, none, .mov (.t 1)⟩,
 ⟨some 263, none, .ncall true 0 23 [(.t 261), (.t 262)]⟩,
 ⟨some 260, none, .mov (.t 263)⟩,
 ⟨some 264, none, .ext 0 (.t 260)⟩,
 ⟨some 265, none, .ext 1 (.t 260)⟩,
 ⟨some 21, none, .alloc 8022 40 (.agg (.gen [(.int .i64 0), (.int .i64 0)]))⟩,
 ⟨none, none, .store 2 (.t 21) (.t 264)⟩,
 ⟨some 22, none, .mov (.t 265)⟩]) (
 .gh [.keep [7, 12, 14, 19, 20, 21, 22]] (
 .seq (
 .seq (
 .reg none [
 ⟨some 266, none, .mov (.t 20)⟩,
 ⟨some 267, none, .bin .neq (.t 266) (.c (.int .i64 0))⟩,
 ⟨some 268, none, .mov (.t 267)⟩,
 ⟨some 269, (some (268, false)), .mov (.t 22)⟩,
 ⟨some 270, (some (268, false)), .bin .neq (.t 269) (.c (.int .i64 0))⟩,
 ⟨some 271, none, .pick (.t 268) (.c (.bool true)) (.t 270)⟩,
 ⟨some 272, none, .mov (.t 271)⟩,
 ⟨some 273, (some (272, false)), .aaddr 2 2 (.t 19) (.c (.int .i64 0))⟩,
 ⟨some 274, (some (272, false)), .load true 2 (.t 273)⟩,
 ⟨some 275, (some (272, false)), .ncall true 0 51 [(.t 274)]⟩,
 ⟨some 276, (some (272, false)), .not (.t 275)⟩,
 ⟨some 277, none, .pick (.t 272) (.c (.bool true)) (.t 276)⟩,
 ⟨some 278, none, .mov (.t 277)⟩,
 ⟨some 279, (some (278, false)), .aaddr 2 2 (.t 19) (.c (.int .i64 1))⟩,
 ⟨some 280, (some (278, false)), .load true 2 (.t 279)⟩,
 ⟨some 281, (some (278, false)), .ncall true 0 51 [(.t 280)]⟩,
 ⟨some 282, (some (278, false)), .not (.t 281)⟩,
 ⟨some 283, none, .pick (.t 278) (.c (.bool true)) (.t 282)⟩,
 ⟨some 284, none, .mov (.t 283)⟩,
 ⟨some 285, (some (284, false)), .faddr 0 (.t 21)⟩,
 ⟨some 286, (some (284, false)), .load false 1 (.t 285)⟩,
 ⟨some 287, (some (284, false)), .faddr 0 (.t 14)⟩,
 ⟨some 288, (some (284, false)), .load false 1 (.t 287)⟩,
 ⟨some 289, (some (284, false)), .bin .gtr (.t 286) (.t 288)⟩,
 ⟨some 290, none, .pick (.t 284) (.c (.bool true)) (.t 289)⟩,
 ⟨some 291, none, .mov (.t 290)⟩,
 ⟨some 292, (some (291, false)), .faddr 1 (.t 21)⟩,
 ⟨some 293, (some (291, false)), .load false 1 (.t 292)⟩,
 ⟨some 294, (some (291, false)), .faddr 1 (.t 14)⟩,
 ⟨some 295, (some (291, false)), .load false 1 (.t 294)⟩,
 ⟨some 296, (some (291, false)), .bin .lss (.t 293) (.t 295)⟩,
 ⟨some 297, none, .pick (.t 291) (.c (.bool true)) (.t 296)⟩,
 ⟨some 298, none, .mov (.t 297)⟩,
 ⟨some 299, (some (298, false)), .aaddr 2 2 (.t 19) (.c (.int .i64 0))⟩,
 ⟨some 300, (some (298, false)), .faddr 0 (.t 299)⟩,
 ⟨some 301, (some (298, false)), .load false 1 (.t 300)⟩,
 ⟨some 302, (some (298, false)), .aaddr 2 2 (.t 19) (.c (.int .i64 0))⟩,
 ⟨some 303, (some (298, false)), .faddr 1 (.t 302)⟩,
 ⟨some 304, (some (298, false)), .load false 1 (.t 303)⟩,
 ⟨some 305, (some (298, false)), .aaddr 2 2 (.t 12) (.c (.int .i64 0))⟩,
 ⟨some 306, (some (298, false)), .faddr 0 (.t 305)⟩,
 ⟨some 307, (some (298, false)), .load false 1 (.t 306)⟩,
 ⟨some 308, (some (298, false)), .aaddr 2 2 (.t 12) (.c (.int .i64 0))⟩,
 ⟨some 309, (some (298, false)), .faddr 1 (.t 308)⟩,
 ⟨some 310, (some (298, false)), .load false 1 (.t 309)⟩,
 ⟨some 311, (some (298, false)), .ncall true 0 52 [(.t 301), (.t 304), (.t 307), (.t 310)]⟩,
 ⟨some 312, (some (298, false)), .bin .gtr (.t 311) (.c (.int .i64 0))⟩,
 ⟨some 313, none, .pick (.t 298) (.c (.bool true)) (.t 312)⟩,
 ⟨some 314, none, .mov (.t 313)⟩,
 ⟨some 315, (some (314, false)), .aaddr 2 2 (.t 19) (.c (.int .i64 1))⟩,
 ⟨some 316, (some (314, false)), .faddr 0 (.t 315)⟩,
 ⟨some 317, (some (314, false)), .load false 1 (.t 316)⟩,
 ⟨some 318, (some (314, false)), .aaddr 2 2 (.t 19) (.c (.int .i64 1))⟩,
 ⟨some 319, (some (314, false)), .faddr 1 (.t 318)⟩,
 ⟨some 320, (some (314, false)), .load false 1 (.t 319)⟩,
 ⟨some 321, (some (314, false)), .aaddr 2 2 (.t 12) (.c (.int .i64 1))⟩,
 ⟨some 322, (some (314, false)), .faddr 0 (.t 321)⟩,
 ⟨some 323, (some (314, false)), .load false 1 (.t 322)⟩,
 ⟨some 324, (some (314, false)), .aaddr 2 2 (.t 12) (.c (.int .i64 1))⟩,
 ⟨some 325, (some (314, false)), .faddr 1 (.t 324)⟩,
 ⟨some 326, (some (314, false)), .load false 1 (.t 325)⟩,
 ⟨some 327, (some (314, false)), .ncall true 0 52 [(.t 317), (.t 320), (.t 323), (.t 326)]⟩,
 ⟨some 328, (some (314, false)), .bin .lss (.t 327) (.c (.int .i64 0))⟩,
 ⟨some 329, none, .pick (.t 314) (.c (.bool true)) (.t 328)⟩]) (
 .gh [.keep [7, 329]] (
 .cond (.t 329) (
 .seq (
 .reg none [
 ⟨some 6, none, .mov (.c (.bool false))⟩]) (
 .ret)) (
 .skip)))) (
 .seq (
 .reg none [
 ⟨some 330, none, .mov (.t 7)⟩,
 ⟨some 331, none, .len (.t 330)⟩,
 ⟨some 332, none, .bin .sub (.t 331) (.c (.int .i64 1))⟩,
 ⟨some 23, none, .mov (.t 332)⟩]) (
 .seq (
 .reg (some [(0, 13), (1, 13), (2, 13), (3, 4), (3, 5), (3, 6), (3, 7), (3, 8), (3, 13), (4, 13), (5, 13), (6, 13), (7, 13), (8, 13), (9, 13), (10, 13), (11, 13), (12, 13), (12, 14)]) [
 ⟨some 334, none, .mov (.t 7)⟩,
 ⟨some 335, none, .mov (.t 23)⟩,
 ⟨some 336, none, .slc 3 (.t 334) none (some (.t 335)) none⟩,
 ⟨some 337, none, .ncall true 8338 24 [(.t 336)]⟩,
 ⟨some 338, none, .mov (.t 7)⟩,
 ⟨some 339, none, .mov (.t 23)⟩,
 ⟨some 340, none, .iaddr 3 (.t 338) (.t 339)⟩,
 ⟨some 341, none, .faddr 0 (.t 340)⟩,
 ⟨some 342, none, .load false 1 (.t 341)⟩,
 ⟨some 343, none, .ncall true 0 23 [(.t 337), (.t 342)]⟩,
 ⟨some 333, none, .mov (.t 343)⟩,
 ⟨some 344, none, .ext 0 (.t 333)⟩,
 ⟨some 345, none, .ext 1 (.t 333)⟩,
 ⟨some 24, none, .alloc 8025 40 (.agg (.gen [(.int .i64 0), (.int .i64 0)]))⟩,
 ⟨none, none, .store 2 (.t 24) (.t 344)⟩,
 ⟨some 25, none, .mov (.t 345)⟩]) (
 .gh [.keep [7, 23, 24, 25]] (
 .seq (
 .seq (
 .reg none [
 ⟨some 346, none, .mov (.t 25)⟩,
 ⟨some 347, none, .bin .neq (.t 346) (.c (.int .i64 0))⟩,
 ⟨some 348, none, .mov (.t 347)⟩,
 ⟨some 349, (some (348, false)), .faddr 1 (.t 24)⟩,
 ⟨some 350, (some (348, false)), .load false 1 (.t 349)⟩,
 ⟨some 351, (some (348, false)), .ncall true 0 27 [(.t 350), (.c (.int .i64 0)), (.c (.int .i64 999999999999))]⟩,
 ⟨some 352, (some (348, false)), .not (.t 351)⟩,
 ⟨some 353, none, .pick (.t 348) (.c (.bool true)) (.t 352)⟩]) (
 .gh [.keep [7, 23, 24, 25, 353]] (
 .cond (.t 353) (
 .seq (
 .reg none [
 ⟨some 354, none, .mov (.t 25)⟩,
 ⟨some 355, none, .bin .eql (.t 354) (.c (.int .i64 0))⟩,
 ⟨some 6, none, .mov (.t 355)⟩]) (
 .ret)) (
 .skip)))) (
 .seq (
 .reg none [
 ⟨some 356, none, .mov (.t 7)⟩,
 ⟨some 357, none, .ncall true 8358 24 [(.t 356)]⟩,
 ⟨some 26, none, .mov (.t 357)⟩]) (
 .seq (
 .reg none [
 ⟨some 358, none, .mov (.t 26)⟩,
 ⟨some 359, none, .mov (.t 23)⟩,
 ⟨some 360, none, .faddr 1 (.t 24)⟩,
 ⟨some 361, none, .load false 1 (.t 360)⟩,
 ⟨some 362, none, .bin .add (.t 361) (.c (.int .i64 1))⟩,
 ⟨some 363, none, .faddr 1 (.t 24)⟩,
 ⟨some 364, none, .load false 1 (.t 363)⟩,
 ⟨some 365, none, .bin .add (.t 364) (.c (.int .i64 1))⟩,
 ⟨some 366, none, .build (.gen [(.int .i64 0), (.int .i64 0)]) [(0, 1, (.t 362)), (1, 1, (.t 365))]⟩,
 ⟨some 367, none, .iaddr 3 (.t 358) (.t 359)⟩,
 ⟨some 368, none, .faddr 1 (.t 367)⟩,
 ⟨none, none, .store 2 (.t 368) (.t 366)⟩]) (
 .gh [.keep [23, 26]] (
 .seq (
 .reg none [
 ⟨some 370, none, .mov (.t 26)⟩,
 ⟨some 371, none, .ncall true 8372 43 [(.t 370)]⟩,
 ⟨some 369, none, .mov (.t 371)⟩,
 ⟨some 372, none, .ext 0 (.t 369)⟩,
 ⟨some 373, none, .ext 1 (.t 369)⟩,
 ⟨some 27, none, .mov (.t 372)⟩,
 ⟨some 28, none, .mov (.t 373)⟩]) (
 .seq (
 .reg none [
 ⟨some 374, none, .mov (.t 28)⟩,
 ⟨some 375, none, .bin .eql (.t 374) (.c (.int .i64 0))⟩,
 ⟨some 376, none, .mov (.t 375)⟩,
 ⟨some 377, (some (376, true)), .mov (.t 27)⟩,
 ⟨some 378, (some (376, true)), .mov (.t 23)⟩,
 ⟨some 379, (some (376, true)), .bin .sub (.t 378) (.c (.int .i64 1))⟩,
 ⟨some 380, (some (376, true)), .build (.gen [(.int .i64 0), (.int .i64 0)]) [(1, 1, (.t 379))]⟩,
 ⟨some 381, (some (376, true)), .mov (.t 23)⟩,
 ⟨some 382, (some (376, true)), .mov (.t 23)⟩,
 ⟨some 383, (some (376, true)), .build (.gen [(.int .i64 0), (.int .i64 0)]) [(0, 1, (.t 381)), (1, 1, (.t 382))]⟩,
 ⟨some 384, (some (376, true)), .bslice 8385 40 2 [(.t 380), (.t 383)]⟩,
 ⟨some 385, (some (376, true)), .ncall true 0 45 [(.t 377), (.t 384)]⟩,
 ⟨some 386, none, .pick (.t 376) (.t 385) (.c (.bool false))⟩,
 ⟨some 6, none, .mov (.t 386)⟩]) (
 .gh [.keep [6]] (
 .ret)))))))))))))))))))))))))))))))))
def a8 : AFunc := ⟨387, c8, [.tmp 6]⟩
/-! 9 cassegrain/cassegrainlaw06.FrameDecodes params [23, 55] nfree 0 ntmps 40 -/
def c9 : ACode :=
 .seq (
 .reg none [
 ⟨some 2, none, .box 9003 23 (.t 0)⟩,
 ⟨some 4, none, .mov (.c (.bool false))⟩]) (
 .seq (
 .seq (
 .reg none [
 ⟨some 9, none, .ncall true 0 14 []⟩,
 ⟨some 10, none, .not (.t 9)⟩]) (
 .cond (.t 10) (
 .seq (
 .reg none [
 ⟨some 4, none, .mov (.c (.bool false))⟩]) (
 .ret)) (
 .skip))) (
 .seq (
 .seq (
 .reg none [
 ⟨some 11, none, .mov (.t 1)⟩,
 ⟨some 12, none, .len (.t 11)⟩,
 ⟨some 13, none, .bin .gtr (.t 12) (.c (.int .i64 32))⟩]) (
 .cond (.t 13) (
 .seq (
 .reg none [
 ⟨some 4, none, .mov (.c (.bool true))⟩]) (
 .ret)) (
 .skip))) (
 .seq (
 .reg (some [(0, 2), (0, 7), (1, 7), (2, 7), (3, 7), (4, 7), (5, 7), (6, 7), (6, 8)]) [
 ⟨some 15, none, .load true 2 (.t 2)⟩,
 ⟨some 16, none, .mov (.t 1)⟩,
 ⟨some 17, none, .ncall true 9018 55 [(.t 16)]⟩,
 ⟨some 18, none, .ncall true 9019 54 [(.t 15), (.t 17)]⟩,
 ⟨some 14, none, .mov (.t 18)⟩,
 ⟨some 19, none, .ext 0 (.t 14)⟩,
 ⟨some 20, none, .ext 1 (.t 14)⟩,
 ⟨some 5, none, .alloc 9006 74 (.agg (.gen [(.int .i64 0), (.int .i64 0), (.int .i64 0), .nils]))⟩,
 ⟨none, none, .store 4 (.t 5) (.t 19)⟩,
 ⟨some 6, none, .mov (.t 20)⟩]) (
 .gh [.keep [1, 2, 5, 6]] (
 .seq (
 .reg none [
 ⟨some 21, none, .load true 2 (.t 2)⟩,
 ⟨some 22, none, .ncall true 0 18 [(.t 21)]⟩,
 ⟨some 7, none, .mov (.t 22)⟩]) (
 .seq (
 .reg none [
 ⟨some 23, none, .build (.gen [(.int .i64 0), (.int .i64 0), (.int .i64 0), .nils]) []⟩,
 ⟨some 8, none, .alloc 9009 74 (.agg (.gen [(.int .i64 0), (.int .i64 0), (.int .i64 0), .nils]))⟩,
 ⟨none, none, .store 4 (.t 8) (.t 23)⟩]) (
 .seq (
 .seq (
 .reg none [
 ⟨some 24, none, .mov (.t 7)⟩,
 ⟨some 25, none, .bin .eql (.t 24) (.c (.int .i64 0))⟩]) (
 .cond (.t 25) (
 .reg none [
 ⟨some 27, none, .load true 2 (.t 2)⟩,
 ⟨some 28, none, .mov (.t 1)⟩,
 ⟨some 29, none, .ncall true 9030 56 [(.t 27), (.t 28)]⟩,
 ⟨some 26, none, .mov (.t 29)⟩,
 ⟨some 30, none, .ext 0 (.t 26)⟩,
 ⟨some 31, none, .ext 1 (.t 26)⟩,
 ⟨none, none, .store 4 (.t 8) (.t 30)⟩,
 ⟨some 7, none, .mov (.t 31)⟩]) (
 .skip))) (
 .seq (
 .reg none [
 ⟨some 32, none, .mov (.t 6)⟩,
 ⟨some 33, none, .mov (.t 7)⟩,
 ⟨some 34, none, .bin .eql (.t 32) (.t 33)⟩,
 ⟨some 35, none, .mov (.t 34)⟩,
 ⟨some 36, (some (35, true)), .load true 4 (.t 5)⟩,
 ⟨some 37, (some (35, true)), .load true 4 (.t 8)⟩,
 ⟨some 38, (some (35, true)), .ncall true 0 57 [(.t 36), (.t 37)]⟩,
 ⟨some 39, none, .pick (.t 35) (.t 38) (.c (.bool false))⟩,
 ⟨some 4, none, .mov (.t 39)⟩]) (
 .gh [.keep [4]] (
 .ret))))))))))
def a9 : AFunc := ⟨40, c9, [.tmp 4]⟩
/-! 10 cassegrain/cassegrainlaw06.FrameMixed params [23, 72, 55] nfree 0 ntmps 256 -/
def l10_0 : ACode :=
 .seq (
 .seq (
 .reg none [
 ⟨some 139, none, .mov (.t 13)⟩,
 ⟨some 140, none, .mov (.t 9)⟩,
 ⟨some 141, none, .len (.t 140)⟩,
 ⟨some 142, none, .bin .lss (.t 139) (.t 141)⟩]) (
 .cond (.t 142) (
 .skip) (
 .exit 2))) (
 .seq (
 .block 3 (
 .seq (
 .reg none [
 ⟨some 145, none, .mov (.t 12)⟩,
 ⟨some 146, none, .mov (.t 9)⟩,
 ⟨some 147, none, .mov (.t 13)⟩,
 ⟨some 148, none, .iaddr 4 (.t 146) (.t 147)⟩,
 ⟨some 149, none, .load true 4 (.t 148)⟩,
 ⟨some 150, none, .bslice 10151 74 4 [(.t 149)]⟩,
 ⟨some 151, none, .append 10152 74 4 (.t 145) (.t 150)⟩,
 ⟨some 12, none, .mov (.t 151)⟩]) (
 .gh [.keep [2, 3, 4, 7, 9, 12, 13]] (
 .seq (
 .reg none [
 ⟨some 152, none, .mov (.t 13)⟩,
 ⟨some 153, none, .mov (.t 2)⟩,
 ⟨some 154, none, .len (.t 153)⟩,
 ⟨some 155, none, .bin .lss (.t 152) (.t 154)⟩,
 ⟨some 156, none, .mov (.t 155)⟩,
 ⟨some 157, (some (156, true)), .mov (.t 2)⟩,
 ⟨some 158, (some (156, true)), .mov (.t 13)⟩,
 ⟨some 159, (some (156, true)), .iaddr 1 (.t 157) (.t 158)⟩,
 ⟨some 160, (some (156, true)), .load false 1 (.t 159)⟩,
 ⟨some 161, (some (156, true)), .ncall true 0 53 [(.t 160), (.c (.int .i64 3))]⟩,
 ⟨some 162, (some (156, true)), .bin .eql (.t 161) (.c (.int .i64 0))⟩,
 ⟨some 163, none, .pick (.t 156) (.t 162) (.c (.bool false))⟩]) (
 .gh [.keep [2, 3, 4, 7, 9, 12, 13, 163]] (
 .cond (.t 163) (
 .seq (
 .reg none [
 ⟨some 164, none, .mov (.t 9)⟩,
 ⟨some 165, none, .mov (.t 13)⟩,
 ⟨some 166, none, .iaddr 4 (.t 164) (.t 165)⟩,
 ⟨some 167, none, .load true 4 (.t 166)⟩,
 ⟨some 168, none, .ncall true 10169 40 [(.t 167)]⟩,
 ⟨some 14, none, .alloc 10015 74 (.agg (.gen [(.int .i64 0), (.int .i64 0), (.int .i64 0), .nils]))⟩,
 ⟨none, none, .store 4 (.t 14) (.t 168)⟩]) (
 .seq (
 .reg none [
 ⟨some 169, none, .faddr 0 (.t 14)⟩,
 ⟨some 170, none, .load false 1 (.t 169)⟩,
 ⟨some 171, none, .bin .add (.t 170) (.c (.int .i64 1))⟩,
 ⟨some 172, none, .faddr 1 (.t 3)⟩,
 ⟨some 173, none, .load false 1 (.t 172)⟩,
 ⟨some 174, none, .ncall true 0 53 [(.t 171), (.t 173)]⟩,
 ⟨some 175, none, .faddr 0 (.t 14)⟩,
 ⟨none, none, .store 1 (.t 175) (.t 174)⟩]) (
 .gh [.keep [2, 3, 4, 7, 9, 12, 13, 14]] (
 .reg (some [(0, 6), (0, 7), (1, 6)]) [
 ⟨some 176, none, .mov (.t 12)⟩,
 ⟨some 177, none, .load true 4 (.t 14)⟩,
 ⟨some 178, none, .mov (.t 9)⟩,
 ⟨some 179, none, .mov (.t 13)⟩,
 ⟨some 180, none, .iaddr 4 (.t 178) (.t 179)⟩,
 ⟨some 181, none, .load true 4 (.t 180)⟩,
 ⟨some 182, none, .ncall true 10183 40 [(.t 181)]⟩,
 ⟨some 183, none, .bslice 10184 74 4 [(.t 177), (.t 182)]⟩,
 ⟨some 184, none, .append 10185 74 4 (.t 176) (.t 183)⟩,
 ⟨some 12, none, .mov (.t 184)⟩])))) (
 .skip))))))) (
 .reg none [
 ⟨some 143, none, .mov (.t 13)⟩,
 ⟨some 144, none, .bin .add (.t 143) (.c (.int .i64 1))⟩,
 ⟨some 13, none, .mov (.t 144)⟩]))
def b10_0 : ACode := .gh [.keep [2, 3, 4, 7, 9, 12, 13]] (.gh [] l10_0)
def l10_1 : ACode :=
 .seq (
 .seq (
 .reg none [
 ⟨some 103, none, .mov (.t 10)⟩,
 ⟨some 104, none, .mov (.t 2)⟩,
 ⟨some 105, none, .len (.t 104)⟩,
 ⟨some 106, none, .bin .lss (.t 103) (.t 105)⟩,
 ⟨some 107, none, .mov (.t 106)⟩,
 ⟨some 108, (some (107, true)), .mov (.t 9)⟩,
 ⟨some 109, (some (107, true)), .len (.t 108)⟩,
 ⟨some 110, (some (107, true)), .bin .gtr (.t 109) (.c (.int .i64 2))⟩,
 ⟨some 111, none, .pick (.t 107) (.t 110) (.c (.bool false))⟩]) (
 .gh [.keep [2, 3, 4, 7, 9, 10, 111]] (
 .cond (.t 111) (
 .skip) (
 .exit 0)))) (
 .seq (
 .block 1 (
 .seq (
 .reg none [
 ⟨some 114, none, .mov (.t 2)⟩,
 ⟨some 115, none, .mov (.t 10)⟩,
 ⟨some 116, none, .iaddr 1 (.t 114) (.t 115)⟩,
 ⟨some 117, none, .load false 1 (.t 116)⟩,
 ⟨some 118, none, .mov (.t 9)⟩,
 ⟨some 119, none, .len (.t 118)⟩,
 ⟨some 120, none, .bin .sub (.t 119) (.c (.int .i64 2))⟩,
 ⟨some 121, none, .ncall true 0 53 [(.t 117), (.t 120)]⟩,
 ⟨some 122, none, .bin .add (.c (.int .i64 1)) (.t 121)⟩,
 ⟨some 11, none, .mov (.t 122)⟩]) (
 .gh [.keep [2, 3, 4, 7, 9, 10, 11]] (
 .reg (some [(2, 15), (3, 15), (4, 15)]) [
 ⟨some 123, none, .mov (.t 9)⟩,
 ⟨some 124, none, .mov (.t 11)⟩,
 ⟨some 125, none, .mov (.t 9)⟩,
 ⟨some 126, none, .mov (.t 11)⟩,
 ⟨some 127, none, .bin .add (.t 126) (.c (.int .i64 1))⟩,
 ⟨some 128, none, .mov (.t 9)⟩,
 ⟨some 129, none, .mov (.t 11)⟩,
 ⟨some 130, none, .bin .add (.t 129) (.c (.int .i64 1))⟩,
 ⟨some 131, none, .iaddr 4 (.t 128) (.t 130)⟩,
 ⟨some 132, none, .load true 4 (.t 131)⟩,
 ⟨some 133, none, .mov (.t 9)⟩,
 ⟨some 134, none, .mov (.t 11)⟩,
 ⟨some 135, none, .iaddr 4 (.t 133) (.t 134)⟩,
 ⟨some 136, none, .load true 4 (.t 135)⟩,
 ⟨some 137, none, .iaddr 4 (.t 123) (.t 124)⟩,
 ⟨none, none, .store 4 (.t 137) (.t 132)⟩,
 ⟨some 138, none, .iaddr 4 (.t 125) (.t 127)⟩,
 ⟨none, none, .store 4 (.t 138) (.t 136)⟩])))) (
 .reg none [
 ⟨some 112, none, .mov (.t 10)⟩,
 ⟨some 113, none, .bin .add (.t 112) (.c (.int .i64 1))⟩,
 ⟨some 10, none, .mov (.t 113)⟩]))
def b10_1 : ACode := .gh [.keep [2, 3, 4, 7, 9, 10]] (.gh [] l10_1)
def k10_0 : List AItem := .inLoop b10_0 :: [.inBlock 2,
 .code (.seq (
 .seq (
 .reg none [
 ⟨some 185, none, .mov (.t 12)⟩,
 ⟨some 186, none, .len (.t 185)⟩,
 ⟨some 187, none, .bin .gtr (.t 186) (.c (.int .i64 40))⟩]) (
 .cond (.t 187) (
 .seq (
 .reg none [
 ⟨some 6, none, .mov (.c (.bool true))⟩]) (
 .ret)) (
 .skip))) (
 .seq (
 .reg (some [(0, 5), (1, 5), (2, 5), (3, 5)]) [
 ⟨some 189, none, .load true 2 (.t 3)⟩,
 ⟨some 190, none, .faddr 0 (.t 4)⟩,
 ⟨some 191, none, .faddr 0 (.t 190)⟩,
 ⟨some 192, none, .load false 1 (.t 191)⟩,
 ⟨some 193, none, .mov (.t 7)⟩,
 ⟨some 194, none, .ncall true 10195 17 [(.t 193)]⟩,
 ⟨some 195, none, .ncall true 10196 16 [(.t 189), (.t 192), (.t 194)]⟩,
 ⟨some 188, none, .mov (.t 195)⟩,
 ⟨some 196, none, .ext 0 (.t 188)⟩,
 ⟨some 197, none, .ext 1 (.t 188)⟩,
 ⟨some 15, none, .mov (.t 196)⟩,
 ⟨some 16, none, .mov (.t 197)⟩]) (
 .gh [.keep [3, 4, 7, 12, 15, 16]] (
 .seq (
 .reg (some [(0, 5), (1, 5), (2, 5), (3, 5)]) [
 ⟨some 199, none, .load true 2 (.t 3)⟩,
 ⟨some 200, none, .faddr 0 (.t 4)⟩,
 ⟨some 201, none, .faddr 0 (.t 200)⟩,
 ⟨some 202, none, .load false 1 (.t 201)⟩,
 ⟨some 203, none, .mov (.t 12)⟩,
 ⟨some 204, none, .ncall true 10205 17 [(.t 203)]⟩,
 ⟨some 205, none, .ncall true 10206 16 [(.t 199), (.t 202), (.t 204)]⟩,
 ⟨some 198, none, .mov (.t 205)⟩,
 ⟨some 206, none, .ext 0 (.t 198)⟩,
 ⟨some 207, none, .ext 1 (.t 198)⟩,
 ⟨some 17, none, .mov (.t 206)⟩,
 ⟨some 18, none, .mov (.t 207)⟩]) (
 .gh [.keep [3, 4, 7, 12, 15, 16, 17, 18]] (
 .seq (
 .reg (some [(0, 5), (1, 5), (2, 5), (3, 5)]) [
 ⟨some 209, none, .load true 2 (.t 3)⟩,
 ⟨some 210, none, .faddr 0 (.t 4)⟩,
 ⟨some 211, none, .faddr 0 (.t 210)⟩,
 ⟨some 212, none, .load false 1 (.t 211)⟩,
 ⟨some 213, none, .mov (.t 12)⟩,
 ⟨some 214, none, .ncall true 10215 17 [(.t 213)]⟩,
 ⟨some 215, none, .ncall true 0 58 [(.t 209), (.t 212), (.t 214)]⟩,
 ⟨some 208, none, .mov (.t 215)⟩,
 ⟨some 216, none, .ext 0 (.t 208)⟩,
 ⟨some 217, none, .ext 1 (.t 208)⟩,
 ⟨some 19, none, .mov (.t 216)⟩,
 ⟨some 20, none, .mov (.t 217)⟩]) (
 .gh [.keep [3, 4, 7, 12, 15, 16, 17, 18, 19, 20]] (
 .seq (
 .reg (some [(0, 5), (1, 5), (2, 5), (3, 5)]) [
 ⟨some 219, none, .load true 2 (.t 3)⟩,
 ⟨some 220, none, .faddr 0 (.t 4)⟩,
 ⟨some 221, none, .faddr 0 (.t 220)⟩,
 ⟨some 222, none, .load false 1 (.t 221)⟩,
 ⟨some 223, none, .mov (.t 12)⟩,
 ⟨some 224, none, .ncall true 10225 17 [(.t 223)]⟩,
 ⟨some 225, none, .ncall true 10226 59 [(.t 219), (.t 222), (.t 224)]⟩,
 ⟨some 218, none, .mov (.t 225)⟩,
 ⟨some 226, none, .ext 0 (.t 218)⟩,
 ⟨some 227, none, .ext 1 (.t 218)⟩,
 ⟨some 21, none, .mov (.t 226)⟩,
 ⟨some 22, none, .mov (.t 227)⟩]) (
 .gh [.keep [7, 15, 16, 17, 18, 19, 20, 21, 22]] (
 .seq (
 .reg none [
 ⟨some 228, none, .mov (.t 16)⟩,
 ⟨some 229, none, .bin .eql (.t 228) (.c (.int .i64 0))⟩,
 ⟨some 230, none, .mov (.t 229)⟩,
 ⟨some 231, (some (230, true)), .mov (.t 18)⟩,
 ⟨some 232, (some (230, true)), .bin .eql (.t 231) (.c (.int .i64 0))⟩,
 ⟨some 233, none, .pick (.t 230) (.t 232) (.c (.bool false))⟩,
 ⟨some 234, none, .mov (.t 233)⟩,
 ⟨some 235, (some (234, true)), .mov (.t 15)⟩,
 ⟨some 236, (some (234, true)), .mov (.t 17)⟩,
 ⟨some 237, (some (234, true)), .ncall true 0 21 [(.t 235), (.t 236)]⟩,
 ⟨some 238, none, .pick (.t 234) (.t 237) (.c (.bool false))⟩,
 ⟨some 239, none, .mov (.t 238)⟩,
 ⟨some 240, (some (239, true)), .mov (.t 20)⟩,
 ⟨some 241, (some (239, true)), .bin .eql (.t 240) (.c (.int .i64 0))⟩,
 ⟨some 242, none, .pick (.t 239) (.t 241) (.c (.bool false))⟩,
 ⟨some 243, none, .mov (.t 242)⟩,
 ⟨some 244, (some (243, true)), .mov (.t 19)⟩,
 ⟨some 245, (some (243, true)), .bin .eql (.t 244) (.c (.int .i64 0))⟩,
 ⟨some 246, none, .pick (.t 243) (.t 245) (.c (.bool false))⟩,
 ⟨some 247, none, .mov (.t 246)⟩,
 ⟨some 248, (some (247, true)), .mov (.t 22)⟩,
 ⟨some 249, (some (247, true)), .bin .eql (.t 248) (.c (.int .i64 0))⟩,
 ⟨some 250, none, .pick (.t 247) (.t 249) (.c (.bool false))⟩,
 ⟨some 251, none, .mov (.t 250)⟩,
 ⟨some 252, (some (251, true)), .mov (.t 21)⟩,
 ⟨some 253, (some (251, true)), .mov (.t 7)⟩,
 ⟨some 254, (some (251, true)), .ncall true 0 38 [(.t 252), (.t 253)]⟩,
 ⟨some 255, none, .pick (.t 251) (.t 254) (.c (.bool false))⟩,
 ⟨some 6, none, .mov (.t 255)⟩]) (
 .gh [.keep [6]] (
 .ret))))))))))))]
def k10_1 : List AItem := .inLoop b10_1 :: [.inBlock 0,
 .code (.seq (
 .reg none [
 ⟨some 12, none, .mov (.c .nils)⟩]) (
 .seq (
 .seq (
 .reg none [
 ⟨some 13, none, .mov (.c (.int .i64 0))⟩]) (
 .block 2 (
 .loop b10_0))) (
 .seq (
 .seq (
 .reg none [
 ⟨some 185, none, .mov (.t 12)⟩,
 ⟨some 186, none, .len (.t 185)⟩,
 ⟨some 187, none, .bin .gtr (.t 186) (.c (.int .i64 40))⟩]) (
 .cond (.t 187) (
 .seq (
 .reg none [
 ⟨some 6, none, .mov (.c (.bool true))⟩]) (
 .ret)) (
 .skip))) (
 .seq (
 .reg (some [(0, 5), (1, 5), (2, 5), (3, 5)]) [
 ⟨some 189, none, .load true 2 (.t 3)⟩,
 ⟨some 190, none, .faddr 0 (.t 4)⟩,
 ⟨some 191, none, .faddr 0 (.t 190)⟩,
 ⟨some 192, none, .load false 1 (.t 191)⟩,
 ⟨some 193, none, .mov (.t 7)⟩,
 ⟨some 194, none, .ncall true 10195 17 [(.t 193)]⟩,
 ⟨some 195, none, .ncall true 10196 16 [(.t 189), (.t 192), (.t 194)]⟩,
 ⟨some 188, none, .mov (.t 195)⟩,
 ⟨some 196, none, .ext 0 (.t 188)⟩,
 ⟨some 197, none, .ext 1 (.t 188)⟩,
 ⟨some 15, none, .mov (.t 196)⟩,
 ⟨some 16, none, .mov (.t 197)⟩]) (
 .gh [.keep [3, 4, 7, 12, 15, 16]] (
 .seq (
 .reg (some [(0, 5), (1, 5), (2, 5), (3, 5)]) [
 ⟨some 199, none, .load true 2 (.t 3)⟩,
 ⟨some 200, none, .faddr 0 (.t 4)⟩,
 ⟨some 201, none, .faddr 0 (.t 200)⟩,
 ⟨some 202, none, .load false 1 (.t 201)⟩,
 ⟨some 203, none, .mov (.t 12)⟩,
 ⟨some 204, none, .ncall true 10205 17 [(.t 203)]⟩,
 ⟨some 205, none, .ncall true 10206 16 [(.t 199), (.t 202), (.t 204)]⟩,
 ⟨some 198, none, .mov (.t 205)⟩,
 ⟨some 206, none, .ext 0 (.t 198)⟩,
 ⟨some 207, none, .ext 1 (.t 198)⟩,
 ⟨some 17, none, .mov (.t 206)⟩,
 ⟨some 18, none, .mov (.t 207)⟩]) (
 .gh [.keep [3, 4, 7, 12, 15, 16, 17, 18]] (
 .seq (
 .reg (some [(0, 5), (1, 5), (2, 5), (3, 5)]) [
 ⟨some 209, none, .load true 2 (.t 3)⟩,
 ⟨some 210, none, .faddr 0 (.t 4)⟩,
 ⟨some 211, none, .faddr 0 (.t 210)⟩,
 ⟨some 212, none, .load false 1 (.t 211)⟩,
 ⟨some 213, none, .mov (.t 12)⟩,
 ⟨some 214, none, .ncall true 10215 17 [(.t 213)]⟩,
 ⟨some 215, none, .ncall true 0 58 [(.t 209), (.t 212), (.t 214)]⟩,
 ⟨some 208, none, .mov (.t 215)⟩,
 ⟨some 216, none, .ext 0 (.t 208)⟩,
 ⟨some 217, none, .ext 1 (.t 208)⟩,
 ⟨some 19, none, .mov (.t 216)⟩,
 ⟨some 20, none, .mov (.t 217)⟩]) (
 .gh [.keep [3, 4, 7, 12, 15, 16, 17, 18, 19, 20]] (
 .seq (
 .reg (some [(0, 5), (1, 5), (2, 5), (3, 5)]) [
 ⟨some 219, none, .load true 2 (.t 3)⟩,
 ⟨some 220, none, .faddr 0 (.t 4)⟩,
 ⟨some 221, none, .faddr 0 (.t 220)⟩,
 ⟨some 222, none, .load false 1 (.t 221)⟩,
 ⟨some 223, none, .mov (.t 12)⟩,
 ⟨some 224, none, .ncall true 10225 17 [(.t 223)]⟩,
 ⟨some 225, none, .ncall true 10226 59 [(.t 219), (.t 222), (.t 224)]⟩,
 ⟨some 218, none, .mov (.t 225)⟩,
 ⟨some 226, none, .ext 0 (.t 218)⟩,
 ⟨some 227, none, .ext 1 (.t 218)⟩,
 ⟨some 21, none, .mov (.t 226)⟩,
 ⟨some 22, none, .mov (.t 227)⟩]) (
 .gh [.keep [7, 15, 16, 17, 18, 19, 20, 21, 22]] (
 .seq (
 .reg none [
 ⟨some 228, none, .mov (.t 16)⟩,
 ⟨some 229, none, .bin .eql (.t 228) (.c (.int .i64 0))⟩,
 ⟨some 230, none, .mov (.t 229)⟩,
 ⟨some 231, (some (230, true)), .mov (.t 18)⟩,
 ⟨some 232, (some (230, true)), .bin .eql (.t 231) (.c (.int .i64 0))⟩,
 ⟨some 233, none, .pick (.t 230) (.t 232) (.c (.bool false))⟩,
 ⟨some 234, none, .mov (.t 233)⟩,
 ⟨some 235, (some (234, true)), .mov (.t 15)⟩,
 ⟨some 236, (some (234, true)), .mov (.t 17)⟩,
 ⟨some 237, (some (234, true)), .ncall true 0 21 [(.t 235), (.t 236)]⟩,
 ⟨some 238, none, .pick (.t 234) (.t 237) (.c (.bool false))⟩,
 ⟨some 239, none, .mov (.t 238)⟩,
 ⟨some 240, (some (239, true)), .mov (.t 20)⟩,
 ⟨some 241, (some (239, true)), .bin .eql (.t 240) (.c (.int .i64 0))⟩,
 ⟨some 242, none, .pick (.t 239) (.t 241) (.c (.bool false))⟩,
 ⟨some 243, none, .mov (.t 242)⟩,
 ⟨some 244, (some (243, true)), .mov (.t 19)⟩,
 ⟨some 245, (some (243, true)), .bin .eql (.t 244) (.c (.int .i64 0))⟩,
 ⟨some 246, none, .pick (.t 243) (.t 245) (.c (.bool false))⟩,
 ⟨some 247, none, .mov (.t 246)⟩,
 ⟨some 248, (some (247, true)), .mov (.t 22)⟩,
 ⟨some 249, (some (247, true)), .bin .eql (.t 248) (.c (.int .i64 0))⟩,
 ⟨some 250, none, .pick (.t 247) (.t 249) (.c (.bool false))⟩,
 ⟨some 251, none, .mov (.t 250)⟩,
 ⟨some 252, (some (251, true)), .mov (.t 21)⟩,
 ⟨some 253, (some (251, true)), .mov (.t 7)⟩,
 ⟨some 254, (some (251, true)), .ncall true 0 38 [(.t 252), (.t 253)]⟩,
 ⟨some 255, none, .pick (.t 251) (.t 254) (.c (.bool false))⟩,
 ⟨some 6, none, .mov (.t 255)⟩]) (
 .gh [.keep [6]] (
 .ret))))))))))))))]
def c10 : ACode :=
 .seq (
 .reg none [
 ⟨some 3, none, .box 10004 23 (.t 0)⟩,
 ⟨some 4, none, .box 10005 72 (.t 1)⟩,
 ⟨some 6, none, .mov (.c (.bool false))⟩]) (
 .seq (
 .seq (
 .reg none [
 ⟨some 23, none, .ncall true 0 14 []⟩,
 ⟨some 24, none, .not (.t 23)⟩]) (
 .cond (.t 24) (
 .seq (
 .reg none [
 ⟨some 6, none, .mov (.c (.bool false))⟩]) (
 .ret)) (
 .skip))) (
 .seq (
 .seq (
 .reg none [
 ⟨some 25, none, .faddr 2 (.t 4)⟩,
 ⟨some 26, none, .load false 1 (.t 25)⟩,
 ⟨some 27, none, .len (.t 26)⟩,
 ⟨some 28, none, .bin .gtr (.t 27) (.c (.int .i64 12))⟩,
 ⟨some 29, none, .mov (.t 28)⟩,
 ⟨some 30, (some (29, false)), .mov (.t 2)⟩,
 ⟨some 31, (some (29, false)), .len (.t 30)⟩,
 ⟨some 32, (some (29, false)), .bin .gtr (.t 31) (.c (.int .i64 16))⟩,
 ⟨some 33, none, .pick (.t 29) (.c (.bool true)) (.t 32)⟩,
 ⟨some 34, none, .mov (.t 33)⟩,
 ⟨some 35, (some (34, false)), .faddr 2 (.t 4)⟩,
 ⟨some 36, (some (34, false)), .load false 1 (.t 35)⟩,
 ⟨some 37, (some (34, false)), .ncall true 0 29 [(.t 36)]⟩,
 ⟨some 38, (some (34, false)), .not (.t 37)⟩,
 ⟨some 39, none, .pick (.t 34) (.c (.bool true)) (.t 38)⟩,
 ⟨some 40, none, .mov (.t 39)⟩,
 ⟨some 41, (some (40, false)), .load true 2 (.t 3)⟩,
 ⟨some 42, (some (40, false)), .ncall true 0 18 [(.t 41)]⟩,
 ⟨some 43, (some (40, false)), .bin .neq (.t 42) (.c (.int .i64 0))⟩,
 ⟨some 44, none, .pick (.t 40) (.c (.bool true)) (.t 43)⟩,
 ⟨some 45, none, .mov (.t 44)⟩,
 ⟨some 46, (some (45, false)), .faddr 1 (.t 3)⟩,
 ⟨some 47, (some (45, false)), .load false 1 (.t 46)⟩,
 ⟨some 48, (some (45, false)), .bin .lss (.t 47) (.c (.int .i64 2))⟩,
 ⟨some 49, none, .pick (.t 45) (.c (.bool true)) (.t 48)⟩,
 ⟨some 50, none, .mov (.t 49)⟩,
 ⟨some 51, (some (50, false)), .load true 2 (.t 3)⟩,
 ⟨some 52, (some (50, false)), .faddr 0 (.t 4)⟩,
 ⟨some 53, (some (50, false)), .faddr 0 (.t 52)⟩,
 ⟨some 54, (some (50, false)), .load false 1 (.t 53)⟩,
 ⟨some 55, (some (50, false)), .ncall true 0 19 [(.t 51), (.t 54)]⟩,
 ⟨some 56, (some (50, false)), .bin .neq (.t 55) (.c (.int .i64 0))⟩,
 ⟨some 57, none, .pick (.t 50) (.c (.bool true)) (.t 56)⟩,
 ⟨some 58, none, .mov (.t 57)⟩,
 ⟨some 59, (some (58, false)), .faddr 0 (.t 4)⟩,
 ⟨some 60, (some (58, false)), .faddr 1 (.t 59)⟩,
 ⟨some 61, (some (58, false)), .load false 1 (.t 60)⟩,
 ⟨some 62, (some (58, false)), .ncall true 0 27 [(.t 61), (.c (.int .i64 0)), (.c (.int .i64 63))]⟩,
 ⟨some 63, (some (58, false)), .not (.t 62)⟩,
 ⟨some 64, none, .pick (.t 58) (.c (.bool true)) (.t 63)⟩,
 ⟨some 65, none, .mov (.t 64)⟩,
 ⟨some 66, (some (65, false)), .faddr 2 (.t 4)⟩,
 ⟨some 67, (some (65, false)), .load false 1 (.t 66)⟩,
 ⟨some 68, (some (65, false)), .ncall true 0 36 [(.t 67)]⟩,
 ⟨some 69, (some (65, false)), .bin .neq (.t 68) (.c (.int .i64 0))⟩,
 ⟨some 70, none, .pick (.t 65) (.c (.bool true)) (.t 69)⟩,
 ⟨some 71, none, .mov (.t 70)⟩,
 ⟨some 72, (some (71, false)), .load true 2 (.t 3)⟩,
 ⟨some 73, (some (71, false)), .faddr 2 (.t 4)⟩,
 ⟨some 74, (some (71, false)), .load false 1 (.t 73)⟩,
 ⟨some 75, (some (71, false)), .ncall true 0 37 [(.t 72), (.t 74)]⟩,
 ⟨some 76, (some (71, false)), .bin .gtr (.t 75) (.c (.int .i64 16))⟩,
 ⟨some 77, none, .pick (.t 71) (.c (.bool true)) (.t 76)⟩]) (
 .gh [.keep [2, 3, 4, 77]] (
 .cond (.t 77) (
 .seq (
 .reg none [
 ⟨some 6, none, .mov (.c (.bool true))⟩]) (
 .ret)) (
 .skip)))) (
 .seq (
 .reg (some [(0, 5), (1, 5), (2, 5)]) [
 ⟨some 79, none, .load true 2 (.t 3)⟩,
 ⟨some 80, none, .faddr 0 (.t 4)⟩,
 ⟨some 81, none, .load true 2 (.t 80)⟩,
 ⟨some 82, none, .faddr 2 (.t 4)⟩,
 ⟨some 83, none, .load false 1 (.t 82)⟩,
 ⟨some 84, none, .ncall true 10085 34 [(.t 83)]⟩,
 ⟨some 85, none, .ncall true 10086 35 [(.t 79), (.t 81), (.t 84)]⟩,
 ⟨some 78, none, .mov (.t 85)⟩,
 ⟨some 86, none, .ext 0 (.t 78)⟩,
 ⟨some 87, none, .ext 1 (.t 78)⟩,
 ⟨some 7, none, .mov (.t 86)⟩,
 ⟨some 8, none, .mov (.t 87)⟩]) (
 .gh [.keep [2, 3, 4, 7, 8]] (
 .seq (
 .seq (
 .reg none [
 ⟨some 88, none, .mov (.t 8)⟩,
 ⟨some 89, none, .bin .neq (.t 88) (.c (.int .i64 0))⟩,
 ⟨some 90, none, .mov (.t 89)⟩,
 ⟨some 91, (some (90, false)), .mov (.t 7)⟩,
 ⟨some 92, (some (90, false)), .len (.t 91)⟩,
 ⟨some 93, (some (90, false)), .bin .gtr (.t 92) (.c (.int .i64 16))⟩,
 ⟨some 94, none, .pick (.t 90) (.c (.bool true)) (.t 93)⟩,
 ⟨some 95, none, .mov (.t 94)⟩,
 ⟨some 96, (some (95, false)), .load true 2 (.t 3)⟩,
 ⟨some 97, (some (95, false)), .mov (.t 7)⟩,
 ⟨some 98, (some (95, false)), .ncall true 0 20 [(.t 96), (.t 97)]⟩,
 ⟨some 99, (some (95, false)), .bin .neq (.t 98) (.c (.int .i64 0))⟩,
 ⟨some 100, none, .pick (.t 95) (.c (.bool true)) (.t 99)⟩]) (
 .gh [.keep [2, 3, 4, 7, 100]] (
 .cond (.t 100) (
 .seq (
 .reg none [
 ⟨some 6, none, .mov (.c (.bool false))⟩]) (
 .ret)) (
 .skip)))) (
 .seq (
 .reg none [
 ⟨some 101, none, .mov (.t 7)⟩,
 ⟨some 102, none, .ncall true 10103 17 [(.t 101)]⟩,
 ⟨some 9, none, .mov (.t 102)⟩]) (
 .seq (
 .seq (
 .reg none [
 ⟨some 10, none, .mov (.c (.int .i64 0))⟩]) (
 .block 0 (
 .loop b10_1))) (
 .seq (
 .reg none [
 ⟨some 12, none, .mov (.c .nils)⟩]) (
 .seq (
 .seq (
 .reg none [
 ⟨some 13, none, .mov (.c (.int .i64 0))⟩]) (
 .block 2 (
 .loop b10_0))) (
 .seq (
 .seq (
 .reg none [
 ⟨some 185, none, .mov (.t 12)⟩,
 ⟨some 186, none, .len (.t 185)⟩,
 ⟨some 187, none, .bin .gtr (.t 186) (.c (.int .i64 40))⟩]) (
 .cond (.t 187) (
 .seq (
 .reg none [
 ⟨some 6, none, .mov (.c (.bool true))⟩]) (
 .ret)) (
 .skip))) (
 .seq (
 .reg (some [(0, 5), (1, 5), (2, 5), (3, 5)]) [
 ⟨some 189, none, .load true 2 (.t 3)⟩,
 ⟨some 190, none, .faddr 0 (.t 4)⟩,
 ⟨some 191, none, .faddr 0 (.t 190)⟩,
 ⟨some 192, none, .load false 1 (.t 191)⟩,
 ⟨some 193, none, .mov (.t 7)⟩,
 ⟨some 194, none, .ncall true 10195 17 [(.t 193)]⟩,
 ⟨some 195, none, .ncall true 10196 16 [(.t 189), (.t 192), (.t 194)]⟩,
 ⟨some 188, none, .mov (.t 195)⟩,
 ⟨some 196, none, .ext 0 (.t 188)⟩,
 ⟨some 197, none, .ext 1 (.t 188)⟩,
 ⟨some 15, none, .mov (.t 196)⟩,
 ⟨some 16, none, .mov (.t 197)⟩]) (
 .gh [.keep [3, 4, 7, 12, 15, 16]] (
 .seq (
 .reg (some [(0, 5), (1, 5), (2, 5), (3, 5)]) [
 ⟨some 199, none, .load true 2 (.t 3)⟩,
 ⟨some 200, none, .faddr 0 (.t 4)⟩,
 ⟨some 201, none, .faddr 0 (.t 200)⟩,
 ⟨some 202, none, .load false 1 (.t 201)⟩,
 ⟨some 203, none, .mov (.t 12)⟩,
 ⟨some 204, none, .ncall true 10205 17 [(.t 203)]⟩,
 ⟨some 205, none, .ncall true 10206 16 [(.t 199), (.t 202), (.t 204)]⟩,
 ⟨some 198, none, .mov (.t 205)⟩,
 ⟨some 206, none, .ext 0 (.t 198)⟩,
 ⟨some 207, none, .ext 1 (.t 198)⟩,
 ⟨some 17, none, .mov (.t 206)⟩,
 ⟨some 18, none, .mov (.t 207)⟩]) (
 .gh [.keep [3, 4, 7, 12, 15, 16, 17, 18]] (
 .seq (
 .reg (some [(0, 5), (1, 5), (2, 5), (3, 5)]) [
 ⟨some 209, none, .load true 2 (.t 3)⟩,
 ⟨some 210, none, .faddr 0 (.t 4)⟩,
 ⟨some 211, none, .faddr 0 (.t 210)⟩,
 ⟨some 212, none, .load false 1 (.t 211)⟩,
 ⟨some 213, none, .mov (.t 12)⟩,
 ⟨some 214, none, .ncall true 10215 17 [(.t 213)]⟩,
 ⟨some 215, none, .ncall true 0 58 [(.t 209), (.t 212), (.t 214)]⟩,
 ⟨some 208, none, .mov (.t 215)⟩,
 ⟨some 216, none, .ext 0 (.t 208)⟩,
 ⟨some 217, none, .ext 1 (.t 208)⟩,
 ⟨some 19, none, .mov (.t 216)⟩,
 ⟨some 20, none, .mov (.t 217)⟩]) (
 .gh [.keep [3, 4, 7, 12, 15, 16, 17, 18, 19, 20]] (
 .seq (
 .reg (some [(0, 5), (1, 5), (2, 5), (3, 5)]) [
 ⟨some 219, none, .load true 2 (.t 3)⟩,
 ⟨some 220, none, .faddr 0 (.t 4)⟩,
 ⟨some 221, none, .faddr 0 (.t 220)⟩,
 ⟨some 222, none, .load false 1 (.t 221)⟩,
 ⟨some 223, none, .mov (.t 12)⟩,
 ⟨some 224, none, .ncall true 10225 17 [(.t 223)]⟩,
 ⟨some 225, none, .ncall true 10226 59 [(.t 219), (.t 222), (.t 224)]⟩,
 ⟨some 218, none, .mov (.t 225)⟩,
 ⟨some 226, none, .ext 0 (.t 218)⟩,
 ⟨some 227, none, .ext 1 (.t 218)⟩,
 ⟨some 21, none, .mov (.t 226)⟩,
 ⟨some 22, none, .mov (.t 227)⟩]) (
 .gh [.keep [7, 15, 16, 17, 18, 19, 20, 21, 22]] (
 .seq (
 .reg none [
 ⟨some 228, none, .mov (.t 16)⟩,
 ⟨some 229, none, .bin .eql (.t 228) (.c (.int .i64 0))⟩,
 ⟨some 230, none, .mov (.t 229)⟩,
 ⟨some 231, (some (230, true)), .mov (.t 18)⟩,
 ⟨some 232, (some (230, true)), .bin .eql (.t 231) (.c (.int .i64 0))⟩,
 ⟨some 233, none, .pick (.t 230) (.t 232) (.c (.bool false))⟩,
 ⟨some 234, none, .mov (.t 233)⟩,
 ⟨some 235, (some (234, true)), .mov (.t 15)⟩,
 ⟨some 236, (some (234, true)), .mov (.t 17)⟩,
 ⟨some 237, (some (234, true)), .ncall true 0 21 [(.t 235), (.t 236)]⟩,
 ⟨some 238, none, .pick (.t 234) (.t 237) (.c (.bool false))⟩,
 ⟨some 239, none, .mov (.t 238)⟩,
 ⟨some 240, (some (239, true)), .mov (.t 20)⟩,
 ⟨some 241, (some (239, true)), .bin .eql (.t 240) (.c (.int .i64 0))⟩,
 ⟨some 242, none, .pick (.t 239) (.t 241) (.c (.bool false))⟩,
 ⟨some 243, none, .mov (.t 242)⟩,
 ⟨some 244, (some (243, true)), .mov (.t 19)⟩,
 ⟨some 245, (some (243, true)), .bin .eql (.t 244) (.c (.int .i64 0))⟩,
 ⟨some 246, none, .pick (.t 243) (.t 245) (.c (.bool false))⟩,
 ⟨some 247, none, .mov (.t 246)⟩,
 ⟨some 248, (some (247, true)), .mov (.t 22)⟩,
 ⟨some 249, (some (247, true)), .bin .eql (.t 248) (.c (.int .i64 0))⟩,
 ⟨some 250, none, .pick (.t 247) (.t 249) (.c (.bool false))⟩,
 ⟨some 251, none, .mov (.t 250)⟩,
 ⟨some 252, (some (251, true)), .mov (.t 21)⟩,
 ⟨some 253, (some (251, true)), .mov (.t 7)⟩,
 ⟨some 254, (some (251, true)), .ncall true 0 38 [(.t 252), (.t 253)]⟩,
 ⟨some 255, none, .pick (.t 251) (.t 254) (.c (.bool false))⟩,
 ⟨some 6, none, .mov (.t 255)⟩]) (
 .gh [.keep [6]] (
 .ret)))))))))))))))))))))
def a10 : AFunc := ⟨256, c10, [.tmp 6]⟩
/-! 11 cassegrain/cassegrainlaw06.FrameFrames params [23, 74, 55] nfree 0 ntmps 116 -/
def c11 : ACode :=
 .seq (
 .reg none [
 ⟨some 3, none, .box 11004 23 (.t 0)⟩,
 ⟨some 4, none, .box 11005 74 (.t 1)⟩,
 ⟨some 6, none, .mov (.c (.bool false))⟩]) (
 .seq (
 .seq (
 .reg none [
 ⟨some 15, none, .ncall true 0 14 []⟩,
 ⟨some 16, none, .not (.t 15)⟩]) (
 .cond (.t 16) (
 .seq (
 .reg none [
 ⟨some 6, none, .mov (.c (.bool false))⟩]) (
 .ret)) (
 .skip))) (
 .seq (
 .seq (
 .reg none [
 ⟨some 17, none, .faddr 3 (.t 4)⟩,
 ⟨some 18, none, .load false 1 (.t 17)⟩,
 ⟨some 19, none, .len (.t 18)⟩,
 ⟨some 20, none, .bin .gtr (.t 19) (.c (.int .i64 32))⟩,
 ⟨some 21, none, .mov (.t 20)⟩,
 ⟨some 22, (some (21, false)), .mov (.t 2)⟩,
 ⟨some 23, (some (21, false)), .len (.t 22)⟩,
 ⟨some 24, (some (21, false)), .bin .gtr (.t 23) (.c (.int .i64 32))⟩,
 ⟨some 25, none, .pick (.t 21) (.c (.bool true)) (.t 24)⟩]) (
 .gh [.keep [2, 3, 4, 25]] (
 .cond (.t 25) (
 .seq (
 .reg none [
 ⟨some 6, none, .mov (.c (.bool true))⟩]) (
 .ret)) (
 .skip)))) (
 .seq (
 .reg none [
 ⟨some 27, none, .mov (.t 2)⟩,
 ⟨some 28, none, .ncall true 11029 55 [(.t 27)]⟩,
 ⟨some 29, none, .ncall true 0 60 [(.t 28)]⟩,
 ⟨some 26, none, .mov (.t 29)⟩,
 ⟨some 30, none, .ext 0 (.t 26)⟩,
 ⟨some 31, none, .ext 1 (.t 26)⟩,
 ⟨some 7, none, .mov (.t 30)⟩,
 ⟨some 8, none, .mov (.t 31)⟩]) (
 .gh [.keep [2, 3, 4, 7, 8]] (
 .seq (
 .seq (
 .reg none [
 ⟨some 32, none, .mov (.t 2)⟩,
 ⟨some 33, none, .ncall true 0 61 [(.t 32)]⟩,
 ⟨some 9, none, .mov (.t 33)⟩]) (
 .seq (
 .reg none [
 ⟨some 34, none, .mov (.t 9)⟩,
 ⟨some 35, none, .bin .neq (.t 34) (.c (.int .i64 0))⟩,
 ⟨some 36, none, .mov (.t 35)⟩,
 ⟨some 37, (some (36, true)), .mov (.t 8)⟩,
 ⟨some 38, (some (36, true)), .mov (.t 9)⟩,
 ⟨some 39, (some (36, true)), .bin .neq (.t 37) (.t 38)⟩,
 ⟨some 40, (some (36, true)), .mov (.t 39)⟩,
 ⟨some 41, (some (40, false)), .mov (.t 7)⟩,
 ⟨some 42, (some (40, false)), .bin .neq (.t 41) (.c (.int .i64 0))⟩,
 ⟨some 43, (some (36, true)), .pick (.t 40) (.c (.bool true)) (.t 42)⟩,
 ⟨some 44, none, .pick (.t 36) (.t 43) (.c (.bool false))⟩,
 ⟨some 45, none, .mov (.t 44)⟩,
 ⟨some 46, (some (45, false)), .mov (.t 9)⟩,
 ⟨some 47, (some (45, false)), .bin .eql (.t 46) (.c (.int .i64 0))⟩,
 ⟨some 48, (some (45, false)), .mov (.t 47)⟩,
 ⟨some 49, (some (48, true)), .mov (.t 8)⟩,
 ⟨some 50, (some (48, true)), .bin .neq (.t 49) (.c (.int .i64 0))⟩,
 ⟨some 51, (some (48, true)), .mov (.t 50)⟩,
 ⟨some 52, (some (51, false)), .mov (.t 7)⟩,
 ⟨some 53, (some (51, false)), .mov (.t 2)⟩,
 ⟨some 54, (some (51, false)), .ncall true 0 62 [(.t 53)]⟩,
 ⟨some 55, (some (51, false)), .bin .neq (.t 52) (.t 54)⟩,
 ⟨some 56, (some (48, true)), .pick (.t 51) (.c (.bool true)) (.t 55)⟩,
 ⟨some 57, (some (45, false)), .pick (.t 48) (.t 56) (.c (.bool false))⟩,
 ⟨some 58, none, .pick (.t 45) (.c (.bool true)) (.t 57)⟩]) (
 .gh [.keep [3, 4, 58]] (
 .cond (.t 58) (
 .seq (
 .reg none [
 ⟨some 6, none, .mov (.c (.bool false))⟩]) (
 .ret)) (
 .skip))))) (
 .seq (
 .reg none [
 ⟨some 59, none, .load true 2 (.t 3)⟩,
 ⟨some 60, none, .ncall true 0 18 [(.t 59)]⟩,
 ⟨some 10, none, .mov (.t 60)⟩]) (
 .seq (
 .seq (
 .reg none [
 ⟨some 61, none, .load true 2 (.t 3)⟩,
 ⟨some 62, none, .ncall true 0 63 [(.t 61)]⟩,
 ⟨some 63, none, .mov (.t 10)⟩,
 ⟨some 64, none, .bin .neq (.t 62) (.t 63)⟩]) (
 .cond (.t 64) (
 .seq (
 .reg none [
 ⟨some 6, none, .mov (.c (.bool false))⟩]) (
 .ret)) (
 .skip))) (
 .seq (
 .seq (
 .reg none [
 ⟨some 65, none, .mov (.t 10)⟩,
 ⟨some 66, none, .bin .eql (.t 65) (.c (.int .i64 0))⟩]) (
 .cond (.t 66) (
 .reg none [
 ⟨some 67, none, .load true 2 (.t 3)⟩,
 ⟨some 68, none, .load true 4 (.t 4)⟩,
 ⟨some 69, none, .ncall true 0 64 [(.t 67), (.t 68)]⟩,
 ⟨some 10, none, .mov (.t 69)⟩]) (
 .skip))) (
 .seq (
 .reg (some [(0, 2)]) [
 ⟨some 71, none, .load true 2 (.t 3)⟩,
 ⟨some 72, none, .load true 4 (.t 4)⟩,
 ⟨some 73, none, .ncall true 11074 40 [(.t 72)]⟩,
 ⟨some 74, none, .ncall true 11075 65 [(.t 71), (.t 73)]⟩,
 ⟨some 70, none, .mov (.t 74)⟩,
 ⟨some 75, none, .ext 0 (.t 70)⟩,
 ⟨some 76, none, .ext 1 (.t 70)⟩,
 ⟨some 11, none, .mov (.t 75)⟩,
 ⟨some 12, none, .mov (.t 76)⟩]) (
 .gh [.keep [3, 4, 10, 11, 12]] (
 .seq (
 .seq (
 .reg (some [(0, 2), (2, 4)]) [
 ⟨some 77, none, .load true 2 (.t 3)⟩,
 ⟨some 78, none, .load true 4 (.t 4)⟩,
 ⟨some 79, none, .ncall true 11080 40 [(.t 78)]⟩,
 ⟨some 80, none, .ncall true 0 66 [(.t 77), (.t 79)]⟩,
 ⟨some 81, none, .mov (.t 10)⟩,
 ⟨some 82, none, .bin .neq (.t 80) (.t 81)⟩]) (
 .cond (.t 82) (
 .seq (
 .reg none [
 ⟨some 6, none, .mov (.c (.bool false))⟩]) (
 .ret)) (
 .skip))) (
 .seq (
 .seq (
 .reg none [
 ⟨some 83, none, .mov (.t 10)⟩,
 ⟨some 84, none, .bin .neq (.t 83) (.c (.int .i64 0))⟩]) (
 .cond (.t 84) (
 .seq (
 .reg none [
 ⟨some 85, none, .mov (.t 12)⟩,
 ⟨some 86, none, .mov (.t 10)⟩,
 ⟨some 87, none, .bin .eql (.t 85) (.t 86)⟩,
 ⟨some 88, none, .mov (.t 87)⟩,
 ⟨some 89, (some (88, true)), .mov (.t 11)⟩,
 ⟨some 90, (some (88, true)), .len (.t 89)⟩,
 ⟨some 91, (some (88, true)), .bin .eql (.t 90) (.c (.int .i64 0))⟩,
 ⟨some 92, none, .pick (.t 88) (.t 91) (.c (.bool false))⟩,
 ⟨some 6, none, .mov (.t 92)⟩]) (
 .gh [.keep [6]] (
 .ret))) (
 .skip))) (
 .seq (
 .seq (
 .reg none [
 ⟨some 93, none, .mov (.t 12)⟩,
 ⟨some 94, none, .bin .neq (.t 93) (.c (.int .i64 0))⟩,
 ⟨some 95, none, .mov (.t 94)⟩,
 ⟨some 96, (some (95, false)), .mov (.t 11)⟩,
 ⟨some 97, (some (95, false)), .load true 4 (.t 4)⟩,
 ⟨some 98, (some (95, false)), .ncall true 11099 68 [(.t 97)]⟩,
 ⟨some 99, (some (95, false)), .ncall true 0 67 [(.t 96), (.t 98)]⟩,
 ⟨some 100, (some (95, false)), .not (.t 99)⟩,
 ⟨some 101, none, .pick (.t 95) (.c (.bool true)) (.t 100)⟩]) (
 .gh [.keep [3, 4, 11, 101]] (
 .cond (.t 101) (
 .seq (
 .reg none [
 ⟨some 6, none, .mov (.c (.bool false))⟩]) (
 .ret)) (
 .skip)))) (
 .seq (
 .reg (some [(0, 2), (0, 7), (1, 7), (2, 7), (3, 7), (4, 7), (5, 7), (6, 7), (6, 8)]) [
 ⟨some 103, none, .load true 2 (.t 3)⟩,
 ⟨some 104, none, .mov (.t 11)⟩,
 ⟨some 105, none, .ncall true 11106 55 [(.t 104)]⟩,
 ⟨some 106, none, .ncall true 11107 54 [(.t 103), (.t 105)]⟩,
 ⟨some 102, none, .mov (.t 106)⟩,
 ⟨some 107, none, .ext 0 (.t 102)⟩,
 ⟨some 108, none, .ext 1 (.t 102)⟩,
 ⟨some 13, none, .alloc 11014 74 (.agg (.gen [(.int .i64 0), (.int .i64 0), (.int .i64 0), .nils]))⟩,
 ⟨none, none, .store 4 (.t 13) (.t 107)⟩,
 ⟨some 14, none, .mov (.t 108)⟩]) (
 .gh [.keep [4, 13, 14]] (
 .seq (
 .reg none [
 ⟨some 109, none, .mov (.t 14)⟩,
 ⟨some 110, none, .bin .eql (.t 109) (.c (.int .i64 0))⟩,
 ⟨some 111, none, .mov (.t 110)⟩,
 ⟨some 112, (some (111, true)), .load true 4 (.t 13)⟩,
 ⟨some 113, (some (111, true)), .load true 4 (.t 4)⟩,
 ⟨some 114, (some (111, true)), .ncall true 0 57 [(.t 112), (.t 113)]⟩,
 ⟨some 115, none, .pick (.t 111) (.t 114) (.c (.bool false))⟩,
 ⟨some 6, none, .mov (.t 115)⟩]) (
 .gh [.keep [6]] (
 .ret))))))))))))))))))
def a11 : AFunc := ⟨116, c11, [.tmp 6]⟩
/-! 12 cassegrain/cassegrainlaw06.FrameChanges params [23, 74, 118] nfree 0 ntmps 139 -/
def c12 : ACode :=
 .seq (
 .reg none [
 ⟨some 3, none, .box 12004 23 (.t 0)⟩,
 ⟨some 4, none, .box 12005 74 (.t 1)⟩,
 ⟨some 5, none, .box 12006 118 (.t 2)⟩,
 ⟨some 6, none, .mov (.c (.bool false))⟩]) (
 .seq (
 .seq (
 .reg none [
 ⟨some 17, none, .ncall true 0 14 []⟩,
 ⟨some 18, none, .not (.t 17)⟩]) (
 .cond (.t 18) (
 .seq (
 .reg none [
 ⟨some 6, none, .mov (.c (.bool false))⟩]) (
 .ret)) (
 .skip))) (
 .seq (
 .seq (
 .reg none [
 ⟨some 19, none, .load true 2 (.t 3)⟩,
 ⟨some 20, none, .ncall true 0 18 [(.t 19)]⟩,
 ⟨some 21, none, .bin .neq (.t 20) (.c (.int .i64 0))⟩,
 ⟨some 22, none, .mov (.t 21)⟩,
 ⟨some 23, (some (22, false)), .load true 2 (.t 3)⟩,
 ⟨some 24, (some (22, false)), .load true 4 (.t 4)⟩,
 ⟨some 25, (some (22, false)), .ncall true 0 64 [(.t 23), (.t 24)]⟩,
 ⟨some 26, (some (22, false)), .bin .neq (.t 25) (.c (.int .i64 0))⟩,
 ⟨some 27, none, .pick (.t 22) (.c (.bool true)) (.t 26)⟩]) (
 .gh [.keep [3, 4, 5, 27]] (
 .cond (.t 27) (
 .seq (
 .reg none [
 ⟨some 6, none, .mov (.c (.bool true))⟩]) (
 .ret)) (
 .skip)))) (
 .seq (
 .reg (some [(0, 2)]) [
 ⟨some 29, none, .load true 2 (.t 3)⟩,
 ⟨some 30, none, .load true 4 (.t 4)⟩,
 ⟨some 31, none, .ncall true 12032 40 [(.t 30)]⟩,
 ⟨some 32, none, .ncall true 12033 65 [(.t 29), (.t 31)]⟩,
 ⟨some 28, none, .mov (.t 32)⟩,
 ⟨some 33, none, .ext 0 (.t 28)⟩,
 ⟨some 34, none, .ext 1 (.t 28)⟩,
 ⟨some 7, none, .mov (.t 33)⟩,
 ⟨some 8, none, .mov (.t 34)⟩]) (
 .gh [.keep [3, 5, 7, 8]] (
 .seq (
 .seq (
 .reg none [
 ⟨some 35, none, .mov (.t 8)⟩,
 ⟨some 36, none, .bin .neq (.t 35) (.c (.int .i64 0))⟩,
 ⟨some 37, none, .mov (.t 36)⟩,
 ⟨some 38, (some (37, false)), .mov (.t 7)⟩,
 ⟨some 39, (some (37, false)), .len (.t 38)⟩,
 ⟨some 40, (some (37, false)), .faddr 0 (.t 3)⟩,
 ⟨some 41, (some (37, false)), .load false 1 (.t 40)⟩,
 ⟨some 42, (some (37, false)), .bin .add (.t 41) (.c (.int .i64 5))⟩,
 ⟨some 43, (some (37, false)), .bin .neq (.t 39) (.t 42)⟩,
 ⟨some 44, none, .pick (.t 37) (.c (.bool true)) (.t 43)⟩,
 ⟨some 45, none, .mov (.t 44)⟩,
 ⟨some 46, (some (45, false)), .mov (.t 7)⟩,
 ⟨some 47, (some (45, false)), .ncall true 0 69 [(.t 46)]⟩,
 ⟨some 48, (some (45, false)), .bin .neq (.t 47) (.c (.int .i64 0))⟩,
 ⟨some 49, none, .pick (.t 45) (.c (.bool true)) (.t 48)⟩]) (
 .gh [.keep [3, 5, 7, 49]] (
 .cond (.t 49) (
 .seq (
 .reg none [
 ⟨some 6, none, .mov (.c (.bool false))⟩]) (
 .ret)) (
 .skip)))) (
 .seq (
 .reg none [
 ⟨some 50, none, .aaddr 2 1 (.t 5) (.c (.int .i64 0))⟩,
 ⟨some 51, none, .load false 1 (.t 50)⟩,
 ⟨some 52, none, .mov (.t 7)⟩,
 ⟨some 53, none, .len (.t 52)⟩,
 ⟨some 54, none, .ncall true 0 53 [(.t 51), (.t 53)]⟩,
 ⟨some 9, none, .mov (.t 54)⟩]) (
 .seq (
 .reg none [
 ⟨some 55, none, .aaddr 2 1 (.t 5) (.c (.int .i64 1))⟩,
 ⟨some 56, none, .load false 1 (.t 55)⟩,
 ⟨some 57, none, .ncall true 0 53 [(.t 56), (.c (.int .i64 256))]⟩,
 ⟨some 10, none, .mov (.t 57)⟩]) (
 .seq (
 .seq (
 .reg none [
 ⟨some 58, none, .mov (.t 10)⟩,
 ⟨some 59, none, .mov (.t 7)⟩,
 ⟨some 60, none, .mov (.t 9)⟩,
 ⟨some 61, none, .iaddr 1 (.t 59) (.t 60)⟩,
 ⟨some 62, none, .load false 1 (.t 61)⟩,
 ⟨some 63, none, .bin .neq (.t 58) (.t 62)⟩,
 ⟨some 64, none, .mov (.t 63)⟩,
 ⟨some 65, (some (64, true)), .mov (.t 10)⟩,
 ⟨some 66, (some (64, true)), .mov (.t 7)⟩,
 ⟨some 67, (some (64, true)), .mov (.t 9)⟩,
 ⟨some 68, (some (64, true)), .iaddr 1 (.t 66) (.t 67)⟩,
 ⟨some 69, (some (64, true)), .load false 1 (.t 68)⟩,
 ⟨some 70, (some (64, true)), .bin .sub (.t 65) (.t 69)⟩,
 ⟨some 71, (some (64, true)), .ncall true 0 70 [(.t 70)]⟩,
 ⟨some 72, (some (64, true)), .bin .neq (.t 71) (.c (.int .i64 251))⟩,
 ⟨some 73, none, .pick (.t 64) (.t 72) (.c (.bool false))⟩]) (
 .gh [.keep [3, 7, 9, 10, 73]] (
 .cond (.t 73) (
 .seq (
 .reg none [
 ⟨some 74, none, .mov (.t 7)⟩,
 ⟨some 75, none, .ncall true 12076 55 [(.t 74)]⟩,
 ⟨some 11, none, .mov (.t 75)⟩]) (
 .seq (
 .reg none [
 ⟨some 76, none, .mov (.t 11)⟩,
 ⟨some 77, none, .mov (.t 9)⟩,
 ⟨some 78, none, .mov (.t 10)⟩,
 ⟨some 79, none, .iaddr 1 (.t 76) (.t 77)⟩,
 ⟨none, none, .store 1 (.t 79) (.t 78)⟩]) (
 .seq (
 .reg none [
 ⟨some 81, none, .load true 2 (.t 3)⟩,
 ⟨some 82, none, .mov (.t 11)⟩,
 ⟨some 83, none, .ncall true 12084 54 [(.t 81), (.t 82)]⟩,
 ⟨some 80, none, .mov (.t 83)⟩,
 ⟨some 84, none, .ext 0 (.t 80)⟩,
 ⟨some 85, none, .ext 1 (.t 80)⟩,
 ⟨some 12, none, .alloc 12013 74 (.agg (.gen [(.int .i64 0), (.int .i64 0), (.int .i64 0), .nils]))⟩,
 ⟨none, none, .store 4 (.t 12) (.t 84)⟩,
 ⟨some 13, none, .mov (.t 85)⟩]) (
 .gh [.keep [3, 7, 9, 12, 13]] (
 .seq (
 .reg none [
 ⟨some 86, none, .mov (.t 13)⟩,
 ⟨some 87, none, .bin .neq (.t 86) (.c (.int .i64 20))⟩,
 ⟨some 88, none, .mov (.t 87)⟩,
 ⟨some 89, (some (88, false)), .load true 4 (.t 12)⟩,
 ⟨some 90, (some (88, false)), .build (.gen [(.int .i64 0), (.int .i64 0), (.int .i64 0), .nils]) []⟩,
 ⟨some 91, (some (88, false)), .ncall true 0 57 [(.t 89), (.t 90)]⟩,
 ⟨some 92, (some (88, false)), .not (.t 91)⟩,
 ⟨some 93, none, .pick (.t 88) (.c (.bool true)) (.t 92)⟩]) (
 .gh [.keep [3, 7, 9, 93]] (
 .cond (.t 93) (
 .seq (
 .reg none [
 ⟨some 6, none, .mov (.c (.bool false))⟩]) (
 .ret)) (
 .skip)))))))) (
 .skip)))) (
 .seq (
 .seq (
 .reg (some []) [
 ⟨some 94, none, .mov (.t 9)⟩,
 ⟨some 95, none, .bin .add (.t 94) (.c (.int .i64 1))⟩,
 ⟨some 96, none, .mov (.t 7)⟩,
 ⟨some 97, none, .len (.t 96)⟩,
 ⟨some 98, none, .bin .eql (.t 95) (.t 97)⟩,
 ⟨some 99, none, .mov (.t 98)⟩,
 ⟨some 100, (some (99, false)), .mov (.t 7)⟩,
 ⟨some 101, (some (99, false)), .mov (.t 9)⟩,
 ⟨some 102, (some (99, false)), .iaddr 1 (.t 100) (.t 101)⟩,
 ⟨some 103, (some (99, false)), .load false 1 (.t 102)⟩,
 ⟨some 104, (some (99, false)), .mov (.t 7)⟩,
 ⟨some 105, (some (99, false)), .mov (.t 9)⟩,
 ⟨some 106, (some (99, false)), .bin .add (.t 105) (.c (.int .i64 1))⟩,
 ⟨some 107, (some (99, false)), .iaddr 1 (.t 104) (.t 106)⟩,
 ⟨some 108, (some (99, false)), .load false 1 (.t 107)⟩,
 ⟨some 109, (some (99, false)), .bin .sub (.t 103) (.t 108)⟩,
 ⟨some 110, (some (99, false)), .ncall true 0 53 [(.t 109), (.c (.int .i64 251))]⟩,
 ⟨some 111, (some (99, false)), .bin .eql (.t 110) (.c (.int .i64 0))⟩,
 ⟨some 112, none, .pick (.t 99) (.c (.bool true)) (.t 111)⟩]) (
 .gh [.keep [3, 7, 9, 112]] (
 .cond (.t 112) (
 .seq (
 .reg none [
 ⟨some 6, none, .mov (.c (.bool true))⟩]) (
 .ret)) (
 .skip)))) (
 .seq (
 .reg none [
 ⟨some 113, none, .mov (.t 7)⟩,
 ⟨some 114, none, .ncall true 12115 55 [(.t 113)]⟩,
 ⟨some 14, none, .mov (.t 114)⟩]) (
 .seq (
 .reg (some [(2, 15), (3, 15), (4, 15)]) [
 ⟨some 115, none, .mov (.t 14)⟩,
 ⟨some 116, none, .mov (.t 9)⟩,
 ⟨some 117, none, .mov (.t 14)⟩,
 ⟨some 118, none, .mov (.t 9)⟩,
 ⟨some 119, none, .bin .add (.t 118) (.c (.int .i64 1))⟩,
 ⟨some 120, none, .mov (.t 7)⟩,
 ⟨some 121, none, .mov (.t 9)⟩,
 ⟨some 122, none, .bin .add (.t 121) (.c (.int .i64 1))⟩,
 ⟨some 123, none, .iaddr 1 (.t 120) (.t 122)⟩,
 ⟨some 124, none, .load false 1 (.t 123)⟩,
 ⟨some 125, none, .mov (.t 7)⟩,
 ⟨some 126, none, .mov (.t 9)⟩,
 ⟨some 127, none, .iaddr 1 (.t 125) (.t 126)⟩,
 ⟨some 128, none, .load false 1 (.t 127)⟩,
 ⟨some 129, none, .iaddr 1 (.t 115) (.t 116)⟩,
 ⟨none, none, .store 1 (.t 129) (.t 124)⟩,
 ⟨some 130, none, .iaddr 1 (.t 117) (.t 119)⟩,
 ⟨none, none, .store 1 (.t 130) (.t 128)⟩]) (
 .gh [.keep [3, 14]] (
 .seq (
 .reg none [
 ⟨some 132, none, .load true 2 (.t 3)⟩,
 ⟨some 133, none, .mov (.t 14)⟩,
 ⟨some 134, none, .ncall true 12135 54 [(.t 132), (.t 133)]⟩,
 ⟨some 131, none, .mov (.t 134)⟩,
 ⟨some 135, none, .ext 0 (.t 131)⟩,
 ⟨some 136, none, .ext 1 (.t 131)⟩,
 ⟨some 15, none, .alloc 12016 74 (.agg (.gen [(.int .i64 0), (.int .i64 0), (.int .i64 0), .nils]))⟩,
 ⟨none, none, .store 4 (.t 15) (.t 135)⟩,
 ⟨some 16, none, .mov (.t 136)⟩]) (
 .gh [.keep [16]] (
 .seq (
 .reg none [
 ⟨some 137, none, .mov (.t 16)⟩,
 ⟨some 138, none, .bin .eql (.t 137) (.c (.int .i64 20))⟩,
 ⟨some 6, none, .mov (.t 138)⟩]) (
 .ret))))))))))))))))
def a12 : AFunc := ⟨139, c12, [.tmp 6]⟩
/-! 13 cassegrain/cassegrainlaw06.FrameOrders params [23, 3, 24] nfree 0 ntmps 159 -/
def c13 : ACode :=
 .seq (
 .reg none [
 ⟨some 3, none, .box 13004 23 (.t 0)⟩,
 ⟨some 6, none, .mov (.c (.bool false))⟩]) (
 .seq (
 .seq (
 .reg none [
 ⟨some 18, none, .ncall true 0 14 []⟩,
 ⟨some 19, none, .not (.t 18)⟩]) (
 .cond (.t 19) (
 .seq (
 .reg none [
 ⟨some 6, none, .mov (.c (.bool false))⟩]) (
 .ret)) (
 .skip))) (
 .seq (
 .seq (
 .reg none [
 ⟨some 20, none, .mov (.t 2)⟩,
 ⟨some 21, none, .ncall true 0 15 [(.t 20)]⟩,
 ⟨some 22, none, .not (.t 21)⟩]) (
 .cond (.t 22) (
 .seq (
 .reg none [
 ⟨some 6, none, .mov (.c (.bool true))⟩]) (
 .ret)) (
 .skip))) (
 .seq (
 .reg (some [(0, 3), (1, 3)]) [
 ⟨some 24, none, .load true 2 (.t 3)⟩,
 ⟨some 25, none, .mov (.t 1)⟩,
 ⟨some 26, none, .mov (.t 2)⟩,
 ⟨some 27, none, .ncall true 13028 17 [(.t 26)]⟩,
 ⟨some 28, none, .ncall true 13029 59 [(.t 24), (.t 25), (.t 27)]⟩,
 ⟨some 23, none, .mov (.t 28)⟩,
 ⟨some 29, none, .ext 0 (.t 23)⟩,
 ⟨some 30, none, .ext 1 (.t 23)⟩,
 ⟨some 7, none, .mov (.t 29)⟩,
 ⟨some 8, none, .mov (.t 30)⟩]) (
 .gh [.keep [1, 2, 3, 7, 8]] (
 .seq (
 .reg (some [(0, 3), (1, 3)]) [
 ⟨some 32, none, .load true 2 (.t 3)⟩,
 ⟨some 33, none, .mov (.t 1)⟩,
 ⟨some 34, none, .mov (.t 2)⟩,
 ⟨some 35, none, .ncall true 13036 17 [(.t 34)]⟩,
 ⟨some 36, none, .ncall true 0 58 [(.t 32), (.t 33), (.t 35)]⟩,
 ⟨some 31, none, .mov (.t 36)⟩,
 ⟨some 37, none, .ext 0 (.t 31)⟩,
 ⟨some 38, none, .ext 1 (.t 31)⟩,
 ⟨some 9, none, .mov (.t 37)⟩,
 ⟨some 10, none, .mov (.t 38)⟩]) (
 .gh [.keep [1, 2, 3, 7, 8, 9, 10]] (
 .seq (
 .reg (some [(0, 3), (0, 8), (1, 3), (1, 8), (2, 8), (3, 8), (4, 8), (5, 8), (6, 8), (7, 8), (7, 9)]) [
 ⟨some 40, none, .load true 2 (.t 3)⟩,
 ⟨some 41, none, .mov (.t 1)⟩,
 ⟨some 42, none, .mov (.t 2)⟩,
 ⟨some 43, none, .ncall true 13044 17 [(.t 42)]⟩,
 ⟨some 44, none, .ncall true 0 71 [(.t 40), (.t 41), (.t 43)]⟩,
 ⟨some 39, none, .mov (.t 44)⟩,
 ⟨some 45, none, .ext 0 (.t 39)⟩,
 ⟨some 46, none, .ext 1 (.t 39)⟩,
 ⟨some 11, none, .alloc 13012 79 (.agg (.gen [(.int .i64 0), (.int .i64 0)]))⟩,
 ⟨none, none, .store 2 (.t 11) (.t 45)⟩,
 ⟨some 12, none, .mov (.t 46)⟩]) (
 .gh [.keep [1, 2, 3, 7, 8, 9, 10, 11, 12]] (
 .seq (
 .reg none [
 ⟨some 47, none, .load true 2 (.t 3)⟩,
 ⟨some 48, none, .ncall true 0 18 [(.t 47)]⟩,
 ⟨some 13, none, .mov (.t 48)⟩]) (
 .seq (
 .seq (
 .reg none [
 ⟨some 49, none, .mov (.t 13)⟩,
 ⟨some 50, none, .bin .eql (.t 49) (.c (.int .i64 0))⟩]) (
 .cond (.t 50) (
 .reg none [
 ⟨some 51, none, .load true 2 (.t 3)⟩,
 ⟨some 52, none, .mov (.t 1)⟩,
 ⟨some 53, none, .ncall true 0 19 [(.t 51), (.t 52)]⟩,
 ⟨some 13, none, .mov (.t 53)⟩]) (
 .skip))) (
 .seq (
 .seq (
 .reg none [
 ⟨some 54, none, .mov (.t 13)⟩,
 ⟨some 55, none, .bin .eql (.t 54) (.c (.int .i64 0))⟩]) (
 .cond (.t 55) (
 .reg none [
 ⟨some 56, none, .load true 2 (.t 3)⟩,
 ⟨some 57, none, .mov (.t 2)⟩,
 ⟨some 58, none, .ncall true 0 20 [(.t 56), (.t 57)]⟩,
 ⟨some 13, none, .mov (.t 58)⟩]) (
 .skip))) (
 .seq (
 .seq (
 .reg none [
 ⟨some 59, none, .mov (.t 13)⟩,
 ⟨some 60, none, .bin .neq (.t 59) (.c (.int .i64 0))⟩]) (
 .cond (.t 60) (
 .seq (
 .reg none [
 ⟨some 61, none, .mov (.t 8)⟩,
 ⟨some 62, none, .mov (.t 13)⟩,
 ⟨some 63, none, .bin .eql (.t 61) (.t 62)⟩,
 ⟨some 64, none, .mov (.t 63)⟩,
 ⟨some 65, (some (64, true)), .mov (.t 10)⟩,
 ⟨some 66, (some (64, true)), .mov (.t 13)⟩,
 ⟨some 67, (some (64, true)), .bin .eql (.t 65) (.t 66)⟩,
 ⟨some 68, none, .pick (.t 64) (.t 67) (.c (.bool false))⟩,
 ⟨some 69, none, .mov (.t 68)⟩,
 ⟨some 70, (some (69, true)), .mov (.t 12)⟩,
 ⟨some 71, (some (69, true)), .mov (.t 13)⟩,
 ⟨some 72, (some (69, true)), .bin .eql (.t 70) (.t 71)⟩,
 ⟨some 73, none, .pick (.t 69) (.t 72) (.c (.bool false))⟩,
 ⟨some 74, none, .mov (.t 73)⟩,
 ⟨some 75, (some (74, true)), .mov (.t 7)⟩,
 ⟨some 76, (some (74, true)), .len (.t 75)⟩,
 ⟨some 77, (some (74, true)), .bin .eql (.t 76) (.c (.int .i64 0))⟩,
 ⟨some 78, none, .pick (.t 74) (.t 77) (.c (.bool false))⟩,
 ⟨some 79, none, .mov (.t 78)⟩,
 ⟨some 80, (some (79, true)), .mov (.t 9)⟩,
 ⟨some 81, (some (79, true)), .bin .eql (.t 80) (.c (.int .i64 0))⟩,
 ⟨some 82, none, .pick (.t 79) (.t 81) (.c (.bool false))⟩,
 ⟨some 83, none, .mov (.t 82)⟩,
 ⟨some 84, (some (83, true)), .load true 2 (.t 11)⟩,
 ⟨some 85, (some (83, true)), .build (.gen [(.int .i64 0), (.int .i64 0)]) []⟩,
 ⟨some 86, (some (83, true)), .aeq false [.i, .i] (.t 84) (.t 85)⟩,
 ⟨some 87, none, .pick (.t 83) (.t 86) (.c (.bool false))⟩,
 ⟨some 6, none, .mov (.t 87)⟩]) (
 .gh [.keep [6]] (
 .ret))) (
 .skip))) (
 .seq (
 .reg none [
 ⟨some 89, none, .mov (.t 1)⟩,
 ⟨some 90, none, .mov (.t 2)⟩,
 ⟨some 91, none, .ncall true 13092 72 [(.t 89), (.t 90)]⟩,
 ⟨some 88, none, .mov (.t 91)⟩,
 ⟨some 92, none, .ext 0 (.t 88)⟩,
 ⟨some 93, none, .ext 1 (.t 88)⟩,
 ⟨some 14, none, .mov (.t 92)⟩,
 ⟨some 15, none, .mov (.t 93)⟩]) (
 .gh [.keep [1, 2, 7, 8, 9, 10, 11, 12, 14, 15]] (
 .seq (
 .reg none [
 ⟨some 95, none, .mov (.t 1)⟩,
 ⟨some 96, none, .mov (.t 2)⟩,
 ⟨some 97, none, .ncall true 0 73 [(.t 95), (.t 96)]⟩,
 ⟨some 94, none, .mov (.t 97)⟩,
 ⟨some 98, none, .ext 0 (.t 94)⟩,
 ⟨some 99, none, .ext 1 (.t 94)⟩,
 ⟨some 16, none, .alloc 13017 79 (.agg (.gen [(.int .i64 0), (.int .i64 0)]))⟩,
 ⟨none, none, .store 2 (.t 16) (.t 98)⟩,
 ⟨some 17, none, .mov (.t 99)⟩]) (
 .gh [.keep [1, 2, 7, 8, 9, 10, 11, 12, 14, 15, 16, 17]] (
 .seq (
 .seq (
 .reg (some []) [
 ⟨some 100, none, .mov (.t 17)⟩,
 ⟨some 101, none, .mov (.t 100)⟩,
 ⟨some 102, (some (101, true)), .mov (.t 12)⟩,
 ⟨some 103, (some (101, true)), .bin .neq (.t 102) (.c (.int .i64 0))⟩,
 ⟨some 104, (some (101, true)), .mov (.t 103)⟩,
 ⟨some 105, (some (104, false)), .load true 2 (.t 11)⟩,
 ⟨some 106, (some (104, false)), .load true 2 (.t 16)⟩,
 ⟨some 107, (some (104, false)), .aeq true [.i, .i] (.t 105) (.t 106)⟩,
 ⟨some 108, (some (101, true)), .pick (.t 104) (.c (.bool true)) (.t 107)⟩,
 ⟨some 109, (some (101, true)), .mov (.t 108)⟩,
 ⟨some 110, (some (109, false)), .mov (.t 15)⟩,
 ⟨some 111, (some (109, false)), .len (.t 110)⟩,
 ⟨some 112, (some (109, false)), .mov (.t 9)⟩,
 ⟨some 113, (some (109, false)), .bin .add (.t 111) (.t 112)⟩,
 ⟨some 114, (some (109, false)), .mov (.t 15)⟩,
 ⟨some 115, (some (109, false)), .mov (.t 15)⟩,
 ⟨some 116, (some (109, false)), .len (.t 115)⟩,
 ⟨some 117, (some (109, false)), .bin .sub (.t 116) (.c (.int .i64 1))⟩,
 ⟨some 118, (some (109, false)), .iaddr 1 (.t 114) (.t 117)⟩,
 ⟨some 119, (some (109, false)), .load false 1 (.t 118)⟩,
 ⟨some 120, (some (109, false)), .mov (.t 15)⟩,
 ⟨some 121, (some (109, false)), .iaddr 1 (.t 120) (.c (.int .i64 0))⟩,
 ⟨some 122, (some (109, false)), .load false 1 (.t 121)⟩,
 ⟨some 123, (some (109, false)), .bin .sub (.t 119) (.t 122)⟩,
 ⟨some 124, (some (109, false)), .bin .add (.t 123) (.c (.int .i64 1))⟩,
 ⟨some 125, (some (109, false)), .bin .neq (.t 113) (.t 124)⟩,
 ⟨some 126, (some (101, true)), .pick (.t 109) (.c (.bool true)) (.t 125)⟩,
 ⟨some 127, none, .pick (.t 101) (.t 126) (.c (.bool false))⟩,
 ⟨some 128, none, .mov (.t 127)⟩,
 ⟨some 129, (some (128, false)), .mov (.t 17)⟩,
 ⟨some 130, (some (128, false)), .not (.t 129)⟩,
 ⟨some 131, (some (128, false)), .mov (.t 130)⟩,
 ⟨some 132, (some (131, true)), .mov (.t 12)⟩,
 ⟨some 133, (some (131, true)), .bin .neq (.t 132) (.c (.int .i64 12))⟩,
 ⟨some 134, (some (131, true)), .mov (.t 133)⟩,
 ⟨some 135, (some (134, false)), .load true 2 (.t 11)⟩,
 ⟨some 136, (some (134, false)), .build (.gen [(.int .i64 0), (.int .i64 0)]) []⟩,
 ⟨some 137, (some (134, false)), .aeq true [.i, .i] (.t 135) (.t 136)⟩,
 ⟨some 138, (some (131, true)), .pick (.t 134) (.c (.bool true)) (.t 137)⟩,
 ⟨some 139, (some (128, false)), .pick (.t 131) (.t 138) (.c (.bool false))⟩,
 ⟨some 140, none, .pick (.t 128) (.c (.bool true)) (.t 139)⟩]) (
 .gh [.keep [1, 2, 7, 8, 9, 10, 14, 140]] (
 .cond (.t 140) (
 .seq (
 .reg none [
 ⟨some 6, none, .mov (.c (.bool false))⟩]) (
 .ret)) (
 .skip)))) (
 .seq (
 .reg none [
 ⟨some 141, none, .mov (.t 8)⟩,
 ⟨some 142, none, .bin .eql (.t 141) (.c (.int .i64 0))⟩,
 ⟨some 143, none, .mov (.t 142)⟩,
 ⟨some 144, (some (143, true)), .mov (.t 7)⟩,
 ⟨some 145, (some (143, true)), .mov (.t 14)⟩,
 ⟨some 146, (some (143, true)), .ncall true 0 38 [(.t 144), (.t 145)]⟩,
 ⟨some 147, none, .pick (.t 143) (.t 146) (.c (.bool false))⟩,
 ⟨some 148, none, .mov (.t 147)⟩,
 ⟨some 149, (some (148, true)), .mov (.t 10)⟩,
 ⟨some 150, (some (148, true)), .bin .eql (.t 149) (.c (.int .i64 0))⟩,
 ⟨some 151, none, .pick (.t 148) (.t 150) (.c (.bool false))⟩,
 ⟨some 152, none, .mov (.t 151)⟩,
 ⟨some 153, (some (152, true)), .mov (.t 9)⟩,
 ⟨some 154, (some (152, true)), .mov (.t 1)⟩,
 ⟨some 155, (some (152, true)), .mov (.t 2)⟩,
 ⟨some 156, (some (152, true)), .ncall true 0 74 [(.t 154), (.t 155)]⟩,
 ⟨some 157, (some (152, true)), .bin .eql (.t 153) (.t 156)⟩,
 ⟨some 158, none, .pick (.t 152) (.t 157) (.c (.bool false))⟩,
 ⟨some 6, none, .mov (.t 158)⟩]) (
 .gh [.keep [6]] (
 .ret))))))))))))))))))))
def a13 : AFunc := ⟨159, c13, [.tmp 6]⟩
/-! 14 cassegrain/cassegrainlaw06.awake params [] nfree 0 ntmps 92 -/
def c14 : ACode :=
 .seq (
 .reg none [
 ⟨some 0, none, .mov (.c (.bool false))⟩]) (
 .seq (
 .reg none [
 ⟨some 12, none, .bslice 14013 3 1 [(.c (.int .i64 1)), (.c (.int .i64 5)), (.c (.int .i64 0)), (.c (.int .i64 7)), (.c (.int .i64 0)), (.c (.int .i64 0)), (.c (.int .i64 255))]⟩,
 ⟨some 13, none, .ncall true 0 60 [(.t 12)]⟩,
 ⟨some 11, none, .mov (.t 13)⟩,
 ⟨some 14, none, .ext 0 (.t 11)⟩,
 ⟨some 15, none, .ext 1 (.t 11)⟩,
 ⟨some 1, none, .mov (.t 14)⟩,
 ⟨some 2, none, .mov (.t 15)⟩]) (
 .seq (
 .reg none [
 ⟨some 17, none, .ncall true 0 75 []⟩,
 ⟨some 18, none, .build (.gen [(.int .i64 0), (.int .i64 0)]) []⟩,
 ⟨some 19, none, .ncall true 14020 76 []⟩,
 ⟨some 20, none, .ncall true 14021 35 [(.t 17), (.t 18), (.t 19)]⟩,
 ⟨some 16, none, .mov (.t 20)⟩,
 ⟨some 21, none, .ext 0 (.t 16)⟩,
 ⟨some 22, none, .ext 1 (.t 16)⟩,
 ⟨some 3, none, .mov (.t 21)⟩,
 ⟨some 4, none, .mov (.t 22)⟩]) (
 .gh [.keep [1, 2, 3, 4]] (
 .seq (
 .reg none [
 ⟨some 24, none, .ncall true 0 75 []⟩,
 ⟨some 25, none, .mov (.t 3)⟩,
 ⟨some 26, none, .ncall true 14027 17 [(.t 25)]⟩,
 ⟨some 27, none, .ncall true 14028 16 [(.t 24), (.c (.int .i64 0)), (.t 26)]⟩,
 ⟨some 23, none, .mov (.t 27)⟩,
 ⟨some 28, none, .ext 0 (.t 23)⟩,
 ⟨some 29, none, .ext 1 (.t 23)⟩,
 ⟨some 5, none, .mov (.t 28)⟩,
 ⟨some 6, none, .mov (.t 29)⟩]) (
 .gh [.keep [1, 2, 3, 4, 5, 6]] (
 .seq (
 .reg none [
 ⟨some 31, none, .ncall true 14032 77 []⟩,
 ⟨some 32, none, .ncall true 0 42 [(.t 31)]⟩,
 ⟨some 30, none, .mov (.t 32)⟩,
 ⟨some 33, none, .ext 0 (.t 30)⟩,
 ⟨some 34, none, .ext 1 (.t 30)⟩,
 ⟨some 7, none, .alloc 14008 80 (.agg (.ints .i64 [0, 0, 0, 0]))⟩,
 ⟨none, none, .store 4 (.t 7) (.t 33)⟩,
 ⟨some 8, none, .mov (.t 34)⟩]) (
 .seq (
 .reg none [
 ⟨some 36, none, .ncall true 14037 77 []⟩,
 ⟨some 37, none, .ncall true 0 23 [(.t 36), (.c (.int .i64 30))]⟩,
 ⟨some 35, none, .mov (.t 37)⟩,
 ⟨some 38, none, .ext 0 (.t 35)⟩,
 ⟨some 39, none, .ext 1 (.t 35)⟩,
 ⟨some 9, none, .alloc 14010 40 (.agg (.gen [(.int .i64 0), (.int .i64 0)]))⟩,
 ⟨none, none, .store 2 (.t 9) (.t 38)⟩,
 ⟨some 10, none, .mov (.t 39)⟩]) (
 .seq (
 .reg none [
 ⟨some 40, none, .mov (.t 2)⟩,
 ⟨some 41, none, .bin .eql (.t 40) (.c (.int .i64 0))⟩,
 ⟨some 42, none, .mov (.t 41)⟩,
 ⟨some 43, (some (42, true)), .mov (.t 1)⟩,
 ⟨some 44, (some (42, true)), .bin .eql (.t 43) (.c (.int .i64 4684))⟩,
 ⟨some 45, none, .pick (.t 42) (.t 44) (.c (.bool false))⟩,
 ⟨some 46, none, .mov (.t 45)⟩,
 ⟨some 47, (some (46, true)), .mov (.t 4)⟩,
 ⟨some 48, (some (46, true)), .bin .eql (.t 47) (.c (.int .i64 0))⟩,
 ⟨some 49, none, .pick (.t 46) (.t 48) (.c (.bool false))⟩,
 ⟨some 50, none, .mov (.t 49)⟩,
 ⟨some 51, (some (50, true)), .mov (.t 3)⟩,
 ⟨some 52, (some (50, true)), .len (.t 51)⟩,
 ⟨some 53, (some (50, true)), .bin .eql (.t 52) (.c (.int .i64 3))⟩,
 ⟨some 54, none, .pick (.t 50) (.t 53) (.c (.bool false))⟩,
 ⟨some 55, none, .mov (.t 54)⟩,
 ⟨some 56, (some (55, true)), .mov (.t 3)⟩,
 ⟨some 57, (some (55, true)), .iaddr 4 (.t 56) (.c (.int .i64 2))⟩,
 ⟨some 58, (some (55, true)), .faddr 3 (.t 57)⟩,
 ⟨some 59, (some (55, true)), .load false 1 (.t 58)⟩,
 ⟨some 60, (some (55, true)), .bslice 14061 3 1 [(.c (.int .i64 3)), (.c (.int .i64 255)), (.c (.int .i64 0)), (.c (.int .i64 0))]⟩,
 ⟨some 61, (some (55, true)), .ncall true 0 67 [(.t 59), (.t 60)]⟩,
 ⟨some 62, none, .pick (.t 55) (.t 61) (.c (.bool false))⟩,
 ⟨some 63, none, .mov (.t 62)⟩,
 ⟨some 64, (some (63, true)), .mov (.t 6)⟩,
 ⟨some 65, (some (63, true)), .bin .eql (.t 64) (.c (.int .i64 0))⟩,
 ⟨some 66, none, .pick (.t 63) (.t 65) (.c (.bool false))⟩,
 ⟨some 67, none, .mov (.t 66)⟩,
 ⟨some 68, (some (67, true)), .mov (.t 5)⟩,
 ⟨some 69, (some (67, true)), .ncall true 14070 76 []⟩,
 ⟨some 70, (some (67, true)), .ncall true 0 21 [(.t 68), (.t 69)]⟩,
 ⟨some 71, none, .pick (.t 67) (.t 70) (.c (.bool false))⟩,
 ⟨some 72, none, .mov (.t 71)⟩,
 ⟨some 73, (some (72, true)), .mov (.t 8)⟩,
 ⟨some 74, (some (72, true)), .bin .eql (.t 73) (.c (.int .i64 0))⟩,
 ⟨some 75, none, .pick (.t 72) (.t 74) (.c (.bool false))⟩,
 ⟨some 76, none, .mov (.t 75)⟩,
 ⟨some 77, (some (76, true)), .load true 4 (.t 7)⟩,
 ⟨some 78, (some (76, true)), .build (.gen [(.int .i64 0), (.int .i64 0)]) [(0, 1, (.c (.int .i64 19))), (1, 1, (.c (.int .i64 10)))]⟩,
 ⟨some 79, (some (76, true)), .build (.gen [(.int .i64 0), (.int .i64 0)]) [(0, 1, (.c (.int .i64 41))), (1, 1, (.c (.int .i64 20)))]⟩,
 ⟨some 80, (some (76, true)), .build (.ints .i64 [0, 0, 0, 0]) [(0, 2, (.t 78)), (2, 2, (.t 79))]⟩,
 ⟨some 81, (some (76, true)), .aeq false [.i, .i, .i, .i] (.t 77) (.t 80)⟩,
 ⟨some 82, none, .pick (.t 76) (.t 81) (.c (.bool false))⟩,
 ⟨some 83, none, .mov (.t 82)⟩,
 ⟨some 84, (some (83, true)), .mov (.t 10)⟩,
 ⟨some 85, (some (83, true)), .bin .eql (.t 84) (.c (.int .i64 0))⟩,
 ⟨some 86, none, .pick (.t 83) (.t 85) (.c (.bool false))⟩,
 ⟨some 87, none, .mov (.t 86)⟩,
 ⟨some 88, (some (87, true)), .load true 2 (.t 9)⟩,
 ⟨some 89, (some (87, true)), .build (.gen [(.int .i64 0), (.int .i64 0)]) [(0, 1, (.c (.int .i64 69))), (1, 1, (.c (.int .i64 72)))]⟩,
 ⟨some 90, (some (87, true)), .aeq false [.i, .i] (.t 88) (.t 89)⟩,
 ⟨some 91, none, .pick (.t 87) (.t 90) (.c (.bool false))⟩,
 ⟨some 0, none, .mov (.t 91)⟩]) (
 .gh [.keep [0]] (
 .ret))))))))))
def a14 : AFunc := ⟨92, c14, [.tmp 0]⟩
/-! 15 cassegrain/cassegrainlaw06.few params [24] nfree 0 ntmps 30 -/
def l15_0 : ACode :=
 .seq (
 .seq (
 .reg none [
 ⟨some 17, none, .mov (.t 3)⟩,
 ⟨some 18, none, .mov (.t 0)⟩,
 ⟨some 19, none, .len (.t 18)⟩,
 ⟨some 20, none, .bin .lss (.t 17) (.t 19)⟩]) (
 .cond (.t 20) (
 .skip) (
 .exit 0))) (
 .seq (
 .block 1 (
 .seq (
 .reg none [
 ⟨some 23, none, .mov (.t 0)⟩,
 ⟨some 24, none, .mov (.t 3)⟩,
 ⟨some 25, none, .iaddr 4 (.t 23) (.t 24)⟩,
 ⟨some 26, none, .faddr 3 (.t 25)⟩,
 ⟨some 27, none, .load false 1 (.t 26)⟩,
 ⟨some 28, none, .len (.t 27)⟩,
 ⟨some 29, none, .bin .gtr (.t 28) (.c (.int .i64 26))⟩]) (
 .gh [.keep [0, 3, 29]] (
 .cond (.t 29) (
 .seq (
 .reg none [
 ⟨some 2, none, .mov (.c (.bool false))⟩]) (
 .ret)) (
 .skip))))) (
 .reg none [
 ⟨some 21, none, .mov (.t 3)⟩,
 ⟨some 22, none, .bin .add (.t 21) (.c (.int .i64 1))⟩,
 ⟨some 3, none, .mov (.t 22)⟩]))
def b15_0 : ACode := .gh [.keep [0, 3]] (.gh [] l15_0)
def k15_0 : List AItem := .inLoop b15_0 :: [.inBlock 0,
 .code (.seq (
 .reg none [
 ⟨some 2, none, .mov (.c (.bool true))⟩]) (
 .ret))]
def c15 : ACode :=
 .seq (
 .reg none [
 ⟨some 2, none, .mov (.c (.bool false))⟩]) (
 .seq (
 .seq (
 .reg none [
 ⟨some 4, none, .mov (.t 0)⟩,
 ⟨some 5, none, .len (.t 4)⟩,
 ⟨some 6, none, .bin .gtr (.t 5) (.c (.int .i64 24))⟩,
 ⟨some 7, none, .mov (.t 6)⟩,
 ⟨some 8, (some (7, true)), .mov (.t 0)⟩,
 ⟨some 9, (some (7, true)), .len (.t 8)⟩,
 ⟨some 10, (some (7, true)), .bin .leq (.t 9) (.c (.int .i64 40))⟩,
 ⟨some 11, none, .pick (.t 7) (.t 10) (.c (.bool false))⟩,
 ⟨some 12, none, .mov (.t 11)⟩,
 ⟨some 13, (some (12, false)), .mov (.t 0)⟩,
 ⟨some 14, (some (12, false)), .len (.t 13)⟩,
 ⟨some 15, (some (12, false)), .bin .gtr (.t 14) (.c (.int .i64 42))⟩,
 ⟨some 16, none, .pick (.t 12) (.c (.bool true)) (.t 15)⟩]) (
 .gh [.keep [0, 16]] (
 .cond (.t 16) (
 .seq (
 .reg none [
 ⟨some 2, none, .mov (.c (.bool false))⟩]) (
 .ret)) (
 .skip)))) (
 .seq (
 .seq (
 .reg none [
 ⟨some 3, none, .mov (.c (.int .i64 0))⟩]) (
 .block 0 (
 .loop b15_0))) (
 .seq (
 .reg none [
 ⟨some 2, none, .mov (.c (.bool true))⟩]) (
 .ret))))
def a15 : AFunc := ⟨30, c15, [.tmp 2]⟩
/-! 16 cassegrain/frame.Extracted params [23, 3, 24] nfree 0 ntmps 45 -/
def l16_0 : ACode :=
 .seq (
 .reg none [
 ⟨some 29, none, .bin .lss (.t 28) (.t 27)⟩]) (
 .seq (
 .cond (.t 29) (
 .skip) (
 .exit 0)) (
 .seq (
 .block 1 (
 .seq (
 .reg none [
 ⟨some 30, none, .iaddr 5 (.t 26) (.t 28)⟩,
 ⟨some 31, none, .load true 5 (.t 30)⟩,
 ⟨some 13, none, .alloc 16014 140 (.agg (.gen [(.int .i64 0), (.int .i64 0), (.int .i64 0), .nils, (.int .i64 0)]))⟩,
 ⟨none, none, .store 5 (.t 13) (.t 31)⟩]) (
 .seq (
 .reg none [
 ⟨some 32, none, .faddr 0 (.t 13)⟩,
 ⟨some 33, none, .load true 4 (.t 32)⟩,
 ⟨some 34, none, .faddr 4 (.t 13)⟩,
 ⟨some 35, none, .load false 1 (.t 34)⟩,
 ⟨some 36, none, .mov (.t 11)⟩,
 ⟨some 37, none, .bin .add (.t 36) (.c (.int .i64 1))⟩,
 ⟨some 38, none, .bin .eql (.t 35) (.t 37)⟩,
 ⟨some 39, none, .ncall true 0 80 [(.t 10), (.t 33), (.t 38)]⟩]) (
 .gh [.keep [10, 13, 26, 27, 28]] (
 .reg none [
 ⟨some 40, none, .faddr 4 (.t 13)⟩,
 ⟨some 41, none, .load false 1 (.t 40)⟩,
 ⟨some 11, none, .mov (.t 41)⟩]))))) (
 .reg none [
 ⟨some 42, none, .bin .add (.t 28) (.c (.int .i64 1))⟩,
 ⟨some 28, none, .mov (.t 42)⟩])))
def b16_0 : ACode := .gh [.keep [10, 11, 26, 27, 28]] (.gh [] l16_0)
def k16_0 : List AItem := .inLoop b16_0 :: [.inBlock 0,
 .code (.seq (
 .reg none [
 ⟨some 43, none, .faddr 2 (.t 10)⟩,
 ⟨some 44, none, .load false 1 (.t 43)⟩,
 ⟨some 6, none, .mov (.t 44)⟩,
 ⟨some 7, none, .mov (.c (.int .i64 0))⟩]) (
 .ret))]
def c16 : ACode :=
 .seq (
 .reg none [
 ⟨some 3, none, .box 16004 23 (.t 0)⟩,
 ⟨some 6, none, .mov (.c .nils)⟩,
 ⟨some 7, none, .mov (.c (.int .i64 0))⟩]) (
 .seq (
 .seq (
 .reg none [
 ⟨some 15, none, .load true 2 (.t 3)⟩,
 ⟨some 16, none, .mov (.t 1)⟩,
 ⟨some 17, none, .mov (.t 2)⟩,
 ⟨some 18, none, .ncall true 0 78 [(.t 15), (.t 16), (.t 17)]⟩,
 ⟨some 14, none, .mov (.t 18)⟩,
 ⟨some 19, none, .ext 0 (.t 14)⟩,
 ⟨some 20, none, .ext 1 (.t 14)⟩,
 ⟨some 8, none, .alloc 16009 132 (.agg (.gen [(.int .i64 0), (.int .i64 0)]))⟩,
 ⟨none, none, .store 2 (.t 8) (.t 19)⟩,
 ⟨some 9, none, .mov (.t 20)⟩]) (
 .gh [.keep [1, 2, 9]] (
 .seq (
 .reg none [
 ⟨some 21, none, .mov (.t 9)⟩,
 ⟨some 22, none, .bin .neq (.t 21) (.c (.int .i64 0))⟩]) (
 .cond (.t 22) (
 .seq (
 .reg none [
 ⟨some 23, none, .mov (.t 9)⟩,
 ⟨some 6, none, .mov (.c .nils)⟩,
 ⟨some 7, none, .mov (.t 23)⟩]) (
 .ret)) (
 .skip))))) (
 .seq (
 .reg none [
 ⟨some 10, none, .alloc 16011 136 (.agg (.gen [(.bool false), .nils, .nils]))⟩]) (
 .seq (
 .reg none [
 ⟨some 11, none, .mov (.c (.int .i64 0))⟩]) (
 .seq (
 .seq (
 .reg none [
 ⟨some 24, none, .mov (.t 1)⟩,
 ⟨some 25, none, .mov (.t 2)⟩,
 ⟨some 26, none, .ncall true 16027 79 [(.t 24), (.t 25)]⟩,
 ⟨some 27, none, .len (.t 26)⟩,
 ⟨some 28, none, .mov (.c (.int .i64 0))⟩]) (
 .block 0 (
 .loop b16_0))) (
 .seq (
 .reg none [
 ⟨some 43, none, .faddr 2 (.t 10)⟩,
 ⟨some 44, none, .load false 1 (.t 43)⟩,
 ⟨some 6, none, .mov (.t 44)⟩,
 ⟨some 7, none, .mov (.c (.int .i64 0))⟩]) (
 .ret))))))
def a16 : AFunc := ⟨45, c16, [.tmp 6, .tmp 7]⟩
/-! 17 cassegrain/cassegrainref06.CopyFrames params [24] nfree 0 ntmps 20 -/
def l17_0 : ACode :=
 .seq (
 .seq (
 .reg none [
 ⟨some 5, none, .mov (.t 4)⟩,
 ⟨some 6, none, .mov (.t 0)⟩,
 ⟨some 7, none, .len (.t 6)⟩,
 ⟨some 8, none, .bin .lss (.t 5) (.t 7)⟩]) (
 .cond (.t 8) (
 .skip) (
 .exit 0))) (
 .seq (
 .block 1 (
 .reg none [
 ⟨some 11, none, .mov (.t 3)⟩,
 ⟨some 12, none, .mov (.t 0)⟩,
 ⟨some 13, none, .mov (.t 4)⟩,
 ⟨some 14, none, .iaddr 4 (.t 12) (.t 13)⟩,
 ⟨some 15, none, .load true 4 (.t 14)⟩,
 ⟨some 16, none, .ncall true 17017 40 [(.t 15)]⟩,
 ⟨some 17, none, .bslice 17018 74 4 [(.t 16)]⟩,
 ⟨some 18, none, .append 17019 74 4 (.t 11) (.t 17)⟩,
 ⟨some 3, none, .mov (.t 18)⟩])) (
 .reg none [
 ⟨some 9, none, .mov (.t 4)⟩,
 ⟨some 10, none, .bin .add (.t 9) (.c (.int .i64 1))⟩,
 ⟨some 4, none, .mov (.t 10)⟩]))
def b17_0 : ACode := .gh [.keep [0, 3, 4]] (.gh [] l17_0)
def k17_0 : List AItem := .inLoop b17_0 :: [.inBlock 0,
 .code (.seq (
 .reg none [
 ⟨some 19, none, .mov (.t 3)⟩,
 ⟨some 2, none, .mov (.t 19)⟩]) (
 .ret))]
def c17 : ACode :=
 .seq (
 .reg none [
 ⟨some 2, none, .mov (.c .nils)⟩]) (
 .seq (
 .reg none [
 ⟨some 3, none, .mov (.c .nils)⟩]) (
 .seq (
 .seq (
 .reg none [
 ⟨some 4, none, .mov (.c (.int .i64 0))⟩]) (
 .block 0 (
 .loop b17_0))) (
 .seq (
 .reg none [
 ⟨some 19, none, .mov (.t 3)⟩,
 ⟨some 2, none, .mov (.t 19)⟩]) (
 .ret))))
def a17 : AFunc := ⟨20, c17, [.tmp 2]⟩
/-! 18 cassegrain/cassegrainref06.RulesErr params [23] nfree 0 ntmps 13 -/
def c18 : ACode :=
 .seq (
 .reg none [
 ⟨some 1, none, .box 18002 23 (.t 0)⟩,
 ⟨some 2, none, .mov (.c (.int .i64 0))⟩]) (
 .seq (
 .seq (
 .reg none [
 ⟨some 3, none, .faddr 0 (.t 1)⟩,
 ⟨some 4, none, .load false 1 (.t 3)⟩,
 ⟨some 5, none, .ncall true 0 27 [(.t 4), (.c (.int .i64 4)), (.c (.int .i64 24))]⟩,
 ⟨some 6, none, .not (.t 5)⟩,
 ⟨some 7, none, .mov (.t 6)⟩,
 ⟨some 8, (some (7, false)), .faddr 1 (.t 1)⟩,
 ⟨some 9, (some (7, false)), .load false 1 (.t 8)⟩,
 ⟨some 10, (some (7, false)), .ncall true 0 27 [(.t 9), (.c (.int .i64 1)), (.c (.int .i64 4))]⟩,
 ⟨some 11, (some (7, false)), .not (.t 10)⟩,
 ⟨some 12, none, .pick (.t 7) (.c (.bool true)) (.t 11)⟩]) (
 .gh [.keep [12]] (
 .cond (.t 12) (
 .seq (
 .reg none [
 ⟨some 2, none, .mov (.c (.int .i64 2))⟩]) (
 .ret)) (
 .skip)))) (
 .seq (
 .reg none [
 ⟨some 2, none, .mov (.c (.int .i64 0))⟩]) (
 .ret)))
def a18 : AFunc := ⟨13, c18, [.tmp 2]⟩
/-! 19 cassegrain/cassegrainref06.ChannelErr params [23, 3] nfree 0 ntmps 11 -/
def c19 : ACode :=
 .seq (
 .reg none [
 ⟨some 2, none, .box 19003 23 (.t 0)⟩,
 ⟨some 4, none, .mov (.c (.int .i64 0))⟩]) (
 .seq (
 .seq (
 .reg none [
 ⟨some 5, none, .mov (.t 1)⟩,
 ⟨some 6, none, .faddr 1 (.t 2)⟩,
 ⟨some 7, none, .load false 1 (.t 6)⟩,
 ⟨some 8, none, .bin .sub (.t 7) (.c (.int .i64 1))⟩,
 ⟨some 9, none, .ncall true 0 27 [(.t 5), (.c (.int .i64 0)), (.t 8)]⟩,
 ⟨some 10, none, .not (.t 9)⟩]) (
 .cond (.t 10) (
 .seq (
 .reg none [
 ⟨some 4, none, .mov (.c (.int .i64 6))⟩]) (
 .ret)) (
 .skip))) (
 .seq (
 .reg none [
 ⟨some 4, none, .mov (.c (.int .i64 0))⟩]) (
 .ret)))
def a19 : AFunc := ⟨11, c19, [.tmp 4]⟩
/-! 20 cassegrain/cassegrainref06.FramesErr params [23, 24] nfree 0 ntmps 25 -/
def l20_0 : ACode :=
 .seq (
 .seq (
 .reg none [
 ⟨some 10, none, .mov (.t 5)⟩,
 ⟨some 11, none, .mov (.t 1)⟩,
 ⟨some 12, none, .len (.t 11)⟩,
 ⟨some 13, none, .bin .lss (.t 10) (.t 12)⟩]) (
 .cond (.t 13) (
 .skip) (
 .exit 0))) (
 .seq (
 .block 1 (
 .seq (
 .reg (some []) [
 ⟨some 16, none, .load true 2 (.t 2)⟩,
 ⟨some 17, none, .mov (.t 1)⟩,
 ⟨some 18, none, .mov (.t 5)⟩,
 ⟨some 19, none, .iaddr 4 (.t 17) (.t 18)⟩,
 ⟨some 20, none, .load true 4 (.t 19)⟩,
 ⟨some 21, none, .ncall true 0 64 [(.t 16), (.t 20)]⟩,
 ⟨some 6, none, .mov (.t 21)⟩]) (
 .gh [.keep [1, 2, 5, 6]] (
 .seq (
 .reg none [
 ⟨some 22, none, .mov (.t 6)⟩,
 ⟨some 23, none, .bin .neq (.t 22) (.c (.int .i64 0))⟩]) (
 .cond (.t 23) (
 .seq (
 .reg none [
 ⟨some 24, none, .mov (.t 6)⟩,
 ⟨some 4, none, .mov (.t 24)⟩]) (
 .ret)) (
 .skip)))))) (
 .reg none [
 ⟨some 14, none, .mov (.t 5)⟩,
 ⟨some 15, none, .bin .add (.t 14) (.c (.int .i64 1))⟩,
 ⟨some 5, none, .mov (.t 15)⟩]))
def b20_0 : ACode := .gh [.keep [1, 2, 5]] (.gh [] l20_0)
def k20_0 : List AItem := .inLoop b20_0 :: [.inBlock 0,
 .code (.seq (
 .reg none [
 ⟨some 4, none, .mov (.c (.int .i64 0))⟩]) (
 .ret))]
def c20 : ACode :=
 .seq (
 .reg none [
 ⟨some 2, none, .box 20003 23 (.t 0)⟩,
 ⟨some 4, none, .mov (.c (.int .i64 0))⟩]) (
 .seq (
 .seq (
 .reg none [
 ⟨some 7, none, .mov (.t 1)⟩,
 ⟨some 8, none, .len (.t 7)⟩,
 ⟨some 9, none, .bin .gtr (.t 8) (.c (.int .i64 40))⟩]) (
 .cond (.t 9) (
 .seq (
 .reg none [
 ⟨some 4, none, .mov (.c (.int .i64 8))⟩]) (
 .ret)) (
 .skip))) (
 .seq (
 .seq (
 .reg none [
 ⟨some 5, none, .mov (.c (.int .i64 0))⟩]) (
 .block 0 (
 .loop b20_0))) (
 .seq (
 .reg none [
 ⟨some 4, none, .mov (.c (.int .i64 0))⟩]) (
 .ret))))
def a20 : AFunc := ⟨25, c20, [.tmp 4]⟩
/-! 21 cassegrain/cassegrainref06.SamePackets params [27, 27] nfree 0 ntmps 27 -/
def l21_0 : ACode :=
 .seq (
 .seq (
 .reg none [
 ⟨some 11, none, .mov (.t 5)⟩,
 ⟨some 12, none, .mov (.t 0)⟩,
 ⟨some 13, none, .len (.t 12)⟩,
 ⟨some 14, none, .bin .lss (.t 11) (.t 13)⟩]) (
 .cond (.t 14) (
 .skip) (
 .exit 0))) (
 .seq (
 .block 1 (
 .seq (
 .reg (some []) [
 ⟨some 17, none, .mov (.t 0)⟩,
 ⟨some 18, none, .mov (.t 5)⟩,
 ⟨some 19, none, .iaddr 3 (.t 17) (.t 18)⟩,
 ⟨some 20, none, .load true 3 (.t 19)⟩,
 ⟨some 21, none, .mov (.t 1)⟩,
 ⟨some 22, none, .mov (.t 5)⟩,
 ⟨some 23, none, .iaddr 3 (.t 21) (.t 22)⟩,
 ⟨some 24, none, .load true 3 (.t 23)⟩,
 ⟨some 25, none, .ncall true 0 81 [(.t 20), (.t 24)]⟩,
 ⟨some 26, none, .not (.t 25)⟩]) (
 .gh [.keep [0, 1, 5, 26]] (
 .cond (.t 26) (
 .seq (
 .reg none [
 ⟨some 4, none, .mov (.c (.bool false))⟩]) (
 .ret)) (
 .skip))))) (
 .reg none [
 ⟨some 15, none, .mov (.t 5)⟩,
 ⟨some 16, none, .bin .add (.t 15) (.c (.int .i64 1))⟩,
 ⟨some 5, none, .mov (.t 16)⟩]))
def b21_0 : ACode := .gh [.keep [0, 1, 5]] (.gh [] l21_0)
def k21_0 : List AItem := .inLoop b21_0 :: [.inBlock 0,
 .code (.seq (
 .reg none [
 ⟨some 4, none, .mov (.c (.bool true))⟩]) (
 .ret))]
def c21 : ACode :=
 .seq (
 .reg none [
 ⟨some 4, none, .mov (.c (.bool false))⟩]) (
 .seq (
 .seq (
 .reg none [
 ⟨some 6, none, .mov (.t 0)⟩,
 ⟨some 7, none, .len (.t 6)⟩,
 ⟨some 8, none, .mov (.t 1)⟩,
 ⟨some 9, none, .len (.t 8)⟩,
 ⟨some 10, none, .bin .neq (.t 7) (.t 9)⟩]) (
 .cond (.t 10) (
 .seq (
 .reg none [
 ⟨some 4, none, .mov (.c (.bool false))⟩]) (
 .ret)) (
 .skip))) (
 .seq (
 .seq (
 .reg none [
 ⟨some 5, none, .mov (.c (.int .i64 0))⟩]) (
 .block 0 (
 .loop b21_0))) (
 .seq (
 .reg none [
 ⟨some 4, none, .mov (.c (.bool true))⟩]) (
 .ret))))
def a21 : AFunc := ⟨27, c21, [.tmp 4]⟩
/-! 22 cassegrain/cassegrainref06.Extracted params [23, 3, 24] nfree 0 ntmps 101 -/
def l22_1 : ACode :=
 .seq (
 .seq (
 .reg none [
 ⟨some 64, none, .mov (.t 15)⟩,
 ⟨some 65, none, .faddr 3 (.t 13)⟩,
 ⟨some 66, none, .load false 1 (.t 65)⟩,
 ⟨some 67, none, .len (.t 66)⟩,
 ⟨some 68, none, .bin .lss (.t 64) (.t 67)⟩]) (
 .cond (.t 68) (
 .skip) (
 .exit 2))) (
 .seq (
 .block 3 (
 .seq (
 .reg (some [(0, 7), (1, 2), (1, 3), (1, 4), (1, 5), (1, 6), (1, 7)]) [
 ⟨some 71, none, .mov (.t 11)⟩,
 ⟨some 72, none, .ncall true 22073 55 [(.t 71)]⟩,
 ⟨some 73, none, .faddr 3 (.t 13)⟩,
 ⟨some 74, none, .load false 1 (.t 73)⟩,
 ⟨some 75, none, .mov (.t 15)⟩,
 ⟨some 76, none, .iaddr 1 (.t 74) (.t 75)⟩,
 ⟨some 77, none, .load false 1 (.t 76)⟩,
 ⟨some 78, none, .bslice 22079 3 1 [(.t 77)]⟩,
 ⟨some 79, none, .append 22080 3 1 (.t 72) (.t 78)⟩,
 ⟨some 11, none, .mov (.t 79)⟩]) (
 .gh [.keep [3, 7, 8, 9, 10, 11, 12, 13, 15]] (
 .seq (
 .seq (
 .reg none [
 ⟨some 80, none, .mov (.t 11)⟩,
 ⟨some 81, none, .ncall true 0 83 [(.t 80)]⟩,
 ⟨some 82, none, .bin .gtr (.t 81) (.c (.int .i64 0))⟩]) (
 .cond (.t 82) (
 .exit 3) (
 .skip))) (
 .seq (
 .seq (
 .reg none [
 ⟨some 83, none, .mov (.t 11)⟩,
 ⟨some 84, none, .iaddr 1 (.t 83) (.c (.int .i64 0))⟩,
 ⟨some 85, none, .load false 1 (.t 84)⟩,
 ⟨some 86, none, .bin .neq (.t 85) (.c (.int .i64 255))⟩]) (
 .cond (.t 86) (
 .reg (some [(0, 9), (0, 11), (1, 9), (2, 9), (3, 9), (4, 9), (5, 9), (6, 9)]) [
 ⟨some 87, none, .mov (.t 9)⟩,
 ⟨some 88, none, .mov (.t 11)⟩,
 ⟨some 89, none, .iaddr 1 (.t 88) (.c (.int .i64 0))⟩,
 ⟨some 90, none, .load false 1 (.t 89)⟩,
 ⟨some 91, none, .mov (.t 11)⟩,
 ⟨some 92, none, .iaddr 1 (.t 91) (.c (.int .i64 1))⟩,
 ⟨some 93, none, .load false 1 (.t 92)⟩,
 ⟨some 94, none, .mov (.t 11)⟩,
 ⟨some 95, none, .slc 1 (.t 94) (some (.c (.int .i64 3))) none none⟩,
 ⟨some 96, none, .ncall true 22097 55 [(.t 95)]⟩,
 ⟨some 97, none, .build (.gen [(.int .i64 0), (.int .i64 0), .nils]) [(0, 1, (.t 90)), (1, 1, (.t 93)), (2, 1, (.t 96))]⟩,
 ⟨some 98, none, .bslice 22099 57 3 [(.t 97)]⟩,
 ⟨some 99, none, .append 22100 57 3 (.t 87) (.t 98)⟩,
 ⟨some 9, none, .mov (.t 99)⟩]) (
 .skip))) (
 .reg none [
 ⟨some 11, none, .mov (.c .nils)⟩])))))) (
 .reg none [
 ⟨some 69, none, .mov (.t 15)⟩,
 ⟨some 70, none, .bin .add (.t 69) (.c (.int .i64 1))⟩,
 ⟨some 15, none, .mov (.t 70)⟩]))
def b22_1 : ACode := .gh [.keep [3, 7, 8, 9, 10, 11, 12, 13, 15]] (.gh [] l22_1)
def l22_0 : ACode :=
 .seq (
 .seq (
 .reg none [
 ⟨some 22, none, .mov (.t 12)⟩,
 ⟨some 23, none, .mov (.t 7)⟩,
 ⟨some 24, none, .len (.t 23)⟩,
 ⟨some 25, none, .bin .lss (.t 22) (.t 24)⟩]) (
 .cond (.t 25) (
 .skip) (
 .exit 0))) (
 .seq (
 .block 1 (
 .seq (
 .reg none [
 ⟨some 28, none, .mov (.t 7)⟩,
 ⟨some 29, none, .mov (.t 12)⟩,
 ⟨some 30, none, .iaddr 4 (.t 28) (.t 29)⟩,
 ⟨some 31, none, .load true 4 (.t 30)⟩,
 ⟨some 13, none, .alloc 22014 74 (.agg (.gen [(.int .i64 0), (.int .i64 0), (.int .i64 0), .nils]))⟩,
 ⟨none, none, .store 4 (.t 13) (.t 31)⟩]) (
 .seq (
 .seq (
 .reg (some []) [
 ⟨some 32, none, .mov (.t 10)⟩,
 ⟨some 33, none, .mov (.t 32)⟩,
 ⟨some 34, (some (33, true)), .mov (.t 8)⟩,
 ⟨some 35, (some (33, true)), .mov (.t 12)⟩,
 ⟨some 36, (some (33, true)), .iaddr 1 (.t 34) (.t 35)⟩,
 ⟨some 37, (some (33, true)), .load false 1 (.t 36)⟩,
 ⟨some 38, (some (33, true)), .mov (.t 8)⟩,
 ⟨some 39, (some (33, true)), .mov (.t 12)⟩,
 ⟨some 40, (some (33, true)), .bin .sub (.t 39) (.c (.int .i64 1))⟩,
 ⟨some 41, (some (33, true)), .iaddr 1 (.t 38) (.t 40)⟩,
 ⟨some 42, (some (33, true)), .load false 1 (.t 41)⟩,
 ⟨some 43, (some (33, true)), .bin .add (.t 42) (.c (.int .i64 1))⟩,
 ⟨some 44, (some (33, true)), .bin .neq (.t 37) (.t 43)⟩,
 ⟨some 45, (some (33, true)), .mov (.t 44)⟩,
 ⟨some 46, (some (45, false)), .faddr 2 (.t 13)⟩,
 ⟨some 47, (some (45, false)), .load false 1 (.t 46)⟩,
 ⟨some 48, (some (45, false)), .load true 2 (.t 3)⟩,
 ⟨some 49, (some (45, false)), .mov (.t 11)⟩,
 ⟨some 50, (some (45, false)), .faddr 3 (.t 13)⟩,
 ⟨some 51, (some (45, false)), .load false 1 (.t 50)⟩,
 ⟨some 52, (some (45, false)), .ncall true 0 82 [(.t 48), (.t 49), (.t 51)]⟩,
 ⟨some 53, (some (45, false)), .bin .neq (.t 47) (.t 52)⟩,
 ⟨some 54, (some (33, true)), .pick (.t 45) (.c (.bool true)) (.t 53)⟩,
 ⟨some 55, none, .pick (.t 33) (.t 54) (.c (.bool false))⟩]) (
 .gh [.keep [3, 7, 8, 9, 10, 11, 12, 13, 55]] (
 .cond (.t 55) (
 .reg none [
 ⟨some 10, none, .mov (.c (.bool false))⟩,
 ⟨some 11, none, .mov (.c .nils)⟩]) (
 .skip)))) (
 .seq (
 .reg none [
 ⟨some 14, none, .mov (.c (.int .i64 0))⟩]) (
 .seq (
 .seq (
 .reg none [
 ⟨some 56, none, .mov (.t 10)⟩,
 ⟨some 57, none, .not (.t 56)⟩]) (
 .cond (.t 57) (
 .seq (
 .seq (
 .reg none [
 ⟨some 58, none, .faddr 2 (.t 13)⟩,
 ⟨some 59, none, .load false 1 (.t 58)⟩,
 ⟨some 60, none, .bin .eql (.t 59) (.c (.int .i64 255))⟩]) (
 .cond (.t 60) (
 .exit 1) (
 .skip))) (
 .reg (some []) [
 ⟨some 61, none, .faddr 2 (.t 13)⟩,
 ⟨some 62, none, .load false 1 (.t 61)⟩,
 ⟨some 10, none, .mov (.c (.bool true))⟩,
 ⟨some 14, none, .mov (.t 62)⟩])) (
 .skip))) (
 .seq (
 .reg none [
 ⟨some 63, none, .mov (.t 14)⟩,
 ⟨some 15, none, .mov (.t 63)⟩]) (
 .block 2 (
 .loop b22_1)))))))) (
 .reg none [
 ⟨some 26, none, .mov (.t 12)⟩,
 ⟨some 27, none, .bin .add (.t 26) (.c (.int .i64 1))⟩,
 ⟨some 12, none, .mov (.t 27)⟩]))
def b22_0 : ACode := .gh [.keep [3, 7, 8, 9, 10, 11, 12]] (.gh [] l22_0)
def k22_1 : List AItem := .inLoop b22_1 :: [.inBlock 2,
 .inBlock 1,
 .code (.reg none [
 ⟨some 26, none, .mov (.t 12)⟩,
 ⟨some 27, none, .bin .add (.t 26) (.c (.int .i64 1))⟩,
 ⟨some 12, none, .mov (.t 27)⟩]),
 .inLoop b22_0,
 .inBlock 0,
 .code (.seq (
 .reg none [
 ⟨some 100, none, .mov (.t 9)⟩,
 ⟨some 6, none, .mov (.t 100)⟩]) (
 .ret))]
def k22_0 : List AItem := .inLoop b22_0 :: [.inBlock 0,
 .code (.seq (
 .reg none [
 ⟨some 100, none, .mov (.t 9)⟩,
 ⟨some 6, none, .mov (.t 100)⟩]) (
 .ret))]
def c22 : ACode :=
 .seq (
 .reg none [
 ⟨some 3, none, .box 22004 23 (.t 0)⟩,
 ⟨some 6, none, .mov (.c .nils)⟩]) (
 .seq (
 .reg none [
 ⟨some 17, none, .mov (.t 1)⟩,
 ⟨some 18, none, .mov (.t 2)⟩,
 ⟨some 19, none, .ncall true 22020 72 [(.t 17), (.t 18)]⟩,
 ⟨some 16, none, .mov (.t 19)⟩,
 ⟨some 20, none, .ext 0 (.t 16)⟩,
 ⟨some 21, none, .ext 1 (.t 16)⟩,
 ⟨some 7, none, .mov (.t 20)⟩,
 ⟨some 8, none, .mov (.t 21)⟩]) (
 .gh [.keep [3, 7, 8]] (
 .seq (
 .reg none [
 ⟨some 9, none, .mov (.c .nils)⟩]) (
 .seq (
 .reg none [
 ⟨some 10, none, .mov (.c (.bool false))⟩]) (
 .seq (
 .reg none [
 ⟨some 11, none, .mov (.c .nils)⟩]) (
 .seq (
 .seq (
 .reg none [
 ⟨some 12, none, .mov (.c (.int .i64 0))⟩]) (
 .block 0 (
 .loop b22_0))) (
 .seq (
 .reg none [
 ⟨some 100, none, .mov (.t 9)⟩,
 ⟨some 6, none, .mov (.t 100)⟩]) (
 .ret))))))))
def a22 : AFunc := ⟨101, c22, [.tmp 6]⟩
/-! 23 cassegrain/frame.TimeAt params [38, 3] nfree 0 ntmps 55 -/
def c23 : ACode :=
 .seq (
 .reg none [
 ⟨some 3, none, .box 23004 3 (.t 1)⟩,
 ⟨some 4, none, .alloc 23005 40 (.agg (.gen [(.int .i64 0), (.int .i64 0)]))⟩,
 ⟨some 5, none, .mov (.c (.int .i64 0))⟩]) (
 .seq (
 .seq (
 .reg (some []) [
 ⟨some 12, none, .mov (.t 0)⟩,
 ⟨some 13, none, .ncall true 0 85 [(.t 12)]⟩,
 ⟨some 14, none, .load false 1 (.t 3)⟩,
 ⟨some 15, none, .ncall true 0 87 [(.t 14), (.c (.int .i64 0)), (.c (.int .i64 1000000))]⟩,
 ⟨some 16, none, .ncall true 0 86 [(.t 15), (.c (.int .i64 2))]⟩,
 ⟨some 17, none, .bslice 23018 28 1 [(.t 13), (.t 16)]⟩,
 ⟨some 18, none, .ncall true 0 84 [(.t 17)]⟩,
 ⟨some 6, none, .mov (.t 18)⟩]) (
 .gh [.keep [0, 3, 4, 5, 6]] (
 .seq (
 .reg none [
 ⟨some 19, none, .mov (.t 6)⟩,
 ⟨some 20, none, .bin .neq (.t 19) (.c (.int .i64 0))⟩]) (
 .cond (.t 20) (
 .seq (
 .reg none [
 ⟨some 21, none, .build (.gen [(.int .i64 0), (.int .i64 0)]) []⟩,
 ⟨some 22, none, .mov (.t 6)⟩,
 ⟨none, none, .store 2 (.t 4) (.t 21)⟩,
 ⟨some 5, none, .mov (.t 22)⟩]) (
 .ret)) (
 .skip))))) (
 .seq (
 .reg none [
 ⟨some 7, none, .alloc 23008 40 (.agg (.gen [(.int .i64 0), (.int .i64 0)]))⟩]) (
 .seq (
 .reg none [
 ⟨some 8, none, .alloc 23009 4 (.bool false)⟩,
 ⟨none, none, .store 1 (.t 8) (.c (.bool false))⟩]) (
 .seq (
 .seq (
 .reg none [
 ⟨some 23, none, .mov (.t 0)⟩,
 ⟨some 24, none, .ncall true 0 88 [(.t 23)]⟩]) (
 .block 0 (
 .rf 23901 (.t 24) [25] (
 .reg none [
 ⟨some 9, none, .alloc 23010 152 (.agg (.gen [(.int .i64 0), (.int .i64 0), (.int .i64 0), (.int .i64 0)]))⟩,
 ⟨none, none, .store 4 (.t 9) (.t 25)⟩]) (
 .block 1 (
 .seq (
 .reg none [
 ⟨some 26, none, .load true 4 (.t 9)⟩,
 ⟨some 27, none, .load false 1 (.t 3)⟩,
 ⟨some 28, none, .ncall true 0 89 [(.t 26), (.t 27)]⟩,
 ⟨some 10, none, .mov (.t 28)⟩]) (
 .seq (
 .reg (some [(0, 11), (1, 11), (2, 11), (3, 11), (4, 11), (5, 11), (6, 11), (7, 11), (8, 11), (9, 11), (10, 11)]) [
 ⟨some 29, none, .mov (.t 10)⟩,
 ⟨some 30, none, .load true 4 (.t 9)⟩,
 ⟨some 31, none, .ncall true 0 91 [(.t 30)]⟩,
 ⟨some 32, none, .ncall true 0 90 [(.t 29), (.t 31)]⟩,
 ⟨some 33, none, .mov (.t 10)⟩,
 ⟨some 34, none, .neg (.t 33)⟩,
 ⟨some 35, none, .load true 4 (.t 9)⟩,
 ⟨some 36, none, .ncall true 0 91 [(.t 35)]⟩,
 ⟨some 37, none, .ncall true 0 90 [(.t 34), (.t 36)]⟩,
 ⟨some 38, none, .neg (.t 37)⟩,
 ⟨some 39, none, .build (.gen [(.int .i64 0), (.int .i64 0)]) [(0, 1, (.t 32)), (1, 1, (.t 38))]⟩,
 ⟨some 11, none, .alloc 23012 40 (.agg (.gen [(.int .i64 0), (.int .i64 0)]))⟩,
 ⟨none, none, .store 2 (.t 11) (.t 39)⟩]) (
 .gh [.keep [3, 4, 5, 7, 8, 11]] (
 .seq (
 .seq (
 .reg none [
 ⟨some 40, none, .load false 1 (.t 8)⟩,
 ⟨some 41, none, .not (.t 40)⟩]) (
 .cond (.t 41) (
 .reg none [
 ⟨some 42, none, .load true 2 (.t 11)⟩,
 ⟨none, none, .store 2 (.t 7) (.t 42)⟩,
 ⟨none, none, .store 1 (.t 8) (.c (.bool true))⟩]) (
 .skip))) (
 .reg none [
 ⟨some 43, none, .faddr 0 (.t 7)⟩,
 ⟨some 44, none, .load false 1 (.t 43)⟩,
 ⟨some 45, none, .faddr 0 (.t 11)⟩,
 ⟨some 46, none, .load false 1 (.t 45)⟩,
 ⟨some 47, none, .mm false (.t 44) (.t 46)⟩,
 ⟨some 48, none, .faddr 1 (.t 7)⟩,
 ⟨some 49, none, .load false 1 (.t 48)⟩,
 ⟨some 50, none, .faddr 1 (.t 11)⟩,
 ⟨some 51, none, .load false 1 (.t 50)⟩,
 ⟨some 52, none, .mm true (.t 49) (.t 51)⟩,
 ⟨some 53, none, .build (.gen [(.int .i64 0), (.int .i64 0)]) [(0, 1, (.t 47)), (1, 1, (.t 52))]⟩,
 ⟨none, none, .store 2 (.t 7) (.t 53)⟩]))))))))) (
 .seq (
 .reg none [
 ⟨some 54, none, .load true 2 (.t 7)⟩,
 ⟨none, none, .store 2 (.t 4) (.t 54)⟩,
 ⟨some 5, none, .mov (.c (.int .i64 0))⟩]) (
 .ret))))))
def a23 : AFunc := ⟨55, c23, [.cell 4 true 2, .tmp 5]⟩
/-! 24 cassegrain/cassegrainref06.CopyPairs params [38] nfree 0 ntmps 6 -/
def c24 : ACode :=
 .seq (
 .reg none [
 ⟨some 2, none, .mov (.c .nils)⟩]) (
 .seq (
 .reg none [
 ⟨some 3, none, .bslice 24004 49 3 []⟩,
 ⟨some 4, none, .mov (.t 0)⟩,
 ⟨some 5, none, .append 24006 49 3 (.t 3) (.t 4)⟩,
 ⟨some 2, none, .mov (.t 5)⟩]) (
 .ret))
def a24 : AFunc := ⟨6, c24, [.tmp 2]⟩
/-! 25 cassegrain/cassegrainref06.PairsErr params [38] nfree 0 ntmps 11 -/
def c25 : ACode :=
 .seq (
 .reg none [
 ⟨some 2, none, .mov (.c (.int .i64 0))⟩]) (
 .seq (
 .reg none [
 ⟨some 6, none, .mov (.t 0)⟩,
 ⟨some 7, none, .ncall true 0 44 [(.t 6)]⟩,
 ⟨some 5, none, .mov (.t 7)⟩,
 ⟨some 8, none, .ext 0 (.t 5)⟩,
 ⟨some 9, none, .ext 1 (.t 5)⟩,
 ⟨some 3, none, .mov (.t 8)⟩,
 ⟨some 4, none, .mov (.t 9)⟩]) (
 .gh [.keep [4]] (
 .seq (
 .reg none [
 ⟨some 10, none, .mov (.t 4)⟩,
 ⟨some 2, none, .mov (.t 10)⟩]) (
 .ret))))
def a25 : AFunc := ⟨11, c25, [.tmp 2]⟩
/-! 26 cassegrain/cassegrainref06.HasLine params [38] nfree 0 ntmps 14 -/
def c26 : ACode :=
 .seq (
 .reg none [
 ⟨some 2, none, .mov (.c (.bool false))⟩]) (
 .seq (
 .seq (
 .reg none [
 ⟨some 5, none, .mov (.t 0)⟩,
 ⟨some 6, none, .len (.t 5)⟩,
 ⟨some 7, none, .bin .lss (.t 6) (.c (.int .i64 2))⟩]) (
 .cond (.t 7) (
 .seq (
 .reg none [
 ⟨some 2, none, .mov (.c (.bool true))⟩]) (
 .ret)) (
 .skip))) (
 .seq (
 .reg none [
 ⟨some 9, none, .mov (.t 0)⟩,
 ⟨some 10, none, .ncall true 0 47 [(.t 9)]⟩,
 ⟨some 8, none, .mov (.t 10)⟩,
 ⟨some 11, none, .ext 0 (.t 8)⟩,
 ⟨some 12, none, .ext 1 (.t 8)⟩,
 ⟨some 3, none, .alloc 26004 80 (.agg (.ints .i64 [0, 0, 0, 0]))⟩,
 ⟨none, none, .store 4 (.t 3) (.t 11)⟩,
 ⟨some 4, none, .mov (.t 12)⟩]) (
 .gh [.keep [4]] (
 .seq (
 .reg none [
 ⟨some 13, none, .mov (.t 4)⟩,
 ⟨some 2, none, .mov (.t 13)⟩]) (
 .ret)))))
def a26 : AFunc := ⟨14, c26, [.tmp 2]⟩
/-! 27 cassegrain/cassegrainbase.Within params [3, 3, 3] nfree 0 ntmps 15 -/
def c27 : ACode :=
 .seq (
 .reg none [
 ⟨some 6, none, .mov (.c (.bool false))⟩]) (
 .seq (
 .reg none [
 ⟨some 7, none, .mov (.t 1)⟩,
 ⟨some 8, none, .mov (.t 0)⟩,
 ⟨some 9, none, .bin .leq (.t 7) (.t 8)⟩,
 ⟨some 10, none, .mov (.t 9)⟩,
 ⟨some 11, (some (10, true)), .mov (.t 0)⟩,
 ⟨some 12, (some (10, true)), .mov (.t 2)⟩,
 ⟨some 13, (some (10, true)), .bin .leq (.t 11) (.t 12)⟩,
 ⟨some 14, none, .pick (.t 10) (.t 13) (.c (.bool false))⟩,
 ⟨some 6, none, .mov (.t 14)⟩]) (
 .gh [.keep [6]] (
 .ret)))
def a27 : AFunc := ⟨15, c27, [.tmp 6]⟩
/-! 28 cassegrain/cassegrainref06.TimeAt params [38, 3] nfree 0 ntmps 195 -/
def l28_1 : ACode :=
 .seq (
 .seq (
 .reg none [
 ⟨some 124, none, .mov (.t 17)⟩,
 ⟨some 125, none, .mov (.t 0)⟩,
 ⟨some 126, none, .len (.t 125)⟩,
 ⟨some 127, none, .bin .lss (.t 124) (.t 126)⟩]) (
 .cond (.t 127) (
 .skip) (
 .exit 6))) (
 .seq (
 .block 7 (
 .seq (
 .reg (some []) [
 ⟨some 130, none, .faddr 0 (.t 14)⟩,
 ⟨some 131, none, .load false 1 (.t 130)⟩,
 ⟨some 132, none, .mov (.t 1)⟩,
 ⟨some 133, none, .mov (.t 0)⟩,
 ⟨some 134, none, .mov (.t 17)⟩,
 ⟨some 135, none, .iaddr 3 (.t 133) (.t 134)⟩,
 ⟨some 136, none, .faddr 0 (.t 135)⟩,
 ⟨some 137, none, .load false 1 (.t 136)⟩,
 ⟨some 138, none, .bin .sub (.t 132) (.t 137)⟩,
 ⟨some 139, none, .bin .mul (.t 131) (.t 138)⟩,
 ⟨some 18, none, .mov (.t 139)⟩]) (
 .gh [.keep [0, 1, 4, 5, 7, 11, 12, 13, 14, 15, 16, 17, 18]] (
 .seq (
 .reg (some []) [
 ⟨some 140, none, .mov (.t 0)⟩,
 ⟨some 141, none, .mov (.t 17)⟩,
 ⟨some 142, none, .iaddr 3 (.t 140) (.t 141)⟩,
 ⟨some 143, none, .faddr 1 (.t 142)⟩,
 ⟨some 144, none, .faddr 0 (.t 143)⟩,
 ⟨some 145, none, .load false 1 (.t 144)⟩,
 ⟨some 146, none, .faddr 1 (.t 14)⟩,
 ⟨some 147, none, .load false 1 (.t 146)⟩,
 ⟨some 148, none, .bin .mul (.t 145) (.t 147)⟩,
 ⟨some 149, none, .mov (.t 18)⟩,
 ⟨some 150, none, .bin .add (.t 148) (.t 149)⟩,
 ⟨some 151, none, .mov (.t 0)⟩,
 ⟨some 152, none, .mov (.t 17)⟩,
 ⟨some 153, none, .iaddr 3 (.t 151) (.t 152)⟩,
 ⟨some 154, none, .faddr 1 (.t 153)⟩,
 ⟨some 155, none, .faddr 1 (.t 154)⟩,
 ⟨some 156, none, .load false 1 (.t 155)⟩,
 ⟨some 157, none, .faddr 1 (.t 14)⟩,
 ⟨some 158, none, .load false 1 (.t 157)⟩,
 ⟨some 159, none, .bin .mul (.t 156) (.t 158)⟩,
 ⟨some 160, none, .mov (.t 18)⟩,
 ⟨some 161, none, .bin .add (.t 159) (.t 160)⟩,
 ⟨some 19, none, .mov (.t 150)⟩,
 ⟨some 20, none, .mov (.t 161)⟩]) (
 .gh [.keep [0, 1, 4, 5, 7, 11, 12, 13, 14, 15, 16, 17, 19, 20]] (
 .seq (
 .seq (
 .reg none [
 ⟨some 162, none, .mov (.t 17)⟩,
 ⟨some 163, none, .bin .eql (.t 162) (.c (.int .i64 0))⟩]) (
 .cond (.t 163) (
 .reg none [
 ⟨some 164, none, .mov (.t 19)⟩,
 ⟨some 165, none, .mov (.t 20)⟩,
 ⟨some 15, none, .mov (.t 164)⟩,
 ⟨some 16, none, .mov (.t 165)⟩]) (
 .skip))) (
 .reg none [
 ⟨some 166, none, .mov (.t 15)⟩,
 ⟨some 167, none, .mov (.t 19)⟩,
 ⟨some 168, none, .mm true (.t 166) (.t 167)⟩,
 ⟨some 169, none, .mov (.t 16)⟩,
 ⟨some 170, none, .mov (.t 20)⟩,
 ⟨some 171, none, .mm false (.t 169) (.t 170)⟩,
 ⟨some 15, none, .mov (.t 168)⟩,
 ⟨some 16, none, .mov (.t 171)⟩]))))))) (
 .reg none [
 ⟨some 128, none, .mov (.t 17)⟩,
 ⟨some 129, none, .bin .add (.t 128) (.c (.int .i64 1))⟩,
 ⟨some 17, none, .mov (.t 129)⟩]))
def b28_1 : ACode := .gh [.keep [0, 1, 4, 5, 7, 11, 12, 13, 14, 15, 16, 17]] (.gh [] l28_1)
def l28_0 : ACode :=
 .seq (
 .seq (
 .reg none [
 ⟨some 88, none, .mov (.t 13)⟩,
 ⟨some 89, none, .mov (.t 7)⟩,
 ⟨some 90, none, .len (.t 89)⟩,
 ⟨some 91, none, .bin .lss (.t 88) (.t 90)⟩]) (
 .cond (.t 91) (
 .skip) (
 .exit 4))) (
 .seq (
 .block 5 (
 .seq (
 .reg none [
 ⟨some 94, none, .mov (.t 7)⟩,
 ⟨some 95, none, .mov (.t 13)⟩,
 ⟨some 96, none, .iaddr 2 (.t 94) (.t 95)⟩,
 ⟨some 97, none, .load true 2 (.t 96)⟩,
 ⟨some 14, none, .alloc 28015 79 (.agg (.gen [(.int .i64 0), (.int .i64 0)]))⟩,
 ⟨none, none, .store 2 (.t 14) (.t 97)⟩]) (
 .seq (
 .seq (
 .reg none [
 ⟨some 98, none, .faddr 0 (.t 14)⟩,
 ⟨some 99, none, .load false 1 (.t 98)⟩,
 ⟨some 100, none, .faddr 1 (.t 14)⟩,
 ⟨some 101, none, .load false 1 (.t 100)⟩,
 ⟨some 102, none, .aaddr 2 2 (.t 5) (.c (.int .i64 0))⟩,
 ⟨some 103, none, .faddr 0 (.t 102)⟩,
 ⟨some 104, none, .load false 1 (.t 103)⟩,
 ⟨some 105, none, .aaddr 2 2 (.t 5) (.c (.int .i64 0))⟩,
 ⟨some 106, none, .faddr 1 (.t 105)⟩,
 ⟨some 107, none, .load false 1 (.t 106)⟩,
 ⟨some 108, none, .ncall true 0 52 [(.t 99), (.t 101), (.t 104), (.t 107)]⟩,
 ⟨some 109, none, .bin .lss (.t 108) (.c (.int .i64 0))⟩,
 ⟨some 110, none, .mov (.t 109)⟩,
 ⟨some 111, (some (110, false)), .faddr 0 (.t 14)⟩,
 ⟨some 112, (some (110, false)), .load false 1 (.t 111)⟩,
 ⟨some 113, (some (110, false)), .faddr 1 (.t 14)⟩,
 ⟨some 114, (some (110, false)), .load false 1 (.t 113)⟩,
 ⟨some 115, (some (110, false)), .aaddr 2 2 (.t 5) (.c (.int .i64 1))⟩,
 ⟨some 116, (some (110, false)), .faddr 0 (.t 115)⟩,
 ⟨some 117, (some (110, false)), .load false 1 (.t 116)⟩,
 ⟨some 118, (some (110, false)), .aaddr 2 2 (.t 5) (.c (.int .i64 1))⟩,
 ⟨some 119, (some (110, false)), .faddr 1 (.t 118)⟩,
 ⟨some 120, (some (110, false)), .load false 1 (.t 119)⟩,
 ⟨some 121, (some (110, false)), .ncall true 0 52 [(.t 112), (.t 114), (.t 117), (.t 120)]⟩,
 ⟨some 122, (some (110, false)), .bin .gtr (.t 121) (.c (.int .i64 0))⟩,
 ⟨some 123, none, .pick (.t 110) (.c (.bool true)) (.t 122)⟩]) (
 .gh [.keep [0, 1, 4, 5, 7, 11, 12, 13, 14, 123]] (
 .cond (.t 123) (
 .exit 5) (
 .skip)))) (
 .seq (
 .reg none [
 ⟨some 15, none, .mov (.c (.int .i64 0))⟩,
 ⟨some 16, none, .mov (.c (.int .i64 0))⟩]) (
 .seq (
 .seq (
 .reg none [
 ⟨some 17, none, .mov (.c (.int .i64 0))⟩]) (
 .block 6 (
 .loop b28_1))) (
 .seq (
 .reg (some []) [
 ⟨some 172, none, .mov (.t 15)⟩,
 ⟨some 173, none, .faddr 1 (.t 14)⟩,
 ⟨some 174, none, .load false 1 (.t 173)⟩,
 ⟨some 175, none, .ncall true 0 49 [(.t 172), (.t 174)]⟩,
 ⟨some 176, none, .mov (.t 16)⟩,
 ⟨some 177, none, .faddr 1 (.t 14)⟩,
 ⟨some 178, none, .load false 1 (.t 177)⟩,
 ⟨some 179, none, .ncall true 0 50 [(.t 176), (.t 178)]⟩,
 ⟨some 21, none, .mov (.t 175)⟩,
 ⟨some 22, none, .mov (.t 179)⟩]) (
 .gh [.keep [0, 1, 4, 5, 7, 11, 12, 13, 21, 22]] (
 .seq (
 .seq (
 .reg none [
 ⟨some 180, none, .mov (.t 12)⟩,
 ⟨some 181, none, .not (.t 180)⟩]) (
 .cond (.t 181) (
 .reg none [
 ⟨some 182, none, .mov (.t 21)⟩,
 ⟨some 183, none, .mov (.t 22)⟩,
 ⟨some 184, none, .build (.gen [(.int .i64 0), (.int .i64 0)]) [(0, 1, (.t 182)), (1, 1, (.t 183))]⟩,
 ⟨none, none, .store 2 (.t 11) (.t 184)⟩,
 ⟨some 12, none, .mov (.c (.bool true))⟩]) (
 .skip))) (
 .reg none [
 ⟨some 185, none, .faddr 0 (.t 11)⟩,
 ⟨some 186, none, .load false 1 (.t 185)⟩,
 ⟨some 187, none, .mov (.t 21)⟩,
 ⟨some 188, none, .mm false (.t 186) (.t 187)⟩,
 ⟨some 189, none, .faddr 1 (.t 11)⟩,
 ⟨some 190, none, .load false 1 (.t 189)⟩,
 ⟨some 191, none, .mov (.t 22)⟩,
 ⟨some 192, none, .mm true (.t 190) (.t 191)⟩,
 ⟨some 193, none, .build (.gen [(.int .i64 0), (.int .i64 0)]) [(0, 1, (.t 188)), (1, 1, (.t 192))]⟩,
 ⟨none, none, .store 2 (.t 11) (.t 193)⟩]))))))))) (
 .reg none [
 ⟨some 92, none, .mov (.t 13)⟩,
 ⟨some 93, none, .bin .add (.t 92) (.c (.int .i64 1))⟩,
 ⟨some 13, none, .mov (.t 93)⟩]))
def b28_0 : ACode := .gh [.keep [0, 1, 4, 5, 7, 11, 12, 13]] (.gh [] l28_0)
def l28_3 : ACode :=
 .seq (
 .seq (
 .reg none [
 ⟨some 39, none, .mov (.t 9)⟩,
 ⟨some 40, none, .mov (.t 8)⟩,
 ⟨some 41, none, .bin .lss (.t 39) (.t 40)⟩]) (
 .cond (.t 41) (
 .skip) (
 .exit 2))) (
 .seq (
 .block 3 (
 .seq (
 .reg (some []) [
 ⟨some 44, none, .mov (.t 0)⟩,
 ⟨some 45, none, .mov (.t 8)⟩,
 ⟨some 46, none, .iaddr 3 (.t 44) (.t 45)⟩,
 ⟨some 47, none, .faddr 0 (.t 46)⟩,
 ⟨some 48, none, .load false 1 (.t 47)⟩,
 ⟨some 49, none, .mov (.t 0)⟩,
 ⟨some 50, none, .mov (.t 9)⟩,
 ⟨some 51, none, .iaddr 3 (.t 49) (.t 50)⟩,
 ⟨some 52, none, .faddr 0 (.t 51)⟩,
 ⟨some 53, none, .load false 1 (.t 52)⟩,
 ⟨some 54, none, .bin .sub (.t 48) (.t 53)⟩,
 ⟨some 10, none, .mov (.t 54)⟩]) (
 .gh [.keep [0, 1, 4, 5, 7, 8, 9, 10]] (
 .reg (some [(0, 31)]) [
 ⟨some 55, none, .mov (.t 7)⟩,
 ⟨some 56, none, .mov (.t 0)⟩,
 ⟨some 57, none, .mov (.t 8)⟩,
 ⟨some 58, none, .iaddr 3 (.t 56) (.t 57)⟩,
 ⟨some 59, none, .faddr 1 (.t 58)⟩,
 ⟨some 60, none, .faddr 0 (.t 59)⟩,
 ⟨some 61, none, .load false 1 (.t 60)⟩,
 ⟨some 62, none, .mov (.t 0)⟩,
 ⟨some 63, none, .mov (.t 9)⟩,
 ⟨some 64, none, .iaddr 3 (.t 62) (.t 63)⟩,
 ⟨some 65, none, .faddr 1 (.t 64)⟩,
 ⟨some 66, none, .faddr 0 (.t 65)⟩,
 ⟨some 67, none, .load false 1 (.t 66)⟩,
 ⟨some 68, none, .bin .sub (.t 61) (.t 67)⟩,
 ⟨some 69, none, .mov (.t 10)⟩,
 ⟨some 70, none, .ncall true 0 92 [(.t 68), (.t 69)]⟩,
 ⟨some 71, none, .mov (.t 0)⟩,
 ⟨some 72, none, .mov (.t 8)⟩,
 ⟨some 73, none, .iaddr 3 (.t 71) (.t 72)⟩,
 ⟨some 74, none, .faddr 1 (.t 73)⟩,
 ⟨some 75, none, .faddr 1 (.t 74)⟩,
 ⟨some 76, none, .load false 1 (.t 75)⟩,
 ⟨some 77, none, .mov (.t 0)⟩,
 ⟨some 78, none, .mov (.t 9)⟩,
 ⟨some 79, none, .iaddr 3 (.t 77) (.t 78)⟩,
 ⟨some 80, none, .faddr 1 (.t 79)⟩,
 ⟨some 81, none, .faddr 1 (.t 80)⟩,
 ⟨some 82, none, .load false 1 (.t 81)⟩,
 ⟨some 83, none, .bin .sub (.t 76) (.t 82)⟩,
 ⟨some 84, none, .mov (.t 10)⟩,
 ⟨some 85, none, .ncall true 0 92 [(.t 83), (.t 84)]⟩,
 ⟨some 86, none, .bslice 28087 79 2 [(.t 70), (.t 85)]⟩,
 ⟨some 87, none, .append 28088 79 2 (.t 55) (.t 86)⟩,
 ⟨some 7, none, .mov (.t 87)⟩])))) (
 .reg none [
 ⟨some 42, none, .mov (.t 9)⟩,
 ⟨some 43, none, .bin .add (.t 42) (.c (.int .i64 1))⟩,
 ⟨some 9, none, .mov (.t 43)⟩]))
def b28_3 : ACode := .gh [.keep [0, 1, 4, 5, 7, 8, 9]] (.gh [] l28_3)
def l28_2 : ACode :=
 .seq (
 .seq (
 .reg none [
 ⟨some 33, none, .mov (.t 8)⟩,
 ⟨some 34, none, .mov (.t 0)⟩,
 ⟨some 35, none, .len (.t 34)⟩,
 ⟨some 36, none, .bin .lss (.t 33) (.t 35)⟩]) (
 .cond (.t 36) (
 .skip) (
 .exit 0))) (
 .seq (
 .block 1 (
 .seq (
 .reg none [
 ⟨some 9, none, .mov (.c (.int .i64 0))⟩]) (
 .block 2 (
 .loop b28_3)))) (
 .reg none [
 ⟨some 37, none, .mov (.t 8)⟩,
 ⟨some 38, none, .bin .add (.t 37) (.c (.int .i64 1))⟩,
 ⟨some 8, none, .mov (.t 38)⟩]))
def b28_2 : ACode := .gh [.keep [0, 1, 4, 5, 7, 8]] (.gh [] l28_2)
def k28_1 : List AItem := .inLoop b28_1 :: [.inBlock 6,
 .code (.seq (
 .reg (some []) [
 ⟨some 172, none, .mov (.t 15)⟩,
 ⟨some 173, none, .faddr 1 (.t 14)⟩,
 ⟨some 174, none, .load false 1 (.t 173)⟩,
 ⟨some 175, none, .ncall true 0 49 [(.t 172), (.t 174)]⟩,
 ⟨some 176, none, .mov (.t 16)⟩,
 ⟨some 177, none, .faddr 1 (.t 14)⟩,
 ⟨some 178, none, .load false 1 (.t 177)⟩,
 ⟨some 179, none, .ncall true 0 50 [(.t 176), (.t 178)]⟩,
 ⟨some 21, none, .mov (.t 175)⟩,
 ⟨some 22, none, .mov (.t 179)⟩]) (
 .gh [.keep [0, 1, 4, 5, 7, 11, 12, 13, 21, 22]] (
 .seq (
 .seq (
 .reg none [
 ⟨some 180, none, .mov (.t 12)⟩,
 ⟨some 181, none, .not (.t 180)⟩]) (
 .cond (.t 181) (
 .reg none [
 ⟨some 182, none, .mov (.t 21)⟩,
 ⟨some 183, none, .mov (.t 22)⟩,
 ⟨some 184, none, .build (.gen [(.int .i64 0), (.int .i64 0)]) [(0, 1, (.t 182)), (1, 1, (.t 183))]⟩,
 ⟨none, none, .store 2 (.t 11) (.t 184)⟩,
 ⟨some 12, none, .mov (.c (.bool true))⟩]) (
 .skip))) (
 .reg none [
 ⟨some 185, none, .faddr 0 (.t 11)⟩,
 ⟨some 186, none, .load false 1 (.t 185)⟩,
 ⟨some 187, none, .mov (.t 21)⟩,
 ⟨some 188, none, .mm false (.t 186) (.t 187)⟩,
 ⟨some 189, none, .faddr 1 (.t 11)⟩,
 ⟨some 190, none, .load false 1 (.t 189)⟩,
 ⟨some 191, none, .mov (.t 22)⟩,
 ⟨some 192, none, .mm true (.t 190) (.t 191)⟩,
 ⟨some 193, none, .build (.gen [(.int .i64 0), (.int .i64 0)]) [(0, 1, (.t 188)), (1, 1, (.t 192))]⟩,
 ⟨none, none, .store 2 (.t 11) (.t 193)⟩])))),
 .inBlock 5,
 .code (.reg none [
 ⟨some 92, none, .mov (.t 13)⟩,
 ⟨some 93, none, .bin .add (.t 92) (.c (.int .i64 1))⟩,
 ⟨some 13, none, .mov (.t 93)⟩]),
 .inLoop b28_0,
 .inBlock 4,
 .code (.seq (
 .reg none [
 ⟨some 194, none, .load true 2 (.t 11)⟩,
 ⟨none, none, .store 2 (.t 4) (.t 194)⟩]) (
 .ret))]
def k28_0 : List AItem := .inLoop b28_0 :: [.inBlock 4,
 .code (.seq (
 .reg none [
 ⟨some 194, none, .load true 2 (.t 11)⟩,
 ⟨none, none, .store 2 (.t 4) (.t 194)⟩]) (
 .ret))]
def k28_3 : List AItem := .inLoop b28_3 :: [.inBlock 2,
 .inBlock 1,
 .code (.reg none [
 ⟨some 37, none, .mov (.t 8)⟩,
 ⟨some 38, none, .bin .add (.t 37) (.c (.int .i64 1))⟩,
 ⟨some 8, none, .mov (.t 38)⟩]),
 .inLoop b28_2,
 .inBlock 0,
 .code (.seq (
 .reg none [
 ⟨some 11, none, .alloc 28012 40 (.agg (.gen [(.int .i64 0), (.int .i64 0)]))⟩]) (
 .seq (
 .reg none [
 ⟨some 12, none, .mov (.c (.bool false))⟩]) (
 .seq (
 .seq (
 .reg none [
 ⟨some 13, none, .mov (.c (.int .i64 0))⟩]) (
 .block 4 (
 .loop b28_0))) (
 .seq (
 .reg none [
 ⟨some 194, none, .load true 2 (.t 11)⟩,
 ⟨none, none, .store 2 (.t 4) (.t 194)⟩]) (
 .ret)))))]
def k28_2 : List AItem := .inLoop b28_2 :: [.inBlock 0,
 .code (.seq (
 .reg none [
 ⟨some 11, none, .alloc 28012 40 (.agg (.gen [(.int .i64 0), (.int .i64 0)]))⟩]) (
 .seq (
 .reg none [
 ⟨some 12, none, .mov (.c (.bool false))⟩]) (
 .seq (
 .seq (
 .reg none [
 ⟨some 13, none, .mov (.c (.int .i64 0))⟩]) (
 .block 4 (
 .loop b28_0))) (
 .seq (
 .reg none [
 ⟨some 194, none, .load true 2 (.t 11)⟩,
 ⟨none, none, .store 2 (.t 4) (.t 194)⟩]) (
 .ret)))))]
def c28 : ACode :=
 .seq (
 .reg none [
 ⟨some 4, none, .alloc 28005 40 (.agg (.gen [(.int .i64 0), (.int .i64 0)]))⟩]) (
 .seq (
 .reg none [
 ⟨some 24, none, .mov (.t 0)⟩,
 ⟨some 25, none, .ncall true 0 47 [(.t 24)]⟩,
 ⟨some 23, none, .mov (.t 25)⟩,
 ⟨some 26, none, .ext 0 (.t 23)⟩,
 ⟨some 27, none, .ext 1 (.t 23)⟩,
 ⟨some 5, none, .alloc 28006 80 (.agg (.ints .i64 [0, 0, 0, 0]))⟩,
 ⟨none, none, .store 4 (.t 5) (.t 26)⟩,
 ⟨some 6, none, .mov (.t 27)⟩]) (
 .gh [.keep [0, 1, 4, 5]] (
 .seq (
 .reg none [
 ⟨some 28, none, .aaddr 2 2 (.t 5) (.c (.int .i64 0))⟩,
 ⟨some 29, none, .load true 2 (.t 28)⟩,
 ⟨some 30, none, .aaddr 2 2 (.t 5) (.c (.int .i64 1))⟩,
 ⟨some 31, none, .load true 2 (.t 30)⟩,
 ⟨some 32, none, .bslice 28033 79 2 [(.t 29), (.t 31)]⟩,
 ⟨some 7, none, .mov (.t 32)⟩]) (
 .seq (
 .seq (
 .reg none [
 ⟨some 8, none, .mov (.c (.int .i64 0))⟩]) (
 .block 0 (
 .loop b28_2))) (
 .seq (
 .reg none [
 ⟨some 11, none, .alloc 28012 40 (.agg (.gen [(.int .i64 0), (.int .i64 0)]))⟩]) (
 .seq (
 .reg none [
 ⟨some 12, none, .mov (.c (.bool false))⟩]) (
 .seq (
 .seq (
 .reg none [
 ⟨some 13, none, .mov (.c (.int .i64 0))⟩]) (
 .block 4 (
 .loop b28_0))) (
 .seq (
 .reg none [
 ⟨some 194, none, .load true 2 (.t 11)⟩,
 ⟨none, none, .store 2 (.t 4) (.t 194)⟩]) (
 .ret)))))))))
def a28 : AFunc := ⟨195, c28, [.cell 4 true 2]⟩
/-! 29 cassegrain/cassegrainlaw06.Few params [27] nfree 0 ntmps 20 -/
def l29_0 : ACode :=
 .seq (
 .seq (
 .reg none [
 ⟨some 7, none, .mov (.t 3)⟩,
 ⟨some 8, none, .mov (.t 0)⟩,
 ⟨some 9, none, .len (.t 8)⟩,
 ⟨some 10, none, .bin .lss (.t 7) (.t 9)⟩]) (
 .cond (.t 10) (
 .skip) (
 .exit 0))) (
 .seq (
 .block 1 (
 .seq (
 .reg none [
 ⟨some 13, none, .mov (.t 0)⟩,
 ⟨some 14, none, .mov (.t 3)⟩,
 ⟨some 15, none, .iaddr 3 (.t 13) (.t 14)⟩,
 ⟨some 16, none, .faddr 2 (.t 15)⟩,
 ⟨some 17, none, .load false 1 (.t 16)⟩,
 ⟨some 18, none, .len (.t 17)⟩,
 ⟨some 19, none, .bin .gtr (.t 18) (.c (.int .i64 42))⟩]) (
 .gh [.keep [0, 3, 19]] (
 .cond (.t 19) (
 .seq (
 .reg none [
 ⟨some 2, none, .mov (.c (.bool false))⟩]) (
 .ret)) (
 .skip))))) (
 .reg none [
 ⟨some 11, none, .mov (.t 3)⟩,
 ⟨some 12, none, .bin .add (.t 11) (.c (.int .i64 1))⟩,
 ⟨some 3, none, .mov (.t 12)⟩]))
def b29_0 : ACode := .gh [.keep [0, 3]] (.gh [] l29_0)
def k29_0 : List AItem := .inLoop b29_0 :: [.inBlock 0,
 .code (.seq (
 .reg none [
 ⟨some 2, none, .mov (.c (.bool true))⟩]) (
 .ret))]
def c29 : ACode :=
 .seq (
 .reg none [
 ⟨some 2, none, .mov (.c (.bool false))⟩]) (
 .seq (
 .seq (
 .reg none [
 ⟨some 4, none, .mov (.t 0)⟩,
 ⟨some 5, none, .len (.t 4)⟩,
 ⟨some 6, none, .bin .gtr (.t 5) (.c (.int .i64 22))⟩]) (
 .cond (.t 6) (
 .seq (
 .reg none [
 ⟨some 2, none, .mov (.c (.bool false))⟩]) (
 .ret)) (
 .skip))) (
 .seq (
 .seq (
 .reg none [
 ⟨some 3, none, .mov (.c (.int .i64 0))⟩]) (
 .block 0 (
 .loop b29_0))) (
 .seq (
 .reg none [
 ⟨some 2, none, .mov (.c (.bool true))⟩]) (
 .ret))))
def a29 : AFunc := ⟨20, c29, [.tmp 2]⟩
/-! 30 cassegrain/frame.CheckPacket params [57] nfree 0 ntmps 22 -/
def c30 : ACode :=
 .seq (
 .reg none [
 ⟨some 1, none, .box 30002 57 (.t 0)⟩,
 ⟨some 2, none, .mov (.c (.int .i64 0))⟩]) (
 .seq (
 .reg (some []) [
 ⟨some 3, none, .faddr 0 (.t 1)⟩,
 ⟨some 4, none, .load false 1 (.t 3)⟩,
 ⟨some 5, none, .ncall true 0 93 [(.t 4)]⟩,
 ⟨some 6, none, .mov (.t 5)⟩,
 ⟨some 7, (some (6, true)), .faddr 1 (.t 1)⟩,
 ⟨some 8, (some (6, true)), .load false 1 (.t 7)⟩,
 ⟨some 9, (some (6, true)), .ncall true 0 93 [(.t 8)]⟩,
 ⟨some 10, none, .pick (.t 6) (.t 9) (.c (.bool false))⟩,
 ⟨some 11, none, .ncall true 0 86 [(.t 10), (.c (.int .i64 2))]⟩,
 ⟨some 12, none, .faddr 2 (.t 1)⟩,
 ⟨some 13, none, .load false 1 (.t 12)⟩,
 ⟨some 14, none, .len (.t 13)⟩,
 ⟨some 15, none, .bin .leq (.t 14) (.c (.int .i64 40))⟩,
 ⟨some 16, none, .ncall true 0 86 [(.t 15), (.c (.int .i64 8))]⟩,
 ⟨some 17, none, .faddr 2 (.t 1)⟩,
 ⟨some 18, none, .load false 1 (.t 17)⟩,
 ⟨some 19, none, .ncall true 0 94 [(.t 18)]⟩,
 ⟨some 20, none, .bslice 30021 28 1 [(.t 11), (.t 16), (.t 19)]⟩,
 ⟨some 21, none, .ncall true 0 84 [(.t 20)]⟩,
 ⟨some 2, none, .mov (.t 21)⟩]) (
 .gh [.keep [2]] (
 .ret)))
def a30 : AFunc := ⟨22, c30, [.tmp 2]⟩
/-! 31 cassegrain/cassegrainref06.CopyPacket params [57] nfree 0 ntmps 8 -/
def c31 : ACode :=
 .seq (
 .reg none [
 ⟨some 1, none, .box 31002 57 (.t 0)⟩,
 ⟨some 2, none, .alloc 31003 57 (.agg (.gen [(.int .i64 0), (.int .i64 0), .nils]))⟩]) (
 .seq (
 .reg none [
 ⟨some 3, none, .faddr 2 (.t 1)⟩,
 ⟨some 4, none, .load false 1 (.t 3)⟩,
 ⟨some 5, none, .ncall true 31006 55 [(.t 4)]⟩,
 ⟨some 6, none, .faddr 2 (.t 1)⟩,
 ⟨none, none, .store 1 (.t 6) (.t 5)⟩]) (
 .seq (
 .reg none [
 ⟨some 7, none, .load true 3 (.t 1)⟩,
 ⟨none, none, .store 3 (.t 2) (.t 7)⟩]) (
 .ret)))
def a31 : AFunc := ⟨8, c31, [.cell 2 true 3]⟩
/-! 32 cassegrain/cassegrainref06.PacketErr params [57] nfree 0 ntmps 20 -/
def c32 : ACode :=
 .seq (
 .reg none [
 ⟨some 1, none, .box 32002 57 (.t 0)⟩,
 ⟨some 2, none, .mov (.c (.int .i64 0))⟩]) (
 .seq (
 .seq (
 .reg none [
 ⟨some 3, none, .faddr 0 (.t 1)⟩,
 ⟨some 4, none, .load false 1 (.t 3)⟩,
 ⟨some 5, none, .ncall true 0 27 [(.t 4), (.c (.int .i64 0)), (.c (.int .i64 255))]⟩,
 ⟨some 6, none, .not (.t 5)⟩,
 ⟨some 7, none, .mov (.t 6)⟩,
 ⟨some 8, (some (7, false)), .faddr 1 (.t 1)⟩,
 ⟨some 9, (some (7, false)), .load false 1 (.t 8)⟩,
 ⟨some 10, (some (7, false)), .ncall true 0 27 [(.t 9), (.c (.int .i64 0)), (.c (.int .i64 255))]⟩,
 ⟨some 11, (some (7, false)), .not (.t 10)⟩,
 ⟨some 12, none, .pick (.t 7) (.c (.bool true)) (.t 11)⟩]) (
 .gh [.keep [1, 12]] (
 .cond (.t 12) (
 .seq (
 .reg none [
 ⟨some 2, none, .mov (.c (.int .i64 2))⟩]) (
 .ret)) (
 .skip)))) (
 .seq (
 .seq (
 .reg none [
 ⟨some 13, none, .faddr 2 (.t 1)⟩,
 ⟨some 14, none, .load false 1 (.t 13)⟩,
 ⟨some 15, none, .len (.t 14)⟩,
 ⟨some 16, none, .bin .gtr (.t 15) (.c (.int .i64 40))⟩]) (
 .cond (.t 16) (
 .seq (
 .reg none [
 ⟨some 2, none, .mov (.c (.int .i64 8))⟩]) (
 .ret)) (
 .skip))) (
 .seq (
 .reg none [
 ⟨some 17, none, .faddr 2 (.t 1)⟩,
 ⟨some 18, none, .load false 1 (.t 17)⟩,
 ⟨some 19, none, .ncall true 0 69 [(.t 18)]⟩,
 ⟨some 2, none, .mov (.t 19)⟩]) (
 .ret))))
def a32 : AFunc := ⟨20, c32, [.tmp 2]⟩
/-! 33 cassegrain/frame.FramesFor params [23, 27] nfree 0 ntmps 36 -/
def c33 : ACode :=
 .seq (
 .reg none [
 ⟨some 2, none, .box 33003 23 (.t 0)⟩,
 ⟨some 4, none, .mov (.c (.int .i64 0))⟩,
 ⟨some 5, none, .mov (.c (.int .i64 0))⟩]) (
 .seq (
 .reg none [
 ⟨some 11, none, .load true 2 (.t 2)⟩,
 ⟨some 12, none, .ncall true 0 95 [(.t 11)]⟩,
 ⟨some 10, none, .mov (.t 12)⟩,
 ⟨some 13, none, .ext 0 (.t 10)⟩,
 ⟨some 14, none, .ext 1 (.t 10)⟩,
 ⟨some 6, none, .alloc 33007 132 (.agg (.gen [(.int .i64 0), (.int .i64 0)]))⟩,
 ⟨none, none, .store 2 (.t 6) (.t 13)⟩,
 ⟨some 7, none, .mov (.t 14)⟩]) (
 .seq (
 .seq (
 .reg none [
 ⟨some 15, none, .mov (.t 7)⟩,
 ⟨some 16, none, .mov (.t 1)⟩,
 ⟨some 17, none, .ncall true 0 96 [(.t 16)]⟩,
 ⟨some 18, none, .bslice 33019 28 1 [(.t 15), (.t 17)]⟩,
 ⟨some 19, none, .ncall true 0 84 [(.t 18)]⟩,
 ⟨some 7, none, .mov (.t 19)⟩]) (
 .seq (
 .reg none [
 ⟨some 20, none, .mov (.t 7)⟩,
 ⟨some 21, none, .bin .neq (.t 20) (.c (.int .i64 0))⟩]) (
 .cond (.t 21) (
 .seq (
 .reg none [
 ⟨some 22, none, .mov (.t 7)⟩,
 ⟨some 4, none, .mov (.c (.int .i64 0))⟩,
 ⟨some 5, none, .mov (.t 22)⟩]) (
 .ret)) (
 .skip)))) (
 .seq (
 .reg none [
 ⟨some 24, none, .load true 2 (.t 6)⟩,
 ⟨some 25, none, .mov (.t 1)⟩,
 ⟨some 26, none, .ncall true 33027 98 [(.t 24), (.t 25)]⟩,
 ⟨some 27, none, .ncall true 33028 97 [(.t 26)]⟩,
 ⟨some 23, none, .mov (.t 27)⟩,
 ⟨some 28, none, .ext 0 (.t 23)⟩,
 ⟨some 29, none, .ext 1 (.t 23)⟩,
 ⟨some 8, none, .mov (.t 28)⟩,
 ⟨some 9, none, .mov (.t 29)⟩]) (
 .gh [.keep [6, 8]] (
 .seq (
 .reg none [
 ⟨some 30, none, .mov (.t 8)⟩,
 ⟨some 31, none, .len (.t 30)⟩,
 ⟨some 32, none, .faddr 0 (.t 6)⟩,
 ⟨some 33, none, .faddr 0 (.t 32)⟩,
 ⟨some 34, none, .load false 1 (.t 33)⟩,
 ⟨some 35, none, .bin .quo (.t 31) (.t 34)⟩,
 ⟨some 4, none, .mov (.t 35)⟩,
 ⟨some 5, none, .mov (.c (.int .i64 0))⟩]) (
 .gh [.keep [4, 5]] (
 .ret)))))))
def a33 : AFunc := ⟨36, c33, [.tmp 4, .tmp 5]⟩
/-! 34 cassegrain/cassegrainref06.CopyPackets params [27] nfree 0 ntmps 20 -/
def l34_0 : ACode :=
 .seq (
 .seq (
 .reg none [
 ⟨some 5, none, .mov (.t 4)⟩,
 ⟨some 6, none, .mov (.t 0)⟩,
 ⟨some 7, none, .len (.t 6)⟩,
 ⟨some 8, none, .bin .lss (.t 5) (.t 7)⟩]) (
 .cond (.t 8) (
 .skip) (
 .exit 0))) (
 .seq (
 .block 1 (
 .reg none [
 ⟨some 11, none, .mov (.t 3)⟩,
 ⟨some 12, none, .mov (.t 0)⟩,
 ⟨some 13, none, .mov (.t 4)⟩,
 ⟨some 14, none, .iaddr 3 (.t 12) (.t 13)⟩,
 ⟨some 15, none, .load true 3 (.t 14)⟩,
 ⟨some 16, none, .ncall true 34017 31 [(.t 15)]⟩,
 ⟨some 17, none, .bslice 34018 57 3 [(.t 16)]⟩,
 ⟨some 18, none, .append 34019 57 3 (.t 11) (.t 17)⟩,
 ⟨some 3, none, .mov (.t 18)⟩])) (
 .reg none [
 ⟨some 9, none, .mov (.t 4)⟩,
 ⟨some 10, none, .bin .add (.t 9) (.c (.int .i64 1))⟩,
 ⟨some 4, none, .mov (.t 10)⟩]))
def b34_0 : ACode := .gh [.keep [0, 3, 4]] (.gh [] l34_0)
def k34_0 : List AItem := .inLoop b34_0 :: [.inBlock 0,
 .code (.seq (
 .reg none [
 ⟨some 19, none, .mov (.t 3)⟩,
 ⟨some 2, none, .mov (.t 19)⟩]) (
 .ret))]
def c34 : ACode :=
 .seq (
 .reg none [
 ⟨some 2, none, .mov (.c .nils)⟩]) (
 .seq (
 .reg none [
 ⟨some 3, none, .mov (.c .nils)⟩]) (
 .seq (
 .seq (
 .reg none [
 ⟨some 4, none, .mov (.c (.int .i64 0))⟩]) (
 .block 0 (
 .loop b34_0))) (
 .seq (
 .reg none [
 ⟨some 19, none, .mov (.t 3)⟩,
 ⟨some 2, none, .mov (.t 19)⟩]) (
 .ret))))
def a34 : AFunc := ⟨20, c34, [.tmp 2]⟩
/-! 35 cassegrain/frame.Packed params [23, 52, 27] nfree 0 ntmps 108 -/
def c35 : ACode :=
 .seq (
 .reg none [
 ⟨some 3, none, .box 35004 23 (.t 0)⟩,
 ⟨some 4, none, .box 35005 52 (.t 1)⟩,
 ⟨some 6, none, .mov (.c .nils)⟩,
 ⟨some 7, none, .mov (.c (.int .i64 0))⟩]) (
 .seq (
 .reg none [
 ⟨some 19, none, .load true 2 (.t 3)⟩,
 ⟨some 20, none, .faddr 0 (.t 4)⟩,
 ⟨some 21, none, .load false 1 (.t 20)⟩,
 ⟨some 22, none, .ncall true 0 99 [(.t 19), (.t 21)]⟩,
 ⟨some 18, none, .mov (.t 22)⟩,
 ⟨some 23, none, .ext 0 (.t 18)⟩,
 ⟨some 24, none, .ext 1 (.t 18)⟩,
 ⟨some 8, none, .alloc 35009 132 (.agg (.gen [(.int .i64 0), (.int .i64 0)]))⟩,
 ⟨none, none, .store 2 (.t 8) (.t 23)⟩,
 ⟨some 9, none, .mov (.t 24)⟩]) (
 .gh [.keep [2, 4, 6, 7, 8, 9]] (
 .seq (
 .seq (
 .reg none [
 ⟨some 25, none, .mov (.t 9)⟩,
 ⟨some 26, none, .faddr 1 (.t 4)⟩,
 ⟨some 27, none, .load false 1 (.t 26)⟩,
 ⟨some 28, none, .ncall true 0 100 [(.t 27)]⟩,
 ⟨some 29, none, .ncall true 0 86 [(.t 28), (.c (.int .i64 2))]⟩,
 ⟨some 30, none, .mov (.t 2)⟩,
 ⟨some 31, none, .ncall true 0 96 [(.t 30)]⟩,
 ⟨some 32, none, .bslice 35033 28 1 [(.t 25), (.t 29), (.t 31)]⟩,
 ⟨some 33, none, .ncall true 0 84 [(.t 32)]⟩,
 ⟨some 9, none, .mov (.t 33)⟩]) (
 .gh [.keep [2, 4, 6, 7, 8, 9]] (
 .seq (
 .reg none [
 ⟨some 34, none, .mov (.t 9)⟩,
 ⟨some 35, none, .bin .neq (.t 34) (.c (.int .i64 0))⟩]) (
 .cond (.t 35) (
 .seq (
 .reg none [
 ⟨some 36, none, .mov (.t 9)⟩,
 ⟨some 6, none, .mov (.c .nils)⟩,
 ⟨some 7, none, .mov (.t 36)⟩]) (
 .ret)) (
 .skip))))) (
 .seq (
 .reg none [
 ⟨some 38, none, .load true 2 (.t 8)⟩,
 ⟨some 39, none, .mov (.t 2)⟩,
 ⟨some 40, none, .ncall true 35041 98 [(.t 38), (.t 39)]⟩,
 ⟨some 41, none, .ncall true 35042 97 [(.t 40)]⟩,
 ⟨some 37, none, .mov (.t 41)⟩,
 ⟨some 42, none, .ext 0 (.t 37)⟩,
 ⟨some 43, none, .ext 1 (.t 37)⟩,
 ⟨some 11, none, .alloc 35012 55 .nils⟩,
 ⟨some 10, none, .mov (.t 42)⟩,
 ⟨none, none, .store 1 (.t 11) (.t 43)⟩]) (
 .gh [.keep [4, 6, 7, 8, 10, 11]] (
 .seq (
 .seq (
 .reg none [
 ⟨some 44, none, .mov (.t 10)⟩,
 ⟨some 45, none, .len (.t 44)⟩,
 ⟨some 46, none, .faddr 0 (.t 8)⟩,
 ⟨some 47, none, .faddr 0 (.t 46)⟩,
 ⟨some 48, none, .load false 1 (.t 47)⟩,
 ⟨some 49, none, .bin .quo (.t 45) (.t 48)⟩,
 ⟨some 50, none, .bin .gtr (.t 49) (.c (.int .i64 40))⟩]) (
 .gh [.keep [4, 6, 7, 8, 10, 11, 50]] (
 .cond (.t 50) (
 .seq (
 .reg none [
 ⟨some 6, none, .mov (.c .nils)⟩,
 ⟨some 7, none, .mov (.c (.int .i64 8))⟩]) (
 .ret)) (
 .skip)))) (
 .seq (
 .reg none [
 ⟨some 12, none, .alloc 35013 24 .nils⟩]) (
 .seq (
 .seq (
 .reg none [
 ⟨some 51, none, .mov (.t 10)⟩,
 ⟨some 52, none, .faddr 0 (.t 8)⟩,
 ⟨some 53, none, .faddr 0 (.t 52)⟩,
 ⟨some 54, none, .load false 1 (.t 53)⟩,
 ⟨some 55, none, .ncall true 0 101 [(.t 51), (.t 54)]⟩]) (
 .block 0 (
 .rf 35901 (.t 55) [56] (
 .reg none [
 ⟨some 13, none, .mov (.t 56)⟩]) (
 .block 1 (
 .seq (
 .reg none [
 ⟨some 57, none, .load false 1 (.t 12)⟩,
 ⟨some 58, none, .len (.t 57)⟩,
 ⟨some 59, none, .faddr 0 (.t 8)⟩,
 ⟨some 60, none, .faddr 0 (.t 59)⟩,
 ⟨some 61, none, .load false 1 (.t 60)⟩,
 ⟨some 62, none, .bin .mul (.t 58) (.t 61)⟩,
 ⟨some 14, none, .mov (.t 62)⟩]) (
 .gh [.keep [4, 6, 7, 8, 11, 12, 13, 14]] (
 .seq (
 .reg (some [(0, 9), (0, 11), (1, 9), (1, 11), (2, 9), (2, 11), (3, 9), (3, 11), (4, 9), (4, 11), (5, 9), (5, 11), (6, 9), (6, 11), (7, 9), (7, 11), (8, 11), (9, 11), (10, 11)]) [
 ⟨some 63, none, .faddr 0 (.t 4)⟩,
 ⟨some 64, none, .load false 1 (.t 63)⟩,
 ⟨some 65, none, .faddr 1 (.t 4)⟩,
 ⟨some 66, none, .load false 1 (.t 65)⟩,
 ⟨some 67, none, .load false 1 (.t 12)⟩,
 ⟨some 68, none, .len (.t 67)⟩,
 ⟨some 69, none, .bin .add (.t 66) (.t 68)⟩,
 ⟨some 70, none, .bin .rem (.t 69) (.c (.int .i64 64))⟩,
 ⟨some 71, none, .mov (.t 13)⟩,
 ⟨some 72, none, .ncall true 35073 102 [(.t 71)]⟩,
 ⟨some 73, none, .build (.gen [(.int .i64 0), (.int .i64 0), (.int .i64 0), .nils]) [(0, 1, (.t 64)), (1, 1, (.t 70)), (2, 1, (.c (.int .i64 255))), (3, 1, (.t 72))]⟩,
 ⟨some 15, none, .alloc 35016 74 (.agg (.gen [(.int .i64 0), (.int .i64 0), (.int .i64 0), .nils]))⟩,
 ⟨none, none, .store 4 (.t 15) (.t 73)⟩]) (
 .gh [.keep [4, 6, 7, 8, 11, 12, 14, 15]] (
 .seq (
 .seq (
 .reg none [
 ⟨some 75, none, .load false 1 (.t 11)⟩,
 ⟨some 76, none, .mov (.t 14)⟩,
 ⟨some 77, none, .ncall true 0 103 [(.t 75), (.t 76)]⟩,
 ⟨some 74, none, .mov (.t 77)⟩,
 ⟨some 78, none, .ext 0 (.t 74)⟩,
 ⟨some 79, none, .ext 1 (.t 74)⟩,
 ⟨some 16, none, .mov (.t 78)⟩,
 ⟨some 17, none, .mov (.t 79)⟩]) (
 .gh [.keep [4, 6, 7, 8, 11, 12, 14, 15, 16]] (
 .seq (
 .reg (some []) [
 ⟨some 80, none, .mov (.t 16)⟩,
 ⟨some 81, none, .load false 1 (.t 11)⟩,
 ⟨some 82, none, .len (.t 81)⟩,
 ⟨some 83, none, .bin .lss (.t 80) (.t 82)⟩,
 ⟨some 84, none, .mov (.t 83)⟩,
 ⟨some 85, (some (84, true)), .load false 1 (.t 11)⟩,
 ⟨some 86, (some (84, true)), .mov (.t 16)⟩,
 ⟨some 87, (some (84, true)), .iaddr 1 (.t 85) (.t 86)⟩,
 ⟨some 88, (some (84, true)), .load false 1 (.t 87)⟩,
 ⟨some 89, (some (84, true)), .mov (.t 14)⟩,
 ⟨some 90, (some (84, true)), .faddr 0 (.t 8)⟩,
 ⟨some 91, (some (84, true)), .faddr 0 (.t 90)⟩,
 ⟨some 92, (some (84, true)), .load false 1 (.t 91)⟩,
 ⟨some 93, (some (84, true)), .bin .add (.t 89) (.t 92)⟩,
 ⟨some 94, (some (84, true)), .bin .lss (.t 88) (.t 93)⟩,
 ⟨some 95, none, .pick (.t 84) (.t 94) (.c (.bool false))⟩]) (
 .gh [.keep [4, 6, 7, 8, 11, 12, 14, 15, 16, 95]] (
 .cond (.t 95) (
 .reg none [
 ⟨some 96, none, .load false 1 (.t 11)⟩,
 ⟨some 97, none, .mov (.t 16)⟩,
 ⟨some 98, none, .iaddr 1 (.t 96) (.t 97)⟩,
 ⟨some 99, none, .load false 1 (.t 98)⟩,
 ⟨some 100, none, .mov (.t 14)⟩,
 ⟨some 101, none, .bin .sub (.t 99) (.t 100)⟩,
 ⟨some 102, none, .faddr 2 (.t 15)⟩,
 ⟨none, none, .store 1 (.t 102) (.t 101)⟩]) (
 .skip)))))) (
 .reg none [
 ⟨some 103, none, .load false 1 (.t 12)⟩,
 ⟨some 104, none, .load true 4 (.t 15)⟩,
 ⟨some 105, none, .bslice 35106 74 4 [(.t 104)]⟩,
 ⟨some 106, none, .append 35107 74 4 (.t 103) (.t 105)⟩,
 ⟨none, none, .store 1 (.t 12) (.t 106)⟩])))))))))) (
 .seq (
 .reg none [
 ⟨some 107, none, .load false 1 (.t 12)⟩,
 ⟨some 6, none, .mov (.t 107)⟩,
 ⟨some 7, none, .mov (.c (.int .i64 0))⟩]) (
 .ret))))))))))
def a35 : AFunc := ⟨108, c35, [.tmp 6, .tmp 7]⟩
/-! 36 cassegrain/cassegrainref06.PacketsErr params [27] nfree 0 ntmps 22 -/
def l36_0 : ACode :=
 .seq (
 .seq (
 .reg none [
 ⟨some 8, none, .mov (.t 3)⟩,
 ⟨some 9, none, .mov (.t 0)⟩,
 ⟨some 10, none, .len (.t 9)⟩,
 ⟨some 11, none, .bin .lss (.t 8) (.t 10)⟩]) (
 .cond (.t 11) (
 .skip) (
 .exit 0))) (
 .seq (
 .block 1 (
 .seq (
 .reg none [
 ⟨some 14, none, .mov (.t 0)⟩,
 ⟨some 15, none, .mov (.t 3)⟩,
 ⟨some 16, none, .iaddr 3 (.t 14) (.t 15)⟩,
 ⟨some 17, none, .load true 3 (.t 16)⟩,
 ⟨some 18, none, .ncall true 0 32 [(.t 17)]⟩,
 ⟨some 4, none, .mov (.t 18)⟩]) (
 .seq (
 .reg none [
 ⟨some 19, none, .mov (.t 4)⟩,
 ⟨some 20, none, .bin .neq (.t 19) (.c (.int .i64 0))⟩]) (
 .cond (.t 20) (
 .seq (
 .reg none [
 ⟨some 21, none, .mov (.t 4)⟩,
 ⟨some 2, none, .mov (.t 21)⟩]) (
 .ret)) (
 .skip))))) (
 .reg none [
 ⟨some 12, none, .mov (.t 3)⟩,
 ⟨some 13, none, .bin .add (.t 12) (.c (.int .i64 1))⟩,
 ⟨some 3, none, .mov (.t 13)⟩]))
def b36_0 : ACode := .gh [.keep [0, 3]] (.gh [] l36_0)
def k36_0 : List AItem := .inLoop b36_0 :: [.inBlock 0,
 .code (.seq (
 .reg none [
 ⟨some 2, none, .mov (.c (.int .i64 0))⟩]) (
 .ret))]
def c36 : ACode :=
 .seq (
 .reg none [
 ⟨some 2, none, .mov (.c (.int .i64 0))⟩]) (
 .seq (
 .seq (
 .reg none [
 ⟨some 5, none, .mov (.t 0)⟩,
 ⟨some 6, none, .len (.t 5)⟩,
 ⟨some 7, none, .bin .gtr (.t 6) (.c (.int .i64 20))⟩]) (
 .cond (.t 7) (
 .seq (
 .reg none [
 ⟨some 2, none, .mov (.c (.int .i64 8))⟩]) (
 .ret)) (
 .skip))) (
 .seq (
 .seq (
 .reg none [
 ⟨some 3, none, .mov (.c (.int .i64 0))⟩]) (
 .block 0 (
 .loop b36_0))) (
 .seq (
 .reg none [
 ⟨some 2, none, .mov (.c (.int .i64 0))⟩]) (
 .ret))))
def a36 : AFunc := ⟨22, c36, [.tmp 2]⟩
/-! 37 cassegrain/cassegrainref06.FramesFor params [23, 27] nfree 0 ntmps 18 -/
def c37 : ACode :=
 .seq (
 .reg none [
 ⟨some 2, none, .box 37003 23 (.t 0)⟩,
 ⟨some 4, none, .mov (.c (.int .i64 0))⟩]) (
 .seq (
 .reg none [
 ⟨some 8, none, .load true 2 (.t 2)⟩,
 ⟨some 9, none, .mov (.t 1)⟩,
 ⟨some 10, none, .ncall true 37011 104 [(.t 8), (.t 9)]⟩,
 ⟨some 7, none, .mov (.t 10)⟩,
 ⟨some 11, none, .ext 0 (.t 7)⟩,
 ⟨some 12, none, .ext 1 (.t 7)⟩,
 ⟨some 5, none, .mov (.t 11)⟩,
 ⟨some 6, none, .mov (.t 12)⟩]) (
 .gh [.keep [2, 5]] (
 .seq (
 .reg none [
 ⟨some 13, none, .mov (.t 5)⟩,
 ⟨some 14, none, .len (.t 13)⟩,
 ⟨some 15, none, .faddr 0 (.t 2)⟩,
 ⟨some 16, none, .load false 1 (.t 15)⟩,
 ⟨some 17, none, .bin .quo (.t 14) (.t 16)⟩,
 ⟨some 4, none, .mov (.t 17)⟩]) (
 .ret))))
def a37 : AFunc := ⟨18, c37, [.tmp 4]⟩
/-! 38 cassegrain/cassegrainref06.SameFrames params [24, 24] nfree 0 ntmps 27 -/
def l38_0 : ACode :=
 .seq (
 .seq (
 .reg none [
 ⟨some 11, none, .mov (.t 5)⟩,
 ⟨some 12, none, .mov (.t 0)⟩,
 ⟨some 13, none, .len (.t 12)⟩,
 ⟨some 14, none, .bin .lss (.t 11) (.t 13)⟩]) (
 .cond (.t 14) (
 .skip) (
 .exit 0))) (
 .seq (
 .block 1 (
 .seq (
 .reg (some []) [
 ⟨some 17, none, .mov (.t 0)⟩,
 ⟨some 18, none, .mov (.t 5)⟩,
 ⟨some 19, none, .iaddr 4 (.t 17) (.t 18)⟩,
 ⟨some 20, none, .load true 4 (.t 19)⟩,
 ⟨some 21, none, .mov (.t 1)⟩,
 ⟨some 22, none, .mov (.t 5)⟩,
 ⟨some 23, none, .iaddr 4 (.t 21) (.t 22)⟩,
 ⟨some 24, none, .load true 4 (.t 23)⟩,
 ⟨some 25, none, .ncall true 0 57 [(.t 20), (.t 24)]⟩,
 ⟨some 26, none, .not (.t 25)⟩]) (
 .gh [.keep [0, 1, 5, 26]] (
 .cond (.t 26) (
 .seq (
 .reg none [
 ⟨some 4, none, .mov (.c (.bool false))⟩]) (
 .ret)) (
 .skip))))) (
 .reg none [
 ⟨some 15, none, .mov (.t 5)⟩,
 ⟨some 16, none, .bin .add (.t 15) (.c (.int .i64 1))⟩,
 ⟨some 5, none, .mov (.t 16)⟩]))
def b38_0 : ACode := .gh [.keep [0, 1, 5]] (.gh [] l38_0)
def k38_0 : List AItem := .inLoop b38_0 :: [.inBlock 0,
 .code (.seq (
 .reg none [
 ⟨some 4, none, .mov (.c (.bool true))⟩]) (
 .ret))]
def c38 : ACode :=
 .seq (
 .reg none [
 ⟨some 4, none, .mov (.c (.bool false))⟩]) (
 .seq (
 .seq (
 .reg none [
 ⟨some 6, none, .mov (.t 0)⟩,
 ⟨some 7, none, .len (.t 6)⟩,
 ⟨some 8, none, .mov (.t 1)⟩,
 ⟨some 9, none, .len (.t 8)⟩,
 ⟨some 10, none, .bin .neq (.t 7) (.t 9)⟩]) (
 .cond (.t 10) (
 .seq (
 .reg none [
 ⟨some 4, none, .mov (.c (.bool false))⟩]) (
 .ret)) (
 .skip))) (
 .seq (
 .seq (
 .reg none [
 ⟨some 5, none, .mov (.c (.int .i64 0))⟩]) (
 .block 0 (
 .loop b38_0))) (
 .seq (
 .reg none [
 ⟨some 4, none, .mov (.c (.bool true))⟩]) (
 .ret))))
def a38 : AFunc := ⟨27, c38, [.tmp 4]⟩
/-! 39 cassegrain/cassegrainref06.Packed params [23, 52, 27] nfree 0 ntmps 64 -/
def l39_1 : ACode :=
 .seq (
 .seq (
 .reg none [
 ⟨some 47, none, .mov (.t 12)⟩,
 ⟨some 48, none, .bin .geq (.t 47) (.c (.int .i64 0))⟩]) (
 .cond (.t 48) (
 .skip) (
 .exit 2))) (
 .seq (
 .block 3 (
 .seq (
 .reg none [
 ⟨some 51, none, .mov (.t 8)⟩,
 ⟨some 52, none, .mov (.t 10)⟩,
 ⟨some 53, none, .mov (.t 12)⟩,
 ⟨some 54, none, .bin .add (.t 52) (.t 53)⟩,
 ⟨some 55, none, .iaddr 1 (.t 51) (.t 54)⟩,
 ⟨some 56, none, .load false 1 (.t 55)⟩]) (
 .cond (.t 56) (
 .reg none [
 ⟨some 57, none, .mov (.t 12)⟩,
 ⟨some 58, none, .faddr 2 (.t 11)⟩,
 ⟨none, none, .store 1 (.t 58) (.t 57)⟩]) (
 .skip)))) (
 .reg none [
 ⟨some 49, none, .mov (.t 12)⟩,
 ⟨some 50, none, .bin .sub (.t 49) (.c (.int .i64 1))⟩,
 ⟨some 12, none, .mov (.t 50)⟩]))
def b39_1 : ACode := .gh [.keep [3, 4, 7, 8, 9, 10, 11, 12]] (.gh [] l39_1)
def l39_0 : ACode :=
 .seq (
 .seq (
 .reg none [
 ⟨some 19, none, .mov (.t 10)⟩,
 ⟨some 20, none, .mov (.t 7)⟩,
 ⟨some 21, none, .len (.t 20)⟩,
 ⟨some 22, none, .bin .lss (.t 19) (.t 21)⟩]) (
 .cond (.t 22) (
 .skip) (
 .exit 0))) (
 .seq (
 .block 1 (
 .seq (
 .reg (some [(0, 15), (0, 17), (1, 15), (1, 17), (2, 17), (3, 17), (4, 17), (5, 17), (6, 17), (7, 17), (8, 17), (9, 17), (10, 17), (11, 17), (12, 17), (13, 17), (14, 17), (15, 17), (16, 17)]) [
 ⟨some 27, none, .faddr 0 (.t 4)⟩,
 ⟨some 28, none, .load false 1 (.t 27)⟩,
 ⟨some 29, none, .faddr 1 (.t 4)⟩,
 ⟨some 30, none, .load false 1 (.t 29)⟩,
 ⟨some 31, none, .mov (.t 9)⟩,
 ⟨some 32, none, .len (.t 31)⟩,
 ⟨some 33, none, .bin .add (.t 30) (.t 32)⟩,
 ⟨some 34, none, .ncall true 0 53 [(.t 33), (.c (.int .i64 64))]⟩,
 ⟨some 35, none, .mov (.t 7)⟩,
 ⟨some 36, none, .mov (.t 10)⟩,
 ⟨some 37, none, .mov (.t 10)⟩,
 ⟨some 38, none, .faddr 0 (.t 3)⟩,
 ⟨some 39, none, .load false 1 (.t 38)⟩,
 ⟨some 40, none, .bin .add (.t 37) (.t 39)⟩,
 ⟨some 41, none, .slc 1 (.t 35) (some (.t 36)) (some (.t 40)) none⟩,
 ⟨some 42, none, .ncall true 39043 55 [(.t 41)]⟩,
 ⟨some 43, none, .build (.gen [(.int .i64 0), (.int .i64 0), (.int .i64 0), .nils]) [(0, 1, (.t 28)), (1, 1, (.t 34)), (2, 1, (.c (.int .i64 255))), (3, 1, (.t 42))]⟩,
 ⟨some 11, none, .alloc 39012 74 (.agg (.gen [(.int .i64 0), (.int .i64 0), (.int .i64 0), .nils]))⟩,
 ⟨none, none, .store 4 (.t 11) (.t 43)⟩]) (
 .gh [.keep [3, 4, 7, 8, 9, 10, 11]] (
 .seq (
 .seq (
 .reg none [
 ⟨some 44, none, .faddr 0 (.t 3)⟩,
 ⟨some 45, none, .load false 1 (.t 44)⟩,
 ⟨some 46, none, .bin .sub (.t 45) (.c (.int .i64 1))⟩,
 ⟨some 12, none, .mov (.t 46)⟩]) (
 .block 2 (
 .loop b39_1))) (
 .reg none [
 ⟨some 59, none, .mov (.t 9)⟩,
 ⟨some 60, none, .load true 4 (.t 11)⟩,
 ⟨some 61, none, .bslice 39062 74 4 [(.t 60)]⟩,
 ⟨some 62, none, .append 39063 74 4 (.t 59) (.t 61)⟩,
 ⟨some 9, none, .mov (.t 62)⟩]))))) (
 .reg none [
 ⟨some 23, none, .mov (.t 10)⟩,
 ⟨some 24, none, .faddr 0 (.t 3)⟩,
 ⟨some 25, none, .load false 1 (.t 24)⟩,
 ⟨some 26, none, .bin .add (.t 23) (.t 25)⟩,
 ⟨some 10, none, .mov (.t 26)⟩]))
def b39_0 : ACode := .gh [.keep [3, 4, 7, 8, 9, 10]] (.gh [] l39_0)
def k39_1 : List AItem := .inLoop b39_1 :: [.inBlock 2,
 .code (.reg none [
 ⟨some 59, none, .mov (.t 9)⟩,
 ⟨some 60, none, .load true 4 (.t 11)⟩,
 ⟨some 61, none, .bslice 39062 74 4 [(.t 60)]⟩,
 ⟨some 62, none, .append 39063 74 4 (.t 59) (.t 61)⟩,
 ⟨some 9, none, .mov (.t 62)⟩]),
 .inBlock 1,
 .code (.reg none [
 ⟨some 23, none, .mov (.t 10)⟩,
 ⟨some 24, none, .faddr 0 (.t 3)⟩,
 ⟨some 25, none, .load false 1 (.t 24)⟩,
 ⟨some 26, none, .bin .add (.t 23) (.t 25)⟩,
 ⟨some 10, none, .mov (.t 26)⟩]),
 .inLoop b39_0,
 .inBlock 0,
 .code (.seq (
 .reg none [
 ⟨some 63, none, .mov (.t 9)⟩,
 ⟨some 6, none, .mov (.t 63)⟩]) (
 .ret))]
def k39_0 : List AItem := .inLoop b39_0 :: [.inBlock 0,
 .code (.seq (
 .reg none [
 ⟨some 63, none, .mov (.t 9)⟩,
 ⟨some 6, none, .mov (.t 63)⟩]) (
 .ret))]
def c39 : ACode :=
 .seq (
 .reg none [
 ⟨some 3, none, .box 39004 23 (.t 0)⟩,
 ⟨some 4, none, .box 39005 52 (.t 1)⟩,
 ⟨some 6, none, .mov (.c .nils)⟩]) (
 .seq (
 .reg none [
 ⟨some 14, none, .load true 2 (.t 3)⟩,
 ⟨some 15, none, .mov (.t 2)⟩,
 ⟨some 16, none, .ncall true 39017 104 [(.t 14), (.t 15)]⟩,
 ⟨some 13, none, .mov (.t 16)⟩,
 ⟨some 17, none, .ext 0 (.t 13)⟩,
 ⟨some 18, none, .ext 1 (.t 13)⟩,
 ⟨some 7, none, .mov (.t 17)⟩,
 ⟨some 8, none, .mov (.t 18)⟩]) (
 .gh [.keep [3, 4, 7, 8]] (
 .seq (
 .reg none [
 ⟨some 9, none, .mov (.c .nils)⟩]) (
 .seq (
 .seq (
 .reg none [
 ⟨some 10, none, .mov (.c (.int .i64 0))⟩]) (
 .block 0 (
 .loop b39_0))) (
 .seq (
 .reg none [
 ⟨some 63, none, .mov (.t 9)⟩,
 ⟨some 6, none, .mov (.t 63)⟩]) (
 .ret))))))
def a39 : AFunc := ⟨64, c39, [.tmp 6]⟩
/-! 40 cassegrain/cassegrainref06.CopyFrame params [74] nfree 0 ntmps 8 -/
def c40 : ACode :=
 .seq (
 .reg none [
 ⟨some 1, none, .box 40002 74 (.t 0)⟩,
 ⟨some 2, none, .alloc 40003 74 (.agg (.gen [(.int .i64 0), (.int .i64 0), (.int .i64 0), .nils]))⟩]) (
 .seq (
 .reg none [
 ⟨some 3, none, .faddr 3 (.t 1)⟩,
 ⟨some 4, none, .load false 1 (.t 3)⟩,
 ⟨some 5, none, .ncall true 40006 55 [(.t 4)]⟩,
 ⟨some 6, none, .faddr 3 (.t 1)⟩,
 ⟨none, none, .store 1 (.t 6) (.t 5)⟩]) (
 .seq (
 .reg none [
 ⟨some 7, none, .load true 4 (.t 1)⟩,
 ⟨none, none, .store 4 (.t 2) (.t 7)⟩]) (
 .ret)))
def a40 : AFunc := ⟨8, c40, [.cell 2 true 4]⟩
/-! 41 cassegrain/frame.CheckPairs params [38] nfree 0 ntmps 73 -/
def l41_0 : ACode :=
 .seq (
 .reg none [
 ⟨some 27, none, .bin .lss (.t 26) (.t 25)⟩]) (
 .seq (
 .cond (.t 27) (
 .skip) (
 .exit 0)) (
 .seq (
 .block 1 (
 .seq (
 .reg none [
 ⟨some 28, none, .mov (.t 26)⟩,
 ⟨some 29, none, .iaddr 3 (.t 24) (.t 26)⟩,
 ⟨some 30, none, .load true 3 (.t 29)⟩,
 ⟨some 8, none, .alloc 41009 49 (.agg (.gen [(.int .i64 0), (.int .i64 0), (.int .i64 0)]))⟩,
 ⟨some 7, none, .mov (.t 28)⟩,
 ⟨none, none, .store 3 (.t 8) (.t 30)⟩]) (
 .seq (
 .reg none [
 ⟨some 31, none, .faddr 0 (.t 8)⟩,
 ⟨some 32, none, .load false 1 (.t 31)⟩,
 ⟨some 33, none, .ncall true 0 87 [(.t 32), (.c (.int .i64 0)), (.c (.int .i64 1000000))]⟩,
 ⟨some 34, none, .mov (.t 33)⟩,
 ⟨some 35, (some (34, true)), .mov (.t 5)⟩,
 ⟨some 36, (some (34, true)), .faddr 1 (.t 8)⟩,
 ⟨some 37, (some (34, true)), .faddr 0 (.t 36)⟩,
 ⟨some 38, (some (34, true)), .load false 1 (.t 37)⟩,
 ⟨some 39, (some (34, true)), .ncallv true 0 (.t 35) [(.t 38)]⟩,
 ⟨some 40, none, .pick (.t 34) (.t 39) (.c (.bool false))⟩,
 ⟨some 41, none, .mov (.t 40)⟩,
 ⟨some 42, (some (41, true)), .mov (.t 5)⟩,
 ⟨some 43, (some (41, true)), .faddr 1 (.t 8)⟩,
 ⟨some 44, (some (41, true)), .faddr 1 (.t 43)⟩,
 ⟨some 45, (some (41, true)), .load false 1 (.t 44)⟩,
 ⟨some 46, (some (41, true)), .ncallv true 0 (.t 42) [(.t 45)]⟩,
 ⟨some 47, none, .pick (.t 41) (.t 46) (.c (.bool false))⟩,
 ⟨some 9, none, .mov (.t 47)⟩]) (
 .gh [.keep [5, 6, 7, 8, 9, 24, 25, 26]] (
 .seq (
 .seq (
 .reg (some []) [
 ⟨some 48, none, .mov (.t 9)⟩,
 ⟨some 49, none, .ncall true 0 86 [(.t 48), (.c (.int .i64 2))]⟩,
 ⟨some 50, none, .faddr 1 (.t 8)⟩,
 ⟨some 51, none, .faddr 0 (.t 50)⟩,
 ⟨some 52, none, .load false 1 (.t 51)⟩,
 ⟨some 53, none, .faddr 1 (.t 8)⟩,
 ⟨some 54, none, .faddr 1 (.t 53)⟩,
 ⟨some 55, none, .load false 1 (.t 54)⟩,
 ⟨some 56, none, .bin .leq (.t 52) (.t 55)⟩,
 ⟨some 57, none, .mov (.t 56)⟩,
 ⟨some 58, (some (57, true)), .faddr 0 (.t 8)⟩,
 ⟨some 59, (some (57, true)), .load false 1 (.t 58)⟩,
 ⟨some 60, (some (57, true)), .mov (.t 6)⟩,
 ⟨some 61, (some (57, true)), .bin .gtr (.t 59) (.t 60)⟩,
 ⟨some 62, none, .pick (.t 57) (.t 61) (.c (.bool false))⟩,
 ⟨some 63, none, .ncall true 0 86 [(.t 62), (.c (.int .i64 9))]⟩,
 ⟨some 64, none, .bslice 41065 28 1 [(.t 49), (.t 63)]⟩,
 ⟨some 65, none, .ncall true 0 84 [(.t 64)]⟩,
 ⟨some 10, none, .mov (.t 65)⟩]) (
 .gh [.keep [5, 7, 8, 10, 24, 25, 26]] (
 .seq (
 .reg none [
 ⟨some 66, none, .mov (.t 10)⟩,
 ⟨some 67, none, .bin .neq (.t 66) (.c (.int .i64 0))⟩]) (
 .cond (.t 67) (
 .seq (
 .reg none [
 ⟨some 68, none, .mov (.t 7)⟩,
 ⟨some 69, none, .mov (.t 10)⟩,
 ⟨some 2, none, .mov (.t 68)⟩,
 ⟨some 3, none, .mov (.t 69)⟩]) (
 .ret)) (
 .skip))))) (
 .reg none [
 ⟨some 70, none, .faddr 0 (.t 8)⟩,
 ⟨some 71, none, .load false 1 (.t 70)⟩,
 ⟨some 6, none, .mov (.t 71)⟩])))))) (
 .reg none [
 ⟨some 72, none, .bin .add (.t 26) (.c (.int .i64 1))⟩,
 ⟨some 26, none, .mov (.t 72)⟩])))
def b41_0 : ACode := .gh [.keep [5, 6, 24, 25, 26]] (.gh [] l41_0)
def k41_0 : List AItem := .inLoop b41_0 :: [.inBlock 0,
 .code (.seq (
 .reg none [
 ⟨some 2, none, .mov (.c (.int .i64 0))⟩,
 ⟨some 3, none, .mov (.c (.int .i64 0))⟩]) (
 .ret))]
def c41 : ACode :=
 .seq (
 .reg none [
 ⟨some 2, none, .mov (.c (.int .i64 0))⟩,
 ⟨some 3, none, .mov (.c (.int .i64 0))⟩]) (
 .seq (
 .seq (
 .reg none [
 ⟨some 11, none, .mov (.t 0)⟩,
 ⟨some 12, none, .len (.t 11)⟩,
 ⟨some 13, none, .bin .gtr (.t 12) (.c (.int .i64 0))⟩,
 ⟨some 14, none, .ncall true 0 86 [(.t 13), (.c (.int .i64 10))]⟩,
 ⟨some 15, none, .mov (.t 0)⟩,
 ⟨some 16, none, .len (.t 15)⟩,
 ⟨some 17, none, .bin .leq (.t 16) (.c (.int .i64 20))⟩,
 ⟨some 18, none, .ncall true 0 86 [(.t 17), (.c (.int .i64 8))]⟩,
 ⟨some 19, none, .bslice 41020 28 1 [(.t 14), (.t 18)]⟩,
 ⟨some 20, none, .ncall true 0 84 [(.t 19)]⟩,
 ⟨some 4, none, .mov (.t 20)⟩]) (
 .gh [.keep [0, 4]] (
 .seq (
 .reg none [
 ⟨some 21, none, .mov (.t 4)⟩,
 ⟨some 22, none, .bin .neq (.t 21) (.c (.int .i64 0))⟩]) (
 .cond (.t 22) (
 .seq (
 .reg none [
 ⟨some 23, none, .mov (.t 4)⟩,
 ⟨some 2, none, .mov (.c (.int .i64 0))⟩,
 ⟨some 3, none, .mov (.t 23)⟩]) (
 .ret)) (
 .skip))))) (
 .seq (
 .reg none [
 ⟨some 5, none, .mov (.c (.fn 105 []))⟩]) (
 .seq (
 .reg none [
 ⟨some 6, none, .mov (.c (.int .i64 (-1)))⟩]) (
 .seq (
 .seq (
 .reg none [
 ⟨some 24, none, .mov (.t 0)⟩,
 ⟨some 25, none, .len (.t 24)⟩,
 ⟨some 26, none, .mov (.c (.int .i64 0))⟩]) (
 .block 0 (
 .loop b41_0))) (
 .seq (
 .reg none [
 ⟨some 2, none, .mov (.c (.int .i64 0))⟩,
 ⟨some 3, none, .mov (.c (.int .i64 0))⟩]) (
 .ret))))))
def a41 : AFunc := ⟨73, c41, [.tmp 2, .tmp 3]⟩
/-! 42 cassegrain/frame.RatesOf params [38] nfree 0 ntmps 27 -/
def l42_0 : ACode :=
 .seq (
 .reg none [
 ⟨some 18, none, .bin .lss (.t 17) (.c (.int .i64 2))⟩]) (
 .seq (
 .cond (.t 18) (
 .skip) (
 .exit 0)) (
 .seq (
 .block 1 (
 .seq (
 .reg none [
 ⟨some 19, none, .idxa 2 2 (.t 16) (.t 17)⟩,
 ⟨some 7, none, .alloc 42008 79 (.agg (.gen [(.int .i64 0), (.int .i64 0)]))⟩,
 ⟨none, none, .store 2 (.t 7) (.t 19)⟩]) (
 .seq (
 .reg none [
 ⟨some 20, none, .faddr 0 (.t 7)⟩,
 ⟨some 21, none, .load false 1 (.t 20)⟩,
 ⟨some 22, none, .ncall true 0 87 [(.t 21), (.c (.int .i64 (-1000000000))), (.c (.int .i64 1000000000))]⟩,
 ⟨some 23, none, .not (.t 22)⟩]) (
 .cond (.t 23) (
 .seq (
 .reg none [
 ⟨some 24, none, .build (.ints .i64 [0, 0, 0, 0]) []⟩,
 ⟨none, none, .store 4 (.t 2) (.t 24)⟩,
 ⟨some 3, none, .mov (.c (.int .i64 8))⟩]) (
 .ret)) (
 .skip))))) (
 .reg none [
 ⟨some 25, none, .bin .add (.t 17) (.c (.int .i64 1))⟩,
 ⟨some 17, none, .mov (.t 25)⟩])))
def b42_0 : ACode := .gh [.keep [2, 5, 16, 17]] (.gh [] l42_0)
def k42_0 : List AItem := .inLoop b42_0 :: [.inBlock 0,
 .code (.seq (
 .reg none [
 ⟨some 26, none, .load true 4 (.t 5)⟩,
 ⟨none, none, .store 4 (.t 2) (.t 26)⟩,
 ⟨some 3, none, .mov (.c (.int .i64 0))⟩]) (
 .ret))]
def c42 : ACode :=
 .seq (
 .reg none [
 ⟨some 2, none, .alloc 42003 80 (.agg (.ints .i64 [0, 0, 0, 0]))⟩,
 ⟨some 3, none, .mov (.c (.int .i64 0))⟩]) (
 .seq (
 .seq (
 .reg none [
 ⟨some 8, none, .mov (.t 0)⟩,
 ⟨some 9, none, .ncall true 0 85 [(.t 8)]⟩,
 ⟨some 4, none, .mov (.t 9)⟩]) (
 .seq (
 .reg none [
 ⟨some 10, none, .mov (.t 4)⟩,
 ⟨some 11, none, .bin .neq (.t 10) (.c (.int .i64 0))⟩]) (
 .cond (.t 11) (
 .seq (
 .reg none [
 ⟨some 12, none, .build (.ints .i64 [0, 0, 0, 0]) []⟩,
 ⟨some 13, none, .mov (.t 4)⟩,
 ⟨none, none, .store 4 (.t 2) (.t 12)⟩,
 ⟨some 3, none, .mov (.t 13)⟩]) (
 .ret)) (
 .skip)))) (
 .seq (
 .reg none [
 ⟨some 14, none, .mov (.t 0)⟩,
 ⟨some 15, none, .ncall true 0 106 [(.t 14)]⟩,
 ⟨some 5, none, .alloc 42006 80 (.agg (.ints .i64 [0, 0, 0, 0]))⟩,
 ⟨none, none, .store 4 (.t 5) (.t 15)⟩]) (
 .seq (
 .seq (
 .reg none [
 ⟨some 16, none, .load true 4 (.t 5)⟩,
 ⟨some 17, none, .mov (.c (.int .i64 0))⟩]) (
 .block 0 (
 .loop b42_0))) (
 .seq (
 .reg none [
 ⟨some 26, none, .load true 4 (.t 5)⟩,
 ⟨none, none, .store 4 (.t 2) (.t 26)⟩,
 ⟨some 3, none, .mov (.c (.int .i64 0))⟩]) (
 .ret)))))
def a42 : AFunc := ⟨27, c42, [.cell 2 true 4, .tmp 3]⟩
/-! 43 cassegrain/frame.PiecesOf params [38] nfree 0 ntmps 52 -/
def l43_0 : ACode :=
 .seq (
 .reg none [
 ⟨some 20, none, .bin .lss (.t 19) (.t 18)⟩]) (
 .seq (
 .cond (.t 20) (
 .skip) (
 .exit 0)) (
 .seq (
 .block 1 (
 .seq (
 .reg none [
 ⟨some 21, none, .mov (.t 19)⟩,
 ⟨some 7, none, .mov (.t 21)⟩]) (
 .seq (
 .seq (
 .reg none [
 ⟨some 22, none, .mov (.t 6)⟩,
 ⟨some 23, none, .len (.t 22)⟩,
 ⟨some 24, none, .bin .sub (.t 23) (.c (.int .i64 1))⟩,
 ⟨some 8, none, .mov (.t 24)⟩]) (
 .seq (
 .reg none [
 ⟨some 25, none, .mov (.t 8)⟩,
 ⟨some 26, none, .bin .geq (.t 25) (.c (.int .i64 0))⟩,
 ⟨some 27, none, .mov (.t 26)⟩,
 ⟨some 28, (some (27, true)), .mov (.t 0)⟩,
 ⟨some 29, (some (27, true)), .mov (.t 6)⟩,
 ⟨some 30, (some (27, true)), .mov (.t 8)⟩,
 ⟨some 31, (some (27, true)), .iaddr 2 (.t 29) (.t 30)⟩,
 ⟨some 32, (some (27, true)), .faddr 0 (.t 31)⟩,
 ⟨some 33, (some (27, true)), .load false 1 (.t 32)⟩,
 ⟨some 34, (some (27, true)), .mov (.t 7)⟩,
 ⟨some 35, (some (27, true)), .bin .add (.t 34) (.c (.int .i64 1))⟩,
 ⟨some 36, (some (27, true)), .slc 3 (.t 28) (some (.t 33)) (some (.t 35)) none⟩,
 ⟨some 37, (some (27, true)), .ncall true 0 107 [(.t 36)]⟩,
 ⟨some 38, none, .pick (.t 27) (.t 37) (.c (.bool false))⟩]) (
 .gh [.keep [0, 6, 7, 8, 18, 19, 38]] (
 .cond (.t 38) (
 .seq (
 .reg none [
 ⟨some 39, none, .mov (.t 6)⟩,
 ⟨some 40, none, .mov (.t 8)⟩,
 ⟨some 41, none, .mov (.t 7)⟩,
 ⟨some 42, none, .iaddr 2 (.t 39) (.t 40)⟩,
 ⟨some 43, none, .faddr 1 (.t 42)⟩,
 ⟨none, none, .store 1 (.t 43) (.t 41)⟩]) (
 .exit 1)) (
 .skip))))) (
 .reg none [
 ⟨some 44, none, .mov (.t 6)⟩,
 ⟨some 45, none, .mov (.t 7)⟩,
 ⟨some 46, none, .mov (.t 7)⟩,
 ⟨some 47, none, .build (.gen [(.int .i64 0), (.int .i64 0)]) [(0, 1, (.t 45)), (1, 1, (.t 46))]⟩,
 ⟨some 48, none, .bslice 43049 40 2 [(.t 47)]⟩,
 ⟨some 49, none, .append 43050 40 2 (.t 44) (.t 48)⟩,
 ⟨some 6, none, .mov (.t 49)⟩])))) (
 .reg none [
 ⟨some 50, none, .bin .add (.t 19) (.c (.int .i64 1))⟩,
 ⟨some 19, none, .mov (.t 50)⟩])))
def b43_0 : ACode := .gh [.keep [0, 6, 18, 19]] (.gh [] l43_0)
def k43_0 : List AItem := .inLoop b43_0 :: [.inBlock 0,
 .code (.seq (
 .reg none [
 ⟨some 51, none, .mov (.t 6)⟩,
 ⟨some 2, none, .mov (.t 51)⟩,
 ⟨some 3, none, .mov (.c (.int .i64 0))⟩]) (
 .ret))]
def c43 : ACode :=
 .seq (
 .reg none [
 ⟨some 2, none, .mov (.c .nils)⟩,
 ⟨some 3, none, .mov (.c (.int .i64 0))⟩]) (
 .seq (
 .seq (
 .reg none [
 ⟨some 10, none, .mov (.t 0)⟩,
 ⟨some 11, none, .ncall true 0 41 [(.t 10)]⟩,
 ⟨some 9, none, .mov (.t 11)⟩,
 ⟨some 12, none, .ext 0 (.t 9)⟩,
 ⟨some 13, none, .ext 1 (.t 9)⟩,
 ⟨some 4, none, .mov (.t 12)⟩,
 ⟨some 5, none, .mov (.t 13)⟩]) (
 .gh [.keep [0, 5]] (
 .seq (
 .reg none [
 ⟨some 14, none, .mov (.t 5)⟩,
 ⟨some 15, none, .bin .neq (.t 14) (.c (.int .i64 0))⟩]) (
 .cond (.t 15) (
 .seq (
 .reg none [
 ⟨some 16, none, .mov (.t 5)⟩,
 ⟨some 2, none, .mov (.c .nils)⟩,
 ⟨some 3, none, .mov (.t 16)⟩]) (
 .ret)) (
 .skip))))) (
 .seq (
 .reg none [
 ⟨some 6, none, .mov (.c .nils)⟩]) (
 .seq (
 .seq (
 .reg none [
 ⟨some 17, none, .mov (.t 0)⟩,
 ⟨some 18, none, .len (.t 17)⟩,
 ⟨some 19, none, .mov (.c (.int .i64 0))⟩]) (
 .block 0 (
 .loop b43_0))) (
 .seq (
 .reg none [
 ⟨some 51, none, .mov (.t 6)⟩,
 ⟨some 2, none, .mov (.t 51)⟩,
 ⟨some 3, none, .mov (.c (.int .i64 0))⟩]) (
 .ret)))))
def a43 : AFunc := ⟨52, c43, [.tmp 2, .tmp 3]⟩
end Go.Proofs.Ytjhdnpmojhkbjaa
