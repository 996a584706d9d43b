/- The code of the program, for the machine, part 1. Printed by gen2.py. -/
import Derived.Test.YtimmgjppippdiaaXz
namespace Go.Proofs.Ytimmgjppippdiaa
/-! 2 gosem.cut.init params [] nfree 0 ntmps 1 -/
def c2 : ACode :=
 .reg none [
 ⟨some 0, none, .ncall true 0 1 []⟩]
def a2 : AFunc := ⟨1, c2, []⟩
/-! 3 cassegrain/cassegrainlaw05.CodeBest params [24, 25] nfree 0 ntmps 69 -/
def c3 : ACode :=
 .seq (
 .reg none [
 ⟨some 2, none, .box 3003 24 (.t 0)⟩,
 ⟨some 4, none, .mov (.c (.bool false))⟩]) (
 .seq (
 .seq (
 .reg none [
 ⟨some 11, none, .ncall true 0 18 []⟩,
 ⟨some 12, none, .not (.t 11)⟩]) (
 .cond (.t 12) (
 .seq (
 .reg none [
 ⟨some 4, none, .mov (.c (.bool false))⟩]) (
 .ret)) (
 .skip))) (
 .seq (
 .seq (
 .reg none [
 ⟨some 13, none, .mov (.t 1)⟩,
 ⟨some 14, none, .len (.t 13)⟩,
 ⟨some 15, none, .bin .gtr (.t 14) (.c (.int .i64 60))⟩,
 ⟨some 16, none, .mov (.t 15)⟩,
 ⟨some 17, (some (16, true)), .mov (.t 1)⟩,
 ⟨some 18, (some (16, true)), .len (.t 17)⟩,
 ⟨some 19, (some (16, true)), .bin .leq (.t 18) (.c (.int .i64 600))⟩,
 ⟨some 20, none, .pick (.t 16) (.t 19) (.c (.bool false))⟩,
 ⟨some 21, none, .mov (.t 20)⟩,
 ⟨some 22, (some (21, false)), .mov (.t 1)⟩,
 ⟨some 23, (some (21, false)), .len (.t 22)⟩,
 ⟨some 24, (some (21, false)), .bin .gtr (.t 23) (.c (.int .i64 608))⟩,
 ⟨some 25, none, .pick (.t 21) (.c (.bool true)) (.t 24)⟩]) (
 .gh [.keep [1, 2, 25]] (
 .cond (.t 25) (
 .seq (
 .reg none [
 ⟨some 4, none, .mov (.c (.bool true))⟩]) (
 .ret)) (
 .skip)))) (
 .seq (
 .reg (some [(0, 2)]) [
 ⟨some 27, none, .load true 3 (.t 2)⟩,
 ⟨some 28, none, .mov (.t 1)⟩,
 ⟨some 29, none, .ncall true 3030 20 [(.t 28)]⟩,
 ⟨some 30, none, .ncall true 3031 19 [(.t 27), (.t 29)]⟩,
 ⟨some 26, none, .mov (.t 30)⟩,
 ⟨some 31, none, .ext 0 (.t 26)⟩,
 ⟨some 32, none, .ext 1 (.t 26)⟩,
 ⟨some 33, none, .ext 2 (.t 26)⟩,
 ⟨some 5, none, .mov (.t 31)⟩,
 ⟨some 6, none, .mov (.t 32)⟩,
 ⟨some 7, none, .mov (.t 33)⟩]) (
 .gh [.keep [1, 2, 5, 6, 7]] (
 .seq (
 .seq (
 .reg none [
 ⟨some 34, none, .load true 3 (.t 2)⟩,
 ⟨some 35, none, .mov (.t 1)⟩,
 ⟨some 36, none, .ncall true 0 21 [(.t 34), (.t 35)]⟩,
 ⟨some 8, none, .mov (.t 36)⟩]) (
 .seq (
 .reg none [
 ⟨some 37, none, .mov (.t 8)⟩,
 ⟨some 38, none, .bin .neq (.t 37) (.c (.int .i64 0))⟩]) (
 .cond (.t 38) (
 .seq (
 .reg none [
 ⟨some 39, none, .mov (.t 7)⟩,
 ⟨some 40, none, .mov (.t 8)⟩,
 ⟨some 41, none, .bin .eql (.t 39) (.t 40)⟩,
 ⟨some 42, none, .mov (.t 41)⟩,
 ⟨some 43, (some (42, true)), .mov (.t 5)⟩,
 ⟨some 44, (some (42, true)), .len (.t 43)⟩,
 ⟨some 45, (some (42, true)), .bin .eql (.t 44) (.c (.int .i64 0))⟩,
 ⟨some 46, none, .pick (.t 42) (.t 45) (.c (.bool false))⟩,
 ⟨some 47, none, .mov (.t 46)⟩,
 ⟨some 48, (some (47, true)), .mov (.t 6)⟩,
 ⟨some 49, (some (47, true)), .bin .eql (.t 48) (.c (.int .i64 0))⟩,
 ⟨some 50, none, .pick (.t 47) (.t 49) (.c (.bool false))⟩,
 ⟨some 4, none, .mov (.t 50)⟩]) (
 .gh [.keep [4]] (
 .ret))) (
 .skip)))) (
 .seq (
 .reg none [
 ⟨some 52, none, .load true 3 (.t 2)⟩,
 ⟨some 53, none, .mov (.t 1)⟩,
 ⟨some 54, none, .ncall true 3055 22 [(.t 52), (.t 53)]⟩,
 ⟨some 51, none, .mov (.t 54)⟩,
 ⟨some 55, none, .ext 0 (.t 51)⟩,
 ⟨some 56, none, .ext 1 (.t 51)⟩,
 ⟨some 9, none, .mov (.t 55)⟩,
 ⟨some 10, none, .mov (.t 56)⟩]) (
 .gh [.keep [5, 6, 7, 9, 10]] (
 .seq (
 .reg none [
 ⟨some 57, none, .mov (.t 7)⟩,
 ⟨some 58, none, .bin .eql (.t 57) (.c (.int .i64 0))⟩,
 ⟨some 59, none, .mov (.t 58)⟩,
 ⟨some 60, (some (59, true)), .mov (.t 5)⟩,
 ⟨some 61, (some (59, true)), .mov (.t 9)⟩,
 ⟨some 62, (some (59, true)), .ncall true 0 23 [(.t 60), (.t 61)]⟩,
 ⟨some 63, none, .pick (.t 59) (.t 62) (.c (.bool false))⟩,
 ⟨some 64, none, .mov (.t 63)⟩,
 ⟨some 65, (some (64, true)), .mov (.t 6)⟩,
 ⟨some 66, (some (64, true)), .mov (.t 10)⟩,
 ⟨some 67, (some (64, true)), .bin .eql (.t 65) (.t 66)⟩,
 ⟨some 68, none, .pick (.t 64) (.t 67) (.c (.bool false))⟩,
 ⟨some 4, none, .mov (.t 68)⟩]) (
 .gh [.keep [4]] (
 .ret))))))))))
def a3 : AFunc := ⟨69, c3, [.tmp 4]⟩
/-! 4 cassegrain/cassegrainlaw05.CodeBlocks params [3, 25, 22] nfree 0 ntmps 146 -/
def c4 : ACode :=
 .seq (
 .reg none [
 ⟨some 5, none, .box 4006 22 (.t 2)⟩,
 ⟨some 6, none, .mov (.c (.bool false))⟩]) (
 .seq (
 .seq (
 .reg none [
 ⟨some 15, none, .ncall true 0 18 []⟩,
 ⟨some 16, none, .not (.t 15)⟩]) (
 .cond (.t 16) (
 .seq (
 .reg none [
 ⟨some 6, none, .mov (.c (.bool false))⟩]) (
 .ret)) (
 .skip))) (
 .seq (
 .seq (
 .reg none [
 ⟨some 17, none, .mov (.t 1)⟩,
 ⟨some 18, none, .len (.t 17)⟩,
 ⟨some 19, none, .bin .gtr (.t 18) (.c (.int .i64 20))⟩]) (
 .cond (.t 19) (
 .seq (
 .reg none [
 ⟨some 6, none, .mov (.c (.bool true))⟩]) (
 .ret)) (
 .skip))) (
 .seq (
 .reg none [
 ⟨some 21, none, .aaddr 2 1 (.t 5) (.c (.int .i64 0))⟩,
 ⟨some 22, none, .load false 1 (.t 21)⟩,
 ⟨some 23, none, .aaddr 2 1 (.t 5) (.c (.int .i64 1))⟩,
 ⟨some 24, none, .load false 1 (.t 23)⟩,
 ⟨some 25, none, .ncall true 0 24 [(.t 22), (.t 24)]⟩,
 ⟨some 20, none, .mov (.t 25)⟩,
 ⟨some 26, none, .ext 0 (.t 20)⟩,
 ⟨some 27, none, .ext 1 (.t 20)⟩,
 ⟨some 7, none, .mov (.t 26)⟩,
 ⟨some 8, none, .mov (.t 27)⟩]) (
 .gh [.keep [0, 1, 5, 7, 8]] (
 .seq (
 .reg none [
 ⟨some 29, none, .mov (.t 0)⟩,
 ⟨some 30, none, .mov (.t 1)⟩,
 ⟨some 31, none, .ncall true 4032 20 [(.t 30)]⟩,
 ⟨some 32, none, .ncall true 4033 25 [(.t 29), (.t 31)]⟩,
 ⟨some 28, none, .mov (.t 32)⟩,
 ⟨some 33, none, .ext 0 (.t 28)⟩,
 ⟨some 34, none, .ext 1 (.t 28)⟩,
 ⟨some 9, none, .mov (.t 33)⟩,
 ⟨some 10, none, .mov (.t 34)⟩]) (
 .gh [.keep [0, 1, 5, 7, 8, 9, 10]] (
 .seq (
 .reg none [
 ⟨some 36, none, .mov (.t 0)⟩,
 ⟨some 37, none, .mov (.t 1)⟩,
 ⟨some 38, none, .ncall true 4039 20 [(.t 37)]⟩,
 ⟨some 39, none, .ncall true 4040 26 [(.t 36), (.t 38)]⟩,
 ⟨some 35, none, .mov (.t 39)⟩,
 ⟨some 40, none, .ext 0 (.t 35)⟩,
 ⟨some 41, none, .ext 1 (.t 35)⟩,
 ⟨some 11, none, .mov (.t 40)⟩,
 ⟨some 12, none, .mov (.t 41)⟩]) (
 .gh [.keep [0, 1, 5, 7, 8, 9, 10, 11, 12]] (
 .seq (
 .seq (
 .reg none [
 ⟨some 42, none, .aaddr 2 1 (.t 5) (.c (.int .i64 0))⟩,
 ⟨some 43, none, .load false 1 (.t 42)⟩,
 ⟨some 44, none, .ncall true 0 27 [(.t 43)]⟩,
 ⟨some 45, none, .not (.t 44)⟩,
 ⟨some 46, none, .mov (.t 45)⟩,
 ⟨some 47, (some (46, false)), .aaddr 2 1 (.t 5) (.c (.int .i64 1))⟩,
 ⟨some 48, (some (46, false)), .load false 1 (.t 47)⟩,
 ⟨some 49, (some (46, false)), .ncall true 0 27 [(.t 48)]⟩,
 ⟨some 50, (some (46, false)), .not (.t 49)⟩,
 ⟨some 51, none, .pick (.t 46) (.c (.bool true)) (.t 50)⟩]) (
 .gh [.keep [0, 1, 5, 7, 8, 9, 10, 11, 12, 51]] (
 .cond (.t 51) (
 .seq (
 .reg none [
 ⟨some 52, none, .mov (.t 8)⟩,
 ⟨some 53, none, .bin .neq (.t 52) (.c (.int .i64 2))⟩,
 ⟨some 54, none, .mov (.t 53)⟩,
 ⟨some 55, (some (54, false)), .mov (.t 7)⟩,
 ⟨some 56, (some (54, false)), .bin .neq (.t 55) (.c (.int .i64 0))⟩,
 ⟨some 57, none, .pick (.t 54) (.c (.bool true)) (.t 56)⟩]) (
 .cond (.t 57) (
 .seq (
 .reg none [
 ⟨some 6, none, .mov (.c (.bool false))⟩]) (
 .ret)) (
 .skip))) (
 .seq (
 .reg none [
 ⟨some 58, none, .mov (.t 8)⟩,
 ⟨some 59, none, .bin .neq (.t 58) (.c (.int .i64 0))⟩,
 ⟨some 60, none, .mov (.t 59)⟩,
 ⟨some 61, (some (60, false)), .mov (.t 7)⟩,
 ⟨some 62, (some (60, false)), .aaddr 2 1 (.t 5) (.c (.int .i64 0))⟩,
 ⟨some 63, (some (60, false)), .load false 1 (.t 62)⟩,
 ⟨some 64, (some (60, false)), .aaddr 2 1 (.t 5) (.c (.int .i64 1))⟩,
 ⟨some 65, (some (60, false)), .load false 1 (.t 64)⟩,
 ⟨some 66, (some (60, false)), .ncall true 0 28 [(.t 63), (.t 65)]⟩,
 ⟨some 67, (some (60, false)), .bin .neq (.t 61) (.t 66)⟩,
 ⟨some 68, none, .pick (.t 60) (.c (.bool true)) (.t 67)⟩]) (
 .gh [.keep [0, 1, 9, 10, 11, 12, 68]] (
 .cond (.t 68) (
 .seq (
 .reg none [
 ⟨some 6, none, .mov (.c (.bool false))⟩]) (
 .ret)) (
 .skip))))))) (
 .seq (
 .reg none [
 ⟨some 69, none, .mov (.t 0)⟩,
 ⟨some 70, none, .ncall true 0 29 [(.t 69)]⟩,
 ⟨some 13, none, .mov (.t 70)⟩]) (
 .seq (
 .seq (
 .reg none [
 ⟨some 71, none, .mov (.t 13)⟩,
 ⟨some 72, none, .bin .neq (.t 71) (.c (.int .i64 0))⟩]) (
 .cond (.t 72) (
 .seq (
 .reg none [
 ⟨some 73, none, .mov (.t 10)⟩,
 ⟨some 74, none, .mov (.t 13)⟩,
 ⟨some 75, none, .bin .eql (.t 73) (.t 74)⟩,
 ⟨some 76, none, .mov (.t 75)⟩,
 ⟨some 77, (some (76, true)), .mov (.t 12)⟩,
 ⟨some 78, (some (76, true)), .mov (.t 13)⟩,
 ⟨some 79, (some (76, true)), .bin .eql (.t 77) (.t 78)⟩,
 ⟨some 80, none, .pick (.t 76) (.t 79) (.c (.bool false))⟩,
 ⟨some 81, none, .mov (.t 80)⟩,
 ⟨some 82, (some (81, true)), .mov (.t 9)⟩,
 ⟨some 83, (some (81, true)), .len (.t 82)⟩,
 ⟨some 84, (some (81, true)), .mov (.t 11)⟩,
 ⟨some 85, (some (81, true)), .len (.t 84)⟩,
 ⟨some 86, (some (81, true)), .bin .add (.t 83) (.t 85)⟩,
 ⟨some 87, (some (81, true)), .bin .eql (.t 86) (.c (.int .i64 0))⟩,
 ⟨some 88, none, .pick (.t 81) (.t 87) (.c (.bool false))⟩,
 ⟨some 6, none, .mov (.t 88)⟩]) (
 .gh [.keep [6]] (
 .ret))) (
 .skip))) (
 .seq (
 .seq (
 .reg none [
 ⟨some 89, none, .mov (.t 1)⟩,
 ⟨some 90, none, .ncall true 0 30 [(.t 89)]⟩,
 ⟨some 14, none, .mov (.t 90)⟩]) (
 .seq (
 .reg none [
 ⟨some 91, none, .mov (.t 14)⟩,
 ⟨some 92, none, .bin .neq (.t 91) (.c (.int .i64 0))⟩,
 ⟨some 93, none, .mov (.t 92)⟩,
 ⟨some 94, (some (93, true)), .mov (.t 10)⟩,
 ⟨some 95, (some (93, true)), .mov (.t 14)⟩,
 ⟨some 96, (some (93, true)), .bin .neq (.t 94) (.t 95)⟩,
 ⟨some 97, (some (93, true)), .mov (.t 96)⟩,
 ⟨some 98, (some (97, false)), .mov (.t 9)⟩,
 ⟨some 99, (some (97, false)), .len (.t 98)⟩,
 ⟨some 100, (some (97, false)), .bin .neq (.t 99) (.c (.int .i64 0))⟩,
 ⟨some 101, (some (93, true)), .pick (.t 97) (.c (.bool true)) (.t 100)⟩,
 ⟨some 102, none, .pick (.t 93) (.t 101) (.c (.bool false))⟩,
 ⟨some 103, none, .mov (.t 102)⟩,
 ⟨some 104, (some (103, false)), .mov (.t 14)⟩,
 ⟨some 105, (some (103, false)), .bin .eql (.t 104) (.c (.int .i64 0))⟩,
 ⟨some 106, (some (103, false)), .mov (.t 105)⟩,
 ⟨some 107, (some (106, true)), .mov (.t 10)⟩,
 ⟨some 108, (some (106, true)), .bin .neq (.t 107) (.c (.int .i64 0))⟩,
 ⟨some 109, (some (106, true)), .mov (.t 108)⟩,
 ⟨some 110, (some (109, false)), .mov (.t 9)⟩,
 ⟨some 111, (some (109, false)), .mov (.t 0)⟩,
 ⟨some 112, (some (109, false)), .mov (.t 1)⟩,
 ⟨some 113, (some (109, false)), .ncall true 4114 31 [(.t 111), (.t 112)]⟩,
 ⟨some 114, (some (109, false)), .ncall true 0 23 [(.t 110), (.t 113)]⟩,
 ⟨some 115, (some (109, false)), .not (.t 114)⟩,
 ⟨some 116, (some (106, true)), .pick (.t 109) (.c (.bool true)) (.t 115)⟩,
 ⟨some 117, (some (103, false)), .pick (.t 106) (.t 116) (.c (.bool false))⟩,
 ⟨some 118, none, .pick (.t 103) (.c (.bool true)) (.t 117)⟩]) (
 .gh [.keep [0, 1, 11, 12, 118]] (
 .cond (.t 118) (
 .seq (
 .reg none [
 ⟨some 6, none, .mov (.c (.bool false))⟩]) (
 .ret)) (
 .skip))))) (
 .seq (
 .seq (
 .reg none [
 ⟨some 119, none, .mov (.t 1)⟩,
 ⟨some 120, none, .len (.t 119)⟩,
 ⟨some 121, none, .mov (.t 0)⟩,
 ⟨some 122, none, .bin .mul (.c (.int .i64 2)) (.t 121)⟩,
 ⟨some 123, none, .bin .sub (.c (.int .i64 15)) (.t 122)⟩,
 ⟨some 124, none, .bin .neq (.t 120) (.t 123)⟩]) (
 .cond (.t 124) (
 .reg none [
 ⟨some 13, none, .mov (.c (.int .i64 10))⟩]) (
 .reg none [
 ⟨some 125, none, .mov (.t 1)⟩,
 ⟨some 126, none, .ncall true 0 32 [(.t 125)]⟩,
 ⟨some 13, none, .mov (.t 126)⟩]))) (
 .seq (
 .seq (
 .reg none [
 ⟨some 127, none, .mov (.t 13)⟩,
 ⟨some 128, none, .bin .neq (.t 127) (.c (.int .i64 0))⟩]) (
 .cond (.t 128) (
 .seq (
 .reg none [
 ⟨some 129, none, .mov (.t 12)⟩,
 ⟨some 130, none, .mov (.t 13)⟩,
 ⟨some 131, none, .bin .eql (.t 129) (.t 130)⟩,
 ⟨some 132, none, .mov (.t 131)⟩,
 ⟨some 133, (some (132, true)), .mov (.t 11)⟩,
 ⟨some 134, (some (132, true)), .len (.t 133)⟩,
 ⟨some 135, (some (132, true)), .bin .eql (.t 134) (.c (.int .i64 0))⟩,
 ⟨some 136, none, .pick (.t 132) (.t 135) (.c (.bool false))⟩,
 ⟨some 6, none, .mov (.t 136)⟩]) (
 .gh [.keep [6]] (
 .ret))) (
 .skip))) (
 .seq (
 .reg none [
 ⟨some 137, none, .mov (.t 12)⟩,
 ⟨some 138, none, .bin .eql (.t 137) (.c (.int .i64 0))⟩,
 ⟨some 139, none, .mov (.t 138)⟩,
 ⟨some 140, (some (139, true)), .mov (.t 11)⟩,
 ⟨some 141, (some (139, true)), .mov (.t 0)⟩,
 ⟨some 142, (some (139, true)), .mov (.t 1)⟩,
 ⟨some 143, (some (139, true)), .ncall true 4144 33 [(.t 141), (.t 142)]⟩,
 ⟨some 144, (some (139, true)), .ncall true 0 23 [(.t 140), (.t 143)]⟩,
 ⟨some 145, none, .pick (.t 139) (.t 144) (.c (.bool false))⟩,
 ⟨some 6, none, .mov (.t 145)⟩]) (
 .gh [.keep [6]] (
 .ret)))))))))))))))))
def a4 : AFunc := ⟨146, c4, [.tmp 6]⟩
/-! 5 cassegrain/cassegrainlaw05.CodeParities params [48, 25] nfree 0 ntmps 99 -/
def c5 : ACode :=
 .seq (
 .reg none [
 ⟨some 2, none, .box 5003 48 (.t 0)⟩,
 ⟨some 4, none, .mov (.c (.bool false))⟩]) (
 .seq (
 .seq (
 .reg none [
 ⟨some 13, none, .ncall true 0 18 []⟩,
 ⟨some 14, none, .not (.t 13)⟩]) (
 .cond (.t 14) (
 .seq (
 .reg none [
 ⟨some 4, none, .mov (.c (.bool false))⟩]) (
 .ret)) (
 .skip))) (
 .seq (
 .seq (
 .reg none [
 ⟨some 15, none, .load true 2 (.t 2)⟩,
 ⟨some 16, none, .ncall true 0 34 [(.t 15)]⟩,
 ⟨some 17, none, .not (.t 16)⟩,
 ⟨some 18, none, .mov (.t 17)⟩,
 ⟨some 19, (some (18, false)), .mov (.t 1)⟩,
 ⟨some 20, (some (18, false)), .len (.t 19)⟩,
 ⟨some 21, (some (18, false)), .bin .gtr (.t 20) (.c (.int .i64 26))⟩,
 ⟨some 22, none, .pick (.t 18) (.c (.bool true)) (.t 21)⟩]) (
 .gh [.keep [1, 2, 22]] (
 .cond (.t 22) (
 .seq (
 .reg none [
 ⟨some 4, none, .mov (.c (.bool true))⟩]) (
 .ret)) (
 .skip)))) (
 .seq (
 .reg none [
 ⟨some 24, none, .load true 2 (.t 2)⟩,
 ⟨some 25, none, .ncall true 5026 36 [(.t 24)]⟩,
 ⟨some 26, none, .ncall true 0 35 [(.t 25)]⟩,
 ⟨some 23, none, .mov (.t 26)⟩,
 ⟨some 27, none, .ext 0 (.t 23)⟩,
 ⟨some 28, none, .ext 1 (.t 23)⟩,
 ⟨some 5, none, .mov (.t 27)⟩,
 ⟨some 6, none, .mov (.t 28)⟩]) (
 .gh [.keep [1, 2, 5, 6]] (
 .seq (
 .reg none [
 ⟨some 30, none, .load true 2 (.t 2)⟩,
 ⟨some 31, none, .ncall true 5032 36 [(.t 30)]⟩,
 ⟨some 32, none, .mov (.t 1)⟩,
 ⟨some 33, none, .ncall true 5034 20 [(.t 32)]⟩,
 ⟨some 34, none, .ncall true 5035 37 [(.t 31), (.t 33)]⟩,
 ⟨some 29, none, .mov (.t 34)⟩,
 ⟨some 35, none, .ext 0 (.t 29)⟩,
 ⟨some 36, none, .ext 1 (.t 29)⟩,
 ⟨some 7, none, .mov (.t 35)⟩,
 ⟨some 8, none, .mov (.t 36)⟩]) (
 .gh [.keep [1, 2, 5, 6, 7, 8]] (
 .seq (
 .reg none [
 ⟨some 38, none, .load true 2 (.t 2)⟩,
 ⟨some 39, none, .ncall true 5040 36 [(.t 38)]⟩,
 ⟨some 40, none, .mov (.t 1)⟩,
 ⟨some 41, none, .ncall true 5042 20 [(.t 40)]⟩,
 ⟨some 42, none, .ncall true 5043 38 [(.t 39), (.t 41)]⟩,
 ⟨some 37, none, .mov (.t 42)⟩,
 ⟨some 43, none, .ext 0 (.t 37)⟩,
 ⟨some 44, none, .ext 1 (.t 37)⟩,
 ⟨some 9, none, .mov (.t 43)⟩,
 ⟨some 10, none, .mov (.t 44)⟩]) (
 .gh [.keep [1, 2, 5, 6, 7, 8, 9, 10]] (
 .seq (
 .reg none [
 ⟨some 46, none, .load true 2 (.t 2)⟩,
 ⟨some 47, none, .ncall true 0 39 [(.t 46)]⟩,
 ⟨some 45, none, .mov (.t 47)⟩,
 ⟨some 48, none, .ext 0 (.t 45)⟩,
 ⟨some 49, none, .ext 1 (.t 45)⟩,
 ⟨some 11, none, .mov (.t 48)⟩,
 ⟨some 12, none, .mov (.t 49)⟩]) (
 .seq (
 .seq (
 .reg none [
 ⟨some 50, none, .mov (.t 6)⟩,
 ⟨some 51, none, .mov (.t 12)⟩,
 ⟨some 52, none, .bin .neq (.t 50) (.t 51)⟩,
 ⟨some 53, none, .mov (.t 52)⟩,
 ⟨some 54, (some (53, false)), .mov (.t 5)⟩,
 ⟨some 55, (some (53, false)), .mov (.t 11)⟩,
 ⟨some 56, (some (53, false)), .bin .neq (.t 54) (.t 55)⟩,
 ⟨some 57, none, .pick (.t 53) (.c (.bool true)) (.t 56)⟩]) (
 .gh [.keep [1, 2, 7, 8, 9, 10, 57]] (
 .cond (.t 57) (
 .seq (
 .reg none [
 ⟨some 4, none, .mov (.c (.bool false))⟩]) (
 .ret)) (
 .skip)))) (
 .seq (
 .seq (
 .reg none [
 ⟨some 58, none, .load true 2 (.t 2)⟩,
 ⟨some 59, none, .mov (.t 1)⟩,
 ⟨some 60, none, .ncall true 0 40 [(.t 58), (.t 59)]⟩,
 ⟨some 12, none, .mov (.t 60)⟩]) (
 .seq (
 .reg none [
 ⟨some 61, none, .mov (.t 12)⟩,
 ⟨some 62, none, .bin .neq (.t 61) (.c (.int .i64 0))⟩]) (
 .cond (.t 62) (
 .seq (
 .reg none [
 ⟨some 63, none, .mov (.t 8)⟩,
 ⟨some 64, none, .mov (.t 12)⟩,
 ⟨some 65, none, .bin .eql (.t 63) (.t 64)⟩,
 ⟨some 66, none, .mov (.t 65)⟩,
 ⟨some 67, (some (66, true)), .mov (.t 10)⟩,
 ⟨some 68, (some (66, true)), .mov (.t 12)⟩,
 ⟨some 69, (some (66, true)), .bin .eql (.t 67) (.t 68)⟩,
 ⟨some 70, none, .pick (.t 66) (.t 69) (.c (.bool false))⟩,
 ⟨some 71, none, .mov (.t 70)⟩,
 ⟨some 72, (some (71, true)), .mov (.t 7)⟩,
 ⟨some 73, (some (71, true)), .len (.t 72)⟩,
 ⟨some 74, (some (71, true)), .mov (.t 9)⟩,
 ⟨some 75, (some (71, true)), .len (.t 74)⟩,
 ⟨some 76, (some (71, true)), .bin .add (.t 73) (.t 75)⟩,
 ⟨some 77, (some (71, true)), .bin .eql (.t 76) (.c (.int .i64 0))⟩,
 ⟨some 78, none, .pick (.t 71) (.t 77) (.c (.bool false))⟩,
 ⟨some 4, none, .mov (.t 78)⟩]) (
 .gh [.keep [4]] (
 .ret))) (
 .skip)))) (
 .seq (
 .reg none [
 ⟨some 79, none, .mov (.t 8)⟩,
 ⟨some 80, none, .bin .eql (.t 79) (.c (.int .i64 0))⟩,
 ⟨some 81, none, .mov (.t 80)⟩,
 ⟨some 82, (some (81, true)), .mov (.t 7)⟩,
 ⟨some 83, (some (81, true)), .load true 2 (.t 2)⟩,
 ⟨some 84, (some (81, true)), .mov (.t 1)⟩,
 ⟨some 85, (some (81, true)), .ncall true 5086 41 [(.t 83), (.t 84)]⟩,
 ⟨some 86, (some (81, true)), .ncall true 0 23 [(.t 82), (.t 85)]⟩,
 ⟨some 87, none, .pick (.t 81) (.t 86) (.c (.bool false))⟩,
 ⟨some 88, none, .mov (.t 87)⟩,
 ⟨some 89, (some (88, true)), .mov (.t 10)⟩,
 ⟨some 90, (some (88, true)), .bin .eql (.t 89) (.c (.int .i64 0))⟩,
 ⟨some 91, none, .pick (.t 88) (.t 90) (.c (.bool false))⟩,
 ⟨some 92, none, .mov (.t 91)⟩,
 ⟨some 93, (some (92, true)), .mov (.t 9)⟩,
 ⟨some 94, (some (92, true)), .load true 2 (.t 2)⟩,
 ⟨some 95, (some (92, true)), .mov (.t 1)⟩,
 ⟨some 96, (some (92, true)), .ncall true 5097 42 [(.t 94), (.t 95)]⟩,
 ⟨some 97, (some (92, true)), .ncall true 0 23 [(.t 93), (.t 96)]⟩,
 ⟨some 98, none, .pick (.t 92) (.t 97) (.c (.bool false))⟩,
 ⟨some 4, none, .mov (.t 98)⟩]) (
 .gh [.keep [4]] (
 .ret))))))))))))))
def a5 : AFunc := ⟨99, c5, [.tmp 4]⟩
/-! 6 cassegrain/cassegrainlaw05.CodeWithin params [24, 25, 59] nfree 0 ntmps 141 -/
def l6_0 : ACode :=
 .seq (
 .seq (
 .reg none [
 ⟨some 84, none, .mov (.t 13)⟩,
 ⟨some 85, none, .mov (.t 7)⟩,
 ⟨some 86, none, .len (.t 85)⟩,
 ⟨some 87, none, .bin .lss (.t 84) (.t 86)⟩]) (
 .cond (.t 87) (
 .skip) (
 .exit 0))) (
 .seq (
 .block 1 (
 .seq (
 .reg (some []) [
 ⟨some 90, none, .faddr 1 (.t 5)⟩,
 ⟨some 91, none, .load false 1 (.t 90)⟩,
 ⟨some 92, none, .mov (.t 7)⟩,
 ⟨some 93, none, .mov (.t 13)⟩,
 ⟨some 94, none, .iaddr 1 (.t 92) (.t 93)⟩,
 ⟨some 95, none, .load false 1 (.t 94)⟩,
 ⟨some 96, none, .bin .mul (.c (.int .i64 2)) (.t 95)⟩,
 ⟨some 97, none, .bin .sub (.c (.int .i64 1)) (.t 96)⟩,
 ⟨some 98, none, .bin .mul (.t 91) (.t 97)⟩,
 ⟨some 14, none, .mov (.t 98)⟩]) (
 .gh [.keep [1, 3, 5, 7, 9, 11, 12, 13, 14]] (
 .seq (
 .seq (
 .reg none [
 ⟨some 99, none, .faddr 0 (.t 5)⟩,
 ⟨some 100, none, .load false 1 (.t 99)⟩,
 ⟨some 101, none, .mov (.t 13)⟩,
 ⟨some 102, none, .ncall true 0 49 [(.t 100), (.t 101)]⟩]) (
 .cond (.t 102) (
 .reg none [
 ⟨some 103, none, .mov (.t 14)⟩,
 ⟨some 104, none, .neg (.t 103)⟩,
 ⟨some 105, none, .mov (.t 12)⟩,
 ⟨some 106, none, .bin .add (.t 105) (.c (.int .i64 1))⟩,
 ⟨some 14, none, .mov (.t 104)⟩,
 ⟨some 12, none, .mov (.t 106)⟩]) (
 .skip))) (
 .reg none [
 ⟨some 107, none, .mov (.t 11)⟩,
 ⟨some 108, none, .mov (.t 14)⟩,
 ⟨some 109, none, .bslice 6110 3 1 [(.t 108)]⟩,
 ⟨some 110, none, .append 6111 3 1 (.t 107) (.t 109)⟩,
 ⟨some 11, none, .mov (.t 110)⟩]))))) (
 .reg none [
 ⟨some 88, none, .mov (.t 13)⟩,
 ⟨some 89, none, .bin .add (.t 88) (.c (.int .i64 1))⟩,
 ⟨some 13, none, .mov (.t 89)⟩]))
def b6_0 : ACode := .gh [.keep [1, 3, 5, 7, 9, 11, 12, 13]] (.gh [] l6_0)
def k6_0 : List AItem := .inLoop b6_0 :: [.inBlock 0,
 .code (.seq (
 .seq (
 .reg none [
 ⟨some 111, none, .mov (.t 12)⟩,
 ⟨some 112, none, .bin .mul (.c (.int .i64 2)) (.t 111)⟩,
 ⟨some 113, none, .mov (.t 9)⟩,
 ⟨some 114, none, .bin .geq (.t 112) (.t 113)⟩]) (
 .cond (.t 114) (
 .seq (
 .reg none [
 ⟨some 6, none, .mov (.c (.bool true))⟩]) (
 .ret)) (
 .skip))) (
 .seq (
 .reg none [
 ⟨some 116, none, .load true 3 (.t 3)⟩,
 ⟨some 117, none, .mov (.t 11)⟩,
 ⟨some 118, none, .ncall true 6119 19 [(.t 116), (.t 117)]⟩,
 ⟨some 115, none, .mov (.t 118)⟩,
 ⟨some 119, none, .ext 0 (.t 115)⟩,
 ⟨some 120, none, .ext 1 (.t 115)⟩,
 ⟨some 121, none, .ext 2 (.t 115)⟩,
 ⟨some 15, none, .mov (.t 119)⟩,
 ⟨some 16, none, .mov (.t 120)⟩,
 ⟨some 17, none, .mov (.t 121)⟩]) (
 .gh [.keep [1, 5, 7, 12, 15, 16, 17]] (
 .seq (
 .reg none [
 ⟨some 122, none, .mov (.t 17)⟩,
 ⟨some 123, none, .bin .eql (.t 122) (.c (.int .i64 0))⟩,
 ⟨some 124, none, .mov (.t 123)⟩,
 ⟨some 125, (some (124, true)), .mov (.t 15)⟩,
 ⟨some 126, (some (124, true)), .mov (.t 1)⟩,
 ⟨some 127, (some (124, true)), .ncall true 0 23 [(.t 125), (.t 126)]⟩,
 ⟨some 128, none, .pick (.t 124) (.t 127) (.c (.bool false))⟩,
 ⟨some 129, none, .mov (.t 128)⟩,
 ⟨some 130, (some (129, true)), .mov (.t 16)⟩,
 ⟨some 131, (some (129, true)), .faddr 1 (.t 5)⟩,
 ⟨some 132, (some (129, true)), .load false 1 (.t 131)⟩,
 ⟨some 133, (some (129, true)), .mov (.t 7)⟩,
 ⟨some 134, (some (129, true)), .len (.t 133)⟩,
 ⟨some 135, (some (129, true)), .mov (.t 12)⟩,
 ⟨some 136, (some (129, true)), .bin .mul (.c (.int .i64 2)) (.t 135)⟩,
 ⟨some 137, (some (129, true)), .bin .sub (.t 134) (.t 136)⟩,
 ⟨some 138, (some (129, true)), .bin .mul (.t 132) (.t 137)⟩,
 ⟨some 139, (some (129, true)), .bin .eql (.t 130) (.t 138)⟩,
 ⟨some 140, none, .pick (.t 129) (.t 139) (.c (.bool false))⟩,
 ⟨some 6, none, .mov (.t 140)⟩]) (
 .gh [.keep [6]] (
 .ret))))))]
def c6 : ACode :=
 .seq (
 .reg none [
 ⟨some 3, none, .box 6004 24 (.t 0)⟩,
 ⟨some 5, none, .box 6006 59 (.t 2)⟩,
 ⟨some 6, none, .mov (.c (.bool false))⟩]) (
 .seq (
 .seq (
 .reg none [
 ⟨some 18, none, .ncall true 0 18 []⟩,
 ⟨some 19, none, .not (.t 18)⟩]) (
 .cond (.t 19) (
 .seq (
 .reg none [
 ⟨some 6, none, .mov (.c (.bool false))⟩]) (
 .ret)) (
 .skip))) (
 .seq (
 .seq (
 .reg none [
 ⟨some 20, none, .load true 3 (.t 3)⟩,
 ⟨some 21, none, .ncall true 0 43 [(.t 20)]⟩,
 ⟨some 22, none, .bin .neq (.t 21) (.c (.int .i64 0))⟩,
 ⟨some 23, none, .mov (.t 22)⟩,
 ⟨some 24, (some (23, false)), .mov (.t 1)⟩,
 ⟨some 25, (some (23, false)), .len (.t 24)⟩,
 ⟨some 26, (some (23, false)), .bin .gtr (.t 25) (.c (.int .i64 24))⟩,
 ⟨some 27, none, .pick (.t 23) (.c (.bool true)) (.t 26)⟩,
 ⟨some 28, none, .mov (.t 27)⟩,
 ⟨some 29, (some (28, false)), .mov (.t 1)⟩,
 ⟨some 30, (some (28, false)), .ncall true 0 44 [(.t 29)]⟩,
 ⟨some 31, (some (28, false)), .bin .neq (.t 30) (.c (.int .i64 0))⟩,
 ⟨some 32, none, .pick (.t 28) (.c (.bool true)) (.t 31)⟩,
 ⟨some 33, none, .mov (.t 32)⟩,
 ⟨some 34, (some (33, false)), .faddr 0 (.t 5)⟩,
 ⟨some 35, (some (33, false)), .load false 1 (.t 34)⟩,
 ⟨some 36, (some (33, false)), .len (.t 35)⟩,
 ⟨some 37, (some (33, false)), .bin .gtr (.t 36) (.c (.int .i64 10))⟩,
 ⟨some 38, none, .pick (.t 33) (.c (.bool true)) (.t 37)⟩,
 ⟨some 39, none, .mov (.t 38)⟩,
 ⟨some 40, (some (39, false)), .faddr 1 (.t 5)⟩,
 ⟨some 41, (some (39, false)), .load false 1 (.t 40)⟩,
 ⟨some 42, (some (39, false)), .ncall true 0 45 [(.t 41), (.c (.int .i64 1)), (.c (.int .i64 7))]⟩,
 ⟨some 43, (some (39, false)), .not (.t 42)⟩,
 ⟨some 44, none, .pick (.t 39) (.c (.bool true)) (.t 43)⟩]) (
 .gh [.keep [1, 3, 5, 44]] (
 .cond (.t 44) (
 .seq (
 .reg none [
 ⟨some 6, none, .mov (.c (.bool true))⟩]) (
 .ret)) (
 .skip)))) (
 .seq (
 .reg (some [(0, 2)]) [
 ⟨some 46, none, .load true 3 (.t 3)⟩,
 ⟨some 47, none, .mov (.t 1)⟩,
 ⟨some 48, none, .ncall true 6049 20 [(.t 47)]⟩,
 ⟨some 49, none, .ncall true 6050 46 [(.t 46), (.t 48)]⟩,
 ⟨some 45, none, .mov (.t 49)⟩,
 ⟨some 50, none, .ext 0 (.t 45)⟩,
 ⟨some 51, none, .ext 1 (.t 45)⟩,
 ⟨some 7, none, .mov (.t 50)⟩,
 ⟨some 8, none, .mov (.t 51)⟩]) (
 .gh [.keep [1, 3, 5, 7, 8]] (
 .seq (
 .reg none [
 ⟨some 53, none, .load true 3 (.t 3)⟩,
 ⟨some 54, none, .ncall true 0 47 [(.t 53)]⟩,
 ⟨some 52, none, .mov (.t 54)⟩,
 ⟨some 55, none, .ext 0 (.t 52)⟩,
 ⟨some 56, none, .ext 1 (.t 52)⟩,
 ⟨some 9, none, .mov (.t 55)⟩,
 ⟨some 10, none, .mov (.t 56)⟩]) (
 .seq (
 .seq (
 .reg none [
 ⟨some 57, none, .mov (.t 8)⟩,
 ⟨some 58, none, .bin .neq (.t 57) (.c (.int .i64 0))⟩,
 ⟨some 59, none, .mov (.t 58)⟩,
 ⟨some 60, (some (59, false)), .mov (.t 10)⟩,
 ⟨some 61, (some (59, false)), .bin .neq (.t 60) (.c (.int .i64 0))⟩,
 ⟨some 62, none, .pick (.t 59) (.c (.bool true)) (.t 61)⟩,
 ⟨some 63, none, .mov (.t 62)⟩,
 ⟨some 64, (some (63, false)), .mov (.t 7)⟩,
 ⟨some 65, (some (63, false)), .len (.t 64)⟩,
 ⟨some 66, (some (63, false)), .mov (.t 1)⟩,
 ⟨some 67, (some (63, false)), .len (.t 66)⟩,
 ⟨some 68, (some (63, false)), .faddr 0 (.t 3)⟩,
 ⟨some 69, (some (63, false)), .load false 1 (.t 68)⟩,
 ⟨some 70, (some (63, false)), .bin .add (.t 67) (.t 69)⟩,
 ⟨some 71, (some (63, false)), .bin .mul (.c (.int .i64 2)) (.t 70)⟩,
 ⟨some 72, (some (63, false)), .bin .neq (.t 65) (.t 71)⟩,
 ⟨some 73, none, .pick (.t 63) (.c (.bool true)) (.t 72)⟩,
 ⟨some 74, none, .mov (.t 73)⟩,
 ⟨some 75, (some (74, false)), .mov (.t 7)⟩,
 ⟨some 76, (some (74, false)), .ncall true 0 48 [(.t 75)]⟩,
 ⟨some 77, (some (74, false)), .not (.t 76)⟩,
 ⟨some 78, none, .pick (.t 74) (.c (.bool true)) (.t 77)⟩,
 ⟨some 79, none, .mov (.t 78)⟩,
 ⟨some 80, (some (79, false)), .mov (.t 9)⟩,
 ⟨some 81, (some (79, false)), .ncall true 0 45 [(.t 80), (.c (.int .i64 1)), (.c (.int .i64 100))]⟩,
 ⟨some 82, (some (79, false)), .not (.t 81)⟩,
 ⟨some 83, none, .pick (.t 79) (.c (.bool true)) (.t 82)⟩]) (
 .gh [.keep [1, 3, 5, 7, 9, 83]] (
 .cond (.t 83) (
 .seq (
 .reg none [
 ⟨some 6, none, .mov (.c (.bool false))⟩]) (
 .ret)) (
 .skip)))) (
 .seq (
 .reg none [
 ⟨some 11, none, .mov (.c .nils)⟩]) (
 .seq (
 .reg none [
 ⟨some 12, none, .mov (.c (.int .i64 0))⟩]) (
 .seq (
 .seq (
 .reg none [
 ⟨some 13, none, .mov (.c (.int .i64 0))⟩]) (
 .block 0 (
 .loop b6_0))) (
 .seq (
 .seq (
 .reg none [
 ⟨some 111, none, .mov (.t 12)⟩,
 ⟨some 112, none, .bin .mul (.c (.int .i64 2)) (.t 111)⟩,
 ⟨some 113, none, .mov (.t 9)⟩,
 ⟨some 114, none, .bin .geq (.t 112) (.t 113)⟩]) (
 .cond (.t 114) (
 .seq (
 .reg none [
 ⟨some 6, none, .mov (.c (.bool true))⟩]) (
 .ret)) (
 .skip))) (
 .seq (
 .reg none [
 ⟨some 116, none, .load true 3 (.t 3)⟩,
 ⟨some 117, none, .mov (.t 11)⟩,
 ⟨some 118, none, .ncall true 6119 19 [(.t 116), (.t 117)]⟩,
 ⟨some 115, none, .mov (.t 118)⟩,
 ⟨some 119, none, .ext 0 (.t 115)⟩,
 ⟨some 120, none, .ext 1 (.t 115)⟩,
 ⟨some 121, none, .ext 2 (.t 115)⟩,
 ⟨some 15, none, .mov (.t 119)⟩,
 ⟨some 16, none, .mov (.t 120)⟩,
 ⟨some 17, none, .mov (.t 121)⟩]) (
 .gh [.keep [1, 5, 7, 12, 15, 16, 17]] (
 .seq (
 .reg none [
 ⟨some 122, none, .mov (.t 17)⟩,
 ⟨some 123, none, .bin .eql (.t 122) (.c (.int .i64 0))⟩,
 ⟨some 124, none, .mov (.t 123)⟩,
 ⟨some 125, (some (124, true)), .mov (.t 15)⟩,
 ⟨some 126, (some (124, true)), .mov (.t 1)⟩,
 ⟨some 127, (some (124, true)), .ncall true 0 23 [(.t 125), (.t 126)]⟩,
 ⟨some 128, none, .pick (.t 124) (.t 127) (.c (.bool false))⟩,
 ⟨some 129, none, .mov (.t 128)⟩,
 ⟨some 130, (some (129, true)), .mov (.t 16)⟩,
 ⟨some 131, (some (129, true)), .faddr 1 (.t 5)⟩,
 ⟨some 132, (some (129, true)), .load false 1 (.t 131)⟩,
 ⟨some 133, (some (129, true)), .mov (.t 7)⟩,
 ⟨some 134, (some (129, true)), .len (.t 133)⟩,
 ⟨some 135, (some (129, true)), .mov (.t 12)⟩,
 ⟨some 136, (some (129, true)), .bin .mul (.c (.int .i64 2)) (.t 135)⟩,
 ⟨some 137, (some (129, true)), .bin .sub (.t 134) (.t 136)⟩,
 ⟨some 138, (some (129, true)), .bin .mul (.t 132) (.t 137)⟩,
 ⟨some 139, (some (129, true)), .bin .eql (.t 130) (.t 138)⟩,
 ⟨some 140, none, .pick (.t 129) (.t 139) (.c (.bool false))⟩,
 ⟨some 6, none, .mov (.t 140)⟩]) (
 .gh [.keep [6]] (
 .ret)))))))))))))))
def a6 : AFunc := ⟨141, c6, [.tmp 6]⟩
/-! 7 cassegrain/cassegrainlaw05.CodeInterleaves params [25, 3] nfree 0 ntmps 156 -/
def l7_1 : ACode :=
 .seq (
 .seq (
 .reg none [
 ⟨some 134, none, .mov (.t 17)⟩,
 ⟨some 135, none, .mov (.t 14)⟩,
 ⟨some 136, none, .len (.t 135)⟩,
 ⟨some 137, none, .bin .lss (.t 134) (.t 136)⟩,
 ⟨some 138, none, .mov (.t 137)⟩,
 ⟨some 139, (some (138, true)), .mov (.t 17)⟩,
 ⟨some 140, (some (138, true)), .mov (.t 16)⟩,
 ⟨some 141, (some (138, true)), .mov (.t 1)⟩,
 ⟨some 142, (some (138, true)), .bin .add (.t 140) (.t 141)⟩,
 ⟨some 143, (some (138, true)), .bin .lss (.t 139) (.t 142)⟩,
 ⟨some 144, none, .pick (.t 138) (.t 143) (.c (.bool false))⟩]) (
 .gh [.keep [1, 14, 16, 17, 144]] (
 .cond (.t 144) (
 .skip) (
 .exit 4)))) (
 .seq (
 .block 5 (
 .seq (
 .reg (some []) [
 ⟨some 147, none, .mov (.t 14)⟩,
 ⟨some 148, none, .mov (.t 16)⟩,
 ⟨some 149, none, .iaddr 1 (.t 147) (.t 148)⟩,
 ⟨some 150, none, .load false 1 (.t 149)⟩,
 ⟨some 151, none, .mov (.t 14)⟩,
 ⟨some 152, none, .mov (.t 17)⟩,
 ⟨some 153, none, .iaddr 1 (.t 151) (.t 152)⟩,
 ⟨some 154, none, .load false 1 (.t 153)⟩,
 ⟨some 155, none, .bin .eql (.t 150) (.t 154)⟩]) (
 .gh [.keep [1, 14, 16, 17, 155]] (
 .cond (.t 155) (
 .seq (
 .reg none [
 ⟨some 4, none, .mov (.c (.bool false))⟩]) (
 .ret)) (
 .skip))))) (
 .reg none [
 ⟨some 145, none, .mov (.t 17)⟩,
 ⟨some 146, none, .bin .add (.t 145) (.c (.int .i64 1))⟩,
 ⟨some 17, none, .mov (.t 146)⟩]))
def b7_1 : ACode := .gh [.keep [1, 14, 16, 17]] (.gh [] l7_1)
def l7_0 : ACode :=
 .seq (
 .seq (
 .reg none [
 ⟨some 126, none, .mov (.t 16)⟩,
 ⟨some 127, none, .mov (.t 14)⟩,
 ⟨some 128, none, .len (.t 127)⟩,
 ⟨some 129, none, .bin .lss (.t 126) (.t 128)⟩]) (
 .cond (.t 129) (
 .skip) (
 .exit 2))) (
 .seq (
 .block 3 (
 .seq (
 .reg none [
 ⟨some 132, none, .mov (.t 16)⟩,
 ⟨some 133, none, .bin .add (.t 132) (.c (.int .i64 1))⟩,
 ⟨some 17, none, .mov (.t 133)⟩]) (
 .block 4 (
 .loop b7_1)))) (
 .reg none [
 ⟨some 130, none, .mov (.t 16)⟩,
 ⟨some 131, none, .bin .add (.t 130) (.c (.int .i64 1))⟩,
 ⟨some 16, none, .mov (.t 131)⟩]))
def b7_0 : ACode := .gh [.keep [1, 14, 16]] (.gh [] l7_0)
def l7_2 : ACode :=
 .seq (
 .seq (
 .reg none [
 ⟨some 96, none, .mov (.t 13)⟩,
 ⟨some 97, none, .mov (.t 0)⟩,
 ⟨some 98, none, .len (.t 97)⟩,
 ⟨some 99, none, .bin .lss (.t 96) (.t 98)⟩]) (
 .cond (.t 99) (
 .skip) (
 .exit 0))) (
 .seq (
 .block 1 (
 .reg none [
 ⟨some 102, none, .mov (.t 12)⟩,
 ⟨some 103, none, .mov (.t 13)⟩,
 ⟨some 104, none, .mov (.t 0)⟩,
 ⟨some 105, none, .len (.t 104)⟩,
 ⟨some 106, none, .mov (.t 1)⟩,
 ⟨some 107, none, .bin .quo (.t 105) (.t 106)⟩,
 ⟨some 108, none, .bin .quo (.t 103) (.t 107)⟩,
 ⟨some 109, none, .bslice 7110 3 1 [(.t 108)]⟩,
 ⟨some 110, none, .append 7111 3 1 (.t 102) (.t 109)⟩,
 ⟨some 12, none, .mov (.t 110)⟩])) (
 .reg none [
 ⟨some 100, none, .mov (.t 13)⟩,
 ⟨some 101, none, .bin .add (.t 100) (.c (.int .i64 1))⟩,
 ⟨some 13, none, .mov (.t 101)⟩]))
def b7_2 : ACode := .gh [.keep [0, 1, 12, 13]] (.gh [] l7_2)
def k7_1 : List AItem := .inLoop b7_1 :: [.inBlock 4,
 .inBlock 3,
 .code (.reg none [
 ⟨some 130, none, .mov (.t 16)⟩,
 ⟨some 131, none, .bin .add (.t 130) (.c (.int .i64 1))⟩,
 ⟨some 16, none, .mov (.t 131)⟩]),
 .inLoop b7_0,
 .inBlock 2,
 .code (.seq (
 .reg none [
 ⟨some 4, none, .mov (.c (.bool true))⟩]) (
 .ret))]
def k7_0 : List AItem := .inLoop b7_0 :: [.inBlock 2,
 .code (.seq (
 .reg none [
 ⟨some 4, none, .mov (.c (.bool true))⟩]) (
 .ret))]
def k7_2 : List AItem := .inLoop b7_2 :: [.inBlock 0,
 .code (.seq (
 .gh [.frz 12] (
 .reg none [
 ⟨some 112, none, .mov (.t 12)⟩,
 ⟨some 113, none, .mov (.t 1)⟩,
 ⟨some 114, none, .ncall true 7115 51 [(.t 112), (.t 113)]⟩,
 ⟨some 111, none, .mov (.t 114)⟩,
 ⟨some 115, none, .ext 0 (.t 111)⟩,
 ⟨some 116, none, .ext 1 (.t 111)⟩,
 ⟨some 14, none, .mov (.t 115)⟩,
 ⟨some 15, none, .mov (.t 116)⟩])) (
 .gh [.keep [0, 1, 14, 15]] (
 .seq (
 .seq (
 .reg none [
 ⟨some 117, none, .mov (.t 15)⟩,
 ⟨some 118, none, .bin .neq (.t 117) (.c (.int .i64 0))⟩,
 ⟨some 119, none, .mov (.t 118)⟩,
 ⟨some 120, (some (119, false)), .mov (.t 14)⟩,
 ⟨some 121, (some (119, false)), .len (.t 120)⟩,
 ⟨some 122, (some (119, false)), .mov (.t 0)⟩,
 ⟨some 123, (some (119, false)), .len (.t 122)⟩,
 ⟨some 124, (some (119, false)), .bin .neq (.t 121) (.t 123)⟩,
 ⟨some 125, none, .pick (.t 119) (.c (.bool true)) (.t 124)⟩]) (
 .gh [.keep [1, 14, 125]] (
 .cond (.t 125) (
 .seq (
 .reg none [
 ⟨some 4, none, .mov (.c (.bool false))⟩]) (
 .ret)) (
 .skip)))) (
 .seq (
 .seq (
 .reg none [
 ⟨some 16, none, .mov (.c (.int .i64 0))⟩]) (
 .block 2 (
 .loop b7_0))) (
 .seq (
 .reg none [
 ⟨some 4, none, .mov (.c (.bool true))⟩]) (
 .ret))))))]
def c7 : ACode :=
 .seq (
 .reg none [
 ⟨some 4, none, .mov (.c (.bool false))⟩]) (
 .seq (
 .seq (
 .reg none [
 ⟨some 18, none, .ncall true 0 18 []⟩,
 ⟨some 19, none, .not (.t 18)⟩]) (
 .cond (.t 19) (
 .seq (
 .reg none [
 ⟨some 4, none, .mov (.c (.bool false))⟩]) (
 .ret)) (
 .skip))) (
 .seq (
 .seq (
 .reg none [
 ⟨some 20, none, .mov (.t 0)⟩,
 ⟨some 21, none, .len (.t 20)⟩,
 ⟨some 22, none, .ncall true 0 50 [(.t 21), (.c (.int .i64 400))]⟩,
 ⟨some 23, none, .not (.t 22)⟩]) (
 .cond (.t 23) (
 .seq (
 .reg none [
 ⟨some 4, none, .mov (.c (.bool true))⟩]) (
 .ret)) (
 .skip))) (
 .seq (
 .reg none [
 ⟨some 25, none, .mov (.t 0)⟩,
 ⟨some 26, none, .ncall true 7027 20 [(.t 25)]⟩,
 ⟨some 27, none, .mov (.t 1)⟩,
 ⟨some 28, none, .ncall true 7029 51 [(.t 26), (.t 27)]⟩,
 ⟨some 24, none, .mov (.t 28)⟩,
 ⟨some 29, none, .ext 0 (.t 24)⟩,
 ⟨some 30, none, .ext 1 (.t 24)⟩,
 ⟨some 5, none, .mov (.t 29)⟩,
 ⟨some 6, none, .mov (.t 30)⟩]) (
 .gh [.keep [0, 1, 5, 6]] (
 .seq (
 .reg none [
 ⟨some 32, none, .mov (.t 0)⟩,
 ⟨some 33, none, .ncall true 7034 20 [(.t 32)]⟩,
 ⟨some 34, none, .mov (.t 1)⟩,
 ⟨some 35, none, .ncall true 7036 52 [(.t 33), (.t 34)]⟩,
 ⟨some 31, none, .mov (.t 35)⟩,
 ⟨some 36, none, .ext 0 (.t 31)⟩,
 ⟨some 37, none, .ext 1 (.t 31)⟩,
 ⟨some 7, none, .mov (.t 36)⟩,
 ⟨some 8, none, .mov (.t 37)⟩]) (
 .gh [.keep [0, 1, 5, 6, 7, 8]] (
 .seq (
 .seq (
 .reg none [
 ⟨some 38, none, .mov (.t 0)⟩,
 ⟨some 39, none, .mov (.t 1)⟩,
 ⟨some 40, none, .ncall true 0 53 [(.t 38), (.t 39)]⟩,
 ⟨some 9, none, .mov (.t 40)⟩]) (
 .seq (
 .reg none [
 ⟨some 41, none, .mov (.t 9)⟩,
 ⟨some 42, none, .bin .neq (.t 41) (.c (.int .i64 0))⟩]) (
 .cond (.t 42) (
 .seq (
 .reg none [
 ⟨some 43, none, .mov (.t 6)⟩,
 ⟨some 44, none, .mov (.t 9)⟩,
 ⟨some 45, none, .bin .eql (.t 43) (.t 44)⟩,
 ⟨some 46, none, .mov (.t 45)⟩,
 ⟨some 47, (some (46, true)), .mov (.t 8)⟩,
 ⟨some 48, (some (46, true)), .mov (.t 9)⟩,
 ⟨some 49, (some (46, true)), .bin .eql (.t 47) (.t 48)⟩,
 ⟨some 50, none, .pick (.t 46) (.t 49) (.c (.bool false))⟩,
 ⟨some 51, none, .mov (.t 50)⟩,
 ⟨some 52, (some (51, true)), .mov (.t 5)⟩,
 ⟨some 53, (some (51, true)), .len (.t 52)⟩,
 ⟨some 54, (some (51, true)), .mov (.t 7)⟩,
 ⟨some 55, (some (51, true)), .len (.t 54)⟩,
 ⟨some 56, (some (51, true)), .bin .add (.t 53) (.t 55)⟩,
 ⟨some 57, (some (51, true)), .bin .eql (.t 56) (.c (.int .i64 0))⟩,
 ⟨some 58, none, .pick (.t 51) (.t 57) (.c (.bool false))⟩,
 ⟨some 4, none, .mov (.t 58)⟩]) (
 .gh [.keep [4]] (
 .ret))) (
 .skip)))) (
 .seq (
 .seq (
 .reg none [
 ⟨some 59, none, .mov (.t 6)⟩,
 ⟨some 60, none, .bin .neq (.t 59) (.c (.int .i64 0))⟩,
 ⟨some 61, none, .mov (.t 60)⟩,
 ⟨some 62, (some (61, false)), .mov (.t 8)⟩,
 ⟨some 63, (some (61, false)), .bin .neq (.t 62) (.c (.int .i64 0))⟩,
 ⟨some 64, none, .pick (.t 61) (.c (.bool true)) (.t 63)⟩,
 ⟨some 65, none, .mov (.t 64)⟩,
 ⟨some 66, (some (65, false)), .mov (.t 5)⟩,
 ⟨some 67, (some (65, false)), .mov (.t 0)⟩,
 ⟨some 68, (some (65, false)), .mov (.t 1)⟩,
 ⟨some 69, (some (65, false)), .ncall true 7070 54 [(.t 67), (.t 68)]⟩,
 ⟨some 70, (some (65, false)), .ncall true 0 23 [(.t 66), (.t 69)]⟩,
 ⟨some 71, (some (65, false)), .not (.t 70)⟩,
 ⟨some 72, none, .pick (.t 65) (.c (.bool true)) (.t 71)⟩,
 ⟨some 73, none, .mov (.t 72)⟩,
 ⟨some 74, (some (73, false)), .mov (.t 7)⟩,
 ⟨some 75, (some (73, false)), .mov (.t 0)⟩,
 ⟨some 76, (some (73, false)), .mov (.t 1)⟩,
 ⟨some 77, (some (73, false)), .ncall true 7078 55 [(.t 75), (.t 76)]⟩,
 ⟨some 78, (some (73, false)), .ncall true 0 23 [(.t 74), (.t 77)]⟩,
 ⟨some 79, (some (73, false)), .not (.t 78)⟩,
 ⟨some 80, none, .pick (.t 73) (.c (.bool true)) (.t 79)⟩]) (
 .gh [.keep [0, 1, 5, 80]] (
 .cond (.t 80) (
 .seq (
 .reg none [
 ⟨some 4, none, .mov (.c (.bool false))⟩]) (
 .ret)) (
 .skip)))) (
 .seq (
 .reg none [
 ⟨some 82, none, .mov (.t 5)⟩,
 ⟨some 83, none, .ncall true 7084 20 [(.t 82)]⟩,
 ⟨some 84, none, .mov (.t 1)⟩,
 ⟨some 85, none, .ncall true 7086 52 [(.t 83), (.t 84)]⟩,
 ⟨some 81, none, .mov (.t 85)⟩,
 ⟨some 86, none, .ext 0 (.t 81)⟩,
 ⟨some 87, none, .ext 1 (.t 81)⟩,
 ⟨some 10, none, .mov (.t 86)⟩,
 ⟨some 11, none, .mov (.t 87)⟩]) (
 .gh [.keep [0, 1, 10, 11]] (
 .seq (
 .seq (
 .reg none [
 ⟨some 88, none, .mov (.t 11)⟩,
 ⟨some 89, none, .bin .neq (.t 88) (.c (.int .i64 0))⟩,
 ⟨some 90, none, .mov (.t 89)⟩,
 ⟨some 91, (some (90, false)), .mov (.t 10)⟩,
 ⟨some 92, (some (90, false)), .mov (.t 0)⟩,
 ⟨some 93, (some (90, false)), .ncall true 0 23 [(.t 91), (.t 92)]⟩,
 ⟨some 94, (some (90, false)), .not (.t 93)⟩,
 ⟨some 95, none, .pick (.t 90) (.c (.bool true)) (.t 94)⟩]) (
 .gh [.keep [0, 1, 95]] (
 .cond (.t 95) (
 .seq (
 .reg none [
 ⟨some 4, none, .mov (.c (.bool false))⟩]) (
 .ret)) (
 .skip)))) (
 .seq (
 .reg none [
 ⟨some 12, none, .mov (.c .nils)⟩]) (
 .seq (
 .seq (
 .reg none [
 ⟨some 13, none, .mov (.c (.int .i64 0))⟩]) (
 .block 0 (
 .loop b7_2))) (
 .seq (
 .gh [.frz 12] (
 .reg none [
 ⟨some 112, none, .mov (.t 12)⟩,
 ⟨some 113, none, .mov (.t 1)⟩,
 ⟨some 114, none, .ncall true 7115 51 [(.t 112), (.t 113)]⟩,
 ⟨some 111, none, .mov (.t 114)⟩,
 ⟨some 115, none, .ext 0 (.t 111)⟩,
 ⟨some 116, none, .ext 1 (.t 111)⟩,
 ⟨some 14, none, .mov (.t 115)⟩,
 ⟨some 15, none, .mov (.t 116)⟩])) (
 .gh [.keep [0, 1, 14, 15]] (
 .seq (
 .seq (
 .reg none [
 ⟨some 117, none, .mov (.t 15)⟩,
 ⟨some 118, none, .bin .neq (.t 117) (.c (.int .i64 0))⟩,
 ⟨some 119, none, .mov (.t 118)⟩,
 ⟨some 120, (some (119, false)), .mov (.t 14)⟩,
 ⟨some 121, (some (119, false)), .len (.t 120)⟩,
 ⟨some 122, (some (119, false)), .mov (.t 0)⟩,
 ⟨some 123, (some (119, false)), .len (.t 122)⟩,
 ⟨some 124, (some (119, false)), .bin .neq (.t 121) (.t 123)⟩,
 ⟨some 125, none, .pick (.t 119) (.c (.bool true)) (.t 124)⟩]) (
 .gh [.keep [1, 14, 125]] (
 .cond (.t 125) (
 .seq (
 .reg none [
 ⟨some 4, none, .mov (.c (.bool false))⟩]) (
 .ret)) (
 .skip)))) (
 .seq (
 .seq (
 .reg none [
 ⟨some 16, none, .mov (.c (.int .i64 0))⟩]) (
 .block 2 (
 .loop b7_0))) (
 .seq (
 .reg none [
 ⟨some 4, none, .mov (.c (.bool true))⟩]) (
 .ret)))))))))))))))))))
def a7 : AFunc := ⟨156, c7, [.tmp 4]⟩
/-! 8 cassegrain/cassegrainlaw05.CodeEncodes params [24, 25, 25] nfree 0 ntmps 160 -/
def c8 : ACode :=
 .seq (
 .reg none [
 ⟨some 3, none, .box 8004 24 (.t 0)⟩,
 ⟨some 6, none, .mov (.c (.bool false))⟩]) (
 .seq (
 .seq (
 .reg none [
 ⟨some 14, none, .ncall true 0 18 []⟩,
 ⟨some 15, none, .not (.t 14)⟩]) (
 .cond (.t 15) (
 .seq (
 .reg none [
 ⟨some 6, none, .mov (.c (.bool false))⟩]) (
 .ret)) (
 .skip))) (
 .seq (
 .seq (
 .reg none [
 ⟨some 16, none, .mov (.t 1)⟩,
 ⟨some 17, none, .len (.t 16)⟩,
 ⟨some 18, none, .ncall true 0 50 [(.t 17), (.c (.int .i64 300))]⟩,
 ⟨some 19, none, .not (.t 18)⟩,
 ⟨some 20, none, .mov (.t 19)⟩,
 ⟨some 21, (some (20, false)), .mov (.t 2)⟩,
 ⟨some 22, (some (20, false)), .len (.t 21)⟩,
 ⟨some 23, (some (20, false)), .bin .gtr (.t 22) (.c (.int .i64 60))⟩,
 ⟨some 24, (some (20, false)), .mov (.t 23)⟩,
 ⟨some 25, (some (24, true)), .mov (.t 2)⟩,
 ⟨some 26, (some (24, true)), .len (.t 25)⟩,
 ⟨some 27, (some (24, true)), .bin .leq (.t 26) (.c (.int .i64 600))⟩,
 ⟨some 28, (some (20, false)), .pick (.t 24) (.t 27) (.c (.bool false))⟩,
 ⟨some 29, none, .pick (.t 20) (.c (.bool true)) (.t 28)⟩,
 ⟨some 30, none, .mov (.t 29)⟩,
 ⟨some 31, (some (30, false)), .mov (.t 2)⟩,
 ⟨some 32, (some (30, false)), .len (.t 31)⟩,
 ⟨some 33, (some (30, false)), .bin .gtr (.t 32) (.c (.int .i64 608))⟩,
 ⟨some 34, none, .pick (.t 30) (.c (.bool true)) (.t 33)⟩]) (
 .gh [.keep [1, 2, 3, 34]] (
 .cond (.t 34) (
 .seq (
 .reg none [
 ⟨some 6, none, .mov (.c (.bool true))⟩]) (
 .ret)) (
 .skip)))) (
 .seq (
 .reg (some [(0, 2)]) [
 ⟨some 36, none, .load true 3 (.t 3)⟩,
 ⟨some 37, none, .mov (.t 1)⟩,
 ⟨some 38, none, .ncall true 8039 20 [(.t 37)]⟩,
 ⟨some 39, none, .ncall true 8040 46 [(.t 36), (.t 38)]⟩,
 ⟨some 35, none, .mov (.t 39)⟩,
 ⟨some 40, none, .ext 0 (.t 35)⟩,
 ⟨some 41, none, .ext 1 (.t 35)⟩,
 ⟨some 7, none, .mov (.t 40)⟩,
 ⟨some 8, none, .mov (.t 41)⟩]) (
 .gh [.keep [1, 2, 3, 7, 8]] (
 .seq (
 .reg (some [(0, 2), (0, 4), (2, 3)]) [
 ⟨some 43, none, .load true 3 (.t 3)⟩,
 ⟨some 44, none, .mov (.t 1)⟩,
 ⟨some 45, none, .ncall true 8046 20 [(.t 44)]⟩,
 ⟨some 46, none, .mov (.t 2)⟩,
 ⟨some 47, none, .ncall true 8048 20 [(.t 46)]⟩,
 ⟨some 48, none, .ncall true 0 56 [(.t 43), (.t 45), (.t 47)]⟩,
 ⟨some 42, none, .mov (.t 48)⟩,
 ⟨some 49, none, .ext 0 (.t 42)⟩,
 ⟨some 50, none, .ext 1 (.t 42)⟩,
 ⟨some 9, none, .mov (.t 49)⟩,
 ⟨some 10, none, .mov (.t 50)⟩]) (
 .gh [.keep [1, 2, 3, 7, 8, 9, 10]] (
 .seq (
 .reg none [
 ⟨some 52, none, .load true 3 (.t 3)⟩,
 ⟨some 53, none, .ncall true 0 47 [(.t 52)]⟩,
 ⟨some 51, none, .mov (.t 53)⟩,
 ⟨some 54, none, .ext 0 (.t 51)⟩,
 ⟨some 55, none, .ext 1 (.t 51)⟩,
 ⟨some 11, none, .mov (.t 54)⟩,
 ⟨some 12, none, .mov (.t 55)⟩]) (
 .seq (
 .reg none [
 ⟨some 56, none, .load true 3 (.t 3)⟩,
 ⟨some 57, none, .ncall true 0 43 [(.t 56)]⟩,
 ⟨some 13, none, .mov (.t 57)⟩]) (
 .seq (
 .seq (
 .reg none [
 ⟨some 58, none, .load true 3 (.t 3)⟩,
 ⟨some 59, none, .ncall true 0 57 [(.t 58)]⟩,
 ⟨some 60, none, .mov (.t 13)⟩,
 ⟨some 61, none, .bin .neq (.t 59) (.t 60)⟩]) (
 .cond (.t 61) (
 .seq (
 .reg none [
 ⟨some 6, none, .mov (.c (.bool false))⟩]) (
 .ret)) (
 .skip))) (
 .seq (
 .seq (
 .reg none [
 ⟨some 62, none, .mov (.t 13)⟩,
 ⟨some 63, none, .bin .neq (.t 62) (.c (.int .i64 0))⟩]) (
 .cond (.t 63) (
 .seq (
 .reg none [
 ⟨some 64, none, .mov (.t 8)⟩,
 ⟨some 65, none, .mov (.t 13)⟩,
 ⟨some 66, none, .bin .eql (.t 64) (.t 65)⟩,
 ⟨some 67, none, .mov (.t 66)⟩,
 ⟨some 68, (some (67, true)), .mov (.t 10)⟩,
 ⟨some 69, (some (67, true)), .mov (.t 13)⟩,
 ⟨some 70, (some (67, true)), .bin .eql (.t 68) (.t 69)⟩,
 ⟨some 71, none, .pick (.t 67) (.t 70) (.c (.bool false))⟩,
 ⟨some 72, none, .mov (.t 71)⟩,
 ⟨some 73, (some (72, true)), .mov (.t 12)⟩,
 ⟨some 74, (some (72, true)), .mov (.t 13)⟩,
 ⟨some 75, (some (72, true)), .bin .eql (.t 73) (.t 74)⟩,
 ⟨some 76, none, .pick (.t 72) (.t 75) (.c (.bool false))⟩,
 ⟨some 77, none, .mov (.t 76)⟩,
 ⟨some 78, (some (77, true)), .mov (.t 7)⟩,
 ⟨some 79, (some (77, true)), .len (.t 78)⟩,
 ⟨some 80, (some (77, true)), .bin .eql (.t 79) (.c (.int .i64 0))⟩,
 ⟨some 81, none, .pick (.t 77) (.t 80) (.c (.bool false))⟩,
 ⟨some 82, none, .mov (.t 81)⟩,
 ⟨some 83, (some (82, true)), .mov (.t 9)⟩,
 ⟨some 84, (some (82, true)), .bin .eql (.t 83) (.c (.int .i64 0))⟩,
 ⟨some 85, none, .pick (.t 82) (.t 84) (.c (.bool false))⟩,
 ⟨some 86, none, .mov (.t 85)⟩,
 ⟨some 87, (some (86, true)), .mov (.t 11)⟩,
 ⟨some 88, (some (86, true)), .bin .eql (.t 87) (.c (.int .i64 0))⟩,
 ⟨some 89, none, .pick (.t 86) (.t 88) (.c (.bool false))⟩,
 ⟨some 6, none, .mov (.t 89)⟩]) (
 .gh [.keep [6]] (
 .ret))) (
 .skip))) (
 .seq (
 .seq (
 .reg none [
 ⟨some 90, none, .mov (.t 12)⟩,
 ⟨some 91, none, .bin .neq (.t 90) (.c (.int .i64 0))⟩,
 ⟨some 92, none, .mov (.t 91)⟩,
 ⟨some 93, (some (92, false)), .mov (.t 11)⟩,
 ⟨some 94, (some (92, false)), .load true 3 (.t 3)⟩,
 ⟨some 95, (some (92, false)), .ncall true 0 58 [(.t 94)]⟩,
 ⟨some 96, (some (92, false)), .bin .neq (.t 93) (.t 95)⟩,
 ⟨some 97, none, .pick (.t 92) (.c (.bool true)) (.t 96)⟩]) (
 .gh [.keep [1, 2, 3, 7, 8, 9, 10, 97]] (
 .cond (.t 97) (
 .seq (
 .reg none [
 ⟨some 6, none, .mov (.c (.bool false))⟩]) (
 .ret)) (
 .skip)))) (
 .seq (
 .seq (
 .reg none [
 ⟨some 98, none, .mov (.t 1)⟩,
 ⟨some 99, none, .ncall true 0 44 [(.t 98)]⟩,
 ⟨some 13, none, .mov (.t 99)⟩]) (
 .seq (
 .reg none [
 ⟨some 100, none, .mov (.t 13)⟩,
 ⟨some 101, none, .bin .neq (.t 100) (.c (.int .i64 0))⟩]) (
 .cond (.t 101) (
 .seq (
 .reg none [
 ⟨some 102, none, .mov (.t 8)⟩,
 ⟨some 103, none, .mov (.t 13)⟩,
 ⟨some 104, none, .bin .eql (.t 102) (.t 103)⟩,
 ⟨some 105, none, .mov (.t 104)⟩,
 ⟨some 106, (some (105, true)), .mov (.t 10)⟩,
 ⟨some 107, (some (105, true)), .mov (.t 13)⟩,
 ⟨some 108, (some (105, true)), .bin .eql (.t 106) (.t 107)⟩,
 ⟨some 109, none, .pick (.t 105) (.t 108) (.c (.bool false))⟩,
 ⟨some 110, none, .mov (.t 109)⟩,
 ⟨some 111, (some (110, true)), .mov (.t 7)⟩,
 ⟨some 112, (some (110, true)), .len (.t 111)⟩,
 ⟨some 113, (some (110, true)), .bin .eql (.t 112) (.c (.int .i64 0))⟩,
 ⟨some 114, none, .pick (.t 110) (.t 113) (.c (.bool false))⟩,
 ⟨some 115, none, .mov (.t 114)⟩,
 ⟨some 116, (some (115, true)), .mov (.t 9)⟩,
 ⟨some 117, (some (115, true)), .bin .eql (.t 116) (.c (.int .i64 0))⟩,
 ⟨some 118, none, .pick (.t 115) (.t 117) (.c (.bool false))⟩,
 ⟨some 6, none, .mov (.t 118)⟩]) (
 .gh [.keep [6]] (
 .ret))) (
 .skip)))) (
 .seq (
 .seq (
 .reg none [
 ⟨some 119, none, .mov (.t 8)⟩,
 ⟨some 120, none, .bin .neq (.t 119) (.c (.int .i64 0))⟩,
 ⟨some 121, none, .mov (.t 120)⟩,
 ⟨some 122, (some (121, false)), .mov (.t 7)⟩,
 ⟨some 123, (some (121, false)), .load true 3 (.t 3)⟩,
 ⟨some 124, (some (121, false)), .mov (.t 1)⟩,
 ⟨some 125, (some (121, false)), .ncall true 8126 59 [(.t 123), (.t 124)]⟩,
 ⟨some 126, (some (121, false)), .ncall true 0 23 [(.t 122), (.t 125)]⟩,
 ⟨some 127, (some (121, false)), .not (.t 126)⟩,
 ⟨some 128, none, .pick (.t 121) (.c (.bool true)) (.t 127)⟩]) (
 .gh [.keep [1, 2, 3, 7, 9, 10, 128]] (
 .cond (.t 128) (
 .seq (
 .reg none [
 ⟨some 6, none, .mov (.c (.bool false))⟩]) (
 .ret)) (
 .skip)))) (
 .seq (
 .reg none [
 ⟨some 129, none, .load true 3 (.t 3)⟩,
 ⟨some 130, none, .mov (.t 2)⟩,
 ⟨some 131, none, .ncall true 0 60 [(.t 129), (.t 130)]⟩,
 ⟨some 13, none, .mov (.t 131)⟩]) (
 .seq (
 .seq (
 .reg none [
 ⟨some 132, none, .mov (.t 13)⟩,
 ⟨some 133, none, .bin .eql (.t 132) (.c (.int .i64 0))⟩,
 ⟨some 134, none, .mov (.t 133)⟩,
 ⟨some 135, (some (134, true)), .mov (.t 2)⟩,
 ⟨some 136, (some (134, true)), .len (.t 135)⟩,
 ⟨some 137, (some (134, true)), .mov (.t 7)⟩,
 ⟨some 138, (some (134, true)), .len (.t 137)⟩,
 ⟨some 139, (some (134, true)), .bin .neq (.t 136) (.t 138)⟩,
 ⟨some 140, none, .pick (.t 134) (.t 139) (.c (.bool false))⟩]) (
 .gh [.keep [1, 2, 3, 9, 10, 13, 140]] (
 .cond (.t 140) (
 .reg none [
 ⟨some 13, none, .mov (.c (.int .i64 13))⟩]) (
 .skip)))) (
 .seq (
 .seq (
 .reg none [
 ⟨some 141, none, .mov (.t 13)⟩,
 ⟨some 142, none, .bin .neq (.t 141) (.c (.int .i64 0))⟩]) (
 .cond (.t 142) (
 .seq (
 .reg none [
 ⟨some 143, none, .mov (.t 10)⟩,
 ⟨some 144, none, .mov (.t 13)⟩,
 ⟨some 145, none, .bin .eql (.t 143) (.t 144)⟩,
 ⟨some 146, none, .mov (.t 145)⟩,
 ⟨some 147, (some (146, true)), .mov (.t 9)⟩,
 ⟨some 148, (some (146, true)), .bin .eql (.t 147) (.c (.int .i64 0))⟩,
 ⟨some 149, none, .pick (.t 146) (.t 148) (.c (.bool false))⟩,
 ⟨some 6, none, .mov (.t 149)⟩]) (
 .gh [.keep [6]] (
 .ret))) (
 .skip))) (
 .seq (
 .reg none [
 ⟨some 150, none, .mov (.t 10)⟩,
 ⟨some 151, none, .bin .eql (.t 150) (.c (.int .i64 0))⟩,
 ⟨some 152, none, .mov (.t 151)⟩,
 ⟨some 153, (some (152, true)), .mov (.t 9)⟩,
 ⟨some 154, (some (152, true)), .load true 3 (.t 3)⟩,
 ⟨some 155, (some (152, true)), .mov (.t 1)⟩,
 ⟨some 156, (some (152, true)), .mov (.t 2)⟩,
 ⟨some 157, (some (152, true)), .ncall true 0 61 [(.t 154), (.t 155), (.t 156)]⟩,
 ⟨some 158, (some (152, true)), .bin .eql (.t 153) (.t 157)⟩,
 ⟨some 159, none, .pick (.t 152) (.t 158) (.c (.bool false))⟩,
 ⟨some 6, none, .mov (.t 159)⟩]) (
 .gh [.keep [6]] (
 .ret)))))))))))))))))))
def a8 : AFunc := ⟨160, c8, [.tmp 6]⟩
/-! 9 cassegrain/cassegrainlaw05.CodeProofs params [24, 25, 76] nfree 0 ntmps 115 -/
def l9_0 : ACode :=
 .seq (
 .seq (
 .reg none [
 ⟨some 25, none, .mov (.t 7)⟩,
 ⟨some 26, none, .mov (.t 2)⟩,
 ⟨some 27, none, .len (.t 26)⟩,
 ⟨some 28, none, .bin .lss (.t 25) (.t 27)⟩]) (
 .cond (.t 28) (
 .skip) (
 .exit 0))) (
 .seq (
 .block 1 (
 .seq (
 .reg none [
 ⟨some 31, none, .mov (.t 2)⟩,
 ⟨some 32, none, .mov (.t 7)⟩,
 ⟨some 33, none, .iaddr 1 (.t 31) (.t 32)⟩,
 ⟨some 34, none, .load false 1 (.t 33)⟩,
 ⟨some 35, none, .len (.t 34)⟩,
 ⟨some 36, none, .bin .gtr (.t 35) (.c (.int .i64 10))⟩]) (
 .cond (.t 36) (
 .seq (
 .reg none [
 ⟨some 6, none, .mov (.c (.bool true))⟩]) (
 .ret)) (
 .skip)))) (
 .reg none [
 ⟨some 29, none, .mov (.t 7)⟩,
 ⟨some 30, none, .bin .add (.t 29) (.c (.int .i64 1))⟩,
 ⟨some 7, none, .mov (.t 30)⟩]))
def b9_0 : ACode := .gh [.keep [1, 2, 3, 7]] (.gh [] l9_0)
def k9_0 : List AItem := .inLoop b9_0 :: [.inBlock 0,
 .code (.seq (
 .reg (some [(0, 2), (0, 4), (2, 3)]) [
 ⟨some 38, none, .load true 3 (.t 3)⟩,
 ⟨some 39, none, .mov (.t 1)⟩,
 ⟨some 40, none, .ncall true 9041 20 [(.t 39)]⟩,
 ⟨some 41, none, .mov (.t 2)⟩,
 ⟨some 42, none, .ncall true 9043 63 [(.t 41)]⟩,
 ⟨some 43, none, .ncall true 0 62 [(.t 38), (.t 40), (.t 42)]⟩,
 ⟨some 37, none, .mov (.t 43)⟩,
 ⟨some 44, none, .ext 0 (.t 37)⟩,
 ⟨some 45, none, .ext 1 (.t 37)⟩,
 ⟨some 8, none, .mov (.t 44)⟩,
 ⟨some 9, none, .mov (.t 45)⟩]) (
 .gh [.keep [1, 2, 3, 8, 9]] (
 .seq (
 .reg (some [(0, 2)]) [
 ⟨some 47, none, .load true 3 (.t 3)⟩,
 ⟨some 48, none, .mov (.t 1)⟩,
 ⟨some 49, none, .ncall true 9050 20 [(.t 48)]⟩,
 ⟨some 50, none, .ncall true 9051 64 [(.t 47), (.t 49)]⟩,
 ⟨some 46, none, .mov (.t 50)⟩,
 ⟨some 51, none, .ext 0 (.t 46)⟩,
 ⟨some 52, none, .ext 1 (.t 46)⟩,
 ⟨some 10, none, .mov (.t 51)⟩,
 ⟨some 11, none, .mov (.t 52)⟩]) (
 .gh [.keep [1, 2, 3, 8, 9, 10, 11]] (
 .seq (
 .reg none [
 ⟨some 53, none, .load true 3 (.t 3)⟩,
 ⟨some 54, none, .mov (.t 1)⟩,
 ⟨some 55, none, .ncall true 0 21 [(.t 53), (.t 54)]⟩,
 ⟨some 12, none, .mov (.t 55)⟩]) (
 .seq (
 .seq (
 .reg none [
 ⟨some 56, none, .mov (.t 12)⟩,
 ⟨some 57, none, .bin .neq (.t 56) (.c (.int .i64 0))⟩]) (
 .cond (.t 57) (
 .seq (
 .reg none [
 ⟨some 58, none, .mov (.t 9)⟩,
 ⟨some 59, none, .mov (.t 12)⟩,
 ⟨some 60, none, .bin .eql (.t 58) (.t 59)⟩,
 ⟨some 61, none, .mov (.t 60)⟩,
 ⟨some 62, (some (61, true)), .mov (.t 11)⟩,
 ⟨some 63, (some (61, true)), .mov (.t 12)⟩,
 ⟨some 64, (some (61, true)), .bin .eql (.t 62) (.t 63)⟩,
 ⟨some 65, none, .pick (.t 61) (.t 64) (.c (.bool false))⟩,
 ⟨some 66, none, .mov (.t 65)⟩,
 ⟨some 67, (some (66, true)), .mov (.t 8)⟩,
 ⟨some 68, (some (66, true)), .bin .eql (.t 67) (.c (.int .i64 0))⟩,
 ⟨some 69, none, .pick (.t 66) (.t 68) (.c (.bool false))⟩,
 ⟨some 70, none, .mov (.t 69)⟩,
 ⟨some 71, (some (70, true)), .mov (.t 10)⟩,
 ⟨some 72, (some (70, true)), .len (.t 71)⟩,
 ⟨some 73, (some (70, true)), .bin .eql (.t 72) (.c (.int .i64 0))⟩,
 ⟨some 74, none, .pick (.t 70) (.t 73) (.c (.bool false))⟩,
 ⟨some 6, none, .mov (.t 74)⟩]) (
 .gh [.keep [6]] (
 .ret))) (
 .skip))) (
 .seq (
 .seq (
 .reg none [
 ⟨some 75, none, .mov (.t 11)⟩,
 ⟨some 76, none, .bin .neq (.t 75) (.c (.int .i64 0))⟩,
 ⟨some 77, none, .mov (.t 76)⟩,
 ⟨some 78, (some (77, false)), .load true 3 (.t 3)⟩,
 ⟨some 79, (some (77, false)), .mov (.t 1)⟩,
 ⟨some 80, (some (77, false)), .mov (.t 10)⟩,
 ⟨some 81, (some (77, false)), .ncall true 0 65 [(.t 78), (.t 79), (.t 80)]⟩,
 ⟨some 82, (some (77, false)), .bin .neq (.t 81) (.c (.int .i64 0))⟩,
 ⟨some 83, none, .pick (.t 77) (.c (.bool true)) (.t 82)⟩]) (
 .gh [.keep [1, 2, 3, 8, 9, 10, 83]] (
 .cond (.t 83) (
 .seq (
 .reg none [
 ⟨some 6, none, .mov (.c (.bool false))⟩]) (
 .ret)) (
 .skip)))) (
 .seq (
 .seq (
 .reg none [
 ⟨some 85, none, .load true 3 (.t 3)⟩,
 ⟨some 86, none, .mov (.t 1)⟩,
 ⟨some 87, none, .ncall true 9088 22 [(.t 85), (.t 86)]⟩,
 ⟨some 84, none, .mov (.t 87)⟩,
 ⟨some 88, none, .ext 0 (.t 84)⟩,
 ⟨some 89, none, .ext 1 (.t 84)⟩,
 ⟨some 13, none, .mov (.t 88)⟩,
 ⟨some 14, none, .mov (.t 89)⟩]) (
 .gh [.keep [1, 2, 3, 8, 9, 10, 14]] (
 .seq (
 .reg none [
 ⟨some 90, none, .mov (.t 10)⟩,
 ⟨some 91, none, .ncall true 0 66 [(.t 90)]⟩,
 ⟨some 92, none, .mov (.t 14)⟩,
 ⟨some 93, none, .bin .neq (.t 91) (.t 92)⟩]) (
 .cond (.t 93) (
 .seq (
 .reg none [
 ⟨some 6, none, .mov (.c (.bool false))⟩]) (
 .ret)) (
 .skip))))) (
 .seq (
 .seq (
 .reg none [
 ⟨some 94, none, .load true 3 (.t 3)⟩,
 ⟨some 95, none, .mov (.t 1)⟩,
 ⟨some 96, none, .mov (.t 2)⟩,
 ⟨some 97, none, .ncall true 0 65 [(.t 94), (.t 95), (.t 96)]⟩,
 ⟨some 12, none, .mov (.t 97)⟩]) (
 .seq (
 .reg none [
 ⟨some 98, none, .mov (.t 12)⟩,
 ⟨some 99, none, .bin .neq (.t 98) (.c (.int .i64 0))⟩]) (
 .cond (.t 99) (
 .seq (
 .reg none [
 ⟨some 100, none, .mov (.t 9)⟩,
 ⟨some 101, none, .mov (.t 12)⟩,
 ⟨some 102, none, .bin .eql (.t 100) (.t 101)⟩,
 ⟨some 103, none, .mov (.t 102)⟩,
 ⟨some 104, (some (103, true)), .mov (.t 8)⟩,
 ⟨some 105, (some (103, true)), .bin .eql (.t 104) (.c (.int .i64 0))⟩,
 ⟨some 106, none, .pick (.t 103) (.t 105) (.c (.bool false))⟩,
 ⟨some 6, none, .mov (.t 106)⟩]) (
 .gh [.keep [6]] (
 .ret))) (
 .skip)))) (
 .seq (
 .reg none [
 ⟨some 107, none, .mov (.t 9)⟩,
 ⟨some 108, none, .bin .eql (.t 107) (.c (.int .i64 0))⟩,
 ⟨some 109, none, .mov (.t 108)⟩,
 ⟨some 110, (some (109, true)), .mov (.t 8)⟩,
 ⟨some 111, (some (109, true)), .mov (.t 2)⟩,
 ⟨some 112, (some (109, true)), .ncall true 0 66 [(.t 111)]⟩,
 ⟨some 113, (some (109, true)), .bin .eql (.t 110) (.t 112)⟩,
 ⟨some 114, none, .pick (.t 109) (.t 113) (.c (.bool false))⟩,
 ⟨some 6, none, .mov (.t 114)⟩]) (
 .gh [.keep [6]] (
 .ret))))))))))))]
def c9 : ACode :=
 .seq (
 .reg none [
 ⟨some 3, none, .box 9004 24 (.t 0)⟩,
 ⟨some 6, none, .mov (.c (.bool false))⟩]) (
 .seq (
 .seq (
 .reg none [
 ⟨some 15, none, .ncall true 0 18 []⟩,
 ⟨some 16, none, .not (.t 15)⟩]) (
 .cond (.t 16) (
 .seq (
 .reg none [
 ⟨some 6, none, .mov (.c (.bool false))⟩]) (
 .ret)) (
 .skip))) (
 .seq (
 .seq (
 .reg none [
 ⟨some 17, none, .mov (.t 1)⟩,
 ⟨some 18, none, .len (.t 17)⟩,
 ⟨some 19, none, .bin .gtr (.t 18) (.c (.int .i64 40))⟩,
 ⟨some 20, none, .mov (.t 19)⟩,
 ⟨some 21, (some (20, false)), .mov (.t 2)⟩,
 ⟨some 22, (some (20, false)), .len (.t 21)⟩,
 ⟨some 23, (some (20, false)), .bin .gtr (.t 22) (.c (.int .i64 24))⟩,
 ⟨some 24, none, .pick (.t 20) (.c (.bool true)) (.t 23)⟩]) (
 .gh [.keep [1, 2, 3, 24]] (
 .cond (.t 24) (
 .seq (
 .reg none [
 ⟨some 6, none, .mov (.c (.bool true))⟩]) (
 .ret)) (
 .skip)))) (
 .seq (
 .seq (
 .reg none [
 ⟨some 7, none, .mov (.c (.int .i64 0))⟩]) (
 .block 0 (
 .loop b9_0))) (
 .seq (
 .reg (some [(0, 2), (0, 4), (2, 3)]) [
 ⟨some 38, none, .load true 3 (.t 3)⟩,
 ⟨some 39, none, .mov (.t 1)⟩,
 ⟨some 40, none, .ncall true 9041 20 [(.t 39)]⟩,
 ⟨some 41, none, .mov (.t 2)⟩,
 ⟨some 42, none, .ncall true 9043 63 [(.t 41)]⟩,
 ⟨some 43, none, .ncall true 0 62 [(.t 38), (.t 40), (.t 42)]⟩,
 ⟨some 37, none, .mov (.t 43)⟩,
 ⟨some 44, none, .ext 0 (.t 37)⟩,
 ⟨some 45, none, .ext 1 (.t 37)⟩,
 ⟨some 8, none, .mov (.t 44)⟩,
 ⟨some 9, none, .mov (.t 45)⟩]) (
 .gh [.keep [1, 2, 3, 8, 9]] (
 .seq (
 .reg (some [(0, 2)]) [
 ⟨some 47, none, .load true 3 (.t 3)⟩,
 ⟨some 48, none, .mov (.t 1)⟩,
 ⟨some 49, none, .ncall true 9050 20 [(.t 48)]⟩,
 ⟨some 50, none, .ncall true 9051 64 [(.t 47), (.t 49)]⟩,
 ⟨some 46, none, .mov (.t 50)⟩,
 ⟨some 51, none, .ext 0 (.t 46)⟩,
 ⟨some 52, none, .ext 1 (.t 46)⟩,
 ⟨some 10, none, .mov (.t 51)⟩,
 ⟨some 11, none, .mov (.t 52)⟩]) (
 .gh [.keep [1, 2, 3, 8, 9, 10, 11]] (
 .seq (
 .reg none [
 ⟨some 53, none, .load true 3 (.t 3)⟩,
 ⟨some 54, none, .mov (.t 1)⟩,
 ⟨some 55, none, .ncall true 0 21 [(.t 53), (.t 54)]⟩,
 ⟨some 12, none, .mov (.t 55)⟩]) (
 .seq (
 .seq (
 .reg none [
 ⟨some 56, none, .mov (.t 12)⟩,
 ⟨some 57, none, .bin .neq (.t 56) (.c (.int .i64 0))⟩]) (
 .cond (.t 57) (
 .seq (
 .reg none [
 ⟨some 58, none, .mov (.t 9)⟩,
 ⟨some 59, none, .mov (.t 12)⟩,
 ⟨some 60, none, .bin .eql (.t 58) (.t 59)⟩,
 ⟨some 61, none, .mov (.t 60)⟩,
 ⟨some 62, (some (61, true)), .mov (.t 11)⟩,
 ⟨some 63, (some (61, true)), .mov (.t 12)⟩,
 ⟨some 64, (some (61, true)), .bin .eql (.t 62) (.t 63)⟩,
 ⟨some 65, none, .pick (.t 61) (.t 64) (.c (.bool false))⟩,
 ⟨some 66, none, .mov (.t 65)⟩,
 ⟨some 67, (some (66, true)), .mov (.t 8)⟩,
 ⟨some 68, (some (66, true)), .bin .eql (.t 67) (.c (.int .i64 0))⟩,
 ⟨some 69, none, .pick (.t 66) (.t 68) (.c (.bool false))⟩,
 ⟨some 70, none, .mov (.t 69)⟩,
 ⟨some 71, (some (70, true)), .mov (.t 10)⟩,
 ⟨some 72, (some (70, true)), .len (.t 71)⟩,
 ⟨some 73, (some (70, true)), .bin .eql (.t 72) (.c (.int .i64 0))⟩,
 ⟨some 74, none, .pick (.t 70) (.t 73) (.c (.bool false))⟩,
 ⟨some 6, none, .mov (.t 74)⟩]) (
 .gh [.keep [6]] (
 .ret))) (
 .skip))) (
 .seq (
 .seq (
 .reg none [
 ⟨some 75, none, .mov (.t 11)⟩,
 ⟨some 76, none, .bin .neq (.t 75) (.c (.int .i64 0))⟩,
 ⟨some 77, none, .mov (.t 76)⟩,
 ⟨some 78, (some (77, false)), .load true 3 (.t 3)⟩,
 ⟨some 79, (some (77, false)), .mov (.t 1)⟩,
 ⟨some 80, (some (77, false)), .mov (.t 10)⟩,
 ⟨some 81, (some (77, false)), .ncall true 0 65 [(.t 78), (.t 79), (.t 80)]⟩,
 ⟨some 82, (some (77, false)), .bin .neq (.t 81) (.c (.int .i64 0))⟩,
 ⟨some 83, none, .pick (.t 77) (.c (.bool true)) (.t 82)⟩]) (
 .gh [.keep [1, 2, 3, 8, 9, 10, 83]] (
 .cond (.t 83) (
 .seq (
 .reg none [
 ⟨some 6, none, .mov (.c (.bool false))⟩]) (
 .ret)) (
 .skip)))) (
 .seq (
 .seq (
 .reg none [
 ⟨some 85, none, .load true 3 (.t 3)⟩,
 ⟨some 86, none, .mov (.t 1)⟩,
 ⟨some 87, none, .ncall true 9088 22 [(.t 85), (.t 86)]⟩,
 ⟨some 84, none, .mov (.t 87)⟩,
 ⟨some 88, none, .ext 0 (.t 84)⟩,
 ⟨some 89, none, .ext 1 (.t 84)⟩,
 ⟨some 13, none, .mov (.t 88)⟩,
 ⟨some 14, none, .mov (.t 89)⟩]) (
 .gh [.keep [1, 2, 3, 8, 9, 10, 14]] (
 .seq (
 .reg none [
 ⟨some 90, none, .mov (.t 10)⟩,
 ⟨some 91, none, .ncall true 0 66 [(.t 90)]⟩,
 ⟨some 92, none, .mov (.t 14)⟩,
 ⟨some 93, none, .bin .neq (.t 91) (.t 92)⟩]) (
 .cond (.t 93) (
 .seq (
 .reg none [
 ⟨some 6, none, .mov (.c (.bool false))⟩]) (
 .ret)) (
 .skip))))) (
 .seq (
 .seq (
 .reg none [
 ⟨some 94, none, .load true 3 (.t 3)⟩,
 ⟨some 95, none, .mov (.t 1)⟩,
 ⟨some 96, none, .mov (.t 2)⟩,
 ⟨some 97, none, .ncall true 0 65 [(.t 94), (.t 95), (.t 96)]⟩,
 ⟨some 12, none, .mov (.t 97)⟩]) (
 .seq (
 .reg none [
 ⟨some 98, none, .mov (.t 12)⟩,
 ⟨some 99, none, .bin .neq (.t 98) (.c (.int .i64 0))⟩]) (
 .cond (.t 99) (
 .seq (
 .reg none [
 ⟨some 100, none, .mov (.t 9)⟩,
 ⟨some 101, none, .mov (.t 12)⟩,
 ⟨some 102, none, .bin .eql (.t 100) (.t 101)⟩,
 ⟨some 103, none, .mov (.t 102)⟩,
 ⟨some 104, (some (103, true)), .mov (.t 8)⟩,
 ⟨some 105, (some (103, true)), .bin .eql (.t 104) (.c (.int .i64 0))⟩,
 ⟨some 106, none, .pick (.t 103) (.t 105) (.c (.bool false))⟩,
 ⟨some 6, none, .mov (.t 106)⟩]) (
 .gh [.keep [6]] (
 .ret))) (
 .skip)))) (
 .seq (
 .reg none [
 ⟨some 107, none, .mov (.t 9)⟩,
 ⟨some 108, none, .bin .eql (.t 107) (.c (.int .i64 0))⟩,
 ⟨some 109, none, .mov (.t 108)⟩,
 ⟨some 110, (some (109, true)), .mov (.t 8)⟩,
 ⟨some 111, (some (109, true)), .mov (.t 2)⟩,
 ⟨some 112, (some (109, true)), .ncall true 0 66 [(.t 111)]⟩,
 ⟨some 113, (some (109, true)), .bin .eql (.t 110) (.t 112)⟩,
 ⟨some 114, none, .pick (.t 109) (.t 113) (.c (.bool false))⟩,
 ⟨some 6, none, .mov (.t 114)⟩]) (
 .gh [.keep [6]] (
 .ret)))))))))))))))
def a9 : AFunc := ⟨115, c9, [.tmp 6]⟩
/-! 10 cassegrain/cassegrainlaw05.CodeRounds params [48, 25, 3] nfree 0 ntmps 240 -/
def c10 : ACode :=
 .seq (
 .reg none [
 ⟨some 3, none, .box 10004 48 (.t 0)⟩,
 ⟨some 6, none, .mov (.c (.bool false))⟩]) (
 .seq (
 .seq (
 .reg none [
 ⟨some 23, none, .ncall true 0 18 []⟩,
 ⟨some 24, none, .not (.t 23)⟩]) (
 .cond (.t 24) (
 .seq (
 .reg none [
 ⟨some 6, none, .mov (.c (.bool false))⟩]) (
 .ret)) (
 .skip))) (
 .seq (
 .seq (
 .reg none [
 ⟨some 25, none, .load true 2 (.t 3)⟩,
 ⟨some 26, none, .ncall true 0 34 [(.t 25)]⟩,
 ⟨some 27, none, .not (.t 26)⟩,
 ⟨some 28, none, .mov (.t 27)⟩,
 ⟨some 29, (some (28, false)), .mov (.t 1)⟩,
 ⟨some 30, (some (28, false)), .len (.t 29)⟩,
 ⟨some 31, (some (28, false)), .bin .gtr (.t 30) (.c (.int .i64 26))⟩,
 ⟨some 32, none, .pick (.t 28) (.c (.bool true)) (.t 31)⟩,
 ⟨some 33, none, .mov (.t 32)⟩,
 ⟨some 34, (some (33, false)), .faddr 0 (.t 3)⟩,
 ⟨some 35, (some (33, false)), .load false 1 (.t 34)⟩,
 ⟨some 36, (some (33, false)), .bin .gtr (.t 35) (.c (.int .i64 10))⟩,
 ⟨some 37, (some (33, false)), .mov (.t 36)⟩,
 ⟨some 38, (some (37, true)), .faddr 0 (.t 3)⟩,
 ⟨some 39, (some (37, true)), .load false 1 (.t 38)⟩,
 ⟨some 40, (some (37, true)), .bin .leq (.t 39) (.c (.int .i64 14))⟩,
 ⟨some 41, (some (33, false)), .pick (.t 37) (.t 40) (.c (.bool false))⟩,
 ⟨some 42, none, .pick (.t 33) (.c (.bool true)) (.t 41)⟩]) (
 .gh [.keep [1, 2, 3, 42]] (
 .cond (.t 42) (
 .seq (
 .reg none [
 ⟨some 6, none, .mov (.c (.bool true))⟩]) (
 .ret)) (
 .skip)))) (
 .seq (
 .reg none [
 ⟨some 44, none, .load true 2 (.t 3)⟩,
 ⟨some 45, none, .ncall true 10046 36 [(.t 44)]⟩,
 ⟨some 46, none, .mov (.t 1)⟩,
 ⟨some 47, none, .ncall true 10048 20 [(.t 46)]⟩,
 ⟨some 48, none, .mov (.t 2)⟩,
 ⟨some 49, none, .ncall true 10050 67 [(.t 45), (.t 47), (.t 48)]⟩,
 ⟨some 43, none, .mov (.t 49)⟩,
 ⟨some 50, none, .ext 0 (.t 43)⟩,
 ⟨some 51, none, .ext 1 (.t 43)⟩,
 ⟨some 52, none, .ext 2 (.t 43)⟩,
 ⟨some 7, none, .mov (.t 50)⟩,
 ⟨some 8, none, .mov (.t 51)⟩,
 ⟨some 9, none, .mov (.t 52)⟩]) (
 .gh [.keep [1, 2, 3, 7, 8, 9]] (
 .seq (
 .reg none [
 ⟨some 54, none, .load true 2 (.t 3)⟩,
 ⟨some 55, none, .ncall true 10056 36 [(.t 54)]⟩,
 ⟨some 56, none, .mov (.t 1)⟩,
 ⟨some 57, none, .ncall true 10058 20 [(.t 56)]⟩,
 ⟨some 58, none, .ncall true 10059 68 [(.t 55), (.t 57)]⟩,
 ⟨some 53, none, .mov (.t 58)⟩,
 ⟨some 59, none, .ext 0 (.t 53)⟩,
 ⟨some 60, none, .ext 1 (.t 53)⟩,
 ⟨some 61, none, .ext 2 (.t 53)⟩,
 ⟨some 10, none, .mov (.t 59)⟩,
 ⟨some 11, none, .mov (.t 60)⟩,
 ⟨some 12, none, .mov (.t 61)⟩]) (
 .gh [.keep [1, 2, 3, 7, 8, 9, 10, 11, 12]] (
 .seq (
 .reg none [
 ⟨some 63, none, .load true 2 (.t 3)⟩,
 ⟨some 64, none, .ncall true 10065 36 [(.t 63)]⟩,
 ⟨some 65, none, .ncall true 0 69 [(.t 64)]⟩,
 ⟨some 62, none, .mov (.t 65)⟩,
 ⟨some 66, none, .ext 0 (.t 62)⟩,
 ⟨some 67, none, .ext 1 (.t 62)⟩,
 ⟨some 13, none, .mov (.t 66)⟩,
 ⟨some 14, none, .mov (.t 67)⟩]) (
 .gh [.keep [1, 2, 3, 7, 8, 9, 10, 11, 12, 13, 14]] (
 .seq (
 .reg none [
 ⟨some 69, none, .load true 2 (.t 3)⟩,
 ⟨some 70, none, .ncall true 0 39 [(.t 69)]⟩,
 ⟨some 68, none, .mov (.t 70)⟩,
 ⟨some 71, none, .ext 0 (.t 68)⟩,
 ⟨some 72, none, .ext 1 (.t 68)⟩,
 ⟨some 15, none, .mov (.t 71)⟩,
 ⟨some 16, none, .mov (.t 72)⟩]) (
 .gh [.keep [1, 2, 3, 7, 8, 9, 10, 11, 12, 13, 14, 16]] (
 .seq (
 .seq (
 .reg none [
 ⟨some 73, none, .mov (.t 16)⟩,
 ⟨some 74, none, .bin .neq (.t 73) (.c (.int .i64 0))⟩,
 ⟨some 75, none, .mov (.t 74)⟩,
 ⟨some 76, (some (75, true)), .mov (.t 14)⟩,
 ⟨some 77, (some (75, true)), .mov (.t 16)⟩,
 ⟨some 78, (some (75, true)), .bin .neq (.t 76) (.t 77)⟩,
 ⟨some 79, (some (75, true)), .mov (.t 78)⟩,
 ⟨some 80, (some (79, false)), .mov (.t 13)⟩,
 ⟨some 81, (some (79, false)), .bin .neq (.t 80) (.c (.int .i64 0))⟩,
 ⟨some 82, (some (75, true)), .pick (.t 79) (.c (.bool true)) (.t 81)⟩,
 ⟨some 83, none, .pick (.t 75) (.t 82) (.c (.bool false))⟩]) (
 .gh [.keep [1, 2, 3, 7, 8, 9, 10, 11, 12, 13, 14, 16, 83]] (
 .cond (.t 83) (
 .seq (
 .reg none [
 ⟨some 6, none, .mov (.c (.bool false))⟩]) (
 .ret)) (
 .skip)))) (
 .seq (
 .seq (
 .reg none [
 ⟨some 84, none, .mov (.t 16)⟩,
 ⟨some 85, none, .bin .eql (.t 84) (.c (.int .i64 0))⟩]) (
 .cond (.t 85) (
 .seq (
 .reg none [
 ⟨some 17, none, .mov (.c (.int .i64 (-1)))⟩]) (
 .seq (
 .seq (
 .reg none [
 ⟨some 86, none, .faddr 0 (.t 3)⟩,
 ⟨some 87, none, .load false 1 (.t 86)⟩,
 ⟨some 88, none, .bin .leq (.t 87) (.c (.int .i64 14))⟩]) (
 .cond (.t 88) (
 .reg none [
 ⟨some 89, none, .load true 2 (.t 3)⟩,
 ⟨some 90, none, .ncall true 0 70 [(.t 89)]⟩,
 ⟨some 17, none, .mov (.t 90)⟩]) (
 .skip))) (
 .seq (
 .reg none [
 ⟨some 91, none, .faddr 0 (.t 3)⟩,
 ⟨some 92, none, .load false 1 (.t 91)⟩,
 ⟨some 93, none, .bin .gtr (.t 92) (.c (.int .i64 14))⟩,
 ⟨some 94, none, .mov (.t 93)⟩,
 ⟨some 95, (some (94, true)), .mov (.t 14)⟩,
 ⟨some 96, (some (94, true)), .bin .neq (.t 95) (.c (.int .i64 8))⟩,
 ⟨some 97, (some (94, true)), .mov (.t 96)⟩,
 ⟨some 98, (some (97, false)), .mov (.t 13)⟩,
 ⟨some 99, (some (97, false)), .bin .neq (.t 98) (.c (.int .i64 0))⟩,
 ⟨some 100, (some (94, true)), .pick (.t 97) (.c (.bool true)) (.t 99)⟩,
 ⟨some 101, none, .pick (.t 94) (.t 100) (.c (.bool false))⟩,
 ⟨some 102, none, .mov (.t 101)⟩,
 ⟨some 103, (some (102, false)), .faddr 0 (.t 3)⟩,
 ⟨some 104, (some (102, false)), .load false 1 (.t 103)⟩,
 ⟨some 105, (some (102, false)), .bin .leq (.t 104) (.c (.int .i64 14))⟩,
 ⟨some 106, (some (102, false)), .mov (.t 105)⟩,
 ⟨some 107, (some (106, true)), .mov (.t 17)⟩,
 ⟨some 108, (some (106, true)), .bin .lss (.t 107) (.c (.int .i64 0))⟩,
 ⟨some 109, (some (102, false)), .pick (.t 106) (.t 108) (.c (.bool false))⟩,
 ⟨some 110, (some (102, false)), .mov (.t 109)⟩,
 ⟨some 111, (some (110, true)), .mov (.t 14)⟩,
 ⟨some 112, (some (110, true)), .bin .neq (.t 111) (.c (.int .i64 12))⟩,
 ⟨some 113, (some (110, true)), .mov (.t 112)⟩,
 ⟨some 114, (some (113, false)), .mov (.t 13)⟩,
 ⟨some 115, (some (113, false)), .bin .neq (.t 114) (.c (.int .i64 0))⟩,
 ⟨some 116, (some (110, true)), .pick (.t 113) (.c (.bool true)) (.t 115)⟩,
 ⟨some 117, (some (102, false)), .pick (.t 110) (.t 116) (.c (.bool false))⟩,
 ⟨some 118, none, .pick (.t 102) (.c (.bool true)) (.t 117)⟩,
 ⟨some 119, none, .mov (.t 118)⟩,
 ⟨some 120, (some (119, false)), .mov (.t 17)⟩,
 ⟨some 121, (some (119, false)), .bin .geq (.t 120) (.c (.int .i64 0))⟩,
 ⟨some 122, (some (119, false)), .mov (.t 121)⟩,
 ⟨some 123, (some (122, true)), .mov (.t 14)⟩,
 ⟨some 124, (some (122, true)), .bin .neq (.t 123) (.c (.int .i64 0))⟩,
 ⟨some 125, (some (122, true)), .mov (.t 124)⟩,
 ⟨some 126, (some (125, false)), .mov (.t 13)⟩,
 ⟨some 127, (some (125, false)), .mov (.t 17)⟩,
 ⟨some 128, (some (125, false)), .bin .neq (.t 126) (.t 127)⟩,
 ⟨some 129, (some (122, true)), .pick (.t 125) (.c (.bool true)) (.t 128)⟩,
 ⟨some 130, (some (119, false)), .pick (.t 122) (.t 129) (.c (.bool false))⟩,
 ⟨some 131, none, .pick (.t 119) (.c (.bool true)) (.t 130)⟩]) (
 .gh [.keep [1, 2, 3, 7, 8, 9, 10, 11, 12, 131]] (
 .cond (.t 131) (
 .seq (
 .reg none [
 ⟨some 6, none, .mov (.c (.bool false))⟩]) (
 .ret)) (
 .skip)))))) (
 .skip))) (
 .seq (
 .seq (
 .reg none [
 ⟨some 132, none, .load true 2 (.t 3)⟩,
 ⟨some 133, none, .mov (.t 1)⟩,
 ⟨some 134, none, .ncall true 0 40 [(.t 132), (.t 133)]⟩,
 ⟨some 16, none, .mov (.t 134)⟩]) (
 .seq (
 .reg none [
 ⟨some 135, none, .mov (.t 16)⟩,
 ⟨some 136, none, .bin .neq (.t 135) (.c (.int .i64 0))⟩]) (
 .cond (.t 136) (
 .seq (
 .reg none [
 ⟨some 137, none, .mov (.t 9)⟩,
 ⟨some 138, none, .mov (.t 16)⟩,
 ⟨some 139, none, .bin .eql (.t 137) (.t 138)⟩,
 ⟨some 140, none, .mov (.t 139)⟩,
 ⟨some 141, (some (140, true)), .mov (.t 12)⟩,
 ⟨some 142, (some (140, true)), .mov (.t 16)⟩,
 ⟨some 143, (some (140, true)), .bin .eql (.t 141) (.t 142)⟩,
 ⟨some 144, none, .pick (.t 140) (.t 143) (.c (.bool false))⟩,
 ⟨some 145, none, .mov (.t 144)⟩,
 ⟨some 146, (some (145, true)), .mov (.t 7)⟩,
 ⟨some 147, (some (145, true)), .len (.t 146)⟩,
 ⟨some 148, (some (145, true)), .mov (.t 10)⟩,
 ⟨some 149, (some (145, true)), .len (.t 148)⟩,
 ⟨some 150, (some (145, true)), .bin .add (.t 147) (.t 149)⟩,
 ⟨some 151, (some (145, true)), .bin .eql (.t 150) (.c (.int .i64 0))⟩,
 ⟨some 152, none, .pick (.t 145) (.t 151) (.c (.bool false))⟩,
 ⟨some 153, none, .mov (.t 152)⟩,
 ⟨some 154, (some (153, true)), .mov (.t 8)⟩,
 ⟨some 155, (some (153, true)), .bin .eql (.t 154) (.c (.int .i64 0))⟩,
 ⟨some 156, none, .pick (.t 153) (.t 155) (.c (.bool false))⟩,
 ⟨some 157, none, .mov (.t 156)⟩,
 ⟨some 158, (some (157, true)), .mov (.t 11)⟩,
 ⟨some 159, (some (157, true)), .bin .eql (.t 158) (.c (.int .i64 0))⟩,
 ⟨some 160, none, .pick (.t 157) (.t 159) (.c (.bool false))⟩,
 ⟨some 6, none, .mov (.t 160)⟩]) (
 .gh [.keep [6]] (
 .ret))) (
 .skip)))) (
 .seq (
 .seq (
 .reg none [
 ⟨some 161, none, .faddr 0 (.t 3)⟩,
 ⟨some 162, none, .load false 1 (.t 161)⟩,
 ⟨some 163, none, .bin .gtr (.t 162) (.c (.int .i64 14))⟩]) (
 .cond (.t 163) (
 .seq (
 .reg none [
 ⟨some 164, none, .mov (.t 12)⟩,
 ⟨some 165, none, .bin .neq (.t 164) (.c (.int .i64 8))⟩,
 ⟨some 166, none, .mov (.t 165)⟩,
 ⟨some 167, (some (166, false)), .mov (.t 10)⟩,
 ⟨some 168, (some (166, false)), .len (.t 167)⟩,
 ⟨some 169, (some (166, false)), .bin .neq (.t 168) (.c (.int .i64 0))⟩,
 ⟨some 170, none, .pick (.t 166) (.c (.bool true)) (.t 169)⟩,
 ⟨some 171, none, .mov (.t 170)⟩,
 ⟨some 172, (some (171, false)), .mov (.t 11)⟩,
 ⟨some 173, (some (171, false)), .bin .neq (.t 172) (.c (.int .i64 0))⟩,
 ⟨some 174, none, .pick (.t 171) (.c (.bool true)) (.t 173)⟩]) (
 .gh [.keep [1, 2, 3, 7, 8, 9, 174]] (
 .cond (.t 174) (
 .seq (
 .reg none [
 ⟨some 6, none, .mov (.c (.bool false))⟩]) (
 .ret)) (
 .skip)))) (
 .seq (
 .reg none [
 ⟨some 176, none, .load true 2 (.t 3)⟩,
 ⟨some 177, none, .mov (.t 1)⟩,
 ⟨some 178, none, .ncall true 10179 71 [(.t 176), (.t 177)]⟩,
 ⟨some 175, none, .mov (.t 178)⟩,
 ⟨some 179, none, .ext 0 (.t 175)⟩,
 ⟨some 180, none, .ext 1 (.t 175)⟩,
 ⟨some 18, none, .mov (.t 179)⟩,
 ⟨some 19, none, .mov (.t 180)⟩]) (
 .gh [.keep [1, 2, 3, 7, 8, 9, 10, 11, 12, 18, 19]] (
 .seq (
 .reg none [
 ⟨some 181, none, .mov (.t 12)⟩,
 ⟨some 182, none, .bin .neq (.t 181) (.c (.int .i64 0))⟩,
 ⟨some 183, none, .mov (.t 182)⟩,
 ⟨some 184, (some (183, false)), .mov (.t 10)⟩,
 ⟨some 185, (some (183, false)), .mov (.t 18)⟩,
 ⟨some 186, (some (183, false)), .ncall true 0 23 [(.t 184), (.t 185)]⟩,
 ⟨some 187, (some (183, false)), .not (.t 186)⟩,
 ⟨some 188, none, .pick (.t 183) (.c (.bool true)) (.t 187)⟩,
 ⟨some 189, none, .mov (.t 188)⟩,
 ⟨some 190, (some (189, false)), .mov (.t 11)⟩,
 ⟨some 191, (some (189, false)), .mov (.t 19)⟩,
 ⟨some 192, (some (189, false)), .bin .neq (.t 190) (.t 191)⟩,
 ⟨some 193, none, .pick (.t 189) (.c (.bool true)) (.t 192)⟩]) (
 .gh [.keep [1, 2, 3, 7, 8, 9, 193]] (
 .cond (.t 193) (
 .seq (
 .reg none [
 ⟨some 6, none, .mov (.c (.bool false))⟩]) (
 .ret)) (
 .skip)))))))) (
 .seq (
 .seq (
 .reg none [
 ⟨some 194, none, .mov (.t 2)⟩,
 ⟨some 195, none, .ncall true 0 45 [(.t 194), (.c (.int .i64 0)), (.c (.int .i64 30))]⟩,
 ⟨some 196, none, .not (.t 195)⟩]) (
 .cond (.t 196) (
 .seq (
 .reg none [
 ⟨some 197, none, .mov (.t 9)⟩,
 ⟨some 198, none, .bin .eql (.t 197) (.c (.int .i64 2))⟩,
 ⟨some 199, none, .mov (.t 198)⟩,
 ⟨some 200, (some (199, true)), .mov (.t 7)⟩,
 ⟨some 201, (some (199, true)), .len (.t 200)⟩,
 ⟨some 202, (some (199, true)), .bin .eql (.t 201) (.c (.int .i64 0))⟩,
 ⟨some 203, none, .pick (.t 199) (.t 202) (.c (.bool false))⟩,
 ⟨some 204, none, .mov (.t 203)⟩,
 ⟨some 205, (some (204, true)), .mov (.t 8)⟩,
 ⟨some 206, (some (204, true)), .bin .eql (.t 205) (.c (.int .i64 0))⟩,
 ⟨some 207, none, .pick (.t 204) (.t 206) (.c (.bool false))⟩,
 ⟨some 6, none, .mov (.t 207)⟩]) (
 .gh [.keep [6]] (
 .ret))) (
 .skip))) (
 .seq (
 .seq (
 .reg none [
 ⟨some 209, none, .load true 2 (.t 3)⟩,
 ⟨some 210, none, .mov (.t 1)⟩,
 ⟨some 211, none, .mov (.t 2)⟩,
 ⟨some 212, none, .ncall true 10213 72 [(.t 209), (.t 210), (.t 211)]⟩,
 ⟨some 208, none, .mov (.t 212)⟩,
 ⟨some 213, none, .ext 0 (.t 208)⟩,
 ⟨some 214, none, .ext 1 (.t 208)⟩,
 ⟨some 215, none, .ext 2 (.t 208)⟩,
 ⟨some 20, none, .mov (.t 213)⟩,
 ⟨some 21, none, .mov (.t 214)⟩,
 ⟨some 22, none, .mov (.t 215)⟩]) (
 .gh [.keep [7, 8, 9, 20, 21, 22]] (
 .seq (
 .reg none [
 ⟨some 216, none, .mov (.t 22)⟩]) (
 .cond (.t 216) (
 .seq (
 .reg none [
 ⟨some 217, none, .mov (.t 9)⟩,
 ⟨some 218, none, .bin .eql (.t 217) (.c (.int .i64 0))⟩,
 ⟨some 219, none, .mov (.t 218)⟩,
 ⟨some 220, (some (219, true)), .mov (.t 7)⟩,
 ⟨some 221, (some (219, true)), .mov (.t 20)⟩,
 ⟨some 222, (some (219, true)), .ncall true 0 23 [(.t 220), (.t 221)]⟩,
 ⟨some 223, none, .pick (.t 219) (.t 222) (.c (.bool false))⟩,
 ⟨some 224, none, .mov (.t 223)⟩,
 ⟨some 225, (some (224, true)), .mov (.t 8)⟩,
 ⟨some 226, (some (224, true)), .mov (.t 21)⟩,
 ⟨some 227, (some (224, true)), .bin .eql (.t 225) (.t 226)⟩,
 ⟨some 228, none, .pick (.t 224) (.t 227) (.c (.bool false))⟩,
 ⟨some 6, none, .mov (.t 228)⟩]) (
 .gh [.keep [6]] (
 .ret))) (
 .skip))))) (
 .seq (
 .reg none [
 ⟨some 229, none, .mov (.t 9)⟩,
 ⟨some 230, none, .bin .eql (.t 229) (.c (.int .i64 27))⟩,
 ⟨some 231, none, .mov (.t 230)⟩,
 ⟨some 232, (some (231, true)), .mov (.t 7)⟩,
 ⟨some 233, (some (231, true)), .len (.t 232)⟩,
 ⟨some 234, (some (231, true)), .bin .eql (.t 233) (.c (.int .i64 0))⟩,
 ⟨some 235, none, .pick (.t 231) (.t 234) (.c (.bool false))⟩,
 ⟨some 236, none, .mov (.t 235)⟩,
 ⟨some 237, (some (236, true)), .mov (.t 8)⟩,
 ⟨some 238, (some (236, true)), .bin .eql (.t 237) (.c (.int .i64 0))⟩,
 ⟨some 239, none, .pick (.t 236) (.t 238) (.c (.bool false))⟩,
 ⟨some 6, none, .mov (.t 239)⟩]) (
 .gh [.keep [6]] (
 .ret)))))))))))))))))))
def a10 : AFunc := ⟨240, c10, [.tmp 6]⟩
/-! 11 cassegrain/cassegrainlaw05.CodeStrings params [25, 9] nfree 0 ntmps 81 -/
def c11 : ACode :=
 .seq (
 .reg none [
 ⟨some 4, none, .mov (.c (.bool false))⟩]) (
 .seq (
 .seq (
 .reg none [
 ⟨some 12, none, .ncall true 0 18 []⟩,
 ⟨some 13, none, .not (.t 12)⟩]) (
 .cond (.t 13) (
 .seq (
 .reg none [
 ⟨some 4, none, .mov (.c (.bool false))⟩]) (
 .ret)) (
 .skip))) (
 .seq (
 .seq (
 .reg none [
 ⟨some 14, none, .mov (.t 0)⟩,
 ⟨some 15, none, .len (.t 14)⟩,
 ⟨some 16, none, .ncall true 0 50 [(.t 15), (.c (.int .i64 400))]⟩,
 ⟨some 17, none, .not (.t 16)⟩,
 ⟨some 18, none, .mov (.t 17)⟩,
 ⟨some 19, (some (18, false)), .mov (.t 1)⟩,
 ⟨some 20, (some (18, false)), .slen (.t 19)⟩,
 ⟨some 21, (some (18, false)), .bin .gtr (.t 20) (.c (.int .i64 60))⟩,
 ⟨some 22, (some (18, false)), .mov (.t 21)⟩,
 ⟨some 23, (some (22, true)), .mov (.t 1)⟩,
 ⟨some 24, (some (22, true)), .slen (.t 23)⟩,
 ⟨some 25, (some (22, true)), .bin .leq (.t 24) (.c (.int .i64 400))⟩,
 ⟨some 26, (some (18, false)), .pick (.t 22) (.t 25) (.c (.bool false))⟩,
 ⟨some 27, none, .pick (.t 18) (.c (.bool true)) (.t 26)⟩,
 ⟨some 28, none, .mov (.t 27)⟩,
 ⟨some 29, (some (28, false)), .mov (.t 1)⟩,
 ⟨some 30, (some (28, false)), .slen (.t 29)⟩,
 ⟨some 31, (some (28, false)), .bin .gtr (.t 30) (.c (.int .i64 402))⟩,
 ⟨some 32, none, .pick (.t 28) (.c (.bool true)) (.t 31)⟩]) (
 .gh [.keep [0, 1, 32]] (
 .cond (.t 32) (
 .seq (
 .reg none [
 ⟨some 4, none, .mov (.c (.bool true))⟩]) (
 .ret)) (
 .skip)))) (
 .seq (
 .reg none [
 ⟨some 33, none, .mov (.t 0)⟩,
 ⟨some 34, none, .ncall true 11035 20 [(.t 33)]⟩,
 ⟨some 35, none, .ncall true 0 73 [(.t 34)]⟩,
 ⟨some 5, none, .mov (.t 35)⟩]) (
 .seq (
 .reg none [
 ⟨some 37, none, .mov (.t 1)⟩,
 ⟨some 38, none, .ncall true 11039 74 [(.t 37)]⟩,
 ⟨some 36, none, .mov (.t 38)⟩,
 ⟨some 39, none, .ext 0 (.t 36)⟩,
 ⟨some 40, none, .ext 1 (.t 36)⟩,
 ⟨some 6, none, .mov (.t 39)⟩,
 ⟨some 7, none, .mov (.t 40)⟩]) (
 .seq (
 .reg none [
 ⟨some 42, none, .mov (.t 1)⟩,
 ⟨some 43, none, .ncall true 11044 75 [(.t 42)]⟩,
 ⟨some 41, none, .mov (.t 43)⟩,
 ⟨some 44, none, .ext 0 (.t 41)⟩,
 ⟨some 45, none, .ext 1 (.t 41)⟩,
 ⟨some 8, none, .mov (.t 44)⟩,
 ⟨some 9, none, .mov (.t 45)⟩]) (
 .seq (
 .seq (
 .reg none [
 ⟨some 46, none, .mov (.t 5)⟩,
 ⟨some 47, none, .mov (.t 0)⟩,
 ⟨some 48, none, .ncall true 0 76 [(.t 47)]⟩,
 ⟨some 49, none, .bin .neq (.t 46) (.t 48)⟩,
 ⟨some 50, none, .mov (.t 49)⟩,
 ⟨some 51, (some (50, false)), .mov (.t 7)⟩,
 ⟨some 52, (some (50, false)), .mov (.t 9)⟩,
 ⟨some 53, (some (50, false)), .bin .neq (.t 51) (.t 52)⟩,
 ⟨some 54, none, .pick (.t 50) (.c (.bool true)) (.t 53)⟩,
 ⟨some 55, none, .mov (.t 54)⟩,
 ⟨some 56, (some (55, false)), .mov (.t 6)⟩,
 ⟨some 57, (some (55, false)), .mov (.t 8)⟩,
 ⟨some 58, (some (55, false)), .ncall true 0 23 [(.t 56), (.t 57)]⟩,
 ⟨some 59, (some (55, false)), .not (.t 58)⟩,
 ⟨some 60, none, .pick (.t 55) (.c (.bool true)) (.t 59)⟩]) (
 .gh [.keep [0, 5, 60]] (
 .cond (.t 60) (
 .seq (
 .reg none [
 ⟨some 4, none, .mov (.c (.bool false))⟩]) (
 .ret)) (
 .skip)))) (
 .seq (
 .seq (
 .reg none [
 ⟨some 61, none, .mov (.t 0)⟩,
 ⟨some 62, none, .ncall true 0 32 [(.t 61)]⟩,
 ⟨some 63, none, .bin .neq (.t 62) (.c (.int .i64 0))⟩,
 ⟨some 64, none, .mov (.t 63)⟩,
 ⟨some 65, (some (64, false)), .mov (.t 0)⟩,
 ⟨some 66, (some (64, false)), .len (.t 65)⟩,
 ⟨some 67, (some (64, false)), .bin .gtr (.t 66) (.c (.int .i64 400))⟩,
 ⟨some 68, none, .pick (.t 64) (.c (.bool true)) (.t 67)⟩]) (
 .gh [.keep [0, 5, 68]] (
 .cond (.t 68) (
 .seq (
 .reg none [
 ⟨some 4, none, .mov (.c (.bool true))⟩]) (
 .ret)) (
 .skip)))) (
 .seq (
 .reg none [
 ⟨some 70, none, .mov (.t 5)⟩,
 ⟨some 71, none, .ncall true 11072 74 [(.t 70)]⟩,
 ⟨some 69, none, .mov (.t 71)⟩,
 ⟨some 72, none, .ext 0 (.t 69)⟩,
 ⟨some 73, none, .ext 1 (.t 69)⟩,
 ⟨some 10, none, .mov (.t 72)⟩,
 ⟨some 11, none, .mov (.t 73)⟩]) (
 .seq (
 .reg none [
 ⟨some 74, none, .mov (.t 11)⟩,
 ⟨some 75, none, .bin .eql (.t 74) (.c (.int .i64 0))⟩,
 ⟨some 76, none, .mov (.t 75)⟩,
 ⟨some 77, (some (76, true)), .mov (.t 10)⟩,
 ⟨some 78, (some (76, true)), .mov (.t 0)⟩,
 ⟨some 79, (some (76, true)), .ncall true 0 23 [(.t 77), (.t 78)]⟩,
 ⟨some 80, none, .pick (.t 76) (.t 79) (.c (.bool false))⟩,
 ⟨some 4, none, .mov (.t 80)⟩]) (
 .gh [.keep [4]] (
 .ret)))))))))))
def a11 : AFunc := ⟨81, c11, [.tmp 4]⟩
/-! 12 cassegrain/cassegrainlaw05.CodeFixed params [48, 25, 25] nfree 0 ntmps 231 -/
def l12_0 : ACode :=
 .seq (
 .seq (
 .reg none [
 ⟨some 172, none, .mov (.t 22)⟩,
 ⟨some 173, none, .faddr 0 (.t 3)⟩,
 ⟨some 174, none, .load false 1 (.t 173)⟩,
 ⟨some 175, none, .bin .lss (.t 172) (.t 174)⟩]) (
 .cond (.t 175) (
 .skip) (
 .exit 0))) (
 .seq (
 .block 1 (
 .seq (
 .reg none [
 ⟨some 178, none, .mov (.t 2)⟩,
 ⟨some 179, none, .mov (.t 22)⟩,
 ⟨some 180, none, .ncall true 0 49 [(.t 178), (.t 179)]⟩]) (
 .cond (.t 180) (
 .reg none [
 ⟨some 181, none, .mov (.t 21)⟩,
 ⟨some 182, none, .mov (.t 22)⟩,
 ⟨some 183, none, .mov (.t 21)⟩,
 ⟨some 184, none, .mov (.t 22)⟩,
 ⟨some 185, none, .iaddr 1 (.t 183) (.t 184)⟩,
 ⟨some 186, none, .load false 1 (.t 185)⟩,
 ⟨some 187, none, .bin .sub (.c (.int .i64 1)) (.t 186)⟩,
 ⟨some 188, none, .iaddr 1 (.t 181) (.t 182)⟩,
 ⟨none, none, .store 1 (.t 188) (.t 187)⟩]) (
 .skip)))) (
 .reg none [
 ⟨some 176, none, .mov (.t 22)⟩,
 ⟨some 177, none, .bin .add (.t 176) (.c (.int .i64 1))⟩,
 ⟨some 22, none, .mov (.t 177)⟩]))
def b12_0 : ACode := .gh [.keep [2, 3, 7, 19, 20, 21, 22]] (.gh [] l12_0)
def k12_0 : List AItem := .inLoop b12_0 :: [.inBlock 0,
 .code (.seq (
 .reg none [
 ⟨some 189, none, .mov (.t 21)⟩,
 ⟨some 190, none, .mov (.t 7)⟩,
 ⟨some 191, none, .ncall true 0 77 [(.t 189), (.t 190)]⟩,
 ⟨some 23, none, .mov (.t 191)⟩]) (
 .seq (
 .seq (
 .reg none [
 ⟨some 192, none, .mov (.t 20)⟩,
 ⟨some 193, none, .bin .eql (.t 192) (.c (.int .i64 0))⟩,
 ⟨some 194, none, .mov (.t 193)⟩,
 ⟨some 195, (some (194, true)), .mov (.t 19)⟩,
 ⟨some 196, (some (194, true)), .faddr 0 (.t 3)⟩,
 ⟨some 197, (some (194, true)), .load false 1 (.t 196)⟩,
 ⟨some 198, (some (194, true)), .ncall true 0 45 [(.t 195), (.c (.int .i64 1)), (.t 197)]⟩,
 ⟨some 199, (some (194, true)), .not (.t 198)⟩,
 ⟨some 200, (some (194, true)), .mov (.t 199)⟩,
 ⟨some 201, (some (200, false)), .mov (.t 23)⟩,
 ⟨some 202, (some (200, false)), .bin .mul (.c (.int .i64 2)) (.t 201)⟩,
 ⟨some 203, (some (200, false)), .mov (.t 19)⟩,
 ⟨some 204, (some (200, false)), .bin .geq (.t 202) (.t 203)⟩,
 ⟨some 205, (some (194, true)), .pick (.t 200) (.c (.bool true)) (.t 204)⟩,
 ⟨some 206, none, .pick (.t 194) (.t 205) (.c (.bool false))⟩]) (
 .gh [.keep [3, 7, 19, 21, 23, 206]] (
 .cond (.t 206) (
 .seq (
 .reg none [
 ⟨some 207, none, .mov (.t 19)⟩,
 ⟨some 208, none, .faddr 0 (.t 3)⟩,
 ⟨some 209, none, .load false 1 (.t 208)⟩,
 ⟨some 210, none, .ncall true 0 45 [(.t 207), (.c (.int .i64 1)), (.t 209)]⟩,
 ⟨some 6, none, .mov (.t 210)⟩]) (
 .ret)) (
 .skip)))) (
 .seq (
 .reg none [
 ⟨some 212, none, .load true 2 (.t 3)⟩,
 ⟨some 213, none, .ncall true 12214 36 [(.t 212)]⟩,
 ⟨some 214, none, .mov (.t 21)⟩,
 ⟨some 215, none, .ncall true 12216 68 [(.t 213), (.t 214)]⟩,
 ⟨some 211, none, .mov (.t 215)⟩,
 ⟨some 216, none, .ext 0 (.t 211)⟩,
 ⟨some 217, none, .ext 1 (.t 211)⟩,
 ⟨some 218, none, .ext 2 (.t 211)⟩,
 ⟨some 24, none, .mov (.t 216)⟩,
 ⟨some 25, none, .mov (.t 217)⟩,
 ⟨some 26, none, .mov (.t 218)⟩]) (
 .gh [.keep [7, 23, 24, 25, 26]] (
 .seq (
 .reg none [
 ⟨some 219, none, .mov (.t 26)⟩,
 ⟨some 220, none, .bin .eql (.t 219) (.c (.int .i64 0))⟩,
 ⟨some 221, none, .mov (.t 220)⟩,
 ⟨some 222, (some (221, true)), .mov (.t 24)⟩,
 ⟨some 223, (some (221, true)), .mov (.t 7)⟩,
 ⟨some 224, (some (221, true)), .ncall true 0 23 [(.t 222), (.t 223)]⟩,
 ⟨some 225, none, .pick (.t 221) (.t 224) (.c (.bool false))⟩,
 ⟨some 226, none, .mov (.t 225)⟩,
 ⟨some 227, (some (226, true)), .mov (.t 25)⟩,
 ⟨some 228, (some (226, true)), .mov (.t 23)⟩,
 ⟨some 229, (some (226, true)), .bin .eql (.t 227) (.t 228)⟩,
 ⟨some 230, none, .pick (.t 226) (.t 229) (.c (.bool false))⟩,
 ⟨some 6, none, .mov (.t 230)⟩]) (
 .gh [.keep [6]] (
 .ret)))))))]
def c12 : ACode :=
 .seq (
 .reg none [
 ⟨some 3, none, .box 12004 48 (.t 0)⟩,
 ⟨some 6, none, .mov (.c (.bool false))⟩]) (
 .seq (
 .seq (
 .reg none [
 ⟨some 27, none, .ncall true 0 18 []⟩,
 ⟨some 28, none, .not (.t 27)⟩]) (
 .cond (.t 28) (
 .seq (
 .reg none [
 ⟨some 6, none, .mov (.c (.bool false))⟩]) (
 .ret)) (
 .skip))) (
 .seq (
 .seq (
 .reg none [
 ⟨some 29, none, .load true 2 (.t 3)⟩,
 ⟨some 30, none, .ncall true 0 34 [(.t 29)]⟩,
 ⟨some 31, none, .not (.t 30)⟩,
 ⟨some 32, none, .mov (.t 31)⟩,
 ⟨some 33, (some (32, false)), .faddr 0 (.t 3)⟩,
 ⟨some 34, (some (32, false)), .load false 1 (.t 33)⟩,
 ⟨some 35, (some (32, false)), .bin .gtr (.t 34) (.c (.int .i64 10))⟩,
 ⟨some 36, none, .pick (.t 32) (.c (.bool true)) (.t 35)⟩,
 ⟨some 37, none, .mov (.t 36)⟩,
 ⟨some 38, (some (37, false)), .load true 2 (.t 3)⟩,
 ⟨some 39, (some (37, false)), .mov (.t 1)⟩,
 ⟨some 40, (some (37, false)), .ncall true 0 40 [(.t 38), (.t 39)]⟩,
 ⟨some 41, (some (37, false)), .bin .neq (.t 40) (.c (.int .i64 0))⟩,
 ⟨some 42, none, .pick (.t 37) (.c (.bool true)) (.t 41)⟩,
 ⟨some 43, none, .mov (.t 42)⟩,
 ⟨some 44, (some (43, false)), .mov (.t 2)⟩,
 ⟨some 45, (some (43, false)), .len (.t 44)⟩,
 ⟨some 46, (some (43, false)), .bin .gtr (.t 45) (.c (.int .i64 10))⟩,
 ⟨some 47, none, .pick (.t 43) (.c (.bool true)) (.t 46)⟩]) (
 .gh [.keep [1, 2, 3, 47]] (
 .cond (.t 47) (
 .seq (
 .reg none [
 ⟨some 6, none, .mov (.c (.bool true))⟩]) (
 .ret)) (
 .skip)))) (
 .seq (
 .reg none [
 ⟨some 49, none, .load true 2 (.t 3)⟩,
 ⟨some 50, none, .ncall true 12051 36 [(.t 49)]⟩,
 ⟨some 51, none, .mov (.t 1)⟩,
 ⟨some 52, none, .ncall true 12053 20 [(.t 51)]⟩,
 ⟨some 53, none, .ncall true 12054 68 [(.t 50), (.t 52)]⟩,
 ⟨some 48, none, .mov (.t 53)⟩,
 ⟨some 54, none, .ext 0 (.t 48)⟩,
 ⟨some 55, none, .ext 1 (.t 48)⟩,
 ⟨some 56, none, .ext 2 (.t 48)⟩,
 ⟨some 7, none, .mov (.t 54)⟩,
 ⟨some 8, none, .mov (.t 55)⟩,
 ⟨some 9, none, .mov (.t 56)⟩]) (
 .gh [.keep [1, 2, 3, 7, 8, 9]] (
 .seq (
 .seq (
 .reg none [
 ⟨some 57, none, .mov (.t 9)⟩,
 ⟨some 58, none, .bin .neq (.t 57) (.c (.int .i64 0))⟩,
 ⟨some 59, none, .mov (.t 58)⟩,
 ⟨some 60, (some (59, false)), .mov (.t 7)⟩,
 ⟨some 61, (some (59, false)), .len (.t 60)⟩,
 ⟨some 62, (some (59, false)), .faddr 0 (.t 3)⟩,
 ⟨some 63, (some (59, false)), .load false 1 (.t 62)⟩,
 ⟨some 64, (some (59, false)), .bin .neq (.t 61) (.t 63)⟩,
 ⟨some 65, none, .pick (.t 59) (.c (.bool true)) (.t 64)⟩,
 ⟨some 66, none, .mov (.t 65)⟩,
 ⟨some 67, (some (66, false)), .mov (.t 7)⟩,
 ⟨some 68, (some (66, false)), .ncall true 0 48 [(.t 67)]⟩,
 ⟨some 69, (some (66, false)), .not (.t 68)⟩,
 ⟨some 70, none, .pick (.t 66) (.c (.bool true)) (.t 69)⟩,
 ⟨some 71, none, .mov (.t 70)⟩,
 ⟨some 72, (some (71, false)), .mov (.t 7)⟩,
 ⟨some 73, (some (71, false)), .mov (.t 1)⟩,
 ⟨some 74, (some (71, false)), .ncall true 0 77 [(.t 72), (.t 73)]⟩,
 ⟨some 75, (some (71, false)), .mov (.t 8)⟩,
 ⟨some 76, (some (71, false)), .bin .neq (.t 74) (.t 75)⟩,
 ⟨some 77, none, .pick (.t 71) (.c (.bool true)) (.t 76)⟩]) (
 .gh [.keep [1, 2, 3, 7, 8, 77]] (
 .cond (.t 77) (
 .seq (
 .reg none [
 ⟨some 6, none, .mov (.c (.bool false))⟩]) (
 .ret)) (
 .skip)))) (
 .seq (
 .reg none [
 ⟨some 79, none, .load true 2 (.t 3)⟩,
 ⟨some 80, none, .ncall true 12081 36 [(.t 79)]⟩,
 ⟨some 81, none, .mov (.t 7)⟩,
 ⟨some 82, none, .ncall true 12083 20 [(.t 81)]⟩,
 ⟨some 83, none, .ncall true 12084 37 [(.t 80), (.t 82)]⟩,
 ⟨some 78, none, .mov (.t 83)⟩,
 ⟨some 84, none, .ext 0 (.t 78)⟩,
 ⟨some 85, none, .ext 1 (.t 78)⟩,
 ⟨some 10, none, .mov (.t 84)⟩,
 ⟨some 11, none, .mov (.t 85)⟩]) (
 .gh [.keep [1, 2, 3, 7, 8, 10, 11]] (
 .seq (
 .reg none [
 ⟨some 87, none, .load true 2 (.t 3)⟩,
 ⟨some 88, none, .ncall true 12089 36 [(.t 87)]⟩,
 ⟨some 89, none, .mov (.t 7)⟩,
 ⟨some 90, none, .ncall true 12091 20 [(.t 89)]⟩,
 ⟨some 91, none, .ncall true 12092 38 [(.t 88), (.t 90)]⟩,
 ⟨some 86, none, .mov (.t 91)⟩,
 ⟨some 92, none, .ext 0 (.t 86)⟩,
 ⟨some 93, none, .ext 1 (.t 86)⟩,
 ⟨some 12, none, .mov (.t 92)⟩,
 ⟨some 13, none, .mov (.t 93)⟩]) (
 .gh [.keep [1, 2, 3, 7, 8, 10, 11, 12, 13]] (
 .seq (
 .seq (
 .reg none [
 ⟨some 94, none, .mov (.t 11)⟩,
 ⟨some 95, none, .bin .neq (.t 94) (.c (.int .i64 0))⟩,
 ⟨some 96, none, .mov (.t 95)⟩,
 ⟨some 97, (some (96, false)), .mov (.t 10)⟩,
 ⟨some 98, (some (96, false)), .len (.t 97)⟩,
 ⟨some 99, (some (96, false)), .bin .neq (.t 98) (.c (.int .i64 0))⟩,
 ⟨some 100, none, .pick (.t 96) (.c (.bool true)) (.t 99)⟩,
 ⟨some 101, none, .mov (.t 100)⟩,
 ⟨some 102, (some (101, false)), .mov (.t 13)⟩,
 ⟨some 103, (some (101, false)), .bin .neq (.t 102) (.c (.int .i64 0))⟩,
 ⟨some 104, none, .pick (.t 101) (.c (.bool true)) (.t 103)⟩,
 ⟨some 105, none, .mov (.t 104)⟩,
 ⟨some 106, (some (105, false)), .mov (.t 12)⟩,
 ⟨some 107, (some (105, false)), .mov (.t 7)⟩,
 ⟨some 108, (some (105, false)), .ncall true 0 23 [(.t 106), (.t 107)]⟩,
 ⟨some 109, (some (105, false)), .not (.t 108)⟩,
 ⟨some 110, none, .pick (.t 105) (.c (.bool true)) (.t 109)⟩]) (
 .gh [.keep [1, 2, 3, 7, 8, 110]] (
 .cond (.t 110) (
 .seq (
 .reg none [
 ⟨some 6, none, .mov (.c (.bool false))⟩]) (
 .ret)) (
 .skip)))) (
 .seq (
 .reg none [
 ⟨some 112, none, .load true 2 (.t 3)⟩,
 ⟨some 113, none, .ncall true 12114 36 [(.t 112)]⟩,
 ⟨some 114, none, .mov (.t 1)⟩,
 ⟨some 115, none, .ncall true 12116 20 [(.t 114)]⟩,
 ⟨some 116, none, .ncall true 12117 67 [(.t 113), (.t 115), (.c (.int .i64 30))]⟩,
 ⟨some 111, none, .mov (.t 116)⟩,
 ⟨some 117, none, .ext 0 (.t 111)⟩,
 ⟨some 118, none, .ext 1 (.t 111)⟩,
 ⟨some 119, none, .ext 2 (.t 111)⟩,
 ⟨some 14, none, .mov (.t 117)⟩,
 ⟨some 15, none, .mov (.t 118)⟩,
 ⟨some 16, none, .mov (.t 119)⟩]) (
 .gh [.keep [1, 2, 3, 7, 8, 14, 15, 16]] (
 .seq (
 .seq (
 .reg none [
 ⟨some 120, none, .mov (.t 16)⟩,
 ⟨some 121, none, .bin .eql (.t 120) (.c (.int .i64 0))⟩]) (
 .cond (.t 121) (
 .seq (
 .reg none [
 ⟨some 123, none, .load true 2 (.t 3)⟩,
 ⟨some 124, none, .ncall true 12125 36 [(.t 123)]⟩,
 ⟨some 125, none, .mov (.t 14)⟩,
 ⟨some 126, none, .ncall true 12127 20 [(.t 125)]⟩,
 ⟨some 127, none, .ncall true 12128 37 [(.t 124), (.t 126)]⟩,
 ⟨some 122, none, .mov (.t 127)⟩,
 ⟨some 128, none, .ext 0 (.t 122)⟩,
 ⟨some 129, none, .ext 1 (.t 122)⟩,
 ⟨some 17, none, .mov (.t 128)⟩,
 ⟨some 18, none, .mov (.t 129)⟩]) (
 .gh [.keep [1, 2, 3, 7, 8, 14, 15, 17, 18]] (
 .seq (
 .reg none [
 ⟨some 130, none, .mov (.t 18)⟩,
 ⟨some 131, none, .bin .neq (.t 130) (.c (.int .i64 0))⟩,
 ⟨some 132, none, .mov (.t 131)⟩,
 ⟨some 133, (some (132, false)), .mov (.t 17)⟩,
 ⟨some 134, (some (132, false)), .len (.t 133)⟩,
 ⟨some 135, (some (132, false)), .bin .neq (.t 134) (.c (.int .i64 0))⟩,
 ⟨some 136, none, .pick (.t 132) (.c (.bool true)) (.t 135)⟩,
 ⟨some 137, none, .mov (.t 136)⟩,
 ⟨some 138, (some (137, false)), .mov (.t 14)⟩,
 ⟨some 139, (some (137, false)), .len (.t 138)⟩,
 ⟨some 140, (some (137, false)), .faddr 0 (.t 3)⟩,
 ⟨some 141, (some (137, false)), .load false 1 (.t 140)⟩,
 ⟨some 142, (some (137, false)), .bin .neq (.t 139) (.t 141)⟩,
 ⟨some 143, none, .pick (.t 137) (.c (.bool true)) (.t 142)⟩,
 ⟨some 144, none, .mov (.t 143)⟩,
 ⟨some 145, (some (144, false)), .mov (.t 15)⟩,
 ⟨some 146, (some (144, false)), .ncall true 0 45 [(.t 145), (.c (.int .i64 0)), (.c (.int .i64 30))]⟩,
 ⟨some 147, (some (144, false)), .not (.t 146)⟩,
 ⟨some 148, none, .pick (.t 144) (.c (.bool true)) (.t 147)⟩,
 ⟨some 149, none, .mov (.t 148)⟩,
 ⟨some 150, (some (149, false)), .mov (.t 14)⟩,
 ⟨some 151, (some (149, false)), .mov (.t 1)⟩,
 ⟨some 152, (some (149, false)), .ncall true 0 77 [(.t 150), (.t 151)]⟩,
 ⟨some 153, (some (149, false)), .mov (.t 8)⟩,
 ⟨some 154, (some (149, false)), .bin .lss (.t 152) (.t 153)⟩,
 ⟨some 155, none, .pick (.t 149) (.c (.bool true)) (.t 154)⟩]) (
 .gh [.keep [2, 3, 7, 155]] (
 .cond (.t 155) (
 .seq (
 .reg none [
 ⟨some 6, none, .mov (.c (.bool false))⟩]) (
 .ret)) (
 .skip)))))) (
 .seq (
 .reg none [
 ⟨some 156, none, .mov (.t 16)⟩,
 ⟨some 157, none, .bin .neq (.t 156) (.c (.int .i64 27))⟩]) (
 .cond (.t 157) (
 .seq (
 .reg none [
 ⟨some 6, none, .mov (.c (.bool false))⟩]) (
 .ret)) (
 .skip))))) (
 .seq (
 .reg none [
 ⟨some 159, none, .load true 2 (.t 3)⟩,
 ⟨some 160, none, .ncall true 12161 36 [(.t 159)]⟩,
 ⟨some 161, none, .ncall true 0 69 [(.t 160)]⟩,
 ⟨some 158, none, .mov (.t 161)⟩,
 ⟨some 162, none, .ext 0 (.t 158)⟩,
 ⟨some 163, none, .ext 1 (.t 158)⟩,
 ⟨some 19, none, .mov (.t 162)⟩,
 ⟨some 20, none, .mov (.t 163)⟩]) (
 .gh [.keep [2, 3, 7, 19, 20]] (
 .seq (
 .seq (
 .reg none [
 ⟨some 164, none, .mov (.t 20)⟩,
 ⟨some 165, none, .bin .neq (.t 164) (.c (.int .i64 0))⟩,
 ⟨some 166, none, .mov (.t 165)⟩,
 ⟨some 167, (some (166, true)), .mov (.t 20)⟩,
 ⟨some 168, (some (166, true)), .bin .neq (.t 167) (.c (.int .i64 12))⟩,
 ⟨some 169, none, .pick (.t 166) (.t 168) (.c (.bool false))⟩]) (
 .cond (.t 169) (
 .seq (
 .reg none [
 ⟨some 6, none, .mov (.c (.bool false))⟩]) (
 .ret)) (
 .skip))) (
 .seq (
 .reg none [
 ⟨some 170, none, .mov (.t 7)⟩,
 ⟨some 171, none, .ncall true 12172 20 [(.t 170)]⟩,
 ⟨some 21, none, .mov (.t 171)⟩]) (
 .seq (
 .seq (
 .reg none [
 ⟨some 22, none, .mov (.c (.int .i64 0))⟩]) (
 .block 0 (
 .loop b12_0))) (
 .seq (
 .reg none [
 ⟨some 189, none, .mov (.t 21)⟩,
 ⟨some 190, none, .mov (.t 7)⟩,
 ⟨some 191, none, .ncall true 0 77 [(.t 189), (.t 190)]⟩,
 ⟨some 23, none, .mov (.t 191)⟩]) (
 .seq (
 .seq (
 .reg none [
 ⟨some 192, none, .mov (.t 20)⟩,
 ⟨some 193, none, .bin .eql (.t 192) (.c (.int .i64 0))⟩,
 ⟨some 194, none, .mov (.t 193)⟩,
 ⟨some 195, (some (194, true)), .mov (.t 19)⟩,
 ⟨some 196, (some (194, true)), .faddr 0 (.t 3)⟩,
 ⟨some 197, (some (194, true)), .load false 1 (.t 196)⟩,
 ⟨some 198, (some (194, true)), .ncall true 0 45 [(.t 195), (.c (.int .i64 1)), (.t 197)]⟩,
 ⟨some 199, (some (194, true)), .not (.t 198)⟩,
 ⟨some 200, (some (194, true)), .mov (.t 199)⟩,
 ⟨some 201, (some (200, false)), .mov (.t 23)⟩,
 ⟨some 202, (some (200, false)), .bin .mul (.c (.int .i64 2)) (.t 201)⟩,
 ⟨some 203, (some (200, false)), .mov (.t 19)⟩,
 ⟨some 204, (some (200, false)), .bin .geq (.t 202) (.t 203)⟩,
 ⟨some 205, (some (194, true)), .pick (.t 200) (.c (.bool true)) (.t 204)⟩,
 ⟨some 206, none, .pick (.t 194) (.t 205) (.c (.bool false))⟩]) (
 .gh [.keep [3, 7, 19, 21, 23, 206]] (
 .cond (.t 206) (
 .seq (
 .reg none [
 ⟨some 207, none, .mov (.t 19)⟩,
 ⟨some 208, none, .faddr 0 (.t 3)⟩,
 ⟨some 209, none, .load false 1 (.t 208)⟩,
 ⟨some 210, none, .ncall true 0 45 [(.t 207), (.c (.int .i64 1)), (.t 209)]⟩,
 ⟨some 6, none, .mov (.t 210)⟩]) (
 .ret)) (
 .skip)))) (
 .seq (
 .reg none [
 ⟨some 212, none, .load true 2 (.t 3)⟩,
 ⟨some 213, none, .ncall true 12214 36 [(.t 212)]⟩,
 ⟨some 214, none, .mov (.t 21)⟩,
 ⟨some 215, none, .ncall true 12216 68 [(.t 213), (.t 214)]⟩,
 ⟨some 211, none, .mov (.t 215)⟩,
 ⟨some 216, none, .ext 0 (.t 211)⟩,
 ⟨some 217, none, .ext 1 (.t 211)⟩,
 ⟨some 218, none, .ext 2 (.t 211)⟩,
 ⟨some 24, none, .mov (.t 216)⟩,
 ⟨some 25, none, .mov (.t 217)⟩,
 ⟨some 26, none, .mov (.t 218)⟩]) (
 .gh [.keep [7, 23, 24, 25, 26]] (
 .seq (
 .reg none [
 ⟨some 219, none, .mov (.t 26)⟩,
 ⟨some 220, none, .bin .eql (.t 219) (.c (.int .i64 0))⟩,
 ⟨some 221, none, .mov (.t 220)⟩,
 ⟨some 222, (some (221, true)), .mov (.t 24)⟩,
 ⟨some 223, (some (221, true)), .mov (.t 7)⟩,
 ⟨some 224, (some (221, true)), .ncall true 0 23 [(.t 222), (.t 223)]⟩,
 ⟨some 225, none, .pick (.t 221) (.t 224) (.c (.bool false))⟩,
 ⟨some 226, none, .mov (.t 225)⟩,
 ⟨some 227, (some (226, true)), .mov (.t 25)⟩,
 ⟨some 228, (some (226, true)), .mov (.t 23)⟩,
 ⟨some 229, (some (226, true)), .bin .eql (.t 227) (.t 228)⟩,
 ⟨some 230, none, .pick (.t 226) (.t 229) (.c (.bool false))⟩,
 ⟨some 6, none, .mov (.t 230)⟩]) (
 .gh [.keep [6]] (
 .ret)))))))))))))))))))))))))
def a12 : AFunc := ⟨231, c12, [.tmp 6]⟩
/-! 13 cassegrain/cassegrainlaw05.CodeGap params [24, 98, 76] nfree 0 ntmps 187 -/
def l13_0 : ACode :=
 .seq (
 .seq (
 .reg none [
 ⟨some 45, none, .mov (.t 7)⟩,
 ⟨some 46, none, .mov (.t 2)⟩,
 ⟨some 47, none, .len (.t 46)⟩,
 ⟨some 48, none, .bin .lss (.t 45) (.t 47)⟩]) (
 .cond (.t 48) (
 .skip) (
 .exit 0))) (
 .seq (
 .block 1 (
 .seq (
 .reg none [
 ⟨some 51, none, .mov (.t 2)⟩,
 ⟨some 52, none, .mov (.t 7)⟩,
 ⟨some 53, none, .iaddr 1 (.t 51) (.t 52)⟩,
 ⟨some 54, none, .load false 1 (.t 53)⟩,
 ⟨some 55, none, .len (.t 54)⟩,
 ⟨some 56, none, .bin .gtr (.t 55) (.c (.int .i64 10))⟩]) (
 .cond (.t 56) (
 .seq (
 .reg none [
 ⟨some 6, none, .mov (.c (.bool true))⟩]) (
 .ret)) (
 .skip)))) (
 .reg none [
 ⟨some 49, none, .mov (.t 7)⟩,
 ⟨some 50, none, .bin .add (.t 49) (.c (.int .i64 1))⟩,
 ⟨some 7, none, .mov (.t 50)⟩]))
def b13_0 : ACode := .gh [.keep [2, 3, 4, 7]] (.gh [] l13_0)
def k13_0 : List AItem := .inLoop b13_0 :: [.inBlock 0,
 .code (.seq (
 .reg (some [(0, 3)]) [
 ⟨some 58, none, .load true 3 (.t 3)⟩,
 ⟨some 59, none, .faddr 1 (.t 4)⟩,
 ⟨some 60, none, .load false 1 (.t 59)⟩,
 ⟨some 61, none, .ncall true 13062 20 [(.t 60)]⟩,
 ⟨some 62, none, .ncall true 13063 19 [(.t 58), (.t 61)]⟩,
 ⟨some 57, none, .mov (.t 62)⟩,
 ⟨some 63, none, .ext 0 (.t 57)⟩,
 ⟨some 64, none, .ext 1 (.t 57)⟩,
 ⟨some 65, none, .ext 2 (.t 57)⟩,
 ⟨some 8, none, .mov (.t 63)⟩,
 ⟨some 9, none, .mov (.t 64)⟩,
 ⟨some 10, none, .mov (.t 65)⟩]) (
 .gh [.keep [2, 3, 4, 8, 9, 10]] (
 .seq (
 .reg (some [(0, 3)]) [
 ⟨some 67, none, .load true 3 (.t 3)⟩,
 ⟨some 68, none, .faddr 1 (.t 4)⟩,
 ⟨some 69, none, .load false 1 (.t 68)⟩,
 ⟨some 70, none, .ncall true 13071 20 [(.t 69)]⟩,
 ⟨some 71, none, .ncall true 13072 64 [(.t 67), (.t 70)]⟩,
 ⟨some 66, none, .mov (.t 71)⟩,
 ⟨some 72, none, .ext 0 (.t 66)⟩,
 ⟨some 73, none, .ext 1 (.t 66)⟩,
 ⟨some 11, none, .mov (.t 72)⟩,
 ⟨some 12, none, .mov (.t 73)⟩]) (
 .gh [.keep [2, 3, 4, 8, 9, 10, 11, 12]] (
 .seq (
 .seq (
 .reg none [
 ⟨some 74, none, .mov (.t 10)⟩,
 ⟨some 75, none, .bin .neq (.t 74) (.c (.int .i64 0))⟩,
 ⟨some 76, none, .mov (.t 75)⟩,
 ⟨some 77, (some (76, false)), .mov (.t 12)⟩,
 ⟨some 78, (some (76, false)), .bin .neq (.t 77) (.c (.int .i64 0))⟩,
 ⟨some 79, none, .pick (.t 76) (.c (.bool true)) (.t 78)⟩,
 ⟨some 80, none, .mov (.t 79)⟩,
 ⟨some 81, (some (80, false)), .mov (.t 8)⟩,
 ⟨some 82, (some (80, false)), .len (.t 81)⟩,
 ⟨some 83, (some (80, false)), .faddr 1 (.t 4)⟩,
 ⟨some 84, (some (80, false)), .load false 1 (.t 83)⟩,
 ⟨some 85, (some (80, false)), .len (.t 84)⟩,
 ⟨some 86, (some (80, false)), .bin .quo (.t 85) (.c (.int .i64 2))⟩,
 ⟨some 87, (some (80, false)), .faddr 0 (.t 3)⟩,
 ⟨some 88, (some (80, false)), .load false 1 (.t 87)⟩,
 ⟨some 89, (some (80, false)), .bin .sub (.t 86) (.t 88)⟩,
 ⟨some 90, (some (80, false)), .bin .neq (.t 82) (.t 89)⟩,
 ⟨some 91, none, .pick (.t 80) (.c (.bool true)) (.t 90)⟩]) (
 .gh [.keep [2, 3, 4, 8, 9, 11, 91]] (
 .cond (.t 91) (
 .seq (
 .reg none [
 ⟨some 6, none, .mov (.c (.bool false))⟩]) (
 .ret)) (
 .skip)))) (
 .seq (
 .reg (some [(0, 2), (0, 5), (2, 3), (2, 4)]) [
 ⟨some 93, none, .load true 3 (.t 3)⟩,
 ⟨some 94, none, .mov (.t 8)⟩,
 ⟨some 95, none, .ncall true 13096 20 [(.t 94)]⟩,
 ⟨some 96, none, .faddr 1 (.t 4)⟩,
 ⟨some 97, none, .load false 1 (.t 96)⟩,
 ⟨some 98, none, .ncall true 13099 20 [(.t 97)]⟩,
 ⟨some 99, none, .ncall true 0 56 [(.t 93), (.t 95), (.t 98)]⟩,
 ⟨some 92, none, .mov (.t 99)⟩,
 ⟨some 100, none, .ext 0 (.t 92)⟩,
 ⟨some 101, none, .ext 1 (.t 92)⟩,
 ⟨some 13, none, .mov (.t 100)⟩,
 ⟨some 14, none, .mov (.t 101)⟩]) (
 .gh [.keep [2, 3, 4, 8, 9, 11, 13, 14]] (
 .seq (
 .reg (some [(0, 3), (0, 5), (3, 4)]) [
 ⟨some 103, none, .load true 3 (.t 3)⟩,
 ⟨some 104, none, .faddr 1 (.t 4)⟩,
 ⟨some 105, none, .load false 1 (.t 104)⟩,
 ⟨some 106, none, .ncall true 13107 20 [(.t 105)]⟩,
 ⟨some 107, none, .mov (.t 11)⟩,
 ⟨some 108, none, .ncall true 13109 63 [(.t 107)]⟩,
 ⟨some 109, none, .ncall true 0 62 [(.t 103), (.t 106), (.t 108)]⟩,
 ⟨some 102, none, .mov (.t 109)⟩,
 ⟨some 110, none, .ext 0 (.t 102)⟩,
 ⟨some 111, none, .ext 1 (.t 102)⟩,
 ⟨some 15, none, .mov (.t 110)⟩,
 ⟨some 16, none, .mov (.t 111)⟩]) (
 .gh [.keep [2, 3, 4, 8, 9, 13, 14, 15, 16]] (
 .seq (
 .seq (
 .reg none [
 ⟨some 112, none, .mov (.t 14)⟩,
 ⟨some 113, none, .bin .neq (.t 112) (.c (.int .i64 0))⟩,
 ⟨some 114, none, .mov (.t 113)⟩,
 ⟨some 115, (some (114, false)), .mov (.t 13)⟩,
 ⟨some 116, (some (114, false)), .mov (.t 9)⟩,
 ⟨some 117, (some (114, false)), .bin .neq (.t 115) (.t 116)⟩,
 ⟨some 118, none, .pick (.t 114) (.c (.bool true)) (.t 117)⟩,
 ⟨some 119, none, .mov (.t 118)⟩,
 ⟨some 120, (some (119, false)), .mov (.t 16)⟩,
 ⟨some 121, (some (119, false)), .bin .neq (.t 120) (.c (.int .i64 0))⟩,
 ⟨some 122, none, .pick (.t 119) (.c (.bool true)) (.t 121)⟩,
 ⟨some 123, none, .mov (.t 122)⟩,
 ⟨some 124, (some (123, false)), .mov (.t 15)⟩,
 ⟨some 125, (some (123, false)), .mov (.t 9)⟩,
 ⟨some 126, (some (123, false)), .bin .neq (.t 124) (.t 125)⟩,
 ⟨some 127, none, .pick (.t 123) (.c (.bool true)) (.t 126)⟩]) (
 .gh [.keep [2, 3, 4, 8, 9, 127]] (
 .cond (.t 127) (
 .seq (
 .reg none [
 ⟨some 6, none, .mov (.c (.bool false))⟩]) (
 .ret)) (
 .skip)))) (
 .seq (
 .reg (some [(0, 3), (0, 5), (3, 4)]) [
 ⟨some 129, none, .load true 3 (.t 3)⟩,
 ⟨some 130, none, .faddr 1 (.t 4)⟩,
 ⟨some 131, none, .load false 1 (.t 130)⟩,
 ⟨some 132, none, .ncall true 13133 20 [(.t 131)]⟩,
 ⟨some 133, none, .mov (.t 2)⟩,
 ⟨some 134, none, .ncall true 13135 63 [(.t 133)]⟩,
 ⟨some 135, none, .ncall true 0 62 [(.t 129), (.t 132), (.t 134)]⟩,
 ⟨some 128, none, .mov (.t 135)⟩,
 ⟨some 136, none, .ext 0 (.t 128)⟩,
 ⟨some 137, none, .ext 1 (.t 128)⟩,
 ⟨some 17, none, .mov (.t 136)⟩,
 ⟨some 18, none, .mov (.t 137)⟩]) (
 .gh [.keep [3, 4, 8, 9, 17, 18]] (
 .seq (
 .seq (
 .reg none [
 ⟨some 138, none, .mov (.t 18)⟩,
 ⟨some 139, none, .bin .eql (.t 138) (.c (.int .i64 0))⟩,
 ⟨some 140, none, .mov (.t 139)⟩,
 ⟨some 141, (some (140, true)), .mov (.t 9)⟩,
 ⟨some 142, (some (140, true)), .mov (.t 17)⟩,
 ⟨some 143, (some (140, true)), .bin .gtr (.t 141) (.t 142)⟩,
 ⟨some 144, none, .pick (.t 140) (.t 143) (.c (.bool false))⟩]) (
 .gh [.keep [3, 4, 8, 9, 144]] (
 .cond (.t 144) (
 .seq (
 .reg none [
 ⟨some 6, none, .mov (.c (.bool false))⟩]) (
 .ret)) (
 .skip)))) (
 .seq (
 .seq (
 .reg none [
 ⟨some 145, none, .faddr 0 (.t 4)⟩,
 ⟨some 146, none, .load false 1 (.t 145)⟩,
 ⟨some 147, none, .ncall true 0 44 [(.t 146)]⟩,
 ⟨some 148, none, .bin .neq (.t 147) (.c (.int .i64 0))⟩,
 ⟨some 149, none, .mov (.t 148)⟩,
 ⟨some 150, (some (149, false)), .faddr 0 (.t 4)⟩,
 ⟨some 151, (some (149, false)), .load false 1 (.t 150)⟩,
 ⟨some 152, (some (149, false)), .len (.t 151)⟩,
 ⟨some 153, (some (149, false)), .mov (.t 8)⟩,
 ⟨some 154, (some (149, false)), .len (.t 153)⟩,
 ⟨some 155, (some (149, false)), .bin .neq (.t 152) (.t 154)⟩,
 ⟨some 156, none, .pick (.t 149) (.c (.bool true)) (.t 155)⟩]) (
 .gh [.keep [3, 4, 8, 9, 156]] (
 .cond (.t 156) (
 .seq (
 .reg none [
 ⟨some 6, none, .mov (.c (.bool true))⟩]) (
 .ret)) (
 .skip)))) (
 .seq (
 .reg (some [(0, 3), (0, 6), (3, 4), (3, 5)]) [
 ⟨some 158, none, .load true 3 (.t 3)⟩,
 ⟨some 159, none, .faddr 0 (.t 4)⟩,
 ⟨some 160, none, .load false 1 (.t 159)⟩,
 ⟨some 161, none, .ncall true 13162 20 [(.t 160)]⟩,
 ⟨some 162, none, .faddr 1 (.t 4)⟩,
 ⟨some 163, none, .load false 1 (.t 162)⟩,
 ⟨some 164, none, .ncall true 13165 20 [(.t 163)]⟩,
 ⟨some 165, none, .ncall true 0 56 [(.t 158), (.t 161), (.t 164)]⟩,
 ⟨some 157, none, .mov (.t 165)⟩,
 ⟨some 166, none, .ext 0 (.t 157)⟩,
 ⟨some 167, none, .ext 1 (.t 157)⟩,
 ⟨some 19, none, .mov (.t 166)⟩,
 ⟨some 20, none, .mov (.t 167)⟩]) (
 .gh [.keep [4, 8, 9, 19, 20]] (
 .seq (
 .reg none [
 ⟨some 168, none, .mov (.t 20)⟩,
 ⟨some 169, none, .bin .eql (.t 168) (.c (.int .i64 0))⟩,
 ⟨some 170, none, .mov (.t 169)⟩,
 ⟨some 171, (some (170, true)), .mov (.t 19)⟩,
 ⟨some 172, (some (170, true)), .mov (.t 9)⟩,
 ⟨some 173, (some (170, true)), .bin .leq (.t 171) (.t 172)⟩,
 ⟨some 174, none, .pick (.t 170) (.t 173) (.c (.bool false))⟩,
 ⟨some 175, none, .mov (.t 174)⟩,
 ⟨some 176, (some (175, true)), .mov (.t 19)⟩,
 ⟨some 177, (some (175, true)), .mov (.t 9)⟩,
 ⟨some 178, (some (175, true)), .bin .lss (.t 176) (.t 177)⟩,
 ⟨some 179, (some (175, true)), .mov (.t 178)⟩,
 ⟨some 180, (some (179, false)), .faddr 0 (.t 4)⟩,
 ⟨some 181, (some (179, false)), .load false 1 (.t 180)⟩,
 ⟨some 182, (some (179, false)), .mov (.t 8)⟩,
 ⟨some 183, (some (179, false)), .ncall true 0 78 [(.t 181), (.t 182)]⟩,
 ⟨some 184, (some (179, false)), .not (.t 183)⟩,
 ⟨some 185, (some (175, true)), .pick (.t 179) (.c (.bool true)) (.t 184)⟩,
 ⟨some 186, none, .pick (.t 175) (.t 185) (.c (.bool false))⟩,
 ⟨some 6, none, .mov (.t 186)⟩]) (
 .gh [.keep [6]] (
 .ret)))))))))))))))))))]
def c13 : ACode :=
 .seq (
 .reg none [
 ⟨some 3, none, .box 13004 24 (.t 0)⟩,
 ⟨some 4, none, .box 13005 98 (.t 1)⟩,
 ⟨some 6, none, .mov (.c (.bool false))⟩]) (
 .seq (
 .seq (
 .reg none [
 ⟨some 21, none, .ncall true 0 18 []⟩,
 ⟨some 22, none, .not (.t 21)⟩]) (
 .cond (.t 22) (
 .seq (
 .reg none [
 ⟨some 6, none, .mov (.c (.bool false))⟩]) (
 .ret)) (
 .skip))) (
 .seq (
 .seq (
 .reg none [
 ⟨some 23, none, .load true 3 (.t 3)⟩,
 ⟨some 24, none, .faddr 1 (.t 4)⟩,
 ⟨some 25, none, .load false 1 (.t 24)⟩,
 ⟨some 26, none, .ncall true 0 21 [(.t 23), (.t 25)]⟩,
 ⟨some 27, none, .bin .neq (.t 26) (.c (.int .i64 0))⟩,
 ⟨some 28, none, .mov (.t 27)⟩,
 ⟨some 29, (some (28, false)), .faddr 1 (.t 4)⟩,
 ⟨some 30, (some (28, false)), .load false 1 (.t 29)⟩,
 ⟨some 31, (some (28, false)), .len (.t 30)⟩,
 ⟨some 32, (some (28, false)), .bin .gtr (.t 31) (.c (.int .i64 60))⟩,
 ⟨some 33, none, .pick (.t 28) (.c (.bool true)) (.t 32)⟩,
 ⟨some 34, none, .mov (.t 33)⟩,
 ⟨some 35, (some (34, false)), .faddr 0 (.t 4)⟩,
 ⟨some 36, (some (34, false)), .load false 1 (.t 35)⟩,
 ⟨some 37, (some (34, false)), .len (.t 36)⟩,
 ⟨some 38, (some (34, false)), .bin .gtr (.t 37) (.c (.int .i64 24))⟩,
 ⟨some 39, none, .pick (.t 34) (.c (.bool true)) (.t 38)⟩,
 ⟨some 40, none, .mov (.t 39)⟩,
 ⟨some 41, (some (40, false)), .mov (.t 2)⟩,
 ⟨some 42, (some (40, false)), .len (.t 41)⟩,
 ⟨some 43, (some (40, false)), .bin .gtr (.t 42) (.c (.int .i64 40))⟩,
 ⟨some 44, none, .pick (.t 40) (.c (.bool true)) (.t 43)⟩]) (
 .gh [.keep [2, 3, 4, 44]] (
 .cond (.t 44) (
 .seq (
 .reg none [
 ⟨some 6, none, .mov (.c (.bool true))⟩]) (
 .ret)) (
 .skip)))) (
 .seq (
 .seq (
 .reg none [
 ⟨some 7, none, .mov (.c (.int .i64 0))⟩]) (
 .block 0 (
 .loop b13_0))) (
 .seq (
 .reg (some [(0, 3)]) [
 ⟨some 58, none, .load true 3 (.t 3)⟩,
 ⟨some 59, none, .faddr 1 (.t 4)⟩,
 ⟨some 60, none, .load false 1 (.t 59)⟩,
 ⟨some 61, none, .ncall true 13062 20 [(.t 60)]⟩,
 ⟨some 62, none, .ncall true 13063 19 [(.t 58), (.t 61)]⟩,
 ⟨some 57, none, .mov (.t 62)⟩,
 ⟨some 63, none, .ext 0 (.t 57)⟩,
 ⟨some 64, none, .ext 1 (.t 57)⟩,
 ⟨some 65, none, .ext 2 (.t 57)⟩,
 ⟨some 8, none, .mov (.t 63)⟩,
 ⟨some 9, none, .mov (.t 64)⟩,
 ⟨some 10, none, .mov (.t 65)⟩]) (
 .gh [.keep [2, 3, 4, 8, 9, 10]] (
 .seq (
 .reg (some [(0, 3)]) [
 ⟨some 67, none, .load true 3 (.t 3)⟩,
 ⟨some 68, none, .faddr 1 (.t 4)⟩,
 ⟨some 69, none, .load false 1 (.t 68)⟩,
 ⟨some 70, none, .ncall true 13071 20 [(.t 69)]⟩,
 ⟨some 71, none, .ncall true 13072 64 [(.t 67), (.t 70)]⟩,
 ⟨some 66, none, .mov (.t 71)⟩,
 ⟨some 72, none, .ext 0 (.t 66)⟩,
 ⟨some 73, none, .ext 1 (.t 66)⟩,
 ⟨some 11, none, .mov (.t 72)⟩,
 ⟨some 12, none, .mov (.t 73)⟩]) (
 .gh [.keep [2, 3, 4, 8, 9, 10, 11, 12]] (
 .seq (
 .seq (
 .reg none [
 ⟨some 74, none, .mov (.t 10)⟩,
 ⟨some 75, none, .bin .neq (.t 74) (.c (.int .i64 0))⟩,
 ⟨some 76, none, .mov (.t 75)⟩,
 ⟨some 77, (some (76, false)), .mov (.t 12)⟩,
 ⟨some 78, (some (76, false)), .bin .neq (.t 77) (.c (.int .i64 0))⟩,
 ⟨some 79, none, .pick (.t 76) (.c (.bool true)) (.t 78)⟩,
 ⟨some 80, none, .mov (.t 79)⟩,
 ⟨some 81, (some (80, false)), .mov (.t 8)⟩,
 ⟨some 82, (some (80, false)), .len (.t 81)⟩,
 ⟨some 83, (some (80, false)), .faddr 1 (.t 4)⟩,
 ⟨some 84, (some (80, false)), .load false 1 (.t 83)⟩,
 ⟨some 85, (some (80, false)), .len (.t 84)⟩,
 ⟨some 86, (some (80, false)), .bin .quo (.t 85) (.c (.int .i64 2))⟩,
 ⟨some 87, (some (80, false)), .faddr 0 (.t 3)⟩,
 ⟨some 88, (some (80, false)), .load false 1 (.t 87)⟩,
 ⟨some 89, (some (80, false)), .bin .sub (.t 86) (.t 88)⟩,
 ⟨some 90, (some (80, false)), .bin .neq (.t 82) (.t 89)⟩,
 ⟨some 91, none, .pick (.t 80) (.c (.bool true)) (.t 90)⟩]) (
 .gh [.keep [2, 3, 4, 8, 9, 11, 91]] (
 .cond (.t 91) (
 .seq (
 .reg none [
 ⟨some 6, none, .mov (.c (.bool false))⟩]) (
 .ret)) (
 .skip)))) (
 .seq (
 .reg (some [(0, 2), (0, 5), (2, 3), (2, 4)]) [
 ⟨some 93, none, .load true 3 (.t 3)⟩,
 ⟨some 94, none, .mov (.t 8)⟩,
 ⟨some 95, none, .ncall true 13096 20 [(.t 94)]⟩,
 ⟨some 96, none, .faddr 1 (.t 4)⟩,
 ⟨some 97, none, .load false 1 (.t 96)⟩,
 ⟨some 98, none, .ncall true 13099 20 [(.t 97)]⟩,
 ⟨some 99, none, .ncall true 0 56 [(.t 93), (.t 95), (.t 98)]⟩,
 ⟨some 92, none, .mov (.t 99)⟩,
 ⟨some 100, none, .ext 0 (.t 92)⟩,
 ⟨some 101, none, .ext 1 (.t 92)⟩,
 ⟨some 13, none, .mov (.t 100)⟩,
 ⟨some 14, none, .mov (.t 101)⟩]) (
 .gh [.keep [2, 3, 4, 8, 9, 11, 13, 14]] (
 .seq (
 .reg (some [(0, 3), (0, 5), (3, 4)]) [
 ⟨some 103, none, .load true 3 (.t 3)⟩,
 ⟨some 104, none, .faddr 1 (.t 4)⟩,
 ⟨some 105, none, .load false 1 (.t 104)⟩,
 ⟨some 106, none, .ncall true 13107 20 [(.t 105)]⟩,
 ⟨some 107, none, .mov (.t 11)⟩,
 ⟨some 108, none, .ncall true 13109 63 [(.t 107)]⟩,
 ⟨some 109, none, .ncall true 0 62 [(.t 103), (.t 106), (.t 108)]⟩,
 ⟨some 102, none, .mov (.t 109)⟩,
 ⟨some 110, none, .ext 0 (.t 102)⟩,
 ⟨some 111, none, .ext 1 (.t 102)⟩,
 ⟨some 15, none, .mov (.t 110)⟩,
 ⟨some 16, none, .mov (.t 111)⟩]) (
 .gh [.keep [2, 3, 4, 8, 9, 13, 14, 15, 16]] (
 .seq (
 .seq (
 .reg none [
 ⟨some 112, none, .mov (.t 14)⟩,
 ⟨some 113, none, .bin .neq (.t 112) (.c (.int .i64 0))⟩,
 ⟨some 114, none, .mov (.t 113)⟩,
 ⟨some 115, (some (114, false)), .mov (.t 13)⟩,
 ⟨some 116, (some (114, false)), .mov (.t 9)⟩,
 ⟨some 117, (some (114, false)), .bin .neq (.t 115) (.t 116)⟩,
 ⟨some 118, none, .pick (.t 114) (.c (.bool true)) (.t 117)⟩,
 ⟨some 119, none, .mov (.t 118)⟩,
 ⟨some 120, (some (119, false)), .mov (.t 16)⟩,
 ⟨some 121, (some (119, false)), .bin .neq (.t 120) (.c (.int .i64 0))⟩,
 ⟨some 122, none, .pick (.t 119) (.c (.bool true)) (.t 121)⟩,
 ⟨some 123, none, .mov (.t 122)⟩,
 ⟨some 124, (some (123, false)), .mov (.t 15)⟩,
 ⟨some 125, (some (123, false)), .mov (.t 9)⟩,
 ⟨some 126, (some (123, false)), .bin .neq (.t 124) (.t 125)⟩,
 ⟨some 127, none, .pick (.t 123) (.c (.bool true)) (.t 126)⟩]) (
 .gh [.keep [2, 3, 4, 8, 9, 127]] (
 .cond (.t 127) (
 .seq (
 .reg none [
 ⟨some 6, none, .mov (.c (.bool false))⟩]) (
 .ret)) (
 .skip)))) (
 .seq (
 .reg (some [(0, 3), (0, 5), (3, 4)]) [
 ⟨some 129, none, .load true 3 (.t 3)⟩,
 ⟨some 130, none, .faddr 1 (.t 4)⟩,
 ⟨some 131, none, .load false 1 (.t 130)⟩,
 ⟨some 132, none, .ncall true 13133 20 [(.t 131)]⟩,
 ⟨some 133, none, .mov (.t 2)⟩,
 ⟨some 134, none, .ncall true 13135 63 [(.t 133)]⟩,
 ⟨some 135, none, .ncall true 0 62 [(.t 129), (.t 132), (.t 134)]⟩,
 ⟨some 128, none, .mov (.t 135)⟩,
 ⟨some 136, none, .ext 0 (.t 128)⟩,
 ⟨some 137, none, .ext 1 (.t 128)⟩,
 ⟨some 17, none, .mov (.t 136)⟩,
 ⟨some 18, none, .mov (.t 137)⟩]) (
 .gh [.keep [3, 4, 8, 9, 17, 18]] (
 .seq (
 .seq (
 .reg none [
 ⟨some 138, none, .mov (.t 18)⟩,
 ⟨some 139, none, .bin .eql (.t 138) (.c (.int .i64 0))⟩,
 ⟨some 140, none, .mov (.t 139)⟩,
 ⟨some 141, (some (140, true)), .mov (.t 9)⟩,
 ⟨some 142, (some (140, true)), .mov (.t 17)⟩,
 ⟨some 143, (some (140, true)), .bin .gtr (.t 141) (.t 142)⟩,
 ⟨some 144, none, .pick (.t 140) (.t 143) (.c (.bool false))⟩]) (
 .gh [.keep [3, 4, 8, 9, 144]] (
 .cond (.t 144) (
 .seq (
 .reg none [
 ⟨some 6, none, .mov (.c (.bool false))⟩]) (
 .ret)) (
 .skip)))) (
 .seq (
 .seq (
 .reg none [
 ⟨some 145, none, .faddr 0 (.t 4)⟩,
 ⟨some 146, none, .load false 1 (.t 145)⟩,
 ⟨some 147, none, .ncall true 0 44 [(.t 146)]⟩,
 ⟨some 148, none, .bin .neq (.t 147) (.c (.int .i64 0))⟩,
 ⟨some 149, none, .mov (.t 148)⟩,
 ⟨some 150, (some (149, false)), .faddr 0 (.t 4)⟩,
 ⟨some 151, (some (149, false)), .load false 1 (.t 150)⟩,
 ⟨some 152, (some (149, false)), .len (.t 151)⟩,
 ⟨some 153, (some (149, false)), .mov (.t 8)⟩,
 ⟨some 154, (some (149, false)), .len (.t 153)⟩,
 ⟨some 155, (some (149, false)), .bin .neq (.t 152) (.t 154)⟩,
 ⟨some 156, none, .pick (.t 149) (.c (.bool true)) (.t 155)⟩]) (
 .gh [.keep [3, 4, 8, 9, 156]] (
 .cond (.t 156) (
 .seq (
 .reg none [
 ⟨some 6, none, .mov (.c (.bool true))⟩]) (
 .ret)) (
 .skip)))) (
 .seq (
 .reg (some [(0, 3), (0, 6), (3, 4), (3, 5)]) [
 ⟨some 158, none, .load true 3 (.t 3)⟩,
 ⟨some 159, none, .faddr 0 (.t 4)⟩,
 ⟨some 160, none, .load false 1 (.t 159)⟩,
 ⟨some 161, none, .ncall true 13162 20 [(.t 160)]⟩,
 ⟨some 162, none, .faddr 1 (.t 4)⟩,
 ⟨some 163, none, .load false 1 (.t 162)⟩,
 ⟨some 164, none, .ncall true 13165 20 [(.t 163)]⟩,
 ⟨some 165, none, .ncall true 0 56 [(.t 158), (.t 161), (.t 164)]⟩,
 ⟨some 157, none, .mov (.t 165)⟩,
 ⟨some 166, none, .ext 0 (.t 157)⟩,
 ⟨some 167, none, .ext 1 (.t 157)⟩,
 ⟨some 19, none, .mov (.t 166)⟩,
 ⟨some 20, none, .mov (.t 167)⟩]) (
 .gh [.keep [4, 8, 9, 19, 20]] (
 .seq (
 .reg none [
 ⟨some 168, none, .mov (.t 20)⟩,
 ⟨some 169, none, .bin .eql (.t 168) (.c (.int .i64 0))⟩,
 ⟨some 170, none, .mov (.t 169)⟩,
 ⟨some 171, (some (170, true)), .mov (.t 19)⟩,
 ⟨some 172, (some (170, true)), .mov (.t 9)⟩,
 ⟨some 173, (some (170, true)), .bin .leq (.t 171) (.t 172)⟩,
 ⟨some 174, none, .pick (.t 170) (.t 173) (.c (.bool false))⟩,
 ⟨some 175, none, .mov (.t 174)⟩,
 ⟨some 176, (some (175, true)), .mov (.t 19)⟩,
 ⟨some 177, (some (175, true)), .mov (.t 9)⟩,
 ⟨some 178, (some (175, true)), .bin .lss (.t 176) (.t 177)⟩,
 ⟨some 179, (some (175, true)), .mov (.t 178)⟩,
 ⟨some 180, (some (179, false)), .faddr 0 (.t 4)⟩,
 ⟨some 181, (some (179, false)), .load false 1 (.t 180)⟩,
 ⟨some 182, (some (179, false)), .mov (.t 8)⟩,
 ⟨some 183, (some (179, false)), .ncall true 0 78 [(.t 181), (.t 182)]⟩,
 ⟨some 184, (some (179, false)), .not (.t 183)⟩,
 ⟨some 185, (some (175, true)), .pick (.t 179) (.c (.bool true)) (.t 184)⟩,
 ⟨some 186, none, .pick (.t 175) (.t 185) (.c (.bool false))⟩,
 ⟨some 6, none, .mov (.t 186)⟩]) (
 .gh [.keep [6]] (
 .ret))))))))))))))))))))))
def a13 : AFunc := ⟨187, c13, [.tmp 6]⟩
/-! 14 cassegrain/cassegrainlaw05.CodeDecodes params [3, 25, 25] nfree 0 ntmps 148 -/
def c14 : ACode :=
 .seq (
 .reg none [
 ⟨some 6, none, .mov (.c (.bool false))⟩]) (
 .seq (
 .seq (
 .reg none [
 ⟨some 18, none, .ncall true 0 18 []⟩,
 ⟨some 19, none, .not (.t 18)⟩]) (
 .cond (.t 19) (
 .seq (
 .reg none [
 ⟨some 6, none, .mov (.c (.bool false))⟩]) (
 .ret)) (
 .skip))) (
 .seq (
 .seq (
 .reg none [
 ⟨some 20, none, .mov (.t 1)⟩,
 ⟨some 21, none, .len (.t 20)⟩,
 ⟨some 22, none, .bin .gtr (.t 21) (.c (.int .i64 20))⟩,
 ⟨some 23, none, .mov (.t 22)⟩,
 ⟨some 24, (some (23, false)), .mov (.t 2)⟩,
 ⟨some 25, (some (23, false)), .len (.t 24)⟩,
 ⟨some 26, (some (23, false)), .bin .gtr (.t 25) (.c (.int .i64 10))⟩,
 ⟨some 27, none, .pick (.t 23) (.c (.bool true)) (.t 26)⟩]) (
 .gh [.keep [0, 1, 2, 27]] (
 .cond (.t 27) (
 .seq (
 .reg none [
 ⟨some 6, none, .mov (.c (.bool true))⟩]) (
 .ret)) (
 .skip)))) (
 .seq (
 .reg none [
 ⟨some 29, none, .mov (.t 0)⟩,
 ⟨some 30, none, .mov (.t 1)⟩,
 ⟨some 31, none, .ncall true 14032 20 [(.t 30)]⟩,
 ⟨some 32, none, .ncall true 14033 79 [(.t 29), (.t 31)]⟩,
 ⟨some 28, none, .mov (.t 32)⟩,
 ⟨some 33, none, .ext 0 (.t 28)⟩,
 ⟨some 34, none, .ext 1 (.t 28)⟩,
 ⟨some 35, none, .ext 2 (.t 28)⟩,
 ⟨some 7, none, .mov (.t 33)⟩,
 ⟨some 8, none, .mov (.t 34)⟩,
 ⟨some 9, none, .mov (.t 35)⟩]) (
 .gh [.keep [0, 1, 2, 7, 8, 9]] (
 .seq (
 .reg none [
 ⟨some 37, none, .mov (.t 0)⟩,
 ⟨some 38, none, .mov (.t 1)⟩,
 ⟨some 39, none, .ncall true 14040 20 [(.t 38)]⟩,
 ⟨some 40, none, .mov (.t 2)⟩,
 ⟨some 41, none, .ncall true 14042 20 [(.t 40)]⟩,
 ⟨some 42, none, .ncall true 14043 80 [(.t 37), (.t 39), (.t 41)]⟩,
 ⟨some 36, none, .mov (.t 42)⟩,
 ⟨some 43, none, .ext 0 (.t 36)⟩,
 ⟨some 44, none, .ext 1 (.t 36)⟩,
 ⟨some 10, none, .mov (.t 43)⟩,
 ⟨some 11, none, .mov (.t 44)⟩]) (
 .gh [.keep [0, 1, 2, 7, 8, 9, 10, 11]] (
 .seq (
 .reg none [
 ⟨some 45, none, .mov (.t 0)⟩,
 ⟨some 46, none, .ncall true 0 29 [(.t 45)]⟩,
 ⟨some 12, none, .mov (.t 46)⟩]) (
 .seq (
 .seq (
 .reg none [
 ⟨some 47, none, .mov (.t 12)⟩,
 ⟨some 48, none, .bin .eql (.t 47) (.c (.int .i64 0))⟩]) (
 .cond (.t 48) (
 .reg none [
 ⟨some 49, none, .mov (.t 1)⟩,
 ⟨some 50, none, .ncall true 0 30 [(.t 49)]⟩,
 ⟨some 12, none, .mov (.t 50)⟩]) (
 .skip))) (
 .seq (
 .seq (
 .reg none [
 ⟨some 51, none, .mov (.t 12)⟩,
 ⟨some 52, none, .bin .neq (.t 51) (.c (.int .i64 0))⟩]) (
 .cond (.t 52) (
 .seq (
 .reg none [
 ⟨some 53, none, .mov (.t 9)⟩,
 ⟨some 54, none, .mov (.t 12)⟩,
 ⟨some 55, none, .bin .eql (.t 53) (.t 54)⟩,
 ⟨some 56, none, .mov (.t 55)⟩,
 ⟨some 57, (some (56, true)), .mov (.t 11)⟩,
 ⟨some 58, (some (56, true)), .mov (.t 12)⟩,
 ⟨some 59, (some (56, true)), .bin .eql (.t 57) (.t 58)⟩,
 ⟨some 60, none, .pick (.t 56) (.t 59) (.c (.bool false))⟩,
 ⟨some 61, none, .mov (.t 60)⟩,
 ⟨some 62, (some (61, true)), .mov (.t 7)⟩,
 ⟨some 63, (some (61, true)), .len (.t 62)⟩,
 ⟨some 64, (some (61, true)), .mov (.t 10)⟩,
 ⟨some 65, (some (61, true)), .len (.t 64)⟩,
 ⟨some 66, (some (61, true)), .bin .add (.t 63) (.t 65)⟩,
 ⟨some 67, (some (61, true)), .bin .eql (.t 66) (.c (.int .i64 0))⟩,
 ⟨some 68, none, .pick (.t 61) (.t 67) (.c (.bool false))⟩,
 ⟨some 69, none, .mov (.t 68)⟩,
 ⟨some 70, (some (69, true)), .mov (.t 8)⟩,
 ⟨some 71, (some (69, true)), .bin .eql (.t 70) (.c (.int .i64 0))⟩,
 ⟨some 72, none, .pick (.t 69) (.t 71) (.c (.bool false))⟩,
 ⟨some 6, none, .mov (.t 72)⟩]) (
 .gh [.keep [6]] (
 .ret))) (
 .skip))) (
 .seq (
 .seq (
 .reg none [
 ⟨some 74, none, .mov (.t 0)⟩,
 ⟨some 75, none, .mov (.t 1)⟩,
 ⟨some 76, none, .ncall true 14077 81 [(.t 74), (.t 75)]⟩,
 ⟨some 73, none, .mov (.t 76)⟩,
 ⟨some 77, none, .ext 0 (.t 73)⟩,
 ⟨some 78, none, .ext 1 (.t 73)⟩,
 ⟨some 79, none, .ext 2 (.t 73)⟩,
 ⟨some 13, none, .mov (.t 77)⟩,
 ⟨some 14, none, .mov (.t 78)⟩,
 ⟨some 15, none, .mov (.t 79)⟩]) (
 .gh [.keep [0, 1, 2, 7, 8, 9, 10, 11, 13, 14, 15]] (
 .seq (
 .reg none [
 ⟨some 80, none, .mov (.t 15)⟩,
 ⟨some 81, none, .mov (.t 80)⟩,
 ⟨some 82, (some (81, true)), .mov (.t 9)⟩,
 ⟨some 83, (some (81, true)), .bin .neq (.t 82) (.c (.int .i64 0))⟩,
 ⟨some 84, (some (81, true)), .mov (.t 83)⟩,
 ⟨some 85, (some (84, false)), .mov (.t 7)⟩,
 ⟨some 86, (some (84, false)), .mov (.t 13)⟩,
 ⟨some 87, (some (84, false)), .ncall true 0 23 [(.t 85), (.t 86)]⟩,
 ⟨some 88, (some (84, false)), .not (.t 87)⟩,
 ⟨some 89, (some (81, true)), .pick (.t 84) (.c (.bool true)) (.t 88)⟩,
 ⟨some 90, (some (81, true)), .mov (.t 89)⟩,
 ⟨some 91, (some (90, false)), .mov (.t 8)⟩,
 ⟨some 92, (some (90, false)), .mov (.t 14)⟩,
 ⟨some 93, (some (90, false)), .bin .neq (.t 91) (.t 92)⟩,
 ⟨some 94, (some (81, true)), .pick (.t 90) (.c (.bool true)) (.t 93)⟩,
 ⟨some 95, none, .pick (.t 81) (.t 94) (.c (.bool false))⟩,
 ⟨some 96, none, .mov (.t 95)⟩,
 ⟨some 97, (some (96, false)), .mov (.t 15)⟩,
 ⟨some 98, (some (96, false)), .not (.t 97)⟩,
 ⟨some 99, (some (96, false)), .mov (.t 98)⟩,
 ⟨some 100, (some (99, true)), .mov (.t 9)⟩,
 ⟨some 101, (some (99, true)), .bin .neq (.t 100) (.c (.int .i64 27))⟩,
 ⟨some 102, (some (99, true)), .mov (.t 101)⟩,
 ⟨some 103, (some (102, false)), .mov (.t 7)⟩,
 ⟨some 104, (some (102, false)), .len (.t 103)⟩,
 ⟨some 105, (some (102, false)), .bin .neq (.t 104) (.c (.int .i64 0))⟩,
 ⟨some 106, (some (99, true)), .pick (.t 102) (.c (.bool true)) (.t 105)⟩,
 ⟨some 107, (some (99, true)), .mov (.t 106)⟩,
 ⟨some 108, (some (107, false)), .mov (.t 8)⟩,
 ⟨some 109, (some (107, false)), .bin .neq (.t 108) (.c (.int .i64 0))⟩,
 ⟨some 110, (some (99, true)), .pick (.t 107) (.c (.bool true)) (.t 109)⟩,
 ⟨some 111, (some (96, false)), .pick (.t 99) (.t 110) (.c (.bool false))⟩,
 ⟨some 112, none, .pick (.t 96) (.c (.bool true)) (.t 111)⟩]) (
 .gh [.keep [0, 1, 2, 10, 11, 112]] (
 .cond (.t 112) (
 .seq (
 .reg none [
 ⟨some 6, none, .mov (.c (.bool false))⟩]) (
 .ret)) (
 .skip)))))) (
 .seq (
 .seq (
 .reg none [
 ⟨some 113, none, .mov (.t 0)⟩,
 ⟨some 114, none, .mov (.t 2)⟩,
 ⟨some 115, none, .ncall true 0 82 [(.t 113), (.t 114)]⟩,
 ⟨some 12, none, .mov (.t 115)⟩]) (
 .seq (
 .reg none [
 ⟨some 116, none, .mov (.t 12)⟩,
 ⟨some 117, none, .bin .neq (.t 116) (.c (.int .i64 0))⟩]) (
 .cond (.t 117) (
 .seq (
 .reg none [
 ⟨some 118, none, .mov (.t 11)⟩,
 ⟨some 119, none, .mov (.t 12)⟩,
 ⟨some 120, none, .bin .eql (.t 118) (.t 119)⟩,
 ⟨some 121, none, .mov (.t 120)⟩,
 ⟨some 122, (some (121, true)), .mov (.t 10)⟩,
 ⟨some 123, (some (121, true)), .len (.t 122)⟩,
 ⟨some 124, (some (121, true)), .bin .eql (.t 123) (.c (.int .i64 0))⟩,
 ⟨some 125, none, .pick (.t 121) (.t 124) (.c (.bool false))⟩,
 ⟨some 6, none, .mov (.t 125)⟩]) (
 .gh [.keep [6]] (
 .ret))) (
 .skip)))) (
 .seq (
 .seq (
 .reg none [
 ⟨some 127, none, .mov (.t 0)⟩,
 ⟨some 128, none, .mov (.t 1)⟩,
 ⟨some 129, none, .mov (.t 2)⟩,
 ⟨some 130, none, .ncall true 14131 83 [(.t 127), (.t 128), (.t 129)]⟩,
 ⟨some 126, none, .mov (.t 130)⟩,
 ⟨some 131, none, .ext 0 (.t 126)⟩,
 ⟨some 132, none, .ext 1 (.t 126)⟩,
 ⟨some 16, none, .mov (.t 131)⟩,
 ⟨some 17, none, .mov (.t 132)⟩]) (
 .gh [.keep [10, 11, 16, 17]] (
 .seq (
 .reg none [
 ⟨some 133, none, .mov (.t 17)⟩]) (
 .cond (.t 133) (
 .seq (
 .reg none [
 ⟨some 134, none, .mov (.t 11)⟩,
 ⟨some 135, none, .bin .eql (.t 134) (.c (.int .i64 0))⟩,
 ⟨some 136, none, .mov (.t 135)⟩,
 ⟨some 137, (some (136, true)), .mov (.t 10)⟩,
 ⟨some 138, (some (136, true)), .mov (.t 16)⟩,
 ⟨some 139, (some (136, true)), .ncall true 0 23 [(.t 137), (.t 138)]⟩,
 ⟨some 140, none, .pick (.t 136) (.t 139) (.c (.bool false))⟩,
 ⟨some 6, none, .mov (.t 140)⟩]) (
 .gh [.keep [6]] (
 .ret))) (
 .skip))))) (
 .seq (
 .reg none [
 ⟨some 141, none, .mov (.t 11)⟩,
 ⟨some 142, none, .bin .eql (.t 141) (.c (.int .i64 27))⟩,
 ⟨some 143, none, .mov (.t 142)⟩,
 ⟨some 144, (some (143, true)), .mov (.t 10)⟩,
 ⟨some 145, (some (143, true)), .len (.t 144)⟩,
 ⟨some 146, (some (143, true)), .bin .eql (.t 145) (.c (.int .i64 0))⟩,
 ⟨some 147, none, .pick (.t 143) (.t 146) (.c (.bool false))⟩,
 ⟨some 6, none, .mov (.t 147)⟩]) (
 .gh [.keep [6]] (
 .ret)))))))))))))))
def a14 : AFunc := ⟨148, c14, [.tmp 6]⟩
/-! 15 cassegrain/cassegrainlaw05.CodeSentOne params [3, 25, 25] nfree 0 ntmps 197 -/
def l15_0 : ACode :=
 .seq (
 .seq (
 .reg none [
 ⟨some 165, none, .mov (.t 17)⟩,
 ⟨some 166, none, .mov (.t 15)⟩,
 ⟨some 167, none, .len (.t 166)⟩,
 ⟨some 168, none, .bin .lss (.t 165) (.t 167)⟩]) (
 .cond (.t 168) (
 .skip) (
 .exit 2))) (
 .seq (
 .block 3 (
 .seq (
 .reg none [
 ⟨some 171, none, .mov (.t 15)⟩,
 ⟨some 172, none, .mov (.t 17)⟩,
 ⟨some 173, none, .iaddr 1 (.t 171) (.t 172)⟩,
 ⟨some 174, none, .load false 1 (.t 173)⟩,
 ⟨some 175, none, .bin .neq (.t 174) (.c (.int .i64 0))⟩]) (
 .cond (.t 175) (
 .seq (
 .reg none [
 ⟨some 6, none, .mov (.c (.bool false))⟩]) (
 .ret)) (
 .skip)))) (
 .reg none [
 ⟨some 169, none, .mov (.t 17)⟩,
 ⟨some 170, none, .bin .add (.t 169) (.c (.int .i64 1))⟩,
 ⟨some 17, none, .mov (.t 170)⟩]))
def b15_0 : ACode := .gh [.keep [0, 7, 9, 10, 15, 17]] (.gh [] l15_0)
def l15_1 : ACode :=
 .seq (
 .seq (
 .reg none [
 ⟨some 76, none, .mov (.t 11)⟩,
 ⟨some 77, none, .mov (.t 7)⟩,
 ⟨some 78, none, .len (.t 77)⟩,
 ⟨some 79, none, .bin .lss (.t 76) (.t 78)⟩]) (
 .cond (.t 79) (
 .skip) (
 .exit 0))) (
 .seq (
 .block 1 (
 .seq (
 .reg (some [(0, 10)]) [
 ⟨some 82, none, .mov (.t 9)⟩,
 ⟨some 83, none, .mov (.t 7)⟩,
 ⟨some 84, none, .mov (.t 11)⟩,
 ⟨some 85, none, .iaddr 1 (.t 83) (.t 84)⟩,
 ⟨some 86, none, .load false 1 (.t 85)⟩,
 ⟨some 87, none, .mov (.t 2)⟩,
 ⟨some 88, none, .mov (.t 11)⟩,
 ⟨some 89, none, .iaddr 1 (.t 87) (.t 88)⟩,
 ⟨some 90, none, .load false 1 (.t 89)⟩,
 ⟨some 91, none, .bin .xor (.t 86) (.t 90)⟩,
 ⟨some 92, none, .bslice 15093 3 1 [(.t 91)]⟩,
 ⟨some 93, none, .append 15094 3 1 (.t 82) (.t 92)⟩,
 ⟨some 9, none, .mov (.t 93)⟩]) (
 .gh [.keep [0, 2, 7, 9, 10, 11]] (
 .seq (
 .reg none [
 ⟨some 94, none, .mov (.t 2)⟩,
 ⟨some 95, none, .mov (.t 11)⟩,
 ⟨some 96, none, .iaddr 1 (.t 94) (.t 95)⟩,
 ⟨some 97, none, .load false 1 (.t 96)⟩,
 ⟨some 98, none, .bin .neq (.t 97) (.c (.int .i64 0))⟩]) (
 .cond (.t 98) (
 .reg none [
 ⟨some 99, none, .mov (.t 10)⟩,
 ⟨some 100, none, .mov (.t 11)⟩,
 ⟨some 101, none, .bslice 15102 3 1 [(.t 100)]⟩,
 ⟨some 102, none, .append 15103 3 1 (.t 99) (.t 101)⟩,
 ⟨some 10, none, .mov (.t 102)⟩]) (
 .skip)))))) (
 .reg none [
 ⟨some 80, none, .mov (.t 11)⟩,
 ⟨some 81, none, .bin .add (.t 80) (.c (.int .i64 1))⟩,
 ⟨some 11, none, .mov (.t 81)⟩]))
def b15_1 : ACode := .gh [.keep [0, 2, 7, 9, 10, 11]] (.gh [] l15_1)
def k15_0 : List AItem := .inLoop b15_0 :: [.inBlock 2,
 .code (.seq (
 .seq (
 .reg none [
 ⟨some 176, none, .mov (.t 10)⟩,
 ⟨some 177, none, .len (.t 176)⟩,
 ⟨some 178, none, .mov (.t 0)⟩,
 ⟨some 179, none, .bin .mul (.c (.int .i64 2)) (.t 178)⟩,
 ⟨some 180, none, .bin .gtr (.t 177) (.t 179)⟩]) (
 .cond (.t 180) (
 .seq (
 .reg none [
 ⟨some 6, none, .mov (.c (.bool true))⟩]) (
 .ret)) (
 .skip))) (
 .seq (
 .reg none [
 ⟨some 182, none, .mov (.t 0)⟩,
 ⟨some 183, none, .mov (.t 9)⟩,
 ⟨some 184, none, .ncall true 15185 20 [(.t 183)]⟩,
 ⟨some 185, none, .mov (.t 10)⟩,
 ⟨some 186, none, .ncall true 15187 20 [(.t 185)]⟩,
 ⟨some 187, none, .ncall true 15188 80 [(.t 182), (.t 184), (.t 186)]⟩,
 ⟨some 181, none, .mov (.t 187)⟩,
 ⟨some 188, none, .ext 0 (.t 181)⟩,
 ⟨some 189, none, .ext 1 (.t 181)⟩,
 ⟨some 18, none, .mov (.t 188)⟩,
 ⟨some 19, none, .mov (.t 189)⟩]) (
 .gh [.keep [7, 18, 19]] (
 .seq (
 .reg none [
 ⟨some 190, none, .mov (.t 19)⟩,
 ⟨some 191, none, .bin .eql (.t 190) (.c (.int .i64 0))⟩,
 ⟨some 192, none, .mov (.t 191)⟩,
 ⟨some 193, (some (192, true)), .mov (.t 18)⟩,
 ⟨some 194, (some (192, true)), .mov (.t 7)⟩,
 ⟨some 195, (some (192, true)), .ncall true 0 23 [(.t 193), (.t 194)]⟩,
 ⟨some 196, none, .pick (.t 192) (.t 195) (.c (.bool false))⟩,
 ⟨some 6, none, .mov (.t 196)⟩]) (
 .gh [.keep [6]] (
 .ret))))))]
def k15_1 : List AItem := .inLoop b15_1 :: [.inBlock 0,
 .code (.seq (
 .reg none [
 ⟨some 104, none, .mov (.t 0)⟩,
 ⟨some 105, none, .mov (.t 9)⟩,
 ⟨some 106, none, .ncall true 15107 20 [(.t 105)]⟩,
 ⟨some 107, none, .ncall true 15108 79 [(.t 104), (.t 106)]⟩,
 ⟨some 103, none, .mov (.t 107)⟩,
 ⟨some 108, none, .ext 0 (.t 103)⟩,
 ⟨some 109, none, .ext 1 (.t 103)⟩,
 ⟨some 110, none, .ext 2 (.t 103)⟩,
 ⟨some 12, none, .mov (.t 108)⟩,
 ⟨some 13, none, .mov (.t 109)⟩,
 ⟨some 14, none, .mov (.t 110)⟩]) (
 .gh [.keep [0, 7, 9, 10, 12, 13, 14]] (
 .seq (
 .seq (
 .reg none [
 ⟨some 111, none, .mov (.t 14)⟩,
 ⟨some 112, none, .bin .neq (.t 111) (.c (.int .i64 0))⟩,
 ⟨some 113, none, .mov (.t 112)⟩,
 ⟨some 114, (some (113, true)), .mov (.t 14)⟩,
 ⟨some 115, (some (113, true)), .bin .neq (.t 114) (.c (.int .i64 27))⟩,
 ⟨some 116, (some (113, true)), .mov (.t 115)⟩,
 ⟨some 117, (some (116, false)), .mov (.t 10)⟩,
 ⟨some 118, (some (116, false)), .len (.t 117)⟩,
 ⟨some 119, (some (116, false)), .mov (.t 0)⟩,
 ⟨some 120, (some (116, false)), .bin .leq (.t 118) (.t 119)⟩,
 ⟨some 121, (some (113, true)), .pick (.t 116) (.c (.bool true)) (.t 120)⟩,
 ⟨some 122, none, .pick (.t 113) (.t 121) (.c (.bool false))⟩]) (
 .gh [.keep [0, 7, 9, 10, 12, 13, 14, 122]] (
 .cond (.t 122) (
 .seq (
 .reg none [
 ⟨some 6, none, .mov (.c (.bool false))⟩]) (
 .ret)) (
 .skip)))) (
 .seq (
 .seq (
 .reg none [
 ⟨some 123, none, .mov (.t 14)⟩,
 ⟨some 124, none, .bin .eql (.t 123) (.c (.int .i64 0))⟩]) (
 .cond (.t 124) (
 .seq (
 .reg none [
 ⟨some 126, none, .mov (.t 0)⟩,
 ⟨some 127, none, .mov (.t 12)⟩,
 ⟨some 128, none, .ncall true 15129 20 [(.t 127)]⟩,
 ⟨some 129, none, .ncall true 15130 25 [(.t 126), (.t 128)]⟩,
 ⟨some 125, none, .mov (.t 129)⟩,
 ⟨some 130, none, .ext 0 (.t 125)⟩,
 ⟨some 131, none, .ext 1 (.t 125)⟩,
 ⟨some 15, none, .mov (.t 130)⟩,
 ⟨some 16, none, .mov (.t 131)⟩]) (
 .gh [.keep [0, 7, 9, 10, 12, 13, 15, 16]] (
 .seq (
 .seq (
 .reg none [
 ⟨some 132, none, .mov (.t 16)⟩,
 ⟨some 133, none, .bin .neq (.t 132) (.c (.int .i64 0))⟩,
 ⟨some 134, none, .mov (.t 133)⟩,
 ⟨some 135, (some (134, false)), .mov (.t 12)⟩,
 ⟨some 136, (some (134, false)), .len (.t 135)⟩,
 ⟨some 137, (some (134, false)), .mov (.t 7)⟩,
 ⟨some 138, (some (134, false)), .len (.t 137)⟩,
 ⟨some 139, (some (134, false)), .bin .neq (.t 136) (.t 138)⟩,
 ⟨some 140, none, .pick (.t 134) (.c (.bool true)) (.t 139)⟩,
 ⟨some 141, none, .mov (.t 140)⟩,
 ⟨some 142, (some (141, false)), .mov (.t 12)⟩,
 ⟨some 143, (some (141, false)), .mov (.t 9)⟩,
 ⟨some 144, (some (141, false)), .ncall true 0 77 [(.t 142), (.t 143)]⟩,
 ⟨some 145, (some (141, false)), .mov (.t 13)⟩,
 ⟨some 146, (some (141, false)), .bin .neq (.t 144) (.t 145)⟩,
 ⟨some 147, none, .pick (.t 141) (.c (.bool true)) (.t 146)⟩,
 ⟨some 148, none, .mov (.t 147)⟩,
 ⟨some 149, (some (148, false)), .mov (.t 13)⟩,
 ⟨some 150, (some (148, false)), .mov (.t 0)⟩,
 ⟨some 151, (some (148, false)), .bin .gtr (.t 149) (.t 150)⟩,
 ⟨some 152, none, .pick (.t 148) (.c (.bool true)) (.t 151)⟩,
 ⟨some 153, none, .mov (.t 152)⟩,
 ⟨some 154, (some (153, false)), .mov (.t 10)⟩,
 ⟨some 155, (some (153, false)), .len (.t 154)⟩,
 ⟨some 156, (some (153, false)), .mov (.t 0)⟩,
 ⟨some 157, (some (153, false)), .bin .leq (.t 155) (.t 156)⟩,
 ⟨some 158, (some (153, false)), .mov (.t 157)⟩,
 ⟨some 159, (some (158, true)), .mov (.t 12)⟩,
 ⟨some 160, (some (158, true)), .mov (.t 7)⟩,
 ⟨some 161, (some (158, true)), .ncall true 0 23 [(.t 159), (.t 160)]⟩,
 ⟨some 162, (some (158, true)), .not (.t 161)⟩,
 ⟨some 163, (some (153, false)), .pick (.t 158) (.t 162) (.c (.bool false))⟩,
 ⟨some 164, none, .pick (.t 153) (.c (.bool true)) (.t 163)⟩]) (
 .gh [.keep [0, 7, 9, 10, 15, 164]] (
 .cond (.t 164) (
 .seq (
 .reg none [
 ⟨some 6, none, .mov (.c (.bool false))⟩]) (
 .ret)) (
 .skip)))) (
 .seq (
 .reg none [
 ⟨some 17, none, .mov (.c (.int .i64 0))⟩]) (
 .block 2 (
 .loop b15_0)))))) (
 .skip))) (
 .seq (
 .seq (
 .reg none [
 ⟨some 176, none, .mov (.t 10)⟩,
 ⟨some 177, none, .len (.t 176)⟩,
 ⟨some 178, none, .mov (.t 0)⟩,
 ⟨some 179, none, .bin .mul (.c (.int .i64 2)) (.t 178)⟩,
 ⟨some 180, none, .bin .gtr (.t 177) (.t 179)⟩]) (
 .cond (.t 180) (
 .seq (
 .reg none [
 ⟨some 6, none, .mov (.c (.bool true))⟩]) (
 .ret)) (
 .skip))) (
 .seq (
 .reg none [
 ⟨some 182, none, .mov (.t 0)⟩,
 ⟨some 183, none, .mov (.t 9)⟩,
 ⟨some 184, none, .ncall true 15185 20 [(.t 183)]⟩,
 ⟨some 185, none, .mov (.t 10)⟩,
 ⟨some 186, none, .ncall true 15187 20 [(.t 185)]⟩,
 ⟨some 187, none, .ncall true 15188 80 [(.t 182), (.t 184), (.t 186)]⟩,
 ⟨some 181, none, .mov (.t 187)⟩,
 ⟨some 188, none, .ext 0 (.t 181)⟩,
 ⟨some 189, none, .ext 1 (.t 181)⟩,
 ⟨some 18, none, .mov (.t 188)⟩,
 ⟨some 19, none, .mov (.t 189)⟩]) (
 .gh [.keep [7, 18, 19]] (
 .seq (
 .reg none [
 ⟨some 190, none, .mov (.t 19)⟩,
 ⟨some 191, none, .bin .eql (.t 190) (.c (.int .i64 0))⟩,
 ⟨some 192, none, .mov (.t 191)⟩,
 ⟨some 193, (some (192, true)), .mov (.t 18)⟩,
 ⟨some 194, (some (192, true)), .mov (.t 7)⟩,
 ⟨some 195, (some (192, true)), .ncall true 0 23 [(.t 193), (.t 194)]⟩,
 ⟨some 196, none, .pick (.t 192) (.t 195) (.c (.bool false))⟩,
 ⟨some 6, none, .mov (.t 196)⟩]) (
 .gh [.keep [6]] (
 .ret))))))))))]
def c15 : ACode :=
 .seq (
 .reg none [
 ⟨some 6, none, .mov (.c (.bool false))⟩]) (
 .seq (
 .seq (
 .reg none [
 ⟨some 20, none, .ncall true 0 18 []⟩,
 ⟨some 21, none, .not (.t 20)⟩]) (
 .cond (.t 21) (
 .seq (
 .reg none [
 ⟨some 6, none, .mov (.c (.bool false))⟩]) (
 .ret)) (
 .skip))) (
 .seq (
 .seq (
 .reg none [
 ⟨some 22, none, .mov (.t 0)⟩,
 ⟨some 23, none, .ncall true 0 29 [(.t 22)]⟩,
 ⟨some 24, none, .bin .neq (.t 23) (.c (.int .i64 0))⟩,
 ⟨some 25, none, .mov (.t 24)⟩,
 ⟨some 26, (some (25, false)), .mov (.t 1)⟩,
 ⟨some 27, (some (25, false)), .len (.t 26)⟩,
 ⟨some 28, (some (25, false)), .mov (.t 0)⟩,
 ⟨some 29, (some (25, false)), .bin .mul (.c (.int .i64 2)) (.t 28)⟩,
 ⟨some 30, (some (25, false)), .bin .sub (.c (.int .i64 15)) (.t 29)⟩,
 ⟨some 31, (some (25, false)), .bin .neq (.t 27) (.t 30)⟩,
 ⟨some 32, none, .pick (.t 25) (.c (.bool true)) (.t 31)⟩,
 ⟨some 33, none, .mov (.t 32)⟩,
 ⟨some 34, (some (33, false)), .mov (.t 1)⟩,
 ⟨some 35, (some (33, false)), .ncall true 0 32 [(.t 34)]⟩,
 ⟨some 36, (some (33, false)), .bin .neq (.t 35) (.c (.int .i64 0))⟩,
 ⟨some 37, none, .pick (.t 33) (.c (.bool true)) (.t 36)⟩,
 ⟨some 38, none, .mov (.t 37)⟩,
 ⟨some 39, (some (38, false)), .mov (.t 2)⟩,
 ⟨some 40, (some (38, false)), .len (.t 39)⟩,
 ⟨some 41, (some (38, false)), .bin .neq (.t 40) (.c (.int .i64 15))⟩,
 ⟨some 42, none, .pick (.t 38) (.c (.bool true)) (.t 41)⟩,
 ⟨some 43, none, .mov (.t 42)⟩,
 ⟨some 44, (some (43, false)), .mov (.t 2)⟩,
 ⟨some 45, (some (43, false)), .ncall true 0 32 [(.t 44)]⟩,
 ⟨some 46, (some (43, false)), .bin .neq (.t 45) (.c (.int .i64 0))⟩,
 ⟨some 47, none, .pick (.t 43) (.c (.bool true)) (.t 46)⟩]) (
 .gh [.keep [0, 1, 2, 47]] (
 .cond (.t 47) (
 .seq (
 .reg none [
 ⟨some 6, none, .mov (.c (.bool true))⟩]) (
 .ret)) (
 .skip)))) (
 .seq (
 .reg none [
 ⟨some 49, none, .mov (.t 0)⟩,
 ⟨some 50, none, .mov (.t 1)⟩,
 ⟨some 51, none, .ncall true 15052 20 [(.t 50)]⟩,
 ⟨some 52, none, .ncall true 15053 26 [(.t 49), (.t 51)]⟩,
 ⟨some 48, none, .mov (.t 52)⟩,
 ⟨some 53, none, .ext 0 (.t 48)⟩,
 ⟨some 54, none, .ext 1 (.t 48)⟩,
 ⟨some 7, none, .mov (.t 53)⟩,
 ⟨some 8, none, .mov (.t 54)⟩]) (
 .gh [.keep [0, 1, 2, 7, 8]] (
 .seq (
 .seq (
 .reg none [
 ⟨some 55, none, .mov (.t 8)⟩,
 ⟨some 56, none, .bin .neq (.t 55) (.c (.int .i64 0))⟩,
 ⟨some 57, none, .mov (.t 56)⟩,
 ⟨some 58, (some (57, false)), .mov (.t 7)⟩,
 ⟨some 59, (some (57, false)), .len (.t 58)⟩,
 ⟨some 60, (some (57, false)), .bin .neq (.t 59) (.c (.int .i64 15))⟩,
 ⟨some 61, none, .pick (.t 57) (.c (.bool true)) (.t 60)⟩,
 ⟨some 62, none, .mov (.t 61)⟩,
 ⟨some 63, (some (62, false)), .mov (.t 7)⟩,
 ⟨some 64, (some (62, false)), .ncall true 0 32 [(.t 63)]⟩,
 ⟨some 65, (some (62, false)), .bin .neq (.t 64) (.c (.int .i64 0))⟩,
 ⟨some 66, none, .pick (.t 62) (.c (.bool true)) (.t 65)⟩,
 ⟨some 67, none, .mov (.t 66)⟩,
 ⟨some 68, (some (67, false)), .mov (.t 7)⟩,
 ⟨some 69, (some (67, false)), .mov (.t 1)⟩,
 ⟨some 70, (some (67, false)), .len (.t 69)⟩,
 ⟨some 71, (some (67, false)), .slc 1 (.t 68) none (some (.t 70)) none⟩,
 ⟨some 72, (some (67, false)), .mov (.t 1)⟩,
 ⟨some 73, (some (67, false)), .ncall true 0 23 [(.t 71), (.t 72)]⟩,
 ⟨some 74, (some (67, false)), .not (.t 73)⟩,
 ⟨some 75, none, .pick (.t 67) (.c (.bool true)) (.t 74)⟩]) (
 .gh [.keep [0, 2, 7, 75]] (
 .cond (.t 75) (
 .seq (
 .reg none [
 ⟨some 6, none, .mov (.c (.bool false))⟩]) (
 .ret)) (
 .skip)))) (
 .seq (
 .reg none [
 ⟨some 9, none, .mov (.c .nils)⟩,
 ⟨some 10, none, .mov (.c .nils)⟩]) (
 .seq (
 .seq (
 .reg none [
 ⟨some 11, none, .mov (.c (.int .i64 0))⟩]) (
 .block 0 (
 .loop b15_1))) (
 .seq (
 .reg none [
 ⟨some 104, none, .mov (.t 0)⟩,
 ⟨some 105, none, .mov (.t 9)⟩,
 ⟨some 106, none, .ncall true 15107 20 [(.t 105)]⟩,
 ⟨some 107, none, .ncall true 15108 79 [(.t 104), (.t 106)]⟩,
 ⟨some 103, none, .mov (.t 107)⟩,
 ⟨some 108, none, .ext 0 (.t 103)⟩,
 ⟨some 109, none, .ext 1 (.t 103)⟩,
 ⟨some 110, none, .ext 2 (.t 103)⟩,
 ⟨some 12, none, .mov (.t 108)⟩,
 ⟨some 13, none, .mov (.t 109)⟩,
 ⟨some 14, none, .mov (.t 110)⟩]) (
 .gh [.keep [0, 7, 9, 10, 12, 13, 14]] (
 .seq (
 .seq (
 .reg none [
 ⟨some 111, none, .mov (.t 14)⟩,
 ⟨some 112, none, .bin .neq (.t 111) (.c (.int .i64 0))⟩,
 ⟨some 113, none, .mov (.t 112)⟩,
 ⟨some 114, (some (113, true)), .mov (.t 14)⟩,
 ⟨some 115, (some (113, true)), .bin .neq (.t 114) (.c (.int .i64 27))⟩,
 ⟨some 116, (some (113, true)), .mov (.t 115)⟩,
 ⟨some 117, (some (116, false)), .mov (.t 10)⟩,
 ⟨some 118, (some (116, false)), .len (.t 117)⟩,
 ⟨some 119, (some (116, false)), .mov (.t 0)⟩,
 ⟨some 120, (some (116, false)), .bin .leq (.t 118) (.t 119)⟩,
 ⟨some 121, (some (113, true)), .pick (.t 116) (.c (.bool true)) (.t 120)⟩,
 ⟨some 122, none, .pick (.t 113) (.t 121) (.c (.bool false))⟩]) (
 .gh [.keep [0, 7, 9, 10, 12, 13, 14, 122]] (
 .cond (.t 122) (
 .seq (
 .reg none [
 ⟨some 6, none, .mov (.c (.bool false))⟩]) (
 .ret)) (
 .skip)))) (
 .seq (
 .seq (
 .reg none [
 ⟨some 123, none, .mov (.t 14)⟩,
 ⟨some 124, none, .bin .eql (.t 123) (.c (.int .i64 0))⟩]) (
 .cond (.t 124) (
 .seq (
 .reg none [
 ⟨some 126, none, .mov (.t 0)⟩,
 ⟨some 127, none, .mov (.t 12)⟩,
 ⟨some 128, none, .ncall true 15129 20 [(.t 127)]⟩,
 ⟨some 129, none, .ncall true 15130 25 [(.t 126), (.t 128)]⟩,
 ⟨some 125, none, .mov (.t 129)⟩,
 ⟨some 130, none, .ext 0 (.t 125)⟩,
 ⟨some 131, none, .ext 1 (.t 125)⟩,
 ⟨some 15, none, .mov (.t 130)⟩,
 ⟨some 16, none, .mov (.t 131)⟩]) (
 .gh [.keep [0, 7, 9, 10, 12, 13, 15, 16]] (
 .seq (
 .seq (
 .reg none [
 ⟨some 132, none, .mov (.t 16)⟩,
 ⟨some 133, none, .bin .neq (.t 132) (.c (.int .i64 0))⟩,
 ⟨some 134, none, .mov (.t 133)⟩,
 ⟨some 135, (some (134, false)), .mov (.t 12)⟩,
 ⟨some 136, (some (134, false)), .len (.t 135)⟩,
 ⟨some 137, (some (134, false)), .mov (.t 7)⟩,
 ⟨some 138, (some (134, false)), .len (.t 137)⟩,
 ⟨some 139, (some (134, false)), .bin .neq (.t 136) (.t 138)⟩,
 ⟨some 140, none, .pick (.t 134) (.c (.bool true)) (.t 139)⟩,
 ⟨some 141, none, .mov (.t 140)⟩,
 ⟨some 142, (some (141, false)), .mov (.t 12)⟩,
 ⟨some 143, (some (141, false)), .mov (.t 9)⟩,
 ⟨some 144, (some (141, false)), .ncall true 0 77 [(.t 142), (.t 143)]⟩,
 ⟨some 145, (some (141, false)), .mov (.t 13)⟩,
 ⟨some 146, (some (141, false)), .bin .neq (.t 144) (.t 145)⟩,
 ⟨some 147, none, .pick (.t 141) (.c (.bool true)) (.t 146)⟩,
 ⟨some 148, none, .mov (.t 147)⟩,
 ⟨some 149, (some (148, false)), .mov (.t 13)⟩,
 ⟨some 150, (some (148, false)), .mov (.t 0)⟩,
 ⟨some 151, (some (148, false)), .bin .gtr (.t 149) (.t 150)⟩,
 ⟨some 152, none, .pick (.t 148) (.c (.bool true)) (.t 151)⟩,
 ⟨some 153, none, .mov (.t 152)⟩,
 ⟨some 154, (some (153, false)), .mov (.t 10)⟩,
 ⟨some 155, (some (153, false)), .len (.t 154)⟩,
 ⟨some 156, (some (153, false)), .mov (.t 0)⟩,
 ⟨some 157, (some (153, false)), .bin .leq (.t 155) (.t 156)⟩,
 ⟨some 158, (some (153, false)), .mov (.t 157)⟩,
 ⟨some 159, (some (158, true)), .mov (.t 12)⟩,
 ⟨some 160, (some (158, true)), .mov (.t 7)⟩,
 ⟨some 161, (some (158, true)), .ncall true 0 23 [(.t 159), (.t 160)]⟩,
 ⟨some 162, (some (158, true)), .not (.t 161)⟩,
 ⟨some 163, (some (153, false)), .pick (.t 158) (.t 162) (.c (.bool false))⟩,
 ⟨some 164, none, .pick (.t 153) (.c (.bool true)) (.t 163)⟩]) (
 .gh [.keep [0, 7, 9, 10, 15, 164]] (
 .cond (.t 164) (
 .seq (
 .reg none [
 ⟨some 6, none, .mov (.c (.bool false))⟩]) (
 .ret)) (
 .skip)))) (
 .seq (
 .reg none [
 ⟨some 17, none, .mov (.c (.int .i64 0))⟩]) (
 .block 2 (
 .loop b15_0)))))) (
 .skip))) (
 .seq (
 .seq (
 .reg none [
 ⟨some 176, none, .mov (.t 10)⟩,
 ⟨some 177, none, .len (.t 176)⟩,
 ⟨some 178, none, .mov (.t 0)⟩,
 ⟨some 179, none, .bin .mul (.c (.int .i64 2)) (.t 178)⟩,
 ⟨some 180, none, .bin .gtr (.t 177) (.t 179)⟩]) (
 .cond (.t 180) (
 .seq (
 .reg none [
 ⟨some 6, none, .mov (.c (.bool true))⟩]) (
 .ret)) (
 .skip))) (
 .seq (
 .reg none [
 ⟨some 182, none, .mov (.t 0)⟩,
 ⟨some 183, none, .mov (.t 9)⟩,
 ⟨some 184, none, .ncall true 15185 20 [(.t 183)]⟩,
 ⟨some 185, none, .mov (.t 10)⟩,
 ⟨some 186, none, .ncall true 15187 20 [(.t 185)]⟩,
 ⟨some 187, none, .ncall true 15188 80 [(.t 182), (.t 184), (.t 186)]⟩,
 ⟨some 181, none, .mov (.t 187)⟩,
 ⟨some 188, none, .ext 0 (.t 181)⟩,
 ⟨some 189, none, .ext 1 (.t 181)⟩,
 ⟨some 18, none, .mov (.t 188)⟩,
 ⟨some 19, none, .mov (.t 189)⟩]) (
 .gh [.keep [7, 18, 19]] (
 .seq (
 .reg none [
 ⟨some 190, none, .mov (.t 19)⟩,
 ⟨some 191, none, .bin .eql (.t 190) (.c (.int .i64 0))⟩,
 ⟨some 192, none, .mov (.t 191)⟩,
 ⟨some 193, (some (192, true)), .mov (.t 18)⟩,
 ⟨some 194, (some (192, true)), .mov (.t 7)⟩,
 ⟨some 195, (some (192, true)), .ncall true 0 23 [(.t 193), (.t 194)]⟩,
 ⟨some 196, none, .pick (.t 192) (.t 195) (.c (.bool false))⟩,
 ⟨some 6, none, .mov (.t 196)⟩]) (
 .gh [.keep [6]] (
 .ret)))))))))))))))))
def a15 : AFunc := ⟨197, c15, [.tmp 6]⟩
/-! 16 cassegrain/cassegrainlaw05.CodeLinks params [108, 25, 25] nfree 0 ntmps 156 -/
def c16 : ACode :=
 .seq (
 .reg none [
 ⟨some 3, none, .box 16004 108 (.t 0)⟩,
 ⟨some 6, none, .mov (.c (.bool false))⟩]) (
 .seq (
 .seq (
 .reg none [
 ⟨some 16, none, .ncall true 0 18 []⟩,
 ⟨some 17, none, .not (.t 16)⟩]) (
 .cond (.t 17) (
 .seq (
 .reg none [
 ⟨some 6, none, .mov (.c (.bool false))⟩]) (
 .ret)) (
 .skip))) (
 .seq (
 .seq (
 .reg none [
 ⟨some 18, none, .mov (.t 1)⟩,
 ⟨some 19, none, .len (.t 18)⟩,
 ⟨some 20, none, .bin .gtr (.t 19) (.c (.int .i64 60))⟩,
 ⟨some 21, none, .mov (.t 20)⟩,
 ⟨some 22, (some (21, false)), .mov (.t 2)⟩,
 ⟨some 23, (some (21, false)), .len (.t 22)⟩,
 ⟨some 24, (some (21, false)), .bin .gtr (.t 23) (.c (.int .i64 500))⟩,
 ⟨some 25, none, .pick (.t 21) (.c (.bool true)) (.t 24)⟩]) (
 .gh [.keep [1, 2, 3, 25]] (
 .cond (.t 25) (
 .seq (
 .reg none [
 ⟨some 6, none, .mov (.c (.bool true))⟩]) (
 .ret)) (
 .skip)))) (
 .seq (
 .reg (some [(0, 2)]) [
 ⟨some 27, none, .load true 5 (.t 3)⟩,
 ⟨some 28, none, .mov (.t 1)⟩,
 ⟨some 29, none, .ncall true 16030 20 [(.t 28)]⟩,
 ⟨some 30, none, .ncall true 16031 84 [(.t 27), (.t 29)]⟩,
 ⟨some 26, none, .mov (.t 30)⟩,
 ⟨some 31, none, .ext 0 (.t 26)⟩,
 ⟨some 32, none, .ext 1 (.t 26)⟩,
 ⟨some 7, none, .mov (.t 31)⟩,
 ⟨some 8, none, .mov (.t 32)⟩]) (
 .gh [.keep [1, 2, 3, 7, 8]] (
 .seq (
 .reg (some [(0, 2)]) [
 ⟨some 34, none, .load true 5 (.t 3)⟩,
 ⟨some 35, none, .mov (.t 2)⟩,
 ⟨some 36, none, .ncall true 16037 20 [(.t 35)]⟩,
 ⟨some 37, none, .ncall true 16038 85 [(.t 34), (.t 36)]⟩,
 ⟨some 33, none, .mov (.t 37)⟩,
 ⟨some 38, none, .ext 0 (.t 33)⟩,
 ⟨some 39, none, .ext 1 (.t 33)⟩,
 ⟨some 40, none, .ext 2 (.t 33)⟩,
 ⟨some 9, none, .mov (.t 38)⟩,
 ⟨some 10, none, .mov (.t 39)⟩,
 ⟨some 11, none, .mov (.t 40)⟩]) (
 .gh [.keep [1, 2, 3, 7, 8, 9, 10, 11]] (
 .seq (
 .reg none [
 ⟨some 41, none, .load true 5 (.t 3)⟩,
 ⟨some 42, none, .ncall true 0 86 [(.t 41)]⟩,
 ⟨some 12, none, .mov (.t 42)⟩]) (
 .seq (
 .seq (
 .reg none [
 ⟨some 43, none, .load true 5 (.t 3)⟩,
 ⟨some 44, none, .ncall true 0 87 [(.t 43)]⟩,
 ⟨some 45, none, .mov (.t 12)⟩,
 ⟨some 46, none, .bin .neq (.t 44) (.t 45)⟩]) (
 .cond (.t 46) (
 .seq (
 .reg none [
 ⟨some 6, none, .mov (.c (.bool false))⟩]) (
 .ret)) (
 .skip))) (
 .seq (
 .seq (
 .reg none [
 ⟨some 47, none, .mov (.t 12)⟩,
 ⟨some 48, none, .bin .neq (.t 47) (.c (.int .i64 0))⟩]) (
 .cond (.t 48) (
 .seq (
 .reg none [
 ⟨some 49, none, .mov (.t 8)⟩,
 ⟨some 50, none, .mov (.t 12)⟩,
 ⟨some 51, none, .bin .eql (.t 49) (.t 50)⟩,
 ⟨some 52, none, .mov (.t 51)⟩,
 ⟨some 53, (some (52, true)), .mov (.t 11)⟩,
 ⟨some 54, (some (52, true)), .mov (.t 12)⟩,
 ⟨some 55, (some (52, true)), .bin .eql (.t 53) (.t 54)⟩,
 ⟨some 56, none, .pick (.t 52) (.t 55) (.c (.bool false))⟩,
 ⟨some 57, none, .mov (.t 56)⟩,
 ⟨some 58, (some (57, true)), .mov (.t 7)⟩,
 ⟨some 59, (some (57, true)), .len (.t 58)⟩,
 ⟨some 60, (some (57, true)), .mov (.t 9)⟩,
 ⟨some 61, (some (57, true)), .len (.t 60)⟩,
 ⟨some 62, (some (57, true)), .bin .add (.t 59) (.t 61)⟩,
 ⟨some 63, (some (57, true)), .bin .eql (.t 62) (.c (.int .i64 0))⟩,
 ⟨some 64, none, .pick (.t 57) (.t 63) (.c (.bool false))⟩,
 ⟨some 65, none, .mov (.t 64)⟩,
 ⟨some 66, (some (65, true)), .mov (.t 10)⟩,
 ⟨some 67, (some (65, true)), .bin .eql (.t 66) (.c (.int .i64 0))⟩,
 ⟨some 68, none, .pick (.t 65) (.t 67) (.c (.bool false))⟩,
 ⟨some 6, none, .mov (.t 68)⟩]) (
 .gh [.keep [6]] (
 .ret))) (
 .skip))) (
 .seq (
 .seq (
 .reg none [
 ⟨some 69, none, .mov (.t 1)⟩,
 ⟨some 70, none, .len (.t 69)⟩,
 ⟨some 71, none, .load true 5 (.t 3)⟩,
 ⟨some 72, none, .ncall true 0 88 [(.t 71)]⟩,
 ⟨some 73, none, .bin .neq (.t 70) (.t 72)⟩]) (
 .cond (.t 73) (
 .reg none [
 ⟨some 12, none, .mov (.c (.int .i64 10))⟩]) (
 .reg none [
 ⟨some 74, none, .mov (.t 1)⟩,
 ⟨some 75, none, .ncall true 0 32 [(.t 74)]⟩,
 ⟨some 12, none, .mov (.t 75)⟩]))) (
 .seq (
 .seq (
 .reg none [
 ⟨some 76, none, .mov (.t 12)⟩,
 ⟨some 77, none, .bin .neq (.t 76) (.c (.int .i64 0))⟩,
 ⟨some 78, none, .mov (.t 77)⟩,
 ⟨some 79, (some (78, true)), .mov (.t 8)⟩,
 ⟨some 80, (some (78, true)), .mov (.t 12)⟩,
 ⟨some 81, (some (78, true)), .bin .neq (.t 79) (.t 80)⟩,
 ⟨some 82, (some (78, true)), .mov (.t 81)⟩,
 ⟨some 83, (some (82, false)), .mov (.t 7)⟩,
 ⟨some 84, (some (82, false)), .len (.t 83)⟩,
 ⟨some 85, (some (82, false)), .bin .neq (.t 84) (.c (.int .i64 0))⟩,
 ⟨some 86, (some (78, true)), .pick (.t 82) (.c (.bool true)) (.t 85)⟩,
 ⟨some 87, none, .pick (.t 78) (.t 86) (.c (.bool false))⟩,
 ⟨some 88, none, .mov (.t 87)⟩,
 ⟨some 89, (some (88, false)), .mov (.t 12)⟩,
 ⟨some 90, (some (88, false)), .bin .eql (.t 89) (.c (.int .i64 0))⟩,
 ⟨some 91, (some (88, false)), .mov (.t 90)⟩,
 ⟨some 92, (some (91, true)), .mov (.t 8)⟩,
 ⟨some 93, (some (91, true)), .bin .neq (.t 92) (.c (.int .i64 0))⟩,
 ⟨some 94, (some (91, true)), .mov (.t 93)⟩,
 ⟨some 95, (some (94, false)), .mov (.t 7)⟩,
 ⟨some 96, (some (94, false)), .load true 5 (.t 3)⟩,
 ⟨some 97, (some (94, false)), .mov (.t 1)⟩,
 ⟨some 98, (some (94, false)), .ncall true 16099 89 [(.t 96), (.t 97)]⟩,
 ⟨some 99, (some (94, false)), .ncall true 0 23 [(.t 95), (.t 98)]⟩,
 ⟨some 100, (some (94, false)), .not (.t 99)⟩,
 ⟨some 101, (some (91, true)), .pick (.t 94) (.c (.bool true)) (.t 100)⟩,
 ⟨some 102, (some (88, false)), .pick (.t 91) (.t 101) (.c (.bool false))⟩,
 ⟨some 103, none, .pick (.t 88) (.c (.bool true)) (.t 102)⟩]) (
 .gh [.keep [2, 3, 9, 10, 11, 103]] (
 .cond (.t 103) (
 .seq (
 .reg none [
 ⟨some 6, none, .mov (.c (.bool false))⟩]) (
 .ret)) (
 .skip)))) (
 .seq (
 .seq (
 .reg none [
 ⟨some 104, none, .mov (.t 2)⟩,
 ⟨some 105, none, .len (.t 104)⟩,
 ⟨some 106, none, .load true 5 (.t 3)⟩,
 ⟨some 107, none, .ncall true 0 90 [(.t 106)]⟩,
 ⟨some 108, none, .bin .neq (.t 105) (.t 107)⟩]) (
 .cond (.t 108) (
 .reg none [
 ⟨some 12, none, .mov (.c (.int .i64 10))⟩]) (
 .reg none [
 ⟨some 109, none, .mov (.t 2)⟩,
 ⟨some 110, none, .ncall true 0 91 [(.t 109)]⟩,
 ⟨some 12, none, .mov (.t 110)⟩]))) (
 .seq (
 .seq (
 .reg none [
 ⟨some 111, none, .mov (.t 12)⟩,
 ⟨some 112, none, .bin .neq (.t 111) (.c (.int .i64 0))⟩]) (
 .cond (.t 112) (
 .seq (
 .reg none [
 ⟨some 113, none, .mov (.t 11)⟩,
 ⟨some 114, none, .mov (.t 12)⟩,
 ⟨some 115, none, .bin .eql (.t 113) (.t 114)⟩,
 ⟨some 116, none, .mov (.t 115)⟩,
 ⟨some 117, (some (116, true)), .mov (.t 9)⟩,
 ⟨some 118, (some (116, true)), .len (.t 117)⟩,
 ⟨some 119, (some (116, true)), .bin .eql (.t 118) (.c (.int .i64 0))⟩,
 ⟨some 120, none, .pick (.t 116) (.t 119) (.c (.bool false))⟩,
 ⟨some 121, none, .mov (.t 120)⟩,
 ⟨some 122, (some (121, true)), .mov (.t 10)⟩,
 ⟨some 123, (some (121, true)), .bin .eql (.t 122) (.c (.int .i64 0))⟩,
 ⟨some 124, none, .pick (.t 121) (.t 123) (.c (.bool false))⟩,
 ⟨some 6, none, .mov (.t 124)⟩]) (
 .gh [.keep [6]] (
 .ret))) (
 .skip))) (
 .seq (
 .seq (
 .reg none [
 ⟨some 126, none, .load true 5 (.t 3)⟩,
 ⟨some 127, none, .mov (.t 2)⟩,
 ⟨some 128, none, .ncall true 16129 92 [(.t 126), (.t 127)]⟩,
 ⟨some 125, none, .mov (.t 128)⟩,
 ⟨some 129, none, .ext 0 (.t 125)⟩,
 ⟨some 130, none, .ext 1 (.t 125)⟩,
 ⟨some 131, none, .ext 2 (.t 125)⟩,
 ⟨some 13, none, .mov (.t 129)⟩,
 ⟨some 14, none, .mov (.t 130)⟩,
 ⟨some 15, none, .mov (.t 131)⟩]) (
 .gh [.keep [9, 10, 11, 13, 14, 15]] (
 .seq (
 .reg none [
 ⟨some 132, none, .mov (.t 15)⟩]) (
 .cond (.t 132) (
 .seq (
 .reg none [
 ⟨some 133, none, .mov (.t 11)⟩,
 ⟨some 134, none, .bin .eql (.t 133) (.c (.int .i64 0))⟩,
 ⟨some 135, none, .mov (.t 134)⟩,
 ⟨some 136, (some (135, true)), .mov (.t 9)⟩,
 ⟨some 137, (some (135, true)), .mov (.t 13)⟩,
 ⟨some 138, (some (135, true)), .ncall true 0 23 [(.t 136), (.t 137)]⟩,
 ⟨some 139, none, .pick (.t 135) (.t 138) (.c (.bool false))⟩,
 ⟨some 140, none, .mov (.t 139)⟩,
 ⟨some 141, (some (140, true)), .mov (.t 10)⟩,
 ⟨some 142, (some (140, true)), .mov (.t 14)⟩,
 ⟨some 143, (some (140, true)), .bin .eql (.t 141) (.t 142)⟩,
 ⟨some 144, none, .pick (.t 140) (.t 143) (.c (.bool false))⟩,
 ⟨some 6, none, .mov (.t 144)⟩]) (
 .gh [.keep [6]] (
 .ret))) (
 .skip))))) (
 .seq (
 .reg none [
 ⟨some 145, none, .mov (.t 11)⟩,
 ⟨some 146, none, .bin .eql (.t 145) (.c (.int .i64 27))⟩,
 ⟨some 147, none, .mov (.t 146)⟩,
 ⟨some 148, (some (147, true)), .mov (.t 9)⟩,
 ⟨some 149, (some (147, true)), .len (.t 148)⟩,
 ⟨some 150, (some (147, true)), .bin .eql (.t 149) (.c (.int .i64 0))⟩,
 ⟨some 151, none, .pick (.t 147) (.t 150) (.c (.bool false))⟩,
 ⟨some 152, none, .mov (.t 151)⟩,
 ⟨some 153, (some (152, true)), .mov (.t 10)⟩,
 ⟨some 154, (some (152, true)), .bin .eql (.t 153) (.c (.int .i64 0))⟩,
 ⟨some 155, none, .pick (.t 152) (.t 154) (.c (.bool false))⟩,
 ⟨some 6, none, .mov (.t 155)⟩]) (
 .gh [.keep [6]] (
 .ret)))))))))))))))))
def a16 : AFunc := ⟨156, c16, [.tmp 6]⟩
/-! 17 cassegrain/cassegrainlaw05.CodeThrough params [108, 25, 59] nfree 0 ntmps 266 -/
def l17_0 : ACode :=
 .seq (
 .seq (
 .reg none [
 ⟨some 217, none, .mov (.t 27)⟩,
 ⟨some 218, none, .faddr 4 (.t 3)⟩,
 ⟨some 219, none, .load false 1 (.t 218)⟩,
 ⟨some 220, none, .bin .lss (.t 217) (.t 219)⟩]) (
 .cond (.t 220) (
 .skip) (
 .exit 4))) (
 .seq (
 .block 5 (
 .seq (
 .seq (
 .reg (some []) [
 ⟨some 223, none, .mov (.t 24)⟩,
 ⟨some 224, none, .mov (.t 27)⟩,
 ⟨some 225, none, .iaddr 1 (.t 223) (.t 224)⟩,
 ⟨some 226, none, .load false 1 (.t 225)⟩,
 ⟨some 227, none, .faddr 3 (.t 3)⟩,
 ⟨some 228, none, .load false 1 (.t 227)⟩,
 ⟨some 229, none, .bin .gtr (.t 226) (.t 228)⟩]) (
 .gh [.keep [1, 3, 15, 16, 17, 24, 26, 27, 229]] (
 .cond (.t 229) (
 .seq (
 .reg none [
 ⟨some 230, none, .mov (.t 17)⟩,
 ⟨some 231, none, .bin .eql (.t 230) (.c (.int .i64 27))⟩,
 ⟨some 232, none, .mov (.t 231)⟩,
 ⟨some 233, (some (232, true)), .mov (.t 15)⟩,
 ⟨some 234, (some (232, true)), .len (.t 233)⟩,
 ⟨some 235, (some (232, true)), .bin .eql (.t 234) (.c (.int .i64 0))⟩,
 ⟨some 236, none, .pick (.t 232) (.t 235) (.c (.bool false))⟩,
 ⟨some 237, none, .mov (.t 236)⟩,
 ⟨some 238, (some (237, false)), .mov (.t 17)⟩,
 ⟨some 239, (some (237, false)), .bin .eql (.t 238) (.c (.int .i64 0))⟩,
 ⟨some 240, (some (237, false)), .mov (.t 239)⟩,
 ⟨some 241, (some (240, true)), .mov (.t 15)⟩,
 ⟨some 242, (some (240, true)), .len (.t 241)⟩,
 ⟨some 243, (some (240, true)), .mov (.t 1)⟩,
 ⟨some 244, (some (240, true)), .len (.t 243)⟩,
 ⟨some 245, (some (240, true)), .bin .eql (.t 242) (.t 244)⟩,
 ⟨some 246, (some (237, false)), .pick (.t 240) (.t 245) (.c (.bool false))⟩,
 ⟨some 247, none, .pick (.t 237) (.c (.bool true)) (.t 246)⟩,
 ⟨some 6, none, .mov (.t 247)⟩]) (
 .gh [.keep [6]] (
 .ret))) (
 .skip)))) (
 .reg none [
 ⟨some 248, none, .mov (.t 26)⟩,
 ⟨some 249, none, .mov (.t 24)⟩,
 ⟨some 250, none, .mov (.t 27)⟩,
 ⟨some 251, none, .iaddr 1 (.t 249) (.t 250)⟩,
 ⟨some 252, none, .load false 1 (.t 251)⟩,
 ⟨some 253, none, .bin .add (.t 248) (.t 252)⟩,
 ⟨some 26, none, .mov (.t 253)⟩]))) (
 .reg none [
 ⟨some 221, none, .mov (.t 27)⟩,
 ⟨some 222, none, .bin .add (.t 221) (.c (.int .i64 1))⟩,
 ⟨some 27, none, .mov (.t 222)⟩]))
def b17_0 : ACode := .gh [.keep [1, 3, 15, 16, 17, 24, 26, 27]] (.gh [] l17_0)
def l17_1 : ACode :=
 .seq (
 .seq (
 .reg none [
 ⟨some 180, none, .mov (.t 25)⟩,
 ⟨some 181, none, .faddr 4 (.t 3)⟩,
 ⟨some 182, none, .load false 1 (.t 181)⟩,
 ⟨some 183, none, .bin .mul (.c (.int .i64 15)) (.t 182)⟩,
 ⟨some 184, none, .bin .lss (.t 180) (.t 183)⟩]) (
 .cond (.t 184) (
 .skip) (
 .exit 2))) (
 .seq (
 .block 3 (
 .seq (
 .reg (some []) [
 ⟨some 187, none, .mov (.t 18)⟩,
 ⟨some 188, none, .mov (.t 25)⟩,
 ⟨some 189, none, .bin .mul (.c (.int .i64 4)) (.t 188)⟩,
 ⟨some 190, none, .mov (.t 25)⟩,
 ⟨some 191, none, .bin .mul (.c (.int .i64 4)) (.t 190)⟩,
 ⟨some 192, none, .bin .add (.t 191) (.c (.int .i64 4))⟩,
 ⟨some 193, none, .slc 1 (.t 187) (some (.t 189)) (some (.t 192)) none⟩,
 ⟨some 194, none, .mov (.t 21)⟩,
 ⟨some 195, none, .mov (.t 25)⟩,
 ⟨some 196, none, .bin .mul (.c (.int .i64 4)) (.t 195)⟩,
 ⟨some 197, none, .mov (.t 25)⟩,
 ⟨some 198, none, .bin .mul (.c (.int .i64 4)) (.t 197)⟩,
 ⟨some 199, none, .bin .add (.t 198) (.c (.int .i64 4))⟩,
 ⟨some 200, none, .slc 1 (.t 194) (some (.t 196)) (some (.t 199)) none⟩,
 ⟨some 201, none, .ncall true 0 23 [(.t 193), (.t 200)]⟩,
 ⟨some 202, none, .not (.t 201)⟩]) (
 .gh [.keep [1, 3, 15, 16, 17, 18, 21, 24, 25, 202]] (
 .cond (.t 202) (
 .reg (some []) [
 ⟨some 203, none, .mov (.t 24)⟩,
 ⟨some 204, none, .mov (.t 25)⟩,
 ⟨some 205, none, .faddr 4 (.t 3)⟩,
 ⟨some 206, none, .load false 1 (.t 205)⟩,
 ⟨some 207, none, .bin .rem (.t 204) (.t 206)⟩,
 ⟨some 208, none, .mov (.t 24)⟩,
 ⟨some 209, none, .mov (.t 25)⟩,
 ⟨some 210, none, .faddr 4 (.t 3)⟩,
 ⟨some 211, none, .load false 1 (.t 210)⟩,
 ⟨some 212, none, .bin .rem (.t 209) (.t 211)⟩,
 ⟨some 213, none, .iaddr 1 (.t 208) (.t 212)⟩,
 ⟨some 214, none, .load false 1 (.t 213)⟩,
 ⟨some 215, none, .bin .add (.t 214) (.c (.int .i64 1))⟩,
 ⟨some 216, none, .iaddr 1 (.t 203) (.t 207)⟩,
 ⟨none, none, .store 1 (.t 216) (.t 215)⟩]) (
 .skip))))) (
 .reg none [
 ⟨some 185, none, .mov (.t 25)⟩,
 ⟨some 186, none, .bin .add (.t 185) (.c (.int .i64 1))⟩,
 ⟨some 25, none, .mov (.t 186)⟩]))
def b17_1 : ACode := .gh [.keep [1, 3, 15, 16, 17, 18, 21, 24, 25]] (.gh [] l17_1)
def l17_2 : ACode :=
 .seq (
 .seq (
 .reg none [
 ⟨some 88, none, .mov (.t 13)⟩,
 ⟨some 89, none, .mov (.t 7)⟩,
 ⟨some 90, none, .len (.t 89)⟩,
 ⟨some 91, none, .bin .lss (.t 88) (.t 90)⟩]) (
 .cond (.t 91) (
 .skip) (
 .exit 0))) (
 .seq (
 .block 1 (
 .seq (
 .reg (some []) [
 ⟨some 94, none, .faddr 1 (.t 5)⟩,
 ⟨some 95, none, .load false 1 (.t 94)⟩,
 ⟨some 96, none, .mov (.t 7)⟩,
 ⟨some 97, none, .mov (.t 13)⟩,
 ⟨some 98, none, .iaddr 1 (.t 96) (.t 97)⟩,
 ⟨some 99, none, .load false 1 (.t 98)⟩,
 ⟨some 100, none, .bin .mul (.c (.int .i64 2)) (.t 99)⟩,
 ⟨some 101, none, .bin .sub (.c (.int .i64 1)) (.t 100)⟩,
 ⟨some 102, none, .bin .mul (.t 95) (.t 101)⟩,
 ⟨some 14, none, .mov (.t 102)⟩]) (
 .gh [.keep [1, 3, 5, 7, 9, 11, 12, 13, 14]] (
 .seq (
 .seq (
 .reg none [
 ⟨some 103, none, .faddr 0 (.t 5)⟩,
 ⟨some 104, none, .load false 1 (.t 103)⟩,
 ⟨some 105, none, .mov (.t 13)⟩,
 ⟨some 106, none, .ncall true 0 49 [(.t 104), (.t 105)]⟩]) (
 .cond (.t 106) (
 .reg none [
 ⟨some 107, none, .mov (.t 14)⟩,
 ⟨some 108, none, .neg (.t 107)⟩,
 ⟨some 109, none, .mov (.t 12)⟩,
 ⟨some 110, none, .bin .add (.t 109) (.c (.int .i64 1))⟩,
 ⟨some 14, none, .mov (.t 108)⟩,
 ⟨some 12, none, .mov (.t 110)⟩]) (
 .skip))) (
 .reg none [
 ⟨some 111, none, .mov (.t 11)⟩,
 ⟨some 112, none, .mov (.t 14)⟩,
 ⟨some 113, none, .bslice 17114 3 1 [(.t 112)]⟩,
 ⟨some 114, none, .append 17115 3 1 (.t 111) (.t 113)⟩,
 ⟨some 11, none, .mov (.t 114)⟩]))))) (
 .reg none [
 ⟨some 92, none, .mov (.t 13)⟩,
 ⟨some 93, none, .bin .add (.t 92) (.c (.int .i64 1))⟩,
 ⟨some 13, none, .mov (.t 93)⟩]))
def b17_2 : ACode := .gh [.keep [1, 3, 5, 7, 9, 11, 12, 13]] (.gh [] l17_2)
def k17_0 : List AItem := .inLoop b17_0 :: [.inBlock 4,
 .code (.seq (
 .reg none [
 ⟨some 254, none, .mov (.t 17)⟩,
 ⟨some 255, none, .bin .eql (.t 254) (.c (.int .i64 0))⟩,
 ⟨some 256, none, .mov (.t 255)⟩,
 ⟨some 257, (some (256, true)), .mov (.t 15)⟩,
 ⟨some 258, (some (256, true)), .mov (.t 1)⟩,
 ⟨some 259, (some (256, true)), .ncall true 0 23 [(.t 257), (.t 258)]⟩,
 ⟨some 260, none, .pick (.t 256) (.t 259) (.c (.bool false))⟩,
 ⟨some 261, none, .mov (.t 260)⟩,
 ⟨some 262, (some (261, true)), .mov (.t 16)⟩,
 ⟨some 263, (some (261, true)), .mov (.t 26)⟩,
 ⟨some 264, (some (261, true)), .bin .eql (.t 262) (.t 263)⟩,
 ⟨some 265, none, .pick (.t 261) (.t 264) (.c (.bool false))⟩,
 ⟨some 6, none, .mov (.t 265)⟩]) (
 .gh [.keep [6]] (
 .ret)))]
def k17_1 : List AItem := .inLoop b17_1 :: [.inBlock 2,
 .code (.seq (
 .reg none [
 ⟨some 26, none, .mov (.c (.int .i64 0))⟩]) (
 .seq (
 .seq (
 .reg none [
 ⟨some 27, none, .mov (.c (.int .i64 0))⟩]) (
 .block 4 (
 .loop b17_0))) (
 .seq (
 .reg none [
 ⟨some 254, none, .mov (.t 17)⟩,
 ⟨some 255, none, .bin .eql (.t 254) (.c (.int .i64 0))⟩,
 ⟨some 256, none, .mov (.t 255)⟩,
 ⟨some 257, (some (256, true)), .mov (.t 15)⟩,
 ⟨some 258, (some (256, true)), .mov (.t 1)⟩,
 ⟨some 259, (some (256, true)), .ncall true 0 23 [(.t 257), (.t 258)]⟩,
 ⟨some 260, none, .pick (.t 256) (.t 259) (.c (.bool false))⟩,
 ⟨some 261, none, .mov (.t 260)⟩,
 ⟨some 262, (some (261, true)), .mov (.t 16)⟩,
 ⟨some 263, (some (261, true)), .mov (.t 26)⟩,
 ⟨some 264, (some (261, true)), .bin .eql (.t 262) (.t 263)⟩,
 ⟨some 265, none, .pick (.t 261) (.t 264) (.c (.bool false))⟩,
 ⟨some 6, none, .mov (.t 265)⟩]) (
 .gh [.keep [6]] (
 .ret)))))]
def k17_2 : List AItem := .inLoop b17_2 :: [.inBlock 0,
 .code (.seq (
 .reg (some [(0, 2)]) [
 ⟨some 116, none, .load true 5 (.t 3)⟩,
 ⟨some 117, none, .mov (.t 11)⟩,
 ⟨some 118, none, .ncall true 17119 20 [(.t 117)]⟩,
 ⟨some 119, none, .ncall true 17120 85 [(.t 116), (.t 118)]⟩,
 ⟨some 115, none, .mov (.t 119)⟩,
 ⟨some 120, none, .ext 0 (.t 115)⟩,
 ⟨some 121, none, .ext 1 (.t 115)⟩,
 ⟨some 122, none, .ext 2 (.t 115)⟩,
 ⟨some 15, none, .mov (.t 120)⟩,
 ⟨some 16, none, .mov (.t 121)⟩,
 ⟨some 17, none, .mov (.t 122)⟩]) (
 .gh [.keep [1, 3, 7, 9, 11, 12, 15, 16, 17]] (
 .seq (
 .seq (
 .reg none [
 ⟨some 123, none, .mov (.t 12)⟩,
 ⟨some 124, none, .bin .mul (.c (.int .i64 2)) (.t 123)⟩,
 ⟨some 125, none, .mov (.t 9)⟩,
 ⟨some 126, none, .bin .lss (.t 124) (.t 125)⟩]) (
 .cond (.t 126) (
 .seq (
 .reg none [
 ⟨some 127, none, .mov (.t 17)⟩,
 ⟨some 128, none, .bin .eql (.t 127) (.c (.int .i64 0))⟩,
 ⟨some 129, none, .mov (.t 128)⟩,
 ⟨some 130, (some (129, true)), .mov (.t 15)⟩,
 ⟨some 131, (some (129, true)), .mov (.t 1)⟩,
 ⟨some 132, (some (129, true)), .ncall true 0 23 [(.t 130), (.t 131)]⟩,
 ⟨some 133, none, .pick (.t 129) (.t 132) (.c (.bool false))⟩,
 ⟨some 134, none, .mov (.t 133)⟩,
 ⟨some 135, (some (134, true)), .mov (.t 16)⟩,
 ⟨some 136, (some (134, true)), .bin .eql (.t 135) (.c (.int .i64 0))⟩,
 ⟨some 137, none, .pick (.t 134) (.t 136) (.c (.bool false))⟩,
 ⟨some 6, none, .mov (.t 137)⟩]) (
 .gh [.keep [6]] (
 .ret))) (
 .skip))) (
 .seq (
 .reg (some [(0, 3), (1, 3)]) [
 ⟨some 139, none, .faddr 0 (.t 3)⟩,
 ⟨some 140, none, .load true 3 (.t 139)⟩,
 ⟨some 141, none, .mov (.t 11)⟩,
 ⟨some 142, none, .ncall true 17143 20 [(.t 141)]⟩,
 ⟨some 143, none, .ncall true 17144 19 [(.t 140), (.t 142)]⟩,
 ⟨some 138, none, .mov (.t 143)⟩,
 ⟨some 144, none, .ext 0 (.t 138)⟩,
 ⟨some 145, none, .ext 1 (.t 138)⟩,
 ⟨some 146, none, .ext 2 (.t 138)⟩,
 ⟨some 18, none, .mov (.t 144)⟩,
 ⟨some 19, none, .mov (.t 145)⟩,
 ⟨some 20, none, .mov (.t 146)⟩]) (
 .gh [.keep [1, 3, 7, 15, 16, 17, 18, 20]] (
 .seq (
 .reg (some [(0, 3), (1, 3)]) [
 ⟨some 148, none, .faddr 0 (.t 3)⟩,
 ⟨some 149, none, .load true 3 (.t 148)⟩,
 ⟨some 150, none, .mov (.t 7)⟩,
 ⟨some 151, none, .ncall true 17152 93 [(.t 150)]⟩,
 ⟨some 152, none, .ncall true 17153 19 [(.t 149), (.t 151)]⟩,
 ⟨some 147, none, .mov (.t 152)⟩,
 ⟨some 153, none, .ext 0 (.t 147)⟩,
 ⟨some 154, none, .ext 1 (.t 147)⟩,
 ⟨some 155, none, .ext 2 (.t 147)⟩,
 ⟨some 21, none, .mov (.t 153)⟩,
 ⟨some 22, none, .mov (.t 154)⟩,
 ⟨some 23, none, .mov (.t 155)⟩]) (
 .gh [.keep [1, 3, 15, 16, 17, 18, 20, 21, 23]] (
 .seq (
 .seq (
 .reg none [
 ⟨some 156, none, .mov (.t 20)⟩,
 ⟨some 157, none, .bin .neq (.t 156) (.c (.int .i64 0))⟩,
 ⟨some 158, none, .mov (.t 157)⟩,
 ⟨some 159, (some (158, false)), .mov (.t 23)⟩,
 ⟨some 160, (some (158, false)), .bin .neq (.t 159) (.c (.int .i64 0))⟩,
 ⟨some 161, none, .pick (.t 158) (.c (.bool true)) (.t 160)⟩,
 ⟨some 162, none, .mov (.t 161)⟩,
 ⟨some 163, (some (162, false)), .mov (.t 18)⟩,
 ⟨some 164, (some (162, false)), .len (.t 163)⟩,
 ⟨some 165, (some (162, false)), .mov (.t 21)⟩,
 ⟨some 166, (some (162, false)), .len (.t 165)⟩,
 ⟨some 167, (some (162, false)), .bin .neq (.t 164) (.t 166)⟩,
 ⟨some 168, none, .pick (.t 162) (.c (.bool true)) (.t 167)⟩,
 ⟨some 169, none, .mov (.t 168)⟩,
 ⟨some 170, (some (169, false)), .mov (.t 21)⟩,
 ⟨some 171, (some (169, false)), .len (.t 170)⟩,
 ⟨some 172, (some (169, false)), .faddr 4 (.t 3)⟩,
 ⟨some 173, (some (169, false)), .load false 1 (.t 172)⟩,
 ⟨some 174, (some (169, false)), .bin .mul (.c (.int .i64 60)) (.t 173)⟩,
 ⟨some 175, (some (169, false)), .bin .neq (.t 171) (.t 174)⟩,
 ⟨some 176, none, .pick (.t 169) (.c (.bool true)) (.t 175)⟩]) (
 .gh [.keep [1, 3, 15, 16, 17, 18, 21, 176]] (
 .cond (.t 176) (
 .seq (
 .reg none [
 ⟨some 6, none, .mov (.c (.bool false))⟩]) (
 .ret)) (
 .skip)))) (
 .seq (
 .reg none [
 ⟨some 177, none, .faddr 4 (.t 3)⟩,
 ⟨some 178, none, .load false 1 (.t 177)⟩,
 ⟨some 179, none, .mkslice 17180 3 1 (.int .i64 0) (.t 178)⟩,
 ⟨some 24, none, .mov (.t 179)⟩]) (
 .seq (
 .seq (
 .reg none [
 ⟨some 25, none, .mov (.c (.int .i64 0))⟩]) (
 .block 2 (
 .loop b17_1))) (
 .seq (
 .reg none [
 ⟨some 26, none, .mov (.c (.int .i64 0))⟩]) (
 .seq (
 .seq (
 .reg none [
 ⟨some 27, none, .mov (.c (.int .i64 0))⟩]) (
 .block 4 (
 .loop b17_0))) (
 .seq (
 .reg none [
 ⟨some 254, none, .mov (.t 17)⟩,
 ⟨some 255, none, .bin .eql (.t 254) (.c (.int .i64 0))⟩,
 ⟨some 256, none, .mov (.t 255)⟩,
 ⟨some 257, (some (256, true)), .mov (.t 15)⟩,
 ⟨some 258, (some (256, true)), .mov (.t 1)⟩,
 ⟨some 259, (some (256, true)), .ncall true 0 23 [(.t 257), (.t 258)]⟩,
 ⟨some 260, none, .pick (.t 256) (.t 259) (.c (.bool false))⟩,
 ⟨some 261, none, .mov (.t 260)⟩,
 ⟨some 262, (some (261, true)), .mov (.t 16)⟩,
 ⟨some 263, (some (261, true)), .mov (.t 26)⟩,
 ⟨some 264, (some (261, true)), .bin .eql (.t 262) (.t 263)⟩,
 ⟨some 265, none, .pick (.t 261) (.t 264) (.c (.bool false))⟩,
 ⟨some 6, none, .mov (.t 265)⟩]) (
 .gh [.keep [6]] (
 .ret)))))))))))))))]
def c17 : ACode :=
 .seq (
 .reg none [
 ⟨some 3, none, .box 17004 108 (.t 0)⟩,
 ⟨some 5, none, .box 17006 59 (.t 2)⟩,
 ⟨some 6, none, .mov (.c (.bool false))⟩]) (
 .seq (
 .seq (
 .reg none [
 ⟨some 28, none, .ncall true 0 18 []⟩,
 ⟨some 29, none, .not (.t 28)⟩]) (
 .cond (.t 29) (
 .seq (
 .reg none [
 ⟨some 6, none, .mov (.c (.bool false))⟩]) (
 .ret)) (
 .skip))) (
 .seq (
 .seq (
 .reg none [
 ⟨some 30, none, .load true 5 (.t 3)⟩,
 ⟨some 31, none, .ncall true 0 86 [(.t 30)]⟩,
 ⟨some 32, none, .bin .neq (.t 31) (.c (.int .i64 0))⟩,
 ⟨some 33, none, .mov (.t 32)⟩,
 ⟨some 34, (some (33, false)), .mov (.t 1)⟩,
 ⟨some 35, (some (33, false)), .len (.t 34)⟩,
 ⟨some 36, (some (33, false)), .load true 5 (.t 3)⟩,
 ⟨some 37, (some (33, false)), .ncall true 0 88 [(.t 36)]⟩,
 ⟨some 38, (some (33, false)), .bin .neq (.t 35) (.t 37)⟩,
 ⟨some 39, none, .pick (.t 33) (.c (.bool true)) (.t 38)⟩,
 ⟨some 40, none, .mov (.t 39)⟩,
 ⟨some 41, (some (40, false)), .mov (.t 1)⟩,
 ⟨some 42, (some (40, false)), .ncall true 0 32 [(.t 41)]⟩,
 ⟨some 43, (some (40, false)), .bin .neq (.t 42) (.c (.int .i64 0))⟩,
 ⟨some 44, none, .pick (.t 40) (.c (.bool true)) (.t 43)⟩,
 ⟨some 45, none, .mov (.t 44)⟩,
 ⟨some 46, (some (45, false)), .faddr 0 (.t 5)⟩,
 ⟨some 47, (some (45, false)), .load false 1 (.t 46)⟩,
 ⟨some 48, (some (45, false)), .len (.t 47)⟩,
 ⟨some 49, (some (45, false)), .bin .gtr (.t 48) (.c (.int .i64 10))⟩,
 ⟨some 50, none, .pick (.t 45) (.c (.bool true)) (.t 49)⟩,
 ⟨some 51, none, .mov (.t 50)⟩,
 ⟨some 52, (some (51, false)), .faddr 1 (.t 5)⟩,
 ⟨some 53, (some (51, false)), .load false 1 (.t 52)⟩,
 ⟨some 54, (some (51, false)), .ncall true 0 45 [(.t 53), (.c (.int .i64 1)), (.c (.int .i64 7))]⟩,
 ⟨some 55, (some (51, false)), .not (.t 54)⟩,
 ⟨some 56, none, .pick (.t 51) (.c (.bool true)) (.t 55)⟩]) (
 .gh [.keep [1, 3, 5, 56]] (
 .cond (.t 56) (
 .seq (
 .reg none [
 ⟨some 6, none, .mov (.c (.bool true))⟩]) (
 .ret)) (
 .skip)))) (
 .seq (
 .reg (some [(0, 2)]) [
 ⟨some 58, none, .load true 5 (.t 3)⟩,
 ⟨some 59, none, .mov (.t 1)⟩,
 ⟨some 60, none, .ncall true 17061 20 [(.t 59)]⟩,
 ⟨some 61, none, .ncall true 17062 84 [(.t 58), (.t 60)]⟩,
 ⟨some 57, none, .mov (.t 61)⟩,
 ⟨some 62, none, .ext 0 (.t 57)⟩,
 ⟨some 63, none, .ext 1 (.t 57)⟩,
 ⟨some 7, none, .mov (.t 62)⟩,
 ⟨some 8, none, .mov (.t 63)⟩]) (
 .gh [.keep [1, 3, 5, 7, 8]] (
 .seq (
 .reg none [
 ⟨some 65, none, .faddr 0 (.t 3)⟩,
 ⟨some 66, none, .load true 3 (.t 65)⟩,
 ⟨some 67, none, .ncall true 0 47 [(.t 66)]⟩,
 ⟨some 64, none, .mov (.t 67)⟩,
 ⟨some 68, none, .ext 0 (.t 64)⟩,
 ⟨some 69, none, .ext 1 (.t 64)⟩,
 ⟨some 9, none, .mov (.t 68)⟩,
 ⟨some 10, none, .mov (.t 69)⟩]) (
 .gh [.keep [1, 3, 5, 7, 8, 9, 10]] (
 .seq (
 .seq (
 .reg none [
 ⟨some 70, none, .mov (.t 8)⟩,
 ⟨some 71, none, .bin .neq (.t 70) (.c (.int .i64 0))⟩,
 ⟨some 72, none, .mov (.t 71)⟩,
 ⟨some 73, (some (72, false)), .mov (.t 10)⟩,
 ⟨some 74, (some (72, false)), .bin .neq (.t 73) (.c (.int .i64 0))⟩,
 ⟨some 75, none, .pick (.t 72) (.c (.bool true)) (.t 74)⟩,
 ⟨some 76, none, .mov (.t 75)⟩,
 ⟨some 77, (some (76, false)), .mov (.t 7)⟩,
 ⟨some 78, (some (76, false)), .len (.t 77)⟩,
 ⟨some 79, (some (76, false)), .load true 5 (.t 3)⟩,
 ⟨some 80, (some (76, false)), .ncall true 0 90 [(.t 79)]⟩,
 ⟨some 81, (some (76, false)), .bin .neq (.t 78) (.t 80)⟩,
 ⟨some 82, none, .pick (.t 76) (.c (.bool true)) (.t 81)⟩,
 ⟨some 83, none, .mov (.t 82)⟩,
 ⟨some 84, (some (83, false)), .mov (.t 7)⟩,
 ⟨some 85, (some (83, false)), .ncall true 0 48 [(.t 84)]⟩,
 ⟨some 86, (some (83, false)), .not (.t 85)⟩,
 ⟨some 87, none, .pick (.t 83) (.c (.bool true)) (.t 86)⟩]) (
 .gh [.keep [1, 3, 5, 7, 9, 87]] (
 .cond (.t 87) (
 .seq (
 .reg none [
 ⟨some 6, none, .mov (.c (.bool false))⟩]) (
 .ret)) (
 .skip)))) (
 .seq (
 .reg none [
 ⟨some 11, none, .mov (.c .nils)⟩]) (
 .seq (
 .reg none [
 ⟨some 12, none, .mov (.c (.int .i64 0))⟩]) (
 .seq (
 .seq (
 .reg none [
 ⟨some 13, none, .mov (.c (.int .i64 0))⟩]) (
 .block 0 (
 .loop b17_2))) (
 .seq (
 .reg (some [(0, 2)]) [
 ⟨some 116, none, .load true 5 (.t 3)⟩,
 ⟨some 117, none, .mov (.t 11)⟩,
 ⟨some 118, none, .ncall true 17119 20 [(.t 117)]⟩,
 ⟨some 119, none, .ncall true 17120 85 [(.t 116), (.t 118)]⟩,
 ⟨some 115, none, .mov (.t 119)⟩,
 ⟨some 120, none, .ext 0 (.t 115)⟩,
 ⟨some 121, none, .ext 1 (.t 115)⟩,
 ⟨some 122, none, .ext 2 (.t 115)⟩,
 ⟨some 15, none, .mov (.t 120)⟩,
 ⟨some 16, none, .mov (.t 121)⟩,
 ⟨some 17, none, .mov (.t 122)⟩]) (
 .gh [.keep [1, 3, 7, 9, 11, 12, 15, 16, 17]] (
 .seq (
 .seq (
 .reg none [
 ⟨some 123, none, .mov (.t 12)⟩,
 ⟨some 124, none, .bin .mul (.c (.int .i64 2)) (.t 123)⟩,
 ⟨some 125, none, .mov (.t 9)⟩,
 ⟨some 126, none, .bin .lss (.t 124) (.t 125)⟩]) (
 .cond (.t 126) (
 .seq (
 .reg none [
 ⟨some 127, none, .mov (.t 17)⟩,
 ⟨some 128, none, .bin .eql (.t 127) (.c (.int .i64 0))⟩,
 ⟨some 129, none, .mov (.t 128)⟩,
 ⟨some 130, (some (129, true)), .mov (.t 15)⟩,
 ⟨some 131, (some (129, true)), .mov (.t 1)⟩,
 ⟨some 132, (some (129, true)), .ncall true 0 23 [(.t 130), (.t 131)]⟩,
 ⟨some 133, none, .pick (.t 129) (.t 132) (.c (.bool false))⟩,
 ⟨some 134, none, .mov (.t 133)⟩,
 ⟨some 135, (some (134, true)), .mov (.t 16)⟩,
 ⟨some 136, (some (134, true)), .bin .eql (.t 135) (.c (.int .i64 0))⟩,
 ⟨some 137, none, .pick (.t 134) (.t 136) (.c (.bool false))⟩,
 ⟨some 6, none, .mov (.t 137)⟩]) (
 .gh [.keep [6]] (
 .ret))) (
 .skip))) (
 .seq (
 .reg (some [(0, 3), (1, 3)]) [
 ⟨some 139, none, .faddr 0 (.t 3)⟩,
 ⟨some 140, none, .load true 3 (.t 139)⟩,
 ⟨some 141, none, .mov (.t 11)⟩,
 ⟨some 142, none, .ncall true 17143 20 [(.t 141)]⟩,
 ⟨some 143, none, .ncall true 17144 19 [(.t 140), (.t 142)]⟩,
 ⟨some 138, none, .mov (.t 143)⟩,
 ⟨some 144, none, .ext 0 (.t 138)⟩,
 ⟨some 145, none, .ext 1 (.t 138)⟩,
 ⟨some 146, none, .ext 2 (.t 138)⟩,
 ⟨some 18, none, .mov (.t 144)⟩,
 ⟨some 19, none, .mov (.t 145)⟩,
 ⟨some 20, none, .mov (.t 146)⟩]) (
 .gh [.keep [1, 3, 7, 15, 16, 17, 18, 20]] (
 .seq (
 .reg (some [(0, 3), (1, 3)]) [
 ⟨some 148, none, .faddr 0 (.t 3)⟩,
 ⟨some 149, none, .load true 3 (.t 148)⟩,
 ⟨some 150, none, .mov (.t 7)⟩,
 ⟨some 151, none, .ncall true 17152 93 [(.t 150)]⟩,
 ⟨some 152, none, .ncall true 17153 19 [(.t 149), (.t 151)]⟩,
 ⟨some 147, none, .mov (.t 152)⟩,
 ⟨some 153, none, .ext 0 (.t 147)⟩,
 ⟨some 154, none, .ext 1 (.t 147)⟩,
 ⟨some 155, none, .ext 2 (.t 147)⟩,
 ⟨some 21, none, .mov (.t 153)⟩,
 ⟨some 22, none, .mov (.t 154)⟩,
 ⟨some 23, none, .mov (.t 155)⟩]) (
 .gh [.keep [1, 3, 15, 16, 17, 18, 20, 21, 23]] (
 .seq (
 .seq (
 .reg none [
 ⟨some 156, none, .mov (.t 20)⟩,
 ⟨some 157, none, .bin .neq (.t 156) (.c (.int .i64 0))⟩,
 ⟨some 158, none, .mov (.t 157)⟩,
 ⟨some 159, (some (158, false)), .mov (.t 23)⟩,
 ⟨some 160, (some (158, false)), .bin .neq (.t 159) (.c (.int .i64 0))⟩,
 ⟨some 161, none, .pick (.t 158) (.c (.bool true)) (.t 160)⟩,
 ⟨some 162, none, .mov (.t 161)⟩,
 ⟨some 163, (some (162, false)), .mov (.t 18)⟩,
 ⟨some 164, (some (162, false)), .len (.t 163)⟩,
 ⟨some 165, (some (162, false)), .mov (.t 21)⟩,
 ⟨some 166, (some (162, false)), .len (.t 165)⟩,
 ⟨some 167, (some (162, false)), .bin .neq (.t 164) (.t 166)⟩,
 ⟨some 168, none, .pick (.t 162) (.c (.bool true)) (.t 167)⟩,
 ⟨some 169, none, .mov (.t 168)⟩,
 ⟨some 170, (some (169, false)), .mov (.t 21)⟩,
 ⟨some 171, (some (169, false)), .len (.t 170)⟩,
 ⟨some 172, (some (169, false)), .faddr 4 (.t 3)⟩,
 ⟨some 173, (some (169, false)), .load false 1 (.t 172)⟩,
 ⟨some 174, (some (169, false)), .bin .mul (.c (.int .i64 60)) (.t 173)⟩,
 ⟨some 175, (some (169, false)), .bin .neq (.t 171) (.t 174)⟩,
 ⟨some 176, none, .pick (.t 169) (.c (.bool true)) (.t 175)⟩]) (
 .gh [.keep [1, 3, 15, 16, 17, 18, 21, 176]] (
 .cond (.t 176) (
 .seq (
 .reg none [
 ⟨some 6, none, .mov (.c (.bool false))⟩]) (
 .ret)) (
 .skip)))) (
 .seq (
 .reg none [
 ⟨some 177, none, .faddr 4 (.t 3)⟩,
 ⟨some 178, none, .load false 1 (.t 177)⟩,
 ⟨some 179, none, .mkslice 17180 3 1 (.int .i64 0) (.t 178)⟩,
 ⟨some 24, none, .mov (.t 179)⟩]) (
 .seq (
 .seq (
 .reg none [
 ⟨some 25, none, .mov (.c (.int .i64 0))⟩]) (
 .block 2 (
 .loop b17_1))) (
 .seq (
 .reg none [
 ⟨some 26, none, .mov (.c (.int .i64 0))⟩]) (
 .seq (
 .seq (
 .reg none [
 ⟨some 27, none, .mov (.c (.int .i64 0))⟩]) (
 .block 4 (
 .loop b17_0))) (
 .seq (
 .reg none [
 ⟨some 254, none, .mov (.t 17)⟩,
 ⟨some 255, none, .bin .eql (.t 254) (.c (.int .i64 0))⟩,
 ⟨some 256, none, .mov (.t 255)⟩,
 ⟨some 257, (some (256, true)), .mov (.t 15)⟩,
 ⟨some 258, (some (256, true)), .mov (.t 1)⟩,
 ⟨some 259, (some (256, true)), .ncall true 0 23 [(.t 257), (.t 258)]⟩,
 ⟨some 260, none, .pick (.t 256) (.t 259) (.c (.bool false))⟩,
 ⟨some 261, none, .mov (.t 260)⟩,
 ⟨some 262, (some (261, true)), .mov (.t 16)⟩,
 ⟨some 263, (some (261, true)), .mov (.t 26)⟩,
 ⟨some 264, (some (261, true)), .bin .eql (.t 262) (.t 263)⟩,
 ⟨some 265, none, .pick (.t 261) (.t 264) (.c (.bool false))⟩,
 ⟨some 6, none, .mov (.t 265)⟩]) (
 .gh [.keep [6]] (
 .ret)))))))))))))))))))))))))
def a17 : AFunc := ⟨266, c17, [.tmp 6]⟩
/-! 18 cassegrain/cassegrainlaw05.awake params [] nfree 0 ntmps 88 -/
def c18 : ACode :=
 .seq (
 .reg none [
 ⟨some 0, none, .mov (.c (.bool false))⟩]) (
 .seq (
 .reg none [
 ⟨some 12, none, .ncall true 0 94 []⟩,
 ⟨some 13, none, .ncall true 18014 95 []⟩,
 ⟨some 14, none, .ncall true 18015 19 [(.t 12), (.t 13)]⟩,
 ⟨some 11, none, .mov (.t 14)⟩,
 ⟨some 15, none, .ext 0 (.t 11)⟩,
 ⟨some 16, none, .ext 1 (.t 11)⟩,
 ⟨some 17, none, .ext 2 (.t 11)⟩,
 ⟨some 1, none, .mov (.t 15)⟩,
 ⟨some 2, none, .mov (.t 16)⟩,
 ⟨some 3, none, .mov (.t 17)⟩]) (
 .gh [.keep [1, 2, 3]] (
 .seq (
 .reg none [
 ⟨some 19, none, .ncall true 18020 96 [(.c (.int .i64 1))]⟩,
 ⟨some 20, none, .ncall true 18021 26 [(.c (.int .i64 1)), (.t 19)]⟩,
 ⟨some 18, none, .mov (.t 20)⟩,
 ⟨some 21, none, .ext 0 (.t 18)⟩,
 ⟨some 22, none, .ext 1 (.t 18)⟩,
 ⟨some 4, none, .mov (.t 21)⟩,
 ⟨some 5, none, .mov (.t 22)⟩]) (
 .seq (
 .reg none [
 ⟨some 24, none, .ncall true 18025 97 []⟩,
 ⟨some 25, none, .bslice 18026 3 1 [(.c (.int .i64 1)), (.c (.int .i64 0)), (.c (.int .i64 0))]⟩,
 ⟨some 26, none, .ncall true 18027 67 [(.t 24), (.t 25), (.c (.int .i64 5))]⟩,
 ⟨some 23, none, .mov (.t 26)⟩,
 ⟨some 27, none, .ext 0 (.t 23)⟩,
 ⟨some 28, none, .ext 1 (.t 23)⟩,
 ⟨some 29, none, .ext 2 (.t 23)⟩,
 ⟨some 6, none, .mov (.t 27)⟩,
 ⟨some 7, none, .mov (.t 28)⟩,
 ⟨some 8, none, .mov (.t 29)⟩]) (
 .gh [.keep [1, 2, 3, 4, 5, 6, 7, 8]] (
 .seq (
 .reg none [
 ⟨some 31, none, .ncall true 0 94 []⟩,
 ⟨some 32, none, .ncall true 0 47 [(.t 31)]⟩,
 ⟨some 30, none, .mov (.t 32)⟩,
 ⟨some 33, none, .ext 0 (.t 30)⟩,
 ⟨some 34, none, .ext 1 (.t 30)⟩,
 ⟨some 9, none, .mov (.t 33)⟩,
 ⟨some 10, none, .mov (.t 34)⟩]) (
 .seq (
 .reg none [
 ⟨some 35, none, .mov (.t 3)⟩,
 ⟨some 36, none, .bin .eql (.t 35) (.c (.int .i64 0))⟩,
 ⟨some 37, none, .mov (.t 36)⟩,
 ⟨some 38, (some (37, true)), .mov (.t 2)⟩,
 ⟨some 39, (some (37, true)), .bin .eql (.t 38) (.c (.int .i64 6))⟩,
 ⟨some 40, none, .pick (.t 37) (.t 39) (.c (.bool false))⟩,
 ⟨some 41, none, .mov (.t 40)⟩,
 ⟨some 42, (some (41, true)), .mov (.t 1)⟩,
 ⟨some 43, (some (41, true)), .bslice 18044 3 1 [(.c (.int .i64 1)), (.c (.int .i64 0))]⟩,
 ⟨some 44, (some (41, true)), .ncall true 0 23 [(.t 42), (.t 43)]⟩,
 ⟨some 45, none, .pick (.t 41) (.t 44) (.c (.bool false))⟩,
 ⟨some 46, none, .mov (.t 45)⟩,
 ⟨some 47, (some (46, true)), .mov (.t 5)⟩,
 ⟨some 48, (some (46, true)), .bin .eql (.t 47) (.c (.int .i64 0))⟩,
 ⟨some 49, none, .pick (.t 46) (.t 48) (.c (.bool false))⟩,
 ⟨some 50, none, .mov (.t 49)⟩,
 ⟨some 51, (some (50, true)), .mov (.t 4)⟩,
 ⟨some 52, (some (50, true)), .len (.t 51)⟩,
 ⟨some 53, (some (50, true)), .bin .eql (.t 52) (.c (.int .i64 15))⟩,
 ⟨some 54, none, .pick (.t 50) (.t 53) (.c (.bool false))⟩,
 ⟨some 55, none, .mov (.t 54)⟩,
 ⟨some 56, (some (55, true)), .mov (.t 4)⟩,
 ⟨some 57, (some (55, true)), .iaddr 1 (.t 56) (.c (.int .i64 13))⟩,
 ⟨some 58, (some (55, true)), .load false 1 (.t 57)⟩,
 ⟨some 59, (some (55, true)), .bin .eql (.t 58) (.c (.int .i64 6))⟩,
 ⟨some 60, none, .pick (.t 55) (.t 59) (.c (.bool false))⟩,
 ⟨some 61, none, .mov (.t 60)⟩,
 ⟨some 62, (some (61, true)), .mov (.t 4)⟩,
 ⟨some 63, (some (61, true)), .iaddr 1 (.t 62) (.c (.int .i64 14))⟩,
 ⟨some 64, (some (61, true)), .load false 1 (.t 63)⟩,
 ⟨some 65, (some (61, true)), .bin .eql (.t 64) (.c (.int .i64 8))⟩,
 ⟨some 66, none, .pick (.t 61) (.t 65) (.c (.bool false))⟩,
 ⟨some 67, none, .mov (.t 66)⟩,
 ⟨some 68, (some (67, true)), .mov (.t 8)⟩,
 ⟨some 69, (some (67, true)), .bin .eql (.t 68) (.c (.int .i64 0))⟩,
 ⟨some 70, none, .pick (.t 67) (.t 69) (.c (.bool false))⟩,
 ⟨some 71, none, .mov (.t 70)⟩,
 ⟨some 72, (some (71, true)), .mov (.t 7)⟩,
 ⟨some 73, (some (71, true)), .bin .eql (.t 72) (.c (.int .i64 1))⟩,
 ⟨some 74, none, .pick (.t 71) (.t 73) (.c (.bool false))⟩,
 ⟨some 75, none, .mov (.t 74)⟩,
 ⟨some 76, (some (75, true)), .mov (.t 6)⟩,
 ⟨some 77, (some (75, true)), .bslice 18078 3 1 [(.c (.int .i64 0)), (.c (.int .i64 0)), (.c (.int .i64 0))]⟩,
 ⟨some 78, (some (75, true)), .ncall true 0 23 [(.t 76), (.t 77)]⟩,
 ⟨some 79, none, .pick (.t 75) (.t 78) (.c (.bool false))⟩,
 ⟨some 80, none, .mov (.t 79)⟩,
 ⟨some 81, (some (80, true)), .mov (.t 10)⟩,
 ⟨some 82, (some (80, true)), .bin .eql (.t 81) (.c (.int .i64 0))⟩,
 ⟨some 83, none, .pick (.t 80) (.t 82) (.c (.bool false))⟩,
 ⟨some 84, none, .mov (.t 83)⟩,
 ⟨some 85, (some (84, true)), .mov (.t 9)⟩,
 ⟨some 86, (some (84, true)), .bin .eql (.t 85) (.c (.int .i64 5))⟩,
 ⟨some 87, none, .pick (.t 84) (.t 86) (.c (.bool false))⟩,
 ⟨some 0, none, .mov (.t 87)⟩]) (
 .gh [.keep [0]] (
 .ret)))))))))
def a18 : AFunc := ⟨88, c18, [.tmp 0]⟩
/-! 19 cassegrain/code.BestBits params [24, 25] nfree 0 ntmps 31 -/
def c19 : ACode :=
 .seq (
 .reg none [
 ⟨some 2, none, .box 19003 24 (.t 0)⟩,
 ⟨some 4, none, .mov (.c .nils)⟩,
 ⟨some 5, none, .mov (.c (.int .i64 0))⟩,
 ⟨some 6, none, .mov (.c (.int .i64 0))⟩]) (
 .seq (
 .seq (
 .reg none [
 ⟨some 11, none, .load true 3 (.t 2)⟩,
 ⟨some 12, none, .ncall true 0 57 [(.t 11)]⟩,
 ⟨some 7, none, .mov (.t 12)⟩]) (
 .seq (
 .reg none [
 ⟨some 13, none, .mov (.t 7)⟩,
 ⟨some 14, none, .bin .neq (.t 13) (.c (.int .i64 0))⟩]) (
 .cond (.t 14) (
 .seq (
 .reg none [
 ⟨some 15, none, .mov (.t 7)⟩,
 ⟨some 4, none, .mov (.c .nils)⟩,
 ⟨some 5, none, .mov (.c (.int .i64 0))⟩,
 ⟨some 6, none, .mov (.t 15)⟩]) (
 .ret)) (
 .skip)))) (
 .seq (
 .seq (
 .reg none [
 ⟨some 16, none, .load true 3 (.t 2)⟩,
 ⟨some 17, none, .mov (.t 1)⟩,
 ⟨some 18, none, .ncall true 0 98 [(.t 16), (.t 17)]⟩,
 ⟨some 8, none, .mov (.t 18)⟩]) (
 .seq (
 .reg none [
 ⟨some 19, none, .mov (.t 8)⟩,
 ⟨some 20, none, .bin .neq (.t 19) (.c (.int .i64 0))⟩]) (
 .cond (.t 20) (
 .seq (
 .reg none [
 ⟨some 21, none, .mov (.t 8)⟩,
 ⟨some 4, none, .mov (.c .nils)⟩,
 ⟨some 5, none, .mov (.c (.int .i64 0))⟩,
 ⟨some 6, none, .mov (.t 21)⟩]) (
 .ret)) (
 .skip)))) (
 .seq (
 .reg none [
 ⟨some 23, none, .load true 3 (.t 2)⟩,
 ⟨some 24, none, .mov (.t 1)⟩,
 ⟨some 25, none, .build (.gen [(.int .i64 0), (.int .i64 0), (.int .i64 0), .nils]) [(0, 3, (.t 23)), (3, 1, (.t 24))]⟩,
 ⟨some 26, none, .ncall true 19027 99 [(.t 25)]⟩,
 ⟨some 22, none, .mov (.t 26)⟩,
 ⟨some 27, none, .ext 0 (.t 22)⟩,
 ⟨some 28, none, .ext 1 (.t 22)⟩,
 ⟨some 9, none, .mov (.t 27)⟩,
 ⟨some 10, none, .mov (.t 28)⟩]) (
 .gh [.keep [9, 10]] (
 .seq (
 .reg none [
 ⟨some 29, none, .mov (.t 9)⟩,
 ⟨some 30, none, .mov (.t 10)⟩,
 ⟨some 4, none, .mov (.t 29)⟩,
 ⟨some 5, none, .mov (.t 30)⟩,
 ⟨some 6, none, .mov (.c (.int .i64 0))⟩]) (
 .ret))))))
def a19 : AFunc := ⟨31, c19, [.tmp 4, .tmp 5, .tmp 6]⟩
/-! 20 cassegrain/cassegrainbase.CopyInts params [25] nfree 0 ntmps 6 -/
def c20 : ACode :=
 .seq (
 .reg none [
 ⟨some 2, none, .mov (.c .nils)⟩]) (
 .seq (
 .reg none [
 ⟨some 3, none, .bslice 20004 3 1 []⟩,
 ⟨some 4, none, .mov (.t 0)⟩,
 ⟨some 5, none, .append 20006 3 1 (.t 3) (.t 4)⟩,
 ⟨some 2, none, .mov (.t 5)⟩]) (
 .ret))
def a20 : AFunc := ⟨6, c20, [.tmp 2]⟩
/-! 21 cassegrain/cassegrainlaw05.codeErr params [24, 25] nfree 0 ntmps 14 -/
def c21 : ACode :=
 .seq (
 .reg none [
 ⟨some 2, none, .box 21003 24 (.t 0)⟩,
 ⟨some 4, none, .mov (.c (.int .i64 0))⟩]) (
 .seq (
 .seq (
 .reg none [
 ⟨some 6, none, .load true 3 (.t 2)⟩,
 ⟨some 7, none, .ncall true 0 43 [(.t 6)]⟩,
 ⟨some 5, none, .mov (.t 7)⟩]) (
 .seq (
 .reg none [
 ⟨some 8, none, .mov (.t 5)⟩,
 ⟨some 9, none, .bin .neq (.t 8) (.c (.int .i64 0))⟩]) (
 .cond (.t 9) (
 .seq (
 .reg none [
 ⟨some 10, none, .mov (.t 5)⟩,
 ⟨some 4, none, .mov (.t 10)⟩]) (
 .ret)) (
 .skip)))) (
 .seq (
 .reg none [
 ⟨some 11, none, .load true 3 (.t 2)⟩,
 ⟨some 12, none, .mov (.t 1)⟩,
 ⟨some 13, none, .ncall true 0 60 [(.t 11), (.t 12)]⟩,
 ⟨some 4, none, .mov (.t 13)⟩]) (
 .ret)))
def a21 : AFunc := ⟨14, c21, [.tmp 4]⟩
/-! 22 cassegrain/cassegrainref05.Best params [24, 25] nfree 0 ntmps 178 -/
def l22_0 : ACode :=
 .seq (
 .seq (
 .reg none [
 ⟨some 129, none, .mov (.t 17)⟩,
 ⟨some 130, none, .mov (.t 7)⟩,
 ⟨some 131, none, .bin .lss (.t 129) (.t 130)⟩]) (
 .cond (.t 131) (
 .skip) (
 .exit 8))) (
 .seq (
 .block 9 (
 .seq (
 .reg none [
 ⟨some 135, none, .load true 3 (.t 2)⟩,
 ⟨some 136, none, .mov (.t 16)⟩,
 ⟨some 137, none, .ncall true 0 101 [(.t 135), (.t 136), (.c (.int .i64 0))]⟩,
 ⟨some 134, none, .mov (.t 137)⟩,
 ⟨some 138, none, .ext 0 (.t 134)⟩,
 ⟨some 139, none, .ext 1 (.t 134)⟩,
 ⟨some 19, none, .alloc 22020 22 (.agg (.ints .i64 [0, 0]))⟩,
 ⟨some 18, none, .mov (.t 138)⟩,
 ⟨none, none, .store 2 (.t 19) (.t 139)⟩]) (
 .gh [.keep [1, 2, 7, 8, 15, 16, 17, 18, 19]] (
 .seq (
 .reg none [
 ⟨some 20, none, .mov (.c (.int .i64 0))⟩]) (
 .seq (
 .seq (
 .reg (some []) [
 ⟨some 140, none, .mov (.t 8)⟩,
 ⟨some 141, none, .mov (.t 17)⟩,
 ⟨some 142, none, .bin .add (.t 141) (.c (.int .i64 1))⟩,
 ⟨some 143, none, .iaddr 1 (.t 140) (.t 142)⟩,
 ⟨some 144, none, .load false 1 (.t 143)⟩,
 ⟨some 145, none, .mov (.t 18)⟩,
 ⟨some 146, none, .iaddr 1 (.t 144) (.t 145)⟩,
 ⟨some 147, none, .load false 1 (.t 146)⟩,
 ⟨some 148, none, .load true 2 (.t 19)⟩,
 ⟨some 149, none, .mov (.t 1)⟩,
 ⟨some 150, none, .mov (.t 17)⟩,
 ⟨some 151, none, .ncall true 0 102 [(.t 148), (.t 149), (.t 150)]⟩,
 ⟨some 152, none, .bin .add (.t 147) (.t 151)⟩,
 ⟨some 153, none, .mov (.t 8)⟩,
 ⟨some 154, none, .mov (.t 17)⟩,
 ⟨some 155, none, .iaddr 1 (.t 153) (.t 154)⟩,
 ⟨some 156, none, .load false 1 (.t 155)⟩,
 ⟨some 157, none, .mov (.t 16)⟩,
 ⟨some 158, none, .iaddr 1 (.t 156) (.t 157)⟩,
 ⟨some 159, none, .load false 1 (.t 158)⟩,
 ⟨some 160, none, .bin .neq (.t 152) (.t 159)⟩]) (
 .gh [.keep [1, 2, 7, 8, 15, 16, 17, 18, 19, 20, 160]] (
 .cond (.t 160) (
 .seq (
 .reg none [
 ⟨some 20, none, .mov (.c (.int .i64 1))⟩]) (
 .reg none [
 ⟨some 162, none, .load true 3 (.t 2)⟩,
 ⟨some 163, none, .mov (.t 16)⟩,
 ⟨some 164, none, .ncall true 0 101 [(.t 162), (.t 163), (.c (.int .i64 1))]⟩,
 ⟨some 161, none, .mov (.t 164)⟩,
 ⟨some 165, none, .ext 0 (.t 161)⟩,
 ⟨some 166, none, .ext 1 (.t 161)⟩,
 ⟨some 18, none, .mov (.t 165)⟩,
 ⟨none, none, .store 2 (.t 19) (.t 166)⟩])) (
 .skip)))) (
 .reg none [
 ⟨some 167, none, .mov (.t 15)⟩,
 ⟨some 168, none, .mov (.t 20)⟩,
 ⟨some 169, none, .bslice 22170 3 1 [(.t 168)]⟩,
 ⟨some 170, none, .append 22171 3 1 (.t 167) (.t 169)⟩,
 ⟨some 171, none, .mov (.t 18)⟩,
 ⟨some 15, none, .mov (.t 170)⟩,
 ⟨some 16, none, .mov (.t 171)⟩])))))) (
 .reg none [
 ⟨some 132, none, .mov (.t 17)⟩,
 ⟨some 133, none, .bin .add (.t 132) (.c (.int .i64 1))⟩,
 ⟨some 17, none, .mov (.t 133)⟩]))
def b22_0 : ACode := .gh [.keep [1, 2, 7, 8, 15, 16, 17]] (.gh [] l22_0)
def l22_3 : ACode :=
 .seq (
 .seq (
 .reg none [
 ⟨some 73, none, .mov (.t 12)⟩,
 ⟨some 74, none, .bin .lss (.t 73) (.c (.int .i64 2))⟩,
 ⟨some 75, none, .mov (.t 74)⟩,
 ⟨some 76, (some (75, true)), .mov (.t 12)⟩,
 ⟨some 77, (some (75, true)), .bin .eql (.t 76) (.c (.int .i64 0))⟩,
 ⟨some 78, (some (75, true)), .mov (.t 77)⟩,
 ⟨some 79, (some (78, false)), .mov (.t 10)⟩,
 ⟨some 80, (some (78, false)), .mov (.t 7)⟩,
 ⟨some 81, (some (78, false)), .bin .lss (.t 79) (.t 80)⟩,
 ⟨some 82, (some (75, true)), .pick (.t 78) (.c (.bool true)) (.t 81)⟩,
 ⟨some 83, none, .pick (.t 75) (.t 82) (.c (.bool false))⟩]) (
 .gh [.keep [1, 2, 7, 8, 10, 11, 12, 83]] (
 .cond (.t 83) (
 .skip) (
 .exit 6)))) (
 .seq (
 .block 7 (
 .seq (
 .reg none [
 ⟨some 87, none, .load true 3 (.t 2)⟩,
 ⟨some 88, none, .mov (.t 11)⟩,
 ⟨some 89, none, .mov (.t 12)⟩,
 ⟨some 90, none, .ncall true 0 101 [(.t 87), (.t 88), (.t 89)]⟩,
 ⟨some 86, none, .mov (.t 90)⟩,
 ⟨some 91, none, .ext 0 (.t 86)⟩,
 ⟨some 92, none, .ext 1 (.t 86)⟩,
 ⟨some 14, none, .alloc 22015 22 (.agg (.ints .i64 [0, 0]))⟩,
 ⟨some 13, none, .mov (.t 91)⟩,
 ⟨none, none, .store 2 (.t 14) (.t 92)⟩]) (
 .gh [.keep [1, 2, 7, 8, 10, 11, 12, 13, 14]] (
 .seq (
 .reg none [
 ⟨some 93, none, .mov (.t 8)⟩,
 ⟨some 94, none, .mov (.t 10)⟩,
 ⟨some 95, none, .bin .add (.t 94) (.c (.int .i64 1))⟩,
 ⟨some 96, none, .iaddr 1 (.t 93) (.t 95)⟩,
 ⟨some 97, none, .load false 1 (.t 96)⟩,
 ⟨some 98, none, .mov (.t 13)⟩,
 ⟨some 99, none, .iaddr 1 (.t 97) (.t 98)⟩,
 ⟨some 100, none, .load false 1 (.t 99)⟩,
 ⟨some 101, none, .bin .gtr (.t 100) (.c (.int .i64 (-1000000)))⟩]) (
 .gh [.keep [1, 2, 7, 8, 10, 11, 12, 13, 14, 101]] (
 .cond (.t 101) (
 .reg (some []) [
 ⟨some 102, none, .mov (.t 8)⟩,
 ⟨some 103, none, .mov (.t 10)⟩,
 ⟨some 104, none, .iaddr 1 (.t 102) (.t 103)⟩,
 ⟨some 105, none, .load false 1 (.t 104)⟩,
 ⟨some 106, none, .mov (.t 11)⟩,
 ⟨some 107, none, .mov (.t 8)⟩,
 ⟨some 108, none, .mov (.t 10)⟩,
 ⟨some 109, none, .iaddr 1 (.t 107) (.t 108)⟩,
 ⟨some 110, none, .load false 1 (.t 109)⟩,
 ⟨some 111, none, .mov (.t 11)⟩,
 ⟨some 112, none, .iaddr 1 (.t 110) (.t 111)⟩,
 ⟨some 113, none, .load false 1 (.t 112)⟩,
 ⟨some 114, none, .mov (.t 8)⟩,
 ⟨some 115, none, .mov (.t 10)⟩,
 ⟨some 116, none, .bin .add (.t 115) (.c (.int .i64 1))⟩,
 ⟨some 117, none, .iaddr 1 (.t 114) (.t 116)⟩,
 ⟨some 118, none, .load false 1 (.t 117)⟩,
 ⟨some 119, none, .mov (.t 13)⟩,
 ⟨some 120, none, .iaddr 1 (.t 118) (.t 119)⟩,
 ⟨some 121, none, .load false 1 (.t 120)⟩,
 ⟨some 122, none, .load true 2 (.t 14)⟩,
 ⟨some 123, none, .mov (.t 1)⟩,
 ⟨some 124, none, .mov (.t 10)⟩,
 ⟨some 125, none, .ncall true 0 102 [(.t 122), (.t 123), (.t 124)]⟩,
 ⟨some 126, none, .bin .add (.t 121) (.t 125)⟩,
 ⟨some 127, none, .mm true (.t 113) (.t 126)⟩,
 ⟨some 128, none, .iaddr 1 (.t 105) (.t 106)⟩,
 ⟨none, none, .store 1 (.t 128) (.t 127)⟩]) (
 .skip))))))) (
 .reg none [
 ⟨some 84, none, .mov (.t 12)⟩,
 ⟨some 85, none, .bin .add (.t 84) (.c (.int .i64 1))⟩,
 ⟨some 12, none, .mov (.t 85)⟩]))
def b22_3 : ACode := .gh [.keep [1, 2, 7, 8, 10, 11, 12]] (.gh [] l22_3)
def l22_2 : ACode :=
 .seq (
 .seq (
 .reg none [
 ⟨some 61, none, .mov (.t 11)⟩,
 ⟨some 62, none, .load true 3 (.t 2)⟩,
 ⟨some 63, none, .ncall true 0 100 [(.t 62)]⟩,
 ⟨some 64, none, .bin .lss (.t 61) (.t 63)⟩]) (
 .cond (.t 64) (
 .skip) (
 .exit 4))) (
 .seq (
 .block 5 (
 .seq (
 .reg none [
 ⟨some 67, none, .mov (.t 8)⟩,
 ⟨some 68, none, .mov (.t 10)⟩,
 ⟨some 69, none, .iaddr 1 (.t 67) (.t 68)⟩,
 ⟨some 70, none, .load false 1 (.t 69)⟩,
 ⟨some 71, none, .mov (.t 11)⟩,
 ⟨some 72, none, .iaddr 1 (.t 70) (.t 71)⟩,
 ⟨none, none, .store 1 (.t 72) (.c (.int .i64 (-2000000)))⟩]) (
 .gh [.keep [1, 2, 7, 8, 10, 11]] (
 .seq (
 .reg none [
 ⟨some 12, none, .mov (.c (.int .i64 0))⟩]) (
 .block 6 (
 .loop b22_3)))))) (
 .reg none [
 ⟨some 65, none, .mov (.t 11)⟩,
 ⟨some 66, none, .bin .add (.t 65) (.c (.int .i64 1))⟩,
 ⟨some 11, none, .mov (.t 66)⟩]))
def b22_2 : ACode := .gh [.keep [1, 2, 7, 8, 10, 11]] (.gh [] l22_2)
def l22_1 : ACode :=
 .seq (
 .seq (
 .reg none [
 ⟨some 51, none, .mov (.t 10)⟩,
 ⟨some 52, none, .bin .geq (.t 51) (.c (.int .i64 0))⟩]) (
 .cond (.t 52) (
 .skip) (
 .exit 2))) (
 .seq (
 .block 3 (
 .seq (
 .reg none [
 ⟨some 55, none, .mov (.t 8)⟩,
 ⟨some 56, none, .mov (.t 10)⟩,
 ⟨some 57, none, .load true 3 (.t 2)⟩,
 ⟨some 58, none, .ncall true 0 100 [(.t 57)]⟩,
 ⟨some 59, none, .mkslice 22060 3 1 (.int .i64 0) (.t 58)⟩,
 ⟨some 60, none, .iaddr 1 (.t 55) (.t 56)⟩,
 ⟨none, none, .store 1 (.t 60) (.t 59)⟩]) (
 .gh [.keep [1, 2, 7, 8, 10]] (
 .seq (
 .reg none [
 ⟨some 11, none, .mov (.c (.int .i64 0))⟩]) (
 .block 4 (
 .loop b22_2)))))) (
 .reg none [
 ⟨some 53, none, .mov (.t 10)⟩,
 ⟨some 54, none, .bin .sub (.t 53) (.c (.int .i64 1))⟩,
 ⟨some 10, none, .mov (.t 54)⟩]))
def b22_1 : ACode := .gh [.keep [1, 2, 7, 8, 10]] (.gh [] l22_1)
def l22_4 : ACode :=
 .seq (
 .seq (
 .reg none [
 ⟨some 37, none, .mov (.t 9)⟩,
 ⟨some 38, none, .load true 3 (.t 2)⟩,
 ⟨some 39, none, .ncall true 0 100 [(.t 38)]⟩,
 ⟨some 40, none, .bin .lss (.t 37) (.t 39)⟩]) (
 .cond (.t 40) (
 .skip) (
 .exit 0))) (
 .seq (
 .block 1 (
 .reg none [
 ⟨some 43, none, .mov (.t 8)⟩,
 ⟨some 44, none, .mov (.t 6)⟩,
 ⟨some 45, none, .iaddr 1 (.t 43) (.t 44)⟩,
 ⟨some 46, none, .load false 1 (.t 45)⟩,
 ⟨some 47, none, .mov (.t 9)⟩,
 ⟨some 48, none, .iaddr 1 (.t 46) (.t 47)⟩,
 ⟨none, none, .store 1 (.t 48) (.c (.int .i64 (-2000000)))⟩])) (
 .reg none [
 ⟨some 41, none, .mov (.t 9)⟩,
 ⟨some 42, none, .bin .add (.t 41) (.c (.int .i64 1))⟩,
 ⟨some 9, none, .mov (.t 42)⟩]))
def b22_4 : ACode := .gh [.keep [1, 2, 6, 7, 8, 9]] (.gh [] l22_4)
def k22_0 : List AItem := .inLoop b22_0 :: [.inBlock 8,
 .code (.seq (
 .reg (some []) [
 ⟨some 172, none, .mov (.t 15)⟩,
 ⟨some 173, none, .mov (.t 8)⟩,
 ⟨some 174, none, .iaddr 1 (.t 173) (.c (.int .i64 0))⟩,
 ⟨some 175, none, .load false 1 (.t 174)⟩,
 ⟨some 176, none, .iaddr 1 (.t 175) (.c (.int .i64 0))⟩,
 ⟨some 177, none, .load false 1 (.t 176)⟩,
 ⟨some 4, none, .mov (.t 172)⟩,
 ⟨some 5, none, .mov (.t 177)⟩]) (
 .gh [.keep [4, 5]] (
 .ret)))]
def k22_3 : List AItem := .inLoop b22_3 :: [.inBlock 6,
 .inBlock 5,
 .code (.reg none [
 ⟨some 65, none, .mov (.t 11)⟩,
 ⟨some 66, none, .bin .add (.t 65) (.c (.int .i64 1))⟩,
 ⟨some 11, none, .mov (.t 66)⟩]),
 .inLoop b22_2,
 .inBlock 4,
 .inBlock 3,
 .code (.reg none [
 ⟨some 53, none, .mov (.t 10)⟩,
 ⟨some 54, none, .bin .sub (.t 53) (.c (.int .i64 1))⟩,
 ⟨some 10, none, .mov (.t 54)⟩]),
 .inLoop b22_1,
 .inBlock 2,
 .code (.seq (
 .reg none [
 ⟨some 15, none, .mov (.c .nils)⟩]) (
 .seq (
 .reg none [
 ⟨some 16, none, .mov (.c (.int .i64 0))⟩]) (
 .seq (
 .seq (
 .reg none [
 ⟨some 17, none, .mov (.c (.int .i64 0))⟩]) (
 .block 8 (
 .loop b22_0))) (
 .seq (
 .reg (some []) [
 ⟨some 172, none, .mov (.t 15)⟩,
 ⟨some 173, none, .mov (.t 8)⟩,
 ⟨some 174, none, .iaddr 1 (.t 173) (.c (.int .i64 0))⟩,
 ⟨some 175, none, .load false 1 (.t 174)⟩,
 ⟨some 176, none, .iaddr 1 (.t 175) (.c (.int .i64 0))⟩,
 ⟨some 177, none, .load false 1 (.t 176)⟩,
 ⟨some 4, none, .mov (.t 172)⟩,
 ⟨some 5, none, .mov (.t 177)⟩]) (
 .gh [.keep [4, 5]] (
 .ret))))))]
def k22_2 : List AItem := .inLoop b22_2 :: [.inBlock 4,
 .inBlock 3,
 .code (.reg none [
 ⟨some 53, none, .mov (.t 10)⟩,
 ⟨some 54, none, .bin .sub (.t 53) (.c (.int .i64 1))⟩,
 ⟨some 10, none, .mov (.t 54)⟩]),
 .inLoop b22_1,
 .inBlock 2,
 .code (.seq (
 .reg none [
 ⟨some 15, none, .mov (.c .nils)⟩]) (
 .seq (
 .reg none [
 ⟨some 16, none, .mov (.c (.int .i64 0))⟩]) (
 .seq (
 .seq (
 .reg none [
 ⟨some 17, none, .mov (.c (.int .i64 0))⟩]) (
 .block 8 (
 .loop b22_0))) (
 .seq (
 .reg (some []) [
 ⟨some 172, none, .mov (.t 15)⟩,
 ⟨some 173, none, .mov (.t 8)⟩,
 ⟨some 174, none, .iaddr 1 (.t 173) (.c (.int .i64 0))⟩,
 ⟨some 175, none, .load false 1 (.t 174)⟩,
 ⟨some 176, none, .iaddr 1 (.t 175) (.c (.int .i64 0))⟩,
 ⟨some 177, none, .load false 1 (.t 176)⟩,
 ⟨some 4, none, .mov (.t 172)⟩,
 ⟨some 5, none, .mov (.t 177)⟩]) (
 .gh [.keep [4, 5]] (
 .ret))))))]
def k22_1 : List AItem := .inLoop b22_1 :: [.inBlock 2,
 .code (.seq (
 .reg none [
 ⟨some 15, none, .mov (.c .nils)⟩]) (
 .seq (
 .reg none [
 ⟨some 16, none, .mov (.c (.int .i64 0))⟩]) (
 .seq (
 .seq (
 .reg none [
 ⟨some 17, none, .mov (.c (.int .i64 0))⟩]) (
 .block 8 (
 .loop b22_0))) (
 .seq (
 .reg (some []) [
 ⟨some 172, none, .mov (.t 15)⟩,
 ⟨some 173, none, .mov (.t 8)⟩,
 ⟨some 174, none, .iaddr 1 (.t 173) (.c (.int .i64 0))⟩,
 ⟨some 175, none, .load false 1 (.t 174)⟩,
 ⟨some 176, none, .iaddr 1 (.t 175) (.c (.int .i64 0))⟩,
 ⟨some 177, none, .load false 1 (.t 176)⟩,
 ⟨some 4, none, .mov (.t 172)⟩,
 ⟨some 5, none, .mov (.t 177)⟩]) (
 .gh [.keep [4, 5]] (
 .ret))))))]
def k22_4 : List AItem := .inLoop b22_4 :: [.inBlock 0,
 .code (.seq (
 .seq (
 .reg none [
 ⟨some 49, none, .mov (.t 6)⟩,
 ⟨some 50, none, .bin .sub (.t 49) (.c (.int .i64 1))⟩,
 ⟨some 10, none, .mov (.t 50)⟩]) (
 .block 2 (
 .loop b22_1))) (
 .seq (
 .reg none [
 ⟨some 15, none, .mov (.c .nils)⟩]) (
 .seq (
 .reg none [
 ⟨some 16, none, .mov (.c (.int .i64 0))⟩]) (
 .seq (
 .seq (
 .reg none [
 ⟨some 17, none, .mov (.c (.int .i64 0))⟩]) (
 .block 8 (
 .loop b22_0))) (
 .seq (
 .reg (some []) [
 ⟨some 172, none, .mov (.t 15)⟩,
 ⟨some 173, none, .mov (.t 8)⟩,
 ⟨some 174, none, .iaddr 1 (.t 173) (.c (.int .i64 0))⟩,
 ⟨some 175, none, .load false 1 (.t 174)⟩,
 ⟨some 176, none, .iaddr 1 (.t 175) (.c (.int .i64 0))⟩,
 ⟨some 177, none, .load false 1 (.t 176)⟩,
 ⟨some 4, none, .mov (.t 172)⟩,
 ⟨some 5, none, .mov (.t 177)⟩]) (
 .gh [.keep [4, 5]] (
 .ret)))))))]
def c22 : ACode :=
 .seq (
 .reg none [
 ⟨some 2, none, .box 22003 24 (.t 0)⟩,
 ⟨some 4, none, .mov (.c .nils)⟩,
 ⟨some 5, none, .mov (.c (.int .i64 0))⟩]) (
 .seq (
 .reg none [
 ⟨some 21, none, .mov (.t 1)⟩,
 ⟨some 22, none, .len (.t 21)⟩,
 ⟨some 23, none, .bin .quo (.t 22) (.c (.int .i64 2))⟩,
 ⟨some 6, none, .mov (.t 23)⟩]) (
 .seq (
 .reg none [
 ⟨some 24, none, .mov (.t 6)⟩,
 ⟨some 25, none, .faddr 0 (.t 2)⟩,
 ⟨some 26, none, .load false 1 (.t 25)⟩,
 ⟨some 27, none, .bin .sub (.t 24) (.t 26)⟩,
 ⟨some 7, none, .mov (.t 27)⟩]) (
 .seq (
 .reg none [
 ⟨some 28, none, .mov (.t 6)⟩,
 ⟨some 29, none, .bin .add (.t 28) (.c (.int .i64 1))⟩,
 ⟨some 30, none, .mkslice 22031 25 1 .nils (.t 29)⟩,
 ⟨some 8, none, .mov (.t 30)⟩]) (
 .seq (
 .reg none [
 ⟨some 31, none, .mov (.t 8)⟩,
 ⟨some 32, none, .mov (.t 6)⟩,
 ⟨some 33, none, .load true 3 (.t 2)⟩,
 ⟨some 34, none, .ncall true 0 100 [(.t 33)]⟩,
 ⟨some 35, none, .mkslice 22036 3 1 (.int .i64 0) (.t 34)⟩,
 ⟨some 36, none, .iaddr 1 (.t 31) (.t 32)⟩,
 ⟨none, none, .store 1 (.t 36) (.t 35)⟩]) (
 .gh [.keep [1, 2, 6, 7, 8]] (
 .seq (
 .seq (
 .reg none [
 ⟨some 9, none, .mov (.c (.int .i64 1))⟩]) (
 .block 0 (
 .loop b22_4))) (
 .seq (
 .seq (
 .reg none [
 ⟨some 49, none, .mov (.t 6)⟩,
 ⟨some 50, none, .bin .sub (.t 49) (.c (.int .i64 1))⟩,
 ⟨some 10, none, .mov (.t 50)⟩]) (
 .block 2 (
 .loop b22_1))) (
 .seq (
 .reg none [
 ⟨some 15, none, .mov (.c .nils)⟩]) (
 .seq (
 .reg none [
 ⟨some 16, none, .mov (.c (.int .i64 0))⟩]) (
 .seq (
 .seq (
 .reg none [
 ⟨some 17, none, .mov (.c (.int .i64 0))⟩]) (
 .block 8 (
 .loop b22_0))) (
 .seq (
 .reg (some []) [
 ⟨some 172, none, .mov (.t 15)⟩,
 ⟨some 173, none, .mov (.t 8)⟩,
 ⟨some 174, none, .iaddr 1 (.t 173) (.c (.int .i64 0))⟩,
 ⟨some 175, none, .load false 1 (.t 174)⟩,
 ⟨some 176, none, .iaddr 1 (.t 175) (.c (.int .i64 0))⟩,
 ⟨some 177, none, .load false 1 (.t 176)⟩,
 ⟨some 4, none, .mov (.t 172)⟩,
 ⟨some 5, none, .mov (.t 177)⟩]) (
 .gh [.keep [4, 5]] (
 .ret)))))))))))))
def a22 : AFunc := ⟨178, c22, [.tmp 4, .tmp 5]⟩
/-! 23 cassegrain/cassegrainbase.Ints params [25, 25] nfree 0 ntmps 26 -/
def l23_0 : ACode :=
 .seq (
 .seq (
 .reg none [
 ⟨some 11, none, .mov (.t 5)⟩,
 ⟨some 12, none, .mov (.t 0)⟩,
 ⟨some 13, none, .len (.t 12)⟩,
 ⟨some 14, none, .bin .lss (.t 11) (.t 13)⟩]) (
 .cond (.t 14) (
 .skip) (
 .exit 0))) (
 .seq (
 .block 1 (
 .seq (
 .reg (some []) [
 ⟨some 17, none, .mov (.t 0)⟩,
 ⟨some 18, none, .mov (.t 5)⟩,
 ⟨some 19, none, .iaddr 1 (.t 17) (.t 18)⟩,
 ⟨some 20, none, .load false 1 (.t 19)⟩,
 ⟨some 21, none, .mov (.t 1)⟩,
 ⟨some 22, none, .mov (.t 5)⟩,
 ⟨some 23, none, .iaddr 1 (.t 21) (.t 22)⟩,
 ⟨some 24, none, .load false 1 (.t 23)⟩,
 ⟨some 25, none, .bin .neq (.t 20) (.t 24)⟩]) (
 .gh [.keep [0, 1, 5, 25]] (
 .cond (.t 25) (
 .seq (
 .reg none [
 ⟨some 4, none, .mov (.c (.bool false))⟩]) (
 .ret)) (
 .skip))))) (
 .reg none [
 ⟨some 15, none, .mov (.t 5)⟩,
 ⟨some 16, none, .bin .add (.t 15) (.c (.int .i64 1))⟩,
 ⟨some 5, none, .mov (.t 16)⟩]))
def b23_0 : ACode := .gh [.keep [0, 1, 5]] (.gh [] l23_0)
def k23_0 : List AItem := .inLoop b23_0 :: [.inBlock 0,
 .code (.seq (
 .reg none [
 ⟨some 4, none, .mov (.c (.bool true))⟩]) (
 .ret))]
def c23 : ACode :=
 .seq (
 .reg none [
 ⟨some 4, none, .mov (.c (.bool false))⟩]) (
 .seq (
 .seq (
 .reg none [
 ⟨some 6, none, .mov (.t 0)⟩,
 ⟨some 7, none, .len (.t 6)⟩,
 ⟨some 8, none, .mov (.t 1)⟩,
 ⟨some 9, none, .len (.t 8)⟩,
 ⟨some 10, none, .bin .neq (.t 7) (.t 9)⟩]) (
 .cond (.t 10) (
 .seq (
 .reg none [
 ⟨some 4, none, .mov (.c (.bool false))⟩]) (
 .ret)) (
 .skip))) (
 .seq (
 .seq (
 .reg none [
 ⟨some 5, none, .mov (.c (.int .i64 0))⟩]) (
 .block 0 (
 .loop b23_0))) (
 .seq (
 .reg none [
 ⟨some 4, none, .mov (.c (.bool true))⟩]) (
 .ret))))
def a23 : AFunc := ⟨26, c23, [.tmp 4]⟩
/-! 24 cassegrain/code.Product params [3, 3] nfree 0 ntmps 17 -/
def c24 : ACode :=
 .seq (
 .reg none [
 ⟨some 4, none, .mov (.c (.int .i64 0))⟩,
 ⟨some 5, none, .mov (.c (.int .i64 0))⟩]) (
 .seq (
 .seq (
 .reg none [
 ⟨some 7, none, .mov (.t 0)⟩,
 ⟨some 8, none, .mov (.t 1)⟩,
 ⟨some 9, none, .bslice 24010 3 1 [(.t 7), (.t 8)]⟩,
 ⟨some 10, none, .ncall true 0 103 [(.t 9), (.c (.int .i64 0)), (.c (.int .i64 15))]⟩,
 ⟨some 6, none, .mov (.t 10)⟩]) (
 .seq (
 .reg none [
 ⟨some 11, none, .mov (.t 6)⟩,
 ⟨some 12, none, .bin .neq (.t 11) (.c (.int .i64 0))⟩]) (
 .cond (.t 12) (
 .seq (
 .reg none [
 ⟨some 13, none, .mov (.t 6)⟩,
 ⟨some 4, none, .mov (.c (.int .i64 0))⟩,
 ⟨some 5, none, .mov (.t 13)⟩]) (
 .ret)) (
 .skip)))) (
 .seq (
 .reg none [
 ⟨some 14, none, .mov (.t 0)⟩,
 ⟨some 15, none, .mov (.t 1)⟩,
 ⟨some 16, none, .ncall true 0 104 [(.t 14), (.t 15)]⟩,
 ⟨some 4, none, .mov (.t 16)⟩,
 ⟨some 5, none, .mov (.c (.int .i64 0))⟩]) (
 .ret)))
def a24 : AFunc := ⟨17, c24, [.tmp 4, .tmp 5]⟩
/-! 25 cassegrain/code.Syndromes params [3, 25] nfree 0 ntmps 21 -/
def c25 : ACode :=
 .seq (
 .reg none [
 ⟨some 4, none, .mov (.c .nils)⟩,
 ⟨some 5, none, .mov (.c (.int .i64 0))⟩]) (
 .seq (
 .seq (
 .reg none [
 ⟨some 7, none, .mov (.t 0)⟩,
 ⟨some 8, none, .ncall true 0 106 [(.t 7)]⟩,
 ⟨some 9, none, .mov (.t 1)⟩,
 ⟨some 10, none, .ncall true 0 107 [(.t 9), (.c (.int .i64 15))]⟩,
 ⟨some 11, none, .bslice 25012 27 1 [(.t 8), (.t 10)]⟩,
 ⟨some 12, none, .ncall true 0 105 [(.t 11)]⟩,
 ⟨some 6, none, .mov (.t 12)⟩]) (
 .gh [.keep [0, 1, 6]] (
 .seq (
 .reg none [
 ⟨some 13, none, .mov (.t 6)⟩,
 ⟨some 14, none, .bin .neq (.t 13) (.c (.int .i64 0))⟩]) (
 .cond (.t 14) (
 .seq (
 .reg none [
 ⟨some 15, none, .mov (.t 6)⟩,
 ⟨some 4, none, .mov (.c .nils)⟩,
 ⟨some 5, none, .mov (.t 15)⟩]) (
 .ret)) (
 .skip))))) (
 .seq (
 .reg none [
 ⟨some 16, none, .mov (.t 1)⟩,
 ⟨some 17, none, .s2a 15 (.t 16)⟩,
 ⟨some 18, none, .load true 15 (.t 17)⟩,
 ⟨some 19, none, .mov (.t 0)⟩,
 ⟨some 20, none, .ncall true 25021 108 [(.t 18), (.t 19)]⟩,
 ⟨some 4, none, .mov (.t 20)⟩,
 ⟨some 5, none, .mov (.c (.int .i64 0))⟩]) (
 .ret)))
def a25 : AFunc := ⟨21, c25, [.tmp 4, .tmp 5]⟩
/-! 26 cassegrain/code.EncodeBlock params [3, 25] nfree 0 ntmps 24 -/
def c26 : ACode :=
 .seq (
 .reg none [
 ⟨some 4, none, .mov (.c .nils)⟩,
 ⟨some 5, none, .mov (.c (.int .i64 0))⟩]) (
 .seq (
 .seq (
 .reg none [
 ⟨some 8, none, .mov (.t 0)⟩,
 ⟨some 9, none, .ncall true 0 106 [(.t 8)]⟩,
 ⟨some 10, none, .mov (.t 1)⟩,
 ⟨some 11, none, .mov (.t 0)⟩,
 ⟨some 12, none, .bin .mul (.c (.int .i64 2)) (.t 11)⟩,
 ⟨some 13, none, .bin .sub (.c (.int .i64 15)) (.t 12)⟩,
 ⟨some 14, none, .ncall true 0 107 [(.t 10), (.t 13)]⟩,
 ⟨some 15, none, .bslice 26016 27 1 [(.t 9), (.t 14)]⟩,
 ⟨some 16, none, .ncall true 0 105 [(.t 15)]⟩,
 ⟨some 6, none, .mov (.t 16)⟩]) (
 .gh [.keep [0, 1, 6]] (
 .seq (
 .reg none [
 ⟨some 17, none, .mov (.t 6)⟩,
 ⟨some 18, none, .bin .neq (.t 17) (.c (.int .i64 0))⟩]) (
 .cond (.t 18) (
 .seq (
 .reg none [
 ⟨some 19, none, .mov (.t 6)⟩,
 ⟨some 4, none, .mov (.c .nils)⟩,
 ⟨some 5, none, .mov (.t 19)⟩]) (
 .ret)) (
 .skip))))) (
 .seq (
 .reg none [
 ⟨some 20, none, .mov (.t 0)⟩,
 ⟨some 21, none, .mov (.t 1)⟩,
 ⟨some 22, none, .ncall true 0 109 [(.t 20), (.t 21)]⟩,
 ⟨some 7, none, .alloc 26008 133 (.agg (.ints .i64 [0, 0, 0, 0, 0, 0, 0, 0, 0, 0, 0, 0, 0, 0, 0]))⟩,
 ⟨none, none, .store 15 (.t 7) (.t 22)⟩]) (
 .seq (
 .reg none [
 ⟨some 23, none, .asl 15 (.t 7) none none⟩,
 ⟨some 4, none, .mov (.t 23)⟩,
 ⟨some 5, none, .mov (.c (.int .i64 0))⟩]) (
 .ret))))
def a26 : AFunc := ⟨24, c26, [.tmp 4, .tmp 5]⟩
/-! 27 cassegrain/cassegrainref05.IsElement params [3] nfree 0 ntmps 5 -/
def c27 : ACode :=
 .seq (
 .reg none [
 ⟨some 2, none, .mov (.c (.bool false))⟩]) (
 .seq (
 .reg none [
 ⟨some 3, none, .mov (.t 0)⟩,
 ⟨some 4, none, .ncall true 0 45 [(.t 3), (.c (.int .i64 0)), (.c (.int .i64 15))]⟩,
 ⟨some 2, none, .mov (.t 4)⟩]) (
 .ret))
def a27 : AFunc := ⟨5, c27, [.tmp 2]⟩
/-! 28 cassegrain/cassegrainref05.Product params [3, 3] nfree 0 ntmps 37 -/
def l28_0 : ACode :=
 .seq (
 .seq (
 .reg none [
 ⟨some 22, none, .mov (.t 7)⟩,
 ⟨some 23, none, .bin .geq (.t 22) (.c (.int .i64 4))⟩]) (
 .cond (.t 23) (
 .skip) (
 .exit 2))) (
 .seq (
 .block 3 (
 .seq (
 .reg none [
 ⟨some 26, none, .mov (.t 5)⟩,
 ⟨some 27, none, .mov (.t 7)⟩,
 ⟨some 28, none, .bin .shr (.t 26) (.t 27)⟩,
 ⟨some 29, none, .bin .and (.t 28) (.c (.int .i64 1))⟩,
 ⟨some 30, none, .bin .eql (.t 29) (.c (.int .i64 1))⟩]) (
 .cond (.t 30) (
 .reg none [
 ⟨some 31, none, .mov (.t 5)⟩,
 ⟨some 32, none, .mov (.t 7)⟩,
 ⟨some 33, none, .bin .sub (.t 32) (.c (.int .i64 4))⟩,
 ⟨some 34, none, .bin .shl (.c (.int .i64 19)) (.t 33)⟩,
 ⟨some 35, none, .bin .xor (.t 31) (.t 34)⟩,
 ⟨some 5, none, .mov (.t 35)⟩]) (
 .skip)))) (
 .reg none [
 ⟨some 24, none, .mov (.t 7)⟩,
 ⟨some 25, none, .bin .sub (.t 24) (.c (.int .i64 1))⟩,
 ⟨some 7, none, .mov (.t 25)⟩]))
def b28_0 : ACode := .gh [.keep [5, 7]] (.gh [] l28_0)
def l28_1 : ACode :=
 .seq (
 .seq (
 .reg none [
 ⟨some 8, none, .mov (.t 6)⟩,
 ⟨some 9, none, .bin .lss (.t 8) (.c (.int .i64 4))⟩]) (
 .cond (.t 9) (
 .skip) (
 .exit 0))) (
 .seq (
 .block 1 (
 .seq (
 .reg none [
 ⟨some 12, none, .mov (.t 1)⟩,
 ⟨some 13, none, .mov (.t 6)⟩,
 ⟨some 14, none, .bin .shr (.t 12) (.t 13)⟩,
 ⟨some 15, none, .bin .and (.t 14) (.c (.int .i64 1))⟩,
 ⟨some 16, none, .bin .eql (.t 15) (.c (.int .i64 1))⟩]) (
 .cond (.t 16) (
 .reg none [
 ⟨some 17, none, .mov (.t 5)⟩,
 ⟨some 18, none, .mov (.t 0)⟩,
 ⟨some 19, none, .mov (.t 6)⟩,
 ⟨some 20, none, .bin .shl (.t 18) (.t 19)⟩,
 ⟨some 21, none, .bin .xor (.t 17) (.t 20)⟩,
 ⟨some 5, none, .mov (.t 21)⟩]) (
 .skip)))) (
 .reg none [
 ⟨some 10, none, .mov (.t 6)⟩,
 ⟨some 11, none, .bin .add (.t 10) (.c (.int .i64 1))⟩,
 ⟨some 6, none, .mov (.t 11)⟩]))
def b28_1 : ACode := .gh [.keep [0, 1, 5, 6]] (.gh [] l28_1)
def k28_0 : List AItem := .inLoop b28_0 :: [.inBlock 2,
 .code (.seq (
 .reg none [
 ⟨some 36, none, .mov (.t 5)⟩,
 ⟨some 4, none, .mov (.t 36)⟩]) (
 .ret))]
def k28_1 : List AItem := .inLoop b28_1 :: [.inBlock 0,
 .code (.seq (
 .seq (
 .reg none [
 ⟨some 7, none, .mov (.c (.int .i64 6))⟩]) (
 .block 2 (
 .loop b28_0))) (
 .seq (
 .reg none [
 ⟨some 36, none, .mov (.t 5)⟩,
 ⟨some 4, none, .mov (.t 36)⟩]) (
 .ret)))]
def c28 : ACode :=
 .seq (
 .reg none [
 ⟨some 4, none, .mov (.c (.int .i64 0))⟩]) (
 .seq (
 .reg none [
 ⟨some 5, none, .mov (.c (.int .i64 0))⟩]) (
 .seq (
 .seq (
 .reg none [
 ⟨some 6, none, .mov (.c (.int .i64 0))⟩]) (
 .block 0 (
 .loop b28_1))) (
 .seq (
 .seq (
 .reg none [
 ⟨some 7, none, .mov (.c (.int .i64 6))⟩]) (
 .block 2 (
 .loop b28_0))) (
 .seq (
 .reg none [
 ⟨some 36, none, .mov (.t 5)⟩,
 ⟨some 4, none, .mov (.t 36)⟩]) (
 .ret)))))
def a28 : AFunc := ⟨37, c28, [.tmp 4]⟩
/-! 29 cassegrain/cassegrainref05.HalfErr params [3] nfree 0 ntmps 6 -/
def c29 : ACode :=
 .seq (
 .reg none [
 ⟨some 2, none, .mov (.c (.int .i64 0))⟩]) (
 .seq (
 .seq (
 .reg none [
 ⟨some 3, none, .mov (.t 0)⟩,
 ⟨some 4, none, .ncall true 0 45 [(.t 3), (.c (.int .i64 1)), (.c (.int .i64 3))]⟩,
 ⟨some 5, none, .not (.t 4)⟩]) (
 .cond (.t 5) (
 .seq (
 .reg none [
 ⟨some 2, none, .mov (.c (.int .i64 2))⟩]) (
 .ret)) (
 .skip))) (
 .seq (
 .reg none [
 ⟨some 2, none, .mov (.c (.int .i64 0))⟩]) (
 .ret)))
def a29 : AFunc := ⟨6, c29, [.tmp 2]⟩
/-! 30 cassegrain/cassegrainref05.WordErr params [25] nfree 0 ntmps 8 -/
def c30 : ACode :=
 .seq (
 .reg none [
 ⟨some 2, none, .mov (.c (.int .i64 0))⟩]) (
 .seq (
 .seq (
 .reg none [
 ⟨some 3, none, .mov (.t 0)⟩,
 ⟨some 4, none, .len (.t 3)⟩,
 ⟨some 5, none, .bin .neq (.t 4) (.c (.int .i64 15))⟩]) (
 .cond (.t 5) (
 .seq (
 .reg none [
 ⟨some 2, none, .mov (.c (.int .i64 10))⟩]) (
 .ret)) (
 .skip))) (
 .seq (
 .reg none [
 ⟨some 6, none, .mov (.t 0)⟩,
 ⟨some 7, none, .ncall true 0 32 [(.t 6)]⟩,
 ⟨some 2, none, .mov (.t 7)⟩]) (
 .ret)))
def a30 : AFunc := ⟨8, c30, [.tmp 2]⟩
/-! 31 cassegrain/cassegrainref05.Syndromes params [3, 25] nfree 0 ntmps 42 -/
def l31_1 : ACode :=
 .seq (
 .seq (
 .reg none [
 ⟨some 15, none, .mov (.t 8)⟩,
 ⟨some 16, none, .mov (.t 1)⟩,
 ⟨some 17, none, .len (.t 16)⟩,
 ⟨some 18, none, .bin .lss (.t 15) (.t 17)⟩]) (
 .cond (.t 18) (
 .skip) (
 .exit 2))) (
 .seq (
 .block 3 (
 .reg (some []) [
 ⟨some 21, none, .mov (.t 7)⟩,
 ⟨some 22, none, .mov (.t 1)⟩,
 ⟨some 23, none, .mov (.t 8)⟩,
 ⟨some 24, none, .iaddr 1 (.t 22) (.t 23)⟩,
 ⟨some 25, none, .load false 1 (.t 24)⟩,
 ⟨some 26, none, .mov (.t 6)⟩,
 ⟨some 27, none, .mov (.t 1)⟩,
 ⟨some 28, none, .len (.t 27)⟩,
 ⟨some 29, none, .bin .sub (.t 28) (.c (.int .i64 1))⟩,
 ⟨some 30, none, .mov (.t 8)⟩,
 ⟨some 31, none, .bin .sub (.t 29) (.t 30)⟩,
 ⟨some 32, none, .bin .mul (.t 26) (.t 31)⟩,
 ⟨some 33, none, .bin .rem (.t 32) (.c (.int .i64 15))⟩,
 ⟨some 34, none, .ncall true 0 110 [(.t 33)]⟩,
 ⟨some 35, none, .ncall true 0 28 [(.t 25), (.t 34)]⟩,
 ⟨some 36, none, .bin .xor (.t 21) (.t 35)⟩,
 ⟨some 7, none, .mov (.t 36)⟩])) (
 .reg none [
 ⟨some 19, none, .mov (.t 8)⟩,
 ⟨some 20, none, .bin .add (.t 19) (.c (.int .i64 1))⟩,
 ⟨some 8, none, .mov (.t 20)⟩]))
def b31_1 : ACode := .gh [.keep [0, 1, 5, 6, 7, 8]] (.gh [] l31_1)
def l31_0 : ACode :=
 .seq (
 .seq (
 .reg none [
 ⟨some 9, none, .mov (.t 6)⟩,
 ⟨some 10, none, .mov (.t 0)⟩,
 ⟨some 11, none, .bin .mul (.c (.int .i64 2)) (.t 10)⟩,
 ⟨some 12, none, .bin .leq (.t 9) (.t 11)⟩]) (
 .cond (.t 12) (
 .skip) (
 .exit 0))) (
 .seq (
 .block 1 (
 .seq (
 .reg none [
 ⟨some 7, none, .mov (.c (.int .i64 0))⟩]) (
 .seq (
 .seq (
 .reg none [
 ⟨some 8, none, .mov (.c (.int .i64 0))⟩]) (
 .block 2 (
 .loop b31_1))) (
 .reg none [
 ⟨some 37, none, .mov (.t 5)⟩,
 ⟨some 38, none, .mov (.t 7)⟩,
 ⟨some 39, none, .bslice 31040 3 1 [(.t 38)]⟩,
 ⟨some 40, none, .append 31041 3 1 (.t 37) (.t 39)⟩,
 ⟨some 5, none, .mov (.t 40)⟩])))) (
 .reg none [
 ⟨some 13, none, .mov (.t 6)⟩,
 ⟨some 14, none, .bin .add (.t 13) (.c (.int .i64 1))⟩,
 ⟨some 6, none, .mov (.t 14)⟩]))
def b31_0 : ACode := .gh [.keep [0, 1, 5, 6]] (.gh [] l31_0)
def k31_1 : List AItem := .inLoop b31_1 :: [.inBlock 2,
 .code (.reg none [
 ⟨some 37, none, .mov (.t 5)⟩,
 ⟨some 38, none, .mov (.t 7)⟩,
 ⟨some 39, none, .bslice 31040 3 1 [(.t 38)]⟩,
 ⟨some 40, none, .append 31041 3 1 (.t 37) (.t 39)⟩,
 ⟨some 5, none, .mov (.t 40)⟩]),
 .inBlock 1,
 .code (.reg none [
 ⟨some 13, none, .mov (.t 6)⟩,
 ⟨some 14, none, .bin .add (.t 13) (.c (.int .i64 1))⟩,
 ⟨some 6, none, .mov (.t 14)⟩]),
 .inLoop b31_0,
 .inBlock 0,
 .code (.seq (
 .reg none [
 ⟨some 41, none, .mov (.t 5)⟩,
 ⟨some 4, none, .mov (.t 41)⟩]) (
 .ret))]
def k31_0 : List AItem := .inLoop b31_0 :: [.inBlock 0,
 .code (.seq (
 .reg none [
 ⟨some 41, none, .mov (.t 5)⟩,
 ⟨some 4, none, .mov (.t 41)⟩]) (
 .ret))]
def c31 : ACode :=
 .seq (
 .reg none [
 ⟨some 4, none, .mov (.c .nils)⟩]) (
 .seq (
 .reg none [
 ⟨some 5, none, .mov (.c .nils)⟩]) (
 .seq (
 .seq (
 .reg none [
 ⟨some 6, none, .mov (.c (.int .i64 1))⟩]) (
 .block 0 (
 .loop b31_0))) (
 .seq (
 .reg none [
 ⟨some 41, none, .mov (.t 5)⟩,
 ⟨some 4, none, .mov (.t 41)⟩]) (
 .ret))))
def a31 : AFunc := ⟨42, c31, [.tmp 4]⟩
/-! 32 cassegrain/cassegrainref05.ElementsErr params [25] nfree 0 ntmps 16 -/
def l32_0 : ACode :=
 .seq (
 .seq (
 .reg none [
 ⟨some 4, none, .mov (.t 3)⟩,
 ⟨some 5, none, .mov (.t 0)⟩,
 ⟨some 6, none, .len (.t 5)⟩,
 ⟨some 7, none, .bin .lss (.t 4) (.t 6)⟩]) (
 .cond (.t 7) (
 .skip) (
 .exit 0))) (
 .seq (
 .block 1 (
 .seq (
 .reg none [
 ⟨some 10, none, .mov (.t 0)⟩,
 ⟨some 11, none, .mov (.t 3)⟩,
 ⟨some 12, none, .iaddr 1 (.t 10) (.t 11)⟩,
 ⟨some 13, none, .load false 1 (.t 12)⟩,
 ⟨some 14, none, .ncall true 0 27 [(.t 13)]⟩,
 ⟨some 15, none, .not (.t 14)⟩]) (
 .cond (.t 15) (
 .seq (
 .reg none [
 ⟨some 2, none, .mov (.c (.int .i64 2))⟩]) (
 .ret)) (
 .skip)))) (
 .reg none [
 ⟨some 8, none, .mov (.t 3)⟩,
 ⟨some 9, none, .bin .add (.t 8) (.c (.int .i64 1))⟩,
 ⟨some 3, none, .mov (.t 9)⟩]))
def b32_0 : ACode := .gh [.keep [0, 3]] (.gh [] l32_0)
def k32_0 : List AItem := .inLoop b32_0 :: [.inBlock 0,
 .code (.seq (
 .reg none [
 ⟨some 2, none, .mov (.c (.int .i64 0))⟩]) (
 .ret))]
def c32 : ACode :=
 .seq (
 .reg none [
 ⟨some 2, none, .mov (.c (.int .i64 0))⟩]) (
 .seq (
 .seq (
 .reg none [
 ⟨some 3, none, .mov (.c (.int .i64 0))⟩]) (
 .block 0 (
 .loop b32_0))) (
 .seq (
 .reg none [
 ⟨some 2, none, .mov (.c (.int .i64 0))⟩]) (
 .ret)))
def a32 : AFunc := ⟨16, c32, [.tmp 2]⟩
/-! 33 cassegrain/cassegrainref05.EncodeBlock params [3, 25] nfree 0 ntmps 35 -/
def l33_0 : ACode :=
 .seq (
 .seq (
 .reg none [
 ⟨some 17, none, .mov (.t 7)⟩,
 ⟨some 18, none, .mov (.t 5)⟩,
 ⟨some 19, none, .len (.t 18)⟩,
 ⟨some 20, none, .bin .lss (.t 17) (.t 19)⟩]) (
 .cond (.t 20) (
 .skip) (
 .exit 0))) (
 .seq (
 .block 1 (
 .reg none [
 ⟨some 23, none, .mov (.t 6)⟩,
 ⟨some 24, none, .mov (.t 7)⟩,
 ⟨some 25, none, .bslice 33026 3 1 [(.t 24)]⟩,
 ⟨some 26, none, .append 33027 3 1 (.t 23) (.t 25)⟩,
 ⟨some 6, none, .mov (.t 26)⟩])) (
 .reg none [
 ⟨some 21, none, .mov (.t 7)⟩,
 ⟨some 22, none, .bin .add (.t 21) (.c (.int .i64 1))⟩,
 ⟨some 7, none, .mov (.t 22)⟩]))
def b33_0 : ACode := .gh [.keep [0, 5, 6, 7]] (.gh [] l33_0)
def k33_0 : List AItem := .inLoop b33_0 :: [.inBlock 0,
 .code (.seq (
 .reg none [
 ⟨some 28, none, .mov (.t 0)⟩,
 ⟨some 29, none, .mov (.t 5)⟩,
 ⟨some 30, none, .mov (.t 6)⟩,
 ⟨some 31, none, .ncall true 33032 83 [(.t 28), (.t 29), (.t 30)]⟩,
 ⟨some 27, none, .mov (.t 31)⟩,
 ⟨some 32, none, .ext 0 (.t 27)⟩,
 ⟨some 33, none, .ext 1 (.t 27)⟩,
 ⟨some 8, none, .mov (.t 32)⟩,
 ⟨some 9, none, .mov (.t 33)⟩]) (
 .gh [.keep [8]] (
 .seq (
 .reg none [
 ⟨some 34, none, .mov (.t 8)⟩,
 ⟨some 4, none, .mov (.t 34)⟩]) (
 .ret))))]
def c33 : ACode :=
 .seq (
 .reg none [
 ⟨some 4, none, .mov (.c .nils)⟩]) (
 .seq (
 .reg none [
 ⟨some 10, none, .mov (.t 1)⟩,
 ⟨some 11, none, .ncall true 33012 20 [(.t 10)]⟩,
 ⟨some 12, none, .mov (.t 0)⟩,
 ⟨some 13, none, .bin .mul (.c (.int .i64 2)) (.t 12)⟩,
 ⟨some 14, none, .append 33015 3 1 (.t 11) (.t 13)⟩,
 ⟨some 5, none, .mov (.t 14)⟩]) (
 .seq (
 .reg none [
 ⟨some 6, none, .mov (.c .nils)⟩]) (
 .seq (
 .seq (
 .reg none [
 ⟨some 15, none, .mov (.t 1)⟩,
 ⟨some 16, none, .len (.t 15)⟩,
 ⟨some 7, none, .mov (.t 16)⟩]) (
 .block 0 (
 .loop b33_0))) (
 .seq (
 .reg none [
 ⟨some 28, none, .mov (.t 0)⟩,
 ⟨some 29, none, .mov (.t 5)⟩,
 ⟨some 30, none, .mov (.t 6)⟩,
 ⟨some 31, none, .ncall true 33032 83 [(.t 28), (.t 29), (.t 30)]⟩,
 ⟨some 27, none, .mov (.t 31)⟩,
 ⟨some 32, none, .ext 0 (.t 27)⟩,
 ⟨some 33, none, .ext 1 (.t 27)⟩,
 ⟨some 8, none, .mov (.t 32)⟩,
 ⟨some 9, none, .mov (.t 33)⟩]) (
 .gh [.keep [8]] (
 .seq (
 .reg none [
 ⟨some 34, none, .mov (.t 8)⟩,
 ⟨some 4, none, .mov (.t 34)⟩]) (
 .ret)))))))
def a33 : AFunc := ⟨35, c33, [.tmp 4]⟩
/-! 34 cassegrain/cassegrainlaw05.fewChecks params [48] nfree 0 ntmps 22 -/
def l34_0 : ACode :=
 .seq (
 .seq (
 .reg none [
 ⟨some 8, none, .mov (.t 3)⟩,
 ⟨some 9, none, .faddr 1 (.t 1)⟩,
 ⟨some 10, none, .load false 1 (.t 9)⟩,
 ⟨some 11, none, .len (.t 10)⟩,
 ⟨some 12, none, .bin .lss (.t 8) (.t 11)⟩]) (
 .cond (.t 12) (
 .skip) (
 .exit 0))) (
 .seq (
 .block 1 (
 .seq (
 .reg none [
 ⟨some 15, none, .faddr 1 (.t 1)⟩,
 ⟨some 16, none, .load false 1 (.t 15)⟩,
 ⟨some 17, none, .mov (.t 3)⟩,
 ⟨some 18, none, .iaddr 1 (.t 16) (.t 17)⟩,
 ⟨some 19, none, .load false 1 (.t 18)⟩,
 ⟨some 20, none, .len (.t 19)⟩,
 ⟨some 21, none, .bin .gtr (.t 20) (.c (.int .i64 26))⟩]) (
 .gh [.keep [1, 3, 21]] (
 .cond (.t 21) (
 .seq (
 .reg none [
 ⟨some 2, none, .mov (.c (.bool false))⟩]) (
 .ret)) (
 .skip))))) (
 .reg none [
 ⟨some 13, none, .mov (.t 3)⟩,
 ⟨some 14, none, .bin .add (.t 13) (.c (.int .i64 1))⟩,
 ⟨some 3, none, .mov (.t 14)⟩]))
def b34_0 : ACode := .gh [.keep [1, 3]] (.gh [] l34_0)
def k34_0 : List AItem := .inLoop b34_0 :: [.inBlock 0,
 .code (.seq (
 .reg none [
 ⟨some 2, none, .mov (.c (.bool true))⟩]) (
 .ret))]
def c34 : ACode :=
 .seq (
 .reg none [
 ⟨some 1, none, .box 34002 48 (.t 0)⟩,
 ⟨some 2, none, .mov (.c (.bool false))⟩]) (
 .seq (
 .seq (
 .reg none [
 ⟨some 4, none, .faddr 1 (.t 1)⟩,
 ⟨some 5, none, .load false 1 (.t 4)⟩,
 ⟨some 6, none, .len (.t 5)⟩,
 ⟨some 7, none, .bin .gtr (.t 6) (.c (.int .i64 18))⟩]) (
 .cond (.t 7) (
 .seq (
 .reg none [
 ⟨some 2, none, .mov (.c (.bool false))⟩]) (
 .ret)) (
 .skip))) (
 .seq (
 .seq (
 .reg none [
 ⟨some 3, none, .mov (.c (.int .i64 0))⟩]) (
 .block 0 (
 .loop b34_0))) (
 .seq (
 .reg none [
 ⟨some 2, none, .mov (.c (.bool true))⟩]) (
 .ret))))
def a34 : AFunc := ⟨22, c34, [.tmp 2]⟩
/-! 35 cassegrain/code.CheckParity params [48] nfree 0 ntmps 62 -/
def l35_1 : ACode :=
 .seq (
 .reg none [
 ⟨some 40, none, .bin .lss (.t 39) (.t 38)⟩]) (
 .seq (
 .cond (.t 40) (
 .skip) (
 .exit 2)) (
 .seq (
 .block 3 (
 .seq (
 .reg none [
 ⟨some 41, none, .iaddr 1 (.t 37) (.t 39)⟩,
 ⟨some 42, none, .load false 1 (.t 41)⟩,
 ⟨some 9, none, .mov (.t 42)⟩]) (
 .seq (
 .seq (
 .reg none [
 ⟨some 43, none, .mov (.t 9)⟩,
 ⟨some 44, none, .faddr 0 (.t 1)⟩,
 ⟨some 45, none, .load false 1 (.t 44)⟩,
 ⟨some 46, none, .bin .sub (.t 45) (.c (.int .i64 1))⟩,
 ⟨some 47, none, .ncall true 0 112 [(.t 43), (.c (.int .i64 0)), (.t 46)]⟩,
 ⟨some 48, none, .ncall true 0 111 [(.t 47), (.c (.int .i64 6))]⟩,
 ⟨some 49, none, .mov (.t 9)⟩,
 ⟨some 50, none, .mov (.t 7)⟩,
 ⟨some 51, none, .bin .gtr (.t 49) (.t 50)⟩,
 ⟨some 52, none, .ncall true 0 111 [(.t 51), (.c (.int .i64 9))]⟩,
 ⟨some 53, none, .bslice 35054 27 1 [(.t 48), (.t 52)]⟩,
 ⟨some 54, none, .ncall true 0 105 [(.t 53)]⟩,
 ⟨some 10, none, .mov (.t 54)⟩]) (
 .gh [.keep [1, 5, 9, 10, 26, 27, 28, 37, 38, 39]] (
 .seq (
 .reg none [
 ⟨some 55, none, .mov (.t 10)⟩,
 ⟨some 56, none, .bin .neq (.t 55) (.c (.int .i64 0))⟩]) (
 .cond (.t 56) (
 .seq (
 .reg none [
 ⟨some 57, none, .mov (.t 5)⟩,
 ⟨some 58, none, .mov (.t 10)⟩,
 ⟨some 2, none, .mov (.t 57)⟩,
 ⟨some 3, none, .mov (.t 58)⟩]) (
 .ret)) (
 .skip))))) (
 .reg none [
 ⟨some 59, none, .mov (.t 9)⟩,
 ⟨some 7, none, .mov (.t 59)⟩])))) (
 .reg none [
 ⟨some 60, none, .bin .add (.t 39) (.c (.int .i64 1))⟩,
 ⟨some 39, none, .mov (.t 60)⟩])))
def b35_1 : ACode := .gh [.keep [1, 5, 7, 26, 27, 28, 37, 38, 39]] (.gh [] l35_1)
def l35_0 : ACode :=
 .seq (
 .reg none [
 ⟨some 29, none, .bin .lss (.t 28) (.t 27)⟩]) (
 .seq (
 .cond (.t 29) (
 .skip) (
 .exit 0)) (
 .seq (
 .block 1 (
 .seq (
 .reg none [
 ⟨some 30, none, .mov (.t 28)⟩,
 ⟨some 31, none, .iaddr 1 (.t 26) (.t 28)⟩,
 ⟨some 32, none, .load false 1 (.t 31)⟩,
 ⟨some 5, none, .mov (.t 30)⟩,
 ⟨some 6, none, .mov (.t 32)⟩]) (
 .seq (
 .seq (
 .reg none [
 ⟨some 33, none, .mov (.t 6)⟩,
 ⟨some 34, none, .len (.t 33)⟩,
 ⟨some 35, none, .bin .eql (.t 34) (.c (.int .i64 0))⟩]) (
 .cond (.t 35) (
 .seq (
 .reg none [
 ⟨some 36, none, .mov (.t 5)⟩,
 ⟨some 2, none, .mov (.t 36)⟩,
 ⟨some 3, none, .mov (.c (.int .i64 10))⟩]) (
 .ret)) (
 .skip))) (
 .seq (
 .reg none [
 ⟨some 7, none, .mov (.c (.int .i64 (-1)))⟩]) (
 .seq (
 .reg none [
 ⟨some 37, none, .mov (.t 6)⟩,
 ⟨some 38, none, .len (.t 37)⟩,
 ⟨some 39, none, .mov (.c (.int .i64 0))⟩]) (
 .block 2 (
 .loop b35_1))))))) (
 .reg none [
 ⟨some 61, none, .bin .add (.t 28) (.c (.int .i64 1))⟩,
 ⟨some 28, none, .mov (.t 61)⟩])))
def b35_0 : ACode := .gh [.keep [1, 26, 27, 28]] (.gh [] l35_0)
def k35_1 : List AItem := .inLoop b35_1 :: [.inBlock 2,
 .inBlock 1,
 .code (.reg none [
 ⟨some 61, none, .bin .add (.t 28) (.c (.int .i64 1))⟩,
 ⟨some 28, none, .mov (.t 61)⟩]),
 .inLoop b35_0,
 .inBlock 0,
 .code (.seq (
 .reg none [
 ⟨some 2, none, .mov (.c (.int .i64 0))⟩,
 ⟨some 3, none, .mov (.c (.int .i64 0))⟩]) (
 .ret))]
def k35_0 : List AItem := .inLoop b35_0 :: [.inBlock 0,
 .code (.seq (
 .reg none [
 ⟨some 2, none, .mov (.c (.int .i64 0))⟩,
 ⟨some 3, none, .mov (.c (.int .i64 0))⟩]) (
 .ret))]
def c35 : ACode :=
 .seq (
 .reg none [
 ⟨some 1, none, .box 35002 48 (.t 0)⟩,
 ⟨some 2, none, .mov (.c (.int .i64 0))⟩,
 ⟨some 3, none, .mov (.c (.int .i64 0))⟩]) (
 .seq (
 .seq (
 .reg (some []) [
 ⟨some 11, none, .faddr 0 (.t 1)⟩,
 ⟨some 12, none, .load false 1 (.t 11)⟩,
 ⟨some 13, none, .ncall true 0 112 [(.t 12), (.c (.int .i64 1)), (.c (.int .i64 24))]⟩,
 ⟨some 14, none, .ncall true 0 111 [(.t 13), (.c (.int .i64 2))]⟩,
 ⟨some 15, none, .faddr 1 (.t 1)⟩,
 ⟨some 16, none, .load false 1 (.t 15)⟩,
 ⟨some 17, none, .len (.t 16)⟩,
 ⟨some 18, none, .bin .leq (.t 17) (.c (.int .i64 16))⟩,
 ⟨some 19, none, .ncall true 0 111 [(.t 18), (.c (.int .i64 8))]⟩,
 ⟨some 20, none, .bslice 35021 27 1 [(.t 14), (.t 19)]⟩,
 ⟨some 21, none, .ncall true 0 105 [(.t 20)]⟩,
 ⟨some 4, none, .mov (.t 21)⟩]) (
 .gh [.keep [1, 4]] (
 .seq (
 .reg none [
 ⟨some 22, none, .mov (.t 4)⟩,
 ⟨some 23, none, .bin .neq (.t 22) (.c (.int .i64 0))⟩]) (
 .cond (.t 23) (
 .seq (
 .reg none [
 ⟨some 24, none, .mov (.t 4)⟩,
 ⟨some 2, none, .mov (.c (.int .i64 0))⟩,
 ⟨some 3, none, .mov (.t 24)⟩]) (
 .ret)) (
 .skip))))) (
 .seq (
 .seq (
 .reg none [
 ⟨some 25, none, .faddr 1 (.t 1)⟩,
 ⟨some 26, none, .load false 1 (.t 25)⟩,
 ⟨some 27, none, .len (.t 26)⟩,
 ⟨some 28, none, .mov (.c (.int .i64 0))⟩]) (
 .block 0 (
 .loop b35_0))) (
 .seq (
 .reg none [
 ⟨some 2, none, .mov (.c (.int .i64 0))⟩,
 ⟨some 3, none, .mov (.c (.int .i64 0))⟩]) (
 .ret))))
def a35 : AFunc := ⟨62, c35, [.tmp 2, .tmp 3]⟩
/-! 36 cassegrain/cassegrainref05.Copy params [48] nfree 0 ntmps 9 -/
def c36 : ACode :=
 .seq (
 .reg none [
 ⟨some 1, none, .box 36002 48 (.t 0)⟩,
 ⟨some 2, none, .alloc 36003 48 (.agg (.gen [(.int .i64 0), .nils]))⟩]) (
 .seq (
 .reg (some [(0, 4), (1, 4)]) [
 ⟨some 3, none, .faddr 0 (.t 1)⟩,
 ⟨some 4, none, .load false 1 (.t 3)⟩,
 ⟨some 5, none, .faddr 1 (.t 1)⟩,
 ⟨some 6, none, .load false 1 (.t 5)⟩,
 ⟨some 7, none, .ncall true 36008 113 [(.t 6)]⟩,
 ⟨some 8, none, .build (.gen [(.int .i64 0), .nils]) [(0, 1, (.t 4)), (1, 1, (.t 7))]⟩,
 ⟨none, none, .store 2 (.t 2) (.t 8)⟩]) (
 .gh [.keep [2]] (
 .ret)))
def a36 : AFunc := ⟨9, c36, [.cell 2 true 2]⟩
/-! 37 cassegrain/code.Unsatisfied params [48, 25] nfree 0 ntmps 16 -/
def c37 : ACode :=
 .seq (
 .reg none [
 ⟨some 2, none, .box 37003 48 (.t 0)⟩,
 ⟨some 4, none, .mov (.c .nils)⟩,
 ⟨some 5, none, .mov (.c (.int .i64 0))⟩]) (
 .seq (
 .seq (
 .reg none [
 ⟨some 7, none, .load true 2 (.t 2)⟩,
 ⟨some 8, none, .mov (.t 1)⟩,
 ⟨some 9, none, .ncall true 0 114 [(.t 7), (.t 8)]⟩,
 ⟨some 6, none, .mov (.t 9)⟩]) (
 .seq (
 .reg none [
 ⟨some 10, none, .mov (.t 6)⟩,
 ⟨some 11, none, .bin .neq (.t 10) (.c (.int .i64 0))⟩]) (
 .cond (.t 11) (
 .seq (
 .reg none [
 ⟨some 12, none, .mov (.t 6)⟩,
 ⟨some 4, none, .mov (.c .nils)⟩,
 ⟨some 5, none, .mov (.t 12)⟩]) (
 .ret)) (
 .skip)))) (
 .seq (
 .reg none [
 ⟨some 13, none, .load true 2 (.t 2)⟩,
 ⟨some 14, none, .mov (.t 1)⟩,
 ⟨some 15, none, .ncall true 37016 115 [(.t 13), (.t 14)]⟩,
 ⟨some 4, none, .mov (.t 15)⟩,
 ⟨some 5, none, .mov (.c (.int .i64 0))⟩]) (
 .ret)))
def a37 : AFunc := ⟨16, c37, [.tmp 4, .tmp 5]⟩
end Go.Proofs.Ytimmgjppippdiaa
