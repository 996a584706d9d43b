/- The code of the program, for the machine, part 1. Printed by gen2.py. -/
import Derived.Test.YtimmgjppippdiaaXz
namespace Go.Proofs.Ytimmgjppippdiaa
/-! 8 cassegrain/cassegrainlaw05.CodeEncodes params [24, 25, 25] nfree 0 ntmps 160 -/
def c8 : ACode :=
 .seq (
 .reg none [
 ⟨some 3, none, .box 8004 24 (.t 0)⟩,
 ⟨some 6, none, .mov (.c (.bool false))⟩]) (
 .seq (
 .seq (
 .reg none [
 ⟨some 14, none, .ncall true 0 18 []⟩,
 ⟨some 15, none, .not (.t 14)⟩]) (
 .cond (.t 15) (
 .seq (
 .reg none [
 ⟨some 6, none, .mov (.c (.bool false))⟩]) (
 .ret)) (
 .skip))) (
 .seq (
 .seq (
 .reg none [
 ⟨some 16, none, .mov (.t 1)⟩,
 ⟨some 17, none, .len (.t 16)⟩,
 ⟨some 18, none, .ncall true 0 50 [(.t 17), (.c (.int .i64 300))]⟩,
 ⟨some 19, none, .not (.t 18)⟩,
 ⟨some 20, none, .mov (.t 19)⟩,
 ⟨some 21, (some (20, false)), .mov (.t 2)⟩,
 ⟨some 22, (some (20, false)), .len (.t 21)⟩,
 ⟨some 23, (some (20, false)), .bin .gtr (.t 22) (.c (.int .i64 60))⟩,
 ⟨some 24, (some (20, false)), .mov (.t 23)⟩,
 ⟨some 25, (some (24, true)), .mov (.t 2)⟩,
 ⟨some 26, (some (24, true)), .len (.t 25)⟩,
 ⟨some 27, (some (24, true)), .bin .leq (.t 26) (.c (.int .i64 600))⟩,
 ⟨some 28, (some (20, false)), .pick (.t 24) (.t 27) (.c (.bool false))⟩,
 ⟨some 29, none, .pick (.t 20) (.c (.bool true)) (.t 28)⟩,
 ⟨some 30, none, .mov (.t 29)⟩,
 ⟨some 31, (some (30, false)), .mov (.t 2)⟩,
 ⟨some 32, (some (30, false)), .len (.t 31)⟩,
 ⟨some 33, (some (30, false)), .bin .gtr (.t 32) (.c (.int .i64 608))⟩,
 ⟨some 34, none, .pick (.t 30) (.c (.bool true)) (.t 33)⟩]) (
 .gh [.keep [1, 2, 3, 34]] (
 .cond (.t 34) (
 .seq (
 .reg none [
 ⟨some 6, none, .mov (.c (.bool true))⟩]) (
 .ret)) (
 .skip)))) (
 .seq (
 .reg (some [(0, 2)]) [
 ⟨some 36, none, .load true 3 (.t 3)⟩,
 ⟨some 37, none, .mov (.t 1)⟩,
 ⟨some 38, none, .ncall true 8039 20 [(.t 37)]⟩,
 ⟨some 39, none, .ncall true 8040 46 [(.t 36), (.t 38)]⟩,
 ⟨some 35, none, .mov (.t 39)⟩,
 ⟨some 40, none, .ext 0 (.t 35)⟩,
 ⟨some 41, none, .ext 1 (.t 35)⟩,
 ⟨some 7, none, .mov (.t 40)⟩,
 ⟨some 8, none, .mov (.t 41)⟩]) (
 .gh [.keep [1, 2, 3, 7, 8]] (
 .seq (
 .reg (some [(0, 2), (0, 4), (2, 3)]) [
 ⟨some 43, none, .load true 3 (.t 3)⟩,
 ⟨some 44, none, .mov (.t 1)⟩,
 ⟨some 45, none, .ncall true 8046 20 [(.t 44)]⟩,
 ⟨some 46, none, .mov (.t 2)⟩,
 ⟨some 47, none, .ncall true 8048 20 [(.t 46)]⟩,
 ⟨some 48, none, .ncall true 0 56 [(.t 43), (.t 45), (.t 47)]⟩,
 ⟨some 42, none, .mov (.t 48)⟩,
 ⟨some 49, none, .ext 0 (.t 42)⟩,
 ⟨some 50, none, .ext 1 (.t 42)⟩,
 ⟨some 9, none, .mov (.t 49)⟩,
 ⟨some 10, none, .mov (.t 50)⟩]) (
 .gh [.keep [1, 2, 3, 7, 8, 9, 10]] (
 .seq (
 .reg none [
 ⟨some 52, none, .load true 3 (.t 3)⟩,
 ⟨some 53, none, .ncall true 0 47 [(.t 52)]⟩,
 ⟨some 51, none, .mov (.t 53)⟩,
 ⟨some 54, none, .ext 0 (.t 51)⟩,
 ⟨some 55, none, .ext 1 (.t 51)⟩,
 ⟨some 11, none, .mov (.t 54)⟩,
 ⟨some 12, none, .mov (.t 55)⟩]) (
 .seq (
 .reg none [
 ⟨some 56, none, .load true 3 (.t 3)⟩,
 ⟨some 57, none, .ncall true 0 43 [(.t 56)]⟩,
 ⟨some 13, none, .mov (.t 57)⟩]) (
 .seq (
 .seq (
 .reg none [
 ⟨some 58, none, .load true 3 (.t 3)⟩,
 ⟨some 59, none, .ncall true 0 57 [(.t 58)]⟩,
 ⟨some 60, none, .mov (.t 13)⟩,
 ⟨some 61, none, .bin .neq (.t 59) (.t 60)⟩]) (
 .cond (.t 61) (
 .seq (
 .reg none [
 ⟨some 6, none, .mov (.c (.bool false))⟩]) (
 .ret)) (
 .skip))) (
 .seq (
 .seq (
 .reg none [
 ⟨some 62, none, .mov (.t 13)⟩,
 ⟨some 63, none, .bin .neq (.t 62) (.c (.int .i64 0))⟩]) (
 .cond (.t 63) (
 .seq (
 .reg none [
 ⟨some 64, none, .mov (.t 8)⟩,
 ⟨some 65, none, .mov (.t 13)⟩,
 ⟨some 66, none, .bin .eql (.t 64) (.t 65)⟩,
 ⟨some 67, none, .mov (.t 66)⟩,
 ⟨some 68, (some (67, true)), .mov (.t 10)⟩,
 ⟨some 69, (some (67, true)), .mov (.t 13)⟩,
 ⟨some 70, (some (67, true)), .bin .eql (.t 68) (.t 69)⟩,
 ⟨some 71, none, .pick (.t 67) (.t 70) (.c (.bool false))⟩,
 ⟨some 72, none, .mov (.t 71)⟩,
 ⟨some 73, (some (72, true)), .mov (.t 12)⟩,
 ⟨some 74, (some (72, true)), .mov (.t 13)⟩,
 ⟨some 75, (some (72, true)), .bin .eql (.t 73) (.t 74)⟩,
 ⟨some 76, none, .pick (.t 72) (.t 75) (.c (.bool false))⟩,
 ⟨some 77, none, .mov (.t 76)⟩,
 ⟨some 78, (some (77, true)), .mov (.t 7)⟩,
 ⟨some 79, (some (77, true)), .len (.t 78)⟩,
 ⟨some 80, (some (77, true)), .bin .eql (.t 79) (.c (.int .i64 0))⟩,
 ⟨some 81, none, .pick (.t 77) (.t 80) (.c (.bool false))⟩,
 ⟨some 82, none, .mov (.t 81)⟩,
 ⟨some 83, (some (82, true)), .mov (.t 9)⟩,
 ⟨some 84, (some (82, true)), .bin .eql (.t 83) (.c (.int .i64 0))⟩,
 ⟨some 85, none, .pick (.t 82) (.t 84) (.c (.bool false))⟩,
 ⟨some 86, none, .mov (.t 85)⟩,
 ⟨some 87, (some (86, true)), .mov (.t 11)⟩,
 ⟨some 88, (some (86, true)), .bin .eql (.t 87) (.c (.int .i64 0))⟩,
 ⟨some 89, none, .pick (.t 86) (.t 88) (.c (.bool false))⟩,
 ⟨some 6, none, .mov (.t 89)⟩]) (
 .gh [.keep [6]] (
 .ret))) (
 .skip))) (
 .seq (
 .seq (
 .reg none [
 ⟨some 90, none, .mov (.t 12)⟩,
 ⟨some 91, none, .bin .neq (.t 90) (.c (.int .i64 0))⟩,
 ⟨some 92, none, .mov (.t 91)⟩,
 ⟨some 93, (some (92, false)), .mov (.t 11)⟩,
 ⟨some 94, (some (92, false)), .load true 3 (.t 3)⟩,
 ⟨some 95, (some (92, false)), .ncall true 0 58 [(.t 94)]⟩,
 ⟨some 96, (some (92, false)), .bin .neq (.t 93) (.t 95)⟩,
 ⟨some 97, none, .pick (.t 92) (.c (.bool true)) (.t 96)⟩]) (
 .gh [.keep [1, 2, 3, 7, 8, 9, 10, 97]] (
 .cond (.t 97) (
 .seq (
 .reg none [
 ⟨some 6, none, .mov (.c (.bool false))⟩]) (
 .ret)) (
 .skip)))) (
 .seq (
 .seq (
 .reg none [
 ⟨some 98, none, .mov (.t 1)⟩,
 ⟨some 99, none, .ncall true 0 44 [(.t 98)]⟩,
 ⟨some 13, none, .mov (.t 99)⟩]) (
 .seq (
 .reg none [
 ⟨some 100, none, .mov (.t 13)⟩,
 ⟨some 101, none, .bin .neq (.t 100) (.c (.int .i64 0))⟩]) (
 .cond (.t 101) (
 .seq (
 .reg none [
 ⟨some 102, none, .mov (.t 8)⟩,
 ⟨some 103, none, .mov (.t 13)⟩,
 ⟨some 104, none, .bin .eql (.t 102) (.t 103)⟩,
 ⟨some 105, none, .mov (.t 104)⟩,
 ⟨some 106, (some (105, true)), .mov (.t 10)⟩,
 ⟨some 107, (some (105, true)), .mov (.t 13)⟩,
 ⟨some 108, (some (105, true)), .bin .eql (.t 106) (.t 107)⟩,
 ⟨some 109, none, .pick (.t 105) (.t 108) (.c (.bool false))⟩,
 ⟨some 110, none, .mov (.t 109)⟩,
 ⟨some 111, (some (110, true)), .mov (.t 7)⟩,
 ⟨some 112, (some (110, true)), .len (.t 111)⟩,
 ⟨some 113, (some (110, true)), .bin .eql (.t 112) (.c (.int .i64 0))⟩,
 ⟨some 114, none, .pick (.t 110) (.t 113) (.c (.bool false))⟩,
 ⟨some 115, none, .mov (.t 114)⟩,
 ⟨some 116, (some (115, true)), .mov (.t 9)⟩,
 ⟨some 117, (some (115, true)), .bin .eql (.t 116) (.c (.int .i64 0))⟩,
 ⟨some 118, none, .pick (.t 115) (.t 117) (.c (.bool false))⟩,
 ⟨some 6, none, .mov (.t 118)⟩]) (
 .gh [.keep [6]] (
 .ret))) (
 .skip)))) (
 .seq (
 .seq (
 .reg none [
 ⟨some 119, none, .mov (.t 8)⟩,
 ⟨some 120, none, .bin .neq (.t 119) (.c (.int .i64 0))⟩,
 ⟨some 121, none, .mov (.t 120)⟩,
 ⟨some 122, (some (121, false)), .mov (.t 7)⟩,
 ⟨some 123, (some (121, false)), .load true 3 (.t 3)⟩,
 ⟨some 124, (some (121, false)), .mov (.t 1)⟩,
 ⟨some 125, (some (121, false)), .ncall true 8126 59 [(.t 123), (.t 124)]⟩,
 ⟨some 126, (some (121, false)), .ncall true 0 23 [(.t 122), (.t 125)]⟩,
 ⟨some 127, (some (121, false)), .not (.t 126)⟩,
 ⟨some 128, none, .pick (.t 121) (.c (.bool true)) (.t 127)⟩]) (
 .gh [.keep [1, 2, 3, 7, 9, 10, 128]] (
 .cond (.t 128) (
 .seq (
 .reg none [
 ⟨some 6, none, .mov (.c (.bool false))⟩]) (
 .ret)) (
 .skip)))) (
 .seq (
 .reg none [
 ⟨some 129, none, .load true 3 (.t 3)⟩,
 ⟨some 130, none, .mov (.t 2)⟩,
 ⟨some 131, none, .ncall true 0 60 [(.t 129), (.t 130)]⟩,
 ⟨some 13, none, .mov (.t 131)⟩]) (
 .seq (
 .seq (
 .reg none [
 ⟨some 132, none, .mov (.t 13)⟩,
 ⟨some 133, none, .bin .eql (.t 132) (.c (.int .i64 0))⟩,
 ⟨some 134, none, .mov (.t 133)⟩,
 ⟨some 135, (some (134, true)), .mov (.t 2)⟩,
 ⟨some 136, (some (134, true)), .len (.t 135)⟩,
 ⟨some 137, (some (134, true)), .mov (.t 7)⟩,
 ⟨some 138, (some (134, true)), .len (.t 137)⟩,
 ⟨some 139, (some (134, true)), .bin .neq (.t 136) (.t 138)⟩,
 ⟨some 140, none, .pick (.t 134) (.t 139) (.c (.bool false))⟩]) (
 .gh [.keep [1, 2, 3, 9, 10, 13, 140]] (
 .cond (.t 140) (
 .reg none [
 ⟨some 13, none, .mov (.c (.int .i64 13))⟩]) (
 .skip)))) (
 .seq (
 .seq (
 .reg none [
 ⟨some 141, none, .mov (.t 13)⟩,
 ⟨some 142, none, .bin .neq (.t 141) (.c (.int .i64 0))⟩]) (
 .cond (.t 142) (
 .seq (
 .reg none [
 ⟨some 143, none, .mov (.t 10)⟩,
 ⟨some 144, none, .mov (.t 13)⟩,
 ⟨some 145, none, .bin .eql (.t 143) (.t 144)⟩,
 ⟨some 146, none, .mov (.t 145)⟩,
 ⟨some 147, (some (146, true)), .mov (.t 9)⟩,
 ⟨some 148, (some (146, true)), .bin .eql (.t 147) (.c (.int .i64 0))⟩,
 ⟨some 149, none, .pick (.t 146) (.t 148) (.c (.bool false))⟩,
 ⟨some 6, none, .mov (.t 149)⟩]) (
 .gh [.keep [6]] (
 .ret))) (
 .skip))) (
 .seq (
 .reg none [
 ⟨some 150, none, .mov (.t 10)⟩,
 ⟨some 151, none, .bin .eql (.t 150) (.c (.int .i64 0))⟩,
 ⟨some 152, none, .mov (.t 151)⟩,
 ⟨some 153, (some (152, true)), .mov (.t 9)⟩,
 ⟨some 154, (some (152, true)), .load true 3 (.t 3)⟩,
 ⟨some 155, (some (152, true)), .mov (.t 1)⟩,
 ⟨some 156, (some (152, true)), .mov (.t 2)⟩,
 ⟨some 157, (some (152, true)), .ncall true 0 61 [(.t 154), (.t 155), (.t 156)]⟩,
 ⟨some 158, (some (152, true)), .bin .eql (.t 153) (.t 157)⟩,
 ⟨some 159, none, .pick (.t 152) (.t 158) (.c (.bool false))⟩,
 ⟨some 6, none, .mov (.t 159)⟩]) (
 .gh [.keep [6]] (
 .ret)))))))))))))))))))
def a8 : AFunc := ⟨160, c8, [.tmp 6]⟩
/-! 10 cassegrain/cassegrainlaw05.CodeRounds params [48, 25, 3] nfree 0 ntmps 240 -/
def c10 : ACode :=
 .seq (
 .reg none [
 ⟨some 3, none, .box 10004 48 (.t 0)⟩,
 ⟨some 6, none, .mov (.c (.bool false))⟩]) (
 .seq (
 .seq (
 .reg none [
 ⟨some 23, none, .ncall true 0 18 []⟩,
 ⟨some 24, none, .not (.t 23)⟩]) (
 .cond (.t 24) (
 .seq (
 .reg none [
 ⟨some 6, none, .mov (.c (.bool false))⟩]) (
 .ret)) (
 .skip))) (
 .seq (
 .seq (
 .reg none [
 ⟨some 25, none, .load true 2 (.t 3)⟩,
 ⟨some 26, none, .ncall true 0 34 [(.t 25)]⟩,
 ⟨some 27, none, .not (.t 26)⟩,
 ⟨some 28, none, .mov (.t 27)⟩,
 ⟨some 29, (some (28, false)), .mov (.t 1)⟩,
 ⟨some 30, (some (28, false)), .len (.t 29)⟩,
 ⟨some 31, (some (28, false)), .bin .gtr (.t 30) (.c (.int .i64 26))⟩,
 ⟨some 32, none, .pick (.t 28) (.c (.bool true)) (.t 31)⟩,
 ⟨some 33, none, .mov (.t 32)⟩,
 ⟨some 34, (some (33, false)), .faddr 0 (.t 3)⟩,
 ⟨some 35, (some (33, false)), .load false 1 (.t 34)⟩,
 ⟨some 36, (some (33, false)), .bin .gtr (.t 35) (.c (.int .i64 10))⟩,
 ⟨some 37, (some (33, false)), .mov (.t 36)⟩,
 ⟨some 38, (some (37, true)), .faddr 0 (.t 3)⟩,
 ⟨some 39, (some (37, true)), .load false 1 (.t 38)⟩,
 ⟨some 40, (some (37, true)), .bin .leq (.t 39) (.c (.int .i64 14))⟩,
 ⟨some 41, (some (33, false)), .pick (.t 37) (.t 40) (.c (.bool false))⟩,
 ⟨some 42, none, .pick (.t 33) (.c (.bool true)) (.t 41)⟩]) (
 .gh [.keep [1, 2, 3, 42]] (
 .cond (.t 42) (
 .seq (
 .reg none [
 ⟨some 6, none, .mov (.c (.bool true))⟩]) (
 .ret)) (
 .skip)))) (
 .seq (
 .reg none [
 ⟨some 44, none, .load true 2 (.t 3)⟩,
 ⟨some 45, none, .ncall true 10046 36 [(.t 44)]⟩,
 ⟨some 46, none, .mov (.t 1)⟩,
 ⟨some 47, none, .ncall true 10048 20 [(.t 46)]⟩,
 ⟨some 48, none, .mov (.t 2)⟩,
 ⟨some 49, none, .ncall true 10050 67 [(.t 45), (.t 47), (.t 48)]⟩,
 ⟨some 43, none, .mov (.t 49)⟩,
 ⟨some 50, none, .ext 0 (.t 43)⟩,
 ⟨some 51, none, .ext 1 (.t 43)⟩,
 ⟨some 52, none, .ext 2 (.t 43)⟩,
 ⟨some 7, none, .mov (.t 50)⟩,
 ⟨some 8, none, .mov (.t 51)⟩,
 ⟨some 9, none, .mov (.t 52)⟩]) (
 .gh [.keep [1, 2, 3, 7, 8, 9]] (
 .seq (
 .reg none [
 ⟨some 54, none, .load true 2 (.t 3)⟩,
 ⟨some 55, none, .ncall true 10056 36 [(.t 54)]⟩,
 ⟨some 56, none, .mov (.t 1)⟩,
 ⟨some 57, none, .ncall true 10058 20 [(.t 56)]⟩,
 ⟨some 58, none, .ncall true 10059 68 [(.t 55), (.t 57)]⟩,
 ⟨some 53, none, .mov (.t 58)⟩,
 ⟨some 59, none, .ext 0 (.t 53)⟩,
 ⟨some 60, none, .ext 1 (.t 53)⟩,
 ⟨some 61, none, .ext 2 (.t 53)⟩,
 ⟨some 10, none, .mov (.t 59)⟩,
 ⟨some 11, none, .mov (.t 60)⟩,
 ⟨some 12, none, .mov (.t 61)⟩]) (
 .gh [.keep [1, 2, 3, 7, 8, 9, 10, 11, 12]] (
 .seq (
 .reg none [
 ⟨some 63, none, .load true 2 (.t 3)⟩,
 ⟨some 64, none, .ncall true 10065 36 [(.t 63)]⟩,
 ⟨some 65, none, .ncall true 0 69 [(.t 64)]⟩,
 ⟨some 62, none, .mov (.t 65)⟩,
 ⟨some 66, none, .ext 0 (.t 62)⟩,
 ⟨some 67, none, .ext 1 (.t 62)⟩,
 ⟨some 13, none, .mov (.t 66)⟩,
 ⟨some 14, none, .mov (.t 67)⟩]) (
 .gh [.keep [1, 2, 3, 7, 8, 9, 10, 11, 12, 13, 14]] (
 .seq (
 .reg none [
 ⟨some 69, none, .load true 2 (.t 3)⟩,
 ⟨some 70, none, .ncall true 0 39 [(.t 69)]⟩,
 ⟨some 68, none, .mov (.t 70)⟩,
 ⟨some 71, none, .ext 0 (.t 68)⟩,
 ⟨some 72, none, .ext 1 (.t 68)⟩,
 ⟨some 15, none, .mov (.t 71)⟩,
 ⟨some 16, none, .mov (.t 72)⟩]) (
 .gh [.keep [1, 2, 3, 7, 8, 9, 10, 11, 12, 13, 14, 16]] (
 .seq (
 .seq (
 .reg none [
 ⟨some 73, none, .mov (.t 16)⟩,
 ⟨some 74, none, .bin .neq (.t 73) (.c (.int .i64 0))⟩,
 ⟨some 75, none, .mov (.t 74)⟩,
 ⟨some 76, (some (75, true)), .mov (.t 14)⟩,
 ⟨some 77, (some (75, true)), .mov (.t 16)⟩,
 ⟨some 78, (some (75, true)), .bin .neq (.t 76) (.t 77)⟩,
 ⟨some 79, (some (75, true)), .mov (.t 78)⟩,
 ⟨some 80, (some (79, false)), .mov (.t 13)⟩,
 ⟨some 81, (some (79, false)), .bin .neq (.t 80) (.c (.int .i64 0))⟩,
 ⟨some 82, (some (75, true)), .pick (.t 79) (.c (.bool true)) (.t 81)⟩,
 ⟨some 83, none, .pick (.t 75) (.t 82) (.c (.bool false))⟩]) (
 .gh [.keep [1, 2, 3, 7, 8, 9, 10, 11, 12, 13, 14, 16, 83]] (
 .cond (.t 83) (
 .seq (
 .reg none [
 ⟨some 6, none, .mov (.c (.bool false))⟩]) (
 .ret)) (
 .skip)))) (
 .seq (
 .seq (
 .reg none [
 ⟨some 84, none, .mov (.t 16)⟩,
 ⟨some 85, none, .bin .eql (.t 84) (.c (.int .i64 0))⟩]) (
 .cond (.t 85) (
 .seq (
 .reg none [
 ⟨some 17, none, .mov (.c (.int .i64 (-1)))⟩]) (
 .seq (
 .seq (
 .reg none [
 ⟨some 86, none, .faddr 0 (.t 3)⟩,
 ⟨some 87, none, .load false 1 (.t 86)⟩,
 ⟨some 88, none, .bin .leq (.t 87) (.c (.int .i64 14))⟩]) (
 .cond (.t 88) (
 .reg none [
 ⟨some 89, none, .load true 2 (.t 3)⟩,
 ⟨some 90, none, .ncall true 0 70 [(.t 89)]⟩,
 ⟨some 17, none, .mov (.t 90)⟩]) (
 .skip))) (
 .seq (
 .reg none [
 ⟨some 91, none, .faddr 0 (.t 3)⟩,
 ⟨some 92, none, .load false 1 (.t 91)⟩,
 ⟨some 93, none, .bin .gtr (.t 92) (.c (.int .i64 14))⟩,
 ⟨some 94, none, .mov (.t 93)⟩,
 ⟨some 95, (some (94, true)), .mov (.t 14)⟩,
 ⟨some 96, (some (94, true)), .bin .neq (.t 95) (.c (.int .i64 8))⟩,
 ⟨some 97, (some (94, true)), .mov (.t 96)⟩,
 ⟨some 98, (some (97, false)), .mov (.t 13)⟩,
 ⟨some 99, (some (97, false)), .bin .neq (.t 98) (.c (.int .i64 0))⟩,
 ⟨some 100, (some (94, true)), .pick (.t 97) (.c (.bool true)) (.t 99)⟩,
 ⟨some 101, none, .pick (.t 94) (.t 100) (.c (.bool false))⟩,
 ⟨some 102, none, .mov (.t 101)⟩,
 ⟨some 103, (some (102, false)), .faddr 0 (.t 3)⟩,
 ⟨some 104, (some (102, false)), .load false 1 (.t 103)⟩,
 ⟨some 105, (some (102, false)), .bin .leq (.t 104) (.c (.int .i64 14))⟩,
 ⟨some 106, (some (102, false)), .mov (.t 105)⟩,
 ⟨some 107, (some (106, true)), .mov (.t 17)⟩,
 ⟨some 108, (some (106, true)), .bin .lss (.t 107) (.c (.int .i64 0))⟩,
 ⟨some 109, (some (102, false)), .pick (.t 106) (.t 108) (.c (.bool false))⟩,
 ⟨some 110, (some (102, false)), .mov (.t 109)⟩,
 ⟨some 111, (some (110, true)), .mov (.t 14)⟩,
 ⟨some 112, (some (110, true)), .bin .neq (.t 111) (.c (.int .i64 12))⟩,
 ⟨some 113, (some (110, true)), .mov (.t 112)⟩,
 ⟨some 114, (some (113, false)), .mov (.t 13)⟩,
 ⟨some 115, (some (113, false)), .bin .neq (.t 114) (.c (.int .i64 0))⟩,
 ⟨some 116, (some (110, true)), .pick (.t 113) (.c (.bool true)) (.t 115)⟩,
 ⟨some 117, (some (102, false)), .pick (.t 110) (.t 116) (.c (.bool false))⟩,
 ⟨some 118, none, .pick (.t 102) (.c (.bool true)) (.t 117)⟩,
 ⟨some 119, none, .mov (.t 118)⟩,
 ⟨some 120, (some (119, false)), .mov (.t 17)⟩,
 ⟨some 121, (some (119, false)), .bin .geq (.t 120) (.c (.int .i64 0))⟩,
 ⟨some 122, (some (119, false)), .mov (.t 121)⟩,
 ⟨some 123, (some (122, true)), .mov (.t 14)⟩,
 ⟨some 124, (some (122, true)), .bin .neq (.t 123) (.c (.int .i64 0))⟩,
 ⟨some 125, (some (122, true)), .mov (.t 124)⟩,
 ⟨some 126, (some (125, false)), .mov (.t 13)⟩,
 ⟨some 127, (some (125, false)), .mov (.t 17)⟩,
 ⟨some 128, (some (125, false)), .bin .neq (.t 126) (.t 127)⟩,
 ⟨some 129, (some (122, true)), .pick (.t 125) (.c (.bool true)) (.t 128)⟩,
 ⟨some 130, (some (119, false)), .pick (.t 122) (.t 129) (.c (.bool false))⟩,
 ⟨some 131, none, .pick (.t 119) (.c (.bool true)) (.t 130)⟩]) (
 .gh [.keep [1, 2, 3, 7, 8, 9, 10, 11, 12, 131]] (
 .cond (.t 131) (
 .seq (
 .reg none [
 ⟨some 6, none, .mov (.c (.bool false))⟩]) (
 .ret)) (
 .skip)))))) (
 .skip))) (
 .seq (
 .seq (
 .reg none [
 ⟨some 132, none, .load true 2 (.t 3)⟩,
 ⟨some 133, none, .mov (.t 1)⟩,
 ⟨some 134, none, .ncall true 0 40 [(.t 132), (.t 133)]⟩,
 ⟨some 16, none, .mov (.t 134)⟩]) (
 .seq (
 .reg none [
 ⟨some 135, none, .mov (.t 16)⟩,
 ⟨some 136, none, .bin .neq (.t 135) (.c (.int .i64 0))⟩]) (
 .cond (.t 136) (
 .seq (
 .reg none [
 ⟨some 137, none, .mov (.t 9)⟩,
 ⟨some 138, none, .mov (.t 16)⟩,
 ⟨some 139, none, .bin .eql (.t 137) (.t 138)⟩,
 ⟨some 140, none, .mov (.t 139)⟩,
 ⟨some 141, (some (140, true)), .mov (.t 12)⟩,
 ⟨some 142, (some (140, true)), .mov (.t 16)⟩,
 ⟨some 143, (some (140, true)), .bin .eql (.t 141) (.t 142)⟩,
 ⟨some 144, none, .pick (.t 140) (.t 143) (.c (.bool false))⟩,
 ⟨some 145, none, .mov (.t 144)⟩,
 ⟨some 146, (some (145, true)), .mov (.t 7)⟩,
 ⟨some 147, (some (145, true)), .len (.t 146)⟩,
 ⟨some 148, (some (145, true)), .mov (.t 10)⟩,
 ⟨some 149, (some (145, true)), .len (.t 148)⟩,
 ⟨some 150, (some (145, true)), .bin .add (.t 147) (.t 149)⟩,
 ⟨some 151, (some (145, true)), .bin .eql (.t 150) (.c (.int .i64 0))⟩,
 ⟨some 152, none, .pick (.t 145) (.t 151) (.c (.bool false))⟩,
 ⟨some 153, none, .mov (.t 152)⟩,
 ⟨some 154, (some (153, true)), .mov (.t 8)⟩,
 ⟨some 155, (some (153, true)), .bin .eql (.t 154) (.c (.int .i64 0))⟩,
 ⟨some 156, none, .pick (.t 153) (.t 155) (.c (.bool false))⟩,
 ⟨some 157, none, .mov (.t 156)⟩,
 ⟨some 158, (some (157, true)), .mov (.t 11)⟩,
 ⟨some 159, (some (157, true)), .bin .eql (.t 158) (.c (.int .i64 0))⟩,
 ⟨some 160, none, .pick (.t 157) (.t 159) (.c (.bool false))⟩,
 ⟨some 6, none, .mov (.t 160)⟩]) (
 .gh [.keep [6]] (
 .ret))) (
 .skip)))) (
 .seq (
 .seq (
 .reg none [
 ⟨some 161, none, .faddr 0 (.t 3)⟩,
 ⟨some 162, none, .load false 1 (.t 161)⟩,
 ⟨some 163, none, .bin .gtr (.t 162) (.c (.int .i64 14))⟩]) (
 .cond (.t 163) (
 .seq (
 .reg none [
 ⟨some 164, none, .mov (.t 12)⟩,
 ⟨some 165, none, .bin .neq (.t 164) (.c (.int .i64 8))⟩,
 ⟨some 166, none, .mov (.t 165)⟩,
 ⟨some 167, (some (166, false)), .mov (.t 10)⟩,
 ⟨some 168, (some (166, false)), .len (.t 167)⟩,
 ⟨some 169, (some (166, false)), .bin .neq (.t 168) (.c (.int .i64 0))⟩,
 ⟨some 170, none, .pick (.t 166) (.c (.bool true)) (.t 169)⟩,
 ⟨some 171, none, .mov (.t 170)⟩,
 ⟨some 172, (some (171, false)), .mov (.t 11)⟩,
 ⟨some 173, (some (171, false)), .bin .neq (.t 172) (.c (.int .i64 0))⟩,
 ⟨some 174, none, .pick (.t 171) (.c (.bool true)) (.t 173)⟩]) (
 .gh [.keep [1, 2, 3, 7, 8, 9, 174]] (
 .cond (.t 174) (
 .seq (
 .reg none [
 ⟨some 6, none, .mov (.c (.bool false))⟩]) (
 .ret)) (
 .skip)))) (
 .seq (
 .reg none [
 ⟨some 176, none, .load true 2 (.t 3)⟩,
 ⟨some 177, none, .mov (.t 1)⟩,
 ⟨some 178, none, .ncall true 10179 71 [(.t 176), (.t 177)]⟩,
 ⟨some 175, none, .mov (.t 178)⟩,
 ⟨some 179, none, .ext 0 (.t 175)⟩,
 ⟨some 180, none, .ext 1 (.t 175)⟩,
 ⟨some 18, none, .mov (.t 179)⟩,
 ⟨some 19, none, .mov (.t 180)⟩]) (
 .gh [.keep [1, 2, 3, 7, 8, 9, 10, 11, 12, 18, 19]] (
 .seq (
 .reg none [
 ⟨some 181, none, .mov (.t 12)⟩,
 ⟨some 182, none, .bin .neq (.t 181) (.c (.int .i64 0))⟩,
 ⟨some 183, none, .mov (.t 182)⟩,
 ⟨some 184, (some (183, false)), .mov (.t 10)⟩,
 ⟨some 185, (some (183, false)), .mov (.t 18)⟩,
 ⟨some 186, (some (183, false)), .ncall true 0 23 [(.t 184), (.t 185)]⟩,
 ⟨some 187, (some (183, false)), .not (.t 186)⟩,
 ⟨some 188, none, .pick (.t 183) (.c (.bool true)) (.t 187)⟩,
 ⟨some 189, none, .mov (.t 188)⟩,
 ⟨some 190, (some (189, false)), .mov (.t 11)⟩,
 ⟨some 191, (some (189, false)), .mov (.t 19)⟩,
 ⟨some 192, (some (189, false)), .bin .neq (.t 190) (.t 191)⟩,
 ⟨some 193, none, .pick (.t 189) (.c (.bool true)) (.t 192)⟩]) (
 .gh [.keep [1, 2, 3, 7, 8, 9, 193]] (
 .cond (.t 193) (
 .seq (
 .reg none [
 ⟨some 6, none, .mov (.c (.bool false))⟩]) (
 .ret)) (
 .skip)))))))) (
 .seq (
 .seq (
 .reg none [
 ⟨some 194, none, .mov (.t 2)⟩,
 ⟨some 195, none, .ncall true 0 45 [(.t 194), (.c (.int .i64 0)), (.c (.int .i64 30))]⟩,
 ⟨some 196, none, .not (.t 195)⟩]) (
 .cond (.t 196) (
 .seq (
 .reg none [
 ⟨some 197, none, .mov (.t 9)⟩,
 ⟨some 198, none, .bin .eql (.t 197) (.c (.int .i64 2))⟩,
 ⟨some 199, none, .mov (.t 198)⟩,
 ⟨some 200, (some (199, true)), .mov (.t 7)⟩,
 ⟨some 201, (some (199, true)), .len (.t 200)⟩,
 ⟨some 202, (some (199, true)), .bin .eql (.t 201) (.c (.int .i64 0))⟩,
 ⟨some 203, none, .pick (.t 199) (.t 202) (.c (.bool false))⟩,
 ⟨some 204, none, .mov (.t 203)⟩,
 ⟨some 205, (some (204, true)), .mov (.t 8)⟩,
 ⟨some 206, (some (204, true)), .bin .eql (.t 205) (.c (.int .i64 0))⟩,
 ⟨some 207, none, .pick (.t 204) (.t 206) (.c (.bool false))⟩,
 ⟨some 6, none, .mov (.t 207)⟩]) (
 .gh [.keep [6]] (
 .ret))) (
 .skip))) (
 .seq (
 .seq (
 .reg none [
 ⟨some 209, none, .load true 2 (.t 3)⟩,
 ⟨some 210, none, .mov (.t 1)⟩,
 ⟨some 211, none, .mov (.t 2)⟩,
 ⟨some 212, none, .ncall true 10213 72 [(.t 209), (.t 210), (.t 211)]⟩,
 ⟨some 208, none, .mov (.t 212)⟩,
 ⟨some 213, none, .ext 0 (.t 208)⟩,
 ⟨some 214, none, .ext 1 (.t 208)⟩,
 ⟨some 215, none, .ext 2 (.t 208)⟩,
 ⟨some 20, none, .mov (.t 213)⟩,
 ⟨some 21, none, .mov (.t 214)⟩,
 ⟨some 22, none, .mov (.t 215)⟩]) (
 .gh [.keep [7, 8, 9, 20, 21, 22]] (
 .seq (
 .reg none [
 ⟨some 216, none, .mov (.t 22)⟩]) (
 .cond (.t 216) (
 .seq (
 .reg none [
 ⟨some 217, none, .mov (.t 9)⟩,
 ⟨some 218, none, .bin .eql (.t 217) (.c (.int .i64 0))⟩,
 ⟨some 219, none, .mov (.t 218)⟩,
 ⟨some 220, (some (219, true)), .mov (.t 7)⟩,
 ⟨some 221, (some (219, true)), .mov (.t 20)⟩,
 ⟨some 222, (some (219, true)), .ncall true 0 23 [(.t 220), (.t 221)]⟩,
 ⟨some 223, none, .pick (.t 219) (.t 222) (.c (.bool false))⟩,
 ⟨some 224, none, .mov (.t 223)⟩,
 ⟨some 225, (some (224, true)), .mov (.t 8)⟩,
 ⟨some 226, (some (224, true)), .mov (.t 21)⟩,
 ⟨some 227, (some (224, true)), .bin .eql (.t 225) (.t 226)⟩,
 ⟨some 228, none, .pick (.t 224) (.t 227) (.c (.bool false))⟩,
 ⟨some 6, none, .mov (.t 228)⟩]) (
 .gh [.keep [6]] (
 .ret))) (
 .skip))))) (
 .seq (
 .reg none [
 ⟨some 229, none, .mov (.t 9)⟩,
 ⟨some 230, none, .bin .eql (.t 229) (.c (.int .i64 27))⟩,
 ⟨some 231, none, .mov (.t 230)⟩,
 ⟨some 232, (some (231, true)), .mov (.t 7)⟩,
 ⟨some 233, (some (231, true)), .len (.t 232)⟩,
 ⟨some 234, (some (231, true)), .bin .eql (.t 233) (.c (.int .i64 0))⟩,
 ⟨some 235, none, .pick (.t 231) (.t 234) (.c (.bool false))⟩,
 ⟨some 236, none, .mov (.t 235)⟩,
 ⟨some 237, (some (236, true)), .mov (.t 8)⟩,
 ⟨some 238, (some (236, true)), .bin .eql (.t 237) (.c (.int .i64 0))⟩,
 ⟨some 239, none, .pick (.t 236) (.t 238) (.c (.bool false))⟩,
 ⟨some 6, none, .mov (.t 239)⟩]) (
 .gh [.keep [6]] (
 .ret)))))))))))))))))))
def a10 : AFunc := ⟨240, c10, [.tmp 6]⟩
/-! 12 cassegrain/cassegrainlaw05.CodeFixed params [48, 25, 25] nfree 0 ntmps 231 -/
def l12_0 : ACode :=
 .seq (
 .seq (
 .reg none [
 ⟨some 172, none, .mov (.t 22)⟩,
 ⟨some 173, none, .faddr 0 (.t 3)⟩,
 ⟨some 174, none, .load false 1 (.t 173)⟩,
 ⟨some 175, none, .bin .lss (.t 172) (.t 174)⟩]) (
 .cond (.t 175) (
 .skip) (
 .exit 0))) (
 .seq (
 .block 1 (
 .seq (
 .reg none [
 ⟨some 178, none, .mov (.t 2)⟩,
 ⟨some 179, none, .mov (.t 22)⟩,
 ⟨some 180, none, .ncall true 0 49 [(.t 178), (.t 179)]⟩]) (
 .cond (.t 180) (
 .reg none [
 ⟨some 181, none, .mov (.t 21)⟩,
 ⟨some 182, none, .mov (.t 22)⟩,
 ⟨some 183, none, .mov (.t 21)⟩,
 ⟨some 184, none, .mov (.t 22)⟩,
 ⟨some 185, none, .iaddr 1 (.t 183) (.t 184)⟩,
 ⟨some 186, none, .load false 1 (.t 185)⟩,
 ⟨some 187, none, .bin .sub (.c (.int .i64 1)) (.t 186)⟩,
 ⟨some 188, none, .iaddr 1 (.t 181) (.t 182)⟩,
 ⟨none, none, .store 1 (.t 188) (.t 187)⟩]) (
 .skip)))) (
 .reg none [
 ⟨some 176, none, .mov (.t 22)⟩,
 ⟨some 177, none, .bin .add (.t 176) (.c (.int .i64 1))⟩,
 ⟨some 22, none, .mov (.t 177)⟩]))
def b12_0 : ACode := .gh [.keep [2, 3, 7, 19, 20, 21, 22]] (.gh [] l12_0)
def k12_0 : List AItem := .inLoop b12_0 :: [.inBlock 0,
 .code (.seq (
 .gh [.frz 21] (
 .reg none [
 ⟨some 189, none, .mov (.t 21)⟩,
 ⟨some 190, none, .mov (.t 7)⟩,
 ⟨some 191, none, .ncall true 0 77 [(.t 189), (.t 190)]⟩,
 ⟨some 23, none, .mov (.t 191)⟩])) (
 .seq (
 .seq (
 .reg none [
 ⟨some 192, none, .mov (.t 20)⟩,
 ⟨some 193, none, .bin .eql (.t 192) (.c (.int .i64 0))⟩,
 ⟨some 194, none, .mov (.t 193)⟩,
 ⟨some 195, (some (194, true)), .mov (.t 19)⟩,
 ⟨some 196, (some (194, true)), .faddr 0 (.t 3)⟩,
 ⟨some 197, (some (194, true)), .load false 1 (.t 196)⟩,
 ⟨some 198, (some (194, true)), .ncall true 0 45 [(.t 195), (.c (.int .i64 1)), (.t 197)]⟩,
 ⟨some 199, (some (194, true)), .not (.t 198)⟩,
 ⟨some 200, (some (194, true)), .mov (.t 199)⟩,
 ⟨some 201, (some (200, false)), .mov (.t 23)⟩,
 ⟨some 202, (some (200, false)), .bin .mul (.c (.int .i64 2)) (.t 201)⟩,
 ⟨some 203, (some (200, false)), .mov (.t 19)⟩,
 ⟨some 204, (some (200, false)), .bin .geq (.t 202) (.t 203)⟩,
 ⟨some 205, (some (194, true)), .pick (.t 200) (.c (.bool true)) (.t 204)⟩,
 ⟨some 206, none, .pick (.t 194) (.t 205) (.c (.bool false))⟩]) (
 .gh [.keep [3, 7, 19, 21, 23, 206]] (
 .cond (.t 206) (
 .seq (
 .reg none [
 ⟨some 207, none, .mov (.t 19)⟩,
 ⟨some 208, none, .faddr 0 (.t 3)⟩,
 ⟨some 209, none, .load false 1 (.t 208)⟩,
 ⟨some 210, none, .ncall true 0 45 [(.t 207), (.c (.int .i64 1)), (.t 209)]⟩,
 ⟨some 6, none, .mov (.t 210)⟩]) (
 .ret)) (
 .skip)))) (
 .seq (
 .reg none [
 ⟨some 212, none, .load true 2 (.t 3)⟩,
 ⟨some 213, none, .ncall true 12214 36 [(.t 212)]⟩,
 ⟨some 214, none, .mov (.t 21)⟩,
 ⟨some 215, none, .ncall true 12216 68 [(.t 213), (.t 214)]⟩,
 ⟨some 211, none, .mov (.t 215)⟩,
 ⟨some 216, none, .ext 0 (.t 211)⟩,
 ⟨some 217, none, .ext 1 (.t 211)⟩,
 ⟨some 218, none, .ext 2 (.t 211)⟩,
 ⟨some 24, none, .mov (.t 216)⟩,
 ⟨some 25, none, .mov (.t 217)⟩,
 ⟨some 26, none, .mov (.t 218)⟩]) (
 .gh [.keep [7, 23, 24, 25, 26]] (
 .seq (
 .reg none [
 ⟨some 219, none, .mov (.t 26)⟩,
 ⟨some 220, none, .bin .eql (.t 219) (.c (.int .i64 0))⟩,
 ⟨some 221, none, .mov (.t 220)⟩,
 ⟨some 222, (some (221, true)), .mov (.t 24)⟩,
 ⟨some 223, (some (221, true)), .mov (.t 7)⟩,
 ⟨some 224, (some (221, true)), .ncall true 0 23 [(.t 222), (.t 223)]⟩,
 ⟨some 225, none, .pick (.t 221) (.t 224) (.c (.bool false))⟩,
 ⟨some 226, none, .mov (.t 225)⟩,
 ⟨some 227, (some (226, true)), .mov (.t 25)⟩,
 ⟨some 228, (some (226, true)), .mov (.t 23)⟩,
 ⟨some 229, (some (226, true)), .bin .eql (.t 227) (.t 228)⟩,
 ⟨some 230, none, .pick (.t 226) (.t 229) (.c (.bool false))⟩,
 ⟨some 6, none, .mov (.t 230)⟩]) (
 .gh [.keep [6]] (
 .ret)))))))]
def c12 : ACode :=
 .seq (
 .reg none [
 ⟨some 3, none, .box 12004 48 (.t 0)⟩,
 ⟨some 6, none, .mov (.c (.bool false))⟩]) (
 .seq (
 .seq (
 .reg none [
 ⟨some 27, none, .ncall true 0 18 []⟩,
 ⟨some 28, none, .not (.t 27)⟩]) (
 .cond (.t 28) (
 .seq (
 .reg none [
 ⟨some 6, none, .mov (.c (.bool false))⟩]) (
 .ret)) (
 .skip))) (
 .seq (
 .seq (
 .reg none [
 ⟨some 29, none, .load true 2 (.t 3)⟩,
 ⟨some 30, none, .ncall true 0 34 [(.t 29)]⟩,
 ⟨some 31, none, .not (.t 30)⟩,
 ⟨some 32, none, .mov (.t 31)⟩,
 ⟨some 33, (some (32, false)), .faddr 0 (.t 3)⟩,
 ⟨some 34, (some (32, false)), .load false 1 (.t 33)⟩,
 ⟨some 35, (some (32, false)), .bin .gtr (.t 34) (.c (.int .i64 10))⟩,
 ⟨some 36, none, .pick (.t 32) (.c (.bool true)) (.t 35)⟩,
 ⟨some 37, none, .mov (.t 36)⟩,
 ⟨some 38, (some (37, false)), .load true 2 (.t 3)⟩,
 ⟨some 39, (some (37, false)), .mov (.t 1)⟩,
 ⟨some 40, (some (37, false)), .ncall true 0 40 [(.t 38), (.t 39)]⟩,
 ⟨some 41, (some (37, false)), .bin .neq (.t 40) (.c (.int .i64 0))⟩,
 ⟨some 42, none, .pick (.t 37) (.c (.bool true)) (.t 41)⟩,
 ⟨some 43, none, .mov (.t 42)⟩,
 ⟨some 44, (some (43, false)), .mov (.t 2)⟩,
 ⟨some 45, (some (43, false)), .len (.t 44)⟩,
 ⟨some 46, (some (43, false)), .bin .gtr (.t 45) (.c (.int .i64 10))⟩,
 ⟨some 47, none, .pick (.t 43) (.c (.bool true)) (.t 46)⟩]) (
 .gh [.keep [1, 2, 3, 47]] (
 .cond (.t 47) (
 .seq (
 .reg none [
 ⟨some 6, none, .mov (.c (.bool true))⟩]) (
 .ret)) (
 .skip)))) (
 .seq (
 .reg none [
 ⟨some 49, none, .load true 2 (.t 3)⟩,
 ⟨some 50, none, .ncall true 12051 36 [(.t 49)]⟩,
 ⟨some 51, none, .mov (.t 1)⟩,
 ⟨some 52, none, .ncall true 12053 20 [(.t 51)]⟩,
 ⟨some 53, none, .ncall true 12054 68 [(.t 50), (.t 52)]⟩,
 ⟨some 48, none, .mov (.t 53)⟩,
 ⟨some 54, none, .ext 0 (.t 48)⟩,
 ⟨some 55, none, .ext 1 (.t 48)⟩,
 ⟨some 56, none, .ext 2 (.t 48)⟩,
 ⟨some 7, none, .mov (.t 54)⟩,
 ⟨some 8, none, .mov (.t 55)⟩,
 ⟨some 9, none, .mov (.t 56)⟩]) (
 .gh [.keep [1, 2, 3, 7, 8, 9]] (
 .seq (
 .seq (
 .reg none [
 ⟨some 57, none, .mov (.t 9)⟩,
 ⟨some 58, none, .bin .neq (.t 57) (.c (.int .i64 0))⟩,
 ⟨some 59, none, .mov (.t 58)⟩,
 ⟨some 60, (some (59, false)), .mov (.t 7)⟩,
 ⟨some 61, (some (59, false)), .len (.t 60)⟩,
 ⟨some 62, (some (59, false)), .faddr 0 (.t 3)⟩,
 ⟨some 63, (some (59, false)), .load false 1 (.t 62)⟩,
 ⟨some 64, (some (59, false)), .bin .neq (.t 61) (.t 63)⟩,
 ⟨some 65, none, .pick (.t 59) (.c (.bool true)) (.t 64)⟩,
 ⟨some 66, none, .mov (.t 65)⟩,
 ⟨some 67, (some (66, false)), .mov (.t 7)⟩,
 ⟨some 68, (some (66, false)), .ncall true 0 48 [(.t 67)]⟩,
 ⟨some 69, (some (66, false)), .not (.t 68)⟩,
 ⟨some 70, none, .pick (.t 66) (.c (.bool true)) (.t 69)⟩,
 ⟨some 71, none, .mov (.t 70)⟩,
 ⟨some 72, (some (71, false)), .mov (.t 7)⟩,
 ⟨some 73, (some (71, false)), .mov (.t 1)⟩,
 ⟨some 74, (some (71, false)), .ncall true 0 77 [(.t 72), (.t 73)]⟩,
 ⟨some 75, (some (71, false)), .mov (.t 8)⟩,
 ⟨some 76, (some (71, false)), .bin .neq (.t 74) (.t 75)⟩,
 ⟨some 77, none, .pick (.t 71) (.c (.bool true)) (.t 76)⟩]) (
 .gh [.keep [1, 2, 3, 7, 8, 77]] (
 .cond (.t 77) (
 .seq (
 .reg none [
 ⟨some 6, none, .mov (.c (.bool false))⟩]) (
 .ret)) (
 .skip)))) (
 .seq (
 .reg none [
 ⟨some 79, none, .load true 2 (.t 3)⟩,
 ⟨some 80, none, .ncall true 12081 36 [(.t 79)]⟩,
 ⟨some 81, none, .mov (.t 7)⟩,
 ⟨some 82, none, .ncall true 12083 20 [(.t 81)]⟩,
 ⟨some 83, none, .ncall true 12084 37 [(.t 80), (.t 82)]⟩,
 ⟨some 78, none, .mov (.t 83)⟩,
 ⟨some 84, none, .ext 0 (.t 78)⟩,
 ⟨some 85, none, .ext 1 (.t 78)⟩,
 ⟨some 10, none, .mov (.t 84)⟩,
 ⟨some 11, none, .mov (.t 85)⟩]) (
 .gh [.keep [1, 2, 3, 7, 8, 10, 11]] (
 .seq (
 .reg none [
 ⟨some 87, none, .load true 2 (.t 3)⟩,
 ⟨some 88, none, .ncall true 12089 36 [(.t 87)]⟩,
 ⟨some 89, none, .mov (.t 7)⟩,
 ⟨some 90, none, .ncall true 12091 20 [(.t 89)]⟩,
 ⟨some 91, none, .ncall true 12092 38 [(.t 88), (.t 90)]⟩,
 ⟨some 86, none, .mov (.t 91)⟩,
 ⟨some 92, none, .ext 0 (.t 86)⟩,
 ⟨some 93, none, .ext 1 (.t 86)⟩,
 ⟨some 12, none, .mov (.t 92)⟩,
 ⟨some 13, none, .mov (.t 93)⟩]) (
 .gh [.keep [1, 2, 3, 7, 8, 10, 11, 12, 13]] (
 .seq (
 .seq (
 .reg none [
 ⟨some 94, none, .mov (.t 11)⟩,
 ⟨some 95, none, .bin .neq (.t 94) (.c (.int .i64 0))⟩,
 ⟨some 96, none, .mov (.t 95)⟩,
 ⟨some 97, (some (96, false)), .mov (.t 10)⟩,
 ⟨some 98, (some (96, false)), .len (.t 97)⟩,
 ⟨some 99, (some (96, false)), .bin .neq (.t 98) (.c (.int .i64 0))⟩,
 ⟨some 100, none, .pick (.t 96) (.c (.bool true)) (.t 99)⟩,
 ⟨some 101, none, .mov (.t 100)⟩,
 ⟨some 102, (some (101, false)), .mov (.t 13)⟩,
 ⟨some 103, (some (101, false)), .bin .neq (.t 102) (.c (.int .i64 0))⟩,
 ⟨some 104, none, .pick (.t 101) (.c (.bool true)) (.t 103)⟩,
 ⟨some 105, none, .mov (.t 104)⟩,
 ⟨some 106, (some (105, false)), .mov (.t 12)⟩,
 ⟨some 107, (some (105, false)), .mov (.t 7)⟩,
 ⟨some 108, (some (105, false)), .ncall true 0 23 [(.t 106), (.t 107)]⟩,
 ⟨some 109, (some (105, false)), .not (.t 108)⟩,
 ⟨some 110, none, .pick (.t 105) (.c (.bool true)) (.t 109)⟩]) (
 .gh [.keep [1, 2, 3, 7, 8, 110]] (
 .cond (.t 110) (
 .seq (
 .reg none [
 ⟨some 6, none, .mov (.c (.bool false))⟩]) (
 .ret)) (
 .skip)))) (
 .seq (
 .reg none [
 ⟨some 112, none, .load true 2 (.t 3)⟩,
 ⟨some 113, none, .ncall true 12114 36 [(.t 112)]⟩,
 ⟨some 114, none, .mov (.t 1)⟩,
 ⟨some 115, none, .ncall true 12116 20 [(.t 114)]⟩,
 ⟨some 116, none, .ncall true 12117 67 [(.t 113), (.t 115), (.c (.int .i64 30))]⟩,
 ⟨some 111, none, .mov (.t 116)⟩,
 ⟨some 117, none, .ext 0 (.t 111)⟩,
 ⟨some 118, none, .ext 1 (.t 111)⟩,
 ⟨some 119, none, .ext 2 (.t 111)⟩,
 ⟨some 14, none, .mov (.t 117)⟩,
 ⟨some 15, none, .mov (.t 118)⟩,
 ⟨some 16, none, .mov (.t 119)⟩]) (
 .gh [.keep [1, 2, 3, 7, 8, 14, 15, 16]] (
 .seq (
 .seq (
 .reg none [
 ⟨some 120, none, .mov (.t 16)⟩,
 ⟨some 121, none, .bin .eql (.t 120) (.c (.int .i64 0))⟩]) (
 .cond (.t 121) (
 .seq (
 .reg none [
 ⟨some 123, none, .load true 2 (.t 3)⟩,
 ⟨some 124, none, .ncall true 12125 36 [(.t 123)]⟩,
 ⟨some 125, none, .mov (.t 14)⟩,
 ⟨some 126, none, .ncall true 12127 20 [(.t 125)]⟩,
 ⟨some 127, none, .ncall true 12128 37 [(.t 124), (.t 126)]⟩,
 ⟨some 122, none, .mov (.t 127)⟩,
 ⟨some 128, none, .ext 0 (.t 122)⟩,
 ⟨some 129, none, .ext 1 (.t 122)⟩,
 ⟨some 17, none, .mov (.t 128)⟩,
 ⟨some 18, none, .mov (.t 129)⟩]) (
 .gh [.keep [1, 2, 3, 7, 8, 14, 15, 17, 18]] (
 .seq (
 .reg none [
 ⟨some 130, none, .mov (.t 18)⟩,
 ⟨some 131, none, .bin .neq (.t 130) (.c (.int .i64 0))⟩,
 ⟨some 132, none, .mov (.t 131)⟩,
 ⟨some 133, (some (132, false)), .mov (.t 17)⟩,
 ⟨some 134, (some (132, false)), .len (.t 133)⟩,
 ⟨some 135, (some (132, false)), .bin .neq (.t 134) (.c (.int .i64 0))⟩,
 ⟨some 136, none, .pick (.t 132) (.c (.bool true)) (.t 135)⟩,
 ⟨some 137, none, .mov (.t 136)⟩,
 ⟨some 138, (some (137, false)), .mov (.t 14)⟩,
 ⟨some 139, (some (137, false)), .len (.t 138)⟩,
 ⟨some 140, (some (137, false)), .faddr 0 (.t 3)⟩,
 ⟨some 141, (some (137, false)), .load false 1 (.t 140)⟩,
 ⟨some 142, (some (137, false)), .bin .neq (.t 139) (.t 141)⟩,
 ⟨some 143, none, .pick (.t 137) (.c (.bool true)) (.t 142)⟩,
 ⟨some 144, none, .mov (.t 143)⟩,
 ⟨some 145, (some (144, false)), .mov (.t 15)⟩,
 ⟨some 146, (some (144, false)), .ncall true 0 45 [(.t 145), (.c (.int .i64 0)), (.c (.int .i64 30))]⟩,
 ⟨some 147, (some (144, false)), .not (.t 146)⟩,
 ⟨some 148, none, .pick (.t 144) (.c (.bool true)) (.t 147)⟩,
 ⟨some 149, none, .mov (.t 148)⟩,
 ⟨some 150, (some (149, false)), .mov (.t 14)⟩,
 ⟨some 151, (some (149, false)), .mov (.t 1)⟩,
 ⟨some 152, (some (149, false)), .ncall true 0 77 [(.t 150), (.t 151)]⟩,
 ⟨some 153, (some (149, false)), .mov (.t 8)⟩,
 ⟨some 154, (some (149, false)), .bin .lss (.t 152) (.t 153)⟩,
 ⟨some 155, none, .pick (.t 149) (.c (.bool true)) (.t 154)⟩]) (
 .gh [.keep [2, 3, 7, 155]] (
 .cond (.t 155) (
 .seq (
 .reg none [
 ⟨some 6, none, .mov (.c (.bool false))⟩]) (
 .ret)) (
 .skip)))))) (
 .seq (
 .reg none [
 ⟨some 156, none, .mov (.t 16)⟩,
 ⟨some 157, none, .bin .neq (.t 156) (.c (.int .i64 27))⟩]) (
 .cond (.t 157) (
 .seq (
 .reg none [
 ⟨some 6, none, .mov (.c (.bool false))⟩]) (
 .ret)) (
 .skip))))) (
 .seq (
 .reg none [
 ⟨some 159, none, .load true 2 (.t 3)⟩,
 ⟨some 160, none, .ncall true 12161 36 [(.t 159)]⟩,
 ⟨some 161, none, .ncall true 0 69 [(.t 160)]⟩,
 ⟨some 158, none, .mov (.t 161)⟩,
 ⟨some 162, none, .ext 0 (.t 158)⟩,
 ⟨some 163, none, .ext 1 (.t 158)⟩,
 ⟨some 19, none, .mov (.t 162)⟩,
 ⟨some 20, none, .mov (.t 163)⟩]) (
 .gh [.keep [2, 3, 7, 19, 20]] (
 .seq (
 .seq (
 .reg none [
 ⟨some 164, none, .mov (.t 20)⟩,
 ⟨some 165, none, .bin .neq (.t 164) (.c (.int .i64 0))⟩,
 ⟨some 166, none, .mov (.t 165)⟩,
 ⟨some 167, (some (166, true)), .mov (.t 20)⟩,
 ⟨some 168, (some (166, true)), .bin .neq (.t 167) (.c (.int .i64 12))⟩,
 ⟨some 169, none, .pick (.t 166) (.t 168) (.c (.bool false))⟩]) (
 .cond (.t 169) (
 .seq (
 .reg none [
 ⟨some 6, none, .mov (.c (.bool false))⟩]) (
 .ret)) (
 .skip))) (
 .seq (
 .reg none [
 ⟨some 170, none, .mov (.t 7)⟩,
 ⟨some 171, none, .ncall true 12172 20 [(.t 170)]⟩,
 ⟨some 21, none, .mov (.t 171)⟩]) (
 .seq (
 .seq (
 .reg none [
 ⟨some 22, none, .mov (.c (.int .i64 0))⟩]) (
 .block 0 (
 .loop b12_0))) (
 .seq (
 .gh [.frz 21] (
 .reg none [
 ⟨some 189, none, .mov (.t 21)⟩,
 ⟨some 190, none, .mov (.t 7)⟩,
 ⟨some 191, none, .ncall true 0 77 [(.t 189), (.t 190)]⟩,
 ⟨some 23, none, .mov (.t 191)⟩])) (
 .seq (
 .seq (
 .reg none [
 ⟨some 192, none, .mov (.t 20)⟩,
 ⟨some 193, none, .bin .eql (.t 192) (.c (.int .i64 0))⟩,
 ⟨some 194, none, .mov (.t 193)⟩,
 ⟨some 195, (some (194, true)), .mov (.t 19)⟩,
 ⟨some 196, (some (194, true)), .faddr 0 (.t 3)⟩,
 ⟨some 197, (some (194, true)), .load false 1 (.t 196)⟩,
 ⟨some 198, (some (194, true)), .ncall true 0 45 [(.t 195), (.c (.int .i64 1)), (.t 197)]⟩,
 ⟨some 199, (some (194, true)), .not (.t 198)⟩,
 ⟨some 200, (some (194, true)), .mov (.t 199)⟩,
 ⟨some 201, (some (200, false)), .mov (.t 23)⟩,
 ⟨some 202, (some (200, false)), .bin .mul (.c (.int .i64 2)) (.t 201)⟩,
 ⟨some 203, (some (200, false)), .mov (.t 19)⟩,
 ⟨some 204, (some (200, false)), .bin .geq (.t 202) (.t 203)⟩,
 ⟨some 205, (some (194, true)), .pick (.t 200) (.c (.bool true)) (.t 204)⟩,
 ⟨some 206, none, .pick (.t 194) (.t 205) (.c (.bool false))⟩]) (
 .gh [.keep [3, 7, 19, 21, 23, 206]] (
 .cond (.t 206) (
 .seq (
 .reg none [
 ⟨some 207, none, .mov (.t 19)⟩,
 ⟨some 208, none, .faddr 0 (.t 3)⟩,
 ⟨some 209, none, .load false 1 (.t 208)⟩,
 ⟨some 210, none, .ncall true 0 45 [(.t 207), (.c (.int .i64 1)), (.t 209)]⟩,
 ⟨some 6, none, .mov (.t 210)⟩]) (
 .ret)) (
 .skip)))) (
 .seq (
 .reg none [
 ⟨some 212, none, .load true 2 (.t 3)⟩,
 ⟨some 213, none, .ncall true 12214 36 [(.t 212)]⟩,
 ⟨some 214, none, .mov (.t 21)⟩,
 ⟨some 215, none, .ncall true 12216 68 [(.t 213), (.t 214)]⟩,
 ⟨some 211, none, .mov (.t 215)⟩,
 ⟨some 216, none, .ext 0 (.t 211)⟩,
 ⟨some 217, none, .ext 1 (.t 211)⟩,
 ⟨some 218, none, .ext 2 (.t 211)⟩,
 ⟨some 24, none, .mov (.t 216)⟩,
 ⟨some 25, none, .mov (.t 217)⟩,
 ⟨some 26, none, .mov (.t 218)⟩]) (
 .gh [.keep [7, 23, 24, 25, 26]] (
 .seq (
 .reg none [
 ⟨some 219, none, .mov (.t 26)⟩,
 ⟨some 220, none, .bin .eql (.t 219) (.c (.int .i64 0))⟩,
 ⟨some 221, none, .mov (.t 220)⟩,
 ⟨some 222, (some (221, true)), .mov (.t 24)⟩,
 ⟨some 223, (some (221, true)), .mov (.t 7)⟩,
 ⟨some 224, (some (221, true)), .ncall true 0 23 [(.t 222), (.t 223)]⟩,
 ⟨some 225, none, .pick (.t 221) (.t 224) (.c (.bool false))⟩,
 ⟨some 226, none, .mov (.t 225)⟩,
 ⟨some 227, (some (226, true)), .mov (.t 25)⟩,
 ⟨some 228, (some (226, true)), .mov (.t 23)⟩,
 ⟨some 229, (some (226, true)), .bin .eql (.t 227) (.t 228)⟩,
 ⟨some 230, none, .pick (.t 226) (.t 229) (.c (.bool false))⟩,
 ⟨some 6, none, .mov (.t 230)⟩]) (
 .gh [.keep [6]] (
 .ret)))))))))))))))))))))))))
def a12 : AFunc := ⟨231, c12, [.tmp 6]⟩
/-! 18 cassegrain/cassegrainlaw05.awake params [] nfree 0 ntmps 88 -/
def c18 : ACode :=
 .seq (
 .reg none [
 ⟨some 0, none, .mov (.c (.bool false))⟩]) (
 .seq (
 .reg none [
 ⟨some 12, none, .ncall true 0 94 []⟩,
 ⟨some 13, none, .ncall true 18014 95 []⟩,
 ⟨some 14, none, .ncall true 18015 19 [(.t 12), (.t 13)]⟩,
 ⟨some 11, none, .mov (.t 14)⟩,
 ⟨some 15, none, .ext 0 (.t 11)⟩,
 ⟨some 16, none, .ext 1 (.t 11)⟩,
 ⟨some 17, none, .ext 2 (.t 11)⟩,
 ⟨some 1, none, .mov (.t 15)⟩,
 ⟨some 2, none, .mov (.t 16)⟩,
 ⟨some 3, none, .mov (.t 17)⟩]) (
 .gh [.keep [1, 2, 3]] (
 .seq (
 .reg none [
 ⟨some 19, none, .ncall true 18020 96 [(.c (.int .i64 1))]⟩,
 ⟨some 20, none, .ncall true 18021 26 [(.c (.int .i64 1)), (.t 19)]⟩,
 ⟨some 18, none, .mov (.t 20)⟩,
 ⟨some 21, none, .ext 0 (.t 18)⟩,
 ⟨some 22, none, .ext 1 (.t 18)⟩,
 ⟨some 4, none, .mov (.t 21)⟩,
 ⟨some 5, none, .mov (.t 22)⟩]) (
 .seq (
 .reg none [
 ⟨some 24, none, .ncall true 18025 97 []⟩,
 ⟨some 25, none, .bslice 18026 3 1 [(.c (.int .i64 1)), (.c (.int .i64 0)), (.c (.int .i64 0))]⟩,
 ⟨some 26, none, .ncall true 18027 67 [(.t 24), (.t 25), (.c (.int .i64 5))]⟩,
 ⟨some 23, none, .mov (.t 26)⟩,
 ⟨some 27, none, .ext 0 (.t 23)⟩,
 ⟨some 28, none, .ext 1 (.t 23)⟩,
 ⟨some 29, none, .ext 2 (.t 23)⟩,
 ⟨some 6, none, .mov (.t 27)⟩,
 ⟨some 7, none, .mov (.t 28)⟩,
 ⟨some 8, none, .mov (.t 29)⟩]) (
 .gh [.keep [1, 2, 3, 4, 5, 6, 7, 8]] (
 .seq (
 .reg none [
 ⟨some 31, none, .ncall true 0 94 []⟩,
 ⟨some 32, none, .ncall true 0 47 [(.t 31)]⟩,
 ⟨some 30, none, .mov (.t 32)⟩,
 ⟨some 33, none, .ext 0 (.t 30)⟩,
 ⟨some 34, none, .ext 1 (.t 30)⟩,
 ⟨some 9, none, .mov (.t 33)⟩,
 ⟨some 10, none, .mov (.t 34)⟩]) (
 .seq (
 .reg none [
 ⟨some 35, none, .mov (.t 3)⟩,
 ⟨some 36, none, .bin .eql (.t 35) (.c (.int .i64 0))⟩,
 ⟨some 37, none, .mov (.t 36)⟩,
 ⟨some 38, (some (37, true)), .mov (.t 2)⟩,
 ⟨some 39, (some (37, true)), .bin .eql (.t 38) (.c (.int .i64 6))⟩,
 ⟨some 40, none, .pick (.t 37) (.t 39) (.c (.bool false))⟩,
 ⟨some 41, none, .mov (.t 40)⟩,
 ⟨some 42, (some (41, true)), .mov (.t 1)⟩,
 ⟨some 43, (some (41, true)), .bslice 18044 3 1 [(.c (.int .i64 1)), (.c (.int .i64 0))]⟩,
 ⟨some 44, (some (41, true)), .ncall true 0 23 [(.t 42), (.t 43)]⟩,
 ⟨some 45, none, .pick (.t 41) (.t 44) (.c (.bool false))⟩,
 ⟨some 46, none, .mov (.t 45)⟩,
 ⟨some 47, (some (46, true)), .mov (.t 5)⟩,
 ⟨some 48, (some (46, true)), .bin .eql (.t 47) (.c (.int .i64 0))⟩,
 ⟨some 49, none, .pick (.t 46) (.t 48) (.c (.bool false))⟩,
 ⟨some 50, none, .mov (.t 49)⟩,
 ⟨some 51, (some (50, true)), .mov (.t 4)⟩,
 ⟨some 52, (some (50, true)), .len (.t 51)⟩,
 ⟨some 53, (some (50, true)), .bin .eql (.t 52) (.c (.int .i64 15))⟩,
 ⟨some 54, none, .pick (.t 50) (.t 53) (.c (.bool false))⟩,
 ⟨some 55, none, .mov (.t 54)⟩,
 ⟨some 56, (some (55, true)), .mov (.t 4)⟩,
 ⟨some 57, (some (55, true)), .iaddr 1 (.t 56) (.c (.int .i64 13))⟩,
 ⟨some 58, (some (55, true)), .load false 1 (.t 57)⟩,
 ⟨some 59, (some (55, true)), .bin .eql (.t 58) (.c (.int .i64 6))⟩,
 ⟨some 60, none, .pick (.t 55) (.t 59) (.c (.bool false))⟩,
 ⟨some 61, none, .mov (.t 60)⟩,
 ⟨some 62, (some (61, true)), .mov (.t 4)⟩,
 ⟨some 63, (some (61, true)), .iaddr 1 (.t 62) (.c (.int .i64 14))⟩,
 ⟨some 64, (some (61, true)), .load false 1 (.t 63)⟩,
 ⟨some 65, (some (61, true)), .bin .eql (.t 64) (.c (.int .i64 8))⟩,
 ⟨some 66, none, .pick (.t 61) (.t 65) (.c (.bool false))⟩,
 ⟨some 67, none, .mov (.t 66)⟩,
 ⟨some 68, (some (67, true)), .mov (.t 8)⟩,
 ⟨some 69, (some (67, true)), .bin .eql (.t 68) (.c (.int .i64 0))⟩,
 ⟨some 70, none, .pick (.t 67) (.t 69) (.c (.bool false))⟩,
 ⟨some 71, none, .mov (.t 70)⟩,
 ⟨some 72, (some (71, true)), .mov (.t 7)⟩,
 ⟨some 73, (some (71, true)), .bin .eql (.t 72) (.c (.int .i64 1))⟩,
 ⟨some 74, none, .pick (.t 71) (.t 73) (.c (.bool false))⟩,
 ⟨some 75, none, .mov (.t 74)⟩,
 ⟨some 76, (some (75, true)), .mov (.t 6)⟩,
 ⟨some 77, (some (75, true)), .bslice 18078 3 1 [(.c (.int .i64 0)), (.c (.int .i64 0)), (.c (.int .i64 0))]⟩,
 ⟨some 78, (some (75, true)), .ncall true 0 23 [(.t 76), (.t 77)]⟩,
 ⟨some 79, none, .pick (.t 75) (.t 78) (.c (.bool false))⟩,
 ⟨some 80, none, .mov (.t 79)⟩,
 ⟨some 81, (some (80, true)), .mov (.t 10)⟩,
 ⟨some 82, (some (80, true)), .bin .eql (.t 81) (.c (.int .i64 0))⟩,
 ⟨some 83, none, .pick (.t 80) (.t 82) (.c (.bool false))⟩,
 ⟨some 84, none, .mov (.t 83)⟩,
 ⟨some 85, (some (84, true)), .mov (.t 9)⟩,
 ⟨some 86, (some (84, true)), .bin .eql (.t 85) (.c (.int .i64 5))⟩,
 ⟨some 87, none, .pick (.t 84) (.t 86) (.c (.bool false))⟩,
 ⟨some 0, none, .mov (.t 87)⟩]) (
 .gh [.keep [0]] (
 .ret)))))))))
def a18 : AFunc := ⟨88, c18, [.tmp 0]⟩
/-! 19 cassegrain/code.BestBits params [24, 25] nfree 0 ntmps 31 -/
def c19 : ACode :=
 .seq (
 .reg none [
 ⟨some 2, none, .box 19003 24 (.t 0)⟩,
 ⟨some 4, none, .mov (.c .nils)⟩,
 ⟨some 5, none, .mov (.c (.int .i64 0))⟩,
 ⟨some 6, none, .mov (.c (.int .i64 0))⟩]) (
 .seq (
 .seq (
 .reg none [
 ⟨some 11, none, .load true 3 (.t 2)⟩,
 ⟨some 12, none, .ncall true 0 57 [(.t 11)]⟩,
 ⟨some 7, none, .mov (.t 12)⟩]) (
 .seq (
 .reg none [
 ⟨some 13, none, .mov (.t 7)⟩,
 ⟨some 14, none, .bin .neq (.t 13) (.c (.int .i64 0))⟩]) (
 .cond (.t 14) (
 .seq (
 .reg none [
 ⟨some 15, none, .mov (.t 7)⟩,
 ⟨some 4, none, .mov (.c .nils)⟩,
 ⟨some 5, none, .mov (.c (.int .i64 0))⟩,
 ⟨some 6, none, .mov (.t 15)⟩]) (
 .ret)) (
 .skip)))) (
 .seq (
 .seq (
 .reg none [
 ⟨some 16, none, .load true 3 (.t 2)⟩,
 ⟨some 17, none, .mov (.t 1)⟩,
 ⟨some 18, none, .ncall true 0 98 [(.t 16), (.t 17)]⟩,
 ⟨some 8, none, .mov (.t 18)⟩]) (
 .seq (
 .reg none [
 ⟨some 19, none, .mov (.t 8)⟩,
 ⟨some 20, none, .bin .neq (.t 19) (.c (.int .i64 0))⟩]) (
 .cond (.t 20) (
 .seq (
 .reg none [
 ⟨some 21, none, .mov (.t 8)⟩,
 ⟨some 4, none, .mov (.c .nils)⟩,
 ⟨some 5, none, .mov (.c (.int .i64 0))⟩,
 ⟨some 6, none, .mov (.t 21)⟩]) (
 .ret)) (
 .skip)))) (
 .seq (
 .reg none [
 ⟨some 23, none, .load true 3 (.t 2)⟩,
 ⟨some 24, none, .mov (.t 1)⟩,
 ⟨some 25, none, .build (.gen [(.int .i64 0), (.int .i64 0), (.int .i64 0), .nils]) [(0, 3, (.t 23)), (3, 1, (.t 24))]⟩,
 ⟨some 26, none, .ncall true 19027 99 [(.t 25)]⟩,
 ⟨some 22, none, .mov (.t 26)⟩,
 ⟨some 27, none, .ext 0 (.t 22)⟩,
 ⟨some 28, none, .ext 1 (.t 22)⟩,
 ⟨some 9, none, .mov (.t 27)⟩,
 ⟨some 10, none, .mov (.t 28)⟩]) (
 .gh [.keep [9, 10]] (
 .seq (
 .reg none [
 ⟨some 29, none, .mov (.t 9)⟩,
 ⟨some 30, none, .mov (.t 10)⟩,
 ⟨some 4, none, .mov (.t 29)⟩,
 ⟨some 5, none, .mov (.t 30)⟩,
 ⟨some 6, none, .mov (.c (.int .i64 0))⟩]) (
 .ret))))))
def a19 : AFunc := ⟨31, c19, [.tmp 4, .tmp 5, .tmp 6]⟩
/-! 20 cassegrain/cassegrainbase.CopyInts params [25] nfree 0 ntmps 6 -/
def c20 : ACode :=
 .seq (
 .reg none [
 ⟨some 2, none, .mov (.c .nils)⟩]) (
 .seq (
 .reg none [
 ⟨some 3, none, .bslice 20004 3 1 []⟩,
 ⟨some 4, none, .mov (.t 0)⟩,
 ⟨some 5, none, .append 20006 3 1 (.t 3) (.t 4)⟩,
 ⟨some 2, none, .mov (.t 5)⟩]) (
 .ret))
def a20 : AFunc := ⟨6, c20, [.tmp 2]⟩
/-! 23 cassegrain/cassegrainbase.Ints params [25, 25] nfree 0 ntmps 26 -/
def l23_0 : ACode :=
 .seq (
 .seq (
 .reg none [
 ⟨some 11, none, .mov (.t 5)⟩,
 ⟨some 12, none, .mov (.t 0)⟩,
 ⟨some 13, none, .len (.t 12)⟩,
 ⟨some 14, none, .bin .lss (.t 11) (.t 13)⟩]) (
 .cond (.t 14) (
 .skip) (
 .exit 0))) (
 .seq (
 .block 1 (
 .seq (
 .reg (some []) [
 ⟨some 17, none, .mov (.t 0)⟩,
 ⟨some 18, none, .mov (.t 5)⟩,
 ⟨some 19, none, .iaddr 1 (.t 17) (.t 18)⟩,
 ⟨some 20, none, .load false 1 (.t 19)⟩,
 ⟨some 21, none, .mov (.t 1)⟩,
 ⟨some 22, none, .mov (.t 5)⟩,
 ⟨some 23, none, .iaddr 1 (.t 21) (.t 22)⟩,
 ⟨some 24, none, .load false 1 (.t 23)⟩,
 ⟨some 25, none, .bin .neq (.t 20) (.t 24)⟩]) (
 .gh [.keep [0, 1, 5, 25]] (
 .cond (.t 25) (
 .seq (
 .reg none [
 ⟨some 4, none, .mov (.c (.bool false))⟩]) (
 .ret)) (
 .skip))))) (
 .reg none [
 ⟨some 15, none, .mov (.t 5)⟩,
 ⟨some 16, none, .bin .add (.t 15) (.c (.int .i64 1))⟩,
 ⟨some 5, none, .mov (.t 16)⟩]))
def b23_0 : ACode := .gh [.keep [0, 1, 5]] (.gh [] l23_0)
def k23_0 : List AItem := .inLoop b23_0 :: [.inBlock 0,
 .code (.seq (
 .reg none [
 ⟨some 4, none, .mov (.c (.bool true))⟩]) (
 .ret))]
def c23 : ACode :=
 .seq (
 .reg none [
 ⟨some 4, none, .mov (.c (.bool false))⟩]) (
 .seq (
 .seq (
 .reg none [
 ⟨some 6, none, .mov (.t 0)⟩,
 ⟨some 7, none, .len (.t 6)⟩,
 ⟨some 8, none, .mov (.t 1)⟩,
 ⟨some 9, none, .len (.t 8)⟩,
 ⟨some 10, none, .bin .neq (.t 7) (.t 9)⟩]) (
 .cond (.t 10) (
 .seq (
 .reg none [
 ⟨some 4, none, .mov (.c (.bool false))⟩]) (
 .ret)) (
 .skip))) (
 .seq (
 .seq (
 .reg none [
 ⟨some 5, none, .mov (.c (.int .i64 0))⟩]) (
 .block 0 (
 .loop b23_0))) (
 .seq (
 .reg none [
 ⟨some 4, none, .mov (.c (.bool true))⟩]) (
 .ret))))
def a23 : AFunc := ⟨26, c23, [.tmp 4]⟩
/-! 26 cassegrain/code.EncodeBlock params [3, 25] nfree 0 ntmps 24 -/
def c26 : ACode :=
 .seq (
 .reg none [
 ⟨some 4, none, .mov (.c .nils)⟩,
 ⟨some 5, none, .mov (.c (.int .i64 0))⟩]) (
 .seq (
 .seq (
 .reg none [
 ⟨some 8, none, .mov (.t 0)⟩,
 ⟨some 9, none, .ncall true 0 106 [(.t 8)]⟩,
 ⟨some 10, none, .mov (.t 1)⟩,
 ⟨some 11, none, .mov (.t 0)⟩,
 ⟨some 12, none, .bin .mul (.c (.int .i64 2)) (.t 11)⟩,
 ⟨some 13, none, .bin .sub (.c (.int .i64 15)) (.t 12)⟩,
 ⟨some 14, none, .ncall true 0 107 [(.t 10), (.t 13)]⟩,
 ⟨some 15, none, .bslice 26016 27 1 [(.t 9), (.t 14)]⟩,
 ⟨some 16, none, .ncall true 0 105 [(.t 15)]⟩,
 ⟨some 6, none, .mov (.t 16)⟩]) (
 .gh [.keep [0, 1, 6]] (
 .seq (
 .reg none [
 ⟨some 17, none, .mov (.t 6)⟩,
 ⟨some 18, none, .bin .neq (.t 17) (.c (.int .i64 0))⟩]) (
 .cond (.t 18) (
 .seq (
 .reg none [
 ⟨some 19, none, .mov (.t 6)⟩,
 ⟨some 4, none, .mov (.c .nils)⟩,
 ⟨some 5, none, .mov (.t 19)⟩]) (
 .ret)) (
 .skip))))) (
 .seq (
 .reg none [
 ⟨some 20, none, .mov (.t 0)⟩,
 ⟨some 21, none, .mov (.t 1)⟩,
 ⟨some 22, none, .ncall true 0 109 [(.t 20), (.t 21)]⟩,
 ⟨some 7, none, .alloc 26008 133 (.agg (.ints .i64 [0, 0, 0, 0, 0, 0, 0, 0, 0, 0, 0, 0, 0, 0, 0]))⟩,
 ⟨none, none, .store 15 (.t 7) (.t 22)⟩]) (
 .seq (
 .reg none [
 ⟨some 23, none, .asl 15 (.t 7) none none⟩,
 ⟨some 4, none, .mov (.t 23)⟩,
 ⟨some 5, none, .mov (.c (.int .i64 0))⟩]) (
 .ret))))
def a26 : AFunc := ⟨24, c26, [.tmp 4, .tmp 5]⟩
/-! 34 cassegrain/cassegrainlaw05.fewChecks params [48] nfree 0 ntmps 22 -/
def l34_0 : ACode :=
 .seq (
 .seq (
 .reg none [
 ⟨some 8, none, .mov (.t 3)⟩,
 ⟨some 9, none, .faddr 1 (.t 1)⟩,
 ⟨some 10, none, .load false 1 (.t 9)⟩,
 ⟨some 11, none, .len (.t 10)⟩,
 ⟨some 12, none, .bin .lss (.t 8) (.t 11)⟩]) (
 .cond (.t 12) (
 .skip) (
 .exit 0))) (
 .seq (
 .block 1 (
 .seq (
 .reg none [
 ⟨some 15, none, .faddr 1 (.t 1)⟩,
 ⟨some 16, none, .load false 1 (.t 15)⟩,
 ⟨some 17, none, .mov (.t 3)⟩,
 ⟨some 18, none, .iaddr 1 (.t 16) (.t 17)⟩,
 ⟨some 19, none, .load false 1 (.t 18)⟩,
 ⟨some 20, none, .len (.t 19)⟩,
 ⟨some 21, none, .bin .gtr (.t 20) (.c (.int .i64 26))⟩]) (
 .gh [.keep [1, 3, 21]] (
 .cond (.t 21) (
 .seq (
 .reg none [
 ⟨some 2, none, .mov (.c (.bool false))⟩]) (
 .ret)) (
 .skip))))) (
 .reg none [
 ⟨some 13, none, .mov (.t 3)⟩,
 ⟨some 14, none, .bin .add (.t 13) (.c (.int .i64 1))⟩,
 ⟨some 3, none, .mov (.t 14)⟩]))
def b34_0 : ACode := .gh [.keep [1, 3]] (.gh [] l34_0)
def k34_0 : List AItem := .inLoop b34_0 :: [.inBlock 0,
 .code (.seq (
 .reg none [
 ⟨some 2, none, .mov (.c (.bool true))⟩]) (
 .ret))]
def c34 : ACode :=
 .seq (
 .reg none [
 ⟨some 1, none, .box 34002 48 (.t 0)⟩,
 ⟨some 2, none, .mov (.c (.bool false))⟩]) (
 .seq (
 .seq (
 .reg none [
 ⟨some 4, none, .faddr 1 (.t 1)⟩,
 ⟨some 5, none, .load false 1 (.t 4)⟩,
 ⟨some 6, none, .len (.t 5)⟩,
 ⟨some 7, none, .bin .gtr (.t 6) (.c (.int .i64 18))⟩]) (
 .cond (.t 7) (
 .seq (
 .reg none [
 ⟨some 2, none, .mov (.c (.bool false))⟩]) (
 .ret)) (
 .skip))) (
 .seq (
 .seq (
 .reg none [
 ⟨some 3, none, .mov (.c (.int .i64 0))⟩]) (
 .block 0 (
 .loop b34_0))) (
 .seq (
 .reg none [
 ⟨some 2, none, .mov (.c (.bool true))⟩]) (
 .ret))))
def a34 : AFunc := ⟨22, c34, [.tmp 2]⟩
/-! 35 cassegrain/code.CheckParity params [48] nfree 0 ntmps 62 -/
def l35_1 : ACode :=
 .seq (
 .reg none [
 ⟨some 40, none, .bin .lss (.t 39) (.t 38)⟩]) (
 .seq (
 .cond (.t 40) (
 .skip) (
 .exit 2)) (
 .seq (
 .block 3 (
 .seq (
 .reg none [
 ⟨some 41, none, .iaddr 1 (.t 37) (.t 39)⟩,
 ⟨some 42, none, .load false 1 (.t 41)⟩,
 ⟨some 9, none, .mov (.t 42)⟩]) (
 .seq (
 .seq (
 .reg none [
 ⟨some 43, none, .mov (.t 9)⟩,
 ⟨some 44, none, .faddr 0 (.t 1)⟩,
 ⟨some 45, none, .load false 1 (.t 44)⟩,
 ⟨some 46, none, .bin .sub (.t 45) (.c (.int .i64 1))⟩,
 ⟨some 47, none, .ncall true 0 112 [(.t 43), (.c (.int .i64 0)), (.t 46)]⟩,
 ⟨some 48, none, .ncall true 0 111 [(.t 47), (.c (.int .i64 6))]⟩,
 ⟨some 49, none, .mov (.t 9)⟩,
 ⟨some 50, none, .mov (.t 7)⟩,
 ⟨some 51, none, .bin .gtr (.t 49) (.t 50)⟩,
 ⟨some 52, none, .ncall true 0 111 [(.t 51), (.c (.int .i64 9))]⟩,
 ⟨some 53, none, .bslice 35054 27 1 [(.t 48), (.t 52)]⟩,
 ⟨some 54, none, .ncall true 0 105 [(.t 53)]⟩,
 ⟨some 10, none, .mov (.t 54)⟩]) (
 .gh [.keep [1, 5, 9, 10, 26, 27, 28, 37, 38, 39]] (
 .seq (
 .reg none [
 ⟨some 55, none, .mov (.t 10)⟩,
 ⟨some 56, none, .bin .neq (.t 55) (.c (.int .i64 0))⟩]) (
 .cond (.t 56) (
 .seq (
 .reg none [
 ⟨some 57, none, .mov (.t 5)⟩,
 ⟨some 58, none, .mov (.t 10)⟩,
 ⟨some 2, none, .mov (.t 57)⟩,
 ⟨some 3, none, .mov (.t 58)⟩]) (
 .ret)) (
 .skip))))) (
 .reg none [
 ⟨some 59, none, .mov (.t 9)⟩,
 ⟨some 7, none, .mov (.t 59)⟩])))) (
 .reg none [
 ⟨some 60, none, .bin .add (.t 39) (.c (.int .i64 1))⟩,
 ⟨some 39, none, .mov (.t 60)⟩])))
def b35_1 : ACode := .gh [.keep [1, 5, 7, 26, 27, 28, 37, 38, 39]] (.gh [] l35_1)
def l35_0 : ACode :=
 .seq (
 .reg none [
 ⟨some 29, none, .bin .lss (.t 28) (.t 27)⟩]) (
 .seq (
 .cond (.t 29) (
 .skip) (
 .exit 0)) (
 .seq (
 .block 1 (
 .seq (
 .reg none [
 ⟨some 30, none, .mov (.t 28)⟩,
 ⟨some 31, none, .iaddr 1 (.t 26) (.t 28)⟩,
 ⟨some 32, none, .load false 1 (.t 31)⟩,
 ⟨some 5, none, .mov (.t 30)⟩,
 ⟨some 6, none, .mov (.t 32)⟩]) (
 .seq (
 .seq (
 .reg none [
 ⟨some 33, none, .mov (.t 6)⟩,
 ⟨some 34, none, .len (.t 33)⟩,
 ⟨some 35, none, .bin .eql (.t 34) (.c (.int .i64 0))⟩]) (
 .cond (.t 35) (
 .seq (
 .reg none [
 ⟨some 36, none, .mov (.t 5)⟩,
 ⟨some 2, none, .mov (.t 36)⟩,
 ⟨some 3, none, .mov (.c (.int .i64 10))⟩]) (
 .ret)) (
 .skip))) (
 .seq (
 .reg none [
 ⟨some 7, none, .mov (.c (.int .i64 (-1)))⟩]) (
 .seq (
 .reg none [
 ⟨some 37, none, .mov (.t 6)⟩,
 ⟨some 38, none, .len (.t 37)⟩,
 ⟨some 39, none, .mov (.c (.int .i64 0))⟩]) (
 .block 2 (
 .loop b35_1))))))) (
 .reg none [
 ⟨some 61, none, .bin .add (.t 28) (.c (.int .i64 1))⟩,
 ⟨some 28, none, .mov (.t 61)⟩])))
def b35_0 : ACode := .gh [.keep [1, 26, 27, 28]] (.gh [] l35_0)
def k35_1 : List AItem := .inLoop b35_1 :: [.inBlock 2,
 .inBlock 1,
 .code (.reg none [
 ⟨some 61, none, .bin .add (.t 28) (.c (.int .i64 1))⟩,
 ⟨some 28, none, .mov (.t 61)⟩]),
 .inLoop b35_0,
 .inBlock 0,
 .code (.seq (
 .reg none [
 ⟨some 2, none, .mov (.c (.int .i64 0))⟩,
 ⟨some 3, none, .mov (.c (.int .i64 0))⟩]) (
 .ret))]
def k35_0 : List AItem := .inLoop b35_0 :: [.inBlock 0,
 .code (.seq (
 .reg none [
 ⟨some 2, none, .mov (.c (.int .i64 0))⟩,
 ⟨some 3, none, .mov (.c (.int .i64 0))⟩]) (
 .ret))]
def c35 : ACode :=
 .seq (
 .reg none [
 ⟨some 1, none, .box 35002 48 (.t 0)⟩,
 ⟨some 2, none, .mov (.c (.int .i64 0))⟩,
 ⟨some 3, none, .mov (.c (.int .i64 0))⟩]) (
 .seq (
 .seq (
 .reg (some []) [
 ⟨some 11, none, .faddr 0 (.t 1)⟩,
 ⟨some 12, none, .load false 1 (.t 11)⟩,
 ⟨some 13, none, .ncall true 0 112 [(.t 12), (.c (.int .i64 1)), (.c (.int .i64 24))]⟩,
 ⟨some 14, none, .ncall true 0 111 [(.t 13), (.c (.int .i64 2))]⟩,
 ⟨some 15, none, .faddr 1 (.t 1)⟩,
 ⟨some 16, none, .load false 1 (.t 15)⟩,
 ⟨some 17, none, .len (.t 16)⟩,
 ⟨some 18, none, .bin .leq (.t 17) (.c (.int .i64 16))⟩,
 ⟨some 19, none, .ncall true 0 111 [(.t 18), (.c (.int .i64 8))]⟩,
 ⟨some 20, none, .bslice 35021 27 1 [(.t 14), (.t 19)]⟩,
 ⟨some 21, none, .ncall true 0 105 [(.t 20)]⟩,
 ⟨some 4, none, .mov (.t 21)⟩]) (
 .gh [.keep [1, 4]] (
 .seq (
 .reg none [
 ⟨some 22, none, .mov (.t 4)⟩,
 ⟨some 23, none, .bin .neq (.t 22) (.c (.int .i64 0))⟩]) (
 .cond (.t 23) (
 .seq (
 .reg none [
 ⟨some 24, none, .mov (.t 4)⟩,
 ⟨some 2, none, .mov (.c (.int .i64 0))⟩,
 ⟨some 3, none, .mov (.t 24)⟩]) (
 .ret)) (
 .skip))))) (
 .seq (
 .seq (
 .reg none [
 ⟨some 25, none, .faddr 1 (.t 1)⟩,
 ⟨some 26, none, .load false 1 (.t 25)⟩,
 ⟨some 27, none, .len (.t 26)⟩,
 ⟨some 28, none, .mov (.c (.int .i64 0))⟩]) (
 .block 0 (
 .loop b35_0))) (
 .seq (
 .reg none [
 ⟨some 2, none, .mov (.c (.int .i64 0))⟩,
 ⟨some 3, none, .mov (.c (.int .i64 0))⟩]) (
 .ret))))
def a35 : AFunc := ⟨62, c35, [.tmp 2, .tmp 3]⟩
/-! 36 cassegrain/cassegrainref05.Copy params [48] nfree 0 ntmps 9 -/
def c36 : ACode :=
 .seq (
 .reg none [
 ⟨some 1, none, .box 36002 48 (.t 0)⟩,
 ⟨some 2, none, .alloc 36003 48 (.agg (.gen [(.int .i64 0), .nils]))⟩]) (
 .seq (
 .reg (some [(0, 4), (1, 4)]) [
 ⟨some 3, none, .faddr 0 (.t 1)⟩,
 ⟨some 4, none, .load false 1 (.t 3)⟩,
 ⟨some 5, none, .faddr 1 (.t 1)⟩,
 ⟨some 6, none, .load false 1 (.t 5)⟩,
 ⟨some 7, none, .ncall true 36008 113 [(.t 6)]⟩,
 ⟨some 8, none, .build (.gen [(.int .i64 0), .nils]) [(0, 1, (.t 4)), (1, 1, (.t 7))]⟩,
 ⟨none, none, .store 2 (.t 2) (.t 8)⟩]) (
 .gh [.keep [2]] (
 .ret)))
def a36 : AFunc := ⟨9, c36, [.cell 2 true 2]⟩
/-! 37 cassegrain/code.Unsatisfied params [48, 25] nfree 0 ntmps 16 -/
def c37 : ACode :=
 .seq (
 .reg none [
 ⟨some 2, none, .box 37003 48 (.t 0)⟩,
 ⟨some 4, none, .mov (.c .nils)⟩,
 ⟨some 5, none, .mov (.c (.int .i64 0))⟩]) (
 .seq (
 .seq (
 .reg none [
 ⟨some 7, none, .load true 2 (.t 2)⟩,
 ⟨some 8, none, .mov (.t 1)⟩,
 ⟨some 9, none, .ncall true 0 114 [(.t 7), (.t 8)]⟩,
 ⟨some 6, none, .mov (.t 9)⟩]) (
 .seq (
 .reg none [
 ⟨some 10, none, .mov (.t 6)⟩,
 ⟨some 11, none, .bin .neq (.t 10) (.c (.int .i64 0))⟩]) (
 .cond (.t 11) (
 .seq (
 .reg none [
 ⟨some 12, none, .mov (.t 6)⟩,
 ⟨some 4, none, .mov (.c .nils)⟩,
 ⟨some 5, none, .mov (.t 12)⟩]) (
 .ret)) (
 .skip)))) (
 .seq (
 .reg none [
 ⟨some 13, none, .load true 2 (.t 2)⟩,
 ⟨some 14, none, .mov (.t 1)⟩,
 ⟨some 15, none, .ncall true 37016 115 [(.t 13), (.t 14)]⟩,
 ⟨some 4, none, .mov (.t 15)⟩,
 ⟨some 5, none, .mov (.c (.int .i64 0))⟩]) (
 .ret)))
def a37 : AFunc := ⟨16, c37, [.tmp 4, .tmp 5]⟩
/-! 38 cassegrain/code.Flipped params [48, 25] nfree 0 ntmps 16 -/
def c38 : ACode :=
 .seq (
 .reg none [
 ⟨some 2, none, .box 38003 48 (.t 0)⟩,
 ⟨some 4, none, .mov (.c .nils)⟩,
 ⟨some 5, none, .mov (.c (.int .i64 0))⟩]) (
 .seq (
 .seq (
 .reg none [
 ⟨some 7, none, .load true 2 (.t 2)⟩,
 ⟨some 8, none, .mov (.t 1)⟩,
 ⟨some 9, none, .ncall true 0 114 [(.t 7), (.t 8)]⟩,
 ⟨some 6, none, .mov (.t 9)⟩]) (
 .seq (
 .reg none [
 ⟨some 10, none, .mov (.t 6)⟩,
 ⟨some 11, none, .bin .neq (.t 10) (.c (.int .i64 0))⟩]) (
 .cond (.t 11) (
 .seq (
 .reg none [
 ⟨some 12, none, .mov (.t 6)⟩,
 ⟨some 4, none, .mov (.c .nils)⟩,
 ⟨some 5, none, .mov (.t 12)⟩]) (
 .ret)) (
 .skip)))) (
 .seq (
 .reg none [
 ⟨some 13, none, .load true 2 (.t 2)⟩,
 ⟨some 14, none, .mov (.t 1)⟩,
 ⟨some 15, none, .ncall true 38016 116 [(.t 13), (.t 14)]⟩,
 ⟨some 4, none, .mov (.t 15)⟩,
 ⟨some 5, none, .mov (.c (.int .i64 0))⟩]) (
 .ret)))
def a38 : AFunc := ⟨16, c38, [.tmp 4, .tmp 5]⟩
/-! 39 cassegrain/cassegrainref05.CheckParity params [48] nfree 0 ntmps 76 -/
def l39_1 : ACode :=
 .seq (
 .seq (
 .reg none [
 ⟨some 29, none, .mov (.t 5)⟩,
 ⟨some 30, none, .faddr 1 (.t 1)⟩,
 ⟨some 31, none, .load false 1 (.t 30)⟩,
 ⟨some 32, none, .mov (.t 4)⟩,
 ⟨some 33, none, .iaddr 1 (.t 31) (.t 32)⟩,
 ⟨some 34, none, .load false 1 (.t 33)⟩,
 ⟨some 35, none, .len (.t 34)⟩,
 ⟨some 36, none, .bin .lss (.t 29) (.t 35)⟩]) (
 .gh [.keep [1, 4, 5, 36]] (
 .cond (.t 36) (
 .skip) (
 .exit 2)))) (
 .seq (
 .block 3 (
 .seq (
 .seq (
 .reg (some []) [
 ⟨some 39, none, .faddr 1 (.t 1)⟩,
 ⟨some 40, none, .load false 1 (.t 39)⟩,
 ⟨some 41, none, .mov (.t 4)⟩,
 ⟨some 42, none, .iaddr 1 (.t 40) (.t 41)⟩,
 ⟨some 43, none, .load false 1 (.t 42)⟩,
 ⟨some 44, none, .mov (.t 5)⟩,
 ⟨some 45, none, .iaddr 1 (.t 43) (.t 44)⟩,
 ⟨some 46, none, .load false 1 (.t 45)⟩,
 ⟨some 47, none, .faddr 0 (.t 1)⟩,
 ⟨some 48, none, .load false 1 (.t 47)⟩,
 ⟨some 49, none, .bin .sub (.t 48) (.c (.int .i64 1))⟩,
 ⟨some 50, none, .ncall true 0 45 [(.t 46), (.c (.int .i64 0)), (.t 49)]⟩,
 ⟨some 51, none, .not (.t 50)⟩]) (
 .gh [.keep [1, 4, 5, 51]] (
 .cond (.t 51) (
 .seq (
 .reg none [
 ⟨some 52, none, .mov (.t 4)⟩,
 ⟨some 2, none, .mov (.t 52)⟩,
 ⟨some 3, none, .mov (.c (.int .i64 6))⟩]) (
 .ret)) (
 .skip)))) (
 .seq (
 .reg (some []) [
 ⟨some 53, none, .mov (.t 5)⟩,
 ⟨some 54, none, .bin .gtr (.t 53) (.c (.int .i64 0))⟩,
 ⟨some 55, none, .mov (.t 54)⟩,
 ⟨some 56, (some (55, true)), .faddr 1 (.t 1)⟩,
 ⟨some 57, (some (55, true)), .load false 1 (.t 56)⟩,
 ⟨some 58, (some (55, true)), .mov (.t 4)⟩,
 ⟨some 59, (some (55, true)), .iaddr 1 (.t 57) (.t 58)⟩,
 ⟨some 60, (some (55, true)), .load false 1 (.t 59)⟩,
 ⟨some 61, (some (55, true)), .mov (.t 5)⟩,
 ⟨some 62, (some (55, true)), .iaddr 1 (.t 60) (.t 61)⟩,
 ⟨some 63, (some (55, true)), .load false 1 (.t 62)⟩,
 ⟨some 64, (some (55, true)), .faddr 1 (.t 1)⟩,
 ⟨some 65, (some (55, true)), .load false 1 (.t 64)⟩,
 ⟨some 66, (some (55, true)), .mov (.t 4)⟩,
 ⟨some 67, (some (55, true)), .iaddr 1 (.t 65) (.t 66)⟩,
 ⟨some 68, (some (55, true)), .load false 1 (.t 67)⟩,
 ⟨some 69, (some (55, true)), .mov (.t 5)⟩,
 ⟨some 70, (some (55, true)), .bin .sub (.t 69) (.c (.int .i64 1))⟩,
 ⟨some 71, (some (55, true)), .iaddr 1 (.t 68) (.t 70)⟩,
 ⟨some 72, (some (55, true)), .load false 1 (.t 71)⟩,
 ⟨some 73, (some (55, true)), .bin .leq (.t 63) (.t 72)⟩,
 ⟨some 74, none, .pick (.t 55) (.t 73) (.c (.bool false))⟩]) (
 .gh [.keep [1, 4, 5, 74]] (
 .cond (.t 74) (
 .seq (
 .reg none [
 ⟨some 75, none, .mov (.t 4)⟩,
 ⟨some 2, none, .mov (.t 75)⟩,
 ⟨some 3, none, .mov (.c (.int .i64 9))⟩]) (
 .ret)) (
 .skip)))))) (
 .reg none [
 ⟨some 37, none, .mov (.t 5)⟩,
 ⟨some 38, none, .bin .add (.t 37) (.c (.int .i64 1))⟩,
 ⟨some 5, none, .mov (.t 38)⟩]))
def b39_1 : ACode := .gh [.keep [1, 4, 5]] (.gh [] l39_1)
def l39_0 : ACode :=
 .seq (
 .seq (
 .reg none [
 ⟨some 14, none, .mov (.t 4)⟩,
 ⟨some 15, none, .faddr 1 (.t 1)⟩,
 ⟨some 16, none, .load false 1 (.t 15)⟩,
 ⟨some 17, none, .len (.t 16)⟩,
 ⟨some 18, none, .bin .lss (.t 14) (.t 17)⟩]) (
 .cond (.t 18) (
 .skip) (
 .exit 0))) (
 .seq (
 .block 1 (
 .seq (
 .seq (
 .reg none [
 ⟨some 21, none, .faddr 1 (.t 1)⟩,
 ⟨some 22, none, .load false 1 (.t 21)⟩,
 ⟨some 23, none, .mov (.t 4)⟩,
 ⟨some 24, none, .iaddr 1 (.t 22) (.t 23)⟩,
 ⟨some 25, none, .load false 1 (.t 24)⟩,
 ⟨some 26, none, .len (.t 25)⟩,
 ⟨some 27, none, .bin .eql (.t 26) (.c (.int .i64 0))⟩]) (
 .gh [.keep [1, 4, 27]] (
 .cond (.t 27) (
 .seq (
 .reg none [
 ⟨some 28, none, .mov (.t 4)⟩,
 ⟨some 2, none, .mov (.t 28)⟩,
 ⟨some 3, none, .mov (.c (.int .i64 10))⟩]) (
 .ret)) (
 .skip)))) (
 .seq (
 .reg none [
 ⟨some 5, none, .mov (.c (.int .i64 0))⟩]) (
 .block 2 (
 .loop b39_1))))) (
 .reg none [
 ⟨some 19, none, .mov (.t 4)⟩,
 ⟨some 20, none, .bin .add (.t 19) (.c (.int .i64 1))⟩,
 ⟨some 4, none, .mov (.t 20)⟩]))
def b39_0 : ACode := .gh [.keep [1, 4]] (.gh [] l39_0)
def k39_1 : List AItem := .inLoop b39_1 :: [.inBlock 2,
 .inBlock 1,
 .code (.reg none [
 ⟨some 19, none, .mov (.t 4)⟩,
 ⟨some 20, none, .bin .add (.t 19) (.c (.int .i64 1))⟩,
 ⟨some 4, none, .mov (.t 20)⟩]),
 .inLoop b39_0,
 .inBlock 0,
 .code (.seq (
 .reg none [
 ⟨some 2, none, .mov (.c (.int .i64 0))⟩,
 ⟨some 3, none, .mov (.c (.int .i64 0))⟩]) (
 .ret))]
def k39_0 : List AItem := .inLoop b39_0 :: [.inBlock 0,
 .code (.seq (
 .reg none [
 ⟨some 2, none, .mov (.c (.int .i64 0))⟩,
 ⟨some 3, none, .mov (.c (.int .i64 0))⟩]) (
 .ret))]
def c39 : ACode :=
 .seq (
 .reg none [
 ⟨some 1, none, .box 39002 48 (.t 0)⟩,
 ⟨some 2, none, .mov (.c (.int .i64 0))⟩,
 ⟨some 3, none, .mov (.c (.int .i64 0))⟩]) (
 .seq (
 .seq (
 .reg none [
 ⟨some 6, none, .faddr 0 (.t 1)⟩,
 ⟨some 7, none, .load false 1 (.t 6)⟩,
 ⟨some 8, none, .ncall true 0 45 [(.t 7), (.c (.int .i64 1)), (.c (.int .i64 24))]⟩,
 ⟨some 9, none, .not (.t 8)⟩]) (
 .cond (.t 9) (
 .seq (
 .reg none [
 ⟨some 2, none, .mov (.c (.int .i64 0))⟩,
 ⟨some 3, none, .mov (.c (.int .i64 2))⟩]) (
 .ret)) (
 .skip))) (
 .seq (
 .seq (
 .reg none [
 ⟨some 10, none, .faddr 1 (.t 1)⟩,
 ⟨some 11, none, .load false 1 (.t 10)⟩,
 ⟨some 12, none, .len (.t 11)⟩,
 ⟨some 13, none, .bin .gtr (.t 12) (.c (.int .i64 16))⟩]) (
 .cond (.t 13) (
 .seq (
 .reg none [
 ⟨some 2, none, .mov (.c (.int .i64 0))⟩,
 ⟨some 3, none, .mov (.c (.int .i64 8))⟩]) (
 .ret)) (
 .skip))) (
 .seq (
 .seq (
 .reg none [
 ⟨some 4, none, .mov (.c (.int .i64 0))⟩]) (
 .block 0 (
 .loop b39_0))) (
 .seq (
 .reg none [
 ⟨some 2, none, .mov (.c (.int .i64 0))⟩,
 ⟨some 3, none, .mov (.c (.int .i64 0))⟩]) (
 .ret)))))
def a39 : AFunc := ⟨76, c39, [.tmp 2, .tmp 3]⟩
/-! 40 cassegrain/cassegrainref05.ParityErr params [48, 25] nfree 0 ntmps 22 -/
def c40 : ACode :=
 .seq (
 .reg none [
 ⟨some 2, none, .box 40003 48 (.t 0)⟩,
 ⟨some 4, none, .mov (.c (.int .i64 0))⟩]) (
 .seq (
 .seq (
 .reg none [
 ⟨some 8, none, .load true 2 (.t 2)⟩,
 ⟨some 9, none, .ncall true 0 39 [(.t 8)]⟩,
 ⟨some 7, none, .mov (.t 9)⟩,
 ⟨some 10, none, .ext 0 (.t 7)⟩,
 ⟨some 11, none, .ext 1 (.t 7)⟩,
 ⟨some 5, none, .mov (.t 10)⟩,
 ⟨some 6, none, .mov (.t 11)⟩]) (
 .gh [.keep [1, 2, 6]] (
 .seq (
 .reg none [
 ⟨some 12, none, .mov (.t 6)⟩,
 ⟨some 13, none, .bin .neq (.t 12) (.c (.int .i64 0))⟩]) (
 .cond (.t 13) (
 .seq (
 .reg none [
 ⟨some 14, none, .mov (.t 6)⟩,
 ⟨some 4, none, .mov (.t 14)⟩]) (
 .ret)) (
 .skip))))) (
 .seq (
 .seq (
 .reg none [
 ⟨some 15, none, .mov (.t 1)⟩,
 ⟨some 16, none, .len (.t 15)⟩,
 ⟨some 17, none, .faddr 0 (.t 2)⟩,
 ⟨some 18, none, .load false 1 (.t 17)⟩,
 ⟨some 19, none, .bin .neq (.t 16) (.t 18)⟩]) (
 .cond (.t 19) (
 .seq (
 .reg none [
 ⟨some 4, none, .mov (.c (.int .i64 10))⟩]) (
 .ret)) (
 .skip))) (
 .seq (
 .reg none [
 ⟨some 20, none, .mov (.t 1)⟩,
 ⟨some 21, none, .ncall true 0 117 [(.t 20)]⟩,
 ⟨some 4, none, .mov (.t 21)⟩]) (
 .ret))))
def a40 : AFunc := ⟨22, c40, [.tmp 4]⟩
/-! 41 cassegrain/cassegrainref05.Unsatisfied params [48, 25] nfree 0 ntmps 47 -/
def l41_1 : ACode :=
 .seq (
 .seq (
 .reg none [
 ⟨some 16, none, .mov (.t 8)⟩,
 ⟨some 17, none, .faddr 1 (.t 2)⟩,
 ⟨some 18, none, .load false 1 (.t 17)⟩,
 ⟨some 19, none, .mov (.t 6)⟩,
 ⟨some 20, none, .iaddr 1 (.t 18) (.t 19)⟩,
 ⟨some 21, none, .load false 1 (.t 20)⟩,
 ⟨some 22, none, .len (.t 21)⟩,
 ⟨some 23, none, .bin .lss (.t 16) (.t 22)⟩]) (
 .gh [.keep [1, 2, 5, 6, 7, 8, 23]] (
 .cond (.t 23) (
 .skip) (
 .exit 2)))) (
 .seq (
 .block 3 (
 .reg none [
 ⟨some 26, none, .mov (.t 7)⟩,
 ⟨some 27, none, .mov (.t 1)⟩,
 ⟨some 28, none, .faddr 1 (.t 2)⟩,
 ⟨some 29, none, .load false 1 (.t 28)⟩,
 ⟨some 30, none, .mov (.t 6)⟩,
 ⟨some 31, none, .iaddr 1 (.t 29) (.t 30)⟩,
 ⟨some 32, none, .load false 1 (.t 31)⟩,
 ⟨some 33, none, .mov (.t 8)⟩,
 ⟨some 34, none, .iaddr 1 (.t 32) (.t 33)⟩,
 ⟨some 35, none, .load false 1 (.t 34)⟩,
 ⟨some 36, none, .iaddr 1 (.t 27) (.t 35)⟩,
 ⟨some 37, none, .load false 1 (.t 36)⟩,
 ⟨some 38, none, .bin .add (.t 26) (.t 37)⟩,
 ⟨some 7, none, .mov (.t 38)⟩])) (
 .reg none [
 ⟨some 24, none, .mov (.t 8)⟩,
 ⟨some 25, none, .bin .add (.t 24) (.c (.int .i64 1))⟩,
 ⟨some 8, none, .mov (.t 25)⟩]))
def b41_1 : ACode := .gh [.keep [1, 2, 5, 6, 7, 8]] (.gh [] l41_1)
def l41_0 : ACode :=
 .seq (
 .seq (
 .reg none [
 ⟨some 9, none, .mov (.t 6)⟩,
 ⟨some 10, none, .faddr 1 (.t 2)⟩,
 ⟨some 11, none, .load false 1 (.t 10)⟩,
 ⟨some 12, none, .len (.t 11)⟩,
 ⟨some 13, none, .bin .lss (.t 9) (.t 12)⟩]) (
 .cond (.t 13) (
 .skip) (
 .exit 0))) (
 .seq (
 .block 1 (
 .seq (
 .reg none [
 ⟨some 7, none, .mov (.c (.int .i64 0))⟩]) (
 .seq (
 .seq (
 .reg none [
 ⟨some 8, none, .mov (.c (.int .i64 0))⟩]) (
 .block 2 (
 .loop b41_1))) (
 .seq (
 .reg none [
 ⟨some 39, none, .mov (.t 7)⟩,
 ⟨some 40, none, .bin .rem (.t 39) (.c (.int .i64 2))⟩,
 ⟨some 41, none, .bin .eql (.t 40) (.c (.int .i64 1))⟩]) (
 .cond (.t 41) (
 .reg none [
 ⟨some 42, none, .mov (.t 5)⟩,
 ⟨some 43, none, .mov (.t 6)⟩,
 ⟨some 44, none, .bslice 41045 3 1 [(.t 43)]⟩,
 ⟨some 45, none, .append 41046 3 1 (.t 42) (.t 44)⟩,
 ⟨some 5, none, .mov (.t 45)⟩]) (
 .skip)))))) (
 .reg none [
 ⟨some 14, none, .mov (.t 6)⟩,
 ⟨some 15, none, .bin .add (.t 14) (.c (.int .i64 1))⟩,
 ⟨some 6, none, .mov (.t 15)⟩]))
def b41_0 : ACode := .gh [.keep [1, 2, 5, 6]] (.gh [] l41_0)
def k41_1 : List AItem := .inLoop b41_1 :: [.inBlock 2,
 .code (.seq (
 .reg none [
 ⟨some 39, none, .mov (.t 7)⟩,
 ⟨some 40, none, .bin .rem (.t 39) (.c (.int .i64 2))⟩,
 ⟨some 41, none, .bin .eql (.t 40) (.c (.int .i64 1))⟩]) (
 .cond (.t 41) (
 .reg none [
 ⟨some 42, none, .mov (.t 5)⟩,
 ⟨some 43, none, .mov (.t 6)⟩,
 ⟨some 44, none, .bslice 41045 3 1 [(.t 43)]⟩,
 ⟨some 45, none, .append 41046 3 1 (.t 42) (.t 44)⟩,
 ⟨some 5, none, .mov (.t 45)⟩]) (
 .skip))),
 .inBlock 1,
 .code (.reg none [
 ⟨some 14, none, .mov (.t 6)⟩,
 ⟨some 15, none, .bin .add (.t 14) (.c (.int .i64 1))⟩,
 ⟨some 6, none, .mov (.t 15)⟩]),
 .inLoop b41_0,
 .inBlock 0,
 .code (.seq (
 .reg none [
 ⟨some 46, none, .mov (.t 5)⟩,
 ⟨some 4, none, .mov (.t 46)⟩]) (
 .ret))]
def k41_0 : List AItem := .inLoop b41_0 :: [.inBlock 0,
 .code (.seq (
 .reg none [
 ⟨some 46, none, .mov (.t 5)⟩,
 ⟨some 4, none, .mov (.t 46)⟩]) (
 .ret))]
def c41 : ACode :=
 .seq (
 .reg none [
 ⟨some 2, none, .box 41003 48 (.t 0)⟩,
 ⟨some 4, none, .mov (.c .nils)⟩]) (
 .seq (
 .reg none [
 ⟨some 5, none, .mov (.c .nils)⟩]) (
 .seq (
 .seq (
 .reg none [
 ⟨some 6, none, .mov (.c (.int .i64 0))⟩]) (
 .block 0 (
 .loop b41_0))) (
 .seq (
 .reg none [
 ⟨some 46, none, .mov (.t 5)⟩,
 ⟨some 4, none, .mov (.t 46)⟩]) (
 .ret))))
def a41 : AFunc := ⟨47, c41, [.tmp 4]⟩
/-! 42 cassegrain/cassegrainref05.Flipped params [48, 25] nfree 0 ntmps 54 -/
def l42_1 : ACode :=
 .seq (
 .seq (
 .reg none [
 ⟨some 21, none, .mov (.t 9)⟩,
 ⟨some 22, none, .faddr 1 (.t 2)⟩,
 ⟨some 23, none, .load false 1 (.t 22)⟩,
 ⟨some 24, none, .len (.t 23)⟩,
 ⟨some 25, none, .bin .lss (.t 21) (.t 24)⟩]) (
 .cond (.t 25) (
 .skip) (
 .exit 2))) (
 .seq (
 .block 3 (
 .seq (
 .seq (
 .reg none [
 ⟨some 28, none, .faddr 1 (.t 2)⟩,
 ⟨some 29, none, .load false 1 (.t 28)⟩,
 ⟨some 30, none, .mov (.t 9)⟩,
 ⟨some 31, none, .iaddr 1 (.t 29) (.t 30)⟩,
 ⟨some 32, none, .load false 1 (.t 31)⟩,
 ⟨some 33, none, .mov (.t 7)⟩,
 ⟨some 34, none, .ncall true 0 49 [(.t 32), (.t 33)]⟩,
 ⟨some 35, none, .not (.t 34)⟩]) (
 .gh [.keep [2, 5, 6, 7, 8, 9, 35]] (
 .cond (.t 35) (
 .exit 3) (
 .skip)))) (
 .seq (
 .reg none [
 ⟨some 36, none, .mov (.t 5)⟩,
 ⟨some 37, none, .mov (.t 9)⟩,
 ⟨some 38, none, .ncall true 0 49 [(.t 36), (.t 37)]⟩]) (
 .cond (.t 38) (
 .reg none [
 ⟨some 39, none, .mov (.t 8)⟩,
 ⟨some 40, none, .bin .add (.t 39) (.c (.int .i64 1))⟩,
 ⟨some 8, none, .mov (.t 40)⟩]) (
 .reg none [
 ⟨some 41, none, .mov (.t 8)⟩,
 ⟨some 42, none, .bin .sub (.t 41) (.c (.int .i64 1))⟩,
 ⟨some 8, none, .mov (.t 42)⟩]))))) (
 .reg none [
 ⟨some 26, none, .mov (.t 9)⟩,
 ⟨some 27, none, .bin .add (.t 26) (.c (.int .i64 1))⟩,
 ⟨some 9, none, .mov (.t 27)⟩]))
def b42_1 : ACode := .gh [.keep [2, 5, 6, 7, 8, 9]] (.gh [] l42_1)
def l42_0 : ACode :=
 .seq (
 .seq (
 .reg none [
 ⟨some 15, none, .mov (.t 7)⟩,
 ⟨some 16, none, .faddr 0 (.t 2)⟩,
 ⟨some 17, none, .load false 1 (.t 16)⟩,
 ⟨some 18, none, .bin .lss (.t 15) (.t 17)⟩]) (
 .cond (.t 18) (
 .skip) (
 .exit 0))) (
 .seq (
 .block 1 (
 .seq (
 .reg none [
 ⟨some 8, none, .mov (.c (.int .i64 0))⟩]) (
 .seq (
 .seq (
 .reg none [
 ⟨some 9, none, .mov (.c (.int .i64 0))⟩]) (
 .block 2 (
 .loop b42_1))) (
 .seq (
 .reg none [
 ⟨some 43, none, .mov (.t 8)⟩,
 ⟨some 44, none, .bin .gtr (.t 43) (.c (.int .i64 0))⟩]) (
 .cond (.t 44) (
 .reg none [
 ⟨some 45, none, .mov (.t 6)⟩,
 ⟨some 46, none, .mov (.t 7)⟩,
 ⟨some 47, none, .mov (.t 6)⟩,
 ⟨some 48, none, .mov (.t 7)⟩,
 ⟨some 49, none, .iaddr 1 (.t 47) (.t 48)⟩,
 ⟨some 50, none, .load false 1 (.t 49)⟩,
 ⟨some 51, none, .bin .sub (.c (.int .i64 1)) (.t 50)⟩,
 ⟨some 52, none, .iaddr 1 (.t 45) (.t 46)⟩,
 ⟨none, none, .store 1 (.t 52) (.t 51)⟩]) (
 .skip)))))) (
 .reg none [
 ⟨some 19, none, .mov (.t 7)⟩,
 ⟨some 20, none, .bin .add (.t 19) (.c (.int .i64 1))⟩,
 ⟨some 7, none, .mov (.t 20)⟩]))
def b42_0 : ACode := .gh [.keep [2, 5, 6, 7]] (.gh [] l42_0)
def k42_1 : List AItem := .inLoop b42_1 :: [.inBlock 2,
 .code (.seq (
 .reg none [
 ⟨some 43, none, .mov (.t 8)⟩,
 ⟨some 44, none, .bin .gtr (.t 43) (.c (.int .i64 0))⟩]) (
 .cond (.t 44) (
 .reg none [
 ⟨some 45, none, .mov (.t 6)⟩,
 ⟨some 46, none, .mov (.t 7)⟩,
 ⟨some 47, none, .mov (.t 6)⟩,
 ⟨some 48, none, .mov (.t 7)⟩,
 ⟨some 49, none, .iaddr 1 (.t 47) (.t 48)⟩,
 ⟨some 50, none, .load false 1 (.t 49)⟩,
 ⟨some 51, none, .bin .sub (.c (.int .i64 1)) (.t 50)⟩,
 ⟨some 52, none, .iaddr 1 (.t 45) (.t 46)⟩,
 ⟨none, none, .store 1 (.t 52) (.t 51)⟩]) (
 .skip))),
 .inBlock 1,
 .code (.reg none [
 ⟨some 19, none, .mov (.t 7)⟩,
 ⟨some 20, none, .bin .add (.t 19) (.c (.int .i64 1))⟩,
 ⟨some 7, none, .mov (.t 20)⟩]),
 .inLoop b42_0,
 .inBlock 0,
 .code (.seq (
 .reg none [
 ⟨some 53, none, .mov (.t 6)⟩,
 ⟨some 4, none, .mov (.t 53)⟩]) (
 .ret))]
def k42_0 : List AItem := .inLoop b42_0 :: [.inBlock 0,
 .code (.seq (
 .reg none [
 ⟨some 53, none, .mov (.t 6)⟩,
 ⟨some 4, none, .mov (.t 53)⟩]) (
 .ret))]
def c42 : ACode :=
 .seq (
 .reg none [
 ⟨some 2, none, .box 42003 48 (.t 0)⟩,
 ⟨some 4, none, .mov (.c .nils)⟩]) (
 .seq (
 .reg none [
 ⟨some 10, none, .load true 2 (.t 2)⟩,
 ⟨some 11, none, .mov (.t 1)⟩,
 ⟨some 12, none, .ncall true 42013 41 [(.t 10), (.t 11)]⟩,
 ⟨some 5, none, .mov (.t 12)⟩]) (
 .seq (
 .reg none [
 ⟨some 13, none, .mov (.t 1)⟩,
 ⟨some 14, none, .ncall true 42015 20 [(.t 13)]⟩,
 ⟨some 6, none, .mov (.t 14)⟩]) (
 .seq (
 .seq (
 .reg none [
 ⟨some 7, none, .mov (.c (.int .i64 0))⟩]) (
 .block 0 (
 .loop b42_0))) (
 .seq (
 .reg none [
 ⟨some 53, none, .mov (.t 6)⟩,
 ⟨some 4, none, .mov (.t 53)⟩]) (
 .ret)))))
def a42 : AFunc := ⟨54, c42, [.tmp 4]⟩
/-! 43 cassegrain/cassegrainref05.ConvolutionErr params [24] nfree 0 ntmps 29 -/
def c43 : ACode :=
 .seq (
 .reg none [
 ⟨some 1, none, .box 43002 24 (.t 0)⟩,
 ⟨some 2, none, .mov (.c (.int .i64 0))⟩]) (
 .seq (
 .seq (
 .reg (some []) [
 ⟨some 3, none, .faddr 0 (.t 1)⟩,
 ⟨some 4, none, .load false 1 (.t 3)⟩,
 ⟨some 5, none, .ncall true 0 45 [(.t 4), (.c (.int .i64 1)), (.c (.int .i64 3))]⟩,
 ⟨some 6, none, .not (.t 5)⟩,
 ⟨some 7, none, .mov (.t 6)⟩,
 ⟨some 8, (some (7, false)), .faddr 1 (.t 1)⟩,
 ⟨some 9, (some (7, false)), .aaddr 2 1 (.t 8) (.c (.int .i64 0))⟩,
 ⟨some 10, (some (7, false)), .load false 1 (.t 9)⟩,
 ⟨some 11, (some (7, false)), .faddr 0 (.t 1)⟩,
 ⟨some 12, (some (7, false)), .load false 1 (.t 11)⟩,
 ⟨some 13, (some (7, false)), .bin .shl (.c (.int .i64 2)) (.t 12)⟩,
 ⟨some 14, (some (7, false)), .bin .sub (.t 13) (.c (.int .i64 1))⟩,
 ⟨some 15, (some (7, false)), .ncall true 0 45 [(.t 10), (.c (.int .i64 1)), (.t 14)]⟩,
 ⟨some 16, (some (7, false)), .not (.t 15)⟩,
 ⟨some 17, none, .pick (.t 7) (.c (.bool true)) (.t 16)⟩,
 ⟨some 18, none, .mov (.t 17)⟩,
 ⟨some 19, (some (18, false)), .faddr 1 (.t 1)⟩,
 ⟨some 20, (some (18, false)), .aaddr 2 1 (.t 19) (.c (.int .i64 1))⟩,
 ⟨some 21, (some (18, false)), .load false 1 (.t 20)⟩,
 ⟨some 22, (some (18, false)), .faddr 0 (.t 1)⟩,
 ⟨some 23, (some (18, false)), .load false 1 (.t 22)⟩,
 ⟨some 24, (some (18, false)), .bin .shl (.c (.int .i64 2)) (.t 23)⟩,
 ⟨some 25, (some (18, false)), .bin .sub (.t 24) (.c (.int .i64 1))⟩,
 ⟨some 26, (some (18, false)), .ncall true 0 45 [(.t 21), (.c (.int .i64 1)), (.t 25)]⟩,
 ⟨some 27, (some (18, false)), .not (.t 26)⟩,
 ⟨some 28, none, .pick (.t 18) (.c (.bool true)) (.t 27)⟩]) (
 .gh [.keep [28]] (
 .cond (.t 28) (
 .seq (
 .reg none [
 ⟨some 2, none, .mov (.c (.int .i64 2))⟩]) (
 .ret)) (
 .skip)))) (
 .seq (
 .reg none [
 ⟨some 2, none, .mov (.c (.int .i64 0))⟩]) (
 .ret)))
def a43 : AFunc := ⟨29, c43, [.tmp 2]⟩
/-! 44 cassegrain/cassegrainref05.BitsErr params [25] nfree 0 ntmps 8 -/
def c44 : ACode :=
 .seq (
 .reg none [
 ⟨some 2, none, .mov (.c (.int .i64 0))⟩]) (
 .seq (
 .seq (
 .reg none [
 ⟨some 3, none, .mov (.t 0)⟩,
 ⟨some 4, none, .len (.t 3)⟩,
 ⟨some 5, none, .bin .gtr (.t 4) (.c (.int .i64 300))⟩]) (
 .cond (.t 5) (
 .seq (
 .reg none [
 ⟨some 2, none, .mov (.c (.int .i64 8))⟩]) (
 .ret)) (
 .skip))) (
 .seq (
 .reg none [
 ⟨some 6, none, .mov (.t 0)⟩,
 ⟨some 7, none, .ncall true 0 117 [(.t 6)]⟩,
 ⟨some 2, none, .mov (.t 7)⟩]) (
 .ret)))
def a44 : AFunc := ⟨8, c44, [.tmp 2]⟩
/-! 45 cassegrain/cassegrainbase.Within params [3, 3, 3] nfree 0 ntmps 15 -/
def c45 : ACode :=
 .seq (
 .reg none [
 ⟨some 6, none, .mov (.c (.bool false))⟩]) (
 .seq (
 .reg none [
 ⟨some 7, none, .mov (.t 1)⟩,
 ⟨some 8, none, .mov (.t 0)⟩,
 ⟨some 9, none, .bin .leq (.t 7) (.t 8)⟩,
 ⟨some 10, none, .mov (.t 9)⟩,
 ⟨some 11, (some (10, true)), .mov (.t 0)⟩,
 ⟨some 12, (some (10, true)), .mov (.t 2)⟩,
 ⟨some 13, (some (10, true)), .bin .leq (.t 11) (.t 12)⟩,
 ⟨some 14, none, .pick (.t 10) (.t 13) (.c (.bool false))⟩,
 ⟨some 6, none, .mov (.t 14)⟩]) (
 .gh [.keep [6]] (
 .ret)))
def a45 : AFunc := ⟨15, c45, [.tmp 6]⟩
/-! 46 cassegrain/code.EncodeBits params [24, 25] nfree 0 ntmps 19 -/
def c46 : ACode :=
 .seq (
 .reg none [
 ⟨some 2, none, .box 46003 24 (.t 0)⟩,
 ⟨some 4, none, .mov (.c .nils)⟩,
 ⟨some 5, none, .mov (.c (.int .i64 0))⟩]) (
 .seq (
 .seq (
 .reg none [
 ⟨some 7, none, .load true 3 (.t 2)⟩,
 ⟨some 8, none, .ncall true 0 57 [(.t 7)]⟩,
 ⟨some 9, none, .mov (.t 1)⟩,
 ⟨some 10, none, .ncall true 0 118 [(.t 9)]⟩,
 ⟨some 11, none, .bslice 46012 27 1 [(.t 8), (.t 10)]⟩,
 ⟨some 12, none, .ncall true 0 105 [(.t 11)]⟩,
 ⟨some 6, none, .mov (.t 12)⟩]) (
 .gh [.keep [1, 2, 6]] (
 .seq (
 .reg none [
 ⟨some 13, none, .mov (.t 6)⟩,
 ⟨some 14, none, .bin .neq (.t 13) (.c (.int .i64 0))⟩]) (
 .cond (.t 14) (
 .seq (
 .reg none [
 ⟨some 15, none, .mov (.t 6)⟩,
 ⟨some 4, none, .mov (.c .nils)⟩,
 ⟨some 5, none, .mov (.t 15)⟩]) (
 .ret)) (
 .skip))))) (
 .seq (
 .reg none [
 ⟨some 16, none, .load true 3 (.t 2)⟩,
 ⟨some 17, none, .mov (.t 1)⟩,
 ⟨some 18, none, .ncall true 46019 119 [(.t 16), (.t 17)]⟩,
 ⟨some 4, none, .mov (.t 18)⟩,
 ⟨some 5, none, .mov (.c (.int .i64 0))⟩]) (
 .ret)))
def a46 : AFunc := ⟨19, c46, [.tmp 4, .tmp 5]⟩
/-! 47 cassegrain/code.FreeDistance params [24] nfree 0 ntmps 82 -/
def l47_2 : ACode :=
 .seq (
 .reg none [
 ⟨some 46, none, .bin .lss (.t 45) (.c (.int .i64 2))⟩]) (
 .seq (
 .cond (.t 46) (
 .skip) (
 .exit 4)) (
 .seq (
 .block 5 (
 .seq (
 .reg none [
 ⟨some 47, none, .mov (.t 45)⟩,
 ⟨some 12, none, .mov (.t 47)⟩]) (
 .seq (
 .reg none [
 ⟨some 49, none, .mov (.t 5)⟩,
 ⟨some 50, none, .mov (.t 11)⟩,
 ⟨some 51, none, .mov (.t 12)⟩,
 ⟨some 52, none, .icallv (.t 49) [(.t 50), (.t 51)]⟩,
 ⟨some 48, none, .mov (.t 52)⟩,
 ⟨some 53, none, .ext 0 (.t 48)⟩,
 ⟨some 54, none, .ext 1 (.t 48)⟩,
 ⟨some 13, none, .mov (.t 53)⟩,
 ⟨some 14, none, .mov (.t 54)⟩]) (
 .gh [.keep [5, 6, 7, 10, 11, 13, 14, 37, 38, 45]] (
 .seq (
 .seq (
 .reg none [
 ⟨some 55, none, .mov (.t 13)⟩,
 ⟨some 56, none, .bin .eql (.t 55) (.c (.int .i64 0))⟩]) (
 .cond (.t 56) (
 .seq (
 .reg none [
 ⟨some 57, none, .mov (.t 10)⟩,
 ⟨some 58, none, .mov (.t 7)⟩,
 ⟨some 59, none, .mov (.t 11)⟩,
 ⟨some 60, none, .iaddr 1 (.t 58) (.t 59)⟩,
 ⟨some 61, none, .load false 1 (.t 60)⟩,
 ⟨some 62, none, .mov (.t 14)⟩,
 ⟨some 63, none, .bin .add (.t 61) (.t 62)⟩,
 ⟨some 64, none, .mm false (.t 57) (.t 63)⟩,
 ⟨some 10, none, .mov (.t 64)⟩]) (
 .gh [.keep [5, 6, 7, 10, 11, 37, 38, 45]] (
 .exit 5))) (
 .skip))) (
 .reg (some []) [
 ⟨some 65, none, .mov (.t 7)⟩,
 ⟨some 66, none, .mov (.t 13)⟩,
 ⟨some 67, none, .mov (.t 7)⟩,
 ⟨some 68, none, .mov (.t 13)⟩,
 ⟨some 69, none, .iaddr 1 (.t 67) (.t 68)⟩,
 ⟨some 70, none, .load false 1 (.t 69)⟩,
 ⟨some 71, none, .mov (.t 7)⟩,
 ⟨some 72, none, .mov (.t 11)⟩,
 ⟨some 73, none, .iaddr 1 (.t 71) (.t 72)⟩,
 ⟨some 74, none, .load false 1 (.t 73)⟩,
 ⟨some 75, none, .mov (.t 14)⟩,
 ⟨some 76, none, .bin .add (.t 74) (.t 75)⟩,
 ⟨some 77, none, .mm false (.t 70) (.t 76)⟩,
 ⟨some 78, none, .iaddr 1 (.t 65) (.t 66)⟩,
 ⟨none, none, .store 1 (.t 78) (.t 77)⟩])))))) (
 .reg none [
 ⟨some 79, none, .bin .add (.t 45) (.c (.int .i64 1))⟩,
 ⟨some 45, none, .mov (.t 79)⟩])))
def b47_2 : ACode := .gh [.keep [5, 6, 7, 10, 11, 37, 38, 45]] (.gh [] l47_2)
def l47_1 : ACode :=
 .seq (
 .seq (
 .reg none [
 ⟨some 40, none, .mov (.t 11)⟩,
 ⟨some 41, none, .mov (.t 6)⟩,
 ⟨some 42, none, .bin .lss (.t 40) (.t 41)⟩]) (
 .cond (.t 42) (
 .skip) (
 .exit 2))) (
 .seq (
 .block 3 (
 .seq (
 .reg none [
 ⟨some 45, none, .mov (.c (.int .i64 0))⟩]) (
 .block 4 (
 .loop b47_2)))) (
 .reg none [
 ⟨some 43, none, .mov (.t 11)⟩,
 ⟨some 44, none, .bin .add (.t 43) (.c (.int .i64 1))⟩,
 ⟨some 11, none, .mov (.t 44)⟩]))
def b47_1 : ACode := .gh [.keep [5, 6, 7, 10, 11, 37, 38]] (.gh [] l47_1)
def l47_0 : ACode :=
 .seq (
 .reg none [
 ⟨some 39, none, .bin .lss (.t 38) (.t 37)⟩]) (
 .seq (
 .cond (.t 39) (
 .skip) (
 .exit 0)) (
 .seq (
 .block 1 (
 .seq (
 .reg none [
 ⟨some 11, none, .mov (.c (.int .i64 1))⟩]) (
 .block 2 (
 .loop b47_1)))) (
 .reg none [
 ⟨some 80, none, .bin .add (.t 38) (.c (.int .i64 1))⟩,
 ⟨some 38, none, .mov (.t 80)⟩])))
def b47_0 : ACode := .gh [.keep [5, 6, 7, 10, 37, 38]] (.gh [] l47_0)
def k47_2 : List AItem := .inLoop b47_2 :: [.inBlock 4,
 .inBlock 3,
 .code (.reg none [
 ⟨some 43, none, .mov (.t 11)⟩,
 ⟨some 44, none, .bin .add (.t 43) (.c (.int .i64 1))⟩,
 ⟨some 11, none, .mov (.t 44)⟩]),
 .inLoop b47_1,
 .inBlock 2,
 .inBlock 1,
 .code (.reg none [
 ⟨some 80, none, .bin .add (.t 38) (.c (.int .i64 1))⟩,
 ⟨some 38, none, .mov (.t 80)⟩]),
 .inLoop b47_0,
 .inBlock 0,
 .code (.seq (
 .reg none [
 ⟨some 81, none, .mov (.t 10)⟩,
 ⟨some 2, none, .mov (.t 81)⟩,
 ⟨some 3, none, .mov (.c (.int .i64 0))⟩]) (
 .ret))]
def k47_1 : List AItem := .inLoop b47_1 :: [.inBlock 2,
 .inBlock 1,
 .code (.reg none [
 ⟨some 80, none, .bin .add (.t 38) (.c (.int .i64 1))⟩,
 ⟨some 38, none, .mov (.t 80)⟩]),
 .inLoop b47_0,
 .inBlock 0,
 .code (.seq (
 .reg none [
 ⟨some 81, none, .mov (.t 10)⟩,
 ⟨some 2, none, .mov (.t 81)⟩,
 ⟨some 3, none, .mov (.c (.int .i64 0))⟩]) (
 .ret))]
def k47_0 : List AItem := .inLoop b47_0 :: [.inBlock 0,
 .code (.seq (
 .reg none [
 ⟨some 81, none, .mov (.t 10)⟩,
 ⟨some 2, none, .mov (.t 81)⟩,
 ⟨some 3, none, .mov (.c (.int .i64 0))⟩]) (
 .ret))]
def c47 : ACode :=
 .seq (
 .reg none [
 ⟨some 1, none, .box 47002 24 (.t 0)⟩,
 ⟨some 2, none, .mov (.c (.int .i64 0))⟩,
 ⟨some 3, none, .mov (.c (.int .i64 0))⟩]) (
 .seq (
 .seq (
 .reg none [
 ⟨some 15, none, .load true 3 (.t 1)⟩,
 ⟨some 16, none, .ncall true 0 57 [(.t 15)]⟩,
 ⟨some 4, none, .mov (.t 16)⟩]) (
 .seq (
 .reg none [
 ⟨some 17, none, .mov (.t 4)⟩,
 ⟨some 18, none, .bin .neq (.t 17) (.c (.int .i64 0))⟩]) (
 .cond (.t 18) (
 .seq (
 .reg none [
 ⟨some 19, none, .mov (.t 4)⟩,
 ⟨some 2, none, .mov (.c (.int .i64 0))⟩,
 ⟨some 3, none, .mov (.t 19)⟩]) (
 .ret)) (
 .skip)))) (
 .seq (
 .reg none [
 ⟨some 20, none, .mkfn 120 [(.t 1)]⟩,
 ⟨some 5, none, .mov (.t 20)⟩]) (
 .seq (
 .reg none [
 ⟨some 21, none, .faddr 0 (.t 1)⟩,
 ⟨some 22, none, .load false 1 (.t 21)⟩,
 ⟨some 23, none, .bin .shl (.c (.int .i64 1)) (.t 22)⟩,
 ⟨some 6, none, .mov (.t 23)⟩]) (
 .seq (
 .reg none [
 ⟨some 24, none, .bslice 47025 3 1 [(.c (.int .i64 100000))]⟩,
 ⟨some 25, none, .mov (.t 6)⟩,
 ⟨some 26, none, .ncall true 47027 122 [(.t 24), (.t 25)]⟩,
 ⟨some 7, none, .mov (.t 26)⟩]) (
 .seq (
 .reg none [
 ⟨some 28, none, .mov (.t 5)⟩,
 ⟨some 29, none, .icallv (.t 28) [(.c (.int .i64 0)), (.c (.int .i64 1))]⟩,
 ⟨some 27, none, .mov (.t 29)⟩,
 ⟨some 30, none, .ext 0 (.t 27)⟩,
 ⟨some 31, none, .ext 1 (.t 27)⟩,
 ⟨some 8, none, .mov (.t 30)⟩,
 ⟨some 9, none, .mov (.t 31)⟩]) (
 .seq (
 .reg none [
 ⟨some 32, none, .mov (.t 7)⟩,
 ⟨some 33, none, .mov (.t 8)⟩,
 ⟨some 34, none, .mov (.t 9)⟩,
 ⟨some 35, none, .iaddr 1 (.t 32) (.t 33)⟩,
 ⟨none, none, .store 1 (.t 35) (.t 34)⟩]) (
 .seq (
 .reg none [
 ⟨some 10, none, .mov (.c (.int .i64 100000))⟩]) (
 .seq (
 .seq (
 .reg none [
 ⟨some 36, none, .mov (.t 6)⟩,
 ⟨some 37, none, .bin .add (.t 36) (.c (.int .i64 1))⟩,
 ⟨some 38, none, .mov (.c (.int .i64 0))⟩]) (
 .block 0 (
 .loop b47_0))) (
 .seq (
 .reg none [
 ⟨some 81, none, .mov (.t 10)⟩,
 ⟨some 2, none, .mov (.t 81)⟩,
 ⟨some 3, none, .mov (.c (.int .i64 0))⟩]) (
 .ret))))))))))
def a47 : AFunc := ⟨82, c47, [.tmp 2, .tmp 3]⟩
/-! 48 cassegrain/cassegrainbase.AreBits params [25] nfree 0 ntmps 22 -/
def l48_0 : ACode :=
 .seq (
 .seq (
 .reg none [
 ⟨some 4, none, .mov (.t 3)⟩,
 ⟨some 5, none, .mov (.t 0)⟩,
 ⟨some 6, none, .len (.t 5)⟩,
 ⟨some 7, none, .bin .lss (.t 4) (.t 6)⟩]) (
 .cond (.t 7) (
 .skip) (
 .exit 0))) (
 .seq (
 .block 1 (
 .seq (
 .reg none [
 ⟨some 10, none, .mov (.t 0)⟩,
 ⟨some 11, none, .mov (.t 3)⟩,
 ⟨some 12, none, .iaddr 1 (.t 10) (.t 11)⟩,
 ⟨some 13, none, .load false 1 (.t 12)⟩,
 ⟨some 14, none, .bin .neq (.t 13) (.c (.int .i64 0))⟩,
 ⟨some 15, none, .mov (.t 14)⟩,
 ⟨some 16, (some (15, true)), .mov (.t 0)⟩,
 ⟨some 17, (some (15, true)), .mov (.t 3)⟩,
 ⟨some 18, (some (15, true)), .iaddr 1 (.t 16) (.t 17)⟩,
 ⟨some 19, (some (15, true)), .load false 1 (.t 18)⟩,
 ⟨some 20, (some (15, true)), .bin .neq (.t 19) (.c (.int .i64 1))⟩,
 ⟨some 21, none, .pick (.t 15) (.t 20) (.c (.bool false))⟩]) (
 .gh [.keep [0, 3, 21]] (
 .cond (.t 21) (
 .seq (
 .reg none [
 ⟨some 2, none, .mov (.c (.bool false))⟩]) (
 .ret)) (
 .skip))))) (
 .reg none [
 ⟨some 8, none, .mov (.t 3)⟩,
 ⟨some 9, none, .bin .add (.t 8) (.c (.int .i64 1))⟩,
 ⟨some 3, none, .mov (.t 9)⟩]))
def b48_0 : ACode := .gh [.keep [0, 3]] (.gh [] l48_0)
def k48_0 : List AItem := .inLoop b48_0 :: [.inBlock 0,
 .code (.seq (
 .reg none [
 ⟨some 2, none, .mov (.c (.bool true))⟩]) (
 .ret))]
def c48 : ACode :=
 .seq (
 .reg none [
 ⟨some 2, none, .mov (.c (.bool false))⟩]) (
 .seq (
 .seq (
 .reg none [
 ⟨some 3, none, .mov (.c (.int .i64 0))⟩]) (
 .block 0 (
 .loop b48_0))) (
 .seq (
 .reg none [
 ⟨some 2, none, .mov (.c (.bool true))⟩]) (
 .ret)))
def a48 : AFunc := ⟨22, c48, [.tmp 2]⟩
/-! 49 cassegrain/cassegrainbase.Has params [25, 3] nfree 0 ntmps 18 -/
def l49_0 : ACode :=
 .seq (
 .seq (
 .reg none [
 ⟨some 6, none, .mov (.t 5)⟩,
 ⟨some 7, none, .mov (.t 0)⟩,
 ⟨some 8, none, .len (.t 7)⟩,
 ⟨some 9, none, .bin .lss (.t 6) (.t 8)⟩]) (
 .cond (.t 9) (
 .skip) (
 .exit 0))) (
 .seq (
 .block 1 (
 .seq (
 .reg none [
 ⟨some 12, none, .mov (.t 0)⟩,
 ⟨some 13, none, .mov (.t 5)⟩,
 ⟨some 14, none, .iaddr 1 (.t 12) (.t 13)⟩,
 ⟨some 15, none, .load false 1 (.t 14)⟩,
 ⟨some 16, none, .mov (.t 1)⟩,
 ⟨some 17, none, .bin .eql (.t 15) (.t 16)⟩]) (
 .cond (.t 17) (
 .seq (
 .reg none [
 ⟨some 4, none, .mov (.c (.bool true))⟩]) (
 .ret)) (
 .skip)))) (
 .reg none [
 ⟨some 10, none, .mov (.t 5)⟩,
 ⟨some 11, none, .bin .add (.t 10) (.c (.int .i64 1))⟩,
 ⟨some 5, none, .mov (.t 11)⟩]))
def b49_0 : ACode := .gh [.keep [0, 1, 5]] (.gh [] l49_0)
def k49_0 : List AItem := .inLoop b49_0 :: [.inBlock 0,
 .code (.seq (
 .reg none [
 ⟨some 4, none, .mov (.c (.bool false))⟩]) (
 .ret))]
def c49 : ACode :=
 .seq (
 .reg none [
 ⟨some 4, none, .mov (.c (.bool false))⟩]) (
 .seq (
 .seq (
 .reg none [
 ⟨some 5, none, .mov (.c (.int .i64 0))⟩]) (
 .block 0 (
 .loop b49_0))) (
 .seq (
 .reg none [
 ⟨some 4, none, .mov (.c (.bool false))⟩]) (
 .ret)))
def a49 : AFunc := ⟨18, c49, [.tmp 4]⟩
/-! 50 cassegrain/cassegrainlaw05.few params [3, 3] nfree 0 ntmps 18 -/
def c50 : ACode :=
 .seq (
 .reg none [
 ⟨some 4, none, .mov (.c (.bool false))⟩]) (
 .seq (
 .reg none [
 ⟨some 5, none, .mov (.t 0)⟩,
 ⟨some 6, none, .bin .leq (.t 5) (.c (.int .i64 24))⟩,
 ⟨some 7, none, .mov (.t 6)⟩,
 ⟨some 8, (some (7, false)), .mov (.t 0)⟩,
 ⟨some 9, (some (7, false)), .mov (.t 1)⟩,
 ⟨some 10, (some (7, false)), .bin .gtr (.t 8) (.t 9)⟩,
 ⟨some 11, (some (7, false)), .mov (.t 10)⟩,
 ⟨some 12, (some (11, true)), .mov (.t 0)⟩,
 ⟨some 13, (some (11, true)), .mov (.t 1)⟩,
 ⟨some 14, (some (11, true)), .bin .add (.t 13) (.c (.int .i64 2))⟩,
 ⟨some 15, (some (11, true)), .bin .leq (.t 12) (.t 14)⟩,
 ⟨some 16, (some (7, false)), .pick (.t 11) (.t 15) (.c (.bool false))⟩,
 ⟨some 17, none, .pick (.t 7) (.c (.bool true)) (.t 16)⟩,
 ⟨some 4, none, .mov (.t 17)⟩]) (
 .gh [.keep [4]] (
 .ret)))
def a50 : AFunc := ⟨18, c50, [.tmp 4]⟩
/-! 53 cassegrain/cassegrainref05.ListErr params [25, 3] nfree 0 ntmps 16 -/
def c53 : ACode :=
 .seq (
 .reg none [
 ⟨some 4, none, .mov (.c (.int .i64 0))⟩]) (
 .seq (
 .seq (
 .reg none [
 ⟨some 5, none, .mov (.t 0)⟩,
 ⟨some 6, none, .len (.t 5)⟩,
 ⟨some 7, none, .bin .gtr (.t 6) (.c (.int .i64 400))⟩]) (
 .cond (.t 7) (
 .seq (
 .reg none [
 ⟨some 4, none, .mov (.c (.int .i64 8))⟩]) (
 .ret)) (
 .skip))) (
 .seq (
 .seq (
 .reg none [
 ⟨some 8, none, .mov (.t 1)⟩,
 ⟨some 9, none, .ncall true 0 45 [(.t 8), (.c (.int .i64 1)), (.c (.int .i64 400))]⟩,
 ⟨some 10, none, .not (.t 9)⟩]) (
 .cond (.t 10) (
 .seq (
 .reg none [
 ⟨some 4, none, .mov (.c (.int .i64 2))⟩]) (
 .ret)) (
 .skip))) (
 .seq (
 .seq (
 .reg none [
 ⟨some 11, none, .mov (.t 0)⟩,
 ⟨some 12, none, .len (.t 11)⟩,
 ⟨some 13, none, .mov (.t 1)⟩,
 ⟨some 14, none, .bin .rem (.t 12) (.t 13)⟩,
 ⟨some 15, none, .bin .neq (.t 14) (.c (.int .i64 0))⟩]) (
 .cond (.t 15) (
 .seq (
 .reg none [
 ⟨some 4, none, .mov (.c (.int .i64 10))⟩]) (
 .ret)) (
 .skip))) (
 .seq (
 .reg none [
 ⟨some 4, none, .mov (.c (.int .i64 0))⟩]) (
 .ret)))))
def a53 : AFunc := ⟨16, c53, [.tmp 4]⟩
/-! 54 cassegrain/cassegrainref05.Interleaved params [25, 3] nfree 0 ntmps 35 -/
def l54_1 : ACode :=
 .seq (
 .seq (
 .reg none [
 ⟨some 18, none, .mov (.t 8)⟩,
 ⟨some 19, none, .mov (.t 1)⟩,
 ⟨some 20, none, .bin .lss (.t 18) (.t 19)⟩]) (
 .cond (.t 20) (
 .skip) (
 .exit 2))) (
 .seq (
 .block 3 (
 .reg none [
 ⟨some 23, none, .mov (.t 6)⟩,
 ⟨some 24, none, .mov (.t 0)⟩,
 ⟨some 25, none, .mov (.t 8)⟩,
 ⟨some 26, none, .mov (.t 5)⟩,
 ⟨some 27, none, .bin .mul (.t 25) (.t 26)⟩,
 ⟨some 28, none, .mov (.t 7)⟩,
 ⟨some 29, none, .bin .add (.t 27) (.t 28)⟩,
 ⟨some 30, none, .iaddr 1 (.t 24) (.t 29)⟩,
 ⟨some 31, none, .load false 1 (.t 30)⟩,
 ⟨some 32, none, .bslice 54033 3 1 [(.t 31)]⟩,
 ⟨some 33, none, .append 54034 3 1 (.t 23) (.t 32)⟩,
 ⟨some 6, none, .mov (.t 33)⟩])) (
 .reg none [
 ⟨some 21, none, .mov (.t 8)⟩,
 ⟨some 22, none, .bin .add (.t 21) (.c (.int .i64 1))⟩,
 ⟨some 8, none, .mov (.t 22)⟩]))
def b54_1 : ACode := .gh [.keep [0, 1, 5, 6, 7, 8]] (.gh [] l54_1)
def l54_0 : ACode :=
 .seq (
 .seq (
 .reg none [
 ⟨some 13, none, .mov (.t 7)⟩,
 ⟨some 14, none, .mov (.t 5)⟩,
 ⟨some 15, none, .bin .lss (.t 13) (.t 14)⟩]) (
 .cond (.t 15) (
 .skip) (
 .exit 0))) (
 .seq (
 .block 1 (
 .seq (
 .reg none [
 ⟨some 8, none, .mov (.c (.int .i64 0))⟩]) (
 .block 2 (
 .loop b54_1)))) (
 .reg none [
 ⟨some 16, none, .mov (.t 7)⟩,
 ⟨some 17, none, .bin .add (.t 16) (.c (.int .i64 1))⟩,
 ⟨some 7, none, .mov (.t 17)⟩]))
def b54_0 : ACode := .gh [.keep [0, 1, 5, 6, 7]] (.gh [] l54_0)
def k54_1 : List AItem := .inLoop b54_1 :: [.inBlock 2,
 .inBlock 1,
 .code (.reg none [
 ⟨some 16, none, .mov (.t 7)⟩,
 ⟨some 17, none, .bin .add (.t 16) (.c (.int .i64 1))⟩,
 ⟨some 7, none, .mov (.t 17)⟩]),
 .inLoop b54_0,
 .inBlock 0,
 .code (.seq (
 .reg none [
 ⟨some 34, none, .mov (.t 6)⟩,
 ⟨some 4, none, .mov (.t 34)⟩]) (
 .ret))]
def k54_0 : List AItem := .inLoop b54_0 :: [.inBlock 0,
 .code (.seq (
 .reg none [
 ⟨some 34, none, .mov (.t 6)⟩,
 ⟨some 4, none, .mov (.t 34)⟩]) (
 .ret))]
def c54 : ACode :=
 .seq (
 .reg none [
 ⟨some 4, none, .mov (.c .nils)⟩]) (
 .seq (
 .reg none [
 ⟨some 9, none, .mov (.t 0)⟩,
 ⟨some 10, none, .len (.t 9)⟩,
 ⟨some 11, none, .mov (.t 1)⟩,
 ⟨some 12, none, .bin .quo (.t 10) (.t 11)⟩,
 ⟨some 5, none, .mov (.t 12)⟩]) (
 .seq (
 .reg none [
 ⟨some 6, none, .mov (.c .nils)⟩]) (
 .seq (
 .seq (
 .reg none [
 ⟨some 7, none, .mov (.c (.int .i64 0))⟩]) (
 .block 0 (
 .loop b54_0))) (
 .seq (
 .reg none [
 ⟨some 34, none, .mov (.t 6)⟩,
 ⟨some 4, none, .mov (.t 34)⟩]) (
 .ret)))))
def a54 : AFunc := ⟨35, c54, [.tmp 4]⟩
/-! 55 cassegrain/cassegrainref05.Deinterleaved params [25, 3] nfree 0 ntmps 42 -/
def l55_1 : ACode :=
 .seq (
 .seq (
 .reg none [
 ⟨some 21, none, .mov (.t 8)⟩,
 ⟨some 22, none, .mov (.t 5)⟩,
 ⟨some 23, none, .bin .lss (.t 21) (.t 22)⟩]) (
 .cond (.t 23) (
 .skip) (
 .exit 2))) (
 .seq (
 .block 3 (
 .reg none [
 ⟨some 26, none, .mov (.t 6)⟩,
 ⟨some 27, none, .mov (.t 7)⟩,
 ⟨some 28, none, .mov (.t 5)⟩,
 ⟨some 29, none, .bin .mul (.t 27) (.t 28)⟩,
 ⟨some 30, none, .mov (.t 8)⟩,
 ⟨some 31, none, .bin .add (.t 29) (.t 30)⟩,
 ⟨some 32, none, .mov (.t 0)⟩,
 ⟨some 33, none, .mov (.t 8)⟩,
 ⟨some 34, none, .mov (.t 1)⟩,
 ⟨some 35, none, .bin .mul (.t 33) (.t 34)⟩,
 ⟨some 36, none, .mov (.t 7)⟩,
 ⟨some 37, none, .bin .add (.t 35) (.t 36)⟩,
 ⟨some 38, none, .iaddr 1 (.t 32) (.t 37)⟩,
 ⟨some 39, none, .load false 1 (.t 38)⟩,
 ⟨some 40, none, .iaddr 1 (.t 26) (.t 31)⟩,
 ⟨none, none, .store 1 (.t 40) (.t 39)⟩])) (
 .reg none [
 ⟨some 24, none, .mov (.t 8)⟩,
 ⟨some 25, none, .bin .add (.t 24) (.c (.int .i64 1))⟩,
 ⟨some 8, none, .mov (.t 25)⟩]))
def b55_1 : ACode := .gh [.keep [0, 1, 5, 6, 7, 8]] (.gh [] l55_1)
def l55_0 : ACode :=
 .seq (
 .seq (
 .reg none [
 ⟨some 16, none, .mov (.t 7)⟩,
 ⟨some 17, none, .mov (.t 1)⟩,
 ⟨some 18, none, .bin .lss (.t 16) (.t 17)⟩]) (
 .cond (.t 18) (
 .skip) (
 .exit 0))) (
 .seq (
 .block 1 (
 .seq (
 .reg none [
 ⟨some 8, none, .mov (.c (.int .i64 0))⟩]) (
 .block 2 (
 .loop b55_1)))) (
 .reg none [
 ⟨some 19, none, .mov (.t 7)⟩,
 ⟨some 20, none, .bin .add (.t 19) (.c (.int .i64 1))⟩,
 ⟨some 7, none, .mov (.t 20)⟩]))
def b55_0 : ACode := .gh [.keep [0, 1, 5, 6, 7]] (.gh [] l55_0)
def k55_1 : List AItem := .inLoop b55_1 :: [.inBlock 2,
 .inBlock 1,
 .code (.reg none [
 ⟨some 19, none, .mov (.t 7)⟩,
 ⟨some 20, none, .bin .add (.t 19) (.c (.int .i64 1))⟩,
 ⟨some 7, none, .mov (.t 20)⟩]),
 .inLoop b55_0,
 .inBlock 0,
 .code (.seq (
 .reg none [
 ⟨some 41, none, .mov (.t 6)⟩,
 ⟨some 4, none, .mov (.t 41)⟩]) (
 .ret))]
def k55_0 : List AItem := .inLoop b55_0 :: [.inBlock 0,
 .code (.seq (
 .reg none [
 ⟨some 41, none, .mov (.t 6)⟩,
 ⟨some 4, none, .mov (.t 41)⟩]) (
 .ret))]
def c55 : ACode :=
 .seq (
 .reg none [
 ⟨some 4, none, .mov (.c .nils)⟩]) (
 .seq (
 .reg none [
 ⟨some 9, none, .mov (.t 0)⟩,
 ⟨some 10, none, .len (.t 9)⟩,
 ⟨some 11, none, .mov (.t 1)⟩,
 ⟨some 12, none, .bin .quo (.t 10) (.t 11)⟩,
 ⟨some 5, none, .mov (.t 12)⟩]) (
 .seq (
 .reg none [
 ⟨some 13, none, .mov (.t 0)⟩,
 ⟨some 14, none, .len (.t 13)⟩,
 ⟨some 15, none, .mkslice 55016 3 1 (.int .i64 0) (.t 14)⟩,
 ⟨some 6, none, .mov (.t 15)⟩]) (
 .seq (
 .seq (
 .reg none [
 ⟨some 7, none, .mov (.c (.int .i64 0))⟩]) (
 .block 0 (
 .loop b55_0))) (
 .seq (
 .reg none [
 ⟨some 41, none, .mov (.t 6)⟩,
 ⟨some 4, none, .mov (.t 41)⟩]) (
 .ret)))))
def a55 : AFunc := ⟨42, c55, [.tmp 4]⟩
/-! 56 cassegrain/code.MetricOf params [24, 25, 25] nfree 0 ntmps 53 -/
def l56_0 : ACode :=
 .seq (
 .reg none [
 ⟨some 39, none, .bin .lss (.t 38) (.t 37)⟩]) (
 .seq (
 .cond (.t 39) (
 .skip) (
 .exit 0)) (
 .seq (
 .block 1 (
 .seq (
 .reg none [
 ⟨some 40, none, .mov (.t 38)⟩,
 ⟨some 41, none, .iaddr 1 (.t 36) (.t 38)⟩,
 ⟨some 42, none, .load false 1 (.t 41)⟩,
 ⟨some 10, none, .mov (.t 40)⟩,
 ⟨some 11, none, .mov (.t 42)⟩]) (
 .reg none [
 ⟨some 43, none, .mov (.t 9)⟩,
 ⟨some 44, none, .mov (.t 11)⟩,
 ⟨some 45, none, .mov (.t 2)⟩,
 ⟨some 46, none, .mov (.t 10)⟩,
 ⟨some 47, none, .iaddr 1 (.t 45) (.t 46)⟩,
 ⟨some 48, none, .load false 1 (.t 47)⟩,
 ⟨some 49, none, .ncall true 0 125 [(.t 44), (.t 48)]⟩,
 ⟨some 50, none, .bin .add (.t 43) (.t 49)⟩,
 ⟨some 9, none, .mov (.t 50)⟩]))) (
 .reg none [
 ⟨some 51, none, .bin .add (.t 38) (.c (.int .i64 1))⟩,
 ⟨some 38, none, .mov (.t 51)⟩])))
def b56_0 : ACode := .gh [.keep [2, 9, 36, 37, 38]] (.gh [] l56_0)
def k56_0 : List AItem := .inLoop b56_0 :: [.inBlock 0,
 .code (.seq (
 .reg none [
 ⟨some 52, none, .mov (.t 9)⟩,
 ⟨some 6, none, .mov (.t 52)⟩,
 ⟨some 7, none, .mov (.c (.int .i64 0))⟩]) (
 .ret))]
def c56 : ACode :=
 .seq (
 .reg none [
 ⟨some 3, none, .box 56004 24 (.t 0)⟩,
 ⟨some 6, none, .mov (.c (.int .i64 0))⟩,
 ⟨some 7, none, .mov (.c (.int .i64 0))⟩]) (
 .seq (
 .seq (
 .reg (some []) [
 ⟨some 12, none, .load true 3 (.t 3)⟩,
 ⟨some 13, none, .ncall true 0 57 [(.t 12)]⟩,
 ⟨some 14, none, .mov (.t 1)⟩,
 ⟨some 15, none, .ncall true 0 118 [(.t 14)]⟩,
 ⟨some 16, none, .load true 3 (.t 3)⟩,
 ⟨some 17, none, .mov (.t 2)⟩,
 ⟨some 18, none, .ncall true 0 98 [(.t 16), (.t 17)]⟩,
 ⟨some 19, none, .mov (.t 2)⟩,
 ⟨some 20, none, .len (.t 19)⟩,
 ⟨some 21, none, .mov (.t 1)⟩,
 ⟨some 22, none, .len (.t 21)⟩,
 ⟨some 23, none, .faddr 0 (.t 3)⟩,
 ⟨some 24, none, .load false 1 (.t 23)⟩,
 ⟨some 25, none, .binw .add (.t 22) (.t 24)⟩,
 ⟨some 26, none, .binw .mul (.c (.int .i64 2)) (.t 25)⟩,
 ⟨some 27, none, .bin .eql (.t 20) (.t 26)⟩,
 ⟨some 28, none, .ncall true 0 111 [(.t 27), (.c (.int .i64 13))]⟩,
 ⟨some 29, none, .bslice 56030 27 1 [(.t 13), (.t 15), (.t 18), (.t 28)]⟩,
 ⟨some 30, none, .ncall true 0 105 [(.t 29)]⟩,
 ⟨some 8, none, .mov (.t 30)⟩]) (
 .gh [.keep [1, 2, 3, 8]] (
 .seq (
 .reg none [
 ⟨some 31, none, .mov (.t 8)⟩,
 ⟨some 32, none, .bin .neq (.t 31) (.c (.int .i64 0))⟩]) (
 .cond (.t 32) (
 .seq (
 .reg none [
 ⟨some 33, none, .mov (.t 8)⟩,
 ⟨some 6, none, .mov (.c (.int .i64 0))⟩,
 ⟨some 7, none, .mov (.t 33)⟩]) (
 .ret)) (
 .skip))))) (
 .seq (
 .reg none [
 ⟨some 9, none, .mov (.c (.int .i64 0))⟩]) (
 .seq (
 .seq (
 .reg none [
 ⟨some 34, none, .load true 3 (.t 3)⟩,
 ⟨some 35, none, .mov (.t 1)⟩,
 ⟨some 36, none, .ncall true 56037 119 [(.t 34), (.t 35)]⟩,
 ⟨some 37, none, .len (.t 36)⟩,
 ⟨some 38, none, .mov (.c (.int .i64 0))⟩]) (
 .block 0 (
 .loop b56_0))) (
 .seq (
 .reg none [
 ⟨some 52, none, .mov (.t 9)⟩,
 ⟨some 6, none, .mov (.t 52)⟩,
 ⟨some 7, none, .mov (.c (.int .i64 0))⟩]) (
 .ret)))))
def a56 : AFunc := ⟨53, c56, [.tmp 6, .tmp 7]⟩
/-! 57 cassegrain/code.CheckConvolution params [24] nfree 0 ntmps 15 -/
def c57 : ACode :=
 .seq (
 .reg none [
 ⟨some 1, none, .box 57002 24 (.t 0)⟩,
 ⟨some 2, none, .mov (.c (.int .i64 0))⟩]) (
 .seq (
 .seq (
 .reg none [
 ⟨some 3, none, .faddr 0 (.t 1)⟩,
 ⟨some 4, none, .load false 1 (.t 3)⟩,
 ⟨some 5, none, .ncall true 0 112 [(.t 4), (.c (.int .i64 1)), (.c (.int .i64 3))]⟩,
 ⟨some 6, none, .not (.t 5)⟩]) (
 .cond (.t 6) (
 .seq (
 .reg none [
 ⟨some 2, none, .mov (.c (.int .i64 2))⟩]) (
 .ret)) (
 .skip))) (
 .seq (
 .reg (some []) [
 ⟨some 7, none, .faddr 1 (.t 1)⟩,
 ⟨some 8, none, .asl 2 (.t 7) none none⟩,
 ⟨some 9, none, .faddr 0 (.t 1)⟩,
 ⟨some 10, none, .load false 1 (.t 9)⟩,
 ⟨some 11, none, .bin .add (.t 10) (.c (.int .i64 1))⟩,
 ⟨some 12, none, .bin .shl (.c (.int .i64 1)) (.t 11)⟩,
 ⟨some 13, none, .bin .sub (.t 12) (.c (.int .i64 1))⟩,
 ⟨some 14, none, .ncall true 0 103 [(.t 8), (.c (.int .i64 1)), (.t 13)]⟩,
 ⟨some 2, none, .mov (.t 14)⟩]) (
 .gh [.keep [2]] (
 .ret))))
def a57 : AFunc := ⟨15, c57, [.tmp 2]⟩
/-! 58 cassegrain/cassegrainref05.FreeDistance params [24] nfree 0 ntmps 79 -/
def l58_2 : ACode :=
 .seq (
 .seq (
 .reg none [
 ⟨some 45, none, .mov (.t 9)⟩,
 ⟨some 46, none, .bin .lss (.t 45) (.c (.int .i64 2))⟩]) (
 .cond (.t 46) (
 .skip) (
 .exit 6))) (
 .seq (
 .block 7 (
 .seq (
 .reg none [
 ⟨some 50, none, .load true 3 (.t 1)⟩,
 ⟨some 51, none, .mov (.t 8)⟩,
 ⟨some 52, none, .mov (.t 9)⟩,
 ⟨some 53, none, .ncall true 0 101 [(.t 50), (.t 51), (.t 52)]⟩,
 ⟨some 49, none, .mov (.t 53)⟩,
 ⟨some 54, none, .ext 0 (.t 49)⟩,
 ⟨some 55, none, .ext 1 (.t 49)⟩,
 ⟨some 11, none, .alloc 58012 22 (.agg (.ints .i64 [0, 0]))⟩,
 ⟨some 10, none, .mov (.t 54)⟩,
 ⟨none, none, .store 2 (.t 11) (.t 55)⟩]) (
 .gh [.keep [1, 3, 7, 8, 9, 10, 11]] (
 .seq (
 .reg (some []) [
 ⟨some 56, none, .mov (.t 3)⟩,
 ⟨some 57, none, .mov (.t 8)⟩,
 ⟨some 58, none, .iaddr 1 (.t 56) (.t 57)⟩,
 ⟨some 59, none, .load false 1 (.t 58)⟩,
 ⟨some 60, none, .aaddr 2 1 (.t 11) (.c (.int .i64 0))⟩,
 ⟨some 61, none, .load false 1 (.t 60)⟩,
 ⟨some 62, none, .bin .add (.t 59) (.t 61)⟩,
 ⟨some 63, none, .aaddr 2 1 (.t 11) (.c (.int .i64 1))⟩,
 ⟨some 64, none, .load false 1 (.t 63)⟩,
 ⟨some 65, none, .bin .add (.t 62) (.t 64)⟩,
 ⟨some 12, none, .mov (.t 65)⟩]) (
 .gh [.keep [1, 3, 7, 8, 9, 10, 12]] (
 .seq (
 .reg none [
 ⟨some 66, none, .mov (.t 12)⟩,
 ⟨some 67, none, .mov (.t 3)⟩,
 ⟨some 68, none, .mov (.t 10)⟩,
 ⟨some 69, none, .iaddr 1 (.t 67) (.t 68)⟩,
 ⟨some 70, none, .load false 1 (.t 69)⟩,
 ⟨some 71, none, .bin .lss (.t 66) (.t 70)⟩]) (
 .cond (.t 71) (
 .reg none [
 ⟨some 72, none, .mov (.t 3)⟩,
 ⟨some 73, none, .mov (.t 10)⟩,
 ⟨some 74, none, .mov (.t 12)⟩,
 ⟨some 75, none, .iaddr 1 (.t 72) (.t 73)⟩,
 ⟨none, none, .store 1 (.t 75) (.t 74)⟩,
 ⟨some 7, none, .mov (.c (.bool true))⟩]) (
 .skip)))))))) (
 .reg none [
 ⟨some 47, none, .mov (.t 9)⟩,
 ⟨some 48, none, .bin .add (.t 47) (.c (.int .i64 1))⟩,
 ⟨some 9, none, .mov (.t 48)⟩]))
def b58_2 : ACode := .gh [.keep [1, 3, 7, 8, 9]] (.gh [] l58_2)
def l58_1 : ACode :=
 .seq (
 .seq (
 .reg none [
 ⟨some 39, none, .mov (.t 8)⟩,
 ⟨some 40, none, .load true 3 (.t 1)⟩,
 ⟨some 41, none, .ncall true 0 100 [(.t 40)]⟩,
 ⟨some 42, none, .bin .lss (.t 39) (.t 41)⟩]) (
 .cond (.t 42) (
 .skip) (
 .exit 4))) (
 .seq (
 .block 5 (
 .seq (
 .reg none [
 ⟨some 9, none, .mov (.c (.int .i64 0))⟩]) (
 .block 6 (
 .loop b58_2)))) (
 .reg none [
 ⟨some 43, none, .mov (.t 8)⟩,
 ⟨some 44, none, .bin .add (.t 43) (.c (.int .i64 1))⟩,
 ⟨some 8, none, .mov (.t 44)⟩]))
def b58_1 : ACode := .gh [.keep [1, 3, 7, 8]] (.gh [] l58_1)
def l58_0 : ACode :=
 .seq (
 .seq (
 .reg none [
 ⟨some 38, none, .mov (.t 7)⟩]) (
 .cond (.t 38) (
 .skip) (
 .exit 2))) (
 .block 3 (
 .seq (
 .reg none [
 ⟨some 7, none, .mov (.c (.bool false))⟩]) (
 .seq (
 .reg none [
 ⟨some 8, none, .mov (.c (.int .i64 1))⟩]) (
 .block 4 (
 .loop b58_1)))))
def b58_0 : ACode := .gh [.keep [1, 3, 7]] (.gh [] l58_0)
def l58_3 : ACode :=
 .seq (
 .seq (
 .reg none [
 ⟨some 16, none, .mov (.t 4)⟩,
 ⟨some 17, none, .load true 3 (.t 1)⟩,
 ⟨some 18, none, .ncall true 0 100 [(.t 17)]⟩,
 ⟨some 19, none, .bin .lss (.t 16) (.t 18)⟩]) (
 .cond (.t 19) (
 .skip) (
 .exit 0))) (
 .seq (
 .block 1 (
 .reg none [
 ⟨some 22, none, .mov (.t 3)⟩,
 ⟨some 23, none, .mov (.t 4)⟩,
 ⟨some 24, none, .iaddr 1 (.t 22) (.t 23)⟩,
 ⟨none, none, .store 1 (.t 24) (.c (.int .i64 1000))⟩])) (
 .reg none [
 ⟨some 20, none, .mov (.t 4)⟩,
 ⟨some 21, none, .bin .add (.t 20) (.c (.int .i64 1))⟩,
 ⟨some 4, none, .mov (.t 21)⟩]))
def b58_3 : ACode := .gh [.keep [1, 3, 4]] (.gh [] l58_3)
def k58_2 : List AItem := .inLoop b58_2 :: [.inBlock 6,
 .inBlock 5,
 .code (.reg none [
 ⟨some 43, none, .mov (.t 8)⟩,
 ⟨some 44, none, .bin .add (.t 43) (.c (.int .i64 1))⟩,
 ⟨some 8, none, .mov (.t 44)⟩]),
 .inLoop b58_1,
 .inBlock 4,
 .inBlock 3,
 .inLoop b58_0,
 .inBlock 2,
 .code (.seq (
 .reg none [
 ⟨some 76, none, .mov (.t 3)⟩,
 ⟨some 77, none, .iaddr 1 (.t 76) (.c (.int .i64 0))⟩,
 ⟨some 78, none, .load false 1 (.t 77)⟩,
 ⟨some 2, none, .mov (.t 78)⟩]) (
 .ret))]
def k58_1 : List AItem := .inLoop b58_1 :: [.inBlock 4,
 .inBlock 3,
 .inLoop b58_0,
 .inBlock 2,
 .code (.seq (
 .reg none [
 ⟨some 76, none, .mov (.t 3)⟩,
 ⟨some 77, none, .iaddr 1 (.t 76) (.c (.int .i64 0))⟩,
 ⟨some 78, none, .load false 1 (.t 77)⟩,
 ⟨some 2, none, .mov (.t 78)⟩]) (
 .ret))]
def k58_0 : List AItem := .inLoop b58_0 :: [.inBlock 2,
 .code (.seq (
 .reg none [
 ⟨some 76, none, .mov (.t 3)⟩,
 ⟨some 77, none, .iaddr 1 (.t 76) (.c (.int .i64 0))⟩,
 ⟨some 78, none, .load false 1 (.t 77)⟩,
 ⟨some 2, none, .mov (.t 78)⟩]) (
 .ret))]
def k58_3 : List AItem := .inLoop b58_3 :: [.inBlock 0,
 .code (.seq (
 .reg none [
 ⟨some 26, none, .load true 3 (.t 1)⟩,
 ⟨some 27, none, .ncall true 0 101 [(.t 26), (.c (.int .i64 0)), (.c (.int .i64 1))]⟩,
 ⟨some 25, none, .mov (.t 27)⟩,
 ⟨some 28, none, .ext 0 (.t 25)⟩,
 ⟨some 29, none, .ext 1 (.t 25)⟩,
 ⟨some 6, none, .alloc 58007 22 (.agg (.ints .i64 [0, 0]))⟩,
 ⟨some 5, none, .mov (.t 28)⟩,
 ⟨none, none, .store 2 (.t 6) (.t 29)⟩]) (
 .seq (
 .reg none [
 ⟨some 30, none, .mov (.t 3)⟩,
 ⟨some 31, none, .mov (.t 5)⟩,
 ⟨some 32, none, .aaddr 2 1 (.t 6) (.c (.int .i64 0))⟩,
 ⟨some 33, none, .load false 1 (.t 32)⟩,
 ⟨some 34, none, .aaddr 2 1 (.t 6) (.c (.int .i64 1))⟩,
 ⟨some 35, none, .load false 1 (.t 34)⟩,
 ⟨some 36, none, .bin .add (.t 33) (.t 35)⟩,
 ⟨some 37, none, .iaddr 1 (.t 30) (.t 31)⟩,
 ⟨none, none, .store 1 (.t 37) (.t 36)⟩]) (
 .gh [.keep [1, 3]] (
 .seq (
 .seq (
 .reg none [
 ⟨some 7, none, .mov (.c (.bool true))⟩]) (
 .block 2 (
 .loop b58_0))) (
 .seq (
 .reg none [
 ⟨some 76, none, .mov (.t 3)⟩,
 ⟨some 77, none, .iaddr 1 (.t 76) (.c (.int .i64 0))⟩,
 ⟨some 78, none, .load false 1 (.t 77)⟩,
 ⟨some 2, none, .mov (.t 78)⟩]) (
 .ret))))))]
def c58 : ACode :=
 .seq (
 .reg none [
 ⟨some 1, none, .box 58002 24 (.t 0)⟩,
 ⟨some 2, none, .mov (.c (.int .i64 0))⟩]) (
 .seq (
 .reg none [
 ⟨some 13, none, .load true 3 (.t 1)⟩,
 ⟨some 14, none, .ncall true 0 100 [(.t 13)]⟩,
 ⟨some 15, none, .mkslice 58016 3 1 (.int .i64 0) (.t 14)⟩,
 ⟨some 3, none, .mov (.t 15)⟩]) (
 .seq (
 .seq (
 .reg none [
 ⟨some 4, none, .mov (.c (.int .i64 0))⟩]) (
 .block 0 (
 .loop b58_3))) (
 .seq (
 .reg none [
 ⟨some 26, none, .load true 3 (.t 1)⟩,
 ⟨some 27, none, .ncall true 0 101 [(.t 26), (.c (.int .i64 0)), (.c (.int .i64 1))]⟩,
 ⟨some 25, none, .mov (.t 27)⟩,
 ⟨some 28, none, .ext 0 (.t 25)⟩,
 ⟨some 29, none, .ext 1 (.t 25)⟩,
 ⟨some 6, none, .alloc 58007 22 (.agg (.ints .i64 [0, 0]))⟩,
 ⟨some 5, none, .mov (.t 28)⟩,
 ⟨none, none, .store 2 (.t 6) (.t 29)⟩]) (
 .seq (
 .reg none [
 ⟨some 30, none, .mov (.t 3)⟩,
 ⟨some 31, none, .mov (.t 5)⟩,
 ⟨some 32, none, .aaddr 2 1 (.t 6) (.c (.int .i64 0))⟩,
 ⟨some 33, none, .load false 1 (.t 32)⟩,
 ⟨some 34, none, .aaddr 2 1 (.t 6) (.c (.int .i64 1))⟩,
 ⟨some 35, none, .load false 1 (.t 34)⟩,
 ⟨some 36, none, .bin .add (.t 33) (.t 35)⟩,
 ⟨some 37, none, .iaddr 1 (.t 30) (.t 31)⟩,
 ⟨none, none, .store 1 (.t 37) (.t 36)⟩]) (
 .gh [.keep [1, 3]] (
 .seq (
 .seq (
 .reg none [
 ⟨some 7, none, .mov (.c (.bool true))⟩]) (
 .block 2 (
 .loop b58_0))) (
 .seq (
 .reg none [
 ⟨some 76, none, .mov (.t 3)⟩,
 ⟨some 77, none, .iaddr 1 (.t 76) (.c (.int .i64 0))⟩,
 ⟨some 78, none, .load false 1 (.t 77)⟩,
 ⟨some 2, none, .mov (.t 78)⟩]) (
 .ret))))))))
def a58 : AFunc := ⟨79, c58, [.tmp 2]⟩
/-! 59 cassegrain/cassegrainref05.Encode params [24, 25] nfree 0 ntmps 41 -/
def l59_0 : ACode :=
 .seq (
 .seq (
 .reg none [
 ⟨some 16, none, .mov (.t 8)⟩,
 ⟨some 17, none, .mov (.t 5)⟩,
 ⟨some 18, none, .len (.t 17)⟩,
 ⟨some 19, none, .bin .lss (.t 16) (.t 18)⟩]) (
 .cond (.t 19) (
 .skip) (
 .exit 0))) (
 .seq (
 .block 1 (
 .seq (
 .reg (some [(0, 10), (1, 10), (2, 10), (3, 10), (4, 10), (5, 10), (6, 10), (7, 10), (8, 10), (9, 10)]) [
 ⟨some 23, none, .load true 3 (.t 2)⟩,
 ⟨some 24, none, .mov (.t 7)⟩,
 ⟨some 25, none, .mov (.t 5)⟩,
 ⟨some 26, none, .mov (.t 8)⟩,
 ⟨some 27, none, .iaddr 1 (.t 25) (.t 26)⟩,
 ⟨some 28, none, .load false 1 (.t 27)⟩,
 ⟨some 29, none, .ncall true 0 101 [(.t 23), (.t 24), (.t 28)]⟩,
 ⟨some 22, none, .mov (.t 29)⟩,
 ⟨some 30, none, .ext 0 (.t 22)⟩,
 ⟨some 31, none, .ext 1 (.t 22)⟩,
 ⟨some 10, none, .alloc 59011 22 (.agg (.ints .i64 [0, 0]))⟩,
 ⟨some 9, none, .mov (.t 30)⟩,
 ⟨none, none, .store 2 (.t 10) (.t 31)⟩]) (
 .gh [.keep [2, 5, 6, 8, 9, 10]] (
 .seq (
 .reg none [
 ⟨some 32, none, .mov (.t 6)⟩,
 ⟨some 33, none, .aaddr 2 1 (.t 10) (.c (.int .i64 0))⟩,
 ⟨some 34, none, .load false 1 (.t 33)⟩,
 ⟨some 35, none, .aaddr 2 1 (.t 10) (.c (.int .i64 1))⟩,
 ⟨some 36, none, .load false 1 (.t 35)⟩,
 ⟨some 37, none, .bslice 59038 3 1 [(.t 34), (.t 36)]⟩,
 ⟨some 38, none, .append 59039 3 1 (.t 32) (.t 37)⟩,
 ⟨some 6, none, .mov (.t 38)⟩]) (
 .gh [.keep [2, 5, 6, 8, 9]] (
 .reg none [
 ⟨some 39, none, .mov (.t 9)⟩,
 ⟨some 7, none, .mov (.t 39)⟩])))))) (
 .reg none [
 ⟨some 20, none, .mov (.t 8)⟩,
 ⟨some 21, none, .bin .add (.t 20) (.c (.int .i64 1))⟩,
 ⟨some 8, none, .mov (.t 21)⟩]))
def b59_0 : ACode := .gh [.keep [2, 5, 6, 7, 8]] (.gh [] l59_0)
def k59_0 : List AItem := .inLoop b59_0 :: [.inBlock 0,
 .code (.seq (
 .reg none [
 ⟨some 40, none, .mov (.t 6)⟩,
 ⟨some 4, none, .mov (.t 40)⟩]) (
 .ret))]
def c59 : ACode :=
 .seq (
 .reg none [
 ⟨some 2, none, .box 59003 24 (.t 0)⟩,
 ⟨some 4, none, .mov (.c .nils)⟩]) (
 .seq (
 .reg (some [(1, 2), (1, 3)]) [
 ⟨some 11, none, .mov (.t 1)⟩,
 ⟨some 12, none, .ncall true 59013 20 [(.t 11)]⟩,
 ⟨some 13, none, .faddr 0 (.t 2)⟩,
 ⟨some 14, none, .load false 1 (.t 13)⟩,
 ⟨some 15, none, .appz 59016 3 1 (.int .i64 0) (.t 12) (.t 14)⟩,
 ⟨some 5, none, .mov (.t 15)⟩]) (
 .seq (
 .reg none [
 ⟨some 6, none, .mov (.c .nils)⟩]) (
 .seq (
 .reg none [
 ⟨some 7, none, .mov (.c (.int .i64 0))⟩]) (
 .seq (
 .seq (
 .reg none [
 ⟨some 8, none, .mov (.c (.int .i64 0))⟩]) (
 .block 0 (
 .loop b59_0))) (
 .seq (
 .reg none [
 ⟨some 40, none, .mov (.t 6)⟩,
 ⟨some 4, none, .mov (.t 40)⟩]) (
 .ret))))))
def a59 : AFunc := ⟨41, c59, [.tmp 4]⟩
/-! 60 cassegrain/cassegrainref05.SoftErr params [24, 25] nfree 0 ntmps 26 -/
def c60 : ACode :=
 .seq (
 .reg none [
 ⟨some 2, none, .box 60003 24 (.t 0)⟩,
 ⟨some 4, none, .mov (.c (.int .i64 0))⟩]) (
 .seq (
 .seq (
 .reg none [
 ⟨some 5, none, .mov (.t 1)⟩,
 ⟨some 6, none, .len (.t 5)⟩,
 ⟨some 7, none, .bin .rem (.t 6) (.c (.int .i64 2))⟩,
 ⟨some 8, none, .bin .neq (.t 7) (.c (.int .i64 0))⟩,
 ⟨some 9, none, .mov (.t 8)⟩,
 ⟨some 10, (some (9, false)), .mov (.t 1)⟩,
 ⟨some 11, (some (9, false)), .len (.t 10)⟩,
 ⟨some 12, (some (9, false)), .faddr 0 (.t 2)⟩,
 ⟨some 13, (some (9, false)), .load false 1 (.t 12)⟩,
 ⟨some 14, (some (9, false)), .bin .mul (.c (.int .i64 2)) (.t 13)⟩,
 ⟨some 15, (some (9, false)), .bin .lss (.t 11) (.t 14)⟩,
 ⟨some 16, none, .pick (.t 9) (.c (.bool true)) (.t 15)⟩]) (
 .gh [.keep [1, 2, 16]] (
 .cond (.t 16) (
 .seq (
 .reg none [
 ⟨some 4, none, .mov (.c (.int .i64 10))⟩]) (
 .ret)) (
 .skip)))) (
 .seq (
 .seq (
 .reg none [
 ⟨some 17, none, .mov (.t 1)⟩,
 ⟨some 18, none, .len (.t 17)⟩,
 ⟨some 19, none, .faddr 0 (.t 2)⟩,
 ⟨some 20, none, .load false 1 (.t 19)⟩,
 ⟨some 21, none, .bin .add (.c (.int .i64 300)) (.t 20)⟩,
 ⟨some 22, none, .bin .mul (.c (.int .i64 2)) (.t 21)⟩,
 ⟨some 23, none, .bin .gtr (.t 18) (.t 22)⟩]) (
 .gh [.keep [1, 23]] (
 .cond (.t 23) (
 .seq (
 .reg none [
 ⟨some 4, none, .mov (.c (.int .i64 8))⟩]) (
 .ret)) (
 .skip)))) (
 .seq (
 .reg none [
 ⟨some 24, none, .mov (.t 1)⟩,
 ⟨some 25, none, .ncall true 0 91 [(.t 24)]⟩,
 ⟨some 4, none, .mov (.t 25)⟩]) (
 .ret))))
def a60 : AFunc := ⟨26, c60, [.tmp 4]⟩
/-! 61 cassegrain/cassegrainref05.Metric params [24, 25, 25] nfree 0 ntmps 33 -/
def l61_0 : ACode :=
 .seq (
 .seq (
 .reg none [
 ⟨some 13, none, .mov (.t 9)⟩,
 ⟨some 14, none, .mov (.t 7)⟩,
 ⟨some 15, none, .len (.t 14)⟩,
 ⟨some 16, none, .bin .lss (.t 13) (.t 15)⟩]) (
 .cond (.t 16) (
 .skip) (
 .exit 0))) (
 .seq (
 .block 1 (
 .reg (some []) [
 ⟨some 19, none, .mov (.t 8)⟩,
 ⟨some 20, none, .mov (.t 2)⟩,
 ⟨some 21, none, .mov (.t 9)⟩,
 ⟨some 22, none, .iaddr 1 (.t 20) (.t 21)⟩,
 ⟨some 23, none, .load false 1 (.t 22)⟩,
 ⟨some 24, none, .mov (.t 7)⟩,
 ⟨some 25, none, .mov (.t 9)⟩,
 ⟨some 26, none, .iaddr 1 (.t 24) (.t 25)⟩,
 ⟨some 27, none, .load false 1 (.t 26)⟩,
 ⟨some 28, none, .bin .mul (.c (.int .i64 2)) (.t 27)⟩,
 ⟨some 29, none, .bin .sub (.c (.int .i64 1)) (.t 28)⟩,
 ⟨some 30, none, .bin .mul (.t 23) (.t 29)⟩,
 ⟨some 31, none, .bin .add (.t 19) (.t 30)⟩,
 ⟨some 8, none, .mov (.t 31)⟩])) (
 .reg none [
 ⟨some 17, none, .mov (.t 9)⟩,
 ⟨some 18, none, .bin .add (.t 17) (.c (.int .i64 1))⟩,
 ⟨some 9, none, .mov (.t 18)⟩]))
def b61_0 : ACode := .gh [.keep [2, 7, 8, 9]] (.gh [] l61_0)
def k61_0 : List AItem := .inLoop b61_0 :: [.inBlock 0,
 .code (.seq (
 .reg none [
 ⟨some 32, none, .mov (.t 8)⟩,
 ⟨some 6, none, .mov (.t 32)⟩]) (
 .ret))]
def c61 : ACode :=
 .seq (
 .reg none [
 ⟨some 3, none, .box 61004 24 (.t 0)⟩,
 ⟨some 6, none, .mov (.c (.int .i64 0))⟩]) (
 .seq (
 .reg none [
 ⟨some 10, none, .load true 3 (.t 3)⟩,
 ⟨some 11, none, .mov (.t 1)⟩,
 ⟨some 12, none, .ncall true 61013 59 [(.t 10), (.t 11)]⟩,
 ⟨some 7, none, .mov (.t 12)⟩]) (
 .seq (
 .reg none [
 ⟨some 8, none, .mov (.c (.int .i64 0))⟩]) (
 .seq (
 .seq (
 .reg none [
 ⟨some 9, none, .mov (.c (.int .i64 0))⟩]) (
 .block 0 (
 .loop b61_0))) (
 .seq (
 .reg none [
 ⟨some 32, none, .mov (.t 8)⟩,
 ⟨some 6, none, .mov (.t 32)⟩]) (
 .ret)))))
def a61 : AFunc := ⟨33, c61, [.tmp 6]⟩
/-! 67 cassegrain/code.DecodeParity params [48, 25, 3] nfree 0 ntmps 41 -/
def l67_0 : ACode :=
 .seq (
 .reg none [
 ⟨some 28, none, .bin .lss (.t 27) (.t 26)⟩]) (
 .seq (
 .cond (.t 28) (
 .skip) (
 .exit 0)) (
 .seq (
 .block 1 (
 .seq (
 .reg none [
 ⟨some 29, none, .mov (.t 27)⟩,
 ⟨some 11, none, .mov (.t 29)⟩]) (
 .seq (
 .seq (
 .reg none [
 ⟨some 30, none, .load true 2 (.t 3)⟩,
 ⟨some 31, none, .mov (.t 10)⟩,
 ⟨some 32, none, .ncall true 67033 115 [(.t 30), (.t 31)]⟩,
 ⟨some 33, none, .len (.t 32)⟩,
 ⟨some 34, none, .bin .eql (.t 33) (.c (.int .i64 0))⟩]) (
 .cond (.t 34) (
 .seq (
 .reg none [
 ⟨some 35, none, .mov (.t 10)⟩,
 ⟨some 36, none, .mov (.t 11)⟩,
 ⟨some 6, none, .mov (.t 35)⟩,
 ⟨some 7, none, .mov (.t 36)⟩,
 ⟨some 8, none, .mov (.c (.int .i64 0))⟩]) (
 .ret)) (
 .skip))) (
 .reg none [
 ⟨some 37, none, .load true 2 (.t 3)⟩,
 ⟨some 38, none, .mov (.t 10)⟩,
 ⟨some 39, none, .ncall true 67040 116 [(.t 37), (.t 38)]⟩,
 ⟨some 10, none, .mov (.t 39)⟩])))) (
 .reg none [
 ⟨some 40, none, .bin .add (.t 27) (.c (.int .i64 1))⟩,
 ⟨some 27, none, .mov (.t 40)⟩])))
def b67_0 : ACode := .gh [.keep [3, 10, 26, 27]] (.gh [] l67_0)
def k67_0 : List AItem := .inLoop b67_0 :: [.inBlock 0,
 .code (.seq (
 .reg none [
 ⟨some 6, none, .mov (.c .nils)⟩,
 ⟨some 7, none, .mov (.c (.int .i64 0))⟩,
 ⟨some 8, none, .mov (.c (.int .i64 27))⟩]) (
 .ret))]
def c67 : ACode :=
 .seq (
 .reg none [
 ⟨some 3, none, .box 67004 48 (.t 0)⟩,
 ⟨some 6, none, .mov (.c .nils)⟩,
 ⟨some 7, none, .mov (.c (.int .i64 0))⟩,
 ⟨some 8, none, .mov (.c (.int .i64 0))⟩]) (
 .seq (
 .seq (
 .reg none [
 ⟨some 12, none, .load true 2 (.t 3)⟩,
 ⟨some 13, none, .mov (.t 1)⟩,
 ⟨some 14, none, .ncall true 0 114 [(.t 12), (.t 13)]⟩,
 ⟨some 15, none, .mov (.t 2)⟩,
 ⟨some 16, none, .ncall true 0 112 [(.t 15), (.c (.int .i64 0)), (.c (.int .i64 30))]⟩,
 ⟨some 17, none, .ncall true 0 111 [(.t 16), (.c (.int .i64 2))]⟩,
 ⟨some 18, none, .bslice 67019 27 1 [(.t 14), (.t 17)]⟩,
 ⟨some 19, none, .ncall true 0 105 [(.t 18)]⟩,
 ⟨some 9, none, .mov (.t 19)⟩]) (
 .gh [.keep [1, 2, 3, 9]] (
 .seq (
 .reg none [
 ⟨some 20, none, .mov (.t 9)⟩,
 ⟨some 21, none, .bin .neq (.t 20) (.c (.int .i64 0))⟩]) (
 .cond (.t 21) (
 .seq (
 .reg none [
 ⟨some 22, none, .mov (.t 9)⟩,
 ⟨some 6, none, .mov (.c .nils)⟩,
 ⟨some 7, none, .mov (.c (.int .i64 0))⟩,
 ⟨some 8, none, .mov (.t 22)⟩]) (
 .ret)) (
 .skip))))) (
 .seq (
 .reg none [
 ⟨some 23, none, .mov (.t 1)⟩,
 ⟨some 24, none, .ncall true 67025 129 [(.t 23)]⟩,
 ⟨some 10, none, .mov (.t 24)⟩]) (
 .seq (
 .seq (
 .reg none [
 ⟨some 25, none, .mov (.t 2)⟩,
 ⟨some 26, none, .bin .add (.t 25) (.c (.int .i64 1))⟩,
 ⟨some 27, none, .mov (.c (.int .i64 0))⟩]) (
 .block 0 (
 .loop b67_0))) (
 .seq (
 .reg none [
 ⟨some 6, none, .mov (.c .nils)⟩,
 ⟨some 7, none, .mov (.c (.int .i64 0))⟩,
 ⟨some 8, none, .mov (.c (.int .i64 27))⟩]) (
 .ret)))))
def a67 : AFunc := ⟨41, c67, [.tmp 6, .tmp 7, .tmp 8]⟩
/-! 68 cassegrain/code.Nearest params [48, 25] nfree 0 ntmps 38 -/
def c68 : ACode :=
 .seq (
 .reg none [
 ⟨some 2, none, .box 68003 48 (.t 0)⟩,
 ⟨some 3, none, .box 68004 25 (.t 1)⟩,
 ⟨some 4, none, .mov (.c .nils)⟩,
 ⟨some 5, none, .mov (.c (.int .i64 0))⟩,
 ⟨some 6, none, .mov (.c (.int .i64 0))⟩]) (
 .seq (
 .seq (
 .reg (some []) [
 ⟨some 12, none, .load true 2 (.t 2)⟩,
 ⟨some 13, none, .load false 1 (.t 3)⟩,
 ⟨some 14, none, .ncall true 0 114 [(.t 12), (.t 13)]⟩,
 ⟨some 15, none, .load true 2 (.t 2)⟩,
 ⟨some 16, none, .ncall true 0 130 [(.t 15)]⟩,
 ⟨some 17, none, .bslice 68018 27 1 [(.t 14), (.t 16)]⟩,
 ⟨some 18, none, .ncall true 0 105 [(.t 17)]⟩,
 ⟨some 7, none, .mov (.t 18)⟩]) (
 .gh [.keep [2, 3, 7]] (
 .seq (
 .reg none [
 ⟨some 19, none, .mov (.t 7)⟩,
 ⟨some 20, none, .bin .neq (.t 19) (.c (.int .i64 0))⟩]) (
 .cond (.t 20) (
 .seq (
 .reg none [
 ⟨some 21, none, .mov (.t 7)⟩,
 ⟨some 4, none, .mov (.c .nils)⟩,
 ⟨some 5, none, .mov (.c (.int .i64 0))⟩,
 ⟨some 6, none, .mov (.t 21)⟩]) (
 .ret)) (
 .skip))))) (
 .seq (
 .reg none [
 ⟨some 8, none, .alloc 68009 25 .nils⟩]) (
 .seq (
 .reg none [
 ⟨some 22, none, .faddr 0 (.t 2)⟩,
 ⟨some 23, none, .load false 1 (.t 22)⟩,
 ⟨some 24, none, .bin .add (.t 23) (.c (.int .i64 1))⟩,
 ⟨some 9, none, .alloc 68010 3 (.int .i64 0)⟩,
 ⟨none, none, .store 1 (.t 9) (.t 24)⟩]) (
 .seq (
 .seq (
 .reg none [
 ⟨some 25, none, .load true 2 (.t 2)⟩,
 ⟨some 26, none, .ncall true 0 131 [(.t 25)]⟩]) (
 .block 0 (
 .rf 68901 (.t 26) [27] (
 .reg none [
 ⟨some 10, none, .mov (.t 27)⟩]) (
 .block 1 (
 .seq (
 .reg none [
 ⟨some 28, none, .mov (.t 10)⟩,
 ⟨some 29, none, .load false 1 (.t 3)⟩,
 ⟨some 30, none, .ncall true 0 132 [(.t 28), (.t 29)]⟩,
 ⟨some 11, none, .mov (.t 30)⟩]) (
 .seq (
 .reg none [
 ⟨some 31, none, .mov (.t 11)⟩,
 ⟨some 32, none, .load false 1 (.t 9)⟩,
 ⟨some 33, none, .bin .lss (.t 31) (.t 32)⟩]) (
 .cond (.t 33) (
 .reg none [
 ⟨some 34, none, .mov (.t 10)⟩,
 ⟨some 35, none, .mov (.t 11)⟩,
 ⟨none, none, .store 1 (.t 8) (.t 34)⟩,
 ⟨none, none, .store 1 (.t 9) (.t 35)⟩]) (
 .skip)))))))) (
 .seq (
 .reg (some []) [
 ⟨some 36, none, .load false 1 (.t 8)⟩,
 ⟨some 37, none, .load false 1 (.t 9)⟩,
 ⟨some 4, none, .mov (.t 36)⟩,
 ⟨some 5, none, .mov (.t 37)⟩,
 ⟨some 6, none, .mov (.c (.int .i64 0))⟩]) (
 .ret))))))
def a68 : AFunc := ⟨38, c68, [.tmp 4, .tmp 5, .tmp 6]⟩
/-! 69 cassegrain/code.MinimumWeight params [48] nfree 0 ntmps 40 -/
def c69 : ACode :=
 .seq (
 .reg none [
 ⟨some 1, none, .box 69002 48 (.t 0)⟩,
 ⟨some 2, none, .mov (.c (.int .i64 0))⟩,
 ⟨some 3, none, .mov (.c (.int .i64 0))⟩]) (
 .seq (
 .seq (
 .reg (some []) [
 ⟨some 9, none, .load true 2 (.t 1)⟩,
 ⟨some 10, none, .ncall true 0 133 [(.t 9)]⟩,
 ⟨some 11, none, .load true 2 (.t 1)⟩,
 ⟨some 12, none, .ncall true 0 130 [(.t 11)]⟩,
 ⟨some 13, none, .bslice 69014 27 1 [(.t 10), (.t 12)]⟩,
 ⟨some 14, none, .ncall true 0 105 [(.t 13)]⟩,
 ⟨some 4, none, .mov (.t 14)⟩]) (
 .gh [.keep [1, 4]] (
 .seq (
 .reg none [
 ⟨some 15, none, .mov (.t 4)⟩,
 ⟨some 16, none, .bin .neq (.t 15) (.c (.int .i64 0))⟩]) (
 .cond (.t 16) (
 .seq (
 .reg none [
 ⟨some 17, none, .mov (.t 4)⟩,
 ⟨some 2, none, .mov (.c (.int .i64 0))⟩,
 ⟨some 3, none, .mov (.t 17)⟩]) (
 .ret)) (
 .skip))))) (
 .seq (
 .reg none [
 ⟨some 18, none, .faddr 0 (.t 1)⟩,
 ⟨some 19, none, .load false 1 (.t 18)⟩,
 ⟨some 20, none, .mkslice 69021 3 1 (.int .i64 0) (.t 19)⟩,
 ⟨some 5, none, .alloc 69006 25 .nils⟩,
 ⟨none, none, .store 1 (.t 5) (.t 20)⟩]) (
 .seq (
 .reg none [
 ⟨some 21, none, .faddr 0 (.t 1)⟩,
 ⟨some 22, none, .load false 1 (.t 21)⟩,
 ⟨some 23, none, .bin .add (.t 22) (.c (.int .i64 1))⟩,
 ⟨some 6, none, .alloc 69007 3 (.int .i64 0)⟩,
 ⟨none, none, .store 1 (.t 6) (.t 23)⟩]) (
 .seq (
 .seq (
 .reg none [
 ⟨some 24, none, .load true 2 (.t 1)⟩,
 ⟨some 25, none, .ncall true 0 131 [(.t 24)]⟩]) (
 .block 0 (
 .rf 69901 (.t 25) [26] (
 .reg none [
 ⟨some 7, none, .mov (.t 26)⟩]) (
 .block 1 (
 .seq (
 .reg none [
 ⟨some 27, none, .mov (.t 7)⟩,
 ⟨some 28, none, .load false 1 (.t 5)⟩,
 ⟨some 29, none, .ncall true 0 132 [(.t 27), (.t 28)]⟩,
 ⟨some 8, none, .mov (.t 29)⟩]) (
 .seq (
 .reg none [
 ⟨some 30, none, .mov (.t 8)⟩,
 ⟨some 31, none, .bin .gtr (.t 30) (.c (.int .i64 0))⟩]) (
 .cond (.t 31) (
 .reg none [
 ⟨some 32, none, .load false 1 (.t 6)⟩,
 ⟨some 33, none, .mov (.t 8)⟩,
 ⟨some 34, none, .mm false (.t 32) (.t 33)⟩,
 ⟨none, none, .store 1 (.t 6) (.t 34)⟩]) (
 .skip)))))))) (
 .seq (
 .seq (
 .reg none [
 ⟨some 35, none, .load false 1 (.t 6)⟩,
 ⟨some 36, none, .faddr 0 (.t 1)⟩,
 ⟨some 37, none, .load false 1 (.t 36)⟩,
 ⟨some 38, none, .bin .gtr (.t 35) (.t 37)⟩]) (
 .cond (.t 38) (
 .seq (
 .reg none [
 ⟨some 2, none, .mov (.c (.int .i64 0))⟩,
 ⟨some 3, none, .mov (.c (.int .i64 12))⟩]) (
 .ret)) (
 .skip))) (
 .seq (
 .reg none [
 ⟨some 39, none, .load false 1 (.t 6)⟩,
 ⟨some 2, none, .mov (.t 39)⟩,
 ⟨some 3, none, .mov (.c (.int .i64 0))⟩]) (
 .ret)))))))
def a69 : AFunc := ⟨40, c69, [.tmp 2, .tmp 3]⟩
/-! 70 cassegrain/cassegrainref05.MinimumWeight params [48] nfree 0 ntmps 39 -/
def l70_0 : ACode :=
 .seq (
 .seq (
 .reg none [
 ⟨some 11, none, .mov (.t 5)⟩,
 ⟨some 12, none, .faddr 0 (.t 1)⟩,
 ⟨some 13, none, .load false 1 (.t 12)⟩,
 ⟨some 14, none, .bin .shl (.c (.int .i64 1)) (.t 13)⟩,
 ⟨some 15, none, .bin .lss (.t 11) (.t 14)⟩]) (
 .cond (.t 15) (
 .skip) (
 .exit 0))) (
 .seq (
 .block 1 (
 .seq (
 .reg none [
 ⟨some 18, none, .mov (.t 5)⟩,
 ⟨some 19, none, .faddr 0 (.t 1)⟩,
 ⟨some 20, none, .load false 1 (.t 19)⟩,
 ⟨some 21, none, .ncall true 70022 134 [(.t 18), (.t 20)]⟩,
 ⟨some 6, none, .mov (.t 21)⟩]) (
 .seq (
 .seq (
 .reg none [
 ⟨some 22, none, .load true 2 (.t 1)⟩,
 ⟨some 23, none, .mov (.t 6)⟩,
 ⟨some 24, none, .ncall true 70025 41 [(.t 22), (.t 23)]⟩,
 ⟨some 25, none, .len (.t 24)⟩,
 ⟨some 26, none, .bin .gtr (.t 25) (.c (.int .i64 0))⟩]) (
 .cond (.t 26) (
 .exit 1) (
 .skip))) (
 .seq (
 .reg none [
 ⟨some 27, none, .mov (.t 3)⟩,
 ⟨some 28, none, .mov (.t 6)⟩,
 ⟨some 29, none, .ncall true 0 77 [(.t 27), (.t 28)]⟩,
 ⟨some 7, none, .mov (.t 29)⟩]) (
 .seq (
 .reg none [
 ⟨some 30, none, .mov (.t 4)⟩,
 ⟨some 31, none, .bin .lss (.t 30) (.c (.int .i64 0))⟩,
 ⟨some 32, none, .mov (.t 31)⟩,
 ⟨some 33, (some (32, false)), .mov (.t 7)⟩,
 ⟨some 34, (some (32, false)), .mov (.t 4)⟩,
 ⟨some 35, (some (32, false)), .bin .lss (.t 33) (.t 34)⟩,
 ⟨some 36, none, .pick (.t 32) (.c (.bool true)) (.t 35)⟩]) (
 .gh [.keep [1, 3, 4, 5, 7, 36]] (
 .cond (.t 36) (
 .reg none [
 ⟨some 37, none, .mov (.t 7)⟩,
 ⟨some 4, none, .mov (.t 37)⟩]) (
 .skip)))))))) (
 .reg none [
 ⟨some 16, none, .mov (.t 5)⟩,
 ⟨some 17, none, .bin .add (.t 16) (.c (.int .i64 1))⟩,
 ⟨some 5, none, .mov (.t 17)⟩]))
def b70_0 : ACode := .gh [.keep [1, 3, 4, 5]] (.gh [] l70_0)
def k70_0 : List AItem := .inLoop b70_0 :: [.inBlock 0,
 .code (.seq (
 .reg none [
 ⟨some 38, none, .mov (.t 4)⟩,
 ⟨some 2, none, .mov (.t 38)⟩]) (
 .ret))]
def c70 : ACode :=
 .seq (
 .reg none [
 ⟨some 1, none, .box 70002 48 (.t 0)⟩,
 ⟨some 2, none, .mov (.c (.int .i64 0))⟩]) (
 .seq (
 .reg none [
 ⟨some 8, none, .faddr 0 (.t 1)⟩,
 ⟨some 9, none, .load false 1 (.t 8)⟩,
 ⟨some 10, none, .mkslice 70011 3 1 (.int .i64 0) (.t 9)⟩,
 ⟨some 3, none, .mov (.t 10)⟩]) (
 .seq (
 .reg none [
 ⟨some 4, none, .mov (.c (.int .i64 (-1)))⟩]) (
 .seq (
 .seq (
 .reg none [
 ⟨some 5, none, .mov (.c (.int .i64 1))⟩]) (
 .block 0 (
 .loop b70_0))) (
 .seq (
 .reg none [
 ⟨some 38, none, .mov (.t 4)⟩,
 ⟨some 2, none, .mov (.t 38)⟩]) (
 .ret)))))
def a70 : AFunc := ⟨39, c70, [.tmp 2]⟩
/-! 71 cassegrain/cassegrainref05.Nearest params [48, 25] nfree 0 ntmps 40 -/
def l71_0 : ACode :=
 .seq (
 .seq (
 .reg none [
 ⟨some 14, none, .mov (.t 8)⟩,
 ⟨some 15, none, .faddr 0 (.t 2)⟩,
 ⟨some 16, none, .load false 1 (.t 15)⟩,
 ⟨some 17, none, .bin .shl (.c (.int .i64 1)) (.t 16)⟩,
 ⟨some 18, none, .bin .lss (.t 14) (.t 17)⟩]) (
 .cond (.t 18) (
 .skip) (
 .exit 0))) (
 .seq (
 .block 1 (
 .seq (
 .reg none [
 ⟨some 21, none, .mov (.t 8)⟩,
 ⟨some 22, none, .faddr 0 (.t 2)⟩,
 ⟨some 23, none, .load false 1 (.t 22)⟩,
 ⟨some 24, none, .ncall true 71025 134 [(.t 21), (.t 23)]⟩,
 ⟨some 9, none, .mov (.t 24)⟩]) (
 .seq (
 .seq (
 .reg none [
 ⟨some 25, none, .load true 2 (.t 2)⟩,
 ⟨some 26, none, .mov (.t 9)⟩,
 ⟨some 27, none, .ncall true 71028 41 [(.t 25), (.t 26)]⟩,
 ⟨some 28, none, .len (.t 27)⟩,
 ⟨some 29, none, .bin .gtr (.t 28) (.c (.int .i64 0))⟩]) (
 .cond (.t 29) (
 .exit 1) (
 .skip))) (
 .seq (
 .reg none [
 ⟨some 30, none, .mov (.t 1)⟩,
 ⟨some 31, none, .mov (.t 9)⟩,
 ⟨some 32, none, .ncall true 0 77 [(.t 30), (.t 31)]⟩,
 ⟨some 10, none, .mov (.t 32)⟩]) (
 .seq (
 .reg none [
 ⟨some 33, none, .mov (.t 10)⟩,
 ⟨some 34, none, .mov (.t 7)⟩,
 ⟨some 35, none, .bin .lss (.t 33) (.t 34)⟩]) (
 .cond (.t 35) (
 .reg none [
 ⟨some 36, none, .mov (.t 9)⟩,
 ⟨some 37, none, .mov (.t 10)⟩,
 ⟨some 6, none, .mov (.t 36)⟩,
 ⟨some 7, none, .mov (.t 37)⟩]) (
 .skip))))))) (
 .reg none [
 ⟨some 19, none, .mov (.t 8)⟩,
 ⟨some 20, none, .bin .add (.t 19) (.c (.int .i64 1))⟩,
 ⟨some 8, none, .mov (.t 20)⟩]))
def b71_0 : ACode := .gh [.keep [1, 2, 6, 7, 8]] (.gh [] l71_0)
def k71_0 : List AItem := .inLoop b71_0 :: [.inBlock 0,
 .code (.seq (
 .reg none [
 ⟨some 38, none, .mov (.t 6)⟩,
 ⟨some 39, none, .mov (.t 7)⟩,
 ⟨some 4, none, .mov (.t 38)⟩,
 ⟨some 5, none, .mov (.t 39)⟩]) (
 .ret))]
def c71 : ACode :=
 .seq (
 .reg none [
 ⟨some 2, none, .box 71003 48 (.t 0)⟩,
 ⟨some 4, none, .mov (.c .nils)⟩,
 ⟨some 5, none, .mov (.c (.int .i64 0))⟩]) (
 .seq (
 .reg none [
 ⟨some 6, none, .mov (.c .nils)⟩]) (
 .seq (
 .reg none [
 ⟨some 11, none, .faddr 0 (.t 2)⟩,
 ⟨some 12, none, .load false 1 (.t 11)⟩,
 ⟨some 13, none, .bin .add (.t 12) (.c (.int .i64 1))⟩,
 ⟨some 7, none, .mov (.t 13)⟩]) (
 .seq (
 .seq (
 .reg none [
 ⟨some 8, none, .mov (.c (.int .i64 0))⟩]) (
 .block 0 (
 .loop b71_0))) (
 .seq (
 .reg none [
 ⟨some 38, none, .mov (.t 6)⟩,
 ⟨some 39, none, .mov (.t 7)⟩,
 ⟨some 4, none, .mov (.t 38)⟩,
 ⟨some 5, none, .mov (.t 39)⟩]) (
 .ret)))))
def a71 : AFunc := ⟨40, c71, [.tmp 4, .tmp 5]⟩
/-! 72 cassegrain/cassegrainref05.DecodeParity params [48, 25, 3] nfree 0 ntmps 28 -/
def l72_0 : ACode :=
 .seq (
 .seq (
 .reg none [
 ⟨some 13, none, .mov (.t 10)⟩,
 ⟨some 14, none, .mov (.t 2)⟩,
 ⟨some 15, none, .bin .leq (.t 13) (.t 14)⟩]) (
 .cond (.t 15) (
 .skip) (
 .exit 0))) (
 .seq (
 .block 1 (
 .seq (
 .seq (
 .reg none [
 ⟨some 18, none, .load true 2 (.t 3)⟩,
 ⟨some 19, none, .mov (.t 9)⟩,
 ⟨some 20, none, .ncall true 72021 41 [(.t 18), (.t 19)]⟩,
 ⟨some 21, none, .len (.t 20)⟩,
 ⟨some 22, none, .bin .eql (.t 21) (.c (.int .i64 0))⟩]) (
 .cond (.t 22) (
 .seq (
 .reg none [
 ⟨some 23, none, .mov (.t 9)⟩,
 ⟨some 24, none, .mov (.t 10)⟩,
 ⟨some 6, none, .mov (.t 23)⟩,
 ⟨some 7, none, .mov (.t 24)⟩,
 ⟨some 8, none, .mov (.c (.bool true))⟩]) (
 .ret)) (
 .skip))) (
 .reg none [
 ⟨some 25, none, .load true 2 (.t 3)⟩,
 ⟨some 26, none, .mov (.t 9)⟩,
 ⟨some 27, none, .ncall true 72028 42 [(.t 25), (.t 26)]⟩,
 ⟨some 9, none, .mov (.t 27)⟩]))) (
 .reg none [
 ⟨some 16, none, .mov (.t 10)⟩,
 ⟨some 17, none, .bin .add (.t 16) (.c (.int .i64 1))⟩,
 ⟨some 10, none, .mov (.t 17)⟩]))
def b72_0 : ACode := .gh [.keep [2, 3, 9, 10]] (.gh [] l72_0)
def k72_0 : List AItem := .inLoop b72_0 :: [.inBlock 0,
 .code (.seq (
 .reg none [
 ⟨some 6, none, .mov (.c .nils)⟩,
 ⟨some 7, none, .mov (.c (.int .i64 0))⟩,
 ⟨some 8, none, .mov (.c (.bool false))⟩]) (
 .ret))]
def c72 : ACode :=
 .seq (
 .reg none [
 ⟨some 3, none, .box 72004 48 (.t 0)⟩,
 ⟨some 6, none, .mov (.c .nils)⟩,
 ⟨some 7, none, .mov (.c (.int .i64 0))⟩,
 ⟨some 8, none, .mov (.c (.bool false))⟩]) (
 .seq (
 .reg none [
 ⟨some 11, none, .mov (.t 1)⟩,
 ⟨some 12, none, .ncall true 72013 20 [(.t 11)]⟩,
 ⟨some 9, none, .mov (.t 12)⟩]) (
 .seq (
 .seq (
 .reg none [
 ⟨some 10, none, .mov (.c (.int .i64 0))⟩]) (
 .block 0 (
 .loop b72_0))) (
 .seq (
 .reg none [
 ⟨some 6, none, .mov (.c .nils)⟩,
 ⟨some 7, none, .mov (.c (.int .i64 0))⟩,
 ⟨some 8, none, .mov (.c (.bool false))⟩]) (
 .ret))))
def a72 : AFunc := ⟨28, c72, [.tmp 6, .tmp 7, .tmp 8]⟩
/-! 77 cassegrain/cassegrainref05.Distance params [25, 25] nfree 0 ntmps 25 -/
def l77_0 : ACode :=
 .seq (
 .seq (
 .reg none [
 ⟨some 7, none, .mov (.t 6)⟩,
 ⟨some 8, none, .mov (.t 0)⟩,
 ⟨some 9, none, .len (.t 8)⟩,
 ⟨some 10, none, .bin .lss (.t 7) (.t 9)⟩]) (
 .cond (.t 10) (
 .skip) (
 .exit 0))) (
 .seq (
 .block 1 (
 .seq (
 .reg (some []) [
 ⟨some 13, none, .mov (.t 0)⟩,
 ⟨some 14, none, .mov (.t 6)⟩,
 ⟨some 15, none, .iaddr 1 (.t 13) (.t 14)⟩,
 ⟨some 16, none, .load false 1 (.t 15)⟩,
 ⟨some 17, none, .mov (.t 1)⟩,
 ⟨some 18, none, .mov (.t 6)⟩,
 ⟨some 19, none, .iaddr 1 (.t 17) (.t 18)⟩,
 ⟨some 20, none, .load false 1 (.t 19)⟩,
 ⟨some 21, none, .bin .neq (.t 16) (.t 20)⟩]) (
 .gh [.keep [0, 1, 5, 6, 21]] (
 .cond (.t 21) (
 .reg none [
 ⟨some 22, none, .mov (.t 5)⟩,
 ⟨some 23, none, .bin .add (.t 22) (.c (.int .i64 1))⟩,
 ⟨some 5, none, .mov (.t 23)⟩]) (
 .skip))))) (
 .reg none [
 ⟨some 11, none, .mov (.t 6)⟩,
 ⟨some 12, none, .bin .add (.t 11) (.c (.int .i64 1))⟩,
 ⟨some 6, none, .mov (.t 12)⟩]))
def b77_0 : ACode := .gh [.keep [0, 1, 5, 6]] (.gh [] l77_0)
def k77_0 : List AItem := .inLoop b77_0 :: [.inBlock 0,
 .code (.seq (
 .reg none [
 ⟨some 24, none, .mov (.t 5)⟩,
 ⟨some 4, none, .mov (.t 24)⟩]) (
 .ret))]
def c77 : ACode :=
 .seq (
 .reg none [
 ⟨some 4, none, .mov (.c (.int .i64 0))⟩]) (
 .seq (
 .reg none [
 ⟨some 5, none, .mov (.c (.int .i64 0))⟩]) (
 .seq (
 .seq (
 .reg none [
 ⟨some 6, none, .mov (.c (.int .i64 0))⟩]) (
 .block 0 (
 .loop b77_0))) (
 .seq (
 .reg none [
 ⟨some 24, none, .mov (.t 5)⟩,
 ⟨some 4, none, .mov (.t 24)⟩]) (
 .ret))))
def a77 : AFunc := ⟨25, c77, [.tmp 4]⟩
/-! 91 cassegrain/cassegrainref05.RangeErr params [25] nfree 0 ntmps 16 -/
def l91_0 : ACode :=
 .seq (
 .seq (
 .reg none [
 ⟨some 4, none, .mov (.t 3)⟩,
 ⟨some 5, none, .mov (.t 0)⟩,
 ⟨some 6, none, .len (.t 5)⟩,
 ⟨some 7, none, .bin .lss (.t 4) (.t 6)⟩]) (
 .cond (.t 7) (
 .skip) (
 .exit 0))) (
 .seq (
 .block 1 (
 .seq (
 .reg none [
 ⟨some 10, none, .mov (.t 0)⟩,
 ⟨some 11, none, .mov (.t 3)⟩,
 ⟨some 12, none, .iaddr 1 (.t 10) (.t 11)⟩,
 ⟨some 13, none, .load false 1 (.t 12)⟩,
 ⟨some 14, none, .ncall true 0 45 [(.t 13), (.c (.int .i64 (-7))), (.c (.int .i64 7))]⟩,
 ⟨some 15, none, .not (.t 14)⟩]) (
 .cond (.t 15) (
 .seq (
 .reg none [
 ⟨some 2, none, .mov (.c (.int .i64 2))⟩]) (
 .ret)) (
 .skip)))) (
 .reg none [
 ⟨some 8, none, .mov (.t 3)⟩,
 ⟨some 9, none, .bin .add (.t 8) (.c (.int .i64 1))⟩,
 ⟨some 3, none, .mov (.t 9)⟩]))
def b91_0 : ACode := .gh [.keep [0, 3]] (.gh [] l91_0)
def k91_0 : List AItem := .inLoop b91_0 :: [.inBlock 0,
 .code (.seq (
 .reg none [
 ⟨some 2, none, .mov (.c (.int .i64 0))⟩]) (
 .ret))]
def c91 : ACode :=
 .seq (
 .reg none [
 ⟨some 2, none, .mov (.c (.int .i64 0))⟩]) (
 .seq (
 .seq (
 .reg none [
 ⟨some 3, none, .mov (.c (.int .i64 0))⟩]) (
 .block 0 (
 .loop b91_0))) (
 .seq (
 .reg none [
 ⟨some 2, none, .mov (.c (.int .i64 0))⟩]) (
 .ret)))
def a91 : AFunc := ⟨16, c91, [.tmp 2]⟩
/-! 94 cassegrain/cassegrainlaw05.Inner params [] nfree 0 ntmps 3 -/
def c94 : ACode :=
 .seq (
 .reg none [
 ⟨some 0, none, .alloc 94001 24 (.agg (.gen [(.int .i64 0), (.int .i64 0), (.int .i64 0)]))⟩]) (
 .seq (
 .reg none [
 ⟨some 1, none, .build (.ints .i64 [0, 0]) [(0, 1, (.c (.int .i64 7))), (1, 1, (.c (.int .i64 5)))]⟩,
 ⟨some 2, none, .build (.gen [(.int .i64 0), (.int .i64 0), (.int .i64 0)]) [(0, 1, (.c (.int .i64 2))), (1, 2, (.t 1))]⟩,
 ⟨none, none, .store 3 (.t 0) (.t 2)⟩]) (
 .ret))
def a94 : AFunc := ⟨3, c94, [.cell 0 true 3]⟩
/-! 95 cassegrain/cassegrainlaw05.soft params [] nfree 0 ntmps 2 -/
def c95 : ACode :=
 .seq (
 .reg none [
 ⟨some 0, none, .mov (.c .nils)⟩]) (
 .seq (
 .reg none [
 ⟨some 1, none, .bslice 95002 3 1 [(.c (.int .i64 (-1))), (.c (.int .i64 (-1))), (.c (.int .i64 1)), (.c (.int .i64 1)), (.c (.int .i64 (-1))), (.c (.int .i64 (-1))), (.c (.int .i64 1)), (.c (.int .i64 1))]⟩,
 ⟨some 0, none, .mov (.t 1)⟩]) (
 .ret))
def a95 : AFunc := ⟨2, c95, [.tmp 0]⟩
/-! 96 cassegrain/cassegrainlaw05.last params [3] nfree 0 ntmps 7 -/
def c96 : ACode :=
 .seq (
 .reg none [
 ⟨some 2, none, .mov (.c .nils)⟩]) (
 .seq (
 .reg none [
 ⟨some 3, none, .mkslice 96004 3 1 (.int .i64 0) (.c (.int .i64 12))⟩,
 ⟨some 4, none, .mov (.t 0)⟩,
 ⟨some 5, none, .bslice 96006 3 1 [(.t 4)]⟩,
 ⟨some 6, none, .append 96007 3 1 (.t 3) (.t 5)⟩,
 ⟨some 2, none, .mov (.t 6)⟩]) (
 .ret))
def a96 : AFunc := ⟨7, c96, [.tmp 2]⟩
/-! 97 cassegrain/cassegrainlaw05.Parity params [] nfree 0 ntmps 5 -/
def c97 : ACode :=
 .seq (
 .reg none [
 ⟨some 0, none, .alloc 97001 48 (.agg (.gen [(.int .i64 0), .nils]))⟩]) (
 .seq (
 .reg none [
 ⟨some 1, none, .bslice 97002 3 1 [(.c (.int .i64 0)), (.c (.int .i64 1))]⟩,
 ⟨some 2, none, .bslice 97003 3 1 [(.c (.int .i64 1)), (.c (.int .i64 2))]⟩,
 ⟨some 3, none, .bslice 97004 25 1 [(.t 1), (.t 2)]⟩,
 ⟨some 4, none, .build (.gen [(.int .i64 0), .nils]) [(0, 1, (.c (.int .i64 3))), (1, 1, (.t 3))]⟩,
 ⟨none, none, .store 2 (.t 0) (.t 4)⟩]) (
 .ret))
def a97 : AFunc := ⟨5, c97, [.cell 0 true 2]⟩
/-! 98 cassegrain/code.softErr params [24, 25] nfree 0 ntmps 30 -/
def c98 : ACode :=
 .seq (
 .reg none [
 ⟨some 2, none, .box 98003 24 (.t 0)⟩,
 ⟨some 4, none, .mov (.c (.int .i64 0))⟩]) (
 .seq (
 .reg (some []) [
 ⟨some 5, none, .mov (.t 1)⟩,
 ⟨some 6, none, .len (.t 5)⟩,
 ⟨some 7, none, .bin .rem (.t 6) (.c (.int .i64 2))⟩,
 ⟨some 8, none, .bin .eql (.t 7) (.c (.int .i64 0))⟩,
 ⟨some 9, none, .mov (.t 8)⟩,
 ⟨some 10, (some (9, true)), .mov (.t 1)⟩,
 ⟨some 11, (some (9, true)), .len (.t 10)⟩,
 ⟨some 12, (some (9, true)), .faddr 0 (.t 2)⟩,
 ⟨some 13, (some (9, true)), .load false 1 (.t 12)⟩,
 ⟨some 14, (some (9, true)), .binw .mul (.c (.int .i64 2)) (.t 13)⟩,
 ⟨some 15, (some (9, true)), .bin .geq (.t 11) (.t 14)⟩,
 ⟨some 16, none, .pick (.t 9) (.t 15) (.c (.bool false))⟩,
 ⟨some 17, none, .ncall true 0 111 [(.t 16), (.c (.int .i64 10))]⟩,
 ⟨some 18, none, .mov (.t 1)⟩,
 ⟨some 19, none, .len (.t 18)⟩,
 ⟨some 20, none, .faddr 0 (.t 2)⟩,
 ⟨some 21, none, .load false 1 (.t 20)⟩,
 ⟨some 22, none, .binw .add (.c (.int .i64 300)) (.t 21)⟩,
 ⟨some 23, none, .binw .mul (.c (.int .i64 2)) (.t 22)⟩,
 ⟨some 24, none, .bin .leq (.t 19) (.t 23)⟩,
 ⟨some 25, none, .ncall true 0 111 [(.t 24), (.c (.int .i64 8))]⟩,
 ⟨some 26, none, .mov (.t 1)⟩,
 ⟨some 27, none, .ncall true 0 103 [(.t 26), (.c (.int .i64 (-7))), (.c (.int .i64 7))]⟩,
 ⟨some 28, none, .bslice 98029 27 1 [(.t 17), (.t 25), (.t 27)]⟩,
 ⟨some 29, none, .ncall true 0 105 [(.t 28)]⟩,
 ⟨some 4, none, .mov (.t 29)⟩]) (
 .gh [.keep [4]] (
 .ret)))
def a98 : AFunc := ⟨30, c98, [.tmp 4]⟩
/-! 99 (cassegrain/code.trellis).best params [123] nfree 0 ntmps 61 -/
def l99_0 : ACode :=
 .seq (
 .reg none [
 ⟨some 14, none, .bin .lss (.t 13) (.t 12)⟩]) (
 .seq (
 .cond (.t 14) (
 .skip) (
 .exit 0)) (
 .seq (
 .block 1 (
 .seq (
 .reg none [
 ⟨some 15, none, .mov (.t 13)⟩,
 ⟨some 7, none, .alloc 99008 3 (.int .i64 0)⟩,
 ⟨none, none, .store 1 (.t 7) (.t 15)⟩]) (
 .seq (
 .reg none [
 ⟨some 16, none, .load true 4 (.t 1)⟩,
 ⟨some 17, none, .load false 1 (.t 7)⟩,
 ⟨some 18, none, .ncall true 0 128 [(.t 16), (.t 17)]⟩]) (
 .block 2 (
 .rf 99901 (.t 18) [19] (
 .reg none [
 ⟨some 8, none, .alloc 99009 145 (.agg (.gen [(.int .i64 0), (.int .i64 0), (.int .i64 0), (.flt .f32 0)]))⟩,
 ⟨none, none, .store 4 (.t 8) (.t 19)⟩]) (
 .block 3 (
 .seq (
 .reg (some []) [
 ⟨some 20, none, .faddr 0 (.t 8)⟩,
 ⟨some 21, none, .load false 1 (.t 20)⟩,
 ⟨some 22, none, .load false 1 (.t 6)⟩,
 ⟨some 23, none, .bin .eql (.t 21) (.t 22)⟩,
 ⟨some 24, none, .mov (.t 23)⟩,
 ⟨some 25, (some (24, true)), .load false 1 (.t 4)⟩,
 ⟨some 26, (some (24, true)), .load false 1 (.t 7)⟩,
 ⟨some 27, (some (24, true)), .bin .add (.t 26) (.c (.int .i64 1))⟩,
 ⟨some 28, (some (24, true)), .iaddr 1 (.t 25) (.t 27)⟩,
 ⟨some 29, (some (24, true)), .load false 1 (.t 28)⟩,
 ⟨some 30, (some (24, true)), .faddr 2 (.t 8)⟩,
 ⟨some 31, (some (24, true)), .load false 1 (.t 30)⟩,
 ⟨some 32, (some (24, true)), .iaddr 1 (.t 29) (.t 31)⟩,
 ⟨some 33, (some (24, true)), .load false 1 (.t 32)⟩,
 ⟨some 34, (some (24, true)), .faddr 3 (.t 8)⟩,
 ⟨some 35, (some (24, true)), .load false 1 (.t 34)⟩,
 ⟨some 36, (some (24, true)), .bin .add (.t 33) (.t 35)⟩,
 ⟨some 37, (some (24, true)), .load false 1 (.t 4)⟩,
 ⟨some 38, (some (24, true)), .load false 1 (.t 7)⟩,
 ⟨some 39, (some (24, true)), .iaddr 1 (.t 37) (.t 38)⟩,
 ⟨some 40, (some (24, true)), .load false 1 (.t 39)⟩,
 ⟨some 41, (some (24, true)), .load false 1 (.t 6)⟩,
 ⟨some 42, (some (24, true)), .iaddr 1 (.t 40) (.t 41)⟩,
 ⟨some 43, (some (24, true)), .load false 1 (.t 42)⟩,
 ⟨some 44, (some (24, true)), .bin .eql (.t 36) (.t 43)⟩,
 ⟨some 45, none, .pick (.t 24) (.t 44) (.c (.bool false))⟩]) (
 .gh [.keep [1, 4, 5, 6, 8, 12, 13, 45]] (
 .cond (.t 45) (
 .seq (
 .reg (some [(0, 3), (3, 5), (3, 6), (4, 5), (4, 6), (5, 7), (6, 7)]) [
 ⟨some 46, none, .load false 1 (.t 5)⟩,
 ⟨some 47, none, .faddr 1 (.t 8)⟩,
 ⟨some 48, none, .load false 1 (.t 47)⟩,
 ⟨some 49, none, .bslice 99050 3 1 [(.t 48)]⟩,
 ⟨some 50, none, .append 99051 3 1 (.t 46) (.t 49)⟩,
 ⟨some 51, none, .faddr 2 (.t 8)⟩,
 ⟨some 52, none, .load false 1 (.t 51)⟩,
 ⟨none, none, .store 1 (.t 5) (.t 50)⟩,
 ⟨none, none, .store 1 (.t 6) (.t 52)⟩]) (
 .gh [.keep [1, 4, 5, 6, 12, 13]] (
 .exit 2))) (
 .skip)))))))))) (
 .reg none [
 ⟨some 53, none, .bin .add (.t 13) (.c (.int .i64 1))⟩,
 ⟨some 13, none, .mov (.t 53)⟩])))
def b99_0 : ACode := .gh [.keep [1, 4, 5, 6, 12, 13]] (.gh [] l99_0)
def k99_0 : List AItem := .inLoop b99_0 :: [.inBlock 0,
 .code (.seq (
 .reg (some []) [
 ⟨some 54, none, .load false 1 (.t 5)⟩,
 ⟨some 55, none, .load false 1 (.t 4)⟩,
 ⟨some 56, none, .iaddr 1 (.t 55) (.c (.int .i64 0))⟩,
 ⟨some 57, none, .load false 1 (.t 56)⟩,
 ⟨some 58, none, .iaddr 1 (.t 57) (.c (.int .i64 0))⟩,
 ⟨some 59, none, .load false 1 (.t 58)⟩,
 ⟨some 60, none, .f2i .i64 (.t 59)⟩,
 ⟨some 2, none, .mov (.t 54)⟩,
 ⟨some 3, none, .mov (.t 60)⟩]) (
 .gh [.keep [2, 3]] (
 .ret)))]
def c99 : ACode :=
 .seq (
 .reg none [
 ⟨some 1, none, .box 99002 123 (.t 0)⟩,
 ⟨some 2, none, .mov (.c .nils)⟩,
 ⟨some 3, none, .mov (.c (.int .i64 0))⟩]) (
 .seq (
 .reg none [
 ⟨some 9, none, .load true 4 (.t 1)⟩,
 ⟨some 10, none, .ncall true 99011 146 [(.t 9)]⟩,
 ⟨some 4, none, .alloc 99005 168 .nils⟩,
 ⟨none, none, .store 1 (.t 4) (.t 10)⟩]) (
 .seq (
 .reg none [
 ⟨some 5, none, .alloc 99006 25 .nils⟩]) (
 .seq (
 .reg none [
 ⟨some 6, none, .alloc 99007 3 (.int .i64 0)⟩,
 ⟨none, none, .store 1 (.t 6) (.c (.int .i64 0))⟩]) (
 .seq (
 .seq (
 .reg none [
 ⟨some 11, none, .load true 4 (.t 1)⟩,
 ⟨some 12, none, .ncall true 0 147 [(.t 11)]⟩,
 ⟨some 13, none, .mov (.c (.int .i64 0))⟩]) (
 .block 0 (
 .loop b99_0))) (
 .seq (
 .reg (some []) [
 ⟨some 54, none, .load false 1 (.t 5)⟩,
 ⟨some 55, none, .load false 1 (.t 4)⟩,
 ⟨some 56, none, .iaddr 1 (.t 55) (.c (.int .i64 0))⟩,
 ⟨some 57, none, .load false 1 (.t 56)⟩,
 ⟨some 58, none, .iaddr 1 (.t 57) (.c (.int .i64 0))⟩,
 ⟨some 59, none, .load false 1 (.t 58)⟩,
 ⟨some 60, none, .f2i .i64 (.t 59)⟩,
 ⟨some 2, none, .mov (.t 54)⟩,
 ⟨some 3, none, .mov (.t 60)⟩]) (
 .gh [.keep [2, 3]] (
 .ret)))))))
def a99 : AFunc := ⟨61, c99, [.tmp 2, .tmp 3]⟩
/-! 100 cassegrain/cassegrainref05.States params [24] nfree 0 ntmps 6 -/
def c100 : ACode :=
 .seq (
 .reg none [
 ⟨some 1, none, .box 100002 24 (.t 0)⟩,
 ⟨some 2, none, .mov (.c (.int .i64 0))⟩]) (
 .seq (
 .reg none [
 ⟨some 3, none, .faddr 0 (.t 1)⟩,
 ⟨some 4, none, .load false 1 (.t 3)⟩,
 ⟨some 5, none, .bin .shl (.c (.int .i64 1)) (.t 4)⟩,
 ⟨some 2, none, .mov (.t 5)⟩]) (
 .ret))
def a100 : AFunc := ⟨6, c100, [.tmp 2]⟩
/-! 101 cassegrain/cassegrainref05.Step params [24, 3, 3] nfree 0 ntmps 28 -/
def c101 : ACode :=
 .seq (
 .reg none [
 ⟨some 3, none, .box 101004 24 (.t 0)⟩,
 ⟨some 6, none, .mov (.c (.int .i64 0))⟩,
 ⟨some 7, none, .alloc 101008 22 (.agg (.ints .i64 [0, 0]))⟩]) (
 .seq (
 .reg none [
 ⟨some 9, none, .mov (.t 2)⟩,
 ⟨some 10, none, .faddr 0 (.t 3)⟩,
 ⟨some 11, none, .load false 1 (.t 10)⟩,
 ⟨some 12, none, .bin .shl (.t 9) (.t 11)⟩,
 ⟨some 13, none, .mov (.t 1)⟩,
 ⟨some 14, none, .bin .add (.t 12) (.t 13)⟩,
 ⟨some 8, none, .mov (.t 14)⟩]) (
 .gh [.keep [3, 7, 8]] (
 .seq (
 .reg (some []) [
 ⟨some 15, none, .mov (.t 8)⟩,
 ⟨some 16, none, .bin .quo (.t 15) (.c (.int .i64 2))⟩,
 ⟨some 17, none, .mov (.t 8)⟩,
 ⟨some 18, none, .faddr 1 (.t 3)⟩,
 ⟨some 19, none, .aaddr 2 1 (.t 18) (.c (.int .i64 0))⟩,
 ⟨some 20, none, .load false 1 (.t 19)⟩,
 ⟨some 21, none, .ncall true 0 148 [(.t 17), (.t 20)]⟩,
 ⟨some 22, none, .mov (.t 8)⟩,
 ⟨some 23, none, .faddr 1 (.t 3)⟩,
 ⟨some 24, none, .aaddr 2 1 (.t 23) (.c (.int .i64 1))⟩,
 ⟨some 25, none, .load false 1 (.t 24)⟩,
 ⟨some 26, none, .ncall true 0 148 [(.t 22), (.t 25)]⟩,
 ⟨some 27, none, .build (.ints .i64 [0, 0]) [(0, 1, (.t 21)), (1, 1, (.t 26))]⟩,
 ⟨some 6, none, .mov (.t 16)⟩,
 ⟨none, none, .store 2 (.t 7) (.t 27)⟩]) (
 .gh [.keep [6, 7]] (
 .ret)))))
def a101 : AFunc := ⟨28, c101, [.tmp 6, .cell 7 true 2]⟩
/-! 103 cassegrain/code.rangeErr params [25, 3, 3] nfree 0 ntmps 14 -/
def c103 : ACode :=
 .seq (
 .reg none [
 ⟨some 4, none, .box 103005 3 (.t 1)⟩,
 ⟨some 5, none, .box 103006 3 (.t 2)⟩,
 ⟨some 6, none, .mov (.c (.int .i64 0))⟩]) (
 .seq (
 .reg none [
 ⟨some 8, none, .mov (.t 0)⟩,
 ⟨some 9, none, .mkfn 150 [(.t 4), (.t 5)]⟩,
 ⟨some 10, none, .ncall true 0 149 [(.t 8), (.t 9)]⟩,
 ⟨some 7, none, .mov (.t 10)⟩]) (
 .seq (
 .reg none [
 ⟨some 11, none, .mov (.t 7)⟩,
 ⟨some 12, none, .not (.t 11)⟩,
 ⟨some 13, none, .ncall true 0 111 [(.t 12), (.c (.int .i64 2))]⟩,
 ⟨some 6, none, .mov (.t 13)⟩]) (
 .ret)))
def a103 : AFunc := ⟨14, c103, [.tmp 6]⟩
/-! 104 cassegrain/code.product params [3, 3] nfree 0 ntmps 23 -/
def l104_0 : ACode :=
 .seq (
 .seq (
 .reg none [
 ⟨some 6, none, .mov (.t 1)⟩,
 ⟨some 7, none, .bin .gtr (.t 6) (.c (.int .i64 0))⟩]) (
 .cond (.t 7) (
 .skip) (
 .exit 0))) (
 .seq (
 .block 1 (
 .seq (
 .seq (
 .reg none [
 ⟨some 10, none, .mov (.t 1)⟩,
 ⟨some 11, none, .bin .and (.t 10) (.c (.int .i64 1))⟩,
 ⟨some 12, none, .bin .eql (.t 11) (.c (.int .i64 1))⟩]) (
 .cond (.t 12) (
 .reg none [
 ⟨some 13, none, .mov (.t 5)⟩,
 ⟨some 14, none, .mov (.t 0)⟩,
 ⟨some 15, none, .bin .xor (.t 13) (.t 14)⟩,
 ⟨some 5, none, .mov (.t 15)⟩]) (
 .skip))) (
 .seq (
 .reg none [
 ⟨some 16, none, .mov (.t 0)⟩,
 ⟨some 17, none, .bin .shl (.t 16) (.c (.int .u64 1))⟩,
 ⟨some 0, none, .mov (.t 17)⟩]) (
 .seq (
 .reg none [
 ⟨some 18, none, .mov (.t 0)⟩,
 ⟨some 19, none, .bin .geq (.t 18) (.c (.int .i64 16))⟩]) (
 .cond (.t 19) (
 .reg none [
 ⟨some 20, none, .mov (.t 0)⟩,
 ⟨some 21, none, .bin .xor (.t 20) (.c (.int .i64 19))⟩,
 ⟨some 0, none, .mov (.t 21)⟩]) (
 .skip)))))) (
 .reg none [
 ⟨some 8, none, .mov (.t 1)⟩,
 ⟨some 9, none, .bin .shr (.t 8) (.c (.int .u64 1))⟩,
 ⟨some 1, none, .mov (.t 9)⟩]))
def b104_0 : ACode := .gh [.keep [0, 1, 5]] (.gh [] l104_0)
def k104_0 : List AItem := .inLoop b104_0 :: [.inBlock 0,
 .code (.seq (
 .reg none [
 ⟨some 22, none, .mov (.t 5)⟩,
 ⟨some 4, none, .mov (.t 22)⟩]) (
 .ret))]
def c104 : ACode :=
 .seq (
 .reg none [
 ⟨some 4, none, .mov (.c (.int .i64 0))⟩]) (
 .seq (
 .reg none [
 ⟨some 5, none, .mov (.c (.int .i64 0))⟩]) (
 .seq (
 .block 0 (
 .loop b104_0)) (
 .seq (
 .reg none [
 ⟨some 22, none, .mov (.t 5)⟩,
 ⟨some 4, none, .mov (.t 22)⟩]) (
 .ret))))
def a104 : AFunc := ⟨23, c104, [.tmp 4]⟩
/-! 105 cassegrain/code.first params [172] nfree 0 ntmps 15 -/
def l105_0 : ACode :=
 .seq (
 .reg none [
 ⟨some 8, none, .bin .lss (.t 7) (.t 6)⟩]) (
 .seq (
 .cond (.t 8) (
 .skip) (
 .exit 0)) (
 .seq (
 .block 1 (
 .seq (
 .reg none [
 ⟨some 9, none, .iaddr 1 (.t 5) (.t 7)⟩,
 ⟨some 10, none, .load false 1 (.t 9)⟩,
 ⟨some 4, none, .mov (.t 10)⟩]) (
 .seq (
 .reg none [
 ⟨some 11, none, .mov (.t 4)⟩,
 ⟨some 12, none, .bin .neq (.t 11) (.c (.int .i64 0))⟩]) (
 .cond (.t 12) (
 .seq (
 .reg none [
 ⟨some 13, none, .mov (.t 4)⟩,
 ⟨some 2, none, .mov (.t 13)⟩]) (
 .ret)) (
 .skip))))) (
 .reg none [
 ⟨some 14, none, .bin .add (.t 7) (.c (.int .i64 1))⟩,
 ⟨some 7, none, .mov (.t 14)⟩])))
def b105_0 : ACode := .gh [.keep [5, 6, 7]] (.gh [] l105_0)
def k105_0 : List AItem := .inLoop b105_0 :: [.inBlock 0,
 .code (.seq (
 .reg none [
 ⟨some 2, none, .mov (.c (.int .i64 0))⟩]) (
 .ret))]
def c105 : ACode :=
 .seq (
 .reg none [
 ⟨some 2, none, .mov (.c (.int .i64 0))⟩]) (
 .seq (
 .seq (
 .reg none [
 ⟨some 5, none, .mov (.t 0)⟩,
 ⟨some 6, none, .len (.t 5)⟩,
 ⟨some 7, none, .mov (.c (.int .i64 0))⟩]) (
 .block 0 (
 .loop b105_0))) (
 .seq (
 .reg none [
 ⟨some 2, none, .mov (.c (.int .i64 0))⟩]) (
 .ret)))
def a105 : AFunc := ⟨15, c105, [.tmp 2]⟩
/-! 106 cassegrain/code.halfErr params [3] nfree 0 ntmps 6 -/
def c106 : ACode :=
 .seq (
 .reg none [
 ⟨some 2, none, .mov (.c (.int .i64 0))⟩]) (
 .seq (
 .reg none [
 ⟨some 3, none, .mov (.t 0)⟩,
 ⟨some 4, none, .ncall true 0 112 [(.t 3), (.c (.int .i64 1)), (.c (.int .i64 3))]⟩,
 ⟨some 5, none, .ncall true 0 111 [(.t 4), (.c (.int .i64 2))]⟩,
 ⟨some 2, none, .mov (.t 5)⟩]) (
 .ret))
def a106 : AFunc := ⟨6, c106, [.tmp 2]⟩
/-! 107 cassegrain/code.elementsErr params [25, 3] nfree 0 ntmps 14 -/
def c107 : ACode :=
 .seq (
 .reg none [
 ⟨some 4, none, .mov (.c (.int .i64 0))⟩]) (
 .seq (
 .reg none [
 ⟨some 5, none, .mov (.t 0)⟩,
 ⟨some 6, none, .len (.t 5)⟩,
 ⟨some 7, none, .mov (.t 1)⟩,
 ⟨some 8, none, .bin .eql (.t 6) (.t 7)⟩,
 ⟨some 9, none, .ncall true 0 111 [(.t 8), (.c (.int .i64 10))]⟩,
 ⟨some 10, none, .mov (.t 0)⟩,
 ⟨some 11, none, .ncall true 0 103 [(.t 10), (.c (.int .i64 0)), (.c (.int .i64 15))]⟩,
 ⟨some 12, none, .bslice 107013 27 1 [(.t 9), (.t 11)]⟩,
 ⟨some 13, none, .ncall true 0 105 [(.t 12)]⟩,
 ⟨some 4, none, .mov (.t 13)⟩]) (
 .gh [.keep [4]] (
 .ret)))
def a107 : AFunc := ⟨14, c107, [.tmp 4]⟩
/-! 108 (cassegrain/code.word).syndromes params [133, 3] nfree 0 ntmps 20 -/
def l108_0 : ACode :=
 .seq (
 .seq (
 .reg none [
 ⟨some 7, none, .mov (.t 6)⟩,
 ⟨some 8, none, .mov (.t 1)⟩,
 ⟨some 9, none, .bin .mul (.c (.int .i64 2)) (.t 8)⟩,
 ⟨some 10, none, .bin .leq (.t 7) (.t 9)⟩]) (
 .cond (.t 10) (
 .skip) (
 .exit 0))) (
 .seq (
 .block 1 (
 .reg none [
 ⟨some 13, none, .mov (.t 5)⟩,
 ⟨some 14, none, .load true 15 (.t 2)⟩,
 ⟨some 15, none, .mov (.t 6)⟩,
 ⟨some 16, none, .ncall true 0 151 [(.t 14), (.t 15)]⟩,
 ⟨some 17, none, .bslice 108018 3 1 [(.t 16)]⟩,
 ⟨some 18, none, .append 108019 3 1 (.t 13) (.t 17)⟩,
 ⟨some 5, none, .mov (.t 18)⟩])) (
 .reg none [
 ⟨some 11, none, .mov (.t 6)⟩,
 ⟨some 12, none, .bin .add (.t 11) (.c (.int .i64 1))⟩,
 ⟨some 6, none, .mov (.t 12)⟩]))
def b108_0 : ACode := .gh [.keep [1, 2, 5, 6]] (.gh [] l108_0)
def k108_0 : List AItem := .inLoop b108_0 :: [.inBlock 0,
 .code (.seq (
 .reg none [
 ⟨some 19, none, .mov (.t 5)⟩,
 ⟨some 4, none, .mov (.t 19)⟩]) (
 .ret))]
def c108 : ACode :=
 .seq (
 .reg none [
 ⟨some 2, none, .box 108003 133 (.t 0)⟩,
 ⟨some 4, none, .mov (.c .nils)⟩]) (
 .seq (
 .reg none [
 ⟨some 5, none, .mov (.c .nils)⟩]) (
 .seq (
 .seq (
 .reg none [
 ⟨some 6, none, .mov (.c (.int .i64 1))⟩]) (
 .block 0 (
 .loop b108_0))) (
 .seq (
 .reg none [
 ⟨some 19, none, .mov (.t 5)⟩,
 ⟨some 4, none, .mov (.t 19)⟩]) (
 .ret))))
def a108 : AFunc := ⟨20, c108, [.tmp 4]⟩
/-! 109 cassegrain/code.encoded params [3, 25] nfree 0 ntmps 31 -/
def l109_0 : ACode :=
 .seq (
 .seq (
 .reg none [
 ⟨some 15, none, .mov (.t 7)⟩,
 ⟨some 16, none, .bin .lss (.t 15) (.c (.int .i64 15))⟩]) (
 .cond (.t 16) (
 .skip) (
 .exit 0))) (
 .seq (
 .block 1 (
 .reg none [
 ⟨some 19, none, .mov (.t 6)⟩,
 ⟨some 20, none, .mov (.t 7)⟩,
 ⟨some 21, none, .bslice 109022 3 1 [(.t 20)]⟩,
 ⟨some 22, none, .append 109023 3 1 (.t 19) (.t 21)⟩,
 ⟨some 6, none, .mov (.t 22)⟩])) (
 .reg none [
 ⟨some 17, none, .mov (.t 7)⟩,
 ⟨some 18, none, .bin .add (.t 17) (.c (.int .i64 1))⟩,
 ⟨some 7, none, .mov (.t 18)⟩]))
def b109_0 : ACode := .gh [.keep [0, 4, 5, 6, 7]] (.gh [] l109_0)
def k109_0 : List AItem := .inLoop b109_0 :: [.inBlock 0,
 .code (.seq (
 .reg none [
 ⟨some 24, none, .load true 15 (.t 5)⟩,
 ⟨some 25, none, .mov (.t 0)⟩,
 ⟨some 26, none, .mov (.t 6)⟩,
 ⟨some 27, none, .ncall true 0 140 [(.t 24), (.t 25), (.t 26)]⟩,
 ⟨some 23, none, .mov (.t 27)⟩,
 ⟨some 28, none, .ext 0 (.t 23)⟩,
 ⟨some 29, none, .ext 1 (.t 23)⟩,
 ⟨some 8, none, .alloc 109009 133 (.agg (.ints .i64 [0, 0, 0, 0, 0, 0, 0, 0, 0, 0, 0, 0, 0, 0, 0]))⟩,
 ⟨none, none, .store 15 (.t 8) (.t 28)⟩,
 ⟨some 9, none, .mov (.t 29)⟩]) (
 .gh [.keep [4, 8]] (
 .seq (
 .reg none [
 ⟨some 30, none, .load true 15 (.t 8)⟩,
 ⟨none, none, .store 15 (.t 4) (.t 30)⟩]) (
 .ret))))]
def c109 : ACode :=
 .seq (
 .reg none [
 ⟨some 4, none, .alloc 109005 133 (.agg (.ints .i64 [0, 0, 0, 0, 0, 0, 0, 0, 0, 0, 0, 0, 0, 0, 0]))⟩]) (
 .seq (
 .reg none [
 ⟨some 5, none, .alloc 109006 133 (.agg (.ints .i64 [0, 0, 0, 0, 0, 0, 0, 0, 0, 0, 0, 0, 0, 0, 0]))⟩]) (
 .seq (
 .reg none [
 ⟨some 10, none, .asl 15 (.t 5) none none⟩,
 ⟨some 11, none, .mov (.t 1)⟩,
 ⟨some 12, none, .copy 1 (.t 10) (.t 11)⟩]) (
 .seq (
 .reg none [
 ⟨some 6, none, .mov (.c .nils)⟩]) (
 .seq (
 .seq (
 .reg none [
 ⟨some 13, none, .mov (.t 1)⟩,
 ⟨some 14, none, .len (.t 13)⟩,
 ⟨some 7, none, .mov (.t 14)⟩]) (
 .block 0 (
 .loop b109_0))) (
 .seq (
 .reg none [
 ⟨some 24, none, .load true 15 (.t 5)⟩,
 ⟨some 25, none, .mov (.t 0)⟩,
 ⟨some 26, none, .mov (.t 6)⟩,
 ⟨some 27, none, .ncall true 0 140 [(.t 24), (.t 25), (.t 26)]⟩,
 ⟨some 23, none, .mov (.t 27)⟩,
 ⟨some 28, none, .ext 0 (.t 23)⟩,
 ⟨some 29, none, .ext 1 (.t 23)⟩,
 ⟨some 8, none, .alloc 109009 133 (.agg (.ints .i64 [0, 0, 0, 0, 0, 0, 0, 0, 0, 0, 0, 0, 0, 0, 0]))⟩,
 ⟨none, none, .store 15 (.t 8) (.t 28)⟩,
 ⟨some 9, none, .mov (.t 29)⟩]) (
 .gh [.keep [4, 8]] (
 .seq (
 .reg none [
 ⟨some 30, none, .load true 15 (.t 8)⟩,
 ⟨none, none, .store 15 (.t 4) (.t 30)⟩]) (
 .ret))))))))
def a109 : AFunc := ⟨31, c109, [.cell 4 true 15]⟩
/-! 111 cassegrain/code.unless params [4, 27] nfree 0 ntmps 7 -/
def c111 : ACode :=
 .seq (
 .reg none [
 ⟨some 4, none, .mov (.c (.int .i64 0))⟩]) (
 .seq (
 .seq (
 .reg none [
 ⟨some 5, none, .mov (.t 0)⟩]) (
 .cond (.t 5) (
 .seq (
 .reg none [
 ⟨some 4, none, .mov (.c (.int .i64 0))⟩]) (
 .ret)) (
 .skip))) (
 .seq (
 .reg none [
 ⟨some 6, none, .mov (.t 1)⟩,
 ⟨some 4, none, .mov (.t 6)⟩]) (
 .ret)))
def a111 : AFunc := ⟨7, c111, [.tmp 4]⟩
/-! 112 cassegrain/code.within params [3, 3, 3] nfree 0 ntmps 15 -/
def c112 : ACode :=
 .seq (
 .reg none [
 ⟨some 6, none, .mov (.c (.bool false))⟩]) (
 .seq (
 .reg none [
 ⟨some 7, none, .mov (.t 1)⟩,
 ⟨some 8, none, .mov (.t 0)⟩,
 ⟨some 9, none, .bin .leq (.t 7) (.t 8)⟩,
 ⟨some 10, none, .mov (.t 9)⟩,
 ⟨some 11, (some (10, true)), .mov (.t 0)⟩,
 ⟨some 12, (some (10, true)), .mov (.t 2)⟩,
 ⟨some 13, (some (10, true)), .bin .leq (.t 11) (.t 12)⟩,
 ⟨some 14, none, .pick (.t 10) (.t 13) (.c (.bool false))⟩,
 ⟨some 6, none, .mov (.t 14)⟩]) (
 .gh [.keep [6]] (
 .ret)))
def a112 : AFunc := ⟨15, c112, [.tmp 6]⟩
/-! 113 cassegrain/cassegrainbase.CopyLists params [46] nfree 0 ntmps 20 -/
def l113_0 : ACode :=
 .seq (
 .seq (
 .reg none [
 ⟨some 5, none, .mov (.t 4)⟩,
 ⟨some 6, none, .mov (.t 0)⟩,
 ⟨some 7, none, .len (.t 6)⟩,
 ⟨some 8, none, .bin .lss (.t 5) (.t 7)⟩]) (
 .cond (.t 8) (
 .skip) (
 .exit 0))) (
 .seq (
 .block 1 (
 .reg none [
 ⟨some 11, none, .mov (.t 3)⟩,
 ⟨some 12, none, .mov (.t 0)⟩,
 ⟨some 13, none, .mov (.t 4)⟩,
 ⟨some 14, none, .iaddr 1 (.t 12) (.t 13)⟩,
 ⟨some 15, none, .load false 1 (.t 14)⟩,
 ⟨some 16, none, .ncall true 113017 20 [(.t 15)]⟩,
 ⟨some 17, none, .bslice 113018 25 1 [(.t 16)]⟩,
 ⟨some 18, none, .append 113019 25 1 (.t 11) (.t 17)⟩,
 ⟨some 3, none, .mov (.t 18)⟩])) (
 .reg none [
 ⟨some 9, none, .mov (.t 4)⟩,
 ⟨some 10, none, .bin .add (.t 9) (.c (.int .i64 1))⟩,
 ⟨some 4, none, .mov (.t 10)⟩]))
def b113_0 : ACode := .gh [.keep [0, 3, 4]] (.gh [] l113_0)
def k113_0 : List AItem := .inLoop b113_0 :: [.inBlock 0,
 .code (.seq (
 .reg none [
 ⟨some 19, none, .mov (.t 3)⟩,
 ⟨some 2, none, .mov (.t 19)⟩]) (
 .ret))]
def c113 : ACode :=
 .seq (
 .reg none [
 ⟨some 2, none, .mov (.c .nils)⟩]) (
 .seq (
 .reg none [
 ⟨some 3, none, .mov (.c .nils)⟩]) (
 .seq (
 .seq (
 .reg none [
 ⟨some 4, none, .mov (.c (.int .i64 0))⟩]) (
 .block 0 (
 .loop b113_0))) (
 .seq (
 .reg none [
 ⟨some 19, none, .mov (.t 3)⟩,
 ⟨some 2, none, .mov (.t 19)⟩]) (
 .ret))))
def a113 : AFunc := ⟨20, c113, [.tmp 2]⟩
/-! 114 cassegrain/code.wordErr params [48, 25] nfree 0 ntmps 17 -/
def c114 : ACode :=
 .seq (
 .reg none [
 ⟨some 2, none, .box 114003 48 (.t 0)⟩,
 ⟨some 4, none, .mov (.c (.int .i64 0))⟩]) (
 .seq (
 .reg (some []) [
 ⟨some 5, none, .load true 2 (.t 2)⟩,
 ⟨some 6, none, .ncall true 0 133 [(.t 5)]⟩,
 ⟨some 7, none, .mov (.t 1)⟩,
 ⟨some 8, none, .len (.t 7)⟩,
 ⟨some 9, none, .faddr 0 (.t 2)⟩,
 ⟨some 10, none, .load false 1 (.t 9)⟩,
 ⟨some 11, none, .bin .eql (.t 8) (.t 10)⟩,
 ⟨some 12, none, .ncall true 0 111 [(.t 11), (.c (.int .i64 10))]⟩,
 ⟨some 13, none, .mov (.t 1)⟩,
 ⟨some 14, none, .ncall true 0 103 [(.t 13), (.c (.int .i64 0)), (.c (.int .i64 1))]⟩,
 ⟨some 15, none, .bslice 114016 27 1 [(.t 6), (.t 12), (.t 14)]⟩,
 ⟨some 16, none, .ncall true 0 105 [(.t 15)]⟩,
 ⟨some 4, none, .mov (.t 16)⟩]) (
 .gh [.keep [4]] (
 .ret)))
def a114 : AFunc := ⟨17, c114, [.tmp 4]⟩
/-! 115 cassegrain/code.unsatisfied params [48, 25] nfree 0 ntmps 40 -/
def l115_1 : ACode :=
 .seq (
 .reg none [
 ⟨some 22, none, .bin .lss (.t 21) (.t 20)⟩]) (
 .seq (
 .cond (.t 22) (
 .skip) (
 .exit 2)) (
 .seq (
 .block 3 (
 .seq (
 .reg none [
 ⟨some 23, none, .iaddr 1 (.t 19) (.t 21)⟩,
 ⟨some 24, none, .load false 1 (.t 23)⟩,
 ⟨some 10, none, .mov (.t 24)⟩]) (
 .reg none [
 ⟨some 25, none, .mov (.t 8)⟩,
 ⟨some 26, none, .mov (.t 1)⟩,
 ⟨some 27, none, .mov (.t 10)⟩,
 ⟨some 28, none, .iaddr 1 (.t 26) (.t 27)⟩,
 ⟨some 29, none, .load false 1 (.t 28)⟩,
 ⟨some 30, none, .bin .xor (.t 25) (.t 29)⟩,
 ⟨some 8, none, .mov (.t 30)⟩]))) (
 .reg none [
 ⟨some 31, none, .bin .add (.t 21) (.c (.int .i64 1))⟩,
 ⟨some 21, none, .mov (.t 31)⟩])))
def b115_1 : ACode := .gh [.keep [1, 5, 6, 8, 12, 13, 14, 19, 20, 21]] (.gh [] l115_1)
def l115_0 : ACode :=
 .seq (
 .reg none [
 ⟨some 15, none, .bin .lss (.t 14) (.t 13)⟩]) (
 .seq (
 .cond (.t 15) (
 .skip) (
 .exit 0)) (
 .seq (
 .block 1 (
 .seq (
 .reg none [
 ⟨some 16, none, .mov (.t 14)⟩,
 ⟨some 17, none, .iaddr 1 (.t 12) (.t 14)⟩,
 ⟨some 18, none, .load false 1 (.t 17)⟩,
 ⟨some 6, none, .mov (.t 16)⟩,
 ⟨some 7, none, .mov (.t 18)⟩]) (
 .seq (
 .reg none [
 ⟨some 8, none, .mov (.c (.int .i64 0))⟩]) (
 .seq (
 .seq (
 .reg none [
 ⟨some 19, none, .mov (.t 7)⟩,
 ⟨some 20, none, .len (.t 19)⟩,
 ⟨some 21, none, .mov (.c (.int .i64 0))⟩]) (
 .block 2 (
 .loop b115_1))) (
 .seq (
 .reg none [
 ⟨some 32, none, .mov (.t 8)⟩,
 ⟨some 33, none, .bin .eql (.t 32) (.c (.int .i64 1))⟩]) (
 .cond (.t 33) (
 .reg none [
 ⟨some 34, none, .mov (.t 5)⟩,
 ⟨some 35, none, .mov (.t 6)⟩,
 ⟨some 36, none, .bslice 115037 3 1 [(.t 35)]⟩,
 ⟨some 37, none, .append 115038 3 1 (.t 34) (.t 36)⟩,
 ⟨some 5, none, .mov (.t 37)⟩]) (
 .skip))))))) (
 .reg none [
 ⟨some 38, none, .bin .add (.t 14) (.c (.int .i64 1))⟩,
 ⟨some 14, none, .mov (.t 38)⟩])))
def b115_0 : ACode := .gh [.keep [1, 5, 12, 13, 14]] (.gh [] l115_0)
def k115_1 : List AItem := .inLoop b115_1 :: [.inBlock 2,
 .code (.seq (
 .reg none [
 ⟨some 32, none, .mov (.t 8)⟩,
 ⟨some 33, none, .bin .eql (.t 32) (.c (.int .i64 1))⟩]) (
 .cond (.t 33) (
 .reg none [
 ⟨some 34, none, .mov (.t 5)⟩,
 ⟨some 35, none, .mov (.t 6)⟩,
 ⟨some 36, none, .bslice 115037 3 1 [(.t 35)]⟩,
 ⟨some 37, none, .append 115038 3 1 (.t 34) (.t 36)⟩,
 ⟨some 5, none, .mov (.t 37)⟩]) (
 .skip))),
 .inBlock 1,
 .code (.reg none [
 ⟨some 38, none, .bin .add (.t 14) (.c (.int .i64 1))⟩,
 ⟨some 14, none, .mov (.t 38)⟩]),
 .inLoop b115_0,
 .inBlock 0,
 .code (.seq (
 .reg none [
 ⟨some 39, none, .mov (.t 5)⟩,
 ⟨some 4, none, .mov (.t 39)⟩]) (
 .ret))]
def k115_0 : List AItem := .inLoop b115_0 :: [.inBlock 0,
 .code (.seq (
 .reg none [
 ⟨some 39, none, .mov (.t 5)⟩,
 ⟨some 4, none, .mov (.t 39)⟩]) (
 .ret))]
def c115 : ACode :=
 .seq (
 .reg none [
 ⟨some 2, none, .box 115003 48 (.t 0)⟩,
 ⟨some 4, none, .mov (.c .nils)⟩]) (
 .seq (
 .reg none [
 ⟨some 5, none, .mov (.c .nils)⟩]) (
 .seq (
 .seq (
 .reg none [
 ⟨some 11, none, .faddr 1 (.t 2)⟩,
 ⟨some 12, none, .load false 1 (.t 11)⟩,
 ⟨some 13, none, .len (.t 12)⟩,
 ⟨some 14, none, .mov (.c (.int .i64 0))⟩]) (
 .block 0 (
 .loop b115_0))) (
 .seq (
 .reg none [
 ⟨some 39, none, .mov (.t 5)⟩,
 ⟨some 4, none, .mov (.t 39)⟩]) (
 .ret))))
def a115 : AFunc := ⟨40, c115, [.tmp 4]⟩
/-! 116 cassegrain/code.flipped params [48, 25] nfree 0 ntmps 66 -/
def l116_0 : ACode :=
 .seq (
 .reg none [
 ⟨some 52, none, .bin .lss (.t 51) (.t 50)⟩]) (
 .seq (
 .cond (.t 52) (
 .skip) (
 .exit 4)) (
 .seq (
 .block 5 (
 .seq (
 .reg none [
 ⟨some 53, none, .mov (.t 51)⟩,
 ⟨some 54, none, .iaddr 1 (.t 49) (.t 51)⟩,
 ⟨some 55, none, .load false 1 (.t 54)⟩,
 ⟨some 13, none, .mov (.t 53)⟩,
 ⟨some 14, none, .mov (.t 55)⟩]) (
 .seq (
 .reg none [
 ⟨some 56, none, .mov (.t 14)⟩,
 ⟨some 57, none, .bin .gtr (.t 56) (.c (.int .i64 0))⟩]) (
 .cond (.t 57) (
 .reg none [
 ⟨some 58, none, .mov (.t 12)⟩,
 ⟨some 59, none, .mov (.t 13)⟩,
 ⟨some 60, none, .iaddr 1 (.t 58) (.t 59)⟩,
 ⟨some 61, none, .load false 1 (.t 60)⟩,
 ⟨some 62, none, .bin .xor (.t 61) (.c (.int .i64 1))⟩,
 ⟨some 63, none, .iaddr 1 (.t 58) (.t 59)⟩,
 ⟨none, none, .store 1 (.t 63) (.t 62)⟩]) (
 .skip))))) (
 .reg none [
 ⟨some 64, none, .bin .add (.t 51) (.c (.int .i64 1))⟩,
 ⟨some 51, none, .mov (.t 64)⟩])))
def b116_0 : ACode := .gh [.keep [12, 49, 50, 51]] (.gh [] l116_0)
def l116_2 : ACode :=
 .seq (
 .reg none [
 ⟨some 35, none, .bin .lss (.t 34) (.t 33)⟩]) (
 .seq (
 .cond (.t 35) (
 .skip) (
 .exit 2)) (
 .seq (
 .block 3 (
 .seq (
 .reg none [
 ⟨some 36, none, .iaddr 1 (.t 32) (.t 34)⟩,
 ⟨some 37, none, .load false 1 (.t 36)⟩,
 ⟨some 11, none, .mov (.t 37)⟩]) (
 .reg none [
 ⟨some 38, none, .mov (.t 5)⟩,
 ⟨some 39, none, .mov (.t 11)⟩,
 ⟨some 40, none, .iaddr 1 (.t 38) (.t 39)⟩,
 ⟨some 41, none, .load false 1 (.t 40)⟩,
 ⟨some 42, none, .mov (.t 9)⟩,
 ⟨some 43, none, .bin .add (.t 41) (.t 42)⟩,
 ⟨some 44, none, .iaddr 1 (.t 38) (.t 39)⟩,
 ⟨none, none, .store 1 (.t 44) (.t 43)⟩]))) (
 .reg none [
 ⟨some 45, none, .bin .add (.t 34) (.c (.int .i64 1))⟩,
 ⟨some 34, none, .mov (.t 45)⟩])))
def b116_2 : ACode := .gh [.keep [1, 5, 6, 9, 22, 23, 24, 32, 33, 34]] (.gh [] l116_2)
def l116_1 : ACode :=
 .seq (
 .reg none [
 ⟨some 25, none, .bin .lss (.t 24) (.t 23)⟩]) (
 .seq (
 .cond (.t 25) (
 .skip) (
 .exit 0)) (
 .seq (
 .block 1 (
 .seq (
 .reg none [
 ⟨some 26, none, .mov (.t 24)⟩,
 ⟨some 27, none, .iaddr 1 (.t 22) (.t 24)⟩,
 ⟨some 28, none, .load false 1 (.t 27)⟩,
 ⟨some 7, none, .mov (.t 26)⟩,
 ⟨some 8, none, .mov (.t 28)⟩]) (
 .seq (
 .reg none [
 ⟨some 9, none, .mov (.c (.int .i64 (-1)))⟩]) (
 .seq (
 .seq (
 .reg none [
 ⟨some 29, none, .mov (.t 6)⟩,
 ⟨some 30, none, .mov (.t 7)⟩,
 ⟨some 31, none, .ncall true 0 152 [(.t 29), (.t 30)]⟩]) (
 .cond (.t 31) (
 .reg none [
 ⟨some 9, none, .mov (.c (.int .i64 1))⟩]) (
 .skip))) (
 .seq (
 .reg none [
 ⟨some 32, none, .mov (.t 8)⟩,
 ⟨some 33, none, .len (.t 32)⟩,
 ⟨some 34, none, .mov (.c (.int .i64 0))⟩]) (
 .block 2 (
 .loop b116_2))))))) (
 .reg none [
 ⟨some 46, none, .bin .add (.t 24) (.c (.int .i64 1))⟩,
 ⟨some 24, none, .mov (.t 46)⟩])))
def b116_1 : ACode := .gh [.keep [1, 5, 6, 22, 23, 24]] (.gh [] l116_1)
def k116_0 : List AItem := .inLoop b116_0 :: [.inBlock 4,
 .code (.seq (
 .reg none [
 ⟨some 65, none, .mov (.t 12)⟩,
 ⟨some 4, none, .mov (.t 65)⟩]) (
 .ret))]
def k116_2 : List AItem := .inLoop b116_2 :: [.inBlock 2,
 .inBlock 1,
 .code (.reg none [
 ⟨some 46, none, .bin .add (.t 24) (.c (.int .i64 1))⟩,
 ⟨some 24, none, .mov (.t 46)⟩]),
 .inLoop b116_1,
 .inBlock 0,
 .code (.seq (
 .reg none [
 ⟨some 47, none, .mov (.t 1)⟩,
 ⟨some 48, none, .ncall true 116049 129 [(.t 47)]⟩,
 ⟨some 12, none, .mov (.t 48)⟩]) (
 .seq (
 .seq (
 .reg none [
 ⟨some 49, none, .mov (.t 5)⟩,
 ⟨some 50, none, .len (.t 49)⟩,
 ⟨some 51, none, .mov (.c (.int .i64 0))⟩]) (
 .block 4 (
 .loop b116_0))) (
 .seq (
 .reg none [
 ⟨some 65, none, .mov (.t 12)⟩,
 ⟨some 4, none, .mov (.t 65)⟩]) (
 .ret))))]
def k116_1 : List AItem := .inLoop b116_1 :: [.inBlock 0,
 .code (.seq (
 .reg none [
 ⟨some 47, none, .mov (.t 1)⟩,
 ⟨some 48, none, .ncall true 116049 129 [(.t 47)]⟩,
 ⟨some 12, none, .mov (.t 48)⟩]) (
 .seq (
 .seq (
 .reg none [
 ⟨some 49, none, .mov (.t 5)⟩,
 ⟨some 50, none, .len (.t 49)⟩,
 ⟨some 51, none, .mov (.c (.int .i64 0))⟩]) (
 .block 4 (
 .loop b116_0))) (
 .seq (
 .reg none [
 ⟨some 65, none, .mov (.t 12)⟩,
 ⟨some 4, none, .mov (.t 65)⟩]) (
 .ret))))]
def c116 : ACode :=
 .seq (
 .reg none [
 ⟨some 2, none, .box 116003 48 (.t 0)⟩,
 ⟨some 4, none, .mov (.c .nils)⟩]) (
 .seq (
 .reg none [
 ⟨some 15, none, .faddr 0 (.t 2)⟩,
 ⟨some 16, none, .load false 1 (.t 15)⟩,
 ⟨some 17, none, .mkslice 116018 3 1 (.int .i64 0) (.t 16)⟩,
 ⟨some 5, none, .mov (.t 17)⟩]) (
 .seq (
 .reg none [
 ⟨some 18, none, .load true 2 (.t 2)⟩,
 ⟨some 19, none, .mov (.t 1)⟩,
 ⟨some 20, none, .ncall true 116021 115 [(.t 18), (.t 19)]⟩,
 ⟨some 6, none, .mov (.t 20)⟩]) (
 .seq (
 .seq (
 .reg none [
 ⟨some 21, none, .faddr 1 (.t 2)⟩,
 ⟨some 22, none, .load false 1 (.t 21)⟩,
 ⟨some 23, none, .len (.t 22)⟩,
 ⟨some 24, none, .mov (.c (.int .i64 0))⟩]) (
 .block 0 (
 .loop b116_1))) (
 .seq (
 .reg none [
 ⟨some 47, none, .mov (.t 1)⟩,
 ⟨some 48, none, .ncall true 116049 129 [(.t 47)]⟩,
 ⟨some 12, none, .mov (.t 48)⟩]) (
 .seq (
 .seq (
 .reg none [
 ⟨some 49, none, .mov (.t 5)⟩,
 ⟨some 50, none, .len (.t 49)⟩,
 ⟨some 51, none, .mov (.c (.int .i64 0))⟩]) (
 .block 4 (
 .loop b116_0))) (
 .seq (
 .reg none [
 ⟨some 65, none, .mov (.t 12)⟩,
 ⟨some 4, none, .mov (.t 65)⟩]) (
 .ret)))))))
def a116 : AFunc := ⟨66, c116, [.tmp 4]⟩
/-! 117 cassegrain/cassegrainref05.AreErr params [25] nfree 0 ntmps 6 -/
def c117 : ACode :=
 .seq (
 .reg none [
 ⟨some 2, none, .mov (.c (.int .i64 0))⟩]) (
 .seq (
 .seq (
 .reg none [
 ⟨some 3, none, .mov (.t 0)⟩,
 ⟨some 4, none, .ncall true 0 48 [(.t 3)]⟩,
 ⟨some 5, none, .not (.t 4)⟩]) (
 .cond (.t 5) (
 .seq (
 .reg none [
 ⟨some 2, none, .mov (.c (.int .i64 2))⟩]) (
 .ret)) (
 .skip))) (
 .seq (
 .reg none [
 ⟨some 2, none, .mov (.c (.int .i64 0))⟩]) (
 .ret)))
def a117 : AFunc := ⟨6, c117, [.tmp 2]⟩
/-! 118 cassegrain/code.bitsErr params [25] nfree 0 ntmps 11 -/
def c118 : ACode :=
 .seq (
 .reg none [
 ⟨some 2, none, .mov (.c (.int .i64 0))⟩]) (
 .seq (
 .reg none [
 ⟨some 3, none, .mov (.t 0)⟩,
 ⟨some 4, none, .len (.t 3)⟩,
 ⟨some 5, none, .bin .leq (.t 4) (.c (.int .i64 300))⟩,
 ⟨some 6, none, .ncall true 0 111 [(.t 5), (.c (.int .i64 8))]⟩,
 ⟨some 7, none, .mov (.t 0)⟩,
 ⟨some 8, none, .ncall true 0 103 [(.t 7), (.c (.int .i64 0)), (.c (.int .i64 1))]⟩,
 ⟨some 9, none, .bslice 118010 27 1 [(.t 6), (.t 8)]⟩,
 ⟨some 10, none, .ncall true 0 105 [(.t 9)]⟩,
 ⟨some 2, none, .mov (.t 10)⟩]) (
 .gh [.keep [2]] (
 .ret)))
def a118 : AFunc := ⟨11, c118, [.tmp 2]⟩
/-! 119 cassegrain/code.encode params [24, 25] nfree 0 ntmps 34 -/
def l119_0 : ACode :=
 .seq (
 .reg none [
 ⟨some 18, none, .bin .lss (.t 17) (.t 16)⟩]) (
 .seq (
 .cond (.t 18) (
 .skip) (
 .exit 0)) (
 .seq (
 .block 1 (
 .seq (
 .reg none [
 ⟨some 19, none, .iaddr 1 (.t 15) (.t 17)⟩,
 ⟨some 20, none, .load false 1 (.t 19)⟩,
 ⟨some 8, none, .mov (.t 20)⟩]) (
 .seq (
 .reg none [
 ⟨some 22, none, .load true 3 (.t 2)⟩,
 ⟨some 23, none, .mov (.t 6)⟩,
 ⟨some 24, none, .mov (.t 8)⟩,
 ⟨some 25, none, .ncall true 0 121 [(.t 22), (.t 23), (.t 24)]⟩,
 ⟨some 21, none, .mov (.t 25)⟩,
 ⟨some 26, none, .ext 0 (.t 21)⟩,
 ⟨some 27, none, .ext 1 (.t 21)⟩,
 ⟨some 10, none, .alloc 119011 22 (.agg (.ints .i64 [0, 0]))⟩,
 ⟨some 9, none, .mov (.t 26)⟩,
 ⟨none, none, .store 2 (.t 10) (.t 27)⟩]) (
 .gh [.keep [2, 5, 9, 10, 15, 16, 17]] (
 .seq (
 .reg none [
 ⟨some 28, none, .mov (.t 5)⟩,
 ⟨some 29, none, .asl 2 (.t 10) none none⟩,
 ⟨some 30, none, .append 119031 3 1 (.t 28) (.t 29)⟩,
 ⟨some 5, none, .mov (.t 30)⟩]) (
 .reg none [
 ⟨some 31, none, .mov (.t 9)⟩,
 ⟨some 6, none, .mov (.t 31)⟩])))))) (
 .reg none [
 ⟨some 32, none, .bin .add (.t 17) (.c (.int .i64 1))⟩,
 ⟨some 17, none, .mov (.t 32)⟩])))
def b119_0 : ACode := .gh [.keep [2, 5, 6, 15, 16, 17]] (.gh [] l119_0)
def k119_0 : List AItem := .inLoop b119_0 :: [.inBlock 0,
 .code (.seq (
 .reg none [
 ⟨some 33, none, .mov (.t 5)⟩,
 ⟨some 4, none, .mov (.t 33)⟩]) (
 .ret))]
def c119 : ACode :=
 .seq (
 .reg none [
 ⟨some 2, none, .box 119003 24 (.t 0)⟩,
 ⟨some 4, none, .mov (.c .nils)⟩]) (
 .seq (
 .reg none [
 ⟨some 5, none, .mov (.c .nils)⟩]) (
 .seq (
 .reg none [
 ⟨some 6, none, .mov (.c (.int .i64 0))⟩]) (
 .seq (
 .seq (
 .reg (some [(1, 2), (1, 3), (1, 6), (4, 6)]) [
 ⟨some 11, none, .mov (.t 1)⟩,
 ⟨some 12, none, .ncall true 119013 129 [(.t 11)]⟩,
 ⟨some 13, none, .faddr 0 (.t 2)⟩,
 ⟨some 14, none, .load false 1 (.t 13)⟩,
 ⟨some 15, none, .appz 119016 3 1 (.int .i64 0) (.t 12) (.t 14)⟩,
 ⟨some 16, none, .len (.t 15)⟩,
 ⟨some 17, none, .mov (.c (.int .i64 0))⟩]) (
 .block 0 (
 .loop b119_0))) (
 .seq (
 .reg none [
 ⟨some 33, none, .mov (.t 5)⟩,
 ⟨some 4, none, .mov (.t 33)⟩]) (
 .ret)))))
def a119 : AFunc := ⟨34, c119, [.tmp 4]⟩
/-! 120 cassegrain/code.FreeDistance$1 params [3, 3] nfree 1 ntmps 22 -/
def c120 : ACode :=
 .seq (
 .reg none [
 ⟨some 5, none, .mov (.c (.int .i64 0))⟩,
 ⟨some 6, none, .mov (.c (.int .i64 0))⟩]) (
 .seq (
 .reg none [
 ⟨some 10, none, .load true 3 (.t 2)⟩,
 ⟨some 11, none, .mov (.t 0)⟩,
 ⟨some 12, none, .mov (.t 1)⟩,
 ⟨some 13, none, .ncall true 0 121 [(.t 10), (.t 11), (.t 12)]⟩,
 ⟨some 9, none, .mov (.t 13)⟩,
 ⟨some 14, none, .ext 0 (.t 9)⟩,
 ⟨some 15, none, .ext 1 (.t 9)⟩,
 ⟨some 8, none, .alloc 120009 22 (.agg (.ints .i64 [0, 0]))⟩,
 ⟨some 7, none, .mov (.t 14)⟩,
 ⟨none, none, .store 2 (.t 8) (.t 15)⟩]) (
 .gh [.keep [7, 8]] (
 .seq (
 .reg (some []) [
 ⟨some 16, none, .mov (.t 7)⟩,
 ⟨some 17, none, .aaddr 2 1 (.t 8) (.c (.int .i64 0))⟩,
 ⟨some 18, none, .load false 1 (.t 17)⟩,
 ⟨some 19, none, .aaddr 2 1 (.t 8) (.c (.int .i64 1))⟩,
 ⟨some 20, none, .load false 1 (.t 19)⟩,
 ⟨some 21, none, .bin .add (.t 18) (.t 20)⟩,
 ⟨some 5, none, .mov (.t 16)⟩,
 ⟨some 6, none, .mov (.t 21)⟩]) (
 .gh [.keep [5, 6]] (
 .ret)))))
def a120 : AFunc := ⟨22, c120, [.tmp 5, .tmp 6]⟩
/-! 121 cassegrain/code.step params [24, 3, 3] nfree 0 ntmps 35 -/
def l121_0 : ACode :=
 .seq (
 .reg none [
 ⟨some 20, none, .bin .lss (.t 19) (.c (.int .i64 2))⟩]) (
 .seq (
 .cond (.t 20) (
 .skip) (
 .exit 0)) (
 .seq (
 .block 1 (
 .seq (
 .reg none [
 ⟨some 21, none, .mov (.t 19)⟩,
 ⟨some 22, none, .idx 2 (.t 18) (.t 19)⟩,
 ⟨some 9, none, .mov (.t 21)⟩,
 ⟨some 10, none, .mov (.t 22)⟩]) (
 .reg none [
 ⟨some 23, none, .mov (.t 9)⟩,
 ⟨some 24, none, .mov (.t 8)⟩,
 ⟨some 25, none, .mov (.t 10)⟩,
 ⟨some 26, none, .bin .and (.t 24) (.t 25)⟩,
 ⟨some 27, none, .conv .u64 (.t 26)⟩,
 ⟨some 28, none, .ncall true 0 153 [(.t 27)]⟩,
 ⟨some 29, none, .bin .rem (.t 28) (.c (.int .i64 2))⟩,
 ⟨some 30, none, .aaddr 2 1 (.t 7) (.t 23)⟩,
 ⟨none, none, .store 1 (.t 30) (.t 29)⟩]))) (
 .reg none [
 ⟨some 31, none, .bin .add (.t 19) (.c (.int .i64 1))⟩,
 ⟨some 19, none, .mov (.t 31)⟩])))
def b121_0 : ACode := .gh [.keep [7, 8, 18, 19]] (.gh [] l121_0)
def k121_0 : List AItem := .inLoop b121_0 :: [.inBlock 0,
 .code (.seq (
 .reg (some []) [
 ⟨some 32, none, .mov (.t 8)⟩,
 ⟨some 33, none, .bin .shr (.t 32) (.c (.int .u64 1))⟩,
 ⟨some 34, none, .load true 2 (.t 7)⟩,
 ⟨some 6, none, .mov (.t 33)⟩,
 ⟨none, none, .store 2 (.t 7) (.t 34)⟩]) (
 .ret))]
def c121 : ACode :=
 .seq (
 .reg none [
 ⟨some 3, none, .box 121004 24 (.t 0)⟩,
 ⟨some 6, none, .mov (.c (.int .i64 0))⟩,
 ⟨some 7, none, .alloc 121008 22 (.agg (.ints .i64 [0, 0]))⟩]) (
 .seq (
 .reg none [
 ⟨some 11, none, .mov (.t 2)⟩,
 ⟨some 12, none, .faddr 0 (.t 3)⟩,
 ⟨some 13, none, .load false 1 (.t 12)⟩,
 ⟨some 14, none, .bin .shl (.t 11) (.t 13)⟩,
 ⟨some 15, none, .mov (.t 1)⟩,
 ⟨some 16, none, .bin .or (.t 14) (.t 15)⟩,
 ⟨some 8, none, .mov (.t 16)⟩]) (
 .gh [.keep [3, 7, 8]] (
 .seq (
 .seq (
 .reg none [
 ⟨some 17, none, .faddr 1 (.t 3)⟩,
 ⟨some 18, none, .load true 2 (.t 17)⟩,
 ⟨some 19, none, .mov (.c (.int .i64 0))⟩]) (
 .block 0 (
 .loop b121_0))) (
 .seq (
 .reg (some []) [
 ⟨some 32, none, .mov (.t 8)⟩,
 ⟨some 33, none, .bin .shr (.t 32) (.c (.int .u64 1))⟩,
 ⟨some 34, none, .load true 2 (.t 7)⟩,
 ⟨some 6, none, .mov (.t 33)⟩,
 ⟨none, none, .store 2 (.t 7) (.t 34)⟩]) (
 .ret)))))
def a121 : AFunc := ⟨35, c121, [.tmp 6, .cell 7 true 2]⟩
/-! 122 slices.Repeat[[]int,int] params [25, 3] nfree 0 ntmps 48 -/
def l122_0 : ACode :=
 .seq (
 .seq (
 .reg none [
 ⟨some 34, none, .mov (.t 8)⟩,
 ⟨some 35, none, .mov (.t 7)⟩,
 ⟨some 36, none, .len (.t 35)⟩,
 ⟨some 37, none, .bin .lss (.t 34) (.t 36)⟩]) (
 .cond (.t 37) (
 .skip) (
 .exit 0))) (
 .block 1 (
 .reg (some [(0, 7)]) [
 ⟨some 38, none, .mov (.t 8)⟩,
 ⟨some 39, none, .mov (.t 7)⟩,
 ⟨some 40, none, .mov (.t 8)⟩,
 ⟨some 41, none, .slc 1 (.t 39) (some (.t 40)) none none⟩,
 ⟨some 42, none, .mov (.t 7)⟩,
 ⟨some 43, none, .mov (.t 8)⟩,
 ⟨some 44, none, .slc 1 (.t 42) none (some (.t 43)) none⟩,
 ⟨some 45, none, .copy 1 (.t 41) (.t 44)⟩,
 ⟨some 46, none, .bin .add (.t 38) (.t 45)⟩,
 ⟨some 8, none, .mov (.t 46)⟩]))
def b122_0 : ACode := .gh [.keep [7, 8]] (.gh [] l122_0)
def k122_0 : List AItem := .inLoop b122_0 :: [.inBlock 0,
 .code (.seq (
 .reg none [
 ⟨some 47, none, .mov (.t 7)⟩,
 ⟨some 4, none, .mov (.t 47)⟩]) (
 .ret))]
def c122 : ACode :=
 .seq (
 .reg none [
 ⟨some 4, none, .mov (.c .nils)⟩]) (
 .seq (
 .seq (
 .reg none [
 ⟨some 9, none, .mov (.t 1)⟩,
 ⟨some 10, none, .bin .lss (.t 9) (.c (.int .i64 0))⟩]) (
 .cond (.t 10) (
 .junk /- op makeInterface -/) (
 .skip))) (
 .seq (
 .reg none [
 ⟨some 13, none, .mov (.t 0)⟩,
 ⟨some 14, none, .len (.t 13)⟩,
 ⟨some 15, none, .conv .u64 (.t 14)⟩,
 ⟨some 16, none, .mov (.t 1)⟩,
 ⟨some 17, none, .conv .u64 (.t 16)⟩,
 ⟨some 18, none, .ncall true 0 154 [(.t 15), (.t 17)]⟩,
 ⟨some 12, none, .mov (.t 18)⟩,
 ⟨some 19, none, .ext 0 (.t 12)⟩,
 ⟨some 20, none, .ext 1 (.t 12)⟩,
 ⟨some 5, none, .mov (.t 19)⟩,
 ⟨some 6, none, .mov (.t 20)⟩]) (
 .gh [.keep [0, 5, 6]] (
 .seq (
 .seq (
 .reg none [
 ⟨some 21, none, .mov (.t 5)⟩,
 ⟨some 22, none, .bin .gtr (.t 21) (.c (.int .u64 0))⟩,
 ⟨some 23, none, .mov (.t 22)⟩,
 ⟨some 24, (some (23, false)), .mov (.t 6)⟩,
 ⟨some 25, (some (23, false)), .bin .gtr (.t 24) (.c (.int .u64 9223372036854775807))⟩,
 ⟨some 26, none, .pick (.t 23) (.c (.bool true)) (.t 25)⟩]) (
 .cond (.t 26) (
 .junk /- op makeInterface -/) (
 .skip))) (
 .seq (
 .reg none [
 ⟨some 28, none, .mov (.t 6)⟩,
 ⟨some 29, none, .conv .i64 (.t 28)⟩,
 ⟨some 30, none, .mkslice 122031 3 1 (.int .i64 0) (.t 29)⟩,
 ⟨some 7, none, .mov (.t 30)⟩]) (
 .seq (
 .reg none [
 ⟨some 31, none, .mov (.t 7)⟩,
 ⟨some 32, none, .mov (.t 0)⟩,
 ⟨some 33, none, .copy 1 (.t 31) (.t 32)⟩,
 ⟨some 8, none, .mov (.t 33)⟩]) (
 .seq (
 .block 0 (
 .loop b122_0)) (
 .seq (
 .reg none [
 ⟨some 47, none, .mov (.t 7)⟩,
 ⟨some 4, none, .mov (.t 47)⟩]) (
 .ret)))))))))
def a122 : AFunc := ⟨48, c122, [.tmp 4]⟩
/-! 124 cassegrain/code.turned params [25, 3] nfree 0 ntmps 40 -/
def l124_1 : ACode :=
 .seq (
 .reg none [
 ⟨some 22, none, .bin .lss (.t 21) (.t 20)⟩]) (
 .seq (
 .cond (.t 22) (
 .skip) (
 .exit 2)) (
 .seq (
 .block 3 (
 .seq (
 .reg none [
 ⟨some 23, none, .mov (.t 21)⟩,
 ⟨some 7, none, .mov (.t 23)⟩]) (
 .reg none [
 ⟨some 24, none, .mov (.t 5)⟩,
 ⟨some 25, none, .mov (.t 0)⟩,
 ⟨some 26, none, .mov (.t 7)⟩,
 ⟨some 27, none, .mov (.t 0)⟩,
 ⟨some 28, none, .len (.t 27)⟩,
 ⟨some 29, none, .mov (.t 1)⟩,
 ⟨some 30, none, .bin .quo (.t 28) (.t 29)⟩,
 ⟨some 31, none, .bin .mul (.t 26) (.t 30)⟩,
 ⟨some 32, none, .mov (.t 6)⟩,
 ⟨some 33, none, .bin .add (.t 31) (.t 32)⟩,
 ⟨some 34, none, .iaddr 1 (.t 25) (.t 33)⟩,
 ⟨some 35, none, .load false 1 (.t 34)⟩,
 ⟨some 36, none, .bslice 124037 3 1 [(.t 35)]⟩,
 ⟨some 37, none, .append 124038 3 1 (.t 24) (.t 36)⟩,
 ⟨some 5, none, .mov (.t 37)⟩]))) (
 .reg none [
 ⟨some 38, none, .bin .add (.t 21) (.c (.int .i64 1))⟩,
 ⟨some 21, none, .mov (.t 38)⟩])))
def b124_1 : ACode := .gh [.keep [0, 1, 5, 6, 20, 21]] (.gh [] l124_1)
def l124_0 : ACode :=
 .seq (
 .seq (
 .reg none [
 ⟨some 8, none, .mov (.t 1)⟩,
 ⟨some 9, none, .bin .gtr (.t 8) (.c (.int .i64 0))⟩,
 ⟨some 10, none, .mov (.t 9)⟩,
 ⟨some 11, (some (10, true)), .mov (.t 6)⟩,
 ⟨some 12, (some (10, true)), .mov (.t 0)⟩,
 ⟨some 13, (some (10, true)), .len (.t 12)⟩,
 ⟨some 14, (some (10, true)), .mov (.t 1)⟩,
 ⟨some 15, (some (10, true)), .bin .quo (.t 13) (.t 14)⟩,
 ⟨some 16, (some (10, true)), .bin .lss (.t 11) (.t 15)⟩,
 ⟨some 17, none, .pick (.t 10) (.t 16) (.c (.bool false))⟩]) (
 .gh [.keep [0, 1, 5, 6, 17]] (
 .cond (.t 17) (
 .skip) (
 .exit 0)))) (
 .seq (
 .block 1 (
 .seq (
 .reg none [
 ⟨some 20, none, .mov (.t 1)⟩,
 ⟨some 21, none, .mov (.c (.int .i64 0))⟩]) (
 .block 2 (
 .loop b124_1)))) (
 .reg none [
 ⟨some 18, none, .mov (.t 6)⟩,
 ⟨some 19, none, .bin .add (.t 18) (.c (.int .i64 1))⟩,
 ⟨some 6, none, .mov (.t 19)⟩]))
def b124_0 : ACode := .gh [.keep [0, 1, 5, 6]] (.gh [] l124_0)
def k124_1 : List AItem := .inLoop b124_1 :: [.inBlock 2,
 .inBlock 1,
 .code (.reg none [
 ⟨some 18, none, .mov (.t 6)⟩,
 ⟨some 19, none, .bin .add (.t 18) (.c (.int .i64 1))⟩,
 ⟨some 6, none, .mov (.t 19)⟩]),
 .inLoop b124_0,
 .inBlock 0,
 .code (.seq (
 .reg none [
 ⟨some 39, none, .mov (.t 5)⟩,
 ⟨some 4, none, .mov (.t 39)⟩]) (
 .ret))]
def k124_0 : List AItem := .inLoop b124_0 :: [.inBlock 0,
 .code (.seq (
 .reg none [
 ⟨some 39, none, .mov (.t 5)⟩,
 ⟨some 4, none, .mov (.t 39)⟩]) (
 .ret))]
def c124 : ACode :=
 .seq (
 .reg none [
 ⟨some 4, none, .mov (.c .nils)⟩]) (
 .seq (
 .reg none [
 ⟨some 5, none, .mov (.c .nils)⟩]) (
 .seq (
 .seq (
 .reg none [
 ⟨some 6, none, .mov (.c (.int .i64 0))⟩]) (
 .block 0 (
 .loop b124_0))) (
 .seq (
 .reg none [
 ⟨some 39, none, .mov (.t 5)⟩,
 ⟨some 4, none, .mov (.t 39)⟩]) (
 .ret))))
def a124 : AFunc := ⟨40, c124, [.tmp 4]⟩
/-! 125 cassegrain/code.contribution params [3, 3] nfree 0 ntmps 10 -/
def c125 : ACode :=
 .seq (
 .reg none [
 ⟨some 4, none, .mov (.c (.int .i64 0))⟩]) (
 .seq (
 .seq (
 .reg none [
 ⟨some 5, none, .mov (.t 0)⟩,
 ⟨some 6, none, .bin .eql (.t 5) (.c (.int .i64 0))⟩]) (
 .cond (.t 6) (
 .seq (
 .reg none [
 ⟨some 7, none, .mov (.t 1)⟩,
 ⟨some 4, none, .mov (.t 7)⟩]) (
 .ret)) (
 .skip))) (
 .seq (
 .reg none [
 ⟨some 8, none, .mov (.t 1)⟩,
 ⟨some 9, none, .neg (.t 8)⟩,
 ⟨some 4, none, .mov (.t 9)⟩]) (
 .ret)))
def a125 : AFunc := ⟨10, c125, [.tmp 4]⟩
/-! 126 (cassegrain/code.trellis).steps params [123] nfree 0 ntmps 7 -/
def c126 : ACode :=
 .seq (
 .reg none [
 ⟨some 1, none, .box 126002 123 (.t 0)⟩,
 ⟨some 2, none, .mov (.c (.int .i64 0))⟩]) (
 .seq (
 .reg none [
 ⟨some 3, none, .faddr 3 (.t 1)⟩,
 ⟨some 4, none, .load false 1 (.t 3)⟩,
 ⟨some 5, none, .len (.t 4)⟩,
 ⟨some 6, none, .bin .quo (.t 5) (.c (.int .i64 2))⟩,
 ⟨some 2, none, .mov (.t 6)⟩]) (
 .ret))
def a126 : AFunc := ⟨7, c126, [.tmp 2]⟩
/-! 127 (cassegrain/code.trellis).states params [123] nfree 0 ntmps 7 -/
def c127 : ACode :=
 .seq (
 .reg none [
 ⟨some 1, none, .box 127002 123 (.t 0)⟩,
 ⟨some 2, none, .mov (.c (.int .i64 0))⟩]) (
 .seq (
 .reg none [
 ⟨some 3, none, .faddr 0 (.t 1)⟩,
 ⟨some 4, none, .faddr 0 (.t 3)⟩,
 ⟨some 5, none, .load false 1 (.t 4)⟩,
 ⟨some 6, none, .bin .shl (.c (.int .i64 1)) (.t 5)⟩,
 ⟨some 2, none, .mov (.t 6)⟩]) (
 .ret))
def a127 : AFunc := ⟨7, c127, [.tmp 2]⟩
/-! 128 (cassegrain/code.trellis).branches params [123, 3] nfree 0 ntmps 6 -/
def c128 : ACode :=
 .seq (
 .reg none [
 ⟨some 2, none, .box 128003 123 (.t 0)⟩,
 ⟨some 3, none, .box 128004 3 (.t 1)⟩,
 ⟨some 4, none, .mov (.c (.val .nilFunc))⟩]) (
 .seq (
 .reg none [
 ⟨some 5, none, .mkfn 155 [(.t 2), (.t 3)]⟩,
 ⟨some 4, none, .mov (.t 5)⟩]) (
 .ret))
def a128 : AFunc := ⟨6, c128, [.tmp 4]⟩
/-! 129 slices.Clone[[]int,int] params [25] nfree 0 ntmps 8 -/
def c129 : ACode :=
 .seq (
 .reg none [
 ⟨some 2, none, .mov (.c .nils)⟩]) (
 .seq (
 .seq (
 .reg none [
 ⟨some 3, none, .mov (.t 0)⟩,
 ⟨some 4, none, .isnil false (.t 3)⟩]) (
 .cond (.t 4) (
 .seq (
 .reg none [
 ⟨some 2, none, .mov (.c .nils)⟩]) (
 .ret)) (
 .skip))) (
 .seq (
 .reg none [
 ⟨some 5, none, .bslice 129006 3 1 []⟩,
 ⟨some 6, none, .mov (.t 0)⟩,
 ⟨some 7, none, .append 129008 3 1 (.t 5) (.t 6)⟩,
 ⟨some 2, none, .mov (.t 7)⟩]) (
 .ret)))
def a129 : AFunc := ⟨8, c129, [.tmp 2]⟩
/-! 130 cassegrain/code.searchErr params [48] nfree 0 ntmps 7 -/
def c130 : ACode :=
 .seq (
 .reg none [
 ⟨some 1, none, .box 130002 48 (.t 0)⟩,
 ⟨some 2, none, .mov (.c (.int .i64 0))⟩]) (
 .seq (
 .reg none [
 ⟨some 3, none, .faddr 0 (.t 1)⟩,
 ⟨some 4, none, .load false 1 (.t 3)⟩,
 ⟨some 5, none, .bin .leq (.t 4) (.c (.int .i64 14))⟩,
 ⟨some 6, none, .ncall true 0 111 [(.t 5), (.c (.int .i64 8))]⟩,
 ⟨some 2, none, .mov (.t 6)⟩]) (
 .ret))
def a130 : AFunc := ⟨7, c130, [.tmp 2]⟩
/-! 131 cassegrain/code.words params [48] nfree 0 ntmps 4 -/
def c131 : ACode :=
 .seq (
 .reg none [
 ⟨some 1, none, .box 131002 48 (.t 0)⟩,
 ⟨some 2, none, .mov (.c (.val .nilFunc))⟩]) (
 .seq (
 .reg none [
 ⟨some 3, none, .mkfn 156 [(.t 1)]⟩,
 ⟨some 2, none, .mov (.t 3)⟩]) (
 .ret))
def a131 : AFunc := ⟨4, c131, [.tmp 2]⟩
/-! 132 cassegrain/code.distance params [25, 25] nfree 0 ntmps 25 -/
def l132_0 : ACode :=
 .seq (
 .reg none [
 ⟨some 10, none, .bin .lss (.t 9) (.t 8)⟩]) (
 .seq (
 .cond (.t 10) (
 .skip) (
 .exit 0)) (
 .seq (
 .block 1 (
 .seq (
 .reg none [
 ⟨some 11, none, .mov (.t 9)⟩,
 ⟨some 6, none, .mov (.t 11)⟩]) (
 .reg (some []) [
 ⟨some 12, none, .mov (.t 5)⟩,
 ⟨some 13, none, .mov (.t 0)⟩,
 ⟨some 14, none, .mov (.t 6)⟩,
 ⟨some 15, none, .iaddr 1 (.t 13) (.t 14)⟩,
 ⟨some 16, none, .load false 1 (.t 15)⟩,
 ⟨some 17, none, .mov (.t 1)⟩,
 ⟨some 18, none, .mov (.t 6)⟩,
 ⟨some 19, none, .iaddr 1 (.t 17) (.t 18)⟩,
 ⟨some 20, none, .load false 1 (.t 19)⟩,
 ⟨some 21, none, .bin .xor (.t 16) (.t 20)⟩,
 ⟨some 22, none, .bin .add (.t 12) (.t 21)⟩,
 ⟨some 5, none, .mov (.t 22)⟩]))) (
 .reg none [
 ⟨some 23, none, .bin .add (.t 9) (.c (.int .i64 1))⟩,
 ⟨some 9, none, .mov (.t 23)⟩])))
def b132_0 : ACode := .gh [.keep [0, 1, 5, 8, 9]] (.gh [] l132_0)
def k132_0 : List AItem := .inLoop b132_0 :: [.inBlock 0,
 .code (.seq (
 .reg none [
 ⟨some 24, none, .mov (.t 5)⟩,
 ⟨some 4, none, .mov (.t 24)⟩]) (
 .ret))]
def c132 : ACode :=
 .seq (
 .reg none [
 ⟨some 4, none, .mov (.c (.int .i64 0))⟩]) (
 .seq (
 .reg none [
 ⟨some 5, none, .mov (.c (.int .i64 0))⟩]) (
 .seq (
 .seq (
 .reg none [
 ⟨some 7, none, .mov (.t 0)⟩,
 ⟨some 8, none, .len (.t 7)⟩,
 ⟨some 9, none, .mov (.c (.int .i64 0))⟩]) (
 .block 0 (
 .loop b132_0))) (
 .seq (
 .reg none [
 ⟨some 24, none, .mov (.t 5)⟩,
 ⟨some 4, none, .mov (.t 24)⟩]) (
 .ret))))
def a132 : AFunc := ⟨25, c132, [.tmp 4]⟩
/-! 133 cassegrain/code.parityErr params [48] nfree 0 ntmps 11 -/
def c133 : ACode :=
 .seq (
 .reg none [
 ⟨some 1, none, .box 133002 48 (.t 0)⟩,
 ⟨some 2, none, .mov (.c (.int .i64 0))⟩]) (
 .seq (
 .reg none [
 ⟨some 6, none, .load true 2 (.t 1)⟩,
 ⟨some 7, none, .ncall true 0 35 [(.t 6)]⟩,
 ⟨some 5, none, .mov (.t 7)⟩,
 ⟨some 8, none, .ext 0 (.t 5)⟩,
 ⟨some 9, none, .ext 1 (.t 5)⟩,
 ⟨some 3, none, .mov (.t 8)⟩,
 ⟨some 4, none, .mov (.t 9)⟩]) (
 .gh [.keep [4]] (
 .seq (
 .reg none [
 ⟨some 10, none, .mov (.t 4)⟩,
 ⟨some 2, none, .mov (.t 10)⟩]) (
 .ret))))
def a133 : AFunc := ⟨11, c133, [.tmp 2]⟩
/-! 134 cassegrain/cassegrainbase.BitsOf params [3, 3] nfree 0 ntmps 23 -/
def l134_0 : ACode :=
 .seq (
 .seq (
 .reg none [
 ⟨some 11, none, .mov (.t 6)⟩,
 ⟨some 12, none, .bin .geq (.t 11) (.c (.int .i64 0))⟩]) (
 .cond (.t 12) (
 .skip) (
 .exit 0))) (
 .seq (
 .block 1 (
 .seq (
 .reg none [
 ⟨some 15, none, .mov (.t 5)⟩,
 ⟨some 16, none, .mov (.t 6)⟩,
 ⟨some 17, none, .mov (.t 0)⟩,
 ⟨some 18, none, .bin .rem (.t 17) (.c (.int .i64 2))⟩,
 ⟨some 19, none, .iaddr 1 (.t 15) (.t 16)⟩,
 ⟨none, none, .store 1 (.t 19) (.t 18)⟩]) (
 .reg none [
 ⟨some 20, none, .mov (.t 0)⟩,
 ⟨some 21, none, .bin .quo (.t 20) (.c (.int .i64 2))⟩,
 ⟨some 0, none, .mov (.t 21)⟩]))) (
 .reg none [
 ⟨some 13, none, .mov (.t 6)⟩,
 ⟨some 14, none, .bin .sub (.t 13) (.c (.int .i64 1))⟩,
 ⟨some 6, none, .mov (.t 14)⟩]))
def b134_0 : ACode := .gh [.keep [0, 5, 6]] (.gh [] l134_0)
def k134_0 : List AItem := .inLoop b134_0 :: [.inBlock 0,
 .code (.seq (
 .reg none [
 ⟨some 22, none, .mov (.t 5)⟩,
 ⟨some 4, none, .mov (.t 22)⟩]) (
 .ret))]
def c134 : ACode :=
 .seq (
 .reg none [
 ⟨some 4, none, .mov (.c .nils)⟩]) (
 .seq (
 .reg none [
 ⟨some 7, none, .mov (.t 1)⟩,
 ⟨some 8, none, .mkslice 134009 3 1 (.int .i64 0) (.t 7)⟩,
 ⟨some 5, none, .mov (.t 8)⟩]) (
 .seq (
 .seq (
 .reg none [
 ⟨some 9, none, .mov (.t 1)⟩,
 ⟨some 10, none, .bin .sub (.t 9) (.c (.int .i64 1))⟩,
 ⟨some 6, none, .mov (.t 10)⟩]) (
 .block 0 (
 .loop b134_0))) (
 .seq (
 .reg none [
 ⟨some 22, none, .mov (.t 5)⟩,
 ⟨some 4, none, .mov (.t 22)⟩]) (
 .ret))))
def a134 : AFunc := ⟨23, c134, [.tmp 4]⟩
/-! 140 (cassegrain/code.word).filled params [133, 3, 25] nfree 0 ntmps 87 -/
def l140_0 : ACode :=
 .seq (
 .reg none [
 ⟨some 75, none, .bin .lss (.t 74) (.t 73)⟩]) (
 .seq (
 .cond (.t 75) (
 .skip) (
 .exit 6)) (
 .seq (
 .block 7 (
 .seq (
 .reg none [
 ⟨some 76, none, .mov (.t 74)⟩,
 ⟨some 77, none, .iaddr 1 (.t 72) (.t 74)⟩,
 ⟨some 78, none, .load false 1 (.t 77)⟩,
 ⟨some 18, none, .mov (.t 76)⟩,
 ⟨some 19, none, .mov (.t 78)⟩]) (
 .reg none [
 ⟨some 79, none, .mov (.t 19)⟩,
 ⟨some 80, none, .mov (.t 16)⟩,
 ⟨some 81, none, .mov (.t 18)⟩,
 ⟨some 82, none, .iaddr 1 (.t 80) (.t 81)⟩,
 ⟨some 83, none, .load false 1 (.t 82)⟩,
 ⟨some 84, none, .aaddr 15 1 (.t 3) (.t 79)⟩,
 ⟨none, none, .store 1 (.t 84) (.t 83)⟩]))) (
 .reg none [
 ⟨some 85, none, .bin .add (.t 74) (.c (.int .i64 1))⟩,
 ⟨some 74, none, .mov (.t 85)⟩])))
def b140_0 : ACode := .gh [.keep [3, 6, 16, 72, 73, 74]] (.gh [] l140_0)
def l140_2 : ACode :=
 .seq (
 .reg none [
 ⟨some 41, none, .bin .lss (.t 40) (.t 39)⟩]) (
 .seq (
 .cond (.t 41) (
 .skip) (
 .exit 4)) (
 .seq (
 .block 5 (
 .seq (
 .reg none [
 ⟨some 42, none, .iaddr 1 (.t 38) (.t 40)⟩,
 ⟨some 43, none, .load false 1 (.t 42)⟩,
 ⟨some 15, none, .mov (.t 43)⟩]) (
 .reg none [
 ⟨some 44, none, .mov (.t 13)⟩,
 ⟨some 45, none, .mov (.t 11)⟩,
 ⟨some 46, none, .bin .add (.t 45) (.c (.int .i64 1))⟩,
 ⟨some 47, none, .mov (.t 15)⟩,
 ⟨some 48, none, .bin .sub (.c (.int .i64 14)) (.t 47)⟩,
 ⟨some 49, none, .bin .mul (.t 46) (.t 48)⟩,
 ⟨some 50, none, .ncall true 0 160 [(.t 49)]⟩,
 ⟨some 51, none, .bslice 140052 3 1 [(.t 50)]⟩,
 ⟨some 52, none, .append 140053 3 1 (.t 44) (.t 51)⟩,
 ⟨some 13, none, .mov (.t 52)⟩]))) (
 .reg none [
 ⟨some 53, none, .bin .add (.t 40) (.c (.int .i64 1))⟩,
 ⟨some 40, none, .mov (.t 53)⟩])))
def b140_2 : ACode := .gh [.keep [2, 3, 6, 10, 11, 12, 13, 31, 32, 33, 38, 39, 40]] (.gh [] l140_2)
def l140_1 : ACode :=
 .seq (
 .reg none [
 ⟨some 34, none, .bin .lss (.t 33) (.t 32)⟩]) (
 .seq (
 .cond (.t 34) (
 .skip) (
 .exit 2)) (
 .seq (
 .block 3 (
 .seq (
 .reg none [
 ⟨some 35, none, .mov (.t 33)⟩,
 ⟨some 36, none, .iaddr 1 (.t 31) (.t 33)⟩,
 ⟨some 37, none, .load false 1 (.t 36)⟩,
 ⟨some 11, none, .mov (.t 35)⟩,
 ⟨some 12, none, .mov (.t 37)⟩]) (
 .seq (
 .reg none [
 ⟨some 13, none, .mov (.c .nils)⟩]) (
 .seq (
 .seq (
 .reg none [
 ⟨some 38, none, .mov (.t 2)⟩,
 ⟨some 39, none, .len (.t 38)⟩,
 ⟨some 40, none, .mov (.c (.int .i64 0))⟩]) (
 .block 4 (
 .loop b140_2))) (
 .reg none [
 ⟨some 54, none, .mov (.t 10)⟩,
 ⟨some 55, none, .mov (.t 13)⟩,
 ⟨some 56, none, .mov (.t 12)⟩,
 ⟨some 57, none, .bslice 140058 3 1 [(.t 56)]⟩,
 ⟨some 58, none, .append 140059 3 1 (.t 55) (.t 57)⟩,
 ⟨some 59, none, .bslice 140060 25 1 [(.t 58)]⟩,
 ⟨some 60, none, .append 140061 25 1 (.t 54) (.t 59)⟩,
 ⟨some 10, none, .mov (.t 60)⟩]))))) (
 .reg none [
 ⟨some 61, none, .bin .add (.t 33) (.c (.int .i64 1))⟩,
 ⟨some 33, none, .mov (.t 61)⟩])))
def b140_1 : ACode := .gh [.keep [2, 3, 6, 10, 31, 32, 33]] (.gh [] l140_1)
def l140_3 : ACode :=
 .seq (
 .reg none [
 ⟨some 23, none, .bin .lss (.t 22) (.t 21)⟩]) (
 .seq (
 .cond (.t 23) (
 .skip) (
 .exit 0)) (
 .seq (
 .block 1 (
 .seq (
 .reg none [
 ⟨some 24, none, .iaddr 1 (.t 20) (.t 22)⟩,
 ⟨some 25, none, .load false 1 (.t 24)⟩,
 ⟨some 9, none, .mov (.t 25)⟩]) (
 .reg none [
 ⟨some 26, none, .mov (.t 9)⟩,
 ⟨some 27, none, .aaddr 15 1 (.t 3) (.t 26)⟩,
 ⟨none, none, .store 1 (.t 27) (.c (.int .i64 0))⟩]))) (
 .reg none [
 ⟨some 28, none, .bin .add (.t 22) (.c (.int .i64 1))⟩,
 ⟨some 22, none, .mov (.t 28)⟩])))
def b140_3 : ACode := .gh [.keep [1, 2, 3, 6, 20, 21, 22]] (.gh [] l140_3)
def k140_0 : List AItem := .inLoop b140_0 :: [.inBlock 6,
 .code (.seq (
 .reg none [
 ⟨some 86, none, .load true 15 (.t 3)⟩,
 ⟨none, none, .store 15 (.t 6) (.t 86)⟩,
 ⟨some 7, none, .mov (.c (.bool true))⟩]) (
 .ret))]
def k140_2 : List AItem := .inLoop b140_2 :: [.inBlock 4,
 .code (.reg none [
 ⟨some 54, none, .mov (.t 10)⟩,
 ⟨some 55, none, .mov (.t 13)⟩,
 ⟨some 56, none, .mov (.t 12)⟩,
 ⟨some 57, none, .bslice 140058 3 1 [(.t 56)]⟩,
 ⟨some 58, none, .append 140059 3 1 (.t 55) (.t 57)⟩,
 ⟨some 59, none, .bslice 140060 25 1 [(.t 58)]⟩,
 ⟨some 60, none, .append 140061 25 1 (.t 54) (.t 59)⟩,
 ⟨some 10, none, .mov (.t 60)⟩]),
 .inBlock 3,
 .code (.reg none [
 ⟨some 61, none, .bin .add (.t 33) (.c (.int .i64 1))⟩,
 ⟨some 33, none, .mov (.t 61)⟩]),
 .inLoop b140_1,
 .inBlock 2,
 .code (.seq (
 .reg none [
 ⟨some 63, none, .mov (.t 10)⟩,
 ⟨some 64, none, .mov (.t 2)⟩,
 ⟨some 65, none, .len (.t 64)⟩,
 ⟨some 66, none, .ncall true 140067 161 [(.t 63), (.t 65)]⟩,
 ⟨some 62, none, .mov (.t 66)⟩,
 ⟨some 67, none, .ext 0 (.t 62)⟩,
 ⟨some 68, none, .ext 1 (.t 62)⟩,
 ⟨some 16, none, .mov (.t 67)⟩,
 ⟨some 17, none, .mov (.t 68)⟩]) (
 .gh [.keep [2, 3, 6, 16, 17]] (
 .seq (
 .seq (
 .reg none [
 ⟨some 69, none, .mov (.t 17)⟩,
 ⟨some 70, none, .not (.t 69)⟩]) (
 .cond (.t 70) (
 .seq (
 .reg none [
 ⟨some 71, none, .build (.ints .i64 [0, 0, 0, 0, 0, 0, 0, 0, 0, 0, 0, 0, 0, 0, 0]) []⟩,
 ⟨none, none, .store 15 (.t 6) (.t 71)⟩,
 ⟨some 7, none, .mov (.c (.bool false))⟩]) (
 .ret)) (
 .skip))) (
 .seq (
 .seq (
 .reg none [
 ⟨some 72, none, .mov (.t 2)⟩,
 ⟨some 73, none, .len (.t 72)⟩,
 ⟨some 74, none, .mov (.c (.int .i64 0))⟩]) (
 .block 6 (
 .loop b140_0))) (
 .seq (
 .reg none [
 ⟨some 86, none, .load true 15 (.t 3)⟩,
 ⟨none, none, .store 15 (.t 6) (.t 86)⟩,
 ⟨some 7, none, .mov (.c (.bool true))⟩]) (
 .ret))))))]
def k140_1 : List AItem := .inLoop b140_1 :: [.inBlock 2,
 .code (.seq (
 .reg none [
 ⟨some 63, none, .mov (.t 10)⟩,
 ⟨some 64, none, .mov (.t 2)⟩,
 ⟨some 65, none, .len (.t 64)⟩,
 ⟨some 66, none, .ncall true 140067 161 [(.t 63), (.t 65)]⟩,
 ⟨some 62, none, .mov (.t 66)⟩,
 ⟨some 67, none, .ext 0 (.t 62)⟩,
 ⟨some 68, none, .ext 1 (.t 62)⟩,
 ⟨some 16, none, .mov (.t 67)⟩,
 ⟨some 17, none, .mov (.t 68)⟩]) (
 .gh [.keep [2, 3, 6, 16, 17]] (
 .seq (
 .seq (
 .reg none [
 ⟨some 69, none, .mov (.t 17)⟩,
 ⟨some 70, none, .not (.t 69)⟩]) (
 .cond (.t 70) (
 .seq (
 .reg none [
 ⟨some 71, none, .build (.ints .i64 [0, 0, 0, 0, 0, 0, 0, 0, 0, 0, 0, 0, 0, 0, 0]) []⟩,
 ⟨none, none, .store 15 (.t 6) (.t 71)⟩,
 ⟨some 7, none, .mov (.c (.bool false))⟩]) (
 .ret)) (
 .skip))) (
 .seq (
 .seq (
 .reg none [
 ⟨some 72, none, .mov (.t 2)⟩,
 ⟨some 73, none, .len (.t 72)⟩,
 ⟨some 74, none, .mov (.c (.int .i64 0))⟩]) (
 .block 6 (
 .loop b140_0))) (
 .seq (
 .reg none [
 ⟨some 86, none, .load true 15 (.t 3)⟩,
 ⟨none, none, .store 15 (.t 6) (.t 86)⟩,
 ⟨some 7, none, .mov (.c (.bool true))⟩]) (
 .ret))))))]
def k140_3 : List AItem := .inLoop b140_3 :: [.inBlock 0,
 .code (.seq (
 .reg none [
 ⟨some 10, none, .mov (.c .nils)⟩]) (
 .seq (
 .seq (
 .reg none [
 ⟨some 29, none, .load true 15 (.t 3)⟩,
 ⟨some 30, none, .mov (.t 1)⟩,
 ⟨some 31, none, .ncall true 140032 108 [(.t 29), (.t 30)]⟩,
 ⟨some 32, none, .len (.t 31)⟩,
 ⟨some 33, none, .mov (.c (.int .i64 0))⟩]) (
 .block 2 (
 .loop b140_1))) (
 .seq (
 .reg none [
 ⟨some 63, none, .mov (.t 10)⟩,
 ⟨some 64, none, .mov (.t 2)⟩,
 ⟨some 65, none, .len (.t 64)⟩,
 ⟨some 66, none, .ncall true 140067 161 [(.t 63), (.t 65)]⟩,
 ⟨some 62, none, .mov (.t 66)⟩,
 ⟨some 67, none, .ext 0 (.t 62)⟩,
 ⟨some 68, none, .ext 1 (.t 62)⟩,
 ⟨some 16, none, .mov (.t 67)⟩,
 ⟨some 17, none, .mov (.t 68)⟩]) (
 .gh [.keep [2, 3, 6, 16, 17]] (
 .seq (
 .seq (
 .reg none [
 ⟨some 69, none, .mov (.t 17)⟩,
 ⟨some 70, none, .not (.t 69)⟩]) (
 .cond (.t 70) (
 .seq (
 .reg none [
 ⟨some 71, none, .build (.ints .i64 [0, 0, 0, 0, 0, 0, 0, 0, 0, 0, 0, 0, 0, 0, 0]) []⟩,
 ⟨none, none, .store 15 (.t 6) (.t 71)⟩,
 ⟨some 7, none, .mov (.c (.bool false))⟩]) (
 .ret)) (
 .skip))) (
 .seq (
 .seq (
 .reg none [
 ⟨some 72, none, .mov (.t 2)⟩,
 ⟨some 73, none, .len (.t 72)⟩,
 ⟨some 74, none, .mov (.c (.int .i64 0))⟩]) (
 .block 6 (
 .loop b140_0))) (
 .seq (
 .reg none [
 ⟨some 86, none, .load true 15 (.t 3)⟩,
 ⟨none, none, .store 15 (.t 6) (.t 86)⟩,
 ⟨some 7, none, .mov (.c (.bool true))⟩]) (
 .ret))))))))]
def c140 : ACode :=
 .seq (
 .reg none [
 ⟨some 3, none, .box 140004 133 (.t 0)⟩,
 ⟨some 6, none, .alloc 140007 133 (.agg (.ints .i64 [0, 0, 0, 0, 0, 0, 0, 0, 0, 0, 0, 0, 0, 0, 0]))⟩,
 ⟨some 7, none, .mov (.c (.bool false))⟩]) (
 .seq (
 .seq (
 .reg none [
 ⟨some 20, none, .mov (.t 2)⟩,
 ⟨some 21, none, .len (.t 20)⟩,
 ⟨some 22, none, .mov (.c (.int .i64 0))⟩]) (
 .block 0 (
 .loop b140_3))) (
 .seq (
 .reg none [
 ⟨some 10, none, .mov (.c .nils)⟩]) (
 .seq (
 .seq (
 .reg none [
 ⟨some 29, none, .load true 15 (.t 3)⟩,
 ⟨some 30, none, .mov (.t 1)⟩,
 ⟨some 31, none, .ncall true 140032 108 [(.t 29), (.t 30)]⟩,
 ⟨some 32, none, .len (.t 31)⟩,
 ⟨some 33, none, .mov (.c (.int .i64 0))⟩]) (
 .block 2 (
 .loop b140_1))) (
 .seq (
 .reg none [
 ⟨some 63, none, .mov (.t 10)⟩,
 ⟨some 64, none, .mov (.t 2)⟩,
 ⟨some 65, none, .len (.t 64)⟩,
 ⟨some 66, none, .ncall true 140067 161 [(.t 63), (.t 65)]⟩,
 ⟨some 62, none, .mov (.t 66)⟩,
 ⟨some 67, none, .ext 0 (.t 62)⟩,
 ⟨some 68, none, .ext 1 (.t 62)⟩,
 ⟨some 16, none, .mov (.t 67)⟩,
 ⟨some 17, none, .mov (.t 68)⟩]) (
 .gh [.keep [2, 3, 6, 16, 17]] (
 .seq (
 .seq (
 .reg none [
 ⟨some 69, none, .mov (.t 17)⟩,
 ⟨some 70, none, .not (.t 69)⟩]) (
 .cond (.t 70) (
 .seq (
 .reg none [
 ⟨some 71, none, .build (.ints .i64 [0, 0, 0, 0, 0, 0, 0, 0, 0, 0, 0, 0, 0, 0, 0]) []⟩,
 ⟨none, none, .store 15 (.t 6) (.t 71)⟩,
 ⟨some 7, none, .mov (.c (.bool false))⟩]) (
 .ret)) (
 .skip))) (
 .seq (
 .seq (
 .reg none [
 ⟨some 72, none, .mov (.t 2)⟩,
 ⟨some 73, none, .len (.t 72)⟩,
 ⟨some 74, none, .mov (.c (.int .i64 0))⟩]) (
 .block 6 (
 .loop b140_0))) (
 .seq (
 .reg none [
 ⟨some 86, none, .load true 15 (.t 3)⟩,
 ⟨none, none, .store 15 (.t 6) (.t 86)⟩,
 ⟨some 7, none, .mov (.c (.bool true))⟩]) (
 .ret)))))))))
def a140 : AFunc := ⟨87, c140, [.cell 6 true 15, .tmp 7]⟩
/-! 146 (cassegrain/code.trellis).rest params [123] nfree 0 ntmps 71 -/
def l146_0 : ACode :=
 .seq (
 .seq (
 .reg none [
 ⟨some 33, none, .load false 1 (.t 5)⟩,
 ⟨some 34, none, .bin .geq (.t 33) (.c (.int .i64 0))⟩]) (
 .cond (.t 34) (
 .skip) (
 .exit 2))) (
 .seq (
 .block 3 (
 .seq (
 .reg none [
 ⟨some 37, none, .load true 4 (.t 1)⟩,
 ⟨some 38, none, .load false 1 (.t 5)⟩,
 ⟨some 39, none, .ncall true 0 128 [(.t 37), (.t 38)]⟩]) (
 .block 4 (
 .rf 146901 (.t 39) [40] (
 .reg none [
 ⟨some 6, none, .alloc 146007 145 (.agg (.gen [(.int .i64 0), (.int .i64 0), (.int .i64 0), (.flt .f32 0)]))⟩,
 ⟨none, none, .store 4 (.t 6) (.t 40)⟩]) (
 .block 5 (
 .reg (some []) [
 ⟨some 41, none, .load false 1 (.t 3)⟩,
 ⟨some 42, none, .load false 1 (.t 5)⟩,
 ⟨some 43, none, .iaddr 1 (.t 41) (.t 42)⟩,
 ⟨some 44, none, .load false 1 (.t 43)⟩,
 ⟨some 45, none, .faddr 0 (.t 6)⟩,
 ⟨some 46, none, .load false 1 (.t 45)⟩,
 ⟨some 47, none, .load false 1 (.t 3)⟩,
 ⟨some 48, none, .load false 1 (.t 5)⟩,
 ⟨some 49, none, .iaddr 1 (.t 47) (.t 48)⟩,
 ⟨some 50, none, .load false 1 (.t 49)⟩,
 ⟨some 51, none, .faddr 0 (.t 6)⟩,
 ⟨some 52, none, .load false 1 (.t 51)⟩,
 ⟨some 53, none, .iaddr 1 (.t 50) (.t 52)⟩,
 ⟨some 54, none, .load false 1 (.t 53)⟩,
 ⟨some 55, none, .load false 1 (.t 3)⟩,
 ⟨some 56, none, .load false 1 (.t 5)⟩,
 ⟨some 57, none, .bin .add (.t 56) (.c (.int .i64 1))⟩,
 ⟨some 58, none, .iaddr 1 (.t 55) (.t 57)⟩,
 ⟨some 59, none, .load false 1 (.t 58)⟩,
 ⟨some 60, none, .faddr 2 (.t 6)⟩,
 ⟨some 61, none, .load false 1 (.t 60)⟩,
 ⟨some 62, none, .iaddr 1 (.t 59) (.t 61)⟩,
 ⟨some 63, none, .load false 1 (.t 62)⟩,
 ⟨some 64, none, .faddr 3 (.t 6)⟩,
 ⟨some 65, none, .load false 1 (.t 64)⟩,
 ⟨some 66, none, .bin .add (.t 63) (.t 65)⟩,
 ⟨some 67, none, .mm true (.t 54) (.t 66)⟩,
 ⟨some 68, none, .iaddr 1 (.t 44) (.t 46)⟩,
 ⟨none, none, .store 1 (.t 68) (.t 67)⟩])))))) (
 .seq (
 .seq (
 .reg none [
 ⟨some 69, none, .load false 1 (.t 5)⟩]) (
 .reg none [
 ⟨some 5, none, .alloc 146006 3 (.int .i64 0)⟩,
 ⟨none, none, .store 1 (.t 5) (.t 69)⟩])) (
 .reg none [
 ⟨some 35, none, .load false 1 (.t 5)⟩,
 ⟨some 36, none, .bin .sub (.t 35) (.c (.int .i64 1))⟩,
 ⟨none, none, .store 1 (.t 5) (.t 36)⟩])))
def b146_0 : ACode := .gh [.keep [1, 3, 5]] (.gh [] l146_0)
def l146_1 : ACode :=
 .seq (
 .reg none [
 ⟨some 14, none, .bin .lss (.t 13) (.t 12)⟩]) (
 .seq (
 .cond (.t 14) (
 .skip) (
 .exit 0)) (
 .seq (
 .block 1 (
 .seq (
 .reg none [
 ⟨some 15, none, .mov (.t 13)⟩,
 ⟨some 4, none, .mov (.t 15)⟩]) (
 .reg (some [(0, 2), (0, 5), (1, 2), (1, 5), (2, 3), (2, 4)]) [
 ⟨some 16, none, .load false 1 (.t 3)⟩,
 ⟨some 17, none, .mov (.t 4)⟩,
 ⟨some 18, none, .bslice 146019 143 1 [(.c (.flt .f32 3351465984))]⟩,
 ⟨some 19, none, .load true 4 (.t 1)⟩,
 ⟨some 20, none, .ncall true 0 127 [(.t 19)]⟩,
 ⟨some 21, none, .ncall true 146022 163 [(.t 18), (.t 20)]⟩,
 ⟨some 22, none, .iaddr 1 (.t 16) (.t 17)⟩,
 ⟨none, none, .store 1 (.t 22) (.t 21)⟩]))) (
 .reg none [
 ⟨some 23, none, .bin .add (.t 13) (.c (.int .i64 1))⟩,
 ⟨some 13, none, .mov (.t 23)⟩])))
def b146_1 : ACode := .gh [.keep [1, 3, 12, 13]] (.gh [] l146_1)
def k146_0 : List AItem := .inLoop b146_0 :: [.inBlock 2,
 .code (.seq (
 .reg none [
 ⟨some 70, none, .load false 1 (.t 3)⟩,
 ⟨some 2, none, .mov (.t 70)⟩]) (
 .ret))]
def k146_1 : List AItem := .inLoop b146_1 :: [.inBlock 0,
 .code (.seq (
 .reg (some []) [
 ⟨some 24, none, .load false 1 (.t 3)⟩,
 ⟨some 25, none, .load true 4 (.t 1)⟩,
 ⟨some 26, none, .ncall true 0 126 [(.t 25)]⟩,
 ⟨some 27, none, .iaddr 1 (.t 24) (.t 26)⟩,
 ⟨some 28, none, .load false 1 (.t 27)⟩,
 ⟨some 29, none, .iaddr 1 (.t 28) (.c (.int .i64 0))⟩,
 ⟨none, none, .store 1 (.t 29) (.c (.flt .f32 0))⟩]) (
 .gh [.keep [1, 3]] (
 .seq (
 .seq (
 .reg none [
 ⟨some 30, none, .load true 4 (.t 1)⟩,
 ⟨some 31, none, .ncall true 0 126 [(.t 30)]⟩,
 ⟨some 32, none, .bin .sub (.t 31) (.c (.int .i64 1))⟩,
 ⟨some 5, none, .alloc 146006 3 (.int .i64 0)⟩,
 ⟨none, none, .store 1 (.t 5) (.t 32)⟩]) (
 .block 2 (
 .loop b146_0))) (
 .seq (
 .reg none [
 ⟨some 70, none, .load false 1 (.t 3)⟩,
 ⟨some 2, none, .mov (.t 70)⟩]) (
 .ret)))))]
def c146 : ACode :=
 .seq (
 .reg none [
 ⟨some 1, none, .box 146002 123 (.t 0)⟩,
 ⟨some 2, none, .mov (.c .nils)⟩]) (
 .seq (
 .reg none [
 ⟨some 7, none, .load true 4 (.t 1)⟩,
 ⟨some 8, none, .ncall true 0 126 [(.t 7)]⟩,
 ⟨some 9, none, .bin .add (.t 8) (.c (.int .i64 1))⟩,
 ⟨some 10, none, .mkslice 146011 170 1 .nils (.t 9)⟩,
 ⟨some 3, none, .alloc 146004 168 .nils⟩,
 ⟨none, none, .store 1 (.t 3) (.t 10)⟩]) (
 .seq (
 .seq (
 .reg none [
 ⟨some 11, none, .load false 1 (.t 3)⟩,
 ⟨some 12, none, .len (.t 11)⟩,
 ⟨some 13, none, .mov (.c (.int .i64 0))⟩]) (
 .block 0 (
 .loop b146_1))) (
 .seq (
 .reg (some []) [
 ⟨some 24, none, .load false 1 (.t 3)⟩,
 ⟨some 25, none, .load true 4 (.t 1)⟩,
 ⟨some 26, none, .ncall true 0 126 [(.t 25)]⟩,
 ⟨some 27, none, .iaddr 1 (.t 24) (.t 26)⟩,
 ⟨some 28, none, .load false 1 (.t 27)⟩,
 ⟨some 29, none, .iaddr 1 (.t 28) (.c (.int .i64 0))⟩,
 ⟨none, none, .store 1 (.t 29) (.c (.flt .f32 0))⟩]) (
 .gh [.keep [1, 3]] (
 .seq (
 .seq (
 .reg none [
 ⟨some 30, none, .load true 4 (.t 1)⟩,
 ⟨some 31, none, .ncall true 0 126 [(.t 30)]⟩,
 ⟨some 32, none, .bin .sub (.t 31) (.c (.int .i64 1))⟩,
 ⟨some 5, none, .alloc 146006 3 (.int .i64 0)⟩,
 ⟨none, none, .store 1 (.t 5) (.t 32)⟩]) (
 .block 2 (
 .loop b146_0))) (
 .seq (
 .reg none [
 ⟨some 70, none, .load false 1 (.t 3)⟩,
 ⟨some 2, none, .mov (.t 70)⟩]) (
 .ret)))))))
def a146 : AFunc := ⟨71, c146, [.tmp 2]⟩
/-! 147 (cassegrain/code.trellis).bits params [123] nfree 0 ntmps 9 -/
def c147 : ACode :=
 .seq (
 .reg none [
 ⟨some 1, none, .box 147002 123 (.t 0)⟩,
 ⟨some 2, none, .mov (.c (.int .i64 0))⟩]) (
 .seq (
 .reg (some []) [
 ⟨some 3, none, .load true 4 (.t 1)⟩,
 ⟨some 4, none, .ncall true 0 126 [(.t 3)]⟩,
 ⟨some 5, none, .faddr 0 (.t 1)⟩,
 ⟨some 6, none, .faddr 0 (.t 5)⟩,
 ⟨some 7, none, .load false 1 (.t 6)⟩,
 ⟨some 8, none, .bin .sub (.t 4) (.t 7)⟩,
 ⟨some 2, none, .mov (.t 8)⟩]) (
 .gh [.keep [2]] (
 .ret)))
def a147 : AFunc := ⟨9, c147, [.tmp 2]⟩
/-! 148 cassegrain/cassegrainref05.output params [3, 3] nfree 0 ntmps 20 -/
def l148_0 : ACode :=
 .seq (
 .seq (
 .reg none [
 ⟨some 10, none, .mov (.t 6)⟩,
 ⟨some 11, none, .bin .gtr (.t 10) (.c (.int .i64 0))⟩]) (
 .cond (.t 11) (
 .skip) (
 .exit 0))) (
 .seq (
 .block 1 (
 .reg none [
 ⟨some 14, none, .mov (.t 5)⟩,
 ⟨some 15, none, .mov (.t 6)⟩,
 ⟨some 16, none, .bin .rem (.t 15) (.c (.int .i64 2))⟩,
 ⟨some 17, none, .bin .add (.t 14) (.t 16)⟩,
 ⟨some 5, none, .mov (.t 17)⟩])) (
 .reg none [
 ⟨some 12, none, .mov (.t 6)⟩,
 ⟨some 13, none, .bin .quo (.t 12) (.c (.int .i64 2))⟩,
 ⟨some 6, none, .mov (.t 13)⟩]))
def b148_0 : ACode := .gh [.keep [5, 6]] (.gh [] l148_0)
def k148_0 : List AItem := .inLoop b148_0 :: [.inBlock 0,
 .code (.seq (
 .reg none [
 ⟨some 18, none, .mov (.t 5)⟩,
 ⟨some 19, none, .bin .rem (.t 18) (.c (.int .i64 2))⟩,
 ⟨some 4, none, .mov (.t 19)⟩]) (
 .ret))]
def c148 : ACode :=
 .seq (
 .reg none [
 ⟨some 4, none, .mov (.c (.int .i64 0))⟩]) (
 .seq (
 .reg none [
 ⟨some 5, none, .mov (.c (.int .i64 0))⟩]) (
 .seq (
 .seq (
 .reg none [
 ⟨some 7, none, .mov (.t 0)⟩,
 ⟨some 8, none, .mov (.t 1)⟩,
 ⟨some 9, none, .bin .and (.t 7) (.t 8)⟩,
 ⟨some 6, none, .mov (.t 9)⟩]) (
 .block 0 (
 .loop b148_0))) (
 .seq (
 .reg none [
 ⟨some 18, none, .mov (.t 5)⟩,
 ⟨some 19, none, .bin .rem (.t 18) (.c (.int .i64 2))⟩,
 ⟨some 4, none, .mov (.t 19)⟩]) (
 .ret))))
def a148 : AFunc := ⟨20, c148, [.tmp 4]⟩
/-! 149 slices.ContainsFunc[[]int,int] params [25, 40] nfree 0 ntmps 9 -/
def c149 : ACode :=
 .seq (
 .reg none [
 ⟨some 4, none, .mov (.c (.bool false))⟩]) (
 .seq (
 .reg none [
 ⟨some 5, none, .mov (.t 0)⟩,
 ⟨some 6, none, .mov (.t 1)⟩,
 ⟨some 7, none, .ncall true 0 164 [(.t 5), (.t 6)]⟩,
 ⟨some 8, none, .bin .geq (.t 7) (.c (.int .i64 0))⟩,
 ⟨some 4, none, .mov (.t 8)⟩]) (
 .ret))
def a149 : AFunc := ⟨9, c149, [.tmp 4]⟩
/-! 150 cassegrain/code.rangeErr$1 params [3] nfree 2 ntmps 10 -/
def c150 : ACode :=
 .seq (
 .reg none [
 ⟨some 4, none, .mov (.c (.bool false))⟩]) (
 .seq (
 .reg none [
 ⟨some 5, none, .mov (.t 0)⟩,
 ⟨some 6, none, .load false 1 (.t 1)⟩,
 ⟨some 7, none, .load false 1 (.t 2)⟩,
 ⟨some 8, none, .ncall true 0 112 [(.t 5), (.t 6), (.t 7)]⟩,
 ⟨some 9, none, .not (.t 8)⟩,
 ⟨some 4, none, .mov (.t 9)⟩]) (
 .ret))
def a150 : AFunc := ⟨10, c150, [.tmp 4]⟩
/-! 151 (cassegrain/code.word).syndrome params [133, 3] nfree 0 ntmps 24 -/
def l151_0 : ACode :=
 .seq (
 .reg none [
 ⟨some 10, none, .bin .lss (.t 9) (.c (.int .i64 15))⟩]) (
 .seq (
 .cond (.t 10) (
 .skip) (
 .exit 0)) (
 .seq (
 .block 1 (
 .seq (
 .reg none [
 ⟨some 11, none, .mov (.t 9)⟩,
 ⟨some 12, none, .idx 15 (.t 8) (.t 9)⟩,
 ⟨some 6, none, .mov (.t 11)⟩,
 ⟨some 7, none, .mov (.t 12)⟩]) (
 .reg none [
 ⟨some 13, none, .mov (.t 5)⟩,
 ⟨some 14, none, .mov (.t 7)⟩,
 ⟨some 15, none, .mov (.t 1)⟩,
 ⟨some 16, none, .mov (.t 6)⟩,
 ⟨some 17, none, .bin .sub (.c (.int .i64 14)) (.t 16)⟩,
 ⟨some 18, none, .bin .mul (.t 15) (.t 17)⟩,
 ⟨some 19, none, .ncall true 0 160 [(.t 18)]⟩,
 ⟨some 20, none, .ncall true 0 104 [(.t 14), (.t 19)]⟩,
 ⟨some 21, none, .bin .xor (.t 13) (.t 20)⟩,
 ⟨some 5, none, .mov (.t 21)⟩]))) (
 .reg none [
 ⟨some 22, none, .bin .add (.t 9) (.c (.int .i64 1))⟩,
 ⟨some 9, none, .mov (.t 22)⟩])))
def b151_0 : ACode := .gh [.keep [1, 5, 8, 9]] (.gh [] l151_0)
def k151_0 : List AItem := .inLoop b151_0 :: [.inBlock 0,
 .code (.seq (
 .reg none [
 ⟨some 23, none, .mov (.t 5)⟩,
 ⟨some 4, none, .mov (.t 23)⟩]) (
 .ret))]
def c151 : ACode :=
 .seq (
 .reg none [
 ⟨some 2, none, .box 151003 133 (.t 0)⟩,
 ⟨some 4, none, .mov (.c (.int .i64 0))⟩]) (
 .seq (
 .reg none [
 ⟨some 5, none, .mov (.c (.int .i64 0))⟩]) (
 .seq (
 .seq (
 .reg none [
 ⟨some 8, none, .load true 15 (.t 2)⟩,
 ⟨some 9, none, .mov (.c (.int .i64 0))⟩]) (
 .block 0 (
 .loop b151_0))) (
 .seq (
 .reg none [
 ⟨some 23, none, .mov (.t 5)⟩,
 ⟨some 4, none, .mov (.t 23)⟩]) (
 .ret))))
def a151 : AFunc := ⟨24, c151, [.tmp 4]⟩
/-! 152 slices.Contains[[]int,int] params [25, 3] nfree 0 ntmps 9 -/
def c152 : ACode :=
 .seq (
 .reg none [
 ⟨some 4, none, .mov (.c (.bool false))⟩]) (
 .seq (
 .reg none [
 ⟨some 5, none, .mov (.t 0)⟩,
 ⟨some 6, none, .mov (.t 1)⟩,
 ⟨some 7, none, .ncall true 0 165 [(.t 5), (.t 6)]⟩,
 ⟨some 8, none, .bin .geq (.t 7) (.c (.int .i64 0))⟩,
 ⟨some 4, none, .mov (.t 8)⟩]) (
 .ret))
def a152 : AFunc := ⟨9, c152, [.tmp 4]⟩
/-! 153 math/bits.OnesCount params [167] nfree 0 ntmps 8 -/
def c153 : ACode :=
 .seq (
 .reg none [
 ⟨some 2, none, .mov (.c (.int .i64 0))⟩]) (
 .seq (
 .cond (.c (.bool false)) (
 .seq (
 .reg none [
 ⟨some 3, none, .mov (.t 0)⟩,
 ⟨some 4, none, .conv .u32 (.t 3)⟩,
 ⟨some 5, none, .ncall true 0 166 [(.t 4)]⟩,
 ⟨some 2, none, .mov (.t 5)⟩]) (
 .ret)) (
 .skip)) (
 .seq (
 .reg none [
 ⟨some 6, none, .mov (.t 0)⟩,
 ⟨some 7, none, .ncall true 0 167 [(.t 6)]⟩,
 ⟨some 2, none, .mov (.t 7)⟩]) (
 .ret)))
def a153 : AFunc := ⟨8, c153, [.tmp 2]⟩
/-! 154 math/bits.Mul params [167, 167] nfree 0 ntmps 30 -/
def c154 : ACode :=
 .seq (
 .reg none [
 ⟨some 4, none, .mov (.c (.int .u64 0))⟩,
 ⟨some 5, none, .mov (.c (.int .u64 0))⟩]) (
 .seq (
 .cond (.c (.bool false)) (
 .seq (
 .reg none [
 ⟨some 11, none, .mov (.t 0)⟩,
 ⟨some 12, none, .conv .u32 (.t 11)⟩,
 ⟨some 13, none, .mov (.t 1)⟩,
 ⟨some 14, none, .conv .u32 (.t 13)⟩,
 ⟨some 15, none, .ncall true 0 168 [(.t 12), (.t 14)]⟩,
 ⟨some 10, none, .mov (.t 15)⟩,
 ⟨some 16, none, .ext 0 (.t 10)⟩,
 ⟨some 17, none, .ext 1 (.t 10)⟩,
 ⟨some 6, none, .mov (.t 16)⟩,
 ⟨some 7, none, .mov (.t 17)⟩]) (
 .gh [.keep [6, 7]] (
 .seq (
 .reg none [
 ⟨some 18, none, .mov (.t 6)⟩,
 ⟨some 19, none, .conv .u64 (.t 18)⟩,
 ⟨some 20, none, .mov (.t 7)⟩,
 ⟨some 21, none, .conv .u64 (.t 20)⟩,
 ⟨some 4, none, .mov (.t 19)⟩,
 ⟨some 5, none, .mov (.t 21)⟩]) (
 .ret)))) (
 .skip)) (
 .seq (
 .reg none [
 ⟨some 23, none, .mov (.t 0)⟩,
 ⟨some 24, none, .mov (.t 1)⟩,
 ⟨some 25, none, .ncall true 0 169 [(.t 23), (.t 24)]⟩,
 ⟨some 22, none, .mov (.t 25)⟩,
 ⟨some 26, none, .ext 0 (.t 22)⟩,
 ⟨some 27, none, .ext 1 (.t 22)⟩,
 ⟨some 8, none, .mov (.t 26)⟩,
 ⟨some 9, none, .mov (.t 27)⟩]) (
 .gh [.keep [8, 9]] (
 .seq (
 .reg none [
 ⟨some 28, none, .mov (.t 8)⟩,
 ⟨some 29, none, .mov (.t 9)⟩,
 ⟨some 4, none, .mov (.t 28)⟩,
 ⟨some 5, none, .mov (.t 29)⟩]) (
 .ret)))))
def a154 : AFunc := ⟨30, c154, [.tmp 4, .tmp 5]⟩
/-! 155 (cassegrain/code.trellis).branches$1 params [176] nfree 2 ntmps 64 -/
def l155_1 : ACode :=
 .seq (
 .reg none [
 ⟨some 15, none, .bin .lss (.t 14) (.c (.int .i64 2))⟩]) (
 .seq (
 .cond (.t 15) (
 .skip) (
 .exit 2)) (
 .seq (
 .block 3 (
 .seq (
 .reg none [
 ⟨some 16, none, .mov (.t 14)⟩,
 ⟨some 5, none, .mov (.t 16)⟩]) (
 .seq (
 .seq (
 .reg (some []) [
 ⟨some 17, none, .mov (.t 5)⟩,
 ⟨some 18, none, .bin .eql (.t 17) (.c (.int .i64 1))⟩,
 ⟨some 19, none, .mov (.t 18)⟩,
 ⟨some 20, (some (19, true)), .load false 1 (.t 2)⟩,
 ⟨some 21, (some (19, true)), .load true 4 (.t 1)⟩,
 ⟨some 22, (some (19, true)), .ncall true 0 147 [(.t 21)]⟩,
 ⟨some 23, (some (19, true)), .bin .geq (.t 20) (.t 22)⟩,
 ⟨some 24, none, .pick (.t 19) (.t 23) (.c (.bool false))⟩]) (
 .gh [.keep [0, 1, 2, 4, 5, 10, 11, 14, 24]] (
 .cond (.t 24) (
 .exit 2) (
 .skip)))) (
 .seq (
 .reg none [
 ⟨some 26, none, .faddr 0 (.t 1)⟩,
 ⟨some 27, none, .load true 3 (.t 26)⟩,
 ⟨some 28, none, .mov (.t 4)⟩,
 ⟨some 29, none, .mov (.t 5)⟩,
 ⟨some 30, none, .ncall true 0 121 [(.t 27), (.t 28), (.t 29)]⟩,
 ⟨some 25, none, .mov (.t 30)⟩,
 ⟨some 31, none, .ext 0 (.t 25)⟩,
 ⟨some 32, none, .ext 1 (.t 25)⟩,
 ⟨some 7, none, .alloc 155008 22 (.agg (.ints .i64 [0, 0]))⟩,
 ⟨some 6, none, .mov (.t 31)⟩,
 ⟨none, none, .store 2 (.t 7) (.t 32)⟩]) (
 .gh [.keep [0, 1, 2, 4, 5, 6, 7, 10, 11, 14]] (
 .seq (
 .reg (some []) [
 ⟨some 33, none, .aaddr 2 1 (.t 7) (.c (.int .i64 0))⟩,
 ⟨some 34, none, .load false 1 (.t 33)⟩,
 ⟨some 35, none, .faddr 3 (.t 1)⟩,
 ⟨some 36, none, .load false 1 (.t 35)⟩,
 ⟨some 37, none, .load false 1 (.t 2)⟩,
 ⟨some 38, none, .bin .mul (.c (.int .i64 2)) (.t 37)⟩,
 ⟨some 39, none, .iaddr 1 (.t 36) (.t 38)⟩,
 ⟨some 40, none, .load false 1 (.t 39)⟩,
 ⟨some 41, none, .ncall true 0 125 [(.t 34), (.t 40)]⟩,
 ⟨some 42, none, .aaddr 2 1 (.t 7) (.c (.int .i64 1))⟩,
 ⟨some 43, none, .load false 1 (.t 42)⟩,
 ⟨some 44, none, .faddr 3 (.t 1)⟩,
 ⟨some 45, none, .load false 1 (.t 44)⟩,
 ⟨some 46, none, .load false 1 (.t 2)⟩,
 ⟨some 47, none, .bin .mul (.c (.int .i64 2)) (.t 46)⟩,
 ⟨some 48, none, .bin .add (.t 47) (.c (.int .i64 1))⟩,
 ⟨some 49, none, .iaddr 1 (.t 45) (.t 48)⟩,
 ⟨some 50, none, .load false 1 (.t 49)⟩,
 ⟨some 51, none, .ncall true 0 125 [(.t 43), (.t 50)]⟩,
 ⟨some 52, none, .bin .add (.t 41) (.t 51)⟩,
 ⟨some 8, none, .mov (.t 52)⟩]) (
 .gh [.keep [0, 1, 2, 4, 5, 6, 8, 10, 11, 14]] (
 .seq (
 .reg none [
 ⟨some 53, none, .mov (.t 0)⟩,
 ⟨some 54, none, .mov (.t 4)⟩,
 ⟨some 55, none, .mov (.t 5)⟩,
 ⟨some 56, none, .mov (.t 6)⟩,
 ⟨some 57, none, .mov (.t 8)⟩,
 ⟨some 58, none, .i2f .f32 (.t 57)⟩,
 ⟨some 59, none, .build (.gen [(.int .i64 0), (.int .i64 0), (.int .i64 0), (.flt .f32 0)]) [(0, 1, (.t 54)), (1, 1, (.t 55)), (2, 1, (.t 56)), (3, 1, (.t 58))]⟩,
 ⟨some 60, none, .icallv (.t 53) [(.t 59)]⟩,
 ⟨some 61, none, .not (.t 60)⟩]) (
 .gh [.keep [0, 1, 2, 4, 10, 11, 14, 61]] (
 .cond (.t 61) (
 .ret) (
 .skip))))))))))) (
 .reg none [
 ⟨some 62, none, .bin .add (.t 14) (.c (.int .i64 1))⟩,
 ⟨some 14, none, .mov (.t 62)⟩])))
def b155_1 : ACode := .gh [.keep [0, 1, 2, 4, 10, 11, 14]] (.gh [] l155_1)
def l155_0 : ACode :=
 .seq (
 .reg none [
 ⟨some 12, none, .bin .lss (.t 11) (.t 10)⟩]) (
 .seq (
 .cond (.t 12) (
 .skip) (
 .exit 0)) (
 .seq (
 .block 1 (
 .seq (
 .reg none [
 ⟨some 13, none, .mov (.t 11)⟩,
 ⟨some 4, none, .mov (.t 13)⟩]) (
 .seq (
 .reg none [
 ⟨some 14, none, .mov (.c (.int .i64 0))⟩]) (
 .block 2 (
 .loop b155_1))))) (
 .reg none [
 ⟨some 63, none, .bin .add (.t 11) (.c (.int .i64 1))⟩,
 ⟨some 11, none, .mov (.t 63)⟩])))
def b155_0 : ACode := .gh [.keep [0, 1, 2, 10, 11]] (.gh [] l155_0)
def k155_1 : List AItem := .inLoop b155_1 :: [.inBlock 2,
 .inBlock 1,
 .code (.reg none [
 ⟨some 63, none, .bin .add (.t 11) (.c (.int .i64 1))⟩,
 ⟨some 11, none, .mov (.t 63)⟩]),
 .inLoop b155_0,
 .inBlock 0]
def k155_0 : List AItem := .inLoop b155_0 :: [.inBlock 0]
def c155 : ACode :=
 .seq (
 .reg none [
 ⟨some 9, none, .load true 4 (.t 1)⟩,
 ⟨some 10, none, .ncall true 0 127 [(.t 9)]⟩,
 ⟨some 11, none, .mov (.c (.int .i64 0))⟩]) (
 .block 0 (
 .loop b155_0))
def a155 : AFunc := ⟨64, c155, []⟩
/-! 156 cassegrain/code.words$1 params [64] nfree 1 ntmps 44 -/
def l156_1 : ACode :=
 .seq (
 .reg none [
 ⟨some 18, none, .bin .lss (.t 17) (.t 16)⟩]) (
 .seq (
 .cond (.t 18) (
 .skip) (
 .exit 2)) (
 .seq (
 .block 3 (
 .seq (
 .reg none [
 ⟨some 19, none, .mov (.t 17)⟩,
 ⟨some 5, none, .mov (.t 19)⟩]) (
 .reg none [
 ⟨some 20, none, .mov (.t 4)⟩,
 ⟨some 21, none, .mov (.t 5)⟩,
 ⟨some 22, none, .mov (.t 3)⟩,
 ⟨some 23, none, .faddr 0 (.t 1)⟩,
 ⟨some 24, none, .load false 1 (.t 23)⟩,
 ⟨some 25, none, .bin .sub (.t 24) (.c (.int .i64 1))⟩,
 ⟨some 26, none, .mov (.t 5)⟩,
 ⟨some 27, none, .bin .sub (.t 25) (.t 26)⟩,
 ⟨some 28, none, .bin .shr (.t 22) (.t 27)⟩,
 ⟨some 29, none, .bin .and (.t 28) (.c (.int .i64 1))⟩,
 ⟨some 30, none, .iaddr 1 (.t 20) (.t 21)⟩,
 ⟨none, none, .store 1 (.t 30) (.t 29)⟩]))) (
 .reg none [
 ⟨some 31, none, .bin .add (.t 17) (.c (.int .i64 1))⟩,
 ⟨some 17, none, .mov (.t 31)⟩])))
def b156_1 : ACode := .gh [.keep [0, 1, 3, 4, 8, 9, 16, 17]] (.gh [] l156_1)
def l156_0 : ACode :=
 .seq (
 .reg none [
 ⟨some 10, none, .bin .lss (.t 9) (.t 8)⟩]) (
 .seq (
 .cond (.t 10) (
 .skip) (
 .exit 0)) (
 .seq (
 .block 1 (
 .seq (
 .reg none [
 ⟨some 11, none, .mov (.t 9)⟩,
 ⟨some 3, none, .mov (.t 11)⟩]) (
 .seq (
 .reg none [
 ⟨some 12, none, .faddr 0 (.t 1)⟩,
 ⟨some 13, none, .load false 1 (.t 12)⟩,
 ⟨some 14, none, .mkslice 156015 3 1 (.int .i64 0) (.t 13)⟩,
 ⟨some 4, none, .mov (.t 14)⟩]) (
 .seq (
 .seq (
 .reg none [
 ⟨some 15, none, .mov (.t 4)⟩,
 ⟨some 16, none, .len (.t 15)⟩,
 ⟨some 17, none, .mov (.c (.int .i64 0))⟩]) (
 .block 2 (
 .loop b156_1))) (
 .seq (
 .reg none [
 ⟨some 32, none, .load true 2 (.t 1)⟩,
 ⟨some 33, none, .mov (.t 4)⟩,
 ⟨some 34, none, .ncall true 156035 115 [(.t 32), (.t 33)]⟩,
 ⟨some 35, none, .len (.t 34)⟩,
 ⟨some 36, none, .bin .eql (.t 35) (.c (.int .i64 0))⟩,
 ⟨some 37, none, .mov (.t 36)⟩,
 ⟨some 38, (some (37, true)), .mov (.t 0)⟩,
 ⟨some 39, (some (37, true)), .mov (.t 4)⟩,
 ⟨some 40, (some (37, true)), .icallv (.t 38) [(.t 39)]⟩,
 ⟨some 41, (some (37, true)), .not (.t 40)⟩,
 ⟨some 42, none, .pick (.t 37) (.t 41) (.c (.bool false))⟩]) (
 .gh [.keep [0, 1, 8, 9, 42]] (
 .cond (.t 42) (
 .ret) (
 .skip)))))))) (
 .reg none [
 ⟨some 43, none, .bin .add (.t 9) (.c (.int .i64 1))⟩,
 ⟨some 9, none, .mov (.t 43)⟩])))
def b156_0 : ACode := .gh [.keep [0, 1, 8, 9]] (.gh [] l156_0)
def k156_1 : List AItem := .inLoop b156_1 :: [.inBlock 2,
 .code (.seq (
 .reg none [
 ⟨some 32, none, .load true 2 (.t 1)⟩,
 ⟨some 33, none, .mov (.t 4)⟩,
 ⟨some 34, none, .ncall true 156035 115 [(.t 32), (.t 33)]⟩,
 ⟨some 35, none, .len (.t 34)⟩,
 ⟨some 36, none, .bin .eql (.t 35) (.c (.int .i64 0))⟩,
 ⟨some 37, none, .mov (.t 36)⟩,
 ⟨some 38, (some (37, true)), .mov (.t 0)⟩,
 ⟨some 39, (some (37, true)), .mov (.t 4)⟩,
 ⟨some 40, (some (37, true)), .icallv (.t 38) [(.t 39)]⟩,
 ⟨some 41, (some (37, true)), .not (.t 40)⟩,
 ⟨some 42, none, .pick (.t 37) (.t 41) (.c (.bool false))⟩]) (
 .gh [.keep [0, 1, 8, 9, 42]] (
 .cond (.t 42) (
 .ret) (
 .skip)))),
 .inBlock 1,
 .code (.reg none [
 ⟨some 43, none, .bin .add (.t 9) (.c (.int .i64 1))⟩,
 ⟨some 9, none, .mov (.t 43)⟩]),
 .inLoop b156_0,
 .inBlock 0]
def k156_0 : List AItem := .inLoop b156_0 :: [.inBlock 0]
def c156 : ACode :=
 .seq (
 .reg none [
 ⟨some 6, none, .faddr 0 (.t 1)⟩,
 ⟨some 7, none, .load false 1 (.t 6)⟩,
 ⟨some 8, none, .bin .shl (.c (.int .i64 1)) (.t 7)⟩,
 ⟨some 9, none, .mov (.c (.int .i64 0))⟩]) (
 .block 0 (
 .loop b156_0))
def a156 : AFunc := ⟨44, c156, []⟩
/-! 160 cassegrain/code.power params [3] nfree 0 ntmps 12 -/
def l160_0 : ACode :=
 .seq (
 .reg none [
 ⟨some 7, none, .bin .lss (.t 6) (.t 5)⟩]) (
 .seq (
 .cond (.t 7) (
 .skip) (
 .exit 0)) (
 .seq (
 .block 1 (
 .reg none [
 ⟨some 8, none, .mov (.t 3)⟩,
 ⟨some 9, none, .ncall true 0 104 [(.t 8), (.c (.int .i64 2))]⟩,
 ⟨some 3, none, .mov (.t 9)⟩])) (
 .reg none [
 ⟨some 10, none, .bin .add (.t 6) (.c (.int .i64 1))⟩,
 ⟨some 6, none, .mov (.t 10)⟩])))
def b160_0 : ACode := .gh [.keep [3, 5, 6]] (.gh [] l160_0)
def k160_0 : List AItem := .inLoop b160_0 :: [.inBlock 0,
 .code (.seq (
 .reg none [
 ⟨some 11, none, .mov (.t 3)⟩,
 ⟨some 2, none, .mov (.t 11)⟩]) (
 .ret))]
def c160 : ACode :=
 .seq (
 .reg none [
 ⟨some 2, none, .mov (.c (.int .i64 0))⟩]) (
 .seq (
 .reg none [
 ⟨some 3, none, .mov (.c (.int .i64 1))⟩]) (
 .seq (
 .seq (
 .reg none [
 ⟨some 4, none, .mov (.t 0)⟩,
 ⟨some 5, none, .bin .rem (.t 4) (.c (.int .i64 15))⟩,
 ⟨some 6, none, .mov (.c (.int .i64 0))⟩]) (
 .block 0 (
 .loop b160_0))) (
 .seq (
 .reg none [
 ⟨some 11, none, .mov (.t 3)⟩,
 ⟨some 2, none, .mov (.t 11)⟩]) (
 .ret))))
def a160 : AFunc := ⟨12, c160, [.tmp 2]⟩
end Go.Proofs.Ytimmgjppippdiaa
