/- The code of the program, for the machine, part 2. Printed by gen2.py. -/
import Derived.Test.YtjhdnpmojhkbjaaTp
namespace Go.Proofs.Ytjhdnpmojhkbjaa
/-! 140 slices.symMergeCmpFunc[cassegrain/frame.numbered] params [137, 3, 3, 3, 180] nfree 0 ntmps 220 -/
def l140_0 : ACode :=
 .seq (
 .seq (
 .reg none [
 ⟨some 149, none, .mov (.t 20)⟩,
 ⟨some 150, none, .mov (.t 21)⟩,
 ⟨some 151, none, .bin .lss (.t 149) (.t 150)⟩]) (
 .cond (.t 151) (
 .skip) (
 .exit 8))) (
 .block 9 (
 .seq (
 .reg none [
 ⟨some 152, none, .mov (.t 20)⟩,
 ⟨some 153, none, .mov (.t 21)⟩,
 ⟨some 154, none, .bin .add (.t 152) (.t 153)⟩,
 ⟨some 155, none, .conv .u64 (.t 154)⟩,
 ⟨some 156, none, .bin .shr (.t 155) (.c (.int .u64 1))⟩,
 ⟨some 157, none, .conv .i64 (.t 156)⟩,
 ⟨some 23, none, .mov (.t 157)⟩]) (
 .gh [.keep [0, 1, 2, 3, 4, 18, 19, 20, 21, 22, 23]] (
 .seq (
 .reg (some []) [
 ⟨some 158, none, .mov (.t 4)⟩,
 ⟨some 159, none, .mov (.t 0)⟩,
 ⟨some 160, none, .mov (.t 22)⟩,
 ⟨some 161, none, .mov (.t 23)⟩,
 ⟨some 162, none, .bin .sub (.t 160) (.t 161)⟩,
 ⟨some 163, none, .iaddr 5 (.t 159) (.t 162)⟩,
 ⟨some 164, none, .load true 5 (.t 163)⟩,
 ⟨some 165, none, .mov (.t 0)⟩,
 ⟨some 166, none, .mov (.t 23)⟩,
 ⟨some 167, none, .iaddr 5 (.t 165) (.t 166)⟩,
 ⟨some 168, none, .load true 5 (.t 167)⟩,
 ⟨some 169, none, .ncallv true 0 (.t 158) [(.t 164), (.t 168)]⟩,
 ⟨some 170, none, .bin .lss (.t 169) (.c (.int .i64 0))⟩,
 ⟨some 171, none, .not (.t 170)⟩]) (
 .gh [.keep [0, 1, 2, 3, 4, 18, 19, 20, 21, 22, 23, 171]] (
 .cond (.t 171) (
 .reg none [
 ⟨some 172, none, .mov (.t 23)⟩,
 ⟨some 173, none, .bin .add (.t 172) (.c (.int .i64 1))⟩,
 ⟨some 20, none, .mov (.t 173)⟩]) (
 .reg none [
 ⟨some 174, none, .mov (.t 23)⟩,
 ⟨some 21, none, .mov (.t 174)⟩])))))))
def b140_0 : ACode := .gh [.keep [0, 1, 2, 3, 4, 18, 19, 20, 21, 22]] (.gh [] l140_0)
def l140_1 : ACode :=
 .seq (
 .seq (
 .reg none [
 ⟨some 108, none, .mov (.t 17)⟩,
 ⟨some 109, none, .mov (.t 14)⟩,
 ⟨some 110, none, .bin .gtr (.t 108) (.t 109)⟩]) (
 .cond (.t 110) (
 .skip) (
 .exit 6))) (
 .seq (
 .block 7 (
 .reg (some [(2, 15), (3, 15), (4, 15)]) [
 ⟨some 113, none, .mov (.t 0)⟩,
 ⟨some 114, none, .mov (.t 17)⟩,
 ⟨some 115, none, .mov (.t 0)⟩,
 ⟨some 116, none, .mov (.t 17)⟩,
 ⟨some 117, none, .bin .sub (.t 116) (.c (.int .i64 1))⟩,
 ⟨some 118, none, .mov (.t 0)⟩,
 ⟨some 119, none, .mov (.t 17)⟩,
 ⟨some 120, none, .bin .sub (.t 119) (.c (.int .i64 1))⟩,
 ⟨some 121, none, .iaddr 5 (.t 118) (.t 120)⟩,
 ⟨some 122, none, .load true 5 (.t 121)⟩,
 ⟨some 123, none, .mov (.t 0)⟩,
 ⟨some 124, none, .mov (.t 17)⟩,
 ⟨some 125, none, .iaddr 5 (.t 123) (.t 124)⟩,
 ⟨some 126, none, .load true 5 (.t 125)⟩,
 ⟨some 127, none, .iaddr 5 (.t 113) (.t 114)⟩,
 ⟨none, none, .store 5 (.t 127) (.t 122)⟩,
 ⟨some 128, none, .iaddr 5 (.t 115) (.t 117)⟩,
 ⟨none, none, .store 5 (.t 128) (.t 126)⟩])) (
 .reg none [
 ⟨some 111, none, .mov (.t 17)⟩,
 ⟨some 112, none, .bin .sub (.t 111) (.c (.int .i64 1))⟩,
 ⟨some 17, none, .mov (.t 112)⟩]))
def b140_1 : ACode := .gh [.keep [0, 14, 17]] (.gh [] l140_1)
def l140_2 : ACode :=
 .seq (
 .seq (
 .reg none [
 ⟨some 83, none, .mov (.t 14)⟩,
 ⟨some 84, none, .mov (.t 15)⟩,
 ⟨some 85, none, .bin .lss (.t 83) (.t 84)⟩]) (
 .cond (.t 85) (
 .skip) (
 .exit 4))) (
 .block 5 (
 .seq (
 .reg none [
 ⟨some 86, none, .mov (.t 14)⟩,
 ⟨some 87, none, .mov (.t 15)⟩,
 ⟨some 88, none, .bin .add (.t 86) (.t 87)⟩,
 ⟨some 89, none, .conv .u64 (.t 88)⟩,
 ⟨some 90, none, .bin .shr (.t 89) (.c (.int .u64 1))⟩,
 ⟨some 91, none, .conv .i64 (.t 90)⟩,
 ⟨some 16, none, .mov (.t 91)⟩]) (
 .gh [.keep [0, 2, 4, 14, 15, 16]] (
 .seq (
 .reg (some []) [
 ⟨some 92, none, .mov (.t 4)⟩,
 ⟨some 93, none, .mov (.t 0)⟩,
 ⟨some 94, none, .mov (.t 2)⟩,
 ⟨some 95, none, .iaddr 5 (.t 93) (.t 94)⟩,
 ⟨some 96, none, .load true 5 (.t 95)⟩,
 ⟨some 97, none, .mov (.t 0)⟩,
 ⟨some 98, none, .mov (.t 16)⟩,
 ⟨some 99, none, .iaddr 5 (.t 97) (.t 98)⟩,
 ⟨some 100, none, .load true 5 (.t 99)⟩,
 ⟨some 101, none, .ncallv true 0 (.t 92) [(.t 96), (.t 100)]⟩,
 ⟨some 102, none, .bin .lss (.t 101) (.c (.int .i64 0))⟩,
 ⟨some 103, none, .not (.t 102)⟩]) (
 .gh [.keep [0, 2, 4, 14, 15, 16, 103]] (
 .cond (.t 103) (
 .reg none [
 ⟨some 104, none, .mov (.t 16)⟩,
 ⟨some 105, none, .bin .add (.t 104) (.c (.int .i64 1))⟩,
 ⟨some 14, none, .mov (.t 105)⟩]) (
 .reg none [
 ⟨some 106, none, .mov (.t 16)⟩,
 ⟨some 15, none, .mov (.t 106)⟩])))))))
def b140_2 : ACode := .gh [.keep [0, 2, 4, 14, 15]] (.gh [] l140_2)
def l140_3 : ACode :=
 .seq (
 .seq (
 .reg none [
 ⟨some 55, none, .mov (.t 13)⟩,
 ⟨some 56, none, .mov (.t 10)⟩,
 ⟨some 57, none, .bin .sub (.t 56) (.c (.int .i64 1))⟩,
 ⟨some 58, none, .bin .lss (.t 55) (.t 57)⟩]) (
 .cond (.t 58) (
 .skip) (
 .exit 2))) (
 .seq (
 .block 3 (
 .reg (some [(2, 15), (3, 15), (4, 15)]) [
 ⟨some 61, none, .mov (.t 0)⟩,
 ⟨some 62, none, .mov (.t 13)⟩,
 ⟨some 63, none, .mov (.t 0)⟩,
 ⟨some 64, none, .mov (.t 13)⟩,
 ⟨some 65, none, .bin .add (.t 64) (.c (.int .i64 1))⟩,
 ⟨some 66, none, .mov (.t 0)⟩,
 ⟨some 67, none, .mov (.t 13)⟩,
 ⟨some 68, none, .bin .add (.t 67) (.c (.int .i64 1))⟩,
 ⟨some 69, none, .iaddr 5 (.t 66) (.t 68)⟩,
 ⟨some 70, none, .load true 5 (.t 69)⟩,
 ⟨some 71, none, .mov (.t 0)⟩,
 ⟨some 72, none, .mov (.t 13)⟩,
 ⟨some 73, none, .iaddr 5 (.t 71) (.t 72)⟩,
 ⟨some 74, none, .load true 5 (.t 73)⟩,
 ⟨some 75, none, .iaddr 5 (.t 61) (.t 62)⟩,
 ⟨none, none, .store 5 (.t 75) (.t 70)⟩,
 ⟨some 76, none, .iaddr 5 (.t 63) (.t 65)⟩,
 ⟨none, none, .store 5 (.t 76) (.t 74)⟩])) (
 .reg none [
 ⟨some 59, none, .mov (.t 13)⟩,
 ⟨some 60, none, .bin .add (.t 59) (.c (.int .i64 1))⟩,
 ⟨some 13, none, .mov (.t 60)⟩]))
def b140_3 : ACode := .gh [.keep [0, 10, 13]] (.gh [] l140_3)
def l140_4 : ACode :=
 .seq (
 .seq (
 .reg none [
 ⟨some 31, none, .mov (.t 10)⟩,
 ⟨some 32, none, .mov (.t 11)⟩,
 ⟨some 33, none, .bin .lss (.t 31) (.t 32)⟩]) (
 .cond (.t 33) (
 .skip) (
 .exit 0))) (
 .block 1 (
 .seq (
 .reg none [
 ⟨some 34, none, .mov (.t 10)⟩,
 ⟨some 35, none, .mov (.t 11)⟩,
 ⟨some 36, none, .bin .add (.t 34) (.t 35)⟩,
 ⟨some 37, none, .conv .u64 (.t 36)⟩,
 ⟨some 38, none, .bin .shr (.t 37) (.c (.int .u64 1))⟩,
 ⟨some 39, none, .conv .i64 (.t 38)⟩,
 ⟨some 12, none, .mov (.t 39)⟩]) (
 .gh [.keep [0, 1, 4, 10, 11, 12]] (
 .seq (
 .reg (some []) [
 ⟨some 40, none, .mov (.t 4)⟩,
 ⟨some 41, none, .mov (.t 0)⟩,
 ⟨some 42, none, .mov (.t 12)⟩,
 ⟨some 43, none, .iaddr 5 (.t 41) (.t 42)⟩,
 ⟨some 44, none, .load true 5 (.t 43)⟩,
 ⟨some 45, none, .mov (.t 0)⟩,
 ⟨some 46, none, .mov (.t 1)⟩,
 ⟨some 47, none, .iaddr 5 (.t 45) (.t 46)⟩,
 ⟨some 48, none, .load true 5 (.t 47)⟩,
 ⟨some 49, none, .ncallv true 0 (.t 40) [(.t 44), (.t 48)]⟩,
 ⟨some 50, none, .bin .lss (.t 49) (.c (.int .i64 0))⟩]) (
 .gh [.keep [0, 1, 4, 10, 11, 12, 50]] (
 .cond (.t 50) (
 .reg none [
 ⟨some 51, none, .mov (.t 12)⟩,
 ⟨some 52, none, .bin .add (.t 51) (.c (.int .i64 1))⟩,
 ⟨some 10, none, .mov (.t 52)⟩]) (
 .reg none [
 ⟨some 53, none, .mov (.t 12)⟩,
 ⟨some 11, none, .mov (.t 53)⟩])))))))
def b140_4 : ACode := .gh [.keep [0, 1, 4, 10, 11]] (.gh [] l140_4)
def c140 : ACode :=
 .seq (
 .seq (
 .reg none [
 ⟨some 25, none, .mov (.t 2)⟩,
 ⟨some 26, none, .mov (.t 1)⟩,
 ⟨some 27, none, .bin .sub (.t 25) (.t 26)⟩,
 ⟨some 28, none, .bin .eql (.t 27) (.c (.int .i64 1))⟩]) (
 .cond (.t 28) (
 .seq (
 .reg none [
 ⟨some 29, none, .mov (.t 2)⟩,
 ⟨some 10, none, .mov (.t 29)⟩]) (
 .seq (
 .reg none [
 ⟨some 30, none, .mov (.t 3)⟩,
 ⟨some 11, none, .mov (.t 30)⟩]) (
 .seq (
 .block 0 (
 .loop b140_4)) (
 .seq (
 .seq (
 .reg none [
 ⟨some 54, none, .mov (.t 1)⟩,
 ⟨some 13, none, .mov (.t 54)⟩]) (
 .block 2 (
 .loop b140_3))) (
 .ret))))) (
 .skip))) (
 .seq (
 .seq (
 .reg none [
 ⟨some 77, none, .mov (.t 3)⟩,
 ⟨some 78, none, .mov (.t 2)⟩,
 ⟨some 79, none, .bin .sub (.t 77) (.t 78)⟩,
 ⟨some 80, none, .bin .eql (.t 79) (.c (.int .i64 1))⟩]) (
 .cond (.t 80) (
 .seq (
 .reg none [
 ⟨some 81, none, .mov (.t 1)⟩,
 ⟨some 14, none, .mov (.t 81)⟩]) (
 .seq (
 .reg none [
 ⟨some 82, none, .mov (.t 2)⟩,
 ⟨some 15, none, .mov (.t 82)⟩]) (
 .seq (
 .block 4 (
 .loop b140_2)) (
 .seq (
 .seq (
 .reg none [
 ⟨some 107, none, .mov (.t 2)⟩,
 ⟨some 17, none, .mov (.t 107)⟩]) (
 .block 6 (
 .loop b140_1))) (
 .ret))))) (
 .skip))) (
 .seq (
 .reg none [
 ⟨some 129, none, .mov (.t 1)⟩,
 ⟨some 130, none, .mov (.t 3)⟩,
 ⟨some 131, none, .bin .add (.t 129) (.t 130)⟩,
 ⟨some 132, none, .conv .u64 (.t 131)⟩,
 ⟨some 133, none, .bin .shr (.t 132) (.c (.int .u64 1))⟩,
 ⟨some 134, none, .conv .i64 (.t 133)⟩,
 ⟨some 18, none, .mov (.t 134)⟩]) (
 .gh [.keep [0, 1, 2, 3, 4, 18]] (
 .seq (
 .reg none [
 ⟨some 135, none, .mov (.t 18)⟩,
 ⟨some 136, none, .mov (.t 2)⟩,
 ⟨some 137, none, .bin .add (.t 135) (.t 136)⟩,
 ⟨some 19, none, .mov (.t 137)⟩]) (
 .seq (
 .reg none [
 ⟨some 20, none, .mov (.c (.int .i64 0))⟩,
 ⟨some 21, none, .mov (.c (.int .i64 0))⟩]) (
 .seq (
 .seq (
 .reg none [
 ⟨some 138, none, .mov (.t 2)⟩,
 ⟨some 139, none, .mov (.t 18)⟩,
 ⟨some 140, none, .bin .gtr (.t 138) (.t 139)⟩]) (
 .cond (.t 140) (
 .seq (
 .reg none [
 ⟨some 141, none, .mov (.t 19)⟩,
 ⟨some 142, none, .mov (.t 3)⟩,
 ⟨some 143, none, .bin .sub (.t 141) (.t 142)⟩,
 ⟨some 20, none, .mov (.t 143)⟩]) (
 .reg none [
 ⟨some 144, none, .mov (.t 18)⟩,
 ⟨some 21, none, .mov (.t 144)⟩])) (
 .seq (
 .reg none [
 ⟨some 145, none, .mov (.t 1)⟩,
 ⟨some 20, none, .mov (.t 145)⟩]) (
 .reg none [
 ⟨some 146, none, .mov (.t 2)⟩,
 ⟨some 21, none, .mov (.t 146)⟩])))) (
 .seq (
 .reg none [
 ⟨some 147, none, .mov (.t 19)⟩,
 ⟨some 148, none, .bin .sub (.t 147) (.c (.int .i64 1))⟩,
 ⟨some 22, none, .mov (.t 148)⟩]) (
 .seq (
 .block 8 (
 .loop b140_0)) (
 .seq (
 .reg none [
 ⟨some 175, none, .mov (.t 19)⟩,
 ⟨some 176, none, .mov (.t 20)⟩,
 ⟨some 177, none, .bin .sub (.t 175) (.t 176)⟩,
 ⟨some 24, none, .mov (.t 177)⟩]) (
 .seq (
 .seq (
 .reg none [
 ⟨some 178, none, .mov (.t 20)⟩,
 ⟨some 179, none, .mov (.t 2)⟩,
 ⟨some 180, none, .bin .lss (.t 178) (.t 179)⟩,
 ⟨some 181, none, .mov (.t 180)⟩,
 ⟨some 182, (some (181, true)), .mov (.t 2)⟩,
 ⟨some 183, (some (181, true)), .mov (.t 24)⟩,
 ⟨some 184, (some (181, true)), .bin .lss (.t 182) (.t 183)⟩,
 ⟨some 185, none, .pick (.t 181) (.t 184) (.c (.bool false))⟩]) (
 .gh [.keep [0, 1, 2, 3, 4, 18, 20, 24, 185]] (
 .cond (.t 185) (
 .reg none [
 ⟨some 186, none, .mov (.t 0)⟩,
 ⟨some 187, none, .mov (.t 20)⟩,
 ⟨some 188, none, .mov (.t 2)⟩,
 ⟨some 189, none, .mov (.t 24)⟩,
 ⟨some 190, none, .mov (.t 4)⟩,
 ⟨some 191, none, .ncall true 0 141 [(.t 186), (.t 187), (.t 188), (.t 189), (.t 190)]⟩]) (
 .skip)))) (
 .seq (
 .seq (
 .reg none [
 ⟨some 192, none, .mov (.t 1)⟩,
 ⟨some 193, none, .mov (.t 20)⟩,
 ⟨some 194, none, .bin .lss (.t 192) (.t 193)⟩,
 ⟨some 195, none, .mov (.t 194)⟩,
 ⟨some 196, (some (195, true)), .mov (.t 20)⟩,
 ⟨some 197, (some (195, true)), .mov (.t 18)⟩,
 ⟨some 198, (some (195, true)), .bin .lss (.t 196) (.t 197)⟩,
 ⟨some 199, none, .pick (.t 195) (.t 198) (.c (.bool false))⟩]) (
 .gh [.keep [0, 1, 3, 4, 18, 20, 24, 199]] (
 .cond (.t 199) (
 .reg none [
 ⟨some 200, none, .mov (.t 0)⟩,
 ⟨some 201, none, .mov (.t 1)⟩,
 ⟨some 202, none, .mov (.t 20)⟩,
 ⟨some 203, none, .mov (.t 18)⟩,
 ⟨some 204, none, .mov (.t 4)⟩,
 ⟨some 205, none, .ncall true 0 140 [(.t 200), (.t 201), (.t 202), (.t 203), (.t 204)]⟩]) (
 .skip)))) (
 .seq (
 .reg none [
 ⟨some 206, none, .mov (.t 18)⟩,
 ⟨some 207, none, .mov (.t 24)⟩,
 ⟨some 208, none, .bin .lss (.t 206) (.t 207)⟩,
 ⟨some 209, none, .mov (.t 208)⟩,
 ⟨some 210, (some (209, true)), .mov (.t 24)⟩,
 ⟨some 211, (some (209, true)), .mov (.t 3)⟩,
 ⟨some 212, (some (209, true)), .bin .lss (.t 210) (.t 211)⟩,
 ⟨some 213, none, .pick (.t 209) (.t 212) (.c (.bool false))⟩]) (
 .gh [.keep [0, 3, 4, 18, 24, 213]] (
 .cond (.t 213) (
 .reg none [
 ⟨some 214, none, .mov (.t 0)⟩,
 ⟨some 215, none, .mov (.t 18)⟩,
 ⟨some 216, none, .mov (.t 24)⟩,
 ⟨some 217, none, .mov (.t 3)⟩,
 ⟨some 218, none, .mov (.t 4)⟩,
 ⟨some 219, none, .ncall true 0 140 [(.t 214), (.t 215), (.t 216), (.t 217), (.t 218)]⟩]) (
 .skip)))))))))))))))
def a140 : AFunc := ⟨220, c140, []⟩
/-! 141 slices.rotateCmpFunc[cassegrain/frame.numbered] params [137, 3, 3, 3, 180] nfree 0 ntmps 58 -/
def l141_0 : ACode :=
 .seq (
 .seq (
 .reg none [
 ⟨some 18, none, .mov (.t 10)⟩,
 ⟨some 19, none, .mov (.t 11)⟩,
 ⟨some 20, none, .bin .neq (.t 18) (.t 19)⟩]) (
 .cond (.t 20) (
 .skip) (
 .exit 0))) (
 .block 1 (
 .seq (
 .reg none [
 ⟨some 21, none, .mov (.t 10)⟩,
 ⟨some 22, none, .mov (.t 11)⟩,
 ⟨some 23, none, .bin .gtr (.t 21) (.t 22)⟩]) (
 .cond (.t 23) (
 .seq (
 .reg none [
 ⟨some 24, none, .mov (.t 0)⟩,
 ⟨some 25, none, .mov (.t 2)⟩,
 ⟨some 26, none, .mov (.t 10)⟩,
 ⟨some 27, none, .bin .sub (.t 25) (.t 26)⟩,
 ⟨some 28, none, .mov (.t 2)⟩,
 ⟨some 29, none, .mov (.t 11)⟩,
 ⟨some 30, none, .mov (.t 4)⟩,
 ⟨some 31, none, .ncall true 0 142 [(.t 24), (.t 27), (.t 28), (.t 29), (.t 30)]⟩]) (
 .gh [.keep [0, 2, 4, 10, 11]] (
 .reg none [
 ⟨some 32, none, .mov (.t 10)⟩,
 ⟨some 33, none, .mov (.t 11)⟩,
 ⟨some 34, none, .bin .sub (.t 32) (.t 33)⟩,
 ⟨some 10, none, .mov (.t 34)⟩]))) (
 .seq (
 .reg none [
 ⟨some 35, none, .mov (.t 0)⟩,
 ⟨some 36, none, .mov (.t 2)⟩,
 ⟨some 37, none, .mov (.t 10)⟩,
 ⟨some 38, none, .bin .sub (.t 36) (.t 37)⟩,
 ⟨some 39, none, .mov (.t 2)⟩,
 ⟨some 40, none, .mov (.t 11)⟩,
 ⟨some 41, none, .bin .add (.t 39) (.t 40)⟩,
 ⟨some 42, none, .mov (.t 10)⟩,
 ⟨some 43, none, .bin .sub (.t 41) (.t 42)⟩,
 ⟨some 44, none, .mov (.t 10)⟩,
 ⟨some 45, none, .mov (.t 4)⟩,
 ⟨some 46, none, .ncall true 0 142 [(.t 35), (.t 38), (.t 43), (.t 44), (.t 45)]⟩]) (
 .gh [.keep [0, 2, 4, 10, 11]] (
 .reg none [
 ⟨some 47, none, .mov (.t 11)⟩,
 ⟨some 48, none, .mov (.t 10)⟩,
 ⟨some 49, none, .bin .sub (.t 47) (.t 48)⟩,
 ⟨some 11, none, .mov (.t 49)⟩]))))))
def b141_0 : ACode := .gh [.keep [0, 2, 4, 10, 11]] (.gh [] l141_0)
def c141 : ACode :=
 .seq (
 .reg none [
 ⟨some 12, none, .mov (.t 2)⟩,
 ⟨some 13, none, .mov (.t 1)⟩,
 ⟨some 14, none, .bin .sub (.t 12) (.t 13)⟩,
 ⟨some 10, none, .mov (.t 14)⟩]) (
 .seq (
 .reg none [
 ⟨some 15, none, .mov (.t 3)⟩,
 ⟨some 16, none, .mov (.t 2)⟩,
 ⟨some 17, none, .bin .sub (.t 15) (.t 16)⟩,
 ⟨some 11, none, .mov (.t 17)⟩]) (
 .seq (
 .block 0 (
 .loop b141_0)) (
 .reg none [
 ⟨some 50, none, .mov (.t 0)⟩,
 ⟨some 51, none, .mov (.t 2)⟩,
 ⟨some 52, none, .mov (.t 10)⟩,
 ⟨some 53, none, .bin .sub (.t 51) (.t 52)⟩,
 ⟨some 54, none, .mov (.t 2)⟩,
 ⟨some 55, none, .mov (.t 10)⟩,
 ⟨some 56, none, .mov (.t 4)⟩,
 ⟨some 57, none, .ncall true 0 142 [(.t 50), (.t 53), (.t 54), (.t 55), (.t 56)]⟩])))
def a141 : AFunc := ⟨58, c141, []⟩
/-! 142 slices.swapRangeCmpFunc[cassegrain/frame.numbered] params [137, 3, 3, 3, 180] nfree 0 ntmps 38 -/
def l142_0 : ACode :=
 .seq (
 .seq (
 .reg none [
 ⟨some 11, none, .mov (.t 10)⟩,
 ⟨some 12, none, .mov (.t 3)⟩,
 ⟨some 13, none, .bin .lss (.t 11) (.t 12)⟩]) (
 .cond (.t 13) (
 .skip) (
 .exit 0))) (
 .seq (
 .block 1 (
 .reg (some [(4, 21), (5, 21), (6, 21), (7, 21)]) [
 ⟨some 16, none, .mov (.t 0)⟩,
 ⟨some 17, none, .mov (.t 1)⟩,
 ⟨some 18, none, .mov (.t 10)⟩,
 ⟨some 19, none, .bin .add (.t 17) (.t 18)⟩,
 ⟨some 20, none, .mov (.t 0)⟩,
 ⟨some 21, none, .mov (.t 2)⟩,
 ⟨some 22, none, .mov (.t 10)⟩,
 ⟨some 23, none, .bin .add (.t 21) (.t 22)⟩,
 ⟨some 24, none, .mov (.t 0)⟩,
 ⟨some 25, none, .mov (.t 2)⟩,
 ⟨some 26, none, .mov (.t 10)⟩,
 ⟨some 27, none, .bin .add (.t 25) (.t 26)⟩,
 ⟨some 28, none, .iaddr 5 (.t 24) (.t 27)⟩,
 ⟨some 29, none, .load true 5 (.t 28)⟩,
 ⟨some 30, none, .mov (.t 0)⟩,
 ⟨some 31, none, .mov (.t 1)⟩,
 ⟨some 32, none, .mov (.t 10)⟩,
 ⟨some 33, none, .bin .add (.t 31) (.t 32)⟩,
 ⟨some 34, none, .iaddr 5 (.t 30) (.t 33)⟩,
 ⟨some 35, none, .load true 5 (.t 34)⟩,
 ⟨some 36, none, .iaddr 5 (.t 16) (.t 19)⟩,
 ⟨none, none, .store 5 (.t 36) (.t 29)⟩,
 ⟨some 37, none, .iaddr 5 (.t 20) (.t 23)⟩,
 ⟨none, none, .store 5 (.t 37) (.t 35)⟩])) (
 .reg none [
 ⟨some 14, none, .mov (.t 10)⟩,
 ⟨some 15, none, .bin .add (.t 14) (.c (.int .i64 1))⟩,
 ⟨some 10, none, .mov (.t 15)⟩]))
def b142_0 : ACode := .gh [.keep [0, 1, 2, 3, 10]] (.gh [] l142_0)
def c142 : ACode :=
 .seq (
 .reg none [
 ⟨some 10, none, .mov (.c (.int .i64 0))⟩]) (
 .block 0 (
 .loop b142_0))
def a142 : AFunc := ⟨38, c142, []⟩
end Go.Proofs.Ytjhdnpmojhkbjaa
/- The table of the program's code. Printed by gen2.py. -/
namespace Go.Proofs.Ytjhdnpmojhkbjaa
def tree : FTree := (.node (.node (.node (.node (.node (.node (.node .leaf 4 a4 .leaf) 14 a14 (.node .leaf 16 a16 .leaf)) 17 a17 (.node (.node .leaf 18 a18 .leaf) 19 a19 .leaf)) 21 a21 (.node (.node (.node .leaf 23 a23 .leaf) 24 a24 (.node .leaf 25 a25 .leaf)) 26 a26 (.node (.node .leaf 27 a27 .leaf) 28 a28 .leaf))) 30 a30 (.node (.node (.node (.node .leaf 35 a35 .leaf) 40 a40 (.node .leaf 41 a41 .leaf)) 42 a42 (.node (.node .leaf 43 a43 .leaf) 44 a44 .leaf)) 45 a45 (.node (.node (.node .leaf 46 a46 .leaf) 47 a47 .leaf) 48 a48 (.node (.node .leaf 49 a49 .leaf) 50 a50 .leaf)))) 52 a52 (.node (.node (.node (.node (.node .leaf 53 a53 .leaf) 54 a54 (.node .leaf 55 a55 .leaf)) 56 a56 (.node (.node .leaf 57 a57 .leaf) 60 a60 .leaf)) 61 a61 (.node (.node (.node .leaf 62 a62 .leaf) 63 a63 .leaf) 64 a64 (.node (.node .leaf 65 a65 .leaf) 66 a66 .leaf))) 67 a67 (.node (.node (.node (.node .leaf 68 a68 .leaf) 69 a69 (.node .leaf 70 a70 .leaf)) 75 a75 (.node (.node .leaf 76 a76 .leaf) 77 a77 .leaf)) 78 a78 (.node (.node (.node .leaf 79 a79 .leaf) 80 a80 .leaf) 81 a81 (.node (.node .leaf 84 a84 .leaf) 85 a85 .leaf))))) 86 a86 (.node (.node (.node (.node (.node (.node .leaf 87 a87 .leaf) 88 a88 (.node .leaf 89 a89 .leaf)) 90 a90 (.node (.node .leaf 91 a91 .leaf) 92 a92 .leaf)) 93 a93 (.node (.node (.node .leaf 94 a94 .leaf) 95 a95 (.node .leaf 96 a96 .leaf)) 97 a97 (.node (.node .leaf 98 a98 .leaf) 99 a99 .leaf))) 100 a100 (.node (.node (.node (.node .leaf 101 a101 .leaf) 102 a102 (.node .leaf 103 a103 .leaf)) 105 a105 (.node (.node .leaf 106 a106 .leaf) 107 a107 .leaf)) 108 a108 (.node (.node (.node .leaf 109 a109 .leaf) 110 a110 .leaf) 111 a111 (.node (.node .leaf 113 a113 .leaf) 114 a114 .leaf)))) 117 a117 (.node (.node (.node (.node (.node .leaf 118 a118 .leaf) 119 a119 (.node .leaf 120 a120 .leaf)) 121 a121 (.node (.node .leaf 122 a122 .leaf) 123 a123 .leaf)) 124 a124 (.node (.node (.node .leaf 125 a125 .leaf) 126 a126 .leaf) 127 a127 (.node (.node .leaf 128 a128 .leaf) 129 a129 .leaf))) 130 a130 (.node (.node (.node (.node .leaf 131 a131 .leaf) 132 a132 (.node .leaf 133 a133 .leaf)) 134 a134 (.node (.node .leaf 135 a135 .leaf) 136 a136 .leaf)) 137 a137 (.node (.node (.node .leaf 138 a138 .leaf) 139 a139 .leaf) 140 a140 (.node (.node .leaf 141 a141 .leaf) 142 a142 .leaf))))))
def tab : Tab := tree.find
-- TABLE 4 14 16 17 18 19 21 23 24 25 26 27 28 30 35 40 41 42 43 44 45 46 47 48 49 50 52 53 54 55 56 57 60 61 62 63 64 65 66 67 68 69 70 75 76 77 78 79 80 81 84 85 86 87 88 89 90 91 92 93 94 95 96 97 98 99 100 101 102 103 105 106 107 108 109 110 111 113 114 117 118 119 120 121 122 123 124 125 126 127 128 129 130 131 132 133 134 135 136 137 138 139 140 141 142
end Go.Proofs.Ytjhdnpmojhkbjaa
