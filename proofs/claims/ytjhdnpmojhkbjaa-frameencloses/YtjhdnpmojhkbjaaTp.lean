/- The code of the program, for the machine, part 1. Printed by gen2.py. -/
import Derived.Test.YtjhdnpmojhkbjaaYc
namespace Go.Proofs.Ytjhdnpmojhkbjaa
def l8_0 : ACode :=
 .seq (
 .seq (
 .reg none [
 ⟨some 67, none, .mov (.t 8)⟩,
 ⟨some 68, none, .faddr 2 (.t 3)⟩,
 ⟨some 69, none, .load false 1 (.t 68)⟩,
 ⟨some 70, none, .len (.t 69)⟩,
 ⟨some 71, none, .bin .lss (.t 67) (.t 70)⟩]) (
 .cond (.t 71) (
 .skip) (
 .exit 0))) (
 .seq (
 .block 1 (
 .seq (
 .seq (
 .reg (some []) [
 ⟨some 74, none, .faddr 2 (.t 3)⟩,
 ⟨some 75, none, .load false 1 (.t 74)⟩,
 ⟨some 76, none, .mov (.t 8)⟩,
 ⟨some 77, none, .iaddr 1 (.t 75) (.t 76)⟩,
 ⟨some 78, none, .load false 1 (.t 77)⟩,
 ⟨some 79, none, .ncall true 0 27 [(.t 78), (.c (.int .i64 0)), (.c (.int .i64 100000))]⟩,
 ⟨some 80, none, .not (.t 79)⟩,
 ⟨some 81, none, .mov (.t 80)⟩,
 ⟨some 82, (some (81, false)), .mov (.t 8)⟩,
 ⟨some 83, (some (81, false)), .bin .gtr (.t 82) (.c (.int .i64 0))⟩,
 ⟨some 84, (some (81, false)), .mov (.t 83)⟩,
 ⟨some 85, (some (84, true)), .faddr 2 (.t 3)⟩,
 ⟨some 86, (some (84, true)), .load false 1 (.t 85)⟩,
 ⟨some 87, (some (84, true)), .mov (.t 8)⟩,
 ⟨some 88, (some (84, true)), .iaddr 1 (.t 86) (.t 87)⟩,
 ⟨some 89, (some (84, true)), .load false 1 (.t 88)⟩,
 ⟨some 90, (some (84, true)), .faddr 2 (.t 3)⟩,
 ⟨some 91, (some (84, true)), .load false 1 (.t 90)⟩,
 ⟨some 92, (some (84, true)), .mov (.t 8)⟩,
 ⟨some 93, (some (84, true)), .bin .sub (.t 92) (.c (.int .i64 1))⟩,
 ⟨some 94, (some (84, true)), .iaddr 1 (.t 91) (.t 93)⟩,
 ⟨some 95, (some (84, true)), .load false 1 (.t 94)⟩,
 ⟨some 96, (some (84, true)), .bin .leq (.t 89) (.t 95)⟩,
 ⟨some 97, (some (81, false)), .pick (.t 84) (.t 96) (.c (.bool false))⟩,
 ⟨some 98, none, .pick (.t 81) (.c (.bool true)) (.t 97)⟩,
 ⟨some 99, none, .mov (.t 98)⟩,
 ⟨some 100, (some (99, false)), .faddr 3 (.t 3)⟩,
 ⟨some 101, (some (99, false)), .load false 1 (.t 100)⟩,
 ⟨some 102, (some (99, false)), .mov (.t 8)⟩,
 ⟨some 103, (some (99, false)), .iaddr 1 (.t 101) (.t 102)⟩,
 ⟨some 104, (some (99, false)), .load false 1 (.t 103)⟩,
 ⟨some 105, (some (99, false)), .ncall true 0 27 [(.t 104), (.c (.int .i64 0)), (.c (.int .i64 1000))]⟩,
 ⟨some 106, (some (99, false)), .not (.t 105)⟩,
 ⟨some 107, none, .pick (.t 99) (.c (.bool true)) (.t 106)⟩]) (
 .gh [.keep [1, 2, 3, 7, 8, 107]] (
 .cond (.t 107) (
 .seq (
 .reg none [
 ⟨some 6, none, .mov (.c (.bool true))⟩]) (
 .ret)) (
 .skip)))) (
 .seq (
 .reg (some []) [
 ⟨some 108, none, .faddr 0 (.t 3)⟩,
 ⟨some 109, none, .load false 1 (.t 108)⟩,
 ⟨some 110, none, .bin .mul (.c (.int .i64 100)) (.t 109)⟩,
 ⟨some 111, none, .faddr 1 (.t 3)⟩,
 ⟨some 112, none, .load false 1 (.t 111)⟩,
 ⟨some 113, none, .faddr 2 (.t 3)⟩,
 ⟨some 114, none, .load false 1 (.t 113)⟩,
 ⟨some 115, none, .mov (.t 8)⟩,
 ⟨some 116, none, .iaddr 1 (.t 114) (.t 115)⟩,
 ⟨some 117, none, .load false 1 (.t 116)⟩,
 ⟨some 118, none, .bin .mul (.t 112) (.t 117)⟩,
 ⟨some 119, none, .bin .add (.t 110) (.t 118)⟩,
 ⟨some 9, none, .mov (.t 119)⟩]) (
 .gh [.keep [1, 2, 3, 7, 8, 9]] (
 .reg (some [(0, 24)]) [
 ⟨some 120, none, .mov (.t 7)⟩,
 ⟨some 121, none, .faddr 2 (.t 3)⟩,
 ⟨some 122, none, .load false 1 (.t 121)⟩,
 ⟨some 123, none, .mov (.t 8)⟩,
 ⟨some 124, none, .iaddr 1 (.t 122) (.t 123)⟩,
 ⟨some 125, none, .load false 1 (.t 124)⟩,
 ⟨some 126, none, .mov (.t 9)⟩,
 ⟨some 127, none, .ncall true 0 49 [(.t 126), (.c (.int .i64 100))]⟩,
 ⟨some 128, none, .faddr 3 (.t 3)⟩,
 ⟨some 129, none, .load false 1 (.t 128)⟩,
 ⟨some 130, none, .mov (.t 8)⟩,
 ⟨some 131, none, .iaddr 1 (.t 129) (.t 130)⟩,
 ⟨some 132, none, .load false 1 (.t 131)⟩,
 ⟨some 133, none, .bin .sub (.t 127) (.t 132)⟩,
 ⟨some 134, none, .mov (.t 9)⟩,
 ⟨some 135, none, .ncall true 0 50 [(.t 134), (.c (.int .i64 100))]⟩,
 ⟨some 136, none, .faddr 3 (.t 3)⟩,
 ⟨some 137, none, .load false 1 (.t 136)⟩,
 ⟨some 138, none, .mov (.t 8)⟩,
 ⟨some 139, none, .iaddr 1 (.t 137) (.t 138)⟩,
 ⟨some 140, none, .load false 1 (.t 139)⟩,
 ⟨some 141, none, .bin .add (.t 135) (.t 140)⟩,
 ⟨some 142, none, .build (.gen [(.int .i64 0), (.int .i64 0)]) [(0, 1, (.t 133)), (1, 1, (.t 141))]⟩,
 ⟨some 143, none, .build (.gen [(.int .i64 0), (.int .i64 0), (.int .i64 0)]) [(0, 1, (.t 125)), (1, 2, (.t 142))]⟩,
 ⟨some 144, none, .bslice 8145 49 3 [(.t 143)]⟩,
 ⟨some 145, none, .append 8146 49 3 (.t 120) (.t 144)⟩,
 ⟨some 7, none, .mov (.t 145)⟩]))))) (
 .reg none [
 ⟨some 72, none, .mov (.t 8)⟩,
 ⟨some 73, none, .bin .add (.t 72) (.c (.int .i64 1))⟩,
 ⟨some 8, none, .mov (.t 73)⟩]))
def b8_0 : ACode := .gh [.keep [1, 2, 3, 7, 8]] (.gh [] l8_0)
def k8_0 : List AItem := .inLoop b8_0 :: [.inBlock 0,
 .code (.seq (
 .reg none [
 ⟨some 147, none, .mov (.t 7)⟩,
 ⟨some 148, none, .ncall true 8149 24 [(.t 147)]⟩,
 ⟨some 149, none, .ncall true 8150 43 [(.t 148)]⟩,
 ⟨some 146, none, .mov (.t 149)⟩,
 ⟨some 150, none, .ext 0 (.t 146)⟩,
 ⟨some 151, none, .ext 1 (.t 146)⟩,
 ⟨some 10, none, .mov (.t 150)⟩,
 ⟨some 11, none, .mov (.t 151)⟩]) (
 .gh [.keep [1, 2, 3, 7, 10, 11]] (
 .seq (
 .reg none [
 ⟨some 153, none, .mov (.t 7)⟩,
 ⟨some 154, none, .ncall true 8155 24 [(.t 153)]⟩,
 ⟨some 155, none, .ncall true 0 42 [(.t 154)]⟩,
 ⟨some 152, none, .mov (.t 155)⟩,
 ⟨some 156, none, .ext 0 (.t 152)⟩,
 ⟨some 157, none, .ext 1 (.t 152)⟩,
 ⟨some 12, none, .alloc 8013 80 (.agg (.ints .i64 [0, 0, 0, 0]))⟩,
 ⟨none, none, .store 4 (.t 12) (.t 156)⟩,
 ⟨some 13, none, .mov (.t 157)⟩]) (
 .gh [.keep [1, 2, 3, 7, 10, 11, 12, 13]] (
 .seq (
 .reg none [
 ⟨some 159, none, .mov (.t 7)⟩,
 ⟨some 160, none, .ncall true 8161 24 [(.t 159)]⟩,
 ⟨some 161, none, .mov (.t 1)⟩,
 ⟨some 162, none, .ncall true 0 23 [(.t 160), (.t 161)]⟩,
 ⟨some 158, none, .mov (.t 162)⟩,
 ⟨some 163, none, .ext 0 (.t 158)⟩,
 ⟨some 164, none, .ext 1 (.t 158)⟩,
 ⟨some 14, none, .alloc 8015 40 (.agg (.gen [(.int .i64 0), (.int .i64 0)]))⟩,
 ⟨none, none, .store 2 (.t 14) (.t 163)⟩,
 ⟨some 15, none, .mov (.t 164)⟩]) (
 .gh [.keep [1, 2, 3, 7, 10, 11, 12, 13, 14, 15]] (
 .seq (
 .seq (
 .reg none [
 ⟨some 165, none, .mov (.t 11)⟩,
 ⟨some 166, none, .bin .neq (.t 165) (.c (.int .i64 0))⟩,
 ⟨some 167, none, .mov (.t 166)⟩,
 ⟨some 168, (some (167, false)), .mov (.t 10)⟩,
 ⟨some 169, (some (167, false)), .mov (.t 7)⟩,
 ⟨some 170, (some (167, false)), .len (.t 169)⟩,
 ⟨some 171, (some (167, false)), .bin .sub (.t 170) (.c (.int .i64 1))⟩,
 ⟨some 172, (some (167, false)), .build (.gen [(.int .i64 0), (.int .i64 0)]) [(1, 1, (.t 171))]⟩,
 ⟨some 173, (some (167, false)), .bslice 8174 40 2 [(.t 172)]⟩,
 ⟨some 174, (some (167, false)), .ncall true 0 45 [(.t 168), (.t 173)]⟩,
 ⟨some 175, (some (167, false)), .not (.t 174)⟩,
 ⟨some 176, none, .pick (.t 167) (.c (.bool true)) (.t 175)⟩,
 ⟨some 177, none, .mov (.t 176)⟩,
 ⟨some 178, (some (177, false)), .mov (.t 13)⟩,
 ⟨some 179, (some (177, false)), .bin .neq (.t 178) (.c (.int .i64 0))⟩,
 ⟨some 180, none, .pick (.t 177) (.c (.bool true)) (.t 179)⟩,
 ⟨some 181, none, .mov (.t 180)⟩,
 ⟨some 182, (some (181, false)), .aaddr 2 2 (.t 12) (.c (.int .i64 0))⟩,
 ⟨some 183, (some (181, false)), .load true 2 (.t 182)⟩,
 ⟨some 184, (some (181, false)), .ncall true 0 51 [(.t 183)]⟩,
 ⟨some 185, (some (181, false)), .not (.t 184)⟩,
 ⟨some 186, none, .pick (.t 181) (.c (.bool true)) (.t 185)⟩,
 ⟨some 187, none, .mov (.t 186)⟩,
 ⟨some 188, (some (187, false)), .aaddr 2 2 (.t 12) (.c (.int .i64 1))⟩,
 ⟨some 189, (some (187, false)), .load true 2 (.t 188)⟩,
 ⟨some 190, (some (187, false)), .ncall true 0 51 [(.t 189)]⟩,
 ⟨some 191, (some (187, false)), .not (.t 190)⟩,
 ⟨some 192, none, .pick (.t 187) (.c (.bool true)) (.t 191)⟩,
 ⟨some 193, none, .mov (.t 192)⟩,
 ⟨some 194, (some (193, false)), .mov (.t 15)⟩,
 ⟨some 195, (some (193, false)), .bin .neq (.t 194) (.c (.int .i64 0))⟩,
 ⟨some 196, none, .pick (.t 193) (.c (.bool true)) (.t 195)⟩]) (
 .gh [.keep [1, 2, 3, 7, 12, 14, 196]] (
 .cond (.t 196) (
 .seq (
 .reg none [
 ⟨some 6, none, .mov (.c (.bool false))⟩]) (
 .ret)) (
 .skip)))) (
 .seq (
 .reg none [
 ⟨some 197, none, .faddr 0 (.t 3)⟩,
 ⟨some 198, none, .load false 1 (.t 197)⟩,
 ⟨some 199, none, .bin .mul (.c (.int .i64 100)) (.t 198)⟩,
 ⟨some 200, none, .faddr 1 (.t 3)⟩,
 ⟨some 201, none, .load false 1 (.t 200)⟩,
 ⟨some 202, none, .mov (.t 1)⟩,
 ⟨some 203, none, .bin .mul (.t 201) (.t 202)⟩,
 ⟨some 204, none, .bin .add (.t 199) (.t 203)⟩,
 ⟨some 16, none, .mov (.t 204)⟩]) (
 .gh [.keep [1, 2, 3, 7, 12, 14, 16]] (
 .seq (
 .seq (
 .reg (some []) [
 ⟨some 205, none, .aaddr 2 2 (.t 12) (.c (.int .i64 0))⟩,
 ⟨some 206, none, .faddr 0 (.t 205)⟩,
 ⟨some 207, none, .load false 1 (.t 206)⟩,
 ⟨some 208, none, .aaddr 2 2 (.t 12) (.c (.int .i64 0))⟩,
 ⟨some 209, none, .faddr 1 (.t 208)⟩,
 ⟨some 210, none, .load false 1 (.t 209)⟩,
 ⟨some 211, none, .faddr 1 (.t 3)⟩,
 ⟨some 212, none, .load false 1 (.t 211)⟩,
 ⟨some 213, none, .ncall true 0 52 [(.t 207), (.t 210), (.t 212), (.c (.int .i64 100))]⟩,
 ⟨some 214, none, .bin .gtr (.t 213) (.c (.int .i64 0))⟩,
 ⟨some 215, none, .mov (.t 214)⟩,
 ⟨some 216, (some (215, false)), .faddr 1 (.t 3)⟩,
 ⟨some 217, (some (215, false)), .load false 1 (.t 216)⟩,
 ⟨some 218, (some (215, false)), .aaddr 2 2 (.t 12) (.c (.int .i64 1))⟩,
 ⟨some 219, (some (215, false)), .faddr 0 (.t 218)⟩,
 ⟨some 220, (some (215, false)), .load false 1 (.t 219)⟩,
 ⟨some 221, (some (215, false)), .aaddr 2 2 (.t 12) (.c (.int .i64 1))⟩,
 ⟨some 222, (some (215, false)), .faddr 1 (.t 221)⟩,
 ⟨some 223, (some (215, false)), .load false 1 (.t 222)⟩,
 ⟨some 224, (some (215, false)), .ncall true 0 52 [(.t 217), (.c (.int .i64 100)), (.t 220), (.t 223)]⟩,
 ⟨some 225, (some (215, false)), .bin .gtr (.t 224) (.c (.int .i64 0))⟩,
 ⟨some 226, none, .pick (.t 215) (.c (.bool true)) (.t 225)⟩,
 ⟨some 227, none, .mov (.t 226)⟩,
 ⟨some 228, (some (227, false)), .faddr 0 (.t 14)⟩,
 ⟨some 229, (some (227, false)), .load false 1 (.t 228)⟩,
 ⟨some 230, (some (227, false)), .mov (.t 16)⟩,
 ⟨some 231, (some (227, false)), .ncall true 0 49 [(.t 230), (.c (.int .i64 100))]⟩,
 ⟨some 232, (some (227, false)), .bin .gtr (.t 229) (.t 231)⟩,
 ⟨some 233, none, .pick (.t 227) (.c (.bool true)) (.t 232)⟩,
 ⟨some 234, none, .mov (.t 233)⟩,
 ⟨some 235, (some (234, false)), .faddr 1 (.t 14)⟩,
 ⟨some 236, (some (234, false)), .load false 1 (.t 235)⟩,
 ⟨some 237, (some (234, false)), .mov (.t 16)⟩,
 ⟨some 238, (some (234, false)), .ncall true 0 50 [(.t 237), (.c (.int .i64 100))]⟩,
 ⟨some 239, (some (234, false)), .bin .lss (.t 236) (.t 238)⟩,
 ⟨some 240, none, .pick (.t 234) (.c (.bool true)) (.t 239)⟩]) (
 .gh [.keep [1, 2, 7, 12, 14, 240]] (
 .cond (.t 240) (
 .seq (
 .reg none [
 ⟨some 6, none, .mov (.c (.bool false))⟩]) (
 .ret)) (
 .skip)))) (
 .seq (
 .reg none [
 ⟨some 241, none, .mov (.t 2)⟩,
 ⟨some 242, none, .mov (.t 7)⟩,
 ⟨some 243, none, .len (.t 242)⟩,
 ⟨some 244, none, .ncall true 0 53 [(.t 241), (.t 243)]⟩,
 ⟨some 17, none, .mov (.t 244)⟩]) (
 .seq (
 .reg (some [(3, 4), (3, 5), (3, 6), (3, 7)]) [
 ⟨some 245, none, .mov (.t 7)⟩,
 ⟨some 246, none, .mov (.t 17)⟩,
 ⟨some 247, none, .slc 3 (.t 245) none (some (.t 246)) none⟩,
 ⟨some 248, none, .ncall true 8249 24 [(.t 247)]⟩,
 ⟨some 249, none, .mov (.t 7)⟩,
 ⟨some 250, none, .mov (.t 17)⟩,
 ⟨some 251, none, .bin .add (.t 250) (.c (.int .i64 1))⟩,
 ⟨some 252, none, .slc 3 (.t 249) (some (.t 251)) none none⟩,
 ⟨some 253, none, .append 8254 49 3 (.t 248) (.t 252)⟩,
 ⟨some 18, none, .mov (.t 253)⟩]) (
 .gh [.keep [1, 7, 12, 14, 18]] (
 .seq (
 .reg none [
 ⟨some 255, none, .mov (.t 18)⟩,
 ⟨some 256, none, .ncall true 8257 24 [(.t 255)]⟩,
 ⟨some 257, none, .ncall true 0 42 [(.t 256)]⟩,
 ⟨some 254, none, .mov (.t 257)⟩,
 ⟨some 258, none, .ext 0 (.t 254)⟩,
 ⟨some 259, none, .ext 1 (.t 254)⟩,
 ⟨some 19, none, .alloc 8020 80 (.agg (.ints .i64 [0, 0, 0, 0]))⟩,
 ⟨none, none, .store 4 (.t 19) (.t 258)⟩,
 ⟨some 20, none, .mov (.t 259)⟩]) (
 .gh [.keep [1, 7, 12, 14, 18, 19, 20]] (
 .seq (
 .reg none [
 ⟨some 261, none, .mov (.t 18)⟩,
 ⟨some 262, none, .mov (.t 1)⟩,
 ⟨some 263, none, .ncall true 0 23 [(.t 261), (.t 262)]⟩,
 ⟨some 260, none, .mov (.t 263)⟩,
 ⟨some 264, none, .ext 0 (.t 260)⟩,
 ⟨some 265, none, .ext 1 (.t 260)⟩,
 ⟨some 21, none, .alloc 8022 40 (.agg (.gen [(.int .i64 0), (.int .i64 0)]))⟩,
 ⟨none, none, .store 2 (.t 21) (.t 264)⟩,
 ⟨some 22, none, .mov (.t 265)⟩]) (
 .gh [.keep [7, 12, 14, 19, 20, 21, 22]] (
 .seq (
 .seq (
 .reg none [
 ⟨some 266, none, .mov (.t 20)⟩,
 ⟨some 267, none, .bin .neq (.t 266) (.c (.int .i64 0))⟩,
 ⟨some 268, none, .mov (.t 267)⟩,
 ⟨some 269, (some (268, false)), .mov (.t 22)⟩,
 ⟨some 270, (some (268, false)), .bin .neq (.t 269) (.c (.int .i64 0))⟩,
 ⟨some 271, none, .pick (.t 268) (.c (.bool true)) (.t 270)⟩,
 ⟨some 272, none, .mov (.t 271)⟩,
 ⟨some 273, (some (272, false)), .aaddr 2 2 (.t 19) (.c (.int .i64 0))⟩,
 ⟨some 274, (some (272, false)), .load true 2 (.t 273)⟩,
 ⟨some 275, (some (272, false)), .ncall true 0 51 [(.t 274)]⟩,
 ⟨some 276, (some (272, false)), .not (.t 275)⟩,
 ⟨some 277, none, .pick (.t 272) (.c (.bool true)) (.t 276)⟩,
 ⟨some 278, none, .mov (.t 277)⟩,
 ⟨some 279, (some (278, false)), .aaddr 2 2 (.t 19) (.c (.int .i64 1))⟩,
 ⟨some 280, (some (278, false)), .load true 2 (.t 279)⟩,
 ⟨some 281, (some (278, false)), .ncall true 0 51 [(.t 280)]⟩,
 ⟨some 282, (some (278, false)), .not (.t 281)⟩,
 ⟨some 283, none, .pick (.t 278) (.c (.bool true)) (.t 282)⟩,
 ⟨some 284, none, .mov (.t 283)⟩,
 ⟨some 285, (some (284, false)), .faddr 0 (.t 21)⟩,
 ⟨some 286, (some (284, false)), .load false 1 (.t 285)⟩,
 ⟨some 287, (some (284, false)), .faddr 0 (.t 14)⟩,
 ⟨some 288, (some (284, false)), .load false 1 (.t 287)⟩,
 ⟨some 289, (some (284, false)), .bin .gtr (.t 286) (.t 288)⟩,
 ⟨some 290, none, .pick (.t 284) (.c (.bool true)) (.t 289)⟩,
 ⟨some 291, none, .mov (.t 290)⟩,
 ⟨some 292, (some (291, false)), .faddr 1 (.t 21)⟩,
 ⟨some 293, (some (291, false)), .load false 1 (.t 292)⟩,
 ⟨some 294, (some (291, false)), .faddr 1 (.t 14)⟩,
 ⟨some 295, (some (291, false)), .load false 1 (.t 294)⟩,
 ⟨some 296, (some (291, false)), .bin .lss (.t 293) (.t 295)⟩,
 ⟨some 297, none, .pick (.t 291) (.c (.bool true)) (.t 296)⟩,
 ⟨some 298, none, .mov (.t 297)⟩,
 ⟨some 299, (some (298, false)), .aaddr 2 2 (.t 19) (.c (.int .i64 0))⟩,
 ⟨some 300, (some (298, false)), .faddr 0 (.t 299)⟩,
 ⟨some 301, (some (298, false)), .load false 1 (.t 300)⟩,
 ⟨some 302, (some (298, false)), .aaddr 2 2 (.t 19) (.c (.int .i64 0))⟩,
 ⟨some 303, (some (298, false)), .faddr 1 (.t 302)⟩,
 ⟨some 304, (some (298, false)), .load false 1 (.t 303)⟩,
 ⟨some 305, (some (298, false)), .aaddr 2 2 (.t 12) (.c (.int .i64 0))⟩,
 ⟨some 306, (some (298, false)), .faddr 0 (.t 305)⟩,
 ⟨some 307, (some (298, false)), .load false 1 (.t 306)⟩,
 ⟨some 308, (some (298, false)), .aaddr 2 2 (.t 12) (.c (.int .i64 0))⟩,
 ⟨some 309, (some (298, false)), .faddr 1 (.t 308)⟩,
 ⟨some 310, (some (298, false)), .load false 1 (.t 309)⟩,
 ⟨some 311, (some (298, false)), .ncall true 0 52 [(.t 301), (.t 304), (.t 307), (.t 310)]⟩,
 ⟨some 312, (some (298, false)), .bin .gtr (.t 311) (.c (.int .i64 0))⟩,
 ⟨some 313, none, .pick (.t 298) (.c (.bool true)) (.t 312)⟩,
 ⟨some 314, none, .mov (.t 313)⟩,
 ⟨some 315, (some (314, false)), .aaddr 2 2 (.t 19) (.c (.int .i64 1))⟩,
 ⟨some 316, (some (314, false)), .faddr 0 (.t 315)⟩,
 ⟨some 317, (some (314, false)), .load false 1 (.t 316)⟩,
 ⟨some 318, (some (314, false)), .aaddr 2 2 (.t 19) (.c (.int .i64 1))⟩,
 ⟨some 319, (some (314, false)), .faddr 1 (.t 318)⟩,
 ⟨some 320, (some (314, false)), .load false 1 (.t 319)⟩,
 ⟨some 321, (some (314, false)), .aaddr 2 2 (.t 12) (.c (.int .i64 1))⟩,
 ⟨some 322, (some (314, false)), .faddr 0 (.t 321)⟩,
 ⟨some 323, (some (314, false)), .load false 1 (.t 322)⟩,
 ⟨some 324, (some (314, false)), .aaddr 2 2 (.t 12) (.c (.int .i64 1))⟩,
 ⟨some 325, (some (314, false)), .faddr 1 (.t 324)⟩,
 ⟨some 326, (some (314, false)), .load false 1 (.t 325)⟩,
 ⟨some 327, (some (314, false)), .ncall true 0 52 [(.t 317), (.t 320), (.t 323), (.t 326)]⟩,
 ⟨some 328, (some (314, false)), .bin .lss (.t 327) (.c (.int .i64 0))⟩,
 ⟨some 329, none, .pick (.t 314) (.c (.bool true)) (.t 328)⟩]) (
 .gh [.keep [7, 329]] (
 .cond (.t 329) (
 .seq (
 .reg none [
 ⟨some 6, none, .mov (.c (.bool false))⟩]) (
 .ret)) (
 .skip)))) (
 .seq (
 .reg none [
 ⟨some 330, none, .mov (.t 7)⟩,
 ⟨some 331, none, .len (.t 330)⟩,
 ⟨some 332, none, .bin .sub (.t 331) (.c (.int .i64 1))⟩,
 ⟨some 23, none, .mov (.t 332)⟩]) (
 .seq (
 .reg (some [(0, 13), (1, 13), (2, 13), (3, 4), (3, 5), (3, 6), (3, 7), (3, 8), (3, 13), (4, 13), (5, 13), (6, 13), (7, 13), (8, 13), (9, 13), (10, 13), (11, 13), (12, 13), (12, 14)]) [
 ⟨some 334, none, .mov (.t 7)⟩,
 ⟨some 335, none, .mov (.t 23)⟩,
 ⟨some 336, none, .slc 3 (.t 334) none (some (.t 335)) none⟩,
 ⟨some 337, none, .ncall true 8338 24 [(.t 336)]⟩,
 ⟨some 338, none, .mov (.t 7)⟩,
 ⟨some 339, none, .mov (.t 23)⟩,
 ⟨some 340, none, .iaddr 3 (.t 338) (.t 339)⟩,
 ⟨some 341, none, .faddr 0 (.t 340)⟩,
 ⟨some 342, none, .load false 1 (.t 341)⟩,
 ⟨some 343, none, .ncall true 0 23 [(.t 337), (.t 342)]⟩,
 ⟨some 333, none, .mov (.t 343)⟩,
 ⟨some 344, none, .ext 0 (.t 333)⟩,
 ⟨some 345, none, .ext 1 (.t 333)⟩,
 ⟨some 24, none, .alloc 8025 40 (.agg (.gen [(.int .i64 0), (.int .i64 0)]))⟩,
 ⟨none, none, .store 2 (.t 24) (.t 344)⟩,
 ⟨some 25, none, .mov (.t 345)⟩]) (
 .gh [.keep [7, 23, 24, 25]] (
 .seq (
 .seq (
 .reg none [
 ⟨some 346, none, .mov (.t 25)⟩,
 ⟨some 347, none, .bin .neq (.t 346) (.c (.int .i64 0))⟩,
 ⟨some 348, none, .mov (.t 347)⟩,
 ⟨some 349, (some (348, false)), .faddr 1 (.t 24)⟩,
 ⟨some 350, (some (348, false)), .load false 1 (.t 349)⟩,
 ⟨some 351, (some (348, false)), .ncall true 0 27 [(.t 350), (.c (.int .i64 0)), (.c (.int .i64 999999999999))]⟩,
 ⟨some 352, (some (348, false)), .not (.t 351)⟩,
 ⟨some 353, none, .pick (.t 348) (.c (.bool true)) (.t 352)⟩]) (
 .gh [.keep [7, 23, 24, 25, 353]] (
 .cond (.t 353) (
 .seq (
 .reg none [
 ⟨some 354, none, .mov (.t 25)⟩,
 ⟨some 355, none, .bin .eql (.t 354) (.c (.int .i64 0))⟩,
 ⟨some 6, none, .mov (.t 355)⟩]) (
 .ret)) (
 .skip)))) (
 .seq (
 .reg none [
 ⟨some 356, none, .mov (.t 7)⟩,
 ⟨some 357, none, .ncall true 8358 24 [(.t 356)]⟩,
 ⟨some 26, none, .mov (.t 357)⟩]) (
 .seq (
 .reg none [
 ⟨some 358, none, .mov (.t 26)⟩,
 ⟨some 359, none, .mov (.t 23)⟩,
 ⟨some 360, none, .faddr 1 (.t 24)⟩,
 ⟨some 361, none, .load false 1 (.t 360)⟩,
 ⟨some 362, none, .bin .add (.t 361) (.c (.int .i64 1))⟩,
 ⟨some 363, none, .faddr 1 (.t 24)⟩,
 ⟨some 364, none, .load false 1 (.t 363)⟩,
 ⟨some 365, none, .bin .add (.t 364) (.c (.int .i64 1))⟩,
 ⟨some 366, none, .build (.gen [(.int .i64 0), (.int .i64 0)]) [(0, 1, (.t 362)), (1, 1, (.t 365))]⟩,
 ⟨some 367, none, .iaddr 3 (.t 358) (.t 359)⟩,
 ⟨some 368, none, .faddr 1 (.t 367)⟩,
 ⟨none, none, .store 2 (.t 368) (.t 366)⟩]) (
 .gh [.keep [23, 26]] (
 .seq (
 .reg none [
 ⟨some 370, none, .mov (.t 26)⟩,
 ⟨some 371, none, .ncall true 8372 43 [(.t 370)]⟩,
 ⟨some 369, none, .mov (.t 371)⟩,
 ⟨some 372, none, .ext 0 (.t 369)⟩,
 ⟨some 373, none, .ext 1 (.t 369)⟩,
 ⟨some 27, none, .mov (.t 372)⟩,
 ⟨some 28, none, .mov (.t 373)⟩]) (
 .seq (
 .reg none [
 ⟨some 374, none, .mov (.t 28)⟩,
 ⟨some 375, none, .bin .eql (.t 374) (.c (.int .i64 0))⟩,
 ⟨some 376, none, .mov (.t 375)⟩,
 ⟨some 377, (some (376, true)), .mov (.t 27)⟩,
 ⟨some 378, (some (376, true)), .mov (.t 23)⟩,
 ⟨some 379, (some (376, true)), .bin .sub (.t 378) (.c (.int .i64 1))⟩,
 ⟨some 380, (some (376, true)), .build (.gen [(.int .i64 0), (.int .i64 0)]) [(1, 1, (.t 379))]⟩,
 ⟨some 381, (some (376, true)), .mov (.t 23)⟩,
 ⟨some 382, (some (376, true)), .mov (.t 23)⟩,
 ⟨some 383, (some (376, true)), .build (.gen [(.int .i64 0), (.int .i64 0)]) [(0, 1, (.t 381)), (1, 1, (.t 382))]⟩,
 ⟨some 384, (some (376, true)), .bslice 8385 40 2 [(.t 380), (.t 383)]⟩,
 ⟨some 385, (some (376, true)), .ncall true 0 45 [(.t 377), (.t 384)]⟩,
 ⟨some 386, none, .pick (.t 376) (.t 385) (.c (.bool false))⟩,
 ⟨some 6, none, .mov (.t 386)⟩]) (
 .gh [.keep [6]] (
 .ret)))))))))))))))))))))))))))))]
def c8 : ACode :=
 .seq (
 .reg none [
 ⟨some 3, none, .box 8004 94 (.t 0)⟩,
 ⟨some 6, none, .mov (.c (.bool false))⟩]) (
 .seq (
 .seq (
 .reg none [
 ⟨some 29, none, .ncall true 0 14 []⟩,
 ⟨some 30, none, .not (.t 29)⟩]) (
 .cond (.t 30) (
 .seq (
 .reg none [
 ⟨some 6, none, .mov (.c (.bool false))⟩]) (
 .ret)) (
 .skip))) (
 .seq (
 .seq (
 .reg none [
 ⟨some 31, none, .faddr 2 (.t 3)⟩,
 ⟨some 32, none, .load false 1 (.t 31)⟩,
 ⟨some 33, none, .len (.t 32)⟩,
 ⟨some 34, none, .bin .lss (.t 33) (.c (.int .i64 3))⟩,
 ⟨some 35, none, .mov (.t 34)⟩,
 ⟨some 36, (some (35, false)), .faddr 2 (.t 3)⟩,
 ⟨some 37, (some (35, false)), .load false 1 (.t 36)⟩,
 ⟨some 38, (some (35, false)), .len (.t 37)⟩,
 ⟨some 39, (some (35, false)), .bin .gtr (.t 38) (.c (.int .i64 10))⟩,
 ⟨some 40, none, .pick (.t 35) (.c (.bool true)) (.t 39)⟩,
 ⟨some 41, none, .mov (.t 40)⟩,
 ⟨some 42, (some (41, false)), .faddr 3 (.t 3)⟩,
 ⟨some 43, (some (41, false)), .load false 1 (.t 42)⟩,
 ⟨some 44, (some (41, false)), .len (.t 43)⟩,
 ⟨some 45, (some (41, false)), .faddr 2 (.t 3)⟩,
 ⟨some 46, (some (41, false)), .load false 1 (.t 45)⟩,
 ⟨some 47, (some (41, false)), .len (.t 46)⟩,
 ⟨some 48, (some (41, false)), .bin .neq (.t 44) (.t 47)⟩,
 ⟨some 49, none, .pick (.t 41) (.c (.bool true)) (.t 48)⟩,
 ⟨some 50, none, .mov (.t 49)⟩,
 ⟨some 51, (some (50, false)), .faddr 0 (.t 3)⟩,
 ⟨some 52, (some (50, false)), .load false 1 (.t 51)⟩,
 ⟨some 53, (some (50, false)), .ncall true 0 27 [(.t 52), (.c (.int .i64 1000)), (.c (.int .i64 1000000))]⟩,
 ⟨some 54, (some (50, false)), .not (.t 53)⟩,
 ⟨some 55, none, .pick (.t 50) (.c (.bool true)) (.t 54)⟩,
 ⟨some 56, none, .mov (.t 55)⟩,
 ⟨some 57, (some (56, false)), .faddr 1 (.t 3)⟩,
 ⟨some 58, (some (56, false)), .load false 1 (.t 57)⟩,
 ⟨some 59, (some (56, false)), .ncall true 0 27 [(.t 58), (.c (.int .i64 0)), (.c (.int .i64 100000))]⟩,
 ⟨some 60, (some (56, false)), .not (.t 59)⟩,
 ⟨some 61, none, .pick (.t 56) (.c (.bool true)) (.t 60)⟩,
 ⟨some 62, none, .mov (.t 61)⟩,
 ⟨some 63, (some (62, false)), .mov (.t 1)⟩,
 ⟨some 64, (some (62, false)), .ncall true 0 27 [(.t 63), (.c (.int .i64 0)), (.c (.int .i64 100000))]⟩,
 ⟨some 65, (some (62, false)), .not (.t 64)⟩,
 ⟨some 66, none, .pick (.t 62) (.c (.bool true)) (.t 65)⟩]) (
 .gh [.keep [1, 2, 3, 66]] (
 .cond (.t 66) (
 .seq (
 .reg none [
 ⟨some 6, none, .mov (.c (.bool true))⟩]) (
 .ret)) (
 .skip)))) (
 .seq (
 .reg none [
 ⟨some 7, none, .mov (.c .nils)⟩]) (
 .seq (
 .seq (
 .reg none [
 ⟨some 8, none, .mov (.c (.int .i64 0))⟩]) (
 .block 0 (
 .loop b8_0))) (
 .seq (
 .reg none [
 ⟨some 147, none, .mov (.t 7)⟩,
 ⟨some 148, none, .ncall true 8149 24 [(.t 147)]⟩,
 ⟨some 149, none, .ncall true 8150 43 [(.t 148)]⟩,
 ⟨some 146, none, .mov (.t 149)⟩,
 ⟨some 150, none, .ext 0 (.t 146)⟩,
 ⟨some 151, none, .ext 1 (.t 146)⟩,
 ⟨some 10, none, .mov (.t 150)⟩,
 ⟨some 11, none, .mov (.t 151)⟩]) (
 .gh [.keep [1, 2, 3, 7, 10, 11]] (
 .seq (
 .reg none [
 ⟨some 153, none, .mov (.t 7)⟩,
 ⟨some 154, none, .ncall true 8155 24 [(.t 153)]⟩,
 ⟨some 155, none, .ncall true 0 42 [(.t 154)]⟩,
 ⟨some 152, none, .mov (.t 155)⟩,
 ⟨some 156, none, .ext 0 (.t 152)⟩,
 ⟨some 157, none, .ext 1 (.t 152)⟩,
 ⟨some 12, none, .alloc 8013 80 (.agg (.ints .i64 [0, 0, 0, 0]))⟩,
 ⟨none, none, .store 4 (.t 12) (.t 156)⟩,
 ⟨some 13, none, .mov (.t 157)⟩]) (
 .gh [.keep [1, 2, 3, 7, 10, 11, 12, 13]] (
 .seq (
 .reg none [
 ⟨some 159, none, .mov (.t 7)⟩,
 ⟨some 160, none, .ncall true 8161 24 [(.t 159)]⟩,
 ⟨some 161, none, .mov (.t 1)⟩,
 ⟨some 162, none, .ncall true 0 23 [(.t 160), (.t 161)]⟩,
 ⟨some 158, none, .mov (.t 162)⟩,
 ⟨some 163, none, .ext 0 (.t 158)⟩,
 ⟨some 164, none, .ext 1 (.t 158)⟩,
 ⟨some 14, none, .alloc 8015 40 (.agg (.gen [(.int .i64 0), (.int .i64 0)]))⟩,
 ⟨none, none, .store 2 (.t 14) (.t 163)⟩,
 ⟨some 15, none, .mov (.t 164)⟩]) (
 .gh [.keep [1, 2, 3, 7, 10, 11, 12, 13, 14, 15]] (
 .seq (
 .seq (
 .reg none [
 ⟨some 165, none, .mov (.t 11)⟩,
 ⟨some 166, none, .bin .neq (.t 165) (.c (.int .i64 0))⟩,
 ⟨some 167, none, .mov (.t 166)⟩,
 ⟨some 168, (some (167, false)), .mov (.t 10)⟩,
 ⟨some 169, (some (167, false)), .mov (.t 7)⟩,
 ⟨some 170, (some (167, false)), .len (.t 169)⟩,
 ⟨some 171, (some (167, false)), .bin .sub (.t 170) (.c (.int .i64 1))⟩,
 ⟨some 172, (some (167, false)), .build (.gen [(.int .i64 0), (.int .i64 0)]) [(1, 1, (.t 171))]⟩,
 ⟨some 173, (some (167, false)), .bslice 8174 40 2 [(.t 172)]⟩,
 ⟨some 174, (some (167, false)), .ncall true 0 45 [(.t 168), (.t 173)]⟩,
 ⟨some 175, (some (167, false)), .not (.t 174)⟩,
 ⟨some 176, none, .pick (.t 167) (.c (.bool true)) (.t 175)⟩,
 ⟨some 177, none, .mov (.t 176)⟩,
 ⟨some 178, (some (177, false)), .mov (.t 13)⟩,
 ⟨some 179, (some (177, false)), .bin .neq (.t 178) (.c (.int .i64 0))⟩,
 ⟨some 180, none, .pick (.t 177) (.c (.bool true)) (.t 179)⟩,
 ⟨some 181, none, .mov (.t 180)⟩,
 ⟨some 182, (some (181, false)), .aaddr 2 2 (.t 12) (.c (.int .i64 0))⟩,
 ⟨some 183, (some (181, false)), .load true 2 (.t 182)⟩,
 ⟨some 184, (some (181, false)), .ncall true 0 51 [(.t 183)]⟩,
 ⟨some 185, (some (181, false)), .not (.t 184)⟩,
 ⟨some 186, none, .pick (.t 181) (.c (.bool true)) (.t 185)⟩,
 ⟨some 187, none, .mov (.t 186)⟩,
 ⟨some 188, (some (187, false)), .aaddr 2 2 (.t 12) (.c (.int .i64 1))⟩,
 ⟨some 189, (some (187, false)), .load true 2 (.t 188)⟩,
 ⟨some 190, (some (187, false)), .ncall true 0 51 [(.t 189)]⟩,
 ⟨some 191, (some (187, false)), .not (.t 190)⟩,
 ⟨some 192, none, .pick (.t 187) (.c (.bool true)) (.t 191)⟩,
 ⟨some 193, none, .mov (.t 192)⟩,
 ⟨some 194, (some (193, false)), .mov (.t 15)⟩,
 ⟨some 195, (some (193, false)), .bin .neq (.t 194) (.c (.int .i64 0))⟩,
 ⟨some 196, none, .pick (.t 193) (.c (.bool true)) (.t 195)⟩]) (
 .gh [.keep [1, 2, 3, 7, 12, 14, 196]] (
 .cond (.t 196) (
 .seq (
 .reg none [
 ⟨some 6, none, .mov (.c (.bool false))⟩]) (
 .ret)) (
 .skip)))) (
 .seq (
 .reg none [
 ⟨some 197, none, .faddr 0 (.t 3)⟩,
 ⟨some 198, none, .load false 1 (.t 197)⟩,
 ⟨some 199, none, .bin .mul (.c (.int .i64 100)) (.t 198)⟩,
 ⟨some 200, none, .faddr 1 (.t 3)⟩,
 ⟨some 201, none, .load false 1 (.t 200)⟩,
 ⟨some 202, none, .mov (.t 1)⟩,
 ⟨some 203, none, .bin .mul (.t 201) (.t 202)⟩,
 ⟨some 204, none, .bin .add (.t 199) (.t 203)⟩,
 ⟨some 16, none, .mov (.t 204)⟩]) (
 .gh [.keep [1, 2, 3, 7, 12, 14, 16]] (
 .seq (
 .seq (
 .reg (some []) [
 ⟨some 205, none, .aaddr 2 2 (.t 12) (.c (.int .i64 0))⟩,
 ⟨some 206, none, .faddr 0 (.t 205)⟩,
 ⟨some 207, none, .load false 1 (.t 206)⟩,
 ⟨some 208, none, .aaddr 2 2 (.t 12) (.c (.int .i64 0))⟩,
 ⟨some 209, none, .faddr 1 (.t 208)⟩,
 ⟨some 210, none, .load false 1 (.t 209)⟩,
 ⟨some 211, none, .faddr 1 (.t 3)⟩,
 ⟨some 212, none, .load false 1 (.t 211)⟩,
 ⟨some 213, none, .ncall true 0 52 [(.t 207), (.t 210), (.t 212), (.c (.int .i64 100))]⟩,
 ⟨some 214, none, .bin .gtr (.t 213) (.c (.int .i64 0))⟩,
 ⟨some 215, none, .mov (.t 214)⟩,
 ⟨some 216, (some (215, false)), .faddr 1 (.t 3)⟩,
 ⟨some 217, (some (215, false)), .load false 1 (.t 216)⟩,
 ⟨some 218, (some (215, false)), .aaddr 2 2 (.t 12) (.c (.int .i64 1))⟩,
 ⟨some 219, (some (215, false)), .faddr 0 (.t 218)⟩,
 ⟨some 220, (some (215, false)), .load false 1 (.t 219)⟩,
 ⟨some 221, (some (215, false)), .aaddr 2 2 (.t 12) (.c (.int .i64 1))⟩,
 ⟨some 222, (some (215, false)), .faddr 1 (.t 221)⟩,
 ⟨some 223, (some (215, false)), .load false 1 (.t 222)⟩,
 ⟨some 224, (some (215, false)), .ncall true 0 52 [(.t 217), (.c (.int .i64 100)), (.t 220), (.t 223)]⟩,
 ⟨some 225, (some (215, false)), .bin .gtr (.t 224) (.c (.int .i64 0))⟩,
 ⟨some 226, none, .pick (.t 215) (.c (.bool true)) (.t 225)⟩,
 ⟨some 227, none, .mov (.t 226)⟩,
 ⟨some 228, (some (227, false)), .faddr 0 (.t 14)⟩,
 ⟨some 229, (some (227, false)), .load false 1 (.t 228)⟩,
 ⟨some 230, (some (227, false)), .mov (.t 16)⟩,
 ⟨some 231, (some (227, false)), .ncall true 0 49 [(.t 230), (.c (.int .i64 100))]⟩,
 ⟨some 232, (some (227, false)), .bin .gtr (.t 229) (.t 231)⟩,
 ⟨some 233, none, .pick (.t 227) (.c (.bool true)) (.t 232)⟩,
 ⟨some 234, none, .mov (.t 233)⟩,
 ⟨some 235, (some (234, false)), .faddr 1 (.t 14)⟩,
 ⟨some 236, (some (234, false)), .load false 1 (.t 235)⟩,
 ⟨some 237, (some (234, false)), .mov (.t 16)⟩,
 ⟨some 238, (some (234, false)), .ncall true 0 50 [(.t 237), (.c (.int .i64 100))]⟩,
 ⟨some 239, (some (234, false)), .bin .lss (.t 236) (.t 238)⟩,
 ⟨some 240, none, .pick (.t 234) (.c (.bool true)) (.t 239)⟩]) (
 .gh [.keep [1, 2, 7, 12, 14, 240]] (
 .cond (.t 240) (
 .seq (
 .reg none [
 ⟨some 6, none, .mov (.c (.bool false))⟩]) (
 .ret)) (
 .skip)))) (
 .seq (
 .reg none [
 ⟨some 241, none, .mov (.t 2)⟩,
 ⟨some 242, none, .mov (.t 7)⟩,
 ⟨some 243, none, .len (.t 242)⟩,
 ⟨some 244, none, .ncall true 0 53 [(.t 241), (.t 243)]⟩,
 ⟨some 17, none, .mov (.t 244)⟩]) (
 .seq (
 .reg (some [(3, 4), (3, 5), (3, 6), (3, 7)]) [
 ⟨some 245, none, .mov (.t 7)⟩,
 ⟨some 246, none, .mov (.t 17)⟩,
 ⟨some 247, none, .slc 3 (.t 245) none (some (.t 246)) none⟩,
 ⟨some 248, none, .ncall true 8249 24 [(.t 247)]⟩,
 ⟨some 249, none, .mov (.t 7)⟩,
 ⟨some 250, none, .mov (.t 17)⟩,
 ⟨some 251, none, .bin .add (.t 250) (.c (.int .i64 1))⟩,
 ⟨some 252, none, .slc 3 (.t 249) (some (.t 251)) none none⟩,
 ⟨some 253, none, .append 8254 49 3 (.t 248) (.t 252)⟩,
 ⟨some 18, none, .mov (.t 253)⟩]) (
 .gh [.keep [1, 7, 12, 14, 18]] (
 .seq (
 .reg none [
 ⟨some 255, none, .mov (.t 18)⟩,
 ⟨some 256, none, .ncall true 8257 24 [(.t 255)]⟩,
 ⟨some 257, none, .ncall true 0 42 [(.t 256)]⟩,
 ⟨some 254, none, .mov (.t 257)⟩,
 ⟨some 258, none, .ext 0 (.t 254)⟩,
 ⟨some 259, none, .ext 1 (.t 254)⟩,
 ⟨some 19, none, .alloc 8020 80 (.agg (.ints .i64 [0, 0, 0, 0]))⟩,
 ⟨none, none, .store 4 (.t 19) (.t 258)⟩,
 ⟨some 20, none, .mov (.t 259)⟩]) (
 .gh [.keep [1, 7, 12, 14, 18, 19, 20]] (
 .seq (
 .reg none [
 ⟨some 261, none, .mov (.t 18)⟩,
 ⟨some 262, none, .mov (.t 1)⟩,
 ⟨some 263, none, .ncall true 0 23 [(.t 261), (.t 262)]⟩,
 ⟨some 260, none, .mov (.t 263)⟩,
 ⟨some 264, none, .ext 0 (.t 260)⟩,
 ⟨some 265, none, .ext 1 (.t 260)⟩,
 ⟨some 21, none, .alloc 8022 40 (.agg (.gen [(.int .i64 0), (.int .i64 0)]))⟩,
 ⟨none, none, .store 2 (.t 21) (.t 264)⟩,
 ⟨some 22, none, .mov (.t 265)⟩]) (
 .gh [.keep [7, 12, 14, 19, 20, 21, 22]] (
 .seq (
 .seq (
 .reg none [
 ⟨some 266, none, .mov (.t 20)⟩,
 ⟨some 267, none, .bin .neq (.t 266) (.c (.int .i64 0))⟩,
 ⟨some 268, none, .mov (.t 267)⟩,
 ⟨some 269, (some (268, false)), .mov (.t 22)⟩,
 ⟨some 270, (some (268, false)), .bin .neq (.t 269) (.c (.int .i64 0))⟩,
 ⟨some 271, none, .pick (.t 268) (.c (.bool true)) (.t 270)⟩,
 ⟨some 272, none, .mov (.t 271)⟩,
 ⟨some 273, (some (272, false)), .aaddr 2 2 (.t 19) (.c (.int .i64 0))⟩,
 ⟨some 274, (some (272, false)), .load true 2 (.t 273)⟩,
 ⟨some 275, (some (272, false)), .ncall true 0 51 [(.t 274)]⟩,
 ⟨some 276, (some (272, false)), .not (.t 275)⟩,
 ⟨some 277, none, .pick (.t 272) (.c (.bool true)) (.t 276)⟩,
 ⟨some 278, none, .mov (.t 277)⟩,
 ⟨some 279, (some (278, false)), .aaddr 2 2 (.t 19) (.c (.int .i64 1))⟩,
 ⟨some 280, (some (278, false)), .load true 2 (.t 279)⟩,
 ⟨some 281, (some (278, false)), .ncall true 0 51 [(.t 280)]⟩,
 ⟨some 282, (some (278, false)), .not (.t 281)⟩,
 ⟨some 283, none, .pick (.t 278) (.c (.bool true)) (.t 282)⟩,
 ⟨some 284, none, .mov (.t 283)⟩,
 ⟨some 285, (some (284, false)), .faddr 0 (.t 21)⟩,
 ⟨some 286, (some (284, false)), .load false 1 (.t 285)⟩,
 ⟨some 287, (some (284, false)), .faddr 0 (.t 14)⟩,
 ⟨some 288, (some (284, false)), .load false 1 (.t 287)⟩,
 ⟨some 289, (some (284, false)), .bin .gtr (.t 286) (.t 288)⟩,
 ⟨some 290, none, .pick (.t 284) (.c (.bool true)) (.t 289)⟩,
 ⟨some 291, none, .mov (.t 290)⟩,
 ⟨some 292, (some (291, false)), .faddr 1 (.t 21)⟩,
 ⟨some 293, (some (291, false)), .load false 1 (.t 292)⟩,
 ⟨some 294, (some (291, false)), .faddr 1 (.t 14)⟩,
 ⟨some 295, (some (291, false)), .load false 1 (.t 294)⟩,
 ⟨some 296, (some (291, false)), .bin .lss (.t 293) (.t 295)⟩,
 ⟨some 297, none, .pick (.t 291) (.c (.bool true)) (.t 296)⟩,
 ⟨some 298, none, .mov (.t 297)⟩,
 ⟨some 299, (some (298, false)), .aaddr 2 2 (.t 19) (.c (.int .i64 0))⟩,
 ⟨some 300, (some (298, false)), .faddr 0 (.t 299)⟩,
 ⟨some 301, (some (298, false)), .load false 1 (.t 300)⟩,
 ⟨some 302, (some (298, false)), .aaddr 2 2 (.t 19) (.c (.int .i64 0))⟩,
 ⟨some 303, (some (298, false)), .faddr 1 (.t 302)⟩,
 ⟨some 304, (some (298, false)), .load false 1 (.t 303)⟩,
 ⟨some 305, (some (298, false)), .aaddr 2 2 (.t 12) (.c (.int .i64 0))⟩,
 ⟨some 306, (some (298, false)), .faddr 0 (.t 305)⟩,
 ⟨some 307, (some (298, false)), .load false 1 (.t 306)⟩,
 ⟨some 308, (some (298, false)), .aaddr 2 2 (.t 12) (.c (.int .i64 0))⟩,
 ⟨some 309, (some (298, false)), .faddr 1 (.t 308)⟩,
 ⟨some 310, (some (298, false)), .load false 1 (.t 309)⟩,
 ⟨some 311, (some (298, false)), .ncall true 0 52 [(.t 301), (.t 304), (.t 307), (.t 310)]⟩,
 ⟨some 312, (some (298, false)), .bin .gtr (.t 311) (.c (.int .i64 0))⟩,
 ⟨some 313, none, .pick (.t 298) (.c (.bool true)) (.t 312)⟩,
 ⟨some 314, none, .mov (.t 313)⟩,
 ⟨some 315, (some (314, false)), .aaddr 2 2 (.t 19) (.c (.int .i64 1))⟩,
 ⟨some 316, (some (314, false)), .faddr 0 (.t 315)⟩,
 ⟨some 317, (some (314, false)), .load false 1 (.t 316)⟩,
 ⟨some 318, (some (314, false)), .aaddr 2 2 (.t 19) (.c (.int .i64 1))⟩,
 ⟨some 319, (some (314, false)), .faddr 1 (.t 318)⟩,
 ⟨some 320, (some (314, false)), .load false 1 (.t 319)⟩,
 ⟨some 321, (some (314, false)), .aaddr 2 2 (.t 12) (.c (.int .i64 1))⟩,
 ⟨some 322, (some (314, false)), .faddr 0 (.t 321)⟩,
 ⟨some 323, (some (314, false)), .load false 1 (.t 322)⟩,
 ⟨some 324, (some (314, false)), .aaddr 2 2 (.t 12) (.c (.int .i64 1))⟩,
 ⟨some 325, (some (314, false)), .faddr 1 (.t 324)⟩,
 ⟨some 326, (some (314, false)), .load false 1 (.t 325)⟩,
 ⟨some 327, (some (314, false)), .ncall true 0 52 [(.t 317), (.t 320), (.t 323), (.t 326)]⟩,
 ⟨some 328, (some (314, false)), .bin .lss (.t 327) (.c (.int .i64 0))⟩,
 ⟨some 329, none, .pick (.t 314) (.c (.bool true)) (.t 328)⟩]) (
 .gh [.keep [7, 329]] (
 .cond (.t 329) (
 .seq (
 .reg none [
 ⟨some 6, none, .mov (.c (.bool false))⟩]) (
 .ret)) (
 .skip)))) (
 .seq (
 .reg none [
 ⟨some 330, none, .mov (.t 7)⟩,
 ⟨some 331, none, .len (.t 330)⟩,
 ⟨some 332, none, .bin .sub (.t 331) (.c (.int .i64 1))⟩,
 ⟨some 23, none, .mov (.t 332)⟩]) (
 .seq (
 .reg (some [(0, 13), (1, 13), (2, 13), (3, 4), (3, 5), (3, 6), (3, 7), (3, 8), (3, 13), (4, 13), (5, 13), (6, 13), (7, 13), (8, 13), (9, 13), (10, 13), (11, 13), (12, 13), (12, 14)]) [
 ⟨some 334, none, .mov (.t 7)⟩,
 ⟨some 335, none, .mov (.t 23)⟩,
 ⟨some 336, none, .slc 3 (.t 334) none (some (.t 335)) none⟩,
 ⟨some 337, none, .ncall true 8338 24 [(.t 336)]⟩,
 ⟨some 338, none, .mov (.t 7)⟩,
 ⟨some 339, none, .mov (.t 23)⟩,
 ⟨some 340, none, .iaddr 3 (.t 338) (.t 339)⟩,
 ⟨some 341, none, .faddr 0 (.t 340)⟩,
 ⟨some 342, none, .load false 1 (.t 341)⟩,
 ⟨some 343, none, .ncall true 0 23 [(.t 337), (.t 342)]⟩,
 ⟨some 333, none, .mov (.t 343)⟩,
 ⟨some 344, none, .ext 0 (.t 333)⟩,
 ⟨some 345, none, .ext 1 (.t 333)⟩,
 ⟨some 24, none, .alloc 8025 40 (.agg (.gen [(.int .i64 0), (.int .i64 0)]))⟩,
 ⟨none, none, .store 2 (.t 24) (.t 344)⟩,
 ⟨some 25, none, .mov (.t 345)⟩]) (
 .gh [.keep [7, 23, 24, 25]] (
 .seq (
 .seq (
 .reg none [
 ⟨some 346, none, .mov (.t 25)⟩,
 ⟨some 347, none, .bin .neq (.t 346) (.c (.int .i64 0))⟩,
 ⟨some 348, none, .mov (.t 347)⟩,
 ⟨some 349, (some (348, false)), .faddr 1 (.t 24)⟩,
 ⟨some 350, (some (348, false)), .load false 1 (.t 349)⟩,
 ⟨some 351, (some (348, false)), .ncall true 0 27 [(.t 350), (.c (.int .i64 0)), (.c (.int .i64 999999999999))]⟩,
 ⟨some 352, (some (348, false)), .not (.t 351)⟩,
 ⟨some 353, none, .pick (.t 348) (.c (.bool true)) (.t 352)⟩]) (
 .gh [.keep [7, 23, 24, 25, 353]] (
 .cond (.t 353) (
 .seq (
 .reg none [
 ⟨some 354, none, .mov (.t 25)⟩,
 ⟨some 355, none, .bin .eql (.t 354) (.c (.int .i64 0))⟩,
 ⟨some 6, none, .mov (.t 355)⟩]) (
 .ret)) (
 .skip)))) (
 .seq (
 .reg none [
 ⟨some 356, none, .mov (.t 7)⟩,
 ⟨some 357, none, .ncall true 8358 24 [(.t 356)]⟩,
 ⟨some 26, none, .mov (.t 357)⟩]) (
 .seq (
 .reg none [
 ⟨some 358, none, .mov (.t 26)⟩,
 ⟨some 359, none, .mov (.t 23)⟩,
 ⟨some 360, none, .faddr 1 (.t 24)⟩,
 ⟨some 361, none, .load false 1 (.t 360)⟩,
 ⟨some 362, none, .bin .add (.t 361) (.c (.int .i64 1))⟩,
 ⟨some 363, none, .faddr 1 (.t 24)⟩,
 ⟨some 364, none, .load false 1 (.t 363)⟩,
 ⟨some 365, none, .bin .add (.t 364) (.c (.int .i64 1))⟩,
 ⟨some 366, none, .build (.gen [(.int .i64 0), (.int .i64 0)]) [(0, 1, (.t 362)), (1, 1, (.t 365))]⟩,
 ⟨some 367, none, .iaddr 3 (.t 358) (.t 359)⟩,
 ⟨some 368, none, .faddr 1 (.t 367)⟩,
 ⟨none, none, .store 2 (.t 368) (.t 366)⟩]) (
 .gh [.keep [23, 26]] (
 .seq (
 .reg none [
 ⟨some 370, none, .mov (.t 26)⟩,
 ⟨some 371, none, .ncall true 8372 43 [(.t 370)]⟩,
 ⟨some 369, none, .mov (.t 371)⟩,
 ⟨some 372, none, .ext 0 (.t 369)⟩,
 ⟨some 373, none, .ext 1 (.t 369)⟩,
 ⟨some 27, none, .mov (.t 372)⟩,
 ⟨some 28, none, .mov (.t 373)⟩]) (
 .seq (
 .reg none [
 ⟨some 374, none, .mov (.t 28)⟩,
 ⟨some 375, none, .bin .eql (.t 374) (.c (.int .i64 0))⟩,
 ⟨some 376, none, .mov (.t 375)⟩,
 ⟨some 377, (some (376, true)), .mov (.t 27)⟩,
 ⟨some 378, (some (376, true)), .mov (.t 23)⟩,
 ⟨some 379, (some (376, true)), .bin .sub (.t 378) (.c (.int .i64 1))⟩,
 ⟨some 380, (some (376, true)), .build (.gen [(.int .i64 0), (.int .i64 0)]) [(1, 1, (.t 379))]⟩,
 ⟨some 381, (some (376, true)), .mov (.t 23)⟩,
 ⟨some 382, (some (376, true)), .mov (.t 23)⟩,
 ⟨some 383, (some (376, true)), .build (.gen [(.int .i64 0), (.int .i64 0)]) [(0, 1, (.t 381)), (1, 1, (.t 382))]⟩,
 ⟨some 384, (some (376, true)), .bslice 8385 40 2 [(.t 380), (.t 383)]⟩,
 ⟨some 385, (some (376, true)), .ncall true 0 45 [(.t 377), (.t 384)]⟩,
 ⟨some 386, none, .pick (.t 376) (.t 385) (.c (.bool false))⟩,
 ⟨some 6, none, .mov (.t 386)⟩]) (
 .gh [.keep [6]] (
 .ret)))))))))))))))))))))))))))))))))
def a8 : AFunc := ⟨387, c8, [.tmp 6]⟩
def c14 : ACode :=
 .seq (
 .reg none [
 ⟨some 0, none, .mov (.c (.bool false))⟩]) (
 .seq (
 .reg none [
 ⟨some 12, none, .bslice 14013 3 1 [(.c (.int .i64 1)), (.c (.int .i64 5)), (.c (.int .i64 0)), (.c (.int .i64 7)), (.c (.int .i64 0)), (.c (.int .i64 0)), (.c (.int .i64 255))]⟩,
 ⟨some 13, none, .ncall true 0 60 [(.t 12)]⟩,
 ⟨some 11, none, .mov (.t 13)⟩,
 ⟨some 14, none, .ext 0 (.t 11)⟩,
 ⟨some 15, none, .ext 1 (.t 11)⟩,
 ⟨some 1, none, .mov (.t 14)⟩,
 ⟨some 2, none, .mov (.t 15)⟩]) (
 .seq (
 .reg none [
 ⟨some 17, none, .ncall true 0 75 []⟩,
 ⟨some 18, none, .build (.gen [(.int .i64 0), (.int .i64 0)]) []⟩,
 ⟨some 19, none, .ncall true 14020 76 []⟩,
 ⟨some 20, none, .ncall true 14021 35 [(.t 17), (.t 18), (.t 19)]⟩,
 ⟨some 16, none, .mov (.t 20)⟩,
 ⟨some 21, none, .ext 0 (.t 16)⟩,
 ⟨some 22, none, .ext 1 (.t 16)⟩,
 ⟨some 3, none, .mov (.t 21)⟩,
 ⟨some 4, none, .mov (.t 22)⟩]) (
 .gh [.keep [1, 2, 3, 4]] (
 .seq (
 .reg none [
 ⟨some 24, none, .ncall true 0 75 []⟩,
 ⟨some 25, none, .mov (.t 3)⟩,
 ⟨some 26, none, .ncall true 14027 17 [(.t 25)]⟩,
 ⟨some 27, none, .ncall true 14028 16 [(.t 24), (.c (.int .i64 0)), (.t 26)]⟩,
 ⟨some 23, none, .mov (.t 27)⟩,
 ⟨some 28, none, .ext 0 (.t 23)⟩,
 ⟨some 29, none, .ext 1 (.t 23)⟩,
 ⟨some 5, none, .mov (.t 28)⟩,
 ⟨some 6, none, .mov (.t 29)⟩]) (
 .gh [.keep [1, 2, 3, 4, 5, 6]] (
 .seq (
 .reg none [
 ⟨some 31, none, .ncall true 14032 77 []⟩,
 ⟨some 32, none, .ncall true 0 42 [(.t 31)]⟩,
 ⟨some 30, none, .mov (.t 32)⟩,
 ⟨some 33, none, .ext 0 (.t 30)⟩,
 ⟨some 34, none, .ext 1 (.t 30)⟩,
 ⟨some 7, none, .alloc 14008 80 (.agg (.ints .i64 [0, 0, 0, 0]))⟩,
 ⟨none, none, .store 4 (.t 7) (.t 33)⟩,
 ⟨some 8, none, .mov (.t 34)⟩]) (
 .seq (
 .reg none [
 ⟨some 36, none, .ncall true 14037 77 []⟩,
 ⟨some 37, none, .ncall true 0 23 [(.t 36), (.c (.int .i64 30))]⟩,
 ⟨some 35, none, .mov (.t 37)⟩,
 ⟨some 38, none, .ext 0 (.t 35)⟩,
 ⟨some 39, none, .ext 1 (.t 35)⟩,
 ⟨some 9, none, .alloc 14010 40 (.agg (.gen [(.int .i64 0), (.int .i64 0)]))⟩,
 ⟨none, none, .store 2 (.t 9) (.t 38)⟩,
 ⟨some 10, none, .mov (.t 39)⟩]) (
 .seq (
 .reg none [
 ⟨some 40, none, .mov (.t 2)⟩,
 ⟨some 41, none, .bin .eql (.t 40) (.c (.int .i64 0))⟩,
 ⟨some 42, none, .mov (.t 41)⟩,
 ⟨some 43, (some (42, true)), .mov (.t 1)⟩,
 ⟨some 44, (some (42, true)), .bin .eql (.t 43) (.c (.int .i64 4684))⟩,
 ⟨some 45, none, .pick (.t 42) (.t 44) (.c (.bool false))⟩,
 ⟨some 46, none, .mov (.t 45)⟩,
 ⟨some 47, (some (46, true)), .mov (.t 4)⟩,
 ⟨some 48, (some (46, true)), .bin .eql (.t 47) (.c (.int .i64 0))⟩,
 ⟨some 49, none, .pick (.t 46) (.t 48) (.c (.bool false))⟩,
 ⟨some 50, none, .mov (.t 49)⟩,
 ⟨some 51, (some (50, true)), .mov (.t 3)⟩,
 ⟨some 52, (some (50, true)), .len (.t 51)⟩,
 ⟨some 53, (some (50, true)), .bin .eql (.t 52) (.c (.int .i64 3))⟩,
 ⟨some 54, none, .pick (.t 50) (.t 53) (.c (.bool false))⟩,
 ⟨some 55, none, .mov (.t 54)⟩,
 ⟨some 56, (some (55, true)), .mov (.t 3)⟩,
 ⟨some 57, (some (55, true)), .iaddr 4 (.t 56) (.c (.int .i64 2))⟩,
 ⟨some 58, (some (55, true)), .faddr 3 (.t 57)⟩,
 ⟨some 59, (some (55, true)), .load false 1 (.t 58)⟩,
 ⟨some 60, (some (55, true)), .bslice 14061 3 1 [(.c (.int .i64 3)), (.c (.int .i64 255)), (.c (.int .i64 0)), (.c (.int .i64 0))]⟩,
 ⟨some 61, (some (55, true)), .ncall true 0 67 [(.t 59), (.t 60)]⟩,
 ⟨some 62, none, .pick (.t 55) (.t 61) (.c (.bool false))⟩,
 ⟨some 63, none, .mov (.t 62)⟩,
 ⟨some 64, (some (63, true)), .mov (.t 6)⟩,
 ⟨some 65, (some (63, true)), .bin .eql (.t 64) (.c (.int .i64 0))⟩,
 ⟨some 66, none, .pick (.t 63) (.t 65) (.c (.bool false))⟩,
 ⟨some 67, none, .mov (.t 66)⟩,
 ⟨some 68, (some (67, true)), .mov (.t 5)⟩,
 ⟨some 69, (some (67, true)), .ncall true 14070 76 []⟩,
 ⟨some 70, (some (67, true)), .ncall true 0 21 [(.t 68), (.t 69)]⟩,
 ⟨some 71, none, .pick (.t 67) (.t 70) (.c (.bool false))⟩,
 ⟨some 72, none, .mov (.t 71)⟩,
 ⟨some 73, (some (72, true)), .mov (.t 8)⟩,
 ⟨some 74, (some (72, true)), .bin .eql (.t 73) (.c (.int .i64 0))⟩,
 ⟨some 75, none, .pick (.t 72) (.t 74) (.c (.bool false))⟩,
 ⟨some 76, none, .mov (.t 75)⟩,
 ⟨some 77, (some (76, true)), .load true 4 (.t 7)⟩,
 ⟨some 78, (some (76, true)), .build (.gen [(.int .i64 0), (.int .i64 0)]) [(0, 1, (.c (.int .i64 19))), (1, 1, (.c (.int .i64 10)))]⟩,
 ⟨some 79, (some (76, true)), .build (.gen [(.int .i64 0), (.int .i64 0)]) [(0, 1, (.c (.int .i64 41))), (1, 1, (.c (.int .i64 20)))]⟩,
 ⟨some 80, (some (76, true)), .build (.ints .i64 [0, 0, 0, 0]) [(0, 2, (.t 78)), (2, 2, (.t 79))]⟩,
 ⟨some 81, (some (76, true)), .aeq false [.i, .i, .i, .i] (.t 77) (.t 80)⟩,
 ⟨some 82, none, .pick (.t 76) (.t 81) (.c (.bool false))⟩,
 ⟨some 83, none, .mov (.t 82)⟩,
 ⟨some 84, (some (83, true)), .mov (.t 10)⟩,
 ⟨some 85, (some (83, true)), .bin .eql (.t 84) (.c (.int .i64 0))⟩,
 ⟨some 86, none, .pick (.t 83) (.t 85) (.c (.bool false))⟩,
 ⟨some 87, none, .mov (.t 86)⟩,
 ⟨some 88, (some (87, true)), .load true 2 (.t 9)⟩,
 ⟨some 89, (some (87, true)), .build (.gen [(.int .i64 0), (.int .i64 0)]) [(0, 1, (.c (.int .i64 69))), (1, 1, (.c (.int .i64 72)))]⟩,
 ⟨some 90, (some (87, true)), .aeq false [.i, .i] (.t 88) (.t 89)⟩,
 ⟨some 91, none, .pick (.t 87) (.t 90) (.c (.bool false))⟩,
 ⟨some 0, none, .mov (.t 91)⟩]) (
 .gh [.keep [0]] (
 .ret))))))))))
def a14 : AFunc := ⟨92, c14, [.tmp 0]⟩
def l16_0 : ACode :=
 .seq (
 .reg none [
 ⟨some 29, none, .bin .lss (.t 28) (.t 27)⟩]) (
 .seq (
 .cond (.t 29) (
 .skip) (
 .exit 0)) (
 .seq (
 .block 1 (
 .seq (
 .reg none [
 ⟨some 30, none, .iaddr 5 (.t 26) (.t 28)⟩,
 ⟨some 31, none, .load true 5 (.t 30)⟩,
 ⟨some 13, none, .alloc 16014 140 (.agg (.gen [(.int .i64 0), (.int .i64 0), (.int .i64 0), .nils, (.int .i64 0)]))⟩,
 ⟨none, none, .store 5 (.t 13) (.t 31)⟩]) (
 .seq (
 .reg none [
 ⟨some 32, none, .faddr 0 (.t 13)⟩,
 ⟨some 33, none, .load true 4 (.t 32)⟩,
 ⟨some 34, none, .faddr 4 (.t 13)⟩,
 ⟨some 35, none, .load false 1 (.t 34)⟩,
 ⟨some 36, none, .mov (.t 11)⟩,
 ⟨some 37, none, .bin .add (.t 36) (.c (.int .i64 1))⟩,
 ⟨some 38, none, .bin .eql (.t 35) (.t 37)⟩,
 ⟨some 39, none, .ncall true 0 80 [(.t 10), (.t 33), (.t 38)]⟩]) (
 .gh [.keep [10, 13, 26, 27, 28]] (
 .reg none [
 ⟨some 40, none, .faddr 4 (.t 13)⟩,
 ⟨some 41, none, .load false 1 (.t 40)⟩,
 ⟨some 11, none, .mov (.t 41)⟩]))))) (
 .reg none [
 ⟨some 42, none, .bin .add (.t 28) (.c (.int .i64 1))⟩,
 ⟨some 28, none, .mov (.t 42)⟩])))
def b16_0 : ACode := .gh [.keep [10, 11, 26, 27, 28]] (.gh [] l16_0)
def c16 : ACode :=
 .seq (
 .reg none [
 ⟨some 3, none, .box 16004 23 (.t 0)⟩,
 ⟨some 6, none, .mov (.c .nils)⟩,
 ⟨some 7, none, .mov (.c (.int .i64 0))⟩]) (
 .seq (
 .seq (
 .reg none [
 ⟨some 15, none, .load true 2 (.t 3)⟩,
 ⟨some 16, none, .mov (.t 1)⟩,
 ⟨some 17, none, .mov (.t 2)⟩,
 ⟨some 18, none, .ncall true 0 78 [(.t 15), (.t 16), (.t 17)]⟩,
 ⟨some 14, none, .mov (.t 18)⟩,
 ⟨some 19, none, .ext 0 (.t 14)⟩,
 ⟨some 20, none, .ext 1 (.t 14)⟩,
 ⟨some 8, none, .alloc 16009 132 (.agg (.gen [(.int .i64 0), (.int .i64 0)]))⟩,
 ⟨none, none, .store 2 (.t 8) (.t 19)⟩,
 ⟨some 9, none, .mov (.t 20)⟩]) (
 .gh [.keep [1, 2, 9]] (
 .seq (
 .reg none [
 ⟨some 21, none, .mov (.t 9)⟩,
 ⟨some 22, none, .bin .neq (.t 21) (.c (.int .i64 0))⟩]) (
 .cond (.t 22) (
 .seq (
 .reg none [
 ⟨some 23, none, .mov (.t 9)⟩,
 ⟨some 6, none, .mov (.c .nils)⟩,
 ⟨some 7, none, .mov (.t 23)⟩]) (
 .ret)) (
 .skip))))) (
 .seq (
 .reg none [
 ⟨some 10, none, .alloc 16011 136 (.agg (.gen [(.bool false), .nils, .nils]))⟩]) (
 .seq (
 .reg none [
 ⟨some 11, none, .mov (.c (.int .i64 0))⟩]) (
 .seq (
 .seq (
 .reg none [
 ⟨some 24, none, .mov (.t 1)⟩,
 ⟨some 25, none, .mov (.t 2)⟩,
 ⟨some 26, none, .ncall true 16027 79 [(.t 24), (.t 25)]⟩,
 ⟨some 27, none, .len (.t 26)⟩,
 ⟨some 28, none, .mov (.c (.int .i64 0))⟩]) (
 .block 0 (
 .loop b16_0))) (
 .seq (
 .reg none [
 ⟨some 43, none, .faddr 2 (.t 10)⟩,
 ⟨some 44, none, .load false 1 (.t 43)⟩,
 ⟨some 6, none, .mov (.t 44)⟩,
 ⟨some 7, none, .mov (.c (.int .i64 0))⟩]) (
 .ret))))))
def a16 : AFunc := ⟨45, c16, [.tmp 6, .tmp 7]⟩
def l17_0 : ACode :=
 .seq (
 .seq (
 .reg none [
 ⟨some 5, none, .mov (.t 4)⟩,
 ⟨some 6, none, .mov (.t 0)⟩,
 ⟨some 7, none, .len (.t 6)⟩,
 ⟨some 8, none, .bin .lss (.t 5) (.t 7)⟩]) (
 .cond (.t 8) (
 .skip) (
 .exit 0))) (
 .seq (
 .block 1 (
 .reg none [
 ⟨some 11, none, .mov (.t 3)⟩,
 ⟨some 12, none, .mov (.t 0)⟩,
 ⟨some 13, none, .mov (.t 4)⟩,
 ⟨some 14, none, .iaddr 4 (.t 12) (.t 13)⟩,
 ⟨some 15, none, .load true 4 (.t 14)⟩,
 ⟨some 16, none, .ncall true 17017 40 [(.t 15)]⟩,
 ⟨some 17, none, .bslice 17018 74 4 [(.t 16)]⟩,
 ⟨some 18, none, .append 17019 74 4 (.t 11) (.t 17)⟩,
 ⟨some 3, none, .mov (.t 18)⟩])) (
 .reg none [
 ⟨some 9, none, .mov (.t 4)⟩,
 ⟨some 10, none, .bin .add (.t 9) (.c (.int .i64 1))⟩,
 ⟨some 4, none, .mov (.t 10)⟩]))
def b17_0 : ACode := .gh [.keep [0, 3, 4]] (.gh [] l17_0)
def c17 : ACode :=
 .seq (
 .reg none [
 ⟨some 2, none, .mov (.c .nils)⟩]) (
 .seq (
 .reg none [
 ⟨some 3, none, .mov (.c .nils)⟩]) (
 .seq (
 .seq (
 .reg none [
 ⟨some 4, none, .mov (.c (.int .i64 0))⟩]) (
 .block 0 (
 .loop b17_0))) (
 .seq (
 .reg none [
 ⟨some 19, none, .mov (.t 3)⟩,
 ⟨some 2, none, .mov (.t 19)⟩]) (
 .ret))))
def a17 : AFunc := ⟨20, c17, [.tmp 2]⟩
def l21_0 : ACode :=
 .seq (
 .seq (
 .reg none [
 ⟨some 11, none, .mov (.t 5)⟩,
 ⟨some 12, none, .mov (.t 0)⟩,
 ⟨some 13, none, .len (.t 12)⟩,
 ⟨some 14, none, .bin .lss (.t 11) (.t 13)⟩]) (
 .cond (.t 14) (
 .skip) (
 .exit 0))) (
 .seq (
 .block 1 (
 .seq (
 .reg (some []) [
 ⟨some 17, none, .mov (.t 0)⟩,
 ⟨some 18, none, .mov (.t 5)⟩,
 ⟨some 19, none, .iaddr 3 (.t 17) (.t 18)⟩,
 ⟨some 20, none, .load true 3 (.t 19)⟩,
 ⟨some 21, none, .mov (.t 1)⟩,
 ⟨some 22, none, .mov (.t 5)⟩,
 ⟨some 23, none, .iaddr 3 (.t 21) (.t 22)⟩,
 ⟨some 24, none, .load true 3 (.t 23)⟩,
 ⟨some 25, none, .ncall true 0 81 [(.t 20), (.t 24)]⟩,
 ⟨some 26, none, .not (.t 25)⟩]) (
 .gh [.keep [0, 1, 5, 26]] (
 .cond (.t 26) (
 .seq (
 .reg none [
 ⟨some 4, none, .mov (.c (.bool false))⟩]) (
 .ret)) (
 .skip))))) (
 .reg none [
 ⟨some 15, none, .mov (.t 5)⟩,
 ⟨some 16, none, .bin .add (.t 15) (.c (.int .i64 1))⟩,
 ⟨some 5, none, .mov (.t 16)⟩]))
def b21_0 : ACode := .gh [.keep [0, 1, 5]] (.gh [] l21_0)
def c21 : ACode :=
 .seq (
 .reg none [
 ⟨some 4, none, .mov (.c (.bool false))⟩]) (
 .seq (
 .seq (
 .reg none [
 ⟨some 6, none, .mov (.t 0)⟩,
 ⟨some 7, none, .len (.t 6)⟩,
 ⟨some 8, none, .mov (.t 1)⟩,
 ⟨some 9, none, .len (.t 8)⟩,
 ⟨some 10, none, .bin .neq (.t 7) (.t 9)⟩]) (
 .cond (.t 10) (
 .seq (
 .reg none [
 ⟨some 4, none, .mov (.c (.bool false))⟩]) (
 .ret)) (
 .skip))) (
 .seq (
 .seq (
 .reg none [
 ⟨some 5, none, .mov (.c (.int .i64 0))⟩]) (
 .block 0 (
 .loop b21_0))) (
 .seq (
 .reg none [
 ⟨some 4, none, .mov (.c (.bool true))⟩]) (
 .ret))))
def a21 : AFunc := ⟨27, c21, [.tmp 4]⟩
def c23 : ACode :=
 .seq (
 .reg none [
 ⟨some 3, none, .box 23004 3 (.t 1)⟩,
 ⟨some 4, none, .alloc 23005 40 (.agg (.gen [(.int .i64 0), (.int .i64 0)]))⟩,
 ⟨some 5, none, .mov (.c (.int .i64 0))⟩]) (
 .seq (
 .seq (
 .reg (some []) [
 ⟨some 12, none, .mov (.t 0)⟩,
 ⟨some 13, none, .ncall true 0 85 [(.t 12)]⟩,
 ⟨some 14, none, .load false 1 (.t 3)⟩,
 ⟨some 15, none, .ncall true 0 87 [(.t 14), (.c (.int .i64 0)), (.c (.int .i64 1000000))]⟩,
 ⟨some 16, none, .ncall true 0 86 [(.t 15), (.c (.int .i64 2))]⟩,
 ⟨some 17, none, .bslice 23018 28 1 [(.t 13), (.t 16)]⟩,
 ⟨some 18, none, .ncall true 0 84 [(.t 17)]⟩,
 ⟨some 6, none, .mov (.t 18)⟩]) (
 .gh [.keep [0, 3, 4, 5, 6]] (
 .seq (
 .reg none [
 ⟨some 19, none, .mov (.t 6)⟩,
 ⟨some 20, none, .bin .neq (.t 19) (.c (.int .i64 0))⟩]) (
 .cond (.t 20) (
 .seq (
 .reg none [
 ⟨some 21, none, .build (.gen [(.int .i64 0), (.int .i64 0)]) []⟩,
 ⟨some 22, none, .mov (.t 6)⟩,
 ⟨none, none, .store 2 (.t 4) (.t 21)⟩,
 ⟨some 5, none, .mov (.t 22)⟩]) (
 .ret)) (
 .skip))))) (
 .seq (
 .reg none [
 ⟨some 7, none, .alloc 23008 40 (.agg (.gen [(.int .i64 0), (.int .i64 0)]))⟩]) (
 .seq (
 .reg none [
 ⟨some 8, none, .alloc 23009 4 (.bool false)⟩,
 ⟨none, none, .store 1 (.t 8) (.c (.bool false))⟩]) (
 .seq (
 .seq (
 .reg none [
 ⟨some 23, none, .mov (.t 0)⟩,
 ⟨some 24, none, .ncall true 0 88 [(.t 23)]⟩]) (
 .block 0 (
 .rf 23901 (.t 24) [25] (
 .reg none [
 ⟨some 9, none, .alloc 23010 152 (.agg (.gen [(.int .i64 0), (.int .i64 0), (.int .i64 0), (.int .i64 0)]))⟩,
 ⟨none, none, .store 4 (.t 9) (.t 25)⟩]) (
 .block 1 (
 .seq (
 .reg none [
 ⟨some 26, none, .load true 4 (.t 9)⟩,
 ⟨some 27, none, .load false 1 (.t 3)⟩,
 ⟨some 28, none, .ncall true 0 89 [(.t 26), (.t 27)]⟩,
 ⟨some 10, none, .mov (.t 28)⟩]) (
 .seq (
 .reg (some [(0, 11), (1, 11), (2, 11), (3, 11), (4, 11), (5, 11), (6, 11), (7, 11), (8, 11), (9, 11), (10, 11)]) [
 ⟨some 29, none, .mov (.t 10)⟩,
 ⟨some 30, none, .load true 4 (.t 9)⟩,
 ⟨some 31, none, .ncall true 0 91 [(.t 30)]⟩,
 ⟨some 32, none, .ncall true 0 90 [(.t 29), (.t 31)]⟩,
 ⟨some 33, none, .mov (.t 10)⟩,
 ⟨some 34, none, .neg (.t 33)⟩,
 ⟨some 35, none, .load true 4 (.t 9)⟩,
 ⟨some 36, none, .ncall true 0 91 [(.t 35)]⟩,
 ⟨some 37, none, .ncall true 0 90 [(.t 34), (.t 36)]⟩,
 ⟨some 38, none, .neg (.t 37)⟩,
 ⟨some 39, none, .build (.gen [(.int .i64 0), (.int .i64 0)]) [(0, 1, (.t 32)), (1, 1, (.t 38))]⟩,
 ⟨some 11, none, .alloc 23012 40 (.agg (.gen [(.int .i64 0), (.int .i64 0)]))⟩,
 ⟨none, none, .store 2 (.t 11) (.t 39)⟩]) (
 .gh [.keep [3, 4, 5, 7, 8, 11]] (
 .seq (
 .seq (
 .reg none [
 ⟨some 40, none, .load false 1 (.t 8)⟩,
 ⟨some 41, none, .not (.t 40)⟩]) (
 .cond (.t 41) (
 .reg none [
 ⟨some 42, none, .load true 2 (.t 11)⟩,
 ⟨none, none, .store 2 (.t 7) (.t 42)⟩,
 ⟨none, none, .store 1 (.t 8) (.c (.bool true))⟩]) (
 .skip))) (
 .reg none [
 ⟨some 43, none, .faddr 0 (.t 7)⟩,
 ⟨some 44, none, .load false 1 (.t 43)⟩,
 ⟨some 45, none, .faddr 0 (.t 11)⟩,
 ⟨some 46, none, .load false 1 (.t 45)⟩,
 ⟨some 47, none, .mm false (.t 44) (.t 46)⟩,
 ⟨some 48, none, .faddr 1 (.t 7)⟩,
 ⟨some 49, none, .load false 1 (.t 48)⟩,
 ⟨some 50, none, .faddr 1 (.t 11)⟩,
 ⟨some 51, none, .load false 1 (.t 50)⟩,
 ⟨some 52, none, .mm true (.t 49) (.t 51)⟩,
 ⟨some 53, none, .build (.gen [(.int .i64 0), (.int .i64 0)]) [(0, 1, (.t 47)), (1, 1, (.t 52))]⟩,
 ⟨none, none, .store 2 (.t 7) (.t 53)⟩]))))))))) (
 .seq (
 .reg none [
 ⟨some 54, none, .load true 2 (.t 7)⟩,
 ⟨none, none, .store 2 (.t 4) (.t 54)⟩,
 ⟨some 5, none, .mov (.c (.int .i64 0))⟩]) (
 .ret))))))
def a23 : AFunc := ⟨55, c23, [.cell 4 true 2, .tmp 5]⟩
def c24 : ACode :=
 .seq (
 .reg none [
 ⟨some 2, none, .mov (.c .nils)⟩]) (
 .seq (
 .reg none [
 ⟨some 3, none, .bslice 24004 49 3 []⟩,
 ⟨some 4, none, .mov (.t 0)⟩,
 ⟨some 5, none, .append 24006 49 3 (.t 3) (.t 4)⟩,
 ⟨some 2, none, .mov (.t 5)⟩]) (
 .ret))
def a24 : AFunc := ⟨6, c24, [.tmp 2]⟩
def c27 : ACode :=
 .seq (
 .reg none [
 ⟨some 6, none, .mov (.c (.bool false))⟩]) (
 .seq (
 .reg none [
 ⟨some 7, none, .mov (.t 1)⟩,
 ⟨some 8, none, .mov (.t 0)⟩,
 ⟨some 9, none, .bin .leq (.t 7) (.t 8)⟩,
 ⟨some 10, none, .mov (.t 9)⟩,
 ⟨some 11, (some (10, true)), .mov (.t 0)⟩,
 ⟨some 12, (some (10, true)), .mov (.t 2)⟩,
 ⟨some 13, (some (10, true)), .bin .leq (.t 11) (.t 12)⟩,
 ⟨some 14, none, .pick (.t 10) (.t 13) (.c (.bool false))⟩,
 ⟨some 6, none, .mov (.t 14)⟩]) (
 .gh [.keep [6]] (
 .ret)))
def a27 : AFunc := ⟨15, c27, [.tmp 6]⟩
def c30 : ACode :=
 .seq (
 .reg none [
 ⟨some 1, none, .box 30002 57 (.t 0)⟩,
 ⟨some 2, none, .mov (.c (.int .i64 0))⟩]) (
 .seq (
 .reg (some []) [
 ⟨some 3, none, .faddr 0 (.t 1)⟩,
 ⟨some 4, none, .load false 1 (.t 3)⟩,
 ⟨some 5, none, .ncall true 0 93 [(.t 4)]⟩,
 ⟨some 6, none, .mov (.t 5)⟩,
 ⟨some 7, (some (6, true)), .faddr 1 (.t 1)⟩,
 ⟨some 8, (some (6, true)), .load false 1 (.t 7)⟩,
 ⟨some 9, (some (6, true)), .ncall true 0 93 [(.t 8)]⟩,
 ⟨some 10, none, .pick (.t 6) (.t 9) (.c (.bool false))⟩,
 ⟨some 11, none, .ncall true 0 86 [(.t 10), (.c (.int .i64 2))]⟩,
 ⟨some 12, none, .faddr 2 (.t 1)⟩,
 ⟨some 13, none, .load false 1 (.t 12)⟩,
 ⟨some 14, none, .len (.t 13)⟩,
 ⟨some 15, none, .bin .leq (.t 14) (.c (.int .i64 40))⟩,
 ⟨some 16, none, .ncall true 0 86 [(.t 15), (.c (.int .i64 8))]⟩,
 ⟨some 17, none, .faddr 2 (.t 1)⟩,
 ⟨some 18, none, .load false 1 (.t 17)⟩,
 ⟨some 19, none, .ncall true 0 94 [(.t 18)]⟩,
 ⟨some 20, none, .bslice 30021 28 1 [(.t 11), (.t 16), (.t 19)]⟩,
 ⟨some 21, none, .ncall true 0 84 [(.t 20)]⟩,
 ⟨some 2, none, .mov (.t 21)⟩]) (
 .gh [.keep [2]] (
 .ret)))
def a30 : AFunc := ⟨22, c30, [.tmp 2]⟩
def c35 : ACode :=
 .seq (
 .reg none [
 ⟨some 3, none, .box 35004 23 (.t 0)⟩,
 ⟨some 4, none, .box 35005 52 (.t 1)⟩,
 ⟨some 6, none, .mov (.c .nils)⟩,
 ⟨some 7, none, .mov (.c (.int .i64 0))⟩]) (
 .seq (
 .reg none [
 ⟨some 19, none, .load true 2 (.t 3)⟩,
 ⟨some 20, none, .faddr 0 (.t 4)⟩,
 ⟨some 21, none, .load false 1 (.t 20)⟩,
 ⟨some 22, none, .ncall true 0 99 [(.t 19), (.t 21)]⟩,
 ⟨some 18, none, .mov (.t 22)⟩,
 ⟨some 23, none, .ext 0 (.t 18)⟩,
 ⟨some 24, none, .ext 1 (.t 18)⟩,
 ⟨some 8, none, .alloc 35009 132 (.agg (.gen [(.int .i64 0), (.int .i64 0)]))⟩,
 ⟨none, none, .store 2 (.t 8) (.t 23)⟩,
 ⟨some 9, none, .mov (.t 24)⟩]) (
 .gh [.keep [2, 4, 6, 7, 8, 9]] (
 .seq (
 .seq (
 .reg none [
 ⟨some 25, none, .mov (.t 9)⟩,
 ⟨some 26, none, .faddr 1 (.t 4)⟩,
 ⟨some 27, none, .load false 1 (.t 26)⟩,
 ⟨some 28, none, .ncall true 0 100 [(.t 27)]⟩,
 ⟨some 29, none, .ncall true 0 86 [(.t 28), (.c (.int .i64 2))]⟩,
 ⟨some 30, none, .mov (.t 2)⟩,
 ⟨some 31, none, .ncall true 0 96 [(.t 30)]⟩,
 ⟨some 32, none, .bslice 35033 28 1 [(.t 25), (.t 29), (.t 31)]⟩,
 ⟨some 33, none, .ncall true 0 84 [(.t 32)]⟩,
 ⟨some 9, none, .mov (.t 33)⟩]) (
 .gh [.keep [2, 4, 6, 7, 8, 9]] (
 .seq (
 .reg none [
 ⟨some 34, none, .mov (.t 9)⟩,
 ⟨some 35, none, .bin .neq (.t 34) (.c (.int .i64 0))⟩]) (
 .cond (.t 35) (
 .seq (
 .reg none [
 ⟨some 36, none, .mov (.t 9)⟩,
 ⟨some 6, none, .mov (.c .nils)⟩,
 ⟨some 7, none, .mov (.t 36)⟩]) (
 .ret)) (
 .skip))))) (
 .seq (
 .reg none [
 ⟨some 38, none, .load true 2 (.t 8)⟩,
 ⟨some 39, none, .mov (.t 2)⟩,
 ⟨some 40, none, .ncall true 35041 98 [(.t 38), (.t 39)]⟩,
 ⟨some 41, none, .ncall true 35042 97 [(.t 40)]⟩,
 ⟨some 37, none, .mov (.t 41)⟩,
 ⟨some 42, none, .ext 0 (.t 37)⟩,
 ⟨some 43, none, .ext 1 (.t 37)⟩,
 ⟨some 11, none, .alloc 35012 55 .nils⟩,
 ⟨some 10, none, .mov (.t 42)⟩,
 ⟨none, none, .store 1 (.t 11) (.t 43)⟩]) (
 .gh [.keep [4, 6, 7, 8, 10, 11]] (
 .seq (
 .seq (
 .reg none [
 ⟨some 44, none, .mov (.t 10)⟩,
 ⟨some 45, none, .len (.t 44)⟩,
 ⟨some 46, none, .faddr 0 (.t 8)⟩,
 ⟨some 47, none, .faddr 0 (.t 46)⟩,
 ⟨some 48, none, .load false 1 (.t 47)⟩,
 ⟨some 49, none, .bin .quo (.t 45) (.t 48)⟩,
 ⟨some 50, none, .bin .gtr (.t 49) (.c (.int .i64 40))⟩]) (
 .gh [.keep [4, 6, 7, 8, 10, 11, 50]] (
 .cond (.t 50) (
 .seq (
 .reg none [
 ⟨some 6, none, .mov (.c .nils)⟩,
 ⟨some 7, none, .mov (.c (.int .i64 8))⟩]) (
 .ret)) (
 .skip)))) (
 .seq (
 .reg none [
 ⟨some 12, none, .alloc 35013 24 .nils⟩]) (
 .seq (
 .seq (
 .reg none [
 ⟨some 51, none, .mov (.t 10)⟩,
 ⟨some 52, none, .faddr 0 (.t 8)⟩,
 ⟨some 53, none, .faddr 0 (.t 52)⟩,
 ⟨some 54, none, .load false 1 (.t 53)⟩,
 ⟨some 55, none, .ncall true 0 101 [(.t 51), (.t 54)]⟩]) (
 .block 0 (
 .rf 35901 (.t 55) [56] (
 .reg none [
 ⟨some 13, none, .mov (.t 56)⟩]) (
 .block 1 (
 .seq (
 .reg none [
 ⟨some 57, none, .load false 1 (.t 12)⟩,
 ⟨some 58, none, .len (.t 57)⟩,
 ⟨some 59, none, .faddr 0 (.t 8)⟩,
 ⟨some 60, none, .faddr 0 (.t 59)⟩,
 ⟨some 61, none, .load false 1 (.t 60)⟩,
 ⟨some 62, none, .bin .mul (.t 58) (.t 61)⟩,
 ⟨some 14, none, .mov (.t 62)⟩]) (
 .gh [.keep [4, 6, 7, 8, 11, 12, 13, 14]] (
 .seq (
 .reg (some [(0, 9), (0, 11), (1, 9), (1, 11), (2, 9), (2, 11), (3, 9), (3, 11), (4, 9), (4, 11), (5, 9), (5, 11), (6, 9), (6, 11), (7, 9), (7, 11), (8, 11), (9, 11), (10, 11)]) [
 ⟨some 63, none, .faddr 0 (.t 4)⟩,
 ⟨some 64, none, .load false 1 (.t 63)⟩,
 ⟨some 65, none, .faddr 1 (.t 4)⟩,
 ⟨some 66, none, .load false 1 (.t 65)⟩,
 ⟨some 67, none, .load false 1 (.t 12)⟩,
 ⟨some 68, none, .len (.t 67)⟩,
 ⟨some 69, none, .bin .add (.t 66) (.t 68)⟩,
 ⟨some 70, none, .bin .rem (.t 69) (.c (.int .i64 64))⟩,
 ⟨some 71, none, .mov (.t 13)⟩,
 ⟨some 72, none, .ncall true 35073 102 [(.t 71)]⟩,
 ⟨some 73, none, .build (.gen [(.int .i64 0), (.int .i64 0), (.int .i64 0), .nils]) [(0, 1, (.t 64)), (1, 1, (.t 70)), (2, 1, (.c (.int .i64 255))), (3, 1, (.t 72))]⟩,
 ⟨some 15, none, .alloc 35016 74 (.agg (.gen [(.int .i64 0), (.int .i64 0), (.int .i64 0), .nils]))⟩,
 ⟨none, none, .store 4 (.t 15) (.t 73)⟩]) (
 .gh [.keep [4, 6, 7, 8, 11, 12, 14, 15]] (
 .seq (
 .seq (
 .reg none [
 ⟨some 75, none, .load false 1 (.t 11)⟩,
 ⟨some 76, none, .mov (.t 14)⟩,
 ⟨some 77, none, .ncall true 0 103 [(.t 75), (.t 76)]⟩,
 ⟨some 74, none, .mov (.t 77)⟩,
 ⟨some 78, none, .ext 0 (.t 74)⟩,
 ⟨some 79, none, .ext 1 (.t 74)⟩,
 ⟨some 16, none, .mov (.t 78)⟩,
 ⟨some 17, none, .mov (.t 79)⟩]) (
 .gh [.keep [4, 6, 7, 8, 11, 12, 14, 15, 16]] (
 .seq (
 .reg (some []) [
 ⟨some 80, none, .mov (.t 16)⟩,
 ⟨some 81, none, .load false 1 (.t 11)⟩,
 ⟨some 82, none, .len (.t 81)⟩,
 ⟨some 83, none, .bin .lss (.t 80) (.t 82)⟩,
 ⟨some 84, none, .mov (.t 83)⟩,
 ⟨some 85, (some (84, true)), .load false 1 (.t 11)⟩,
 ⟨some 86, (some (84, true)), .mov (.t 16)⟩,
 ⟨some 87, (some (84, true)), .iaddr 1 (.t 85) (.t 86)⟩,
 ⟨some 88, (some (84, true)), .load false 1 (.t 87)⟩,
 ⟨some 89, (some (84, true)), .mov (.t 14)⟩,
 ⟨some 90, (some (84, true)), .faddr 0 (.t 8)⟩,
 ⟨some 91, (some (84, true)), .faddr 0 (.t 90)⟩,
 ⟨some 92, (some (84, true)), .load false 1 (.t 91)⟩,
 ⟨some 93, (some (84, true)), .bin .add (.t 89) (.t 92)⟩,
 ⟨some 94, (some (84, true)), .bin .lss (.t 88) (.t 93)⟩,
 ⟨some 95, none, .pick (.t 84) (.t 94) (.c (.bool false))⟩]) (
 .gh [.keep [4, 6, 7, 8, 11, 12, 14, 15, 16, 95]] (
 .cond (.t 95) (
 .reg none [
 ⟨some 96, none, .load false 1 (.t 11)⟩,
 ⟨some 97, none, .mov (.t 16)⟩,
 ⟨some 98, none, .iaddr 1 (.t 96) (.t 97)⟩,
 ⟨some 99, none, .load false 1 (.t 98)⟩,
 ⟨some 100, none, .mov (.t 14)⟩,
 ⟨some 101, none, .bin .sub (.t 99) (.t 100)⟩,
 ⟨some 102, none, .faddr 2 (.t 15)⟩,
 ⟨none, none, .store 1 (.t 102) (.t 101)⟩]) (
 .skip)))))) (
 .reg none [
 ⟨some 103, none, .load false 1 (.t 12)⟩,
 ⟨some 104, none, .load true 4 (.t 15)⟩,
 ⟨some 105, none, .bslice 35106 74 4 [(.t 104)]⟩,
 ⟨some 106, none, .append 35107 74 4 (.t 103) (.t 105)⟩,
 ⟨none, none, .store 1 (.t 12) (.t 106)⟩])))))))))) (
 .seq (
 .reg none [
 ⟨some 107, none, .load false 1 (.t 12)⟩,
 ⟨some 6, none, .mov (.t 107)⟩,
 ⟨some 7, none, .mov (.c (.int .i64 0))⟩]) (
 .ret))))))))))
def a35 : AFunc := ⟨108, c35, [.tmp 6, .tmp 7]⟩
def c40 : ACode :=
 .seq (
 .reg none [
 ⟨some 1, none, .box 40002 74 (.t 0)⟩,
 ⟨some 2, none, .alloc 40003 74 (.agg (.gen [(.int .i64 0), (.int .i64 0), (.int .i64 0), .nils]))⟩]) (
 .seq (
 .reg none [
 ⟨some 3, none, .faddr 3 (.t 1)⟩,
 ⟨some 4, none, .load false 1 (.t 3)⟩,
 ⟨some 5, none, .ncall true 40006 55 [(.t 4)]⟩,
 ⟨some 6, none, .faddr 3 (.t 1)⟩,
 ⟨none, none, .store 1 (.t 6) (.t 5)⟩]) (
 .seq (
 .reg none [
 ⟨some 7, none, .load true 4 (.t 1)⟩,
 ⟨none, none, .store 4 (.t 2) (.t 7)⟩]) (
 .ret)))
def a40 : AFunc := ⟨8, c40, [.cell 2 true 4]⟩
def l41_0 : ACode :=
 .seq (
 .reg none [
 ⟨some 27, none, .bin .lss (.t 26) (.t 25)⟩]) (
 .seq (
 .cond (.t 27) (
 .skip) (
 .exit 0)) (
 .seq (
 .block 1 (
 .seq (
 .reg none [
 ⟨some 28, none, .mov (.t 26)⟩,
 ⟨some 29, none, .iaddr 3 (.t 24) (.t 26)⟩,
 ⟨some 30, none, .load true 3 (.t 29)⟩,
 ⟨some 8, none, .alloc 41009 49 (.agg (.gen [(.int .i64 0), (.int .i64 0), (.int .i64 0)]))⟩,
 ⟨some 7, none, .mov (.t 28)⟩,
 ⟨none, none, .store 3 (.t 8) (.t 30)⟩]) (
 .seq (
 .reg none [
 ⟨some 31, none, .faddr 0 (.t 8)⟩,
 ⟨some 32, none, .load false 1 (.t 31)⟩,
 ⟨some 33, none, .ncall true 0 87 [(.t 32), (.c (.int .i64 0)), (.c (.int .i64 1000000))]⟩,
 ⟨some 34, none, .mov (.t 33)⟩,
 ⟨some 35, (some (34, true)), .mov (.t 5)⟩,
 ⟨some 36, (some (34, true)), .faddr 1 (.t 8)⟩,
 ⟨some 37, (some (34, true)), .faddr 0 (.t 36)⟩,
 ⟨some 38, (some (34, true)), .load false 1 (.t 37)⟩,
 ⟨some 39, (some (34, true)), .ncallv true 0 (.t 35) [(.t 38)]⟩,
 ⟨some 40, none, .pick (.t 34) (.t 39) (.c (.bool false))⟩,
 ⟨some 41, none, .mov (.t 40)⟩,
 ⟨some 42, (some (41, true)), .mov (.t 5)⟩,
 ⟨some 43, (some (41, true)), .faddr 1 (.t 8)⟩,
 ⟨some 44, (some (41, true)), .faddr 1 (.t 43)⟩,
 ⟨some 45, (some (41, true)), .load false 1 (.t 44)⟩,
 ⟨some 46, (some (41, true)), .ncallv true 0 (.t 42) [(.t 45)]⟩,
 ⟨some 47, none, .pick (.t 41) (.t 46) (.c (.bool false))⟩,
 ⟨some 9, none, .mov (.t 47)⟩]) (
 .gh [.keep [5, 6, 7, 8, 9, 24, 25, 26]] (
 .seq (
 .seq (
 .reg (some []) [
 ⟨some 48, none, .mov (.t 9)⟩,
 ⟨some 49, none, .ncall true 0 86 [(.t 48), (.c (.int .i64 2))]⟩,
 ⟨some 50, none, .faddr 1 (.t 8)⟩,
 ⟨some 51, none, .faddr 0 (.t 50)⟩,
 ⟨some 52, none, .load false 1 (.t 51)⟩,
 ⟨some 53, none, .faddr 1 (.t 8)⟩,
 ⟨some 54, none, .faddr 1 (.t 53)⟩,
 ⟨some 55, none, .load false 1 (.t 54)⟩,
 ⟨some 56, none, .bin .leq (.t 52) (.t 55)⟩,
 ⟨some 57, none, .mov (.t 56)⟩,
 ⟨some 58, (some (57, true)), .faddr 0 (.t 8)⟩,
 ⟨some 59, (some (57, true)), .load false 1 (.t 58)⟩,
 ⟨some 60, (some (57, true)), .mov (.t 6)⟩,
 ⟨some 61, (some (57, true)), .bin .gtr (.t 59) (.t 60)⟩,
 ⟨some 62, none, .pick (.t 57) (.t 61) (.c (.bool false))⟩,
 ⟨some 63, none, .ncall true 0 86 [(.t 62), (.c (.int .i64 9))]⟩,
 ⟨some 64, none, .bslice 41065 28 1 [(.t 49), (.t 63)]⟩,
 ⟨some 65, none, .ncall true 0 84 [(.t 64)]⟩,
 ⟨some 10, none, .mov (.t 65)⟩]) (
 .gh [.keep [5, 7, 8, 10, 24, 25, 26]] (
 .seq (
 .reg none [
 ⟨some 66, none, .mov (.t 10)⟩,
 ⟨some 67, none, .bin .neq (.t 66) (.c (.int .i64 0))⟩]) (
 .cond (.t 67) (
 .seq (
 .reg none [
 ⟨some 68, none, .mov (.t 7)⟩,
 ⟨some 69, none, .mov (.t 10)⟩,
 ⟨some 2, none, .mov (.t 68)⟩,
 ⟨some 3, none, .mov (.t 69)⟩]) (
 .ret)) (
 .skip))))) (
 .reg none [
 ⟨some 70, none, .faddr 0 (.t 8)⟩,
 ⟨some 71, none, .load false 1 (.t 70)⟩,
 ⟨some 6, none, .mov (.t 71)⟩])))))) (
 .reg none [
 ⟨some 72, none, .bin .add (.t 26) (.c (.int .i64 1))⟩,
 ⟨some 26, none, .mov (.t 72)⟩])))
def b41_0 : ACode := .gh [.keep [5, 6, 24, 25, 26]] (.gh [] l41_0)
def k41_0 : List AItem := .inLoop b41_0 :: [.inBlock 0,
 .code (.seq (
 .reg none [
 ⟨some 2, none, .mov (.c (.int .i64 0))⟩,
 ⟨some 3, none, .mov (.c (.int .i64 0))⟩]) (
 .ret))]
def c41 : ACode :=
 .seq (
 .reg none [
 ⟨some 2, none, .mov (.c (.int .i64 0))⟩,
 ⟨some 3, none, .mov (.c (.int .i64 0))⟩]) (
 .seq (
 .seq (
 .reg none [
 ⟨some 11, none, .mov (.t 0)⟩,
 ⟨some 12, none, .len (.t 11)⟩,
 ⟨some 13, none, .bin .gtr (.t 12) (.c (.int .i64 0))⟩,
 ⟨some 14, none, .ncall true 0 86 [(.t 13), (.c (.int .i64 10))]⟩,
 ⟨some 15, none, .mov (.t 0)⟩,
 ⟨some 16, none, .len (.t 15)⟩,
 ⟨some 17, none, .bin .leq (.t 16) (.c (.int .i64 20))⟩,
 ⟨some 18, none, .ncall true 0 86 [(.t 17), (.c (.int .i64 8))]⟩,
 ⟨some 19, none, .bslice 41020 28 1 [(.t 14), (.t 18)]⟩,
 ⟨some 20, none, .ncall true 0 84 [(.t 19)]⟩,
 ⟨some 4, none, .mov (.t 20)⟩]) (
 .gh [.keep [0, 4]] (
 .seq (
 .reg none [
 ⟨some 21, none, .mov (.t 4)⟩,
 ⟨some 22, none, .bin .neq (.t 21) (.c (.int .i64 0))⟩]) (
 .cond (.t 22) (
 .seq (
 .reg none [
 ⟨some 23, none, .mov (.t 4)⟩,
 ⟨some 2, none, .mov (.c (.int .i64 0))⟩,
 ⟨some 3, none, .mov (.t 23)⟩]) (
 .ret)) (
 .skip))))) (
 .seq (
 .reg none [
 ⟨some 5, none, .mov (.c (.fn 105 []))⟩]) (
 .seq (
 .reg none [
 ⟨some 6, none, .mov (.c (.int .i64 (-1)))⟩]) (
 .seq (
 .seq (
 .reg none [
 ⟨some 24, none, .mov (.t 0)⟩,
 ⟨some 25, none, .len (.t 24)⟩,
 ⟨some 26, none, .mov (.c (.int .i64 0))⟩]) (
 .block 0 (
 .loop b41_0))) (
 .seq (
 .reg none [
 ⟨some 2, none, .mov (.c (.int .i64 0))⟩,
 ⟨some 3, none, .mov (.c (.int .i64 0))⟩]) (
 .ret))))))
def a41 : AFunc := ⟨73, c41, [.tmp 2, .tmp 3]⟩
def l42_0 : ACode :=
 .seq (
 .reg none [
 ⟨some 18, none, .bin .lss (.t 17) (.c (.int .i64 2))⟩]) (
 .seq (
 .cond (.t 18) (
 .skip) (
 .exit 0)) (
 .seq (
 .block 1 (
 .seq (
 .reg none [
 ⟨some 19, none, .idxa 2 2 (.t 16) (.t 17)⟩,
 ⟨some 7, none, .alloc 42008 79 (.agg (.gen [(.int .i64 0), (.int .i64 0)]))⟩,
 ⟨none, none, .store 2 (.t 7) (.t 19)⟩]) (
 .seq (
 .reg none [
 ⟨some 20, none, .faddr 0 (.t 7)⟩,
 ⟨some 21, none, .load false 1 (.t 20)⟩,
 ⟨some 22, none, .ncall true 0 87 [(.t 21), (.c (.int .i64 (-1000000000))), (.c (.int .i64 1000000000))]⟩,
 ⟨some 23, none, .not (.t 22)⟩]) (
 .cond (.t 23) (
 .seq (
 .reg none [
 ⟨some 24, none, .build (.ints .i64 [0, 0, 0, 0]) []⟩,
 ⟨none, none, .store 4 (.t 2) (.t 24)⟩,
 ⟨some 3, none, .mov (.c (.int .i64 8))⟩]) (
 .ret)) (
 .skip))))) (
 .reg none [
 ⟨some 25, none, .bin .add (.t 17) (.c (.int .i64 1))⟩,
 ⟨some 17, none, .mov (.t 25)⟩])))
def b42_0 : ACode := .gh [.keep [2, 5, 16, 17]] (.gh [] l42_0)
def k42_0 : List AItem := .inLoop b42_0 :: [.inBlock 0,
 .code (.seq (
 .reg none [
 ⟨some 26, none, .load true 4 (.t 5)⟩,
 ⟨none, none, .store 4 (.t 2) (.t 26)⟩,
 ⟨some 3, none, .mov (.c (.int .i64 0))⟩]) (
 .ret))]
def c42 : ACode :=
 .seq (
 .reg none [
 ⟨some 2, none, .alloc 42003 80 (.agg (.ints .i64 [0, 0, 0, 0]))⟩,
 ⟨some 3, none, .mov (.c (.int .i64 0))⟩]) (
 .seq (
 .seq (
 .reg none [
 ⟨some 8, none, .mov (.t 0)⟩,
 ⟨some 9, none, .ncall true 0 85 [(.t 8)]⟩,
 ⟨some 4, none, .mov (.t 9)⟩]) (
 .seq (
 .reg none [
 ⟨some 10, none, .mov (.t 4)⟩,
 ⟨some 11, none, .bin .neq (.t 10) (.c (.int .i64 0))⟩]) (
 .cond (.t 11) (
 .seq (
 .reg none [
 ⟨some 12, none, .build (.ints .i64 [0, 0, 0, 0]) []⟩,
 ⟨some 13, none, .mov (.t 4)⟩,
 ⟨none, none, .store 4 (.t 2) (.t 12)⟩,
 ⟨some 3, none, .mov (.t 13)⟩]) (
 .ret)) (
 .skip)))) (
 .seq (
 .reg none [
 ⟨some 14, none, .mov (.t 0)⟩,
 ⟨some 15, none, .ncall true 0 106 [(.t 14)]⟩,
 ⟨some 5, none, .alloc 42006 80 (.agg (.ints .i64 [0, 0, 0, 0]))⟩,
 ⟨none, none, .store 4 (.t 5) (.t 15)⟩]) (
 .seq (
 .seq (
 .reg none [
 ⟨some 16, none, .load true 4 (.t 5)⟩,
 ⟨some 17, none, .mov (.c (.int .i64 0))⟩]) (
 .block 0 (
 .loop b42_0))) (
 .seq (
 .reg none [
 ⟨some 26, none, .load true 4 (.t 5)⟩,
 ⟨none, none, .store 4 (.t 2) (.t 26)⟩,
 ⟨some 3, none, .mov (.c (.int .i64 0))⟩]) (
 .ret)))))
def a42 : AFunc := ⟨27, c42, [.cell 2 true 4, .tmp 3]⟩
def l43_0 : ACode :=
 .seq (
 .reg none [
 ⟨some 20, none, .bin .lss (.t 19) (.t 18)⟩]) (
 .seq (
 .cond (.t 20) (
 .skip) (
 .exit 0)) (
 .seq (
 .block 1 (
 .seq (
 .reg none [
 ⟨some 21, none, .mov (.t 19)⟩,
 ⟨some 7, none, .mov (.t 21)⟩]) (
 .seq (
 .seq (
 .reg none [
 ⟨some 22, none, .mov (.t 6)⟩,
 ⟨some 23, none, .len (.t 22)⟩,
 ⟨some 24, none, .bin .sub (.t 23) (.c (.int .i64 1))⟩,
 ⟨some 8, none, .mov (.t 24)⟩]) (
 .seq (
 .reg none [
 ⟨some 25, none, .mov (.t 8)⟩,
 ⟨some 26, none, .bin .geq (.t 25) (.c (.int .i64 0))⟩,
 ⟨some 27, none, .mov (.t 26)⟩,
 ⟨some 28, (some (27, true)), .mov (.t 0)⟩,
 ⟨some 29, (some (27, true)), .mov (.t 6)⟩,
 ⟨some 30, (some (27, true)), .mov (.t 8)⟩,
 ⟨some 31, (some (27, true)), .iaddr 2 (.t 29) (.t 30)⟩,
 ⟨some 32, (some (27, true)), .faddr 0 (.t 31)⟩,
 ⟨some 33, (some (27, true)), .load false 1 (.t 32)⟩,
 ⟨some 34, (some (27, true)), .mov (.t 7)⟩,
 ⟨some 35, (some (27, true)), .bin .add (.t 34) (.c (.int .i64 1))⟩,
 ⟨some 36, (some (27, true)), .slc 3 (.t 28) (some (.t 33)) (some (.t 35)) none⟩,
 ⟨some 37, (some (27, true)), .ncall true 0 107 [(.t 36)]⟩,
 ⟨some 38, none, .pick (.t 27) (.t 37) (.c (.bool false))⟩]) (
 .gh [.keep [0, 6, 7, 8, 18, 19, 38]] (
 .cond (.t 38) (
 .seq (
 .reg none [
 ⟨some 39, none, .mov (.t 6)⟩,
 ⟨some 40, none, .mov (.t 8)⟩,
 ⟨some 41, none, .mov (.t 7)⟩,
 ⟨some 42, none, .iaddr 2 (.t 39) (.t 40)⟩,
 ⟨some 43, none, .faddr 1 (.t 42)⟩,
 ⟨none, none, .store 1 (.t 43) (.t 41)⟩]) (
 .exit 1)) (
 .skip))))) (
 .reg none [
 ⟨some 44, none, .mov (.t 6)⟩,
 ⟨some 45, none, .mov (.t 7)⟩,
 ⟨some 46, none, .mov (.t 7)⟩,
 ⟨some 47, none, .build (.gen [(.int .i64 0), (.int .i64 0)]) [(0, 1, (.t 45)), (1, 1, (.t 46))]⟩,
 ⟨some 48, none, .bslice 43049 40 2 [(.t 47)]⟩,
 ⟨some 49, none, .append 43050 40 2 (.t 44) (.t 48)⟩,
 ⟨some 6, none, .mov (.t 49)⟩])))) (
 .reg none [
 ⟨some 50, none, .bin .add (.t 19) (.c (.int .i64 1))⟩,
 ⟨some 19, none, .mov (.t 50)⟩])))
def b43_0 : ACode := .gh [.keep [0, 6, 18, 19]] (.gh [] l43_0)
def k43_0 : List AItem := .inLoop b43_0 :: [.inBlock 0,
 .code (.seq (
 .reg none [
 ⟨some 51, none, .mov (.t 6)⟩,
 ⟨some 2, none, .mov (.t 51)⟩,
 ⟨some 3, none, .mov (.c (.int .i64 0))⟩]) (
 .ret))]
def c43 : ACode :=
 .seq (
 .reg none [
 ⟨some 2, none, .mov (.c .nils)⟩,
 ⟨some 3, none, .mov (.c (.int .i64 0))⟩]) (
 .seq (
 .seq (
 .reg none [
 ⟨some 10, none, .mov (.t 0)⟩,
 ⟨some 11, none, .ncall true 0 41 [(.t 10)]⟩,
 ⟨some 9, none, .mov (.t 11)⟩,
 ⟨some 12, none, .ext 0 (.t 9)⟩,
 ⟨some 13, none, .ext 1 (.t 9)⟩,
 ⟨some 4, none, .mov (.t 12)⟩,
 ⟨some 5, none, .mov (.t 13)⟩]) (
 .gh [.keep [0, 5]] (
 .seq (
 .reg none [
 ⟨some 14, none, .mov (.t 5)⟩,
 ⟨some 15, none, .bin .neq (.t 14) (.c (.int .i64 0))⟩]) (
 .cond (.t 15) (
 .seq (
 .reg none [
 ⟨some 16, none, .mov (.t 5)⟩,
 ⟨some 2, none, .mov (.c .nils)⟩,
 ⟨some 3, none, .mov (.t 16)⟩]) (
 .ret)) (
 .skip))))) (
 .seq (
 .reg none [
 ⟨some 6, none, .mov (.c .nils)⟩]) (
 .seq (
 .seq (
 .reg none [
 ⟨some 17, none, .mov (.t 0)⟩,
 ⟨some 18, none, .len (.t 17)⟩,
 ⟨some 19, none, .mov (.c (.int .i64 0))⟩]) (
 .block 0 (
 .loop b43_0))) (
 .seq (
 .reg none [
 ⟨some 51, none, .mov (.t 6)⟩,
 ⟨some 2, none, .mov (.t 51)⟩,
 ⟨some 3, none, .mov (.c (.int .i64 0))⟩]) (
 .ret)))))
def a43 : AFunc := ⟨52, c43, [.tmp 2, .tmp 3]⟩
def l45_0 : ACode :=
 .seq (
 .seq (
 .reg none [
 ⟨some 11, none, .mov (.t 5)⟩,
 ⟨some 12, none, .mov (.t 0)⟩,
 ⟨some 13, none, .len (.t 12)⟩,
 ⟨some 14, none, .bin .lss (.t 11) (.t 13)⟩]) (
 .cond (.t 14) (
 .skip) (
 .exit 0))) (
 .seq (
 .block 1 (
 .seq (
 .reg (some []) [
 ⟨some 17, none, .mov (.t 0)⟩,
 ⟨some 18, none, .mov (.t 5)⟩,
 ⟨some 19, none, .iaddr 2 (.t 17) (.t 18)⟩,
 ⟨some 20, none, .load true 2 (.t 19)⟩,
 ⟨some 21, none, .mov (.t 1)⟩,
 ⟨some 22, none, .mov (.t 5)⟩,
 ⟨some 23, none, .iaddr 2 (.t 21) (.t 22)⟩,
 ⟨some 24, none, .load true 2 (.t 23)⟩,
 ⟨some 25, none, .aeq true [.i, .i] (.t 20) (.t 24)⟩]) (
 .gh [.keep [0, 1, 5, 25]] (
 .cond (.t 25) (
 .seq (
 .reg none [
 ⟨some 4, none, .mov (.c (.bool false))⟩]) (
 .ret)) (
 .skip))))) (
 .reg none [
 ⟨some 15, none, .mov (.t 5)⟩,
 ⟨some 16, none, .bin .add (.t 15) (.c (.int .i64 1))⟩,
 ⟨some 5, none, .mov (.t 16)⟩]))
def b45_0 : ACode := .gh [.keep [0, 1, 5]] (.gh [] l45_0)
def k45_0 : List AItem := .inLoop b45_0 :: [.inBlock 0,
 .code (.seq (
 .reg none [
 ⟨some 4, none, .mov (.c (.bool true))⟩]) (
 .ret))]
def c45 : ACode :=
 .seq (
 .reg none [
 ⟨some 4, none, .mov (.c (.bool false))⟩]) (
 .seq (
 .seq (
 .reg none [
 ⟨some 6, none, .mov (.t 0)⟩,
 ⟨some 7, none, .len (.t 6)⟩,
 ⟨some 8, none, .mov (.t 1)⟩,
 ⟨some 9, none, .len (.t 8)⟩,
 ⟨some 10, none, .bin .neq (.t 7) (.t 9)⟩]) (
 .cond (.t 10) (
 .seq (
 .reg none [
 ⟨some 4, none, .mov (.c (.bool false))⟩]) (
 .ret)) (
 .skip))) (
 .seq (
 .seq (
 .reg none [
 ⟨some 5, none, .mov (.c (.int .i64 0))⟩]) (
 .block 0 (
 .loop b45_0))) (
 .seq (
 .reg none [
 ⟨some 4, none, .mov (.c (.bool true))⟩]) (
 .ret))))
def a45 : AFunc := ⟨26, c45, [.tmp 4]⟩
def c49 : ACode :=
 .seq (
 .reg none [
 ⟨some 4, none, .mov (.c (.int .i64 0))⟩]) (
 .seq (
 .reg none [
 ⟨some 6, none, .mov (.t 0)⟩,
 ⟨some 7, none, .mov (.t 1)⟩,
 ⟨some 8, none, .bin .quo (.t 6) (.t 7)⟩,
 ⟨some 5, none, .mov (.t 8)⟩]) (
 .seq (
 .seq (
 .reg none [
 ⟨some 9, none, .mov (.t 0)⟩,
 ⟨some 10, none, .mov (.t 1)⟩,
 ⟨some 11, none, .bin .rem (.t 9) (.t 10)⟩,
 ⟨some 12, none, .bin .lss (.t 11) (.c (.int .i64 0))⟩]) (
 .cond (.t 12) (
 .reg none [
 ⟨some 13, none, .mov (.t 5)⟩,
 ⟨some 14, none, .bin .sub (.t 13) (.c (.int .i64 1))⟩,
 ⟨some 5, none, .mov (.t 14)⟩]) (
 .skip))) (
 .seq (
 .reg none [
 ⟨some 15, none, .mov (.t 5)⟩,
 ⟨some 4, none, .mov (.t 15)⟩]) (
 .ret))))
def a49 : AFunc := ⟨16, c49, [.tmp 4]⟩
def c50 : ACode :=
 .seq (
 .reg none [
 ⟨some 4, none, .mov (.c (.int .i64 0))⟩]) (
 .seq (
 .reg none [
 ⟨some 5, none, .mov (.t 0)⟩,
 ⟨some 6, none, .neg (.t 5)⟩,
 ⟨some 7, none, .mov (.t 1)⟩,
 ⟨some 8, none, .ncall true 0 49 [(.t 6), (.t 7)]⟩,
 ⟨some 9, none, .neg (.t 8)⟩,
 ⟨some 4, none, .mov (.t 9)⟩]) (
 .ret))
def a50 : AFunc := ⟨10, c50, [.tmp 4]⟩
def c51 : ACode :=
 .seq (
 .reg none [
 ⟨some 1, none, .box 51002 79 (.t 0)⟩,
 ⟨some 2, none, .mov (.c (.bool false))⟩]) (
 .seq (
 .reg none [
 ⟨some 3, none, .faddr 1 (.t 1)⟩,
 ⟨some 4, none, .load false 1 (.t 3)⟩,
 ⟨some 5, none, .bin .gtr (.t 4) (.c (.int .i64 0))⟩,
 ⟨some 6, none, .mov (.t 5)⟩,
 ⟨some 7, (some (6, true)), .faddr 0 (.t 1)⟩,
 ⟨some 8, (some (6, true)), .load false 1 (.t 7)⟩,
 ⟨some 9, (some (6, true)), .faddr 1 (.t 1)⟩,
 ⟨some 10, (some (6, true)), .load false 1 (.t 9)⟩,
 ⟨some 11, (some (6, true)), .ncall true 0 108 [(.t 8), (.t 10)]⟩,
 ⟨some 12, (some (6, true)), .bin .eql (.t 11) (.c (.int .i64 1))⟩,
 ⟨some 13, none, .pick (.t 6) (.t 12) (.c (.bool false))⟩,
 ⟨some 2, none, .mov (.t 13)⟩]) (
 .gh [.keep [2]] (
 .ret)))
def a51 : AFunc := ⟨14, c51, [.tmp 2]⟩
def l52_0 : ACode :=
 .block 1 (
 .seq (
 .reg none [
 ⟨some 11, none, .mov (.t 0)⟩,
 ⟨some 12, none, .mov (.t 1)⟩,
 ⟨some 13, none, .ncall true 0 49 [(.t 11), (.t 12)]⟩,
 ⟨some 14, none, .mov (.t 2)⟩,
 ⟨some 15, none, .mov (.t 3)⟩,
 ⟨some 16, none, .ncall true 0 49 [(.t 14), (.t 15)]⟩,
 ⟨some 9, none, .mov (.t 13)⟩,
 ⟨some 10, none, .mov (.t 16)⟩]) (
 .gh [.keep [0, 1, 2, 3, 9, 10]] (
 .seq (
 .seq (
 .reg none [
 ⟨some 17, none, .mov (.t 9)⟩,
 ⟨some 18, none, .mov (.t 10)⟩,
 ⟨some 19, none, .bin .lss (.t 17) (.t 18)⟩]) (
 .cond (.t 19) (
 .seq (
 .reg none [
 ⟨some 8, none, .mov (.c (.int .i64 (-1)))⟩]) (
 .ret)) (
 .skip))) (
 .seq (
 .seq (
 .reg none [
 ⟨some 20, none, .mov (.t 9)⟩,
 ⟨some 21, none, .mov (.t 10)⟩,
 ⟨some 22, none, .bin .gtr (.t 20) (.t 21)⟩]) (
 .cond (.t 22) (
 .seq (
 .reg none [
 ⟨some 8, none, .mov (.c (.int .i64 1))⟩]) (
 .ret)) (
 .skip))) (
 .seq (
 .reg none [
 ⟨some 23, none, .mov (.t 0)⟩,
 ⟨some 24, none, .mov (.t 9)⟩,
 ⟨some 25, none, .mov (.t 1)⟩,
 ⟨some 26, none, .bin .mul (.t 24) (.t 25)⟩,
 ⟨some 27, none, .bin .sub (.t 23) (.t 26)⟩,
 ⟨some 28, none, .mov (.t 2)⟩,
 ⟨some 29, none, .mov (.t 10)⟩,
 ⟨some 30, none, .mov (.t 3)⟩,
 ⟨some 31, none, .bin .mul (.t 29) (.t 30)⟩,
 ⟨some 32, none, .bin .sub (.t 28) (.t 31)⟩,
 ⟨some 0, none, .mov (.t 27)⟩,
 ⟨some 2, none, .mov (.t 32)⟩]) (
 .gh [.keep [0, 1, 2, 3]] (
 .seq (
 .seq (
 .reg none [
 ⟨some 33, none, .mov (.t 0)⟩,
 ⟨some 34, none, .bin .eql (.t 33) (.c (.int .i64 0))⟩,
 ⟨some 35, none, .mov (.t 34)⟩,
 ⟨some 36, (some (35, true)), .mov (.t 2)⟩,
 ⟨some 37, (some (35, true)), .bin .eql (.t 36) (.c (.int .i64 0))⟩,
 ⟨some 38, none, .pick (.t 35) (.t 37) (.c (.bool false))⟩]) (
 .cond (.t 38) (
 .seq (
 .reg none [
 ⟨some 8, none, .mov (.c (.int .i64 0))⟩]) (
 .ret)) (
 .skip))) (
 .seq (
 .seq (
 .reg none [
 ⟨some 39, none, .mov (.t 0)⟩,
 ⟨some 40, none, .bin .eql (.t 39) (.c (.int .i64 0))⟩]) (
 .cond (.t 40) (
 .seq (
 .reg none [
 ⟨some 8, none, .mov (.c (.int .i64 (-1)))⟩]) (
 .ret)) (
 .skip))) (
 .seq (
 .seq (
 .reg none [
 ⟨some 41, none, .mov (.t 2)⟩,
 ⟨some 42, none, .bin .eql (.t 41) (.c (.int .i64 0))⟩]) (
 .cond (.t 42) (
 .seq (
 .reg none [
 ⟨some 8, none, .mov (.c (.int .i64 1))⟩]) (
 .ret)) (
 .skip))) (
 .reg none [
 ⟨some 43, none, .mov (.t 3)⟩,
 ⟨some 44, none, .mov (.t 2)⟩,
 ⟨some 45, none, .mov (.t 1)⟩,
 ⟨some 46, none, .mov (.t 0)⟩,
 ⟨some 0, none, .mov (.t 43)⟩,
 ⟨some 1, none, .mov (.t 44)⟩,
 ⟨some 2, none, .mov (.t 45)⟩,
 ⟨some 3, none, .mov (.t 46)⟩]))))))))))
def b52_0 : ACode := .gh [.keep [0, 1, 2, 3]] (.gh [] l52_0)
def k52_0 : List AItem := .inLoop b52_0 :: [.inBlock 0]
def c52 : ACode :=
 .seq (
 .reg none [
 ⟨some 8, none, .mov (.c (.int .i64 0))⟩]) (
 .block 0 (
 .loop b52_0))
def a52 : AFunc := ⟨47, c52, [.tmp 8]⟩
def c53 : ACode :=
 .seq (
 .reg none [
 ⟨some 4, none, .mov (.c (.int .i64 0))⟩]) (
 .seq (
 .reg none [
 ⟨some 5, none, .mov (.t 0)⟩,
 ⟨some 6, none, .mov (.t 1)⟩,
 ⟨some 7, none, .bin .rem (.t 5) (.t 6)⟩,
 ⟨some 0, none, .mov (.t 7)⟩]) (
 .seq (
 .seq (
 .reg none [
 ⟨some 8, none, .mov (.t 0)⟩,
 ⟨some 9, none, .bin .lss (.t 8) (.c (.int .i64 0))⟩]) (
 .cond (.t 9) (
 .reg none [
 ⟨some 10, none, .mov (.t 0)⟩,
 ⟨some 11, none, .mov (.t 1)⟩,
 ⟨some 12, none, .bin .add (.t 10) (.t 11)⟩,
 ⟨some 0, none, .mov (.t 12)⟩]) (
 .skip))) (
 .seq (
 .reg none [
 ⟨some 13, none, .mov (.t 0)⟩,
 ⟨some 4, none, .mov (.t 13)⟩]) (
 .ret))))
def a53 : AFunc := ⟨14, c53, [.tmp 4]⟩
def c55 : ACode :=
 .seq (
 .reg none [
 ⟨some 2, none, .mov (.c .nils)⟩]) (
 .seq (
 .reg none [
 ⟨some 3, none, .bslice 55004 3 1 []⟩,
 ⟨some 4, none, .mov (.t 0)⟩,
 ⟨some 5, none, .append 55006 3 1 (.t 3) (.t 4)⟩,
 ⟨some 2, none, .mov (.t 5)⟩]) (
 .ret))
def a55 : AFunc := ⟨6, c55, [.tmp 2]⟩
def c60 : ACode :=
 .seq (
 .reg none [
 ⟨some 2, none, .mov (.c (.int .i64 0))⟩,
 ⟨some 3, none, .mov (.c (.int .i64 0))⟩]) (
 .seq (
 .seq (
 .reg none [
 ⟨some 6, none, .mov (.t 0)⟩,
 ⟨some 7, none, .len (.t 6)⟩,
 ⟨some 8, none, .bin .gtr (.t 7) (.c (.int .i64 0))⟩,
 ⟨some 9, none, .ncall true 0 86 [(.t 8), (.c (.int .i64 10))]⟩,
 ⟨some 10, none, .mov (.t 0)⟩,
 ⟨some 11, none, .len (.t 10)⟩,
 ⟨some 12, none, .bin .leq (.t 11) (.c (.int .i64 29))⟩,
 ⟨some 13, none, .ncall true 0 86 [(.t 12), (.c (.int .i64 8))]⟩,
 ⟨some 14, none, .mov (.t 0)⟩,
 ⟨some 15, none, .ncall true 0 94 [(.t 14)]⟩,
 ⟨some 16, none, .bslice 60017 28 1 [(.t 9), (.t 13), (.t 15)]⟩,
 ⟨some 17, none, .ncall true 0 84 [(.t 16)]⟩,
 ⟨some 4, none, .mov (.t 17)⟩]) (
 .gh [.keep [0, 4]] (
 .seq (
 .reg none [
 ⟨some 18, none, .mov (.t 4)⟩,
 ⟨some 19, none, .bin .neq (.t 18) (.c (.int .i64 0))⟩]) (
 .cond (.t 19) (
 .seq (
 .reg none [
 ⟨some 20, none, .mov (.t 4)⟩,
 ⟨some 2, none, .mov (.c (.int .i64 0))⟩,
 ⟨some 3, none, .mov (.t 20)⟩]) (
 .ret)) (
 .skip))))) (
 .seq (
 .reg none [
 ⟨some 21, none, .mov (.t 0)⟩,
 ⟨some 22, none, .ncall true 0 109 [(.t 21)]⟩,
 ⟨some 5, none, .alloc 60006 118 (.agg (.ints .i64 [0, 0]))⟩,
 ⟨none, none, .store 2 (.t 5) (.t 22)⟩]) (
 .seq (
 .reg none [
 ⟨some 23, none, .aaddr 2 1 (.t 5) (.c (.int .i64 0))⟩,
 ⟨some 24, none, .load false 1 (.t 23)⟩,
 ⟨some 25, none, .bin .mul (.c (.int .i64 256)) (.t 24)⟩,
 ⟨some 26, none, .aaddr 2 1 (.t 5) (.c (.int .i64 1))⟩,
 ⟨some 27, none, .load false 1 (.t 26)⟩,
 ⟨some 28, none, .bin .add (.t 25) (.t 27)⟩,
 ⟨some 2, none, .mov (.t 28)⟩,
 ⟨some 3, none, .mov (.c (.int .i64 0))⟩]) (
 .gh [.keep [2, 3]] (
 .ret)))))
def a60 : AFunc := ⟨29, c60, [.tmp 2, .tmp 3]⟩
def c63 : ACode :=
 .seq (
 .reg none [
 ⟨some 1, none, .box 63002 23 (.t 0)⟩,
 ⟨some 2, none, .mov (.c (.int .i64 0))⟩]) (
 .seq (
 .reg none [
 ⟨some 3, none, .faddr 0 (.t 1)⟩,
 ⟨some 4, none, .load false 1 (.t 3)⟩,
 ⟨some 5, none, .ncall true 0 87 [(.t 4), (.c (.int .i64 4)), (.c (.int .i64 24))]⟩,
 ⟨some 6, none, .mov (.t 5)⟩,
 ⟨some 7, (some (6, true)), .faddr 1 (.t 1)⟩,
 ⟨some 8, (some (6, true)), .load false 1 (.t 7)⟩,
 ⟨some 9, (some (6, true)), .ncall true 0 87 [(.t 8), (.c (.int .i64 1)), (.c (.int .i64 4))]⟩,
 ⟨some 10, none, .pick (.t 6) (.t 9) (.c (.bool false))⟩,
 ⟨some 11, none, .ncall true 0 86 [(.t 10), (.c (.int .i64 2))]⟩,
 ⟨some 2, none, .mov (.t 11)⟩]) (
 .gh [.keep [2]] (
 .ret)))
def a63 : AFunc := ⟨12, c63, [.tmp 2]⟩
def l67_0 : ACode :=
 .seq (
 .seq (
 .reg none [
 ⟨some 11, none, .mov (.t 5)⟩,
 ⟨some 12, none, .mov (.t 0)⟩,
 ⟨some 13, none, .len (.t 12)⟩,
 ⟨some 14, none, .bin .lss (.t 11) (.t 13)⟩]) (
 .cond (.t 14) (
 .skip) (
 .exit 0))) (
 .seq (
 .block 1 (
 .seq (
 .reg (some []) [
 ⟨some 17, none, .mov (.t 0)⟩,
 ⟨some 18, none, .mov (.t 5)⟩,
 ⟨some 19, none, .iaddr 1 (.t 17) (.t 18)⟩,
 ⟨some 20, none, .load false 1 (.t 19)⟩,
 ⟨some 21, none, .mov (.t 1)⟩,
 ⟨some 22, none, .mov (.t 5)⟩,
 ⟨some 23, none, .iaddr 1 (.t 21) (.t 22)⟩,
 ⟨some 24, none, .load false 1 (.t 23)⟩,
 ⟨some 25, none, .bin .neq (.t 20) (.t 24)⟩]) (
 .gh [.keep [0, 1, 5, 25]] (
 .cond (.t 25) (
 .seq (
 .reg none [
 ⟨some 4, none, .mov (.c (.bool false))⟩]) (
 .ret)) (
 .skip))))) (
 .reg none [
 ⟨some 15, none, .mov (.t 5)⟩,
 ⟨some 16, none, .bin .add (.t 15) (.c (.int .i64 1))⟩,
 ⟨some 5, none, .mov (.t 16)⟩]))
def b67_0 : ACode := .gh [.keep [0, 1, 5]] (.gh [] l67_0)
def c67 : ACode :=
 .seq (
 .reg none [
 ⟨some 4, none, .mov (.c (.bool false))⟩]) (
 .seq (
 .seq (
 .reg none [
 ⟨some 6, none, .mov (.t 0)⟩,
 ⟨some 7, none, .len (.t 6)⟩,
 ⟨some 8, none, .mov (.t 1)⟩,
 ⟨some 9, none, .len (.t 8)⟩,
 ⟨some 10, none, .bin .neq (.t 7) (.t 9)⟩]) (
 .cond (.t 10) (
 .seq (
 .reg none [
 ⟨some 4, none, .mov (.c (.bool false))⟩]) (
 .ret)) (
 .skip))) (
 .seq (
 .seq (
 .reg none [
 ⟨some 5, none, .mov (.c (.int .i64 0))⟩]) (
 .block 0 (
 .loop b67_0))) (
 .seq (
 .reg none [
 ⟨some 4, none, .mov (.c (.bool true))⟩]) (
 .ret))))
def a67 : AFunc := ⟨26, c67, [.tmp 4]⟩
def c70 : ACode :=
 .seq (
 .reg none [
 ⟨some 2, none, .mov (.c (.int .i64 0))⟩]) (
 .seq (
 .reg none [
 ⟨some 3, none, .mov (.t 0)⟩,
 ⟨some 4, none, .mov (.t 0)⟩,
 ⟨some 5, none, .neg (.t 4)⟩,
 ⟨some 6, none, .mm true (.t 3) (.t 5)⟩,
 ⟨some 2, none, .mov (.t 6)⟩]) (
 .ret))
def a70 : AFunc := ⟨7, c70, [.tmp 2]⟩
def c75 : ACode :=
 .seq (
 .reg none [
 ⟨some 0, none, .alloc 75001 23 (.agg (.gen [(.int .i64 0), (.int .i64 0)]))⟩]) (
 .seq (
 .reg none [
 ⟨some 1, none, .build (.gen [(.int .i64 0), (.int .i64 0)]) [(0, 1, (.c (.int .i64 4))), (1, 1, (.c (.int .i64 2)))]⟩,
 ⟨none, none, .store 2 (.t 0) (.t 1)⟩]) (
 .ret))
def a75 : AFunc := ⟨2, c75, [.cell 0 true 2]⟩
def c76 : ACode :=
 .seq (
 .reg none [
 ⟨some 0, none, .mov (.c .nils)⟩]) (
 .seq (
 .reg none [
 ⟨some 1, none, .bslice 76002 3 1 [(.c (.int .i64 1)), (.c (.int .i64 2))]⟩,
 ⟨some 2, none, .build (.gen [(.int .i64 0), (.int .i64 0), .nils]) [(0, 1, (.c (.int .i64 9))), (2, 1, (.t 1))]⟩,
 ⟨some 3, none, .bslice 76004 3 1 [(.c (.int .i64 3))]⟩,
 ⟨some 4, none, .build (.gen [(.int .i64 0), (.int .i64 0), .nils]) [(0, 1, (.c (.int .i64 9))), (1, 1, (.c (.int .i64 1))), (2, 1, (.t 3))]⟩,
 ⟨some 5, none, .bslice 76006 57 3 [(.t 2), (.t 4)]⟩,
 ⟨some 0, none, .mov (.t 5)⟩]) (
 .ret))
def a76 : AFunc := ⟨6, c76, [.tmp 0]⟩
def c77 : ACode :=
 .seq (
 .reg none [
 ⟨some 0, none, .mov (.c .nils)⟩]) (
 .seq (
 .reg none [
 ⟨some 1, none, .build (.gen [(.int .i64 0), (.int .i64 0)]) [(0, 1, (.c (.int .i64 10))), (1, 1, (.c (.int .i64 12)))]⟩,
 ⟨some 2, none, .build (.gen [(.int .i64 0), (.int .i64 0), (.int .i64 0)]) [(0, 1, (.c (.int .i64 0))), (1, 2, (.t 1))]⟩,
 ⟨some 3, none, .build (.gen [(.int .i64 0), (.int .i64 0)]) [(0, 1, (.c (.int .i64 30))), (1, 1, (.c (.int .i64 32)))]⟩,
 ⟨some 4, none, .build (.gen [(.int .i64 0), (.int .i64 0), (.int .i64 0)]) [(0, 1, (.c (.int .i64 10))), (1, 2, (.t 3))]⟩,
 ⟨some 5, none, .build (.gen [(.int .i64 0), (.int .i64 0)]) [(0, 1, (.c (.int .i64 50))), (1, 1, (.c (.int .i64 51)))]⟩,
 ⟨some 6, none, .build (.gen [(.int .i64 0), (.int .i64 0), (.int .i64 0)]) [(0, 1, (.c (.int .i64 20))), (1, 2, (.t 5))]⟩,
 ⟨some 7, none, .bslice 77008 49 3 [(.t 2), (.t 4), (.t 6)]⟩,
 ⟨some 0, none, .mov (.t 7)⟩]) (
 .gh [.keep [0]] (
 .ret)))
def a77 : AFunc := ⟨8, c77, [.tmp 0]⟩
def c78 : ACode :=
 .seq (
 .reg none [
 ⟨some 3, none, .box 78004 23 (.t 0)⟩,
 ⟨some 6, none, .alloc 78007 132 (.agg (.gen [(.int .i64 0), (.int .i64 0)]))⟩,
 ⟨some 7, none, .mov (.c (.int .i64 0))⟩]) (
 .seq (
 .reg none [
 ⟨some 11, none, .load true 2 (.t 3)⟩,
 ⟨some 12, none, .mov (.t 1)⟩,
 ⟨some 13, none, .ncall true 0 99 [(.t 11), (.t 12)]⟩,
 ⟨some 10, none, .mov (.t 13)⟩,
 ⟨some 14, none, .ext 0 (.t 10)⟩,
 ⟨some 15, none, .ext 1 (.t 10)⟩,
 ⟨some 8, none, .alloc 78009 132 (.agg (.gen [(.int .i64 0), (.int .i64 0)]))⟩,
 ⟨none, none, .store 2 (.t 8) (.t 14)⟩,
 ⟨some 9, none, .mov (.t 15)⟩]) (
 .gh [.keep [2, 6, 8, 9]] (
 .seq (
 .reg (some [(0, 10)]) [
 ⟨some 16, none, .load true 2 (.t 8)⟩,
 ⟨some 17, none, .mov (.t 9)⟩,
 ⟨some 18, none, .mov (.t 2)⟩,
 ⟨some 19, none, .len (.t 18)⟩,
 ⟨some 20, none, .bin .leq (.t 19) (.c (.int .i64 40))⟩,
 ⟨some 21, none, .ncall true 0 86 [(.t 20), (.c (.int .i64 8))]⟩,
 ⟨some 22, none, .mov (.t 2)⟩,
 ⟨some 23, none, .load true 2 (.t 8)⟩,
 ⟨some 24, none, .mkmth 110 (.t 23)⟩,
 ⟨some 25, none, .ncall true 0 117 [(.t 22), (.t 24)]⟩,
 ⟨some 26, none, .bslice 78027 28 1 [(.t 17), (.t 21), (.t 25)]⟩,
 ⟨some 27, none, .ncall true 0 84 [(.t 26)]⟩,
 ⟨none, none, .store 2 (.t 6) (.t 16)⟩,
 ⟨some 7, none, .mov (.t 27)⟩]) (
 .gh [.keep [6, 7]] (
 .ret)))))
def a78 : AFunc := ⟨28, c78, [.cell 6 true 2, .tmp 7]⟩
def l79_0 : ACode :=
 .seq (
 .reg none [
 ⟨some 14, none, .bin .lss (.t 13) (.t 12)⟩]) (
 .seq (
 .cond (.t 14) (
 .skip) (
 .exit 0)) (
 .seq (
 .block 1 (
 .seq (
 .reg none [
 ⟨some 15, none, .iaddr 4 (.t 11) (.t 13)⟩,
 ⟨some 16, none, .load true 4 (.t 15)⟩,
 ⟨some 7, none, .alloc 79008 74 (.agg (.gen [(.int .i64 0), (.int .i64 0), (.int .i64 0), .nils]))⟩,
 ⟨none, none, .store 4 (.t 7) (.t 16)⟩]) (
 .seq (
 .seq (
 .reg none [
 ⟨some 17, none, .faddr 0 (.t 7)⟩,
 ⟨some 18, none, .load false 1 (.t 17)⟩,
 ⟨some 19, none, .mov (.t 0)⟩,
 ⟨some 20, none, .bin .neq (.t 18) (.t 19)⟩]) (
 .cond (.t 20) (
 .exit 1) (
 .skip))) (
 .seq (
 .reg none [
 ⟨some 21, none, .load true 4 (.t 7)⟩,
 ⟨some 22, none, .faddr 1 (.t 7)⟩,
 ⟨some 23, none, .load false 1 (.t 22)⟩,
 ⟨some 24, none, .bin .add (.t 23) (.c (.int .i64 64))⟩,
 ⟨some 25, none, .build (.gen [(.int .i64 0), (.int .i64 0), (.int .i64 0), .nils, (.int .i64 0)]) [(0, 4, (.t 21)), (4, 1, (.t 24))]⟩,
 ⟨some 8, none, .alloc 79009 140 (.agg (.gen [(.int .i64 0), (.int .i64 0), (.int .i64 0), .nils, (.int .i64 0)]))⟩,
 ⟨none, none, .store 5 (.t 8) (.t 25)⟩]) (
 .seq (
 .seq (
 .reg none [
 ⟨some 26, none, .mov (.t 5)⟩,
 ⟨some 27, none, .len (.t 26)⟩,
 ⟨some 28, none, .bin .gtr (.t 27) (.c (.int .i64 0))⟩]) (
 .cond (.t 28) (
 .seq (
 .reg none [
 ⟨some 29, none, .mov (.t 5)⟩,
 ⟨some 30, none, .mov (.t 5)⟩,
 ⟨some 31, none, .len (.t 30)⟩,
 ⟨some 32, none, .bin .sub (.t 31) (.c (.int .i64 1))⟩,
 ⟨some 33, none, .iaddr 5 (.t 29) (.t 32)⟩,
 ⟨some 34, none, .faddr 4 (.t 33)⟩,
 ⟨some 35, none, .load false 1 (.t 34)⟩,
 ⟨some 9, none, .mov (.t 35)⟩]) (
 .gh [.keep [0, 5, 7, 8, 9, 11, 12, 13]] (
 .seq (
 .reg none [
 ⟨some 36, none, .faddr 1 (.t 7)⟩,
 ⟨some 37, none, .load false 1 (.t 36)⟩,
 ⟨some 38, none, .mov (.t 9)⟩,
 ⟨some 39, none, .bin .sub (.t 37) (.t 38)⟩,
 ⟨some 40, none, .bin .rem (.t 39) (.c (.int .i64 64))⟩,
 ⟨some 41, none, .bin .add (.t 40) (.c (.int .i64 64))⟩,
 ⟨some 42, none, .bin .rem (.t 41) (.c (.int .i64 64))⟩,
 ⟨some 10, none, .mov (.t 42)⟩]) (
 .gh [.keep [0, 5, 8, 9, 10, 11, 12, 13]] (
 .seq (
 .seq (
 .reg none [
 ⟨some 43, none, .mov (.t 10)⟩,
 ⟨some 44, none, .bin .gtr (.t 43) (.c (.int .i64 32))⟩]) (
 .cond (.t 44) (
 .reg none [
 ⟨some 45, none, .mov (.t 10)⟩,
 ⟨some 46, none, .bin .sub (.t 45) (.c (.int .i64 64))⟩,
 ⟨some 10, none, .mov (.t 46)⟩]) (
 .skip))) (
 .reg none [
 ⟨some 47, none, .mov (.t 9)⟩,
 ⟨some 48, none, .mov (.t 10)⟩,
 ⟨some 49, none, .bin .add (.t 47) (.t 48)⟩,
 ⟨some 50, none, .faddr 4 (.t 8)⟩,
 ⟨none, none, .store 1 (.t 50) (.t 49)⟩])))))) (
 .skip))) (
 .reg none [
 ⟨some 51, none, .mov (.t 5)⟩,
 ⟨some 52, none, .load true 5 (.t 8)⟩,
 ⟨some 53, none, .bslice 79054 140 5 [(.t 52)]⟩,
 ⟨some 54, none, .append 79055 140 5 (.t 51) (.t 53)⟩,
 ⟨some 5, none, .mov (.t 54)⟩])))))) (
 .reg none [
 ⟨some 55, none, .bin .add (.t 13) (.c (.int .i64 1))⟩,
 ⟨some 13, none, .mov (.t 55)⟩])))
def b79_0 : ACode := .gh [.keep [0, 5, 11, 12, 13]] (.gh [] l79_0)
def c79 : ACode :=
 .seq (
 .reg none [
 ⟨some 4, none, .mov (.c .nils)⟩]) (
 .seq (
 .reg none [
 ⟨some 5, none, .mov (.c .nils)⟩]) (
 .seq (
 .seq (
 .reg none [
 ⟨some 11, none, .mov (.t 1)⟩,
 ⟨some 12, none, .len (.t 11)⟩,
 ⟨some 13, none, .mov (.c (.int .i64 0))⟩]) (
 .block 0 (
 .loop b79_0))) (
 .seq (
 .reg none [
 ⟨some 56, none, .mov (.t 5)⟩,
 ⟨some 57, none, .ncall true 0 118 [(.t 56), (.c (.fn 119 []))]⟩]) (
 .seq (
 .reg none [
 ⟨some 58, none, .mov (.t 5)⟩,
 ⟨some 59, none, .ncall true 79060 121 [(.t 58), (.c (.fn 122 []))]⟩,
 ⟨some 4, none, .mov (.t 59)⟩]) (
 .ret)))))
def a79 : AFunc := ⟨60, c79, [.tmp 4]⟩
def l80_0 : ACode :=
 .seq (
 .seq (
 .reg none [
 ⟨some 54, none, .mov (.t 0)⟩,
 ⟨some 55, none, .nilck (.t 54)⟩,
 ⟨some 56, none, .faddr 1 (.t 55)⟩,
 ⟨some 57, none, .load false 1 (.t 56)⟩,
 ⟨some 58, none, .len (.t 57)⟩,
 ⟨some 59, none, .bin .geq (.t 58) (.c (.int .i64 3))⟩]) (
 .cond (.t 59) (
 .skip) (
 .exit 0))) (
 .block 1 (
 .seq (
 .reg none [
 ⟨some 60, none, .mov (.t 0)⟩,
 ⟨some 61, none, .nilck (.t 60)⟩,
 ⟨some 62, none, .faddr 1 (.t 61)⟩,
 ⟨some 63, none, .load false 1 (.t 62)⟩,
 ⟨some 64, none, .iaddr 1 (.t 63) (.c (.int .i64 2))⟩,
 ⟨some 65, none, .load false 1 (.t 64)⟩,
 ⟨some 66, none, .bin .add (.c (.int .i64 3)) (.t 65)⟩,
 ⟨some 7, none, .mov (.t 66)⟩]) (
 .gh [.keep [0, 7]] (
 .seq (
 .seq (
 .reg none [
 ⟨some 67, none, .mov (.t 7)⟩,
 ⟨some 68, none, .mov (.t 0)⟩,
 ⟨some 69, none, .nilck (.t 68)⟩,
 ⟨some 70, none, .faddr 1 (.t 69)⟩,
 ⟨some 71, none, .load false 1 (.t 70)⟩,
 ⟨some 72, none, .len (.t 71)⟩,
 ⟨some 73, none, .bin .gtr (.t 67) (.t 72)⟩]) (
 .gh [.keep [0, 7, 73]] (
 .cond (.t 73) (
 .ret) (
 .skip)))) (
 .seq (
 .seq (
 .reg (some [(0, 18), (0, 20), (1, 18), (1, 20), (2, 18), (2, 20), (3, 18), (3, 20), (4, 18), (4, 20), (5, 18), (5, 20), (6, 18), (6, 20), (7, 18), (7, 20), (8, 18), (8, 20), (9, 18), (9, 20), (10, 18), (10, 20), (11, 18), (11, 20), (12, 20), (13, 20), (14, 20), (15, 20), (16, 20), (17, 20), (18, 20), (19, 20)]) [
 ⟨some 74, none, .mov (.t 0)⟩,
 ⟨some 75, none, .nilck (.t 74)⟩,
 ⟨some 76, none, .faddr 1 (.t 75)⟩,
 ⟨some 77, none, .load false 1 (.t 76)⟩,
 ⟨some 78, none, .iaddr 1 (.t 77) (.c (.int .i64 0))⟩,
 ⟨some 79, none, .load false 1 (.t 78)⟩,
 ⟨some 80, none, .mov (.t 0)⟩,
 ⟨some 81, none, .nilck (.t 80)⟩,
 ⟨some 82, none, .faddr 1 (.t 81)⟩,
 ⟨some 83, none, .load false 1 (.t 82)⟩,
 ⟨some 84, none, .iaddr 1 (.t 83) (.c (.int .i64 1))⟩,
 ⟨some 85, none, .load false 1 (.t 84)⟩,
 ⟨some 86, none, .mov (.t 0)⟩,
 ⟨some 87, none, .nilck (.t 86)⟩,
 ⟨some 88, none, .faddr 1 (.t 87)⟩,
 ⟨some 89, none, .load false 1 (.t 88)⟩,
 ⟨some 90, none, .mov (.t 7)⟩,
 ⟨some 91, none, .slc 1 (.t 89) (some (.c (.int .i64 3))) (some (.t 90)) none⟩,
 ⟨some 92, none, .ncall true 80093 102 [(.t 91)]⟩,
 ⟨some 93, none, .build (.gen [(.int .i64 0), (.int .i64 0), .nils]) [(0, 1, (.t 79)), (1, 1, (.t 85)), (2, 1, (.t 92))]⟩,
 ⟨some 8, none, .alloc 80009 57 (.agg (.gen [(.int .i64 0), (.int .i64 0), .nils]))⟩,
 ⟨none, none, .store 3 (.t 8) (.t 93)⟩]) (
 .gh [.keep [0, 7, 8]] (
 .seq (
 .reg none [
 ⟨some 94, none, .faddr 0 (.t 8)⟩,
 ⟨some 95, none, .load false 1 (.t 94)⟩,
 ⟨some 96, none, .bin .neq (.t 95) (.c (.int .i64 255))⟩]) (
 .cond (.t 96) (
 .reg (some [(0, 6), (0, 7), (1, 6), (2, 6), (3, 6), (4, 6)]) [
 ⟨some 97, none, .mov (.t 0)⟩,
 ⟨some 98, none, .mov (.t 0)⟩,
 ⟨some 99, none, .nilck (.t 98)⟩,
 ⟨some 100, none, .faddr 2 (.t 99)⟩,
 ⟨some 101, none, .load false 1 (.t 100)⟩,
 ⟨some 102, none, .load true 3 (.t 8)⟩,
 ⟨some 103, none, .bslice 80104 57 3 [(.t 102)]⟩,
 ⟨some 104, none, .append 80105 57 3 (.t 101) (.t 103)⟩,
 ⟨some 105, none, .nilck (.t 97)⟩,
 ⟨some 106, none, .faddr 2 (.t 105)⟩,
 ⟨none, none, .store 1 (.t 106) (.t 104)⟩]) (
 .skip))))) (
 .reg none [
 ⟨some 107, none, .mov (.t 0)⟩,
 ⟨some 108, none, .mov (.t 0)⟩,
 ⟨some 109, none, .nilck (.t 108)⟩,
 ⟨some 110, none, .faddr 1 (.t 109)⟩,
 ⟨some 111, none, .load false 1 (.t 110)⟩,
 ⟨some 112, none, .mov (.t 7)⟩,
 ⟨some 113, none, .slc 1 (.t 111) (some (.t 112)) none none⟩,
 ⟨some 114, none, .nilck (.t 107)⟩,
 ⟨some 115, none, .faddr 1 (.t 114)⟩,
 ⟨none, none, .store 1 (.t 115) (.t 113)⟩]))))))
def b80_0 : ACode := .gh [.keep [0]] (.gh [] l80_0)
def c80 : ACode :=
 .seq (
 .reg none [
 ⟨some 4, none, .box 80005 74 (.t 1)⟩]) (
 .seq (
 .seq (
 .reg (some []) [
 ⟨some 9, none, .mov (.t 0)⟩,
 ⟨some 10, none, .nilck (.t 9)⟩,
 ⟨some 11, none, .faddr 0 (.t 10)⟩,
 ⟨some 12, none, .load false 1 (.t 11)⟩,
 ⟨some 13, none, .mov (.t 12)⟩,
 ⟨some 14, (some (13, true)), .mov (.t 2)⟩,
 ⟨some 15, (some (13, true)), .not (.t 14)⟩,
 ⟨some 16, (some (13, true)), .mov (.t 15)⟩,
 ⟨some 17, (some (16, false)), .faddr 2 (.t 4)⟩,
 ⟨some 18, (some (16, false)), .load false 1 (.t 17)⟩,
 ⟨some 19, (some (16, false)), .mov (.t 0)⟩,
 ⟨some 20, (some (16, false)), .load true 4 (.t 4)⟩,
 ⟨some 21, (some (16, false)), .ncall true 0 123 [(.t 19), (.t 20)]⟩,
 ⟨some 22, (some (16, false)), .bin .neq (.t 18) (.t 21)⟩,
 ⟨some 23, (some (13, true)), .pick (.t 16) (.c (.bool true)) (.t 22)⟩,
 ⟨some 24, none, .pick (.t 13) (.t 23) (.c (.bool false))⟩]) (
 .gh [.keep [0, 4, 24]] (
 .cond (.t 24) (
 .reg none [
 ⟨some 25, none, .mov (.t 0)⟩,
 ⟨some 26, none, .ncall true 0 124 [(.t 25)]⟩]) (
 .skip)))) (
 .seq (
 .reg none [
 ⟨some 27, none, .faddr 3 (.t 4)⟩,
 ⟨some 28, none, .load false 1 (.t 27)⟩,
 ⟨some 6, none, .mov (.t 28)⟩]) (
 .seq (
 .seq (
 .reg none [
 ⟨some 29, none, .mov (.t 0)⟩,
 ⟨some 30, none, .nilck (.t 29)⟩,
 ⟨some 31, none, .faddr 0 (.t 30)⟩,
 ⟨some 32, none, .load false 1 (.t 31)⟩,
 ⟨some 33, none, .not (.t 32)⟩]) (
 .cond (.t 33) (
 .seq (
 .seq (
 .reg none [
 ⟨some 34, none, .faddr 2 (.t 4)⟩,
 ⟨some 35, none, .load false 1 (.t 34)⟩,
 ⟨some 36, none, .bin .eql (.t 35) (.c (.int .i64 255))⟩]) (
 .cond (.t 36) (
 .ret) (
 .skip))) (
 .reg (some [(1, 7), (2, 7), (3, 7), (4, 7)]) [
 ⟨some 37, none, .mov (.t 0)⟩,
 ⟨some 38, none, .mov (.t 6)⟩,
 ⟨some 39, none, .faddr 2 (.t 4)⟩,
 ⟨some 40, none, .load false 1 (.t 39)⟩,
 ⟨some 41, none, .slc 1 (.t 38) (some (.t 40)) none none⟩,
 ⟨some 42, none, .nilck (.t 37)⟩,
 ⟨some 43, none, .faddr 0 (.t 42)⟩,
 ⟨none, none, .store 1 (.t 43) (.c (.bool true))⟩,
 ⟨some 6, none, .mov (.t 41)⟩])) (
 .skip))) (
 .seq (
 .reg none [
 ⟨some 44, none, .mov (.t 0)⟩,
 ⟨some 45, none, .mov (.t 0)⟩,
 ⟨some 46, none, .nilck (.t 45)⟩,
 ⟨some 47, none, .faddr 1 (.t 46)⟩,
 ⟨some 48, none, .load false 1 (.t 47)⟩,
 ⟨some 49, none, .mov (.t 6)⟩,
 ⟨some 50, none, .bslice 80051 55 1 [(.t 48), (.t 49)]⟩,
 ⟨some 51, none, .ncall true 80052 113 [(.t 50)]⟩,
 ⟨some 52, none, .nilck (.t 44)⟩,
 ⟨some 53, none, .faddr 1 (.t 52)⟩,
 ⟨none, none, .store 1 (.t 53) (.t 51)⟩]) (
 .gh [.keep [0]] (
 .block 0 (
 .loop b80_0)))))))
def a80 : AFunc := ⟨116, c80, []⟩
def c81 : ACode :=
 .seq (
 .reg none [
 ⟨some 2, none, .box 81003 57 (.t 0)⟩,
 ⟨some 3, none, .box 81004 57 (.t 1)⟩,
 ⟨some 4, none, .mov (.c (.bool false))⟩]) (
 .seq (
 .reg none [
 ⟨some 5, none, .faddr 0 (.t 2)⟩,
 ⟨some 6, none, .load false 1 (.t 5)⟩,
 ⟨some 7, none, .faddr 0 (.t 3)⟩,
 ⟨some 8, none, .load false 1 (.t 7)⟩,
 ⟨some 9, none, .bin .eql (.t 6) (.t 8)⟩,
 ⟨some 10, none, .mov (.t 9)⟩,
 ⟨some 11, (some (10, true)), .faddr 1 (.t 2)⟩,
 ⟨some 12, (some (10, true)), .load false 1 (.t 11)⟩,
 ⟨some 13, (some (10, true)), .faddr 1 (.t 3)⟩,
 ⟨some 14, (some (10, true)), .load false 1 (.t 13)⟩,
 ⟨some 15, (some (10, true)), .bin .eql (.t 12) (.t 14)⟩,
 ⟨some 16, none, .pick (.t 10) (.t 15) (.c (.bool false))⟩,
 ⟨some 17, none, .mov (.t 16)⟩,
 ⟨some 18, (some (17, true)), .faddr 2 (.t 2)⟩,
 ⟨some 19, (some (17, true)), .load false 1 (.t 18)⟩,
 ⟨some 20, (some (17, true)), .faddr 2 (.t 3)⟩,
 ⟨some 21, (some (17, true)), .load false 1 (.t 20)⟩,
 ⟨some 22, (some (17, true)), .ncall true 0 67 [(.t 19), (.t 21)]⟩,
 ⟨some 23, none, .pick (.t 17) (.t 22) (.c (.bool false))⟩,
 ⟨some 4, none, .mov (.t 23)⟩]) (
 .gh [.keep [4]] (
 .ret)))
def a81 : AFunc := ⟨24, c81, [.tmp 4]⟩
def l84_0 : ACode :=
 .seq (
 .reg none [
 ⟨some 8, none, .bin .lss (.t 7) (.t 6)⟩]) (
 .seq (
 .cond (.t 8) (
 .skip) (
 .exit 0)) (
 .seq (
 .block 1 (
 .seq (
 .reg none [
 ⟨some 9, none, .iaddr 1 (.t 5) (.t 7)⟩,
 ⟨some 10, none, .load false 1 (.t 9)⟩,
 ⟨some 4, none, .mov (.t 10)⟩]) (
 .seq (
 .reg none [
 ⟨some 11, none, .mov (.t 4)⟩,
 ⟨some 12, none, .bin .neq (.t 11) (.c (.int .i64 0))⟩]) (
 .cond (.t 12) (
 .seq (
 .reg none [
 ⟨some 13, none, .mov (.t 4)⟩,
 ⟨some 2, none, .mov (.t 13)⟩]) (
 .ret)) (
 .skip))))) (
 .reg none [
 ⟨some 14, none, .bin .add (.t 7) (.c (.int .i64 1))⟩,
 ⟨some 7, none, .mov (.t 14)⟩])))
def b84_0 : ACode := .gh [.keep [5, 6, 7]] (.gh [] l84_0)
def k84_0 : List AItem := .inLoop b84_0 :: [.inBlock 0,
 .code (.seq (
 .reg none [
 ⟨some 2, none, .mov (.c (.int .i64 0))⟩]) (
 .ret))]
def c84 : ACode :=
 .seq (
 .reg none [
 ⟨some 2, none, .mov (.c (.int .i64 0))⟩]) (
 .seq (
 .seq (
 .reg none [
 ⟨some 5, none, .mov (.t 0)⟩,
 ⟨some 6, none, .len (.t 5)⟩,
 ⟨some 7, none, .mov (.c (.int .i64 0))⟩]) (
 .block 0 (
 .loop b84_0))) (
 .seq (
 .reg none [
 ⟨some 2, none, .mov (.c (.int .i64 0))⟩]) (
 .ret)))
def a84 : AFunc := ⟨15, c84, [.tmp 2]⟩
def c85 : ACode :=
 .seq (
 .reg none [
 ⟨some 2, none, .mov (.c (.int .i64 0))⟩]) (
 .seq (
 .seq (
 .reg none [
 ⟨some 6, none, .mov (.t 0)⟩,
 ⟨some 7, none, .ncall true 0 41 [(.t 6)]⟩,
 ⟨some 5, none, .mov (.t 7)⟩,
 ⟨some 8, none, .ext 0 (.t 5)⟩,
 ⟨some 9, none, .ext 1 (.t 5)⟩,
 ⟨some 3, none, .mov (.t 8)⟩,
 ⟨some 4, none, .mov (.t 9)⟩]) (
 .gh [.keep [0, 4]] (
 .seq (
 .reg none [
 ⟨some 10, none, .mov (.t 4)⟩,
 ⟨some 11, none, .bin .neq (.t 10) (.c (.int .i64 0))⟩]) (
 .cond (.t 11) (
 .seq (
 .reg none [
 ⟨some 12, none, .mov (.t 4)⟩,
 ⟨some 2, none, .mov (.t 12)⟩]) (
 .ret)) (
 .skip))))) (
 .seq (
 .reg none [
 ⟨some 13, none, .mov (.t 0)⟩,
 ⟨some 14, none, .len (.t 13)⟩,
 ⟨some 15, none, .bin .gtr (.t 14) (.c (.int .i64 1))⟩,
 ⟨some 16, none, .ncall true 0 86 [(.t 15), (.c (.int .i64 10))]⟩,
 ⟨some 17, none, .mov (.t 0)⟩,
 ⟨some 18, none, .ncall true 0 107 [(.t 17)]⟩,
 ⟨some 19, none, .ncall true 0 86 [(.t 18), (.c (.int .i64 13))]⟩,
 ⟨some 20, none, .bslice 85021 28 1 [(.t 16), (.t 19)]⟩,
 ⟨some 21, none, .ncall true 0 84 [(.t 20)]⟩,
 ⟨some 2, none, .mov (.t 21)⟩]) (
 .gh [.keep [2]] (
 .ret))))
def a85 : AFunc := ⟨22, c85, [.tmp 2]⟩
def c86 : ACode :=
 .seq (
 .reg none [
 ⟨some 4, none, .mov (.c (.int .i64 0))⟩]) (
 .seq (
 .seq (
 .reg none [
 ⟨some 5, none, .mov (.t 0)⟩]) (
 .cond (.t 5) (
 .seq (
 .reg none [
 ⟨some 4, none, .mov (.c (.int .i64 0))⟩]) (
 .ret)) (
 .skip))) (
 .seq (
 .reg none [
 ⟨some 6, none, .mov (.t 1)⟩,
 ⟨some 4, none, .mov (.t 6)⟩]) (
 .ret)))
def a86 : AFunc := ⟨7, c86, [.tmp 4]⟩
def c87 : ACode :=
 .seq (
 .reg none [
 ⟨some 6, none, .mov (.c (.bool false))⟩]) (
 .seq (
 .reg none [
 ⟨some 7, none, .mov (.t 1)⟩,
 ⟨some 8, none, .mov (.t 0)⟩,
 ⟨some 9, none, .bin .leq (.t 7) (.t 8)⟩,
 ⟨some 10, none, .mov (.t 9)⟩,
 ⟨some 11, (some (10, true)), .mov (.t 0)⟩,
 ⟨some 12, (some (10, true)), .mov (.t 2)⟩,
 ⟨some 13, (some (10, true)), .bin .leq (.t 11) (.t 12)⟩,
 ⟨some 14, none, .pick (.t 10) (.t 13) (.c (.bool false))⟩,
 ⟨some 6, none, .mov (.t 14)⟩]) (
 .gh [.keep [6]] (
 .ret)))
def a87 : AFunc := ⟨15, c87, [.tmp 6]⟩
def c88 : ACode :=
 .seq (
 .reg none [
 ⟨some 1, none, .box 88002 38 (.t 0)⟩,
 ⟨some 2, none, .mov (.c (.val .nilFunc))⟩]) (
 .seq (
 .reg none [
 ⟨some 3, none, .mkfn 125 [(.t 1)]⟩,
 ⟨some 2, none, .mov (.t 3)⟩]) (
 .ret))
def a88 : AFunc := ⟨4, c88, [.tmp 2]⟩
def c89 : ACode :=
 .seq (
 .reg none [
 ⟨some 2, none, .box 89003 152 (.t 0)⟩,
 ⟨some 4, none, .mov (.c (.int .i64 0))⟩]) (
 .seq (
 .reg (some []) [
 ⟨some 5, none, .faddr 0 (.t 2)⟩,
 ⟨some 6, none, .faddr 1 (.t 5)⟩,
 ⟨some 7, none, .load false 1 (.t 6)⟩,
 ⟨some 8, none, .load true 4 (.t 2)⟩,
 ⟨some 9, none, .ncall true 0 91 [(.t 8)]⟩,
 ⟨some 10, none, .bin .mul (.t 7) (.t 9)⟩,
 ⟨some 11, none, .faddr 2 (.t 2)⟩,
 ⟨some 12, none, .faddr 1 (.t 11)⟩,
 ⟨some 13, none, .load false 1 (.t 12)⟩,
 ⟨some 14, none, .faddr 0 (.t 2)⟩,
 ⟨some 15, none, .faddr 1 (.t 14)⟩,
 ⟨some 16, none, .load false 1 (.t 15)⟩,
 ⟨some 17, none, .bin .sub (.t 13) (.t 16)⟩,
 ⟨some 18, none, .mov (.t 1)⟩,
 ⟨some 19, none, .faddr 0 (.t 2)⟩,
 ⟨some 20, none, .faddr 0 (.t 19)⟩,
 ⟨some 21, none, .load false 1 (.t 20)⟩,
 ⟨some 22, none, .bin .sub (.t 18) (.t 21)⟩,
 ⟨some 23, none, .bin .mul (.t 17) (.t 22)⟩,
 ⟨some 24, none, .bin .add (.t 10) (.t 23)⟩,
 ⟨some 4, none, .mov (.t 24)⟩]) (
 .gh [.keep [4]] (
 .ret)))
def a89 : AFunc := ⟨25, c89, [.tmp 4]⟩
def c90 : ACode :=
 .seq (
 .reg none [
 ⟨some 4, none, .mov (.c (.int .i64 0))⟩]) (
 .seq (
 .reg none [
 ⟨some 6, none, .mov (.t 0)⟩,
 ⟨some 7, none, .mov (.t 1)⟩,
 ⟨some 8, none, .bin .quo (.t 6) (.t 7)⟩,
 ⟨some 5, none, .mov (.t 8)⟩]) (
 .seq (
 .seq (
 .reg none [
 ⟨some 9, none, .mov (.t 0)⟩,
 ⟨some 10, none, .mov (.t 1)⟩,
 ⟨some 11, none, .bin .rem (.t 9) (.t 10)⟩,
 ⟨some 12, none, .bin .lss (.t 11) (.c (.int .i64 0))⟩]) (
 .cond (.t 12) (
 .reg none [
 ⟨some 13, none, .mov (.t 5)⟩,
 ⟨some 14, none, .bin .sub (.t 13) (.c (.int .i64 1))⟩,
 ⟨some 5, none, .mov (.t 14)⟩]) (
 .skip))) (
 .seq (
 .reg none [
 ⟨some 15, none, .mov (.t 5)⟩,
 ⟨some 4, none, .mov (.t 15)⟩]) (
 .ret))))
def a90 : AFunc := ⟨16, c90, [.tmp 4]⟩
def c91 : ACode :=
 .seq (
 .reg none [
 ⟨some 1, none, .box 91002 152 (.t 0)⟩,
 ⟨some 2, none, .mov (.c (.int .i64 0))⟩]) (
 .seq (
 .reg none [
 ⟨some 3, none, .faddr 2 (.t 1)⟩,
 ⟨some 4, none, .faddr 0 (.t 3)⟩,
 ⟨some 5, none, .load false 1 (.t 4)⟩,
 ⟨some 6, none, .faddr 0 (.t 1)⟩,
 ⟨some 7, none, .faddr 0 (.t 6)⟩,
 ⟨some 8, none, .load false 1 (.t 7)⟩,
 ⟨some 9, none, .bin .sub (.t 5) (.t 8)⟩,
 ⟨some 2, none, .mov (.t 9)⟩]) (
 .gh [.keep [2]] (
 .ret)))
def a91 : AFunc := ⟨10, c91, [.tmp 2]⟩
def c93 : ACode :=
 .seq (
 .reg none [
 ⟨some 2, none, .mov (.c (.bool false))⟩]) (
 .seq (
 .reg none [
 ⟨some 3, none, .mov (.t 0)⟩,
 ⟨some 4, none, .ncall true 0 87 [(.t 3), (.c (.int .i64 0)), (.c (.int .i64 255))]⟩,
 ⟨some 2, none, .mov (.t 4)⟩]) (
 .ret))
def a93 : AFunc := ⟨5, c93, [.tmp 2]⟩
def c94 : ACode :=
 .seq (
 .reg none [
 ⟨some 2, none, .mov (.c (.int .i64 0))⟩]) (
 .seq (
 .reg none [
 ⟨some 3, none, .mov (.t 0)⟩,
 ⟨some 4, none, .ncall true 0 127 [(.t 3), (.c (.fn 128 []))]⟩,
 ⟨some 2, none, .mov (.t 4)⟩]) (
 .ret))
def a94 : AFunc := ⟨5, c94, [.tmp 2]⟩
def c95 : ACode :=
 .seq (
 .reg none [
 ⟨some 1, none, .box 95002 23 (.t 0)⟩,
 ⟨some 2, none, .alloc 95003 132 (.agg (.gen [(.int .i64 0), (.int .i64 0)]))⟩,
 ⟨some 3, none, .mov (.c (.int .i64 0))⟩]) (
 .seq (
 .reg (some []) [
 ⟨some 4, none, .load true 2 (.t 1)⟩,
 ⟨some 5, none, .build (.gen [(.int .i64 0), (.int .i64 0)]) [(0, 2, (.t 4))]⟩,
 ⟨some 6, none, .load true 2 (.t 1)⟩,
 ⟨some 7, none, .ncall true 0 63 [(.t 6)]⟩,
 ⟨none, none, .store 2 (.t 2) (.t 5)⟩,
 ⟨some 3, none, .mov (.t 7)⟩]) (
 .ret))
def a95 : AFunc := ⟨8, c95, [.cell 2 true 2, .tmp 3]⟩
def c96 : ACode :=
 .seq (
 .reg none [
 ⟨some 2, none, .mov (.c (.int .i64 0))⟩]) (
 .seq (
 .reg none [
 ⟨some 3, none, .mov (.t 0)⟩,
 ⟨some 4, none, .len (.t 3)⟩,
 ⟨some 5, none, .bin .leq (.t 4) (.c (.int .i64 20))⟩,
 ⟨some 6, none, .ncall true 0 86 [(.t 5), (.c (.int .i64 8))]⟩,
 ⟨some 7, none, .mov (.t 0)⟩,
 ⟨some 8, none, .ncall true 0 129 [(.t 7), (.c (.fn 30 []))]⟩,
 ⟨some 9, none, .bslice 96010 28 1 [(.t 6), (.t 8)]⟩,
 ⟨some 10, none, .ncall true 0 84 [(.t 9)]⟩,
 ⟨some 2, none, .mov (.t 10)⟩]) (
 .gh [.keep [2]] (
 .ret)))
def a96 : AFunc := ⟨11, c96, [.tmp 2]⟩
def l97_0 : ACode :=
 .seq (
 .reg none [
 ⟨some 9, none, .bin .lss (.t 8) (.t 7)⟩]) (
 .seq (
 .cond (.t 9) (
 .skip) (
 .exit 0)) (
 .seq (
 .block 1 (
 .seq (
 .reg none [
 ⟨some 10, none, .iaddr 3 (.t 6) (.t 8)⟩,
 ⟨some 11, none, .load true 3 (.t 10)⟩,
 ⟨some 5, none, .alloc 97006 57 (.agg (.gen [(.int .i64 0), (.int .i64 0), .nils]))⟩,
 ⟨none, none, .store 3 (.t 5) (.t 11)⟩]) (
 .seq (
 .reg none [
 ⟨some 12, none, .mov (.t 3)⟩,
 ⟨some 13, none, .mov (.t 2)⟩,
 ⟨some 14, none, .len (.t 13)⟩,
 ⟨some 15, none, .bslice 97016 3 1 [(.t 14)]⟩,
 ⟨some 16, none, .append 97017 3 1 (.t 12) (.t 15)⟩,
 ⟨some 3, none, .mov (.t 16)⟩]) (
 .seq (
 .reg none [
 ⟨some 17, none, .mov (.t 2)⟩,
 ⟨some 18, none, .faddr 0 (.t 5)⟩,
 ⟨some 19, none, .load false 1 (.t 18)⟩,
 ⟨some 20, none, .faddr 1 (.t 5)⟩,
 ⟨some 21, none, .load false 1 (.t 20)⟩,
 ⟨some 22, none, .faddr 2 (.t 5)⟩,
 ⟨some 23, none, .load false 1 (.t 22)⟩,
 ⟨some 24, none, .len (.t 23)⟩,
 ⟨some 25, none, .bslice 97026 3 1 [(.t 19), (.t 21), (.t 24)]⟩,
 ⟨some 26, none, .append 97027 3 1 (.t 17) (.t 25)⟩,
 ⟨some 2, none, .mov (.t 26)⟩]) (
 .gh [.keep [2, 3, 5, 6, 7, 8]] (
 .reg none [
 ⟨some 27, none, .mov (.t 2)⟩,
 ⟨some 28, none, .faddr 2 (.t 5)⟩,
 ⟨some 29, none, .load false 1 (.t 28)⟩,
 ⟨some 30, none, .append 97031 3 1 (.t 27) (.t 29)⟩,
 ⟨some 2, none, .mov (.t 30)⟩])))))) (
 .reg none [
 ⟨some 31, none, .bin .add (.t 8) (.c (.int .i64 1))⟩,
 ⟨some 8, none, .mov (.t 31)⟩])))
def b97_0 : ACode := .gh [.keep [2, 3, 6, 7, 8]] (.gh [] l97_0)
def c97 : ACode :=
 .seq (
 .reg none [
 ⟨some 2, none, .mov (.c .nils)⟩,
 ⟨some 3, none, .mov (.c .nils)⟩]) (
 .seq (
 .seq (
 .reg none [
 ⟨some 6, none, .mov (.t 0)⟩,
 ⟨some 7, none, .len (.t 6)⟩,
 ⟨some 8, none, .mov (.c (.int .i64 0))⟩]) (
 .block 0 (
 .loop b97_0))) (
 .seq (
 .reg none [
 ⟨some 32, none, .mov (.t 2)⟩,
 ⟨some 33, none, .mov (.t 3)⟩,
 ⟨some 2, none, .mov (.t 32)⟩,
 ⟨some 3, none, .mov (.t 33)⟩]) (
 .ret)))
def a97 : AFunc := ⟨34, c97, [.tmp 2, .tmp 3]⟩
def l98_0 : ACode :=
 .seq (
 .reg none [
 ⟨some 13, none, .bin .lss (.t 12) (.t 11)⟩]) (
 .seq (
 .cond (.t 13) (
 .skip) (
 .exit 0)) (
 .seq (
 .block 1 (
 .seq (
 .reg none [
 ⟨some 14, none, .iaddr 3 (.t 10) (.t 12)⟩,
 ⟨some 15, none, .load true 3 (.t 14)⟩,
 ⟨some 7, none, .alloc 98008 57 (.agg (.gen [(.int .i64 0), (.int .i64 0), .nils]))⟩,
 ⟨none, none, .store 3 (.t 7) (.t 15)⟩]) (
 .reg none [
 ⟨some 16, none, .mov (.t 5)⟩,
 ⟨some 17, none, .faddr 2 (.t 7)⟩,
 ⟨some 18, none, .load false 1 (.t 17)⟩,
 ⟨some 19, none, .len (.t 18)⟩,
 ⟨some 20, none, .bin .add (.c (.int .i64 3)) (.t 19)⟩,
 ⟨some 21, none, .bin .add (.t 16) (.t 20)⟩,
 ⟨some 5, none, .mov (.t 21)⟩]))) (
 .reg none [
 ⟨some 22, none, .bin .add (.t 12) (.c (.int .i64 1))⟩,
 ⟨some 12, none, .mov (.t 22)⟩])))
def b98_0 : ACode := .gh [.keep [1, 2, 5, 10, 11, 12]] (.gh [] l98_0)
def c98 : ACode :=
 .seq (
 .reg none [
 ⟨some 2, none, .box 98003 132 (.t 0)⟩,
 ⟨some 4, none, .mov (.c .nils)⟩]) (
 .seq (
 .reg none [
 ⟨some 5, none, .mov (.c (.int .i64 0))⟩]) (
 .seq (
 .seq (
 .reg none [
 ⟨some 10, none, .mov (.t 1)⟩,
 ⟨some 11, none, .len (.t 10)⟩,
 ⟨some 12, none, .mov (.c (.int .i64 0))⟩]) (
 .block 0 (
 .loop b98_0))) (
 .seq (
 .reg none [
 ⟨some 23, none, .mov (.t 5)⟩,
 ⟨some 24, none, .faddr 0 (.t 2)⟩,
 ⟨some 25, none, .faddr 0 (.t 24)⟩,
 ⟨some 26, none, .load false 1 (.t 25)⟩,
 ⟨some 27, none, .bin .rem (.t 23) (.t 26)⟩,
 ⟨some 8, none, .mov (.t 27)⟩]) (
 .seq (
 .seq (
 .reg none [
 ⟨some 28, none, .mov (.t 8)⟩,
 ⟨some 29, none, .bin .eql (.t 28) (.c (.int .i64 0))⟩]) (
 .cond (.t 29) (
 .seq (
 .reg none [
 ⟨some 30, none, .mov (.t 1)⟩,
 ⟨some 4, none, .mov (.t 30)⟩]) (
 .ret)) (
 .skip))) (
 .seq (
 .reg none [
 ⟨some 31, none, .faddr 0 (.t 2)⟩,
 ⟨some 32, none, .faddr 0 (.t 31)⟩,
 ⟨some 33, none, .load false 1 (.t 32)⟩,
 ⟨some 34, none, .mov (.t 8)⟩,
 ⟨some 35, none, .bin .sub (.t 33) (.t 34)⟩,
 ⟨some 9, none, .mov (.t 35)⟩]) (
 .seq (
 .seq (
 .reg none [
 ⟨some 36, none, .mov (.t 9)⟩,
 ⟨some 37, none, .bin .lss (.t 36) (.c (.int .i64 3))⟩]) (
 .cond (.t 37) (
 .reg none [
 ⟨some 38, none, .mov (.t 9)⟩,
 ⟨some 39, none, .faddr 0 (.t 2)⟩,
 ⟨some 40, none, .faddr 0 (.t 39)⟩,
 ⟨some 41, none, .load false 1 (.t 40)⟩,
 ⟨some 42, none, .bin .add (.t 38) (.t 41)⟩,
 ⟨some 9, none, .mov (.t 42)⟩]) (
 .skip))) (
 .seq (
 .reg (some [(0, 4), (0, 6), (1, 2), (1, 3), (1, 4), (1, 5), (1, 6)]) [
 ⟨some 43, none, .mov (.t 1)⟩,
 ⟨some 44, none, .ncall true 98045 130 [(.t 43)]⟩,
 ⟨some 45, none, .mov (.t 9)⟩,
 ⟨some 46, none, .bin .sub (.t 45) (.c (.int .i64 3))⟩,
 ⟨some 47, none, .mklst 98048 3 1 (.int .i64 0) (.t 46)⟩,
 ⟨some 48, none, .build (.gen [(.int .i64 0), (.int .i64 0), .nils]) [(0, 1, (.c (.int .i64 255))), (2, 1, (.t 47))]⟩,
 ⟨some 49, none, .bslice 98050 57 3 [(.t 48)]⟩,
 ⟨some 50, none, .append 98051 57 3 (.t 44) (.t 49)⟩,
 ⟨some 4, none, .mov (.t 50)⟩]) (
 .gh [.keep [4]] (
 .ret)))))))))
def a98 : AFunc := ⟨51, c98, [.tmp 4]⟩
def c99 : ACode :=
 .seq (
 .reg none [
 ⟨some 2, none, .box 99003 23 (.t 0)⟩,
 ⟨some 4, none, .alloc 99005 132 (.agg (.gen [(.int .i64 0), (.int .i64 0)]))⟩,
 ⟨some 5, none, .mov (.c (.int .i64 0))⟩]) (
 .seq (
 .reg none [
 ⟨some 9, none, .load true 2 (.t 2)⟩,
 ⟨some 10, none, .ncall true 0 95 [(.t 9)]⟩,
 ⟨some 8, none, .mov (.t 10)⟩,
 ⟨some 11, none, .ext 0 (.t 8)⟩,
 ⟨some 12, none, .ext 1 (.t 8)⟩,
 ⟨some 6, none, .alloc 99007 132 (.agg (.gen [(.int .i64 0), (.int .i64 0)]))⟩,
 ⟨none, none, .store 2 (.t 6) (.t 11)⟩,
 ⟨some 7, none, .mov (.t 12)⟩]) (
 .seq (
 .reg (some [(0, 5)]) [
 ⟨some 13, none, .load true 2 (.t 6)⟩,
 ⟨some 14, none, .mov (.t 7)⟩,
 ⟨some 15, none, .load true 2 (.t 6)⟩,
 ⟨some 16, none, .mov (.t 1)⟩,
 ⟨some 17, none, .ncall true 0 131 [(.t 15), (.t 16)]⟩,
 ⟨some 18, none, .bslice 99019 28 1 [(.t 14), (.t 17)]⟩,
 ⟨some 19, none, .ncall true 0 84 [(.t 18)]⟩,
 ⟨none, none, .store 2 (.t 4) (.t 13)⟩,
 ⟨some 5, none, .mov (.t 19)⟩]) (
 .gh [.keep [4, 5]] (
 .ret))))
def a99 : AFunc := ⟨20, c99, [.cell 4 true 2, .tmp 5]⟩
def c100 : ACode :=
 .seq (
 .reg none [
 ⟨some 2, none, .mov (.c (.bool false))⟩]) (
 .seq (
 .reg none [
 ⟨some 3, none, .mov (.t 0)⟩,
 ⟨some 4, none, .ncall true 0 87 [(.t 3), (.c (.int .i64 0)), (.c (.int .i64 63))]⟩,
 ⟨some 2, none, .mov (.t 4)⟩]) (
 .ret))
def a100 : AFunc := ⟨5, c100, [.tmp 2]⟩
def c101 : ACode :=
 .seq (
 .reg none [
 ⟨some 2, none, .box 101003 55 (.t 0)⟩,
 ⟨some 3, none, .box 101004 3 (.t 1)⟩,
 ⟨some 4, none, .mov (.c (.val .nilFunc))⟩]) (
 .seq (
 .seq (
 .reg none [
 ⟨some 5, none, .load false 1 (.t 3)⟩,
 ⟨some 6, none, .bin .lss (.t 5) (.c (.int .i64 1))⟩]) (
 .cond (.t 6) (
 .junk /- op makeInterface -/) (
 .skip))) (
 .seq (
 .reg none [
 ⟨some 8, none, .mkfn 132 [(.t 2), (.t 3)]⟩,
 ⟨some 4, none, .mov (.t 8)⟩]) (
 .ret)))
def a101 : AFunc := ⟨9, c101, [.tmp 4]⟩
def c102 : ACode :=
 .seq (
 .reg none [
 ⟨some 2, none, .mov (.c .nils)⟩]) (
 .seq (
 .seq (
 .reg none [
 ⟨some 3, none, .mov (.t 0)⟩,
 ⟨some 4, none, .isnil false (.t 3)⟩]) (
 .cond (.t 4) (
 .seq (
 .reg none [
 ⟨some 2, none, .mov (.c .nils)⟩]) (
 .ret)) (
 .skip))) (
 .seq (
 .reg none [
 ⟨some 5, none, .bslice 102006 3 1 []⟩,
 ⟨some 6, none, .mov (.t 0)⟩,
 ⟨some 7, none, .append 102008 3 1 (.t 5) (.t 6)⟩,
 ⟨some 2, none, .mov (.t 7)⟩]) (
 .ret)))
def a102 : AFunc := ⟨8, c102, [.tmp 2]⟩
def l103_0 : ACode :=
 .seq (
 .seq (
 .reg none [
 ⟨some 13, none, .mov (.t 7)⟩,
 ⟨some 14, none, .mov (.t 8)⟩,
 ⟨some 15, none, .bin .lss (.t 13) (.t 14)⟩]) (
 .cond (.t 15) (
 .skip) (
 .exit 0))) (
 .block 1 (
 .seq (
 .reg none [
 ⟨some 16, none, .mov (.t 7)⟩,
 ⟨some 17, none, .mov (.t 8)⟩,
 ⟨some 18, none, .bin .add (.t 16) (.t 17)⟩,
 ⟨some 19, none, .conv .u64 (.t 18)⟩,
 ⟨some 20, none, .bin .shr (.t 19) (.c (.int .u64 1))⟩,
 ⟨some 21, none, .conv .i64 (.t 20)⟩,
 ⟨some 9, none, .mov (.t 21)⟩]) (
 .gh [.keep [0, 1, 6, 7, 8, 9]] (
 .seq (
 .reg none [
 ⟨some 22, none, .mov (.t 0)⟩,
 ⟨some 23, none, .mov (.t 9)⟩,
 ⟨some 24, none, .iaddr 1 (.t 22) (.t 23)⟩,
 ⟨some 25, none, .load false 1 (.t 24)⟩,
 ⟨some 26, none, .mov (.t 1)⟩,
 ⟨some 27, none, .ncall true 0 133 [(.t 25), (.t 26)]⟩]) (
 .cond (.t 27) (
 .reg none [
 ⟨some 28, none, .mov (.t 9)⟩,
 ⟨some 29, none, .bin .add (.t 28) (.c (.int .i64 1))⟩,
 ⟨some 7, none, .mov (.t 29)⟩]) (
 .reg none [
 ⟨some 30, none, .mov (.t 9)⟩,
 ⟨some 8, none, .mov (.t 30)⟩]))))))
def b103_0 : ACode := .gh [.keep [0, 1, 6, 7, 8]] (.gh [] l103_0)
def c103 : ACode :=
 .seq (
 .reg none [
 ⟨some 4, none, .mov (.c (.int .i64 0))⟩,
 ⟨some 5, none, .mov (.c (.bool false))⟩]) (
 .seq (
 .reg none [
 ⟨some 10, none, .mov (.t 0)⟩,
 ⟨some 11, none, .len (.t 10)⟩,
 ⟨some 6, none, .mov (.t 11)⟩]) (
 .seq (
 .reg none [
 ⟨some 12, none, .mov (.t 6)⟩,
 ⟨some 7, none, .mov (.c (.int .i64 0))⟩,
 ⟨some 8, none, .mov (.t 12)⟩]) (
 .seq (
 .block 0 (
 .loop b103_0)) (
 .seq (
 .reg none [
 ⟨some 31, none, .mov (.t 7)⟩,
 ⟨some 32, none, .mov (.t 7)⟩,
 ⟨some 33, none, .mov (.t 6)⟩,
 ⟨some 34, none, .bin .lss (.t 32) (.t 33)⟩,
 ⟨some 35, none, .mov (.t 34)⟩,
 ⟨some 36, (some (35, true)), .mov (.t 0)⟩,
 ⟨some 37, (some (35, true)), .mov (.t 7)⟩,
 ⟨some 38, (some (35, true)), .iaddr 1 (.t 36) (.t 37)⟩,
 ⟨some 39, (some (35, true)), .load false 1 (.t 38)⟩,
 ⟨some 40, (some (35, true)), .mov (.t 1)⟩,
 ⟨some 41, (some (35, true)), .bin .eql (.t 39) (.t 40)⟩,
 ⟨some 42, (some (35, true)), .mov (.t 41)⟩,
 ⟨some 43, (some (42, false)), .mov (.t 0)⟩,
 ⟨some 44, (some (42, false)), .mov (.t 7)⟩,
 ⟨some 45, (some (42, false)), .iaddr 1 (.t 43) (.t 44)⟩,
 ⟨some 46, (some (42, false)), .load false 1 (.t 45)⟩,
 ⟨some 47, (some (42, false)), .ncall true 0 134 [(.t 46)]⟩,
 ⟨some 48, (some (42, false)), .mov (.t 47)⟩,
 ⟨some 49, (some (48, true)), .mov (.t 1)⟩,
 ⟨some 50, (some (48, true)), .ncall true 0 134 [(.t 49)]⟩,
 ⟨some 51, (some (42, false)), .pick (.t 48) (.t 50) (.c (.bool false))⟩,
 ⟨some 52, (some (35, true)), .pick (.t 42) (.c (.bool true)) (.t 51)⟩,
 ⟨some 53, none, .pick (.t 35) (.t 52) (.c (.bool false))⟩,
 ⟨some 4, none, .mov (.t 31)⟩,
 ⟨some 5, none, .mov (.t 53)⟩]) (
 .gh [.keep [4, 5]] (
 .ret))))))
def a103 : AFunc := ⟨54, c103, [.tmp 4, .tmp 5]⟩
def c105 : ACode :=
 .seq (
 .reg none [
 ⟨some 2, none, .mov (.c (.bool false))⟩]) (
 .seq (
 .reg none [
 ⟨some 3, none, .mov (.t 0)⟩,
 ⟨some 4, none, .ncall true 0 87 [(.t 3), (.c (.int .i64 0)), (.c (.int .i64 1000000000000))]⟩,
 ⟨some 2, none, .mov (.t 4)⟩]) (
 .ret))
def a105 : AFunc := ⟨5, c105, [.tmp 2]⟩
def l106_1 : ACode :=
 .seq (
 .reg none [
 ⟨some 24, none, .bin .lss (.t 23) (.t 22)⟩]) (
 .seq (
 .cond (.t 24) (
 .skip) (
 .exit 2)) (
 .seq (
 .block 3 (
 .seq (
 .reg none [
 ⟨some 25, none, .iaddr 3 (.t 21) (.t 23)⟩,
 ⟨some 26, none, .load true 3 (.t 25)⟩,
 ⟨some 8, none, .alloc 106009 49 (.agg (.gen [(.int .i64 0), (.int .i64 0), (.int .i64 0)]))⟩,
 ⟨none, none, .store 3 (.t 8) (.t 26)⟩]) (
 .seq (
 .reg none [
 ⟨some 27, none, .faddr 0 (.t 6)⟩,
 ⟨some 28, none, .load false 1 (.t 27)⟩,
 ⟨some 29, none, .faddr 0 (.t 8)⟩,
 ⟨some 30, none, .load false 1 (.t 29)⟩,
 ⟨some 31, none, .bin .sub (.t 28) (.t 30)⟩,
 ⟨some 9, none, .mov (.t 31)⟩]) (
 .seq (
 .reg (some [(0, 18), (0, 19), (1, 18), (1, 19), (2, 18), (2, 19), (3, 18), (3, 19), (4, 18), (4, 19), (5, 18), (5, 19), (6, 18), (6, 19), (7, 18), (7, 19), (8, 18), (8, 19), (9, 18), (9, 19), (10, 18), (10, 19), (11, 18), (11, 19), (12, 18), (12, 19), (13, 18), (13, 19), (14, 18), (14, 19), (15, 18), (15, 19), (16, 18), (16, 19), (17, 18), (17, 19), (18, 19)]) [
 ⟨some 32, none, .faddr 1 (.t 6)⟩,
 ⟨some 33, none, .faddr 0 (.t 32)⟩,
 ⟨some 34, none, .load false 1 (.t 33)⟩,
 ⟨some 35, none, .faddr 1 (.t 8)⟩,
 ⟨some 36, none, .faddr 1 (.t 35)⟩,
 ⟨some 37, none, .load false 1 (.t 36)⟩,
 ⟨some 38, none, .bin .sub (.t 34) (.t 37)⟩,
 ⟨some 39, none, .mov (.t 9)⟩,
 ⟨some 40, none, .ncall true 0 114 [(.t 38), (.t 39)]⟩,
 ⟨some 41, none, .faddr 1 (.t 6)⟩,
 ⟨some 42, none, .faddr 1 (.t 41)⟩,
 ⟨some 43, none, .load false 1 (.t 42)⟩,
 ⟨some 44, none, .faddr 1 (.t 8)⟩,
 ⟨some 45, none, .faddr 0 (.t 44)⟩,
 ⟨some 46, none, .load false 1 (.t 45)⟩,
 ⟨some 47, none, .bin .sub (.t 43) (.t 46)⟩,
 ⟨some 48, none, .mov (.t 9)⟩,
 ⟨some 49, none, .ncall true 0 114 [(.t 47), (.t 48)]⟩,
 ⟨some 10, none, .alloc 106011 79 (.agg (.gen [(.int .i64 0), (.int .i64 0)]))⟩,
 ⟨some 11, none, .alloc 106012 79 (.agg (.gen [(.int .i64 0), (.int .i64 0)]))⟩,
 ⟨none, none, .store 2 (.t 10) (.t 40)⟩,
 ⟨none, none, .store 2 (.t 11) (.t 49)⟩]) (
 .gh [.keep [0, 2, 3, 4, 6, 10, 11, 12, 13, 14, 21, 22, 23]] (
 .seq (
 .seq (
 .reg none [
 ⟨some 50, none, .mov (.t 4)⟩,
 ⟨some 51, none, .not (.t 50)⟩,
 ⟨some 52, none, .mov (.t 51)⟩,
 ⟨some 53, (some (52, false)), .aaddr 2 2 (.t 3) (.c (.int .i64 0))⟩,
 ⟨some 54, (some (52, false)), .load true 2 (.t 53)⟩,
 ⟨some 55, (some (52, false)), .load true 2 (.t 10)⟩,
 ⟨some 56, (some (52, false)), .ncall true 0 135 [(.t 54), (.t 55)]⟩,
 ⟨some 57, none, .pick (.t 52) (.c (.bool true)) (.t 56)⟩]) (
 .gh [.keep [0, 2, 3, 4, 6, 10, 11, 12, 13, 14, 21, 22, 23, 57]] (
 .cond (.t 57) (
 .reg none [
 ⟨some 58, none, .load true 2 (.t 10)⟩,
 ⟨some 59, none, .aaddr 2 2 (.t 3) (.c (.int .i64 0))⟩,
 ⟨none, none, .store 2 (.t 59) (.t 58)⟩]) (
 .skip)))) (
 .seq (
 .seq (
 .reg none [
 ⟨some 60, none, .mov (.t 4)⟩,
 ⟨some 61, none, .not (.t 60)⟩,
 ⟨some 62, none, .mov (.t 61)⟩,
 ⟨some 63, (some (62, false)), .load true 2 (.t 11)⟩,
 ⟨some 64, (some (62, false)), .aaddr 2 2 (.t 3) (.c (.int .i64 1))⟩,
 ⟨some 65, (some (62, false)), .load true 2 (.t 64)⟩,
 ⟨some 66, (some (62, false)), .ncall true 0 135 [(.t 63), (.t 65)]⟩,
 ⟨some 67, none, .pick (.t 62) (.c (.bool true)) (.t 66)⟩]) (
 .gh [.keep [0, 2, 3, 6, 11, 12, 13, 14, 21, 22, 23, 67]] (
 .cond (.t 67) (
 .reg none [
 ⟨some 68, none, .load true 2 (.t 11)⟩,
 ⟨some 69, none, .aaddr 2 2 (.t 3) (.c (.int .i64 1))⟩,
 ⟨none, none, .store 2 (.t 69) (.t 68)⟩]) (
 .skip)))) (
 .reg none [
 ⟨some 4, none, .mov (.c (.bool true))⟩])))))))) (
 .reg none [
 ⟨some 70, none, .bin .add (.t 23) (.c (.int .i64 1))⟩,
 ⟨some 23, none, .mov (.t 70)⟩])))
def b106_1 : ACode := .gh [.keep [0, 2, 3, 4, 6, 12, 13, 14, 21, 22, 23]] (.gh [] l106_1)
def l106_0 : ACode :=
 .seq (
 .reg none [
 ⟨some 15, none, .bin .lss (.t 14) (.t 13)⟩]) (
 .seq (
 .cond (.t 15) (
 .skip) (
 .exit 0)) (
 .seq (
 .block 1 (
 .seq (
 .reg none [
 ⟨some 16, none, .mov (.t 14)⟩,
 ⟨some 17, none, .iaddr 3 (.t 12) (.t 14)⟩,
 ⟨some 18, none, .load true 3 (.t 17)⟩,
 ⟨some 6, none, .alloc 106007 49 (.agg (.gen [(.int .i64 0), (.int .i64 0), (.int .i64 0)]))⟩,
 ⟨some 5, none, .mov (.t 16)⟩,
 ⟨none, none, .store 3 (.t 6) (.t 18)⟩]) (
 .seq (
 .reg none [
 ⟨some 19, none, .mov (.t 0)⟩,
 ⟨some 20, none, .mov (.t 5)⟩,
 ⟨some 21, none, .slc 3 (.t 19) none (some (.t 20)) none⟩,
 ⟨some 22, none, .len (.t 21)⟩,
 ⟨some 23, none, .mov (.c (.int .i64 0))⟩]) (
 .block 2 (
 .loop b106_1))))) (
 .reg none [
 ⟨some 71, none, .bin .add (.t 14) (.c (.int .i64 1))⟩,
 ⟨some 14, none, .mov (.t 71)⟩])))
def b106_0 : ACode := .gh [.keep [0, 2, 3, 4, 12, 13, 14]] (.gh [] l106_0)
def k106_1 : List AItem := .inLoop b106_1 :: [.inBlock 2,
 .inBlock 1,
 .code (.reg none [
 ⟨some 71, none, .bin .add (.t 14) (.c (.int .i64 1))⟩,
 ⟨some 14, none, .mov (.t 71)⟩]),
 .inLoop b106_0,
 .inBlock 0,
 .code (.seq (
 .reg none [
 ⟨some 72, none, .load true 4 (.t 3)⟩,
 ⟨none, none, .store 4 (.t 2) (.t 72)⟩]) (
 .ret))]
def k106_0 : List AItem := .inLoop b106_0 :: [.inBlock 0,
 .code (.seq (
 .reg none [
 ⟨some 72, none, .load true 4 (.t 3)⟩,
 ⟨none, none, .store 4 (.t 2) (.t 72)⟩]) (
 .ret))]
def c106 : ACode :=
 .seq (
 .reg none [
 ⟨some 2, none, .alloc 106003 80 (.agg (.ints .i64 [0, 0, 0, 0]))⟩]) (
 .seq (
 .reg none [
 ⟨some 3, none, .alloc 106004 80 (.agg (.ints .i64 [0, 0, 0, 0]))⟩]) (
 .seq (
 .reg none [
 ⟨some 4, none, .mov (.c (.bool false))⟩]) (
 .seq (
 .seq (
 .reg none [
 ⟨some 12, none, .mov (.t 0)⟩,
 ⟨some 13, none, .len (.t 12)⟩,
 ⟨some 14, none, .mov (.c (.int .i64 0))⟩]) (
 .block 0 (
 .loop b106_0))) (
 .seq (
 .reg none [
 ⟨some 72, none, .load true 4 (.t 3)⟩,
 ⟨none, none, .store 4 (.t 2) (.t 72)⟩]) (
 .ret)))))
def a106 : AFunc := ⟨73, c106, [.cell 2 true 4]⟩
def c107 : ACode :=
 .seq (
 .reg none [
 ⟨some 2, none, .mov (.c (.bool false))⟩]) (
 .seq (
 .seq (
 .reg none [
 ⟨some 4, none, .mov (.t 0)⟩,
 ⟨some 5, none, .len (.t 4)⟩,
 ⟨some 6, none, .bin .lss (.t 5) (.c (.int .i64 2))⟩]) (
 .cond (.t 6) (
 .seq (
 .reg none [
 ⟨some 2, none, .mov (.c (.bool true))⟩]) (
 .ret)) (
 .skip))) (
 .seq (
 .reg none [
 ⟨some 7, none, .mov (.t 0)⟩,
 ⟨some 8, none, .ncall true 0 106 [(.t 7)]⟩,
 ⟨some 3, none, .alloc 107004 80 (.agg (.ints .i64 [0, 0, 0, 0]))⟩,
 ⟨none, none, .store 4 (.t 3) (.t 8)⟩]) (
 .seq (
 .reg none [
 ⟨some 9, none, .aaddr 2 2 (.t 3) (.c (.int .i64 1))⟩,
 ⟨some 10, none, .load true 2 (.t 9)⟩,
 ⟨some 11, none, .aaddr 2 2 (.t 3) (.c (.int .i64 0))⟩,
 ⟨some 12, none, .load true 2 (.t 11)⟩,
 ⟨some 13, none, .ncall true 0 135 [(.t 10), (.t 12)]⟩,
 ⟨some 14, none, .not (.t 13)⟩,
 ⟨some 2, none, .mov (.t 14)⟩]) (
 .gh [.keep [2]] (
 .ret)))))
def a107 : AFunc := ⟨15, c107, [.tmp 2]⟩
def l108_0 : ACode :=
 .seq (
 .seq (
 .reg none [
 ⟨some 5, none, .mov (.t 1)⟩,
 ⟨some 6, none, .bin .neq (.t 5) (.c (.int .i64 0))⟩]) (
 .cond (.t 6) (
 .skip) (
 .exit 0))) (
 .block 1 (
 .reg (some []) [
 ⟨some 7, none, .mov (.t 1)⟩,
 ⟨some 8, none, .mov (.t 0)⟩,
 ⟨some 9, none, .mov (.t 1)⟩,
 ⟨some 10, none, .bin .rem (.t 8) (.t 9)⟩,
 ⟨some 0, none, .mov (.t 7)⟩,
 ⟨some 1, none, .mov (.t 10)⟩]))
def b108_0 : ACode := .gh [.keep [0, 1]] (.gh [] l108_0)
def k108_0 : List AItem := .inLoop b108_0 :: [.inBlock 0,
 .code (.seq (
 .reg none [
 ⟨some 11, none, .mov (.t 0)⟩,
 ⟨some 12, none, .ncall true 0 70 [(.t 11)]⟩,
 ⟨some 4, none, .mov (.t 12)⟩]) (
 .ret))]
def c108 : ACode :=
 .seq (
 .reg none [
 ⟨some 4, none, .mov (.c (.int .i64 0))⟩]) (
 .seq (
 .block 0 (
 .loop b108_0)) (
 .seq (
 .reg none [
 ⟨some 11, none, .mov (.t 0)⟩,
 ⟨some 12, none, .ncall true 0 70 [(.t 11)]⟩,
 ⟨some 4, none, .mov (.t 12)⟩]) (
 .ret)))
def a108 : AFunc := ⟨13, c108, [.tmp 4]⟩
def l109_0 : ACode :=
 .seq (
 .reg none [
 ⟨some 10, none, .bin .lss (.t 9) (.t 8)⟩]) (
 .seq (
 .cond (.t 10) (
 .skip) (
 .exit 0)) (
 .seq (
 .block 1 (
 .seq (
 .reg none [
 ⟨some 11, none, .iaddr 1 (.t 7) (.t 9)⟩,
 ⟨some 12, none, .load false 1 (.t 11)⟩,
 ⟨some 5, none, .mov (.t 12)⟩]) (
 .seq (
 .reg none [
 ⟨some 13, none, .aaddr 2 1 (.t 3) (.c (.int .i64 0))⟩,
 ⟨some 14, none, .load false 1 (.t 13)⟩,
 ⟨some 15, none, .mov (.t 5)⟩,
 ⟨some 16, none, .bin .add (.t 14) (.t 15)⟩,
 ⟨some 17, none, .bin .rem (.t 16) (.c (.int .i64 251))⟩,
 ⟨some 18, none, .aaddr 2 1 (.t 3) (.c (.int .i64 0))⟩,
 ⟨none, none, .store 1 (.t 18) (.t 17)⟩]) (
 .gh [.keep [2, 3, 7, 8, 9]] (
 .reg none [
 ⟨some 19, none, .aaddr 2 1 (.t 3) (.c (.int .i64 1))⟩,
 ⟨some 20, none, .load false 1 (.t 19)⟩,
 ⟨some 21, none, .aaddr 2 1 (.t 3) (.c (.int .i64 0))⟩,
 ⟨some 22, none, .load false 1 (.t 21)⟩,
 ⟨some 23, none, .bin .add (.t 20) (.t 22)⟩,
 ⟨some 24, none, .bin .rem (.t 23) (.c (.int .i64 251))⟩,
 ⟨some 25, none, .aaddr 2 1 (.t 3) (.c (.int .i64 1))⟩,
 ⟨none, none, .store 1 (.t 25) (.t 24)⟩]))))) (
 .reg none [
 ⟨some 26, none, .bin .add (.t 9) (.c (.int .i64 1))⟩,
 ⟨some 9, none, .mov (.t 26)⟩])))
def b109_0 : ACode := .gh [.keep [2, 3, 7, 8, 9]] (.gh [] l109_0)
def c109 : ACode :=
 .seq (
 .reg none [
 ⟨some 2, none, .alloc 109003 118 (.agg (.ints .i64 [0, 0]))⟩]) (
 .seq (
 .reg none [
 ⟨some 6, none, .build (.ints .i64 [0, 0]) [(0, 1, (.c (.int .i64 1))), (1, 1, (.c (.int .i64 0)))]⟩,
 ⟨some 3, none, .alloc 109004 118 (.agg (.ints .i64 [0, 0]))⟩,
 ⟨none, none, .store 2 (.t 3) (.t 6)⟩]) (
 .seq (
 .seq (
 .reg none [
 ⟨some 7, none, .mov (.t 0)⟩,
 ⟨some 8, none, .len (.t 7)⟩,
 ⟨some 9, none, .mov (.c (.int .i64 0))⟩]) (
 .block 0 (
 .loop b109_0))) (
 .seq (
 .reg none [
 ⟨some 27, none, .load true 2 (.t 3)⟩,
 ⟨none, none, .store 2 (.t 2) (.t 27)⟩]) (
 .ret))))
def a109 : AFunc := ⟨28, c109, [.cell 2 true 2]⟩
def c110 : ACode :=
 .seq (
 .reg none [
 ⟨some 2, none, .box 110003 132 (.t 0)⟩,
 ⟨some 3, none, .box 110004 74 (.t 1)⟩,
 ⟨some 4, none, .mov (.c (.int .i64 0))⟩]) (
 .seq (
 .reg (some []) [
 ⟨some 5, none, .load true 2 (.t 2)⟩,
 ⟨some 6, none, .faddr 0 (.t 3)⟩,
 ⟨some 7, none, .load false 1 (.t 6)⟩,
 ⟨some 8, none, .ncall true 0 131 [(.t 5), (.t 7)]⟩,
 ⟨some 9, none, .faddr 1 (.t 3)⟩,
 ⟨some 10, none, .load false 1 (.t 9)⟩,
 ⟨some 11, none, .ncall true 0 100 [(.t 10)]⟩,
 ⟨some 12, none, .mov (.t 11)⟩,
 ⟨some 13, (some (12, true)), .faddr 2 (.t 3)⟩,
 ⟨some 14, (some (12, true)), .load false 1 (.t 13)⟩,
 ⟨some 15, (some (12, true)), .faddr 0 (.t 2)⟩,
 ⟨some 16, (some (12, true)), .faddr 0 (.t 15)⟩,
 ⟨some 17, (some (12, true)), .load false 1 (.t 16)⟩,
 ⟨some 18, (some (12, true)), .binw .sub (.t 17) (.c (.int .i64 1))⟩,
 ⟨some 19, (some (12, true)), .ncall true 0 87 [(.t 14), (.c (.int .i64 0)), (.t 18)]⟩,
 ⟨some 20, (some (12, true)), .mov (.t 19)⟩,
 ⟨some 21, (some (20, false)), .faddr 2 (.t 3)⟩,
 ⟨some 22, (some (20, false)), .load false 1 (.t 21)⟩,
 ⟨some 23, (some (20, false)), .bin .eql (.t 22) (.c (.int .i64 255))⟩,
 ⟨some 24, (some (12, true)), .pick (.t 20) (.c (.bool true)) (.t 23)⟩,
 ⟨some 25, none, .pick (.t 12) (.t 24) (.c (.bool false))⟩,
 ⟨some 26, none, .ncall true 0 86 [(.t 25), (.c (.int .i64 2))]⟩,
 ⟨some 27, none, .faddr 3 (.t 3)⟩,
 ⟨some 28, none, .load false 1 (.t 27)⟩,
 ⟨some 29, none, .len (.t 28)⟩,
 ⟨some 30, none, .faddr 0 (.t 2)⟩,
 ⟨some 31, none, .faddr 0 (.t 30)⟩,
 ⟨some 32, none, .load false 1 (.t 31)⟩,
 ⟨some 33, none, .bin .eql (.t 29) (.t 32)⟩,
 ⟨some 34, none, .ncall true 0 86 [(.t 33), (.c (.int .i64 10))]⟩,
 ⟨some 35, none, .faddr 3 (.t 3)⟩,
 ⟨some 36, none, .load false 1 (.t 35)⟩,
 ⟨some 37, none, .ncall true 0 94 [(.t 36)]⟩,
 ⟨some 38, none, .bslice 110039 28 1 [(.t 8), (.t 26), (.t 34), (.t 37)]⟩,
 ⟨some 39, none, .ncall true 0 84 [(.t 38)]⟩,
 ⟨some 4, none, .mov (.t 39)⟩]) (
 .gh [.keep [4]] (
 .ret)))
def a110 : AFunc := ⟨40, c110, [.tmp 4]⟩
def l113_0 : ACode :=
 .seq (
 .reg none [
 ⟨some 28, none, .bin .lss (.t 27) (.t 26)⟩]) (
 .seq (
 .cond (.t 28) (
 .skip) (
 .exit 2)) (
 .seq (
 .block 3 (
 .seq (
 .reg none [
 ⟨some 29, none, .iaddr 1 (.t 25) (.t 27)⟩,
 ⟨some 30, none, .load false 1 (.t 29)⟩,
 ⟨some 8, none, .mov (.t 30)⟩]) (
 .reg none [
 ⟨some 31, none, .mov (.t 6)⟩,
 ⟨some 32, none, .mov (.t 8)⟩,
 ⟨some 33, none, .append 113034 3 1 (.t 31) (.t 32)⟩,
 ⟨some 6, none, .mov (.t 33)⟩]))) (
 .reg none [
 ⟨some 34, none, .bin .add (.t 27) (.c (.int .i64 1))⟩,
 ⟨some 27, none, .mov (.t 34)⟩])))
def b113_0 : ACode := .gh [.keep [6, 25, 26, 27]] (.gh [] l113_0)
def l113_1 : ACode :=
 .seq (
 .reg none [
 ⟨some 12, none, .bin .lss (.t 11) (.t 10)⟩]) (
 .seq (
 .cond (.t 12) (
 .skip) (
 .exit 0)) (
 .seq (
 .block 1 (
 .seq (
 .reg none [
 ⟨some 13, none, .iaddr 1 (.t 9) (.t 11)⟩,
 ⟨some 14, none, .load false 1 (.t 13)⟩,
 ⟨some 5, none, .mov (.t 14)⟩]) (
 .seq (
 .reg none [
 ⟨some 15, none, .mov (.t 3)⟩,
 ⟨some 16, none, .mov (.t 5)⟩,
 ⟨some 17, none, .len (.t 16)⟩,
 ⟨some 18, none, .bin .add (.t 15) (.t 17)⟩,
 ⟨some 3, none, .mov (.t 18)⟩]) (
 .seq (
 .reg none [
 ⟨some 19, none, .mov (.t 3)⟩,
 ⟨some 20, none, .bin .lss (.t 19) (.c (.int .i64 0))⟩]) (
 .cond (.t 20) (
 .junk /- op makeInterface -/) (
 .skip)))))) (
 .reg none [
 ⟨some 22, none, .bin .add (.t 11) (.c (.int .i64 1))⟩,
 ⟨some 11, none, .mov (.t 22)⟩])))
def b113_1 : ACode := .gh [.keep [0, 3, 9, 10, 11]] (.gh [] l113_1)
def c113 : ACode :=
 .seq (
 .reg none [
 ⟨some 2, none, .mov (.c .nils)⟩]) (
 .seq (
 .reg none [
 ⟨some 3, none, .mov (.c (.int .i64 0))⟩]) (
 .seq (
 .seq (
 .reg none [
 ⟨some 9, none, .mov (.t 0)⟩,
 ⟨some 10, none, .len (.t 9)⟩,
 ⟨some 11, none, .mov (.c (.int .i64 0))⟩]) (
 .block 0 (
 .loop b113_1))) (
 .seq (
 .reg none [
 ⟨some 23, none, .mov (.t 3)⟩,
 ⟨some 24, none, .ncall true 113025 136 [(.c .nils), (.t 23)]⟩,
 ⟨some 6, none, .mov (.t 24)⟩]) (
 .seq (
 .seq (
 .reg none [
 ⟨some 25, none, .mov (.t 0)⟩,
 ⟨some 26, none, .len (.t 25)⟩,
 ⟨some 27, none, .mov (.c (.int .i64 0))⟩]) (
 .block 2 (
 .loop b113_0))) (
 .seq (
 .reg none [
 ⟨some 35, none, .mov (.t 6)⟩,
 ⟨some 2, none, .mov (.t 35)⟩]) (
 .ret))))))
def a113 : AFunc := ⟨36, c113, [.tmp 2]⟩
def l114_0 : ACode :=
 .seq (
 .seq (
 .reg none [
 ⟨some 12, none, .mov (.t 6)⟩,
 ⟨some 13, none, .bin .neq (.t 12) (.c (.int .i64 0))⟩]) (
 .cond (.t 13) (
 .skip) (
 .exit 0))) (
 .block 1 (
 .reg (some []) [
 ⟨some 14, none, .mov (.t 6)⟩,
 ⟨some 15, none, .mov (.t 5)⟩,
 ⟨some 16, none, .mov (.t 6)⟩,
 ⟨some 17, none, .bin .rem (.t 15) (.t 16)⟩,
 ⟨some 5, none, .mov (.t 14)⟩,
 ⟨some 6, none, .mov (.t 17)⟩]))
def b114_0 : ACode := .gh [.keep [0, 1, 4, 5, 6]] (.gh [] l114_0)
def k114_0 : List AItem := .inLoop b114_0 :: [.inBlock 0,
 .code (.seq (
 .reg (some []) [
 ⟨some 18, none, .mov (.t 0)⟩,
 ⟨some 19, none, .mov (.t 5)⟩,
 ⟨some 20, none, .bin .quo (.t 18) (.t 19)⟩,
 ⟨some 21, none, .mov (.t 1)⟩,
 ⟨some 22, none, .mov (.t 5)⟩,
 ⟨some 23, none, .bin .quo (.t 21) (.t 22)⟩,
 ⟨some 24, none, .build (.gen [(.int .i64 0), (.int .i64 0)]) [(0, 1, (.t 20)), (1, 1, (.t 23))]⟩,
 ⟨none, none, .store 2 (.t 4) (.t 24)⟩]) (
 .gh [.keep [4]] (
 .ret)))]
def c114 : ACode :=
 .seq (
 .reg none [
 ⟨some 4, none, .alloc 114005 79 (.agg (.gen [(.int .i64 0), (.int .i64 0)]))⟩]) (
 .seq (
 .reg none [
 ⟨some 7, none, .mov (.t 1)⟩,
 ⟨some 8, none, .mov (.t 0)⟩,
 ⟨some 9, none, .mov (.t 0)⟩,
 ⟨some 10, none, .neg (.t 9)⟩,
 ⟨some 11, none, .mm true (.t 8) (.t 10)⟩,
 ⟨some 5, none, .mov (.t 7)⟩,
 ⟨some 6, none, .mov (.t 11)⟩]) (
 .seq (
 .block 0 (
 .loop b114_0)) (
 .seq (
 .reg (some []) [
 ⟨some 18, none, .mov (.t 0)⟩,
 ⟨some 19, none, .mov (.t 5)⟩,
 ⟨some 20, none, .bin .quo (.t 18) (.t 19)⟩,
 ⟨some 21, none, .mov (.t 1)⟩,
 ⟨some 22, none, .mov (.t 5)⟩,
 ⟨some 23, none, .bin .quo (.t 21) (.t 22)⟩,
 ⟨some 24, none, .build (.gen [(.int .i64 0), (.int .i64 0)]) [(0, 1, (.t 20)), (1, 1, (.t 23))]⟩,
 ⟨none, none, .store 2 (.t 4) (.t 24)⟩]) (
 .gh [.keep [4]] (
 .ret)))))
def a114 : AFunc := ⟨25, c114, [.cell 4 true 2]⟩
def l117_0 : ACode :=
 .seq (
 .reg none [
 ⟨some 11, none, .bin .lss (.t 10) (.t 9)⟩]) (
 .seq (
 .cond (.t 11) (
 .skip) (
 .exit 0)) (
 .seq (
 .block 1 (
 .seq (
 .reg none [
 ⟨some 12, none, .iaddr 4 (.t 8) (.t 10)⟩,
 ⟨some 13, none, .load true 4 (.t 12)⟩,
 ⟨some 6, none, .alloc 117007 74 (.agg (.gen [(.int .i64 0), (.int .i64 0), (.int .i64 0), .nils]))⟩,
 ⟨none, none, .store 4 (.t 6) (.t 13)⟩]) (
 .seq (
 .reg none [
 ⟨some 14, none, .mov (.t 1)⟩,
 ⟨some 15, none, .load true 4 (.t 6)⟩,
 ⟨some 16, none, .ncallv true 0 (.t 14) [(.t 15)]⟩,
 ⟨some 7, none, .mov (.t 16)⟩]) (
 .seq (
 .reg none [
 ⟨some 17, none, .mov (.t 7)⟩,
 ⟨some 18, none, .bin .neq (.t 17) (.c (.int .i64 0))⟩]) (
 .cond (.t 18) (
 .seq (
 .reg none [
 ⟨some 19, none, .mov (.t 7)⟩,
 ⟨some 4, none, .mov (.t 19)⟩]) (
 .ret)) (
 .skip)))))) (
 .reg none [
 ⟨some 20, none, .bin .add (.t 10) (.c (.int .i64 1))⟩,
 ⟨some 10, none, .mov (.t 20)⟩])))
def b117_0 : ACode := .gh [.keep [1, 8, 9, 10]] (.gh [] l117_0)
def c117 : ACode :=
 .seq (
 .reg none [
 ⟨some 4, none, .mov (.c (.int .i64 0))⟩]) (
 .seq (
 .seq (
 .reg none [
 ⟨some 8, none, .mov (.t 0)⟩,
 ⟨some 9, none, .len (.t 8)⟩,
 ⟨some 10, none, .mov (.c (.int .i64 0))⟩]) (
 .block 0 (
 .loop b117_0))) (
 .seq (
 .reg none [
 ⟨some 4, none, .mov (.c (.int .i64 0))⟩]) (
 .ret)))
def a117 : AFunc := ⟨21, c117, [.tmp 4]⟩
def c118 : ACode :=
 .reg none [
 ⟨some 4, none, .mov (.t 0)⟩,
 ⟨some 5, none, .mov (.t 0)⟩,
 ⟨some 6, none, .len (.t 5)⟩,
 ⟨some 7, none, .mov (.t 1)⟩,
 ⟨some 8, none, .ncall true 0 137 [(.t 4), (.t 6), (.t 7)]⟩]
def a118 : AFunc := ⟨9, c118, []⟩
def c119 : ACode :=
 .seq (
 .reg none [
 ⟨some 2, none, .box 119003 140 (.t 0)⟩,
 ⟨some 3, none, .box 119004 140 (.t 1)⟩,
 ⟨some 4, none, .mov (.c (.int .i64 0))⟩]) (
 .seq (
 .reg none [
 ⟨some 5, none, .faddr 4 (.t 2)⟩,
 ⟨some 6, none, .load false 1 (.t 5)⟩,
 ⟨some 7, none, .faddr 4 (.t 3)⟩,
 ⟨some 8, none, .load false 1 (.t 7)⟩,
 ⟨some 9, none, .ncall true 0 120 [(.t 6), (.t 8)]⟩,
 ⟨some 4, none, .mov (.t 9)⟩]) (
 .ret))
def a119 : AFunc := ⟨10, c119, [.tmp 4]⟩
def c120 : ACode :=
 .seq (
 .reg none [
 ⟨some 4, none, .mov (.c (.int .i64 0))⟩]) (
 .seq (
 .reg none [
 ⟨some 7, none, .mov (.t 0)⟩,
 ⟨some 8, none, .ncall true 0 138 [(.t 7)]⟩,
 ⟨some 5, none, .mov (.t 8)⟩]) (
 .seq (
 .reg none [
 ⟨some 9, none, .mov (.t 1)⟩,
 ⟨some 10, none, .ncall true 0 138 [(.t 9)]⟩,
 ⟨some 6, none, .mov (.t 10)⟩]) (
 .seq (
 .seq (
 .reg none [
 ⟨some 11, none, .mov (.t 5)⟩]) (
 .cond (.t 11) (
 .seq (
 .seq (
 .reg none [
 ⟨some 12, none, .mov (.t 6)⟩]) (
 .cond (.t 12) (
 .seq (
 .reg none [
 ⟨some 4, none, .mov (.c (.int .i64 0))⟩]) (
 .ret)) (
 .skip))) (
 .seq (
 .reg none [
 ⟨some 4, none, .mov (.c (.int .i64 (-1)))⟩]) (
 .ret))) (
 .skip))) (
 .seq (
 .seq (
 .reg none [
 ⟨some 13, none, .mov (.t 6)⟩]) (
 .cond (.t 13) (
 .seq (
 .reg none [
 ⟨some 4, none, .mov (.c (.int .i64 1))⟩]) (
 .ret)) (
 .skip))) (
 .seq (
 .seq (
 .reg none [
 ⟨some 14, none, .mov (.t 0)⟩,
 ⟨some 15, none, .mov (.t 1)⟩,
 ⟨some 16, none, .bin .lss (.t 14) (.t 15)⟩]) (
 .cond (.t 16) (
 .seq (
 .reg none [
 ⟨some 4, none, .mov (.c (.int .i64 (-1)))⟩]) (
 .ret)) (
 .skip))) (
 .seq (
 .seq (
 .reg none [
 ⟨some 17, none, .mov (.t 0)⟩,
 ⟨some 18, none, .mov (.t 1)⟩,
 ⟨some 19, none, .bin .gtr (.t 17) (.t 18)⟩]) (
 .cond (.t 19) (
 .seq (
 .reg none [
 ⟨some 4, none, .mov (.c (.int .i64 1))⟩]) (
 .ret)) (
 .skip))) (
 .seq (
 .reg none [
 ⟨some 4, none, .mov (.c (.int .i64 0))⟩]) (
 .ret))))))))
def a120 : AFunc := ⟨20, c120, [.tmp 4]⟩
def l121_1 : ACode :=
 .seq (
 .seq (
 .reg none [
 ⟨some 32, none, .mov (.t 7)⟩,
 ⟨some 33, none, .mov (.t 6)⟩,
 ⟨some 34, none, .len (.t 33)⟩,
 ⟨some 35, none, .bin .lss (.t 32) (.t 34)⟩]) (
 .cond (.t 35) (
 .skip) (
 .exit 2))) (
 .seq (
 .block 3 (
 .seq (
 .reg (some []) [
 ⟨some 38, none, .mov (.t 1)⟩,
 ⟨some 39, none, .mov (.t 6)⟩,
 ⟨some 40, none, .mov (.t 7)⟩,
 ⟨some 41, none, .iaddr 5 (.t 39) (.t 40)⟩,
 ⟨some 42, none, .load true 5 (.t 41)⟩,
 ⟨some 43, none, .mov (.t 6)⟩,
 ⟨some 44, none, .mov (.t 7)⟩,
 ⟨some 45, none, .bin .sub (.t 44) (.c (.int .i64 1))⟩,
 ⟨some 46, none, .iaddr 5 (.t 43) (.t 45)⟩,
 ⟨some 47, none, .load true 5 (.t 46)⟩,
 ⟨some 48, none, .ncallv true 0 (.t 38) [(.t 42), (.t 47)]⟩,
 ⟨some 49, none, .not (.t 48)⟩]) (
 .gh [.keep [0, 1, 5, 6, 7, 49]] (
 .cond (.t 49) (
 .seq (
 .reg none [
 ⟨some 50, none, .mov (.t 0)⟩,
 ⟨some 51, none, .mov (.t 5)⟩,
 ⟨some 52, none, .mov (.t 6)⟩,
 ⟨some 53, none, .mov (.t 7)⟩,
 ⟨some 54, none, .iaddr 5 (.t 52) (.t 53)⟩,
 ⟨some 55, none, .load true 5 (.t 54)⟩,
 ⟨some 56, none, .iaddr 5 (.t 50) (.t 51)⟩,
 ⟨none, none, .store 5 (.t 56) (.t 55)⟩]) (
 .gh [.keep [0, 1, 5, 6, 7]] (
 .reg none [
 ⟨some 57, none, .mov (.t 5)⟩,
 ⟨some 58, none, .bin .add (.t 57) (.c (.int .i64 1))⟩,
 ⟨some 5, none, .mov (.t 58)⟩]))) (
 .skip))))) (
 .reg none [
 ⟨some 36, none, .mov (.t 7)⟩,
 ⟨some 37, none, .bin .add (.t 36) (.c (.int .i64 1))⟩,
 ⟨some 7, none, .mov (.t 37)⟩]))
def b121_1 : ACode := .gh [.keep [0, 1, 5, 6, 7]] (.gh [] l121_1)
def l121_0 : ACode :=
 .seq (
 .seq (
 .reg none [
 ⟨some 12, none, .mov (.t 5)⟩,
 ⟨some 13, none, .mov (.t 0)⟩,
 ⟨some 14, none, .len (.t 13)⟩,
 ⟨some 15, none, .bin .lss (.t 12) (.t 14)⟩]) (
 .cond (.t 15) (
 .skip) (
 .exit 0))) (
 .seq (
 .block 1 (
 .seq (
 .reg (some []) [
 ⟨some 18, none, .mov (.t 1)⟩,
 ⟨some 19, none, .mov (.t 0)⟩,
 ⟨some 20, none, .mov (.t 5)⟩,
 ⟨some 21, none, .iaddr 5 (.t 19) (.t 20)⟩,
 ⟨some 22, none, .load true 5 (.t 21)⟩,
 ⟨some 23, none, .mov (.t 0)⟩,
 ⟨some 24, none, .mov (.t 5)⟩,
 ⟨some 25, none, .bin .sub (.t 24) (.c (.int .i64 1))⟩,
 ⟨some 26, none, .iaddr 5 (.t 23) (.t 25)⟩,
 ⟨some 27, none, .load true 5 (.t 26)⟩,
 ⟨some 28, none, .ncallv true 0 (.t 18) [(.t 22), (.t 27)]⟩]) (
 .gh [.keep [0, 1, 5, 28]] (
 .cond (.t 28) (
 .seq (
 .reg none [
 ⟨some 29, none, .mov (.t 0)⟩,
 ⟨some 30, none, .mov (.t 5)⟩,
 ⟨some 31, none, .slc 5 (.t 29) (some (.t 30)) none none⟩,
 ⟨some 6, none, .mov (.t 31)⟩]) (
 .seq (
 .seq (
 .reg none [
 ⟨some 7, none, .mov (.c (.int .i64 1))⟩]) (
 .block 2 (
 .loop b121_1))) (
 .seq (
 .junk /- builtin clear -/) (
 .seq (
 .reg none [
 ⟨some 62, none, .mov (.t 0)⟩,
 ⟨some 63, none, .mov (.t 5)⟩,
 ⟨some 64, none, .slc 5 (.t 62) none (some (.t 63)) none⟩,
 ⟨some 4, none, .mov (.t 64)⟩]) (
 .ret))))) (
 .skip))))) (
 .reg none [
 ⟨some 16, none, .mov (.t 5)⟩,
 ⟨some 17, none, .bin .add (.t 16) (.c (.int .i64 1))⟩,
 ⟨some 5, none, .mov (.t 17)⟩]))
def b121_0 : ACode := .gh [.keep [0, 1, 5]] (.gh [] l121_0)
def c121 : ACode :=
 .seq (
 .reg none [
 ⟨some 4, none, .mov (.c .nils)⟩]) (
 .seq (
 .seq (
 .reg none [
 ⟨some 8, none, .mov (.t 0)⟩,
 ⟨some 9, none, .len (.t 8)⟩,
 ⟨some 10, none, .bin .lss (.t 9) (.c (.int .i64 2))⟩]) (
 .cond (.t 10) (
 .seq (
 .reg none [
 ⟨some 11, none, .mov (.t 0)⟩,
 ⟨some 4, none, .mov (.t 11)⟩]) (
 .ret)) (
 .skip))) (
 .seq (
 .seq (
 .reg none [
 ⟨some 5, none, .mov (.c (.int .i64 1))⟩]) (
 .block 0 (
 .loop b121_0))) (
 .seq (
 .reg none [
 ⟨some 65, none, .mov (.t 0)⟩,
 ⟨some 4, none, .mov (.t 65)⟩]) (
 .ret))))
def a121 : AFunc := ⟨66, c121, [.tmp 4]⟩
def c122 : ACode :=
 .seq (
 .reg none [
 ⟨some 2, none, .box 122003 140 (.t 0)⟩,
 ⟨some 3, none, .box 122004 140 (.t 1)⟩,
 ⟨some 4, none, .mov (.c (.bool false))⟩]) (
 .seq (
 .reg none [
 ⟨some 5, none, .faddr 4 (.t 2)⟩,
 ⟨some 6, none, .load false 1 (.t 5)⟩,
 ⟨some 7, none, .faddr 4 (.t 3)⟩,
 ⟨some 8, none, .load false 1 (.t 7)⟩,
 ⟨some 9, none, .bin .eql (.t 6) (.t 8)⟩,
 ⟨some 4, none, .mov (.t 9)⟩]) (
 .ret))
def a122 : AFunc := ⟨10, c122, [.tmp 4]⟩
def c123 : ACode :=
 .seq (
 .reg none [
 ⟨some 3, none, .box 123004 74 (.t 1)⟩,
 ⟨some 4, none, .mov (.c (.int .i64 0))⟩]) (
 .seq (
 .seq (
 .reg none [
 ⟨some 7, none, .mov (.t 0)⟩,
 ⟨some 8, none, .nilck (.t 7)⟩,
 ⟨some 9, none, .faddr 1 (.t 8)⟩,
 ⟨some 10, none, .load false 1 (.t 9)⟩,
 ⟨some 11, none, .len (.t 10)⟩,
 ⟨some 12, none, .bin .eql (.t 11) (.c (.int .i64 0))⟩]) (
 .cond (.t 12) (
 .seq (
 .reg none [
 ⟨some 4, none, .mov (.c (.int .i64 0))⟩]) (
 .ret)) (
 .skip))) (
 .seq (
 .reg (some []) [
 ⟨some 13, none, .mov (.t 0)⟩,
 ⟨some 14, none, .nilck (.t 13)⟩,
 ⟨some 15, none, .faddr 1 (.t 14)⟩,
 ⟨some 16, none, .load false 1 (.t 15)⟩,
 ⟨some 17, none, .faddr 3 (.t 3)⟩,
 ⟨some 18, none, .load false 1 (.t 17)⟩,
 ⟨some 19, none, .bslice 123020 55 1 [(.t 16), (.t 18)]⟩,
 ⟨some 20, none, .ncall true 123021 113 [(.t 19)]⟩,
 ⟨some 5, none, .mov (.t 20)⟩]) (
 .gh [.keep [0, 3, 5]] (
 .seq (
 .seq (
 .reg (some []) [
 ⟨some 21, none, .mov (.t 5)⟩,
 ⟨some 22, none, .iaddr 1 (.t 21) (.c (.int .i64 2))⟩,
 ⟨some 23, none, .load false 1 (.t 22)⟩,
 ⟨some 24, none, .bin .add (.c (.int .i64 3)) (.t 23)⟩,
 ⟨some 25, none, .mov (.t 0)⟩,
 ⟨some 26, none, .nilck (.t 25)⟩,
 ⟨some 27, none, .faddr 1 (.t 26)⟩,
 ⟨some 28, none, .load false 1 (.t 27)⟩,
 ⟨some 29, none, .len (.t 28)⟩,
 ⟨some 30, none, .bin .sub (.t 24) (.t 29)⟩,
 ⟨some 6, none, .mov (.t 30)⟩]) (
 .gh [.keep [3, 6]] (
 .seq (
 .reg none [
 ⟨some 31, none, .mov (.t 6)⟩,
 ⟨some 32, none, .faddr 3 (.t 3)⟩,
 ⟨some 33, none, .load false 1 (.t 32)⟩,
 ⟨some 34, none, .len (.t 33)⟩,
 ⟨some 35, none, .bin .lss (.t 31) (.t 34)⟩]) (
 .cond (.t 35) (
 .seq (
 .reg none [
 ⟨some 36, none, .mov (.t 6)⟩,
 ⟨some 4, none, .mov (.t 36)⟩]) (
 .ret)) (
 .skip))))) (
 .seq (
 .reg none [
 ⟨some 4, none, .mov (.c (.int .i64 255))⟩]) (
 .ret))))))
def a123 : AFunc := ⟨37, c123, [.tmp 4]⟩
def c124 : ACode :=
 .reg none [
 ⟨some 2, none, .mov (.t 0)⟩,
 ⟨some 3, none, .mov (.t 0)⟩,
 ⟨some 4, none, .nilck (.t 2)⟩,
 ⟨some 5, none, .faddr 0 (.t 4)⟩,
 ⟨none, none, .store 1 (.t 5) (.c (.bool false))⟩,
 ⟨some 6, none, .nilck (.t 3)⟩,
 ⟨some 7, none, .faddr 1 (.t 6)⟩,
 ⟨none, none, .store 1 (.t 7) (.c .nils)⟩]
def a124 : AFunc := ⟨8, c124, []⟩
def l125_3 : ACode :=
 .seq (
 .reg none [
 ⟨some 45, none, .bin .lss (.t 44) (.c (.int .i64 2))⟩]) (
 .seq (
 .cond (.t 45) (
 .skip) (
 .exit 6)) (
 .seq (
 .block 7 (
 .seq (
 .reg none [
 ⟨some 46, none, .idx 2 (.t 43) (.t 44)⟩,
 ⟨some 10, none, .mov (.t 46)⟩]) (
 .seq (
 .reg none [
 ⟨some 47, none, .faddr 0 (.t 6)⟩,
 ⟨some 48, none, .load false 1 (.t 47)⟩,
 ⟨some 49, none, .mov (.t 8)⟩,
 ⟨some 50, none, .build (.gen [(.int .i64 0), (.int .i64 0)]) [(0, 1, (.t 48)), (1, 1, (.t 49))]⟩,
 ⟨some 51, none, .faddr 0 (.t 4)⟩,
 ⟨some 52, none, .load false 1 (.t 51)⟩,
 ⟨some 53, none, .mov (.t 10)⟩,
 ⟨some 54, none, .build (.gen [(.int .i64 0), (.int .i64 0)]) [(0, 1, (.t 52)), (1, 1, (.t 53))]⟩,
 ⟨some 55, none, .build (.gen [(.int .i64 0), (.int .i64 0), (.int .i64 0), (.int .i64 0)]) [(0, 2, (.t 50)), (2, 2, (.t 54))]⟩,
 ⟨some 11, none, .alloc 125012 152 (.agg (.gen [(.int .i64 0), (.int .i64 0), (.int .i64 0), (.int .i64 0)]))⟩,
 ⟨none, none, .store 4 (.t 11) (.t 55)⟩]) (
 .gh [.keep [0, 1, 4, 6, 8, 11, 12, 13, 14, 21, 22, 23, 33, 34, 43, 44]] (
 .seq (
 .reg none [
 ⟨some 56, none, .load true 4 (.t 11)⟩,
 ⟨some 57, none, .load false 1 (.t 1)⟩,
 ⟨some 58, none, .ncall true 0 126 [(.t 56), (.t 57)]⟩,
 ⟨some 59, none, .mov (.t 58)⟩,
 ⟨some 60, (some (59, true)), .mov (.t 0)⟩,
 ⟨some 61, (some (59, true)), .load true 4 (.t 11)⟩,
 ⟨some 62, (some (59, true)), .icallv (.t 60) [(.t 61)]⟩,
 ⟨some 63, (some (59, true)), .not (.t 62)⟩,
 ⟨some 64, none, .pick (.t 59) (.t 63) (.c (.bool false))⟩]) (
 .gh [.keep [0, 1, 4, 6, 8, 12, 13, 14, 21, 22, 23, 33, 34, 43, 44, 64]] (
 .cond (.t 64) (
 .ret) (
 .skip)))))))) (
 .reg none [
 ⟨some 65, none, .bin .add (.t 44) (.c (.int .i64 1))⟩,
 ⟨some 44, none, .mov (.t 65)⟩])))
def b125_3 : ACode := .gh [.keep [0, 1, 4, 6, 8, 12, 13, 14, 21, 22, 23, 33, 34, 43, 44]] (.gh [] l125_3)
def l125_2 : ACode :=
 .seq (
 .reg none [
 ⟨some 35, none, .bin .lss (.t 34) (.c (.int .i64 2))⟩]) (
 .seq (
 .cond (.t 35) (
 .skip) (
 .exit 4)) (
 .seq (
 .block 5 (
 .seq (
 .reg none [
 ⟨some 36, none, .idx 2 (.t 33) (.t 34)⟩,
 ⟨some 8, none, .mov (.t 36)⟩]) (
 .seq (
 .reg none [
 ⟨some 37, none, .faddr 1 (.t 4)⟩,
 ⟨some 38, none, .faddr 0 (.t 37)⟩,
 ⟨some 39, none, .load false 1 (.t 38)⟩,
 ⟨some 40, none, .faddr 1 (.t 4)⟩,
 ⟨some 41, none, .faddr 1 (.t 40)⟩,
 ⟨some 42, none, .load false 1 (.t 41)⟩,
 ⟨some 43, none, .build (.ints .i64 [0, 0]) [(0, 1, (.t 39)), (1, 1, (.t 42))]⟩,
 ⟨some 44, none, .mov (.c (.int .i64 0))⟩]) (
 .gh [.keep [0, 1, 4, 6, 8, 12, 13, 14, 21, 22, 23, 33, 34, 43, 44]] (
 .block 6 (
 .loop b125_3)))))) (
 .reg none [
 ⟨some 66, none, .bin .add (.t 34) (.c (.int .i64 1))⟩,
 ⟨some 34, none, .mov (.t 66)⟩])))
def b125_2 : ACode := .gh [.keep [0, 1, 4, 6, 12, 13, 14, 21, 22, 23, 33, 34]] (.gh [] l125_2)
def l125_1 : ACode :=
 .seq (
 .reg none [
 ⟨some 24, none, .bin .lss (.t 23) (.t 22)⟩]) (
 .seq (
 .cond (.t 24) (
 .skip) (
 .exit 2)) (
 .seq (
 .block 3 (
 .seq (
 .reg none [
 ⟨some 25, none, .iaddr 3 (.t 21) (.t 23)⟩,
 ⟨some 26, none, .load true 3 (.t 25)⟩,
 ⟨some 6, none, .alloc 125007 49 (.agg (.gen [(.int .i64 0), (.int .i64 0), (.int .i64 0)]))⟩,
 ⟨none, none, .store 3 (.t 6) (.t 26)⟩]) (
 .seq (
 .reg none [
 ⟨some 27, none, .faddr 1 (.t 6)⟩,
 ⟨some 28, none, .faddr 0 (.t 27)⟩,
 ⟨some 29, none, .load false 1 (.t 28)⟩,
 ⟨some 30, none, .faddr 1 (.t 6)⟩,
 ⟨some 31, none, .faddr 1 (.t 30)⟩,
 ⟨some 32, none, .load false 1 (.t 31)⟩,
 ⟨some 33, none, .build (.ints .i64 [0, 0]) [(0, 1, (.t 29)), (1, 1, (.t 32))]⟩,
 ⟨some 34, none, .mov (.c (.int .i64 0))⟩]) (
 .gh [.keep [0, 1, 4, 6, 12, 13, 14, 21, 22, 23, 33, 34]] (
 .block 4 (
 .loop b125_2)))))) (
 .reg none [
 ⟨some 67, none, .bin .add (.t 23) (.c (.int .i64 1))⟩,
 ⟨some 23, none, .mov (.t 67)⟩])))
def b125_1 : ACode := .gh [.keep [0, 1, 4, 12, 13, 14, 21, 22, 23]] (.gh [] l125_1)
def l125_0 : ACode :=
 .seq (
 .reg none [
 ⟨some 15, none, .bin .lss (.t 14) (.t 13)⟩]) (
 .seq (
 .cond (.t 15) (
 .skip) (
 .exit 0)) (
 .seq (
 .block 1 (
 .seq (
 .reg none [
 ⟨some 16, none, .mov (.t 14)⟩,
 ⟨some 17, none, .iaddr 3 (.t 12) (.t 14)⟩,
 ⟨some 18, none, .load true 3 (.t 17)⟩,
 ⟨some 4, none, .alloc 125005 49 (.agg (.gen [(.int .i64 0), (.int .i64 0), (.int .i64 0)]))⟩,
 ⟨some 3, none, .mov (.t 16)⟩,
 ⟨none, none, .store 3 (.t 4) (.t 18)⟩]) (
 .seq (
 .reg none [
 ⟨some 19, none, .load false 1 (.t 1)⟩,
 ⟨some 20, none, .mov (.t 3)⟩,
 ⟨some 21, none, .slc 3 (.t 19) none (some (.t 20)) none⟩,
 ⟨some 22, none, .len (.t 21)⟩,
 ⟨some 23, none, .mov (.c (.int .i64 0))⟩]) (
 .block 2 (
 .loop b125_1))))) (
 .reg none [
 ⟨some 68, none, .bin .add (.t 14) (.c (.int .i64 1))⟩,
 ⟨some 14, none, .mov (.t 68)⟩])))
def b125_0 : ACode := .gh [.keep [0, 1, 12, 13, 14]] (.gh [] l125_0)
def k125_3 : List AItem := .inLoop b125_3 :: [.inBlock 6,
 .inBlock 5,
 .code (.reg none [
 ⟨some 66, none, .bin .add (.t 34) (.c (.int .i64 1))⟩,
 ⟨some 34, none, .mov (.t 66)⟩]),
 .inLoop b125_2,
 .inBlock 4,
 .inBlock 3,
 .code (.reg none [
 ⟨some 67, none, .bin .add (.t 23) (.c (.int .i64 1))⟩,
 ⟨some 23, none, .mov (.t 67)⟩]),
 .inLoop b125_1,
 .inBlock 2,
 .inBlock 1,
 .code (.reg none [
 ⟨some 68, none, .bin .add (.t 14) (.c (.int .i64 1))⟩,
 ⟨some 14, none, .mov (.t 68)⟩]),
 .inLoop b125_0,
 .inBlock 0]
def k125_2 : List AItem := .inLoop b125_2 :: [.inBlock 4,
 .inBlock 3,
 .code (.reg none [
 ⟨some 67, none, .bin .add (.t 23) (.c (.int .i64 1))⟩,
 ⟨some 23, none, .mov (.t 67)⟩]),
 .inLoop b125_1,
 .inBlock 2,
 .inBlock 1,
 .code (.reg none [
 ⟨some 68, none, .bin .add (.t 14) (.c (.int .i64 1))⟩,
 ⟨some 14, none, .mov (.t 68)⟩]),
 .inLoop b125_0,
 .inBlock 0]
def k125_1 : List AItem := .inLoop b125_1 :: [.inBlock 2,
 .inBlock 1,
 .code (.reg none [
 ⟨some 68, none, .bin .add (.t 14) (.c (.int .i64 1))⟩,
 ⟨some 14, none, .mov (.t 68)⟩]),
 .inLoop b125_0,
 .inBlock 0]
def k125_0 : List AItem := .inLoop b125_0 :: [.inBlock 0]
def c125 : ACode :=
 .seq (
 .reg none [
 ⟨some 12, none, .load false 1 (.t 1)⟩,
 ⟨some 13, none, .len (.t 12)⟩,
 ⟨some 14, none, .mov (.c (.int .i64 0))⟩]) (
 .block 0 (
 .loop b125_0))
def a125 : AFunc := ⟨69, c125, []⟩
def l126_0 : ACode :=
 .seq (
 .reg none [
 ⟨some 10, none, .bin .lss (.t 9) (.t 8)⟩]) (
 .seq (
 .cond (.t 10) (
 .skip) (
 .exit 0)) (
 .seq (
 .block 1 (
 .seq (
 .reg none [
 ⟨some 11, none, .iaddr 3 (.t 7) (.t 9)⟩,
 ⟨some 12, none, .load true 3 (.t 11)⟩,
 ⟨some 6, none, .alloc 126007 49 (.agg (.gen [(.int .i64 0), (.int .i64 0), (.int .i64 0)]))⟩,
 ⟨none, none, .store 3 (.t 6) (.t 12)⟩]) (
 .seq (
 .reg (some []) [
 ⟨some 13, none, .load true 4 (.t 2)⟩,
 ⟨some 14, none, .faddr 0 (.t 6)⟩,
 ⟨some 15, none, .load false 1 (.t 14)⟩,
 ⟨some 16, none, .ncall true 0 89 [(.t 13), (.t 15)]⟩,
 ⟨some 17, none, .faddr 1 (.t 6)⟩,
 ⟨some 18, none, .faddr 0 (.t 17)⟩,
 ⟨some 19, none, .load false 1 (.t 18)⟩,
 ⟨some 20, none, .load true 4 (.t 2)⟩,
 ⟨some 21, none, .ncall true 0 91 [(.t 20)]⟩,
 ⟨some 22, none, .bin .mul (.t 19) (.t 21)⟩,
 ⟨some 23, none, .faddr 1 (.t 6)⟩,
 ⟨some 24, none, .faddr 1 (.t 23)⟩,
 ⟨some 25, none, .load false 1 (.t 24)⟩,
 ⟨some 26, none, .load true 4 (.t 2)⟩,
 ⟨some 27, none, .ncall true 0 91 [(.t 26)]⟩,
 ⟨some 28, none, .bin .mul (.t 25) (.t 27)⟩,
 ⟨some 29, none, .ncall true 0 87 [(.t 16), (.t 22), (.t 28)]⟩,
 ⟨some 30, none, .not (.t 29)⟩]) (
 .gh [.keep [2, 7, 8, 9, 30]] (
 .cond (.t 30) (
 .seq (
 .reg none [
 ⟨some 4, none, .mov (.c (.bool false))⟩]) (
 .ret)) (
 .skip)))))) (
 .reg none [
 ⟨some 31, none, .bin .add (.t 9) (.c (.int .i64 1))⟩,
 ⟨some 9, none, .mov (.t 31)⟩])))
def b126_0 : ACode := .gh [.keep [2, 7, 8, 9]] (.gh [] l126_0)
def k126_0 : List AItem := .inLoop b126_0 :: [.inBlock 0,
 .code (.seq (
 .reg none [
 ⟨some 4, none, .mov (.c (.bool true))⟩]) (
 .ret))]
def c126 : ACode :=
 .seq (
 .reg none [
 ⟨some 2, none, .box 126003 152 (.t 0)⟩,
 ⟨some 4, none, .mov (.c (.bool false))⟩]) (
 .seq (
 .seq (
 .reg none [
 ⟨some 7, none, .mov (.t 1)⟩,
 ⟨some 8, none, .len (.t 7)⟩,
 ⟨some 9, none, .mov (.c (.int .i64 0))⟩]) (
 .block 0 (
 .loop b126_0))) (
 .seq (
 .reg none [
 ⟨some 4, none, .mov (.c (.bool true))⟩]) (
 .ret)))
def a126 : AFunc := ⟨32, c126, [.tmp 4]⟩
def l127_0 : ACode :=
 .seq (
 .reg none [
 ⟨some 11, none, .bin .lss (.t 10) (.t 9)⟩]) (
 .seq (
 .cond (.t 11) (
 .skip) (
 .exit 0)) (
 .seq (
 .block 1 (
 .seq (
 .reg none [
 ⟨some 12, none, .iaddr 1 (.t 8) (.t 10)⟩,
 ⟨some 13, none, .load false 1 (.t 12)⟩,
 ⟨some 6, none, .mov (.t 13)⟩]) (
 .seq (
 .reg none [
 ⟨some 14, none, .mov (.t 1)⟩,
 ⟨some 15, none, .mov (.t 6)⟩,
 ⟨some 16, none, .ncallv true 0 (.t 14) [(.t 15)]⟩,
 ⟨some 7, none, .mov (.t 16)⟩]) (
 .seq (
 .reg none [
 ⟨some 17, none, .mov (.t 7)⟩,
 ⟨some 18, none, .bin .neq (.t 17) (.c (.int .i64 0))⟩]) (
 .cond (.t 18) (
 .seq (
 .reg none [
 ⟨some 19, none, .mov (.t 7)⟩,
 ⟨some 4, none, .mov (.t 19)⟩]) (
 .ret)) (
 .skip)))))) (
 .reg none [
 ⟨some 20, none, .bin .add (.t 10) (.c (.int .i64 1))⟩,
 ⟨some 10, none, .mov (.t 20)⟩])))
def b127_0 : ACode := .gh [.keep [1, 8, 9, 10]] (.gh [] l127_0)
def c127 : ACode :=
 .seq (
 .reg none [
 ⟨some 4, none, .mov (.c (.int .i64 0))⟩]) (
 .seq (
 .seq (
 .reg none [
 ⟨some 8, none, .mov (.t 0)⟩,
 ⟨some 9, none, .len (.t 8)⟩,
 ⟨some 10, none, .mov (.c (.int .i64 0))⟩]) (
 .block 0 (
 .loop b127_0))) (
 .seq (
 .reg none [
 ⟨some 4, none, .mov (.c (.int .i64 0))⟩]) (
 .ret)))
def a127 : AFunc := ⟨21, c127, [.tmp 4]⟩
def c128 : ACode :=
 .seq (
 .reg none [
 ⟨some 2, none, .mov (.c (.int .i64 0))⟩]) (
 .seq (
 .reg none [
 ⟨some 3, none, .mov (.t 0)⟩,
 ⟨some 4, none, .ncall true 0 93 [(.t 3)]⟩,
 ⟨some 5, none, .ncall true 0 86 [(.t 4), (.c (.int .i64 2))]⟩,
 ⟨some 2, none, .mov (.t 5)⟩]) (
 .ret))
def a128 : AFunc := ⟨6, c128, [.tmp 2]⟩
def l129_0 : ACode :=
 .seq (
 .reg none [
 ⟨some 11, none, .bin .lss (.t 10) (.t 9)⟩]) (
 .seq (
 .cond (.t 11) (
 .skip) (
 .exit 0)) (
 .seq (
 .block 1 (
 .seq (
 .reg none [
 ⟨some 12, none, .iaddr 3 (.t 8) (.t 10)⟩,
 ⟨some 13, none, .load true 3 (.t 12)⟩,
 ⟨some 6, none, .alloc 129007 57 (.agg (.gen [(.int .i64 0), (.int .i64 0), .nils]))⟩,
 ⟨none, none, .store 3 (.t 6) (.t 13)⟩]) (
 .seq (
 .reg none [
 ⟨some 14, none, .mov (.t 1)⟩,
 ⟨some 15, none, .load true 3 (.t 6)⟩,
 ⟨some 16, none, .ncallv true 0 (.t 14) [(.t 15)]⟩,
 ⟨some 7, none, .mov (.t 16)⟩]) (
 .seq (
 .reg none [
 ⟨some 17, none, .mov (.t 7)⟩,
 ⟨some 18, none, .bin .neq (.t 17) (.c (.int .i64 0))⟩]) (
 .cond (.t 18) (
 .seq (
 .reg none [
 ⟨some 19, none, .mov (.t 7)⟩,
 ⟨some 4, none, .mov (.t 19)⟩]) (
 .ret)) (
 .skip)))))) (
 .reg none [
 ⟨some 20, none, .bin .add (.t 10) (.c (.int .i64 1))⟩,
 ⟨some 10, none, .mov (.t 20)⟩])))
def b129_0 : ACode := .gh [.keep [1, 8, 9, 10]] (.gh [] l129_0)
def c129 : ACode :=
 .seq (
 .reg none [
 ⟨some 4, none, .mov (.c (.int .i64 0))⟩]) (
 .seq (
 .seq (
 .reg none [
 ⟨some 8, none, .mov (.t 0)⟩,
 ⟨some 9, none, .len (.t 8)⟩,
 ⟨some 10, none, .mov (.c (.int .i64 0))⟩]) (
 .block 0 (
 .loop b129_0))) (
 .seq (
 .reg none [
 ⟨some 4, none, .mov (.c (.int .i64 0))⟩]) (
 .ret)))
def a129 : AFunc := ⟨21, c129, [.tmp 4]⟩
def c130 : ACode :=
 .seq (
 .reg none [
 ⟨some 2, none, .mov (.c .nils)⟩]) (
 .seq (
 .seq (
 .reg none [
 ⟨some 3, none, .mov (.t 0)⟩,
 ⟨some 4, none, .isnil false (.t 3)⟩]) (
 .cond (.t 4) (
 .seq (
 .reg none [
 ⟨some 2, none, .mov (.c .nils)⟩]) (
 .ret)) (
 .skip))) (
 .seq (
 .reg none [
 ⟨some 5, none, .bslice 130006 57 3 []⟩,
 ⟨some 6, none, .mov (.t 0)⟩,
 ⟨some 7, none, .append 130008 57 3 (.t 5) (.t 6)⟩,
 ⟨some 2, none, .mov (.t 7)⟩]) (
 .ret)))
def a130 : AFunc := ⟨8, c130, [.tmp 2]⟩
def c131 : ACode :=
 .seq (
 .reg none [
 ⟨some 2, none, .box 131003 132 (.t 0)⟩,
 ⟨some 4, none, .mov (.c (.int .i64 0))⟩]) (
 .seq (
 .reg none [
 ⟨some 5, none, .mov (.t 1)⟩,
 ⟨some 6, none, .faddr 0 (.t 2)⟩,
 ⟨some 7, none, .faddr 1 (.t 6)⟩,
 ⟨some 8, none, .load false 1 (.t 7)⟩,
 ⟨some 9, none, .binw .sub (.t 8) (.c (.int .i64 1))⟩,
 ⟨some 10, none, .ncall true 0 87 [(.t 5), (.c (.int .i64 0)), (.t 9)]⟩,
 ⟨some 11, none, .ncall true 0 86 [(.t 10), (.c (.int .i64 6))]⟩,
 ⟨some 4, none, .mov (.t 11)⟩]) (
 .gh [.keep [4]] (
 .ret)))
def a131 : AFunc := ⟨12, c131, [.tmp 4]⟩
def l132_0 : ACode :=
 .seq (
 .seq (
 .reg none [
 ⟨some 6, none, .mov (.t 4)⟩,
 ⟨some 7, none, .load false 1 (.t 1)⟩,
 ⟨some 8, none, .len (.t 7)⟩,
 ⟨some 9, none, .bin .lss (.t 6) (.t 8)⟩]) (
 .cond (.t 9) (
 .skip) (
 .exit 0))) (
 .seq (
 .block 1 (
 .seq (
 .reg (some []) [
 ⟨some 13, none, .load false 1 (.t 2)⟩,
 ⟨some 14, none, .load false 1 (.t 1)⟩,
 ⟨some 15, none, .mov (.t 4)⟩,
 ⟨some 16, none, .slc 1 (.t 14) (some (.t 15)) none none⟩,
 ⟨some 17, none, .len (.t 16)⟩,
 ⟨some 18, none, .mm false (.t 13) (.t 17)⟩,
 ⟨some 5, none, .mov (.t 18)⟩]) (
 .gh [.keep [0, 1, 2, 4, 5]] (
 .seq (
 .reg none [
 ⟨some 19, none, .mov (.t 0)⟩,
 ⟨some 20, none, .load false 1 (.t 1)⟩,
 ⟨some 21, none, .mov (.t 4)⟩,
 ⟨some 22, none, .mov (.t 4)⟩,
 ⟨some 23, none, .mov (.t 5)⟩,
 ⟨some 24, none, .bin .add (.t 22) (.t 23)⟩,
 ⟨some 25, none, .mov (.t 4)⟩,
 ⟨some 26, none, .mov (.t 5)⟩,
 ⟨some 27, none, .bin .add (.t 25) (.t 26)⟩,
 ⟨some 28, none, .slc 1 (.t 20) (some (.t 21)) (some (.t 24)) (some (.t 27))⟩,
 ⟨some 29, none, .icallv (.t 19) [(.t 28)]⟩,
 ⟨some 30, none, .not (.t 29)⟩]) (
 .gh [.keep [0, 1, 2, 4, 30]] (
 .cond (.t 30) (
 .ret) (
 .skip))))))) (
 .reg none [
 ⟨some 10, none, .mov (.t 4)⟩,
 ⟨some 11, none, .load false 1 (.t 2)⟩,
 ⟨some 12, none, .bin .add (.t 10) (.t 11)⟩,
 ⟨some 4, none, .mov (.t 12)⟩]))
def b132_0 : ACode := .gh [.keep [0, 1, 2, 4]] (.gh [] l132_0)
def c132 : ACode :=
 .seq (
 .reg none [
 ⟨some 4, none, .mov (.c (.int .i64 0))⟩]) (
 .block 0 (
 .loop b132_0))
def a132 : AFunc := ⟨31, c132, []⟩
def c133 : ACode :=
 .seq (
 .reg none [
 ⟨some 4, none, .mov (.c (.bool false))⟩]) (
 .seq (
 .reg none [
 ⟨some 5, none, .mov (.t 0)⟩,
 ⟨some 6, none, .ncall true 0 138 [(.t 5)]⟩,
 ⟨some 7, none, .mov (.t 6)⟩,
 ⟨some 8, (some (7, true)), .mov (.t 1)⟩,
 ⟨some 9, (some (7, true)), .ncall true 0 138 [(.t 8)]⟩,
 ⟨some 10, (some (7, true)), .not (.t 9)⟩,
 ⟨some 11, none, .pick (.t 7) (.t 10) (.c (.bool false))⟩,
 ⟨some 12, none, .mov (.t 11)⟩,
 ⟨some 13, (some (12, false)), .mov (.t 0)⟩,
 ⟨some 14, (some (12, false)), .mov (.t 1)⟩,
 ⟨some 15, (some (12, false)), .bin .lss (.t 13) (.t 14)⟩,
 ⟨some 16, none, .pick (.t 12) (.c (.bool true)) (.t 15)⟩,
 ⟨some 4, none, .mov (.t 16)⟩]) (
 .gh [.keep [4]] (
 .ret)))
def a133 : AFunc := ⟨17, c133, [.tmp 4]⟩
def c134 : ACode :=
 .seq (
 .reg none [
 ⟨some 2, none, .mov (.c (.bool false))⟩]) (
 .seq (
 .reg none [
 ⟨some 3, none, .mov (.t 0)⟩,
 ⟨some 4, none, .mov (.t 0)⟩,
 ⟨some 5, none, .bin .neq (.t 3) (.t 4)⟩,
 ⟨some 2, none, .mov (.t 5)⟩]) (
 .ret))
def a134 : AFunc := ⟨6, c134, [.tmp 2]⟩
def c135 : ACode :=
 .seq (
 .reg none [
 ⟨some 2, none, .box 135003 79 (.t 0)⟩,
 ⟨some 3, none, .box 135004 79 (.t 1)⟩,
 ⟨some 4, none, .mov (.c (.bool false))⟩]) (
 .seq (
 .reg none [
 ⟨some 5, none, .faddr 0 (.t 2)⟩,
 ⟨some 6, none, .load false 1 (.t 5)⟩,
 ⟨some 7, none, .faddr 1 (.t 3)⟩,
 ⟨some 8, none, .load false 1 (.t 7)⟩,
 ⟨some 9, none, .bin .mul (.t 6) (.t 8)⟩,
 ⟨some 10, none, .faddr 0 (.t 3)⟩,
 ⟨some 11, none, .load false 1 (.t 10)⟩,
 ⟨some 12, none, .faddr 1 (.t 2)⟩,
 ⟨some 13, none, .load false 1 (.t 12)⟩,
 ⟨some 14, none, .bin .mul (.t 11) (.t 13)⟩,
 ⟨some 15, none, .bin .lss (.t 9) (.t 14)⟩,
 ⟨some 4, none, .mov (.t 15)⟩]) (
 .gh [.keep [4]] (
 .ret)))
def a135 : AFunc := ⟨16, c135, [.tmp 4]⟩
def c136 : ACode :=
 .seq (
 .reg none [
 ⟨some 4, none, .mov (.c .nils)⟩]) (
 .seq (
 .seq (
 .reg none [
 ⟨some 5, none, .mov (.t 1)⟩,
 ⟨some 6, none, .bin .lss (.t 5) (.c (.int .i64 0))⟩]) (
 .cond (.t 6) (
 .junk /- op makeInterface -/) (
 .skip))) (
 .seq (
 .seq (
 .reg none [
 ⟨some 8, none, .mov (.t 1)⟩,
 ⟨some 9, none, .mov (.t 0)⟩,
 ⟨some 10, none, .capl (.t 9)⟩,
 ⟨some 11, none, .mov (.t 0)⟩,
 ⟨some 12, none, .len (.t 11)⟩,
 ⟨some 13, none, .bin .sub (.t 10) (.t 12)⟩,
 ⟨some 14, none, .bin .sub (.t 8) (.t 13)⟩,
 ⟨some 1, none, .mov (.t 14)⟩]) (
 .gh [.keep [0, 1]] (
 .seq (
 .reg none [
 ⟨some 15, none, .mov (.t 1)⟩,
 ⟨some 16, none, .bin .gtr (.t 15) (.c (.int .i64 0))⟩]) (
 .cond (.t 16) (
 .reg none [
 ⟨some 17, none, .mov (.t 0)⟩,
 ⟨some 18, none, .mov (.t 0)⟩,
 ⟨some 19, none, .capl (.t 18)⟩,
 ⟨some 20, none, .slc 1 (.t 17) none (some (.t 19)) none⟩,
 ⟨some 21, none, .mov (.t 1)⟩,
 ⟨some 22, none, .appz 136023 3 1 (.int .i64 0) (.t 20) (.t 21)⟩,
 ⟨some 23, none, .mov (.t 0)⟩,
 ⟨some 24, none, .len (.t 23)⟩,
 ⟨some 25, none, .slc 1 (.t 22) none (some (.t 24)) none⟩,
 ⟨some 0, none, .mov (.t 25)⟩]) (
 .skip))))) (
 .seq (
 .reg none [
 ⟨some 26, none, .mov (.t 0)⟩,
 ⟨some 4, none, .mov (.t 26)⟩]) (
 .ret))))
def a136 : AFunc := ⟨27, c136, [.tmp 4]⟩
def l137_1 : ACode :=
 .seq (
 .seq (
 .reg none [
 ⟨some 33, none, .mov (.t 8)⟩,
 ⟨some 34, none, .mov (.t 1)⟩,
 ⟨some 35, none, .bin .leq (.t 33) (.t 34)⟩]) (
 .cond (.t 35) (
 .skip) (
 .exit 4))) (
 .block 5 (
 .seq (
 .reg none [
 ⟨some 36, none, .mov (.t 0)⟩,
 ⟨some 37, none, .mov (.t 7)⟩,
 ⟨some 38, none, .mov (.t 7)⟩,
 ⟨some 39, none, .mov (.t 6)⟩,
 ⟨some 40, none, .bin .add (.t 38) (.t 39)⟩,
 ⟨some 41, none, .mov (.t 8)⟩,
 ⟨some 42, none, .mov (.t 2)⟩,
 ⟨some 43, none, .ncall true 0 140 [(.t 36), (.t 37), (.t 40), (.t 41), (.t 42)]⟩]) (
 .gh [.keep [0, 1, 2, 6, 8]] (
 .seq (
 .reg none [
 ⟨some 44, none, .mov (.t 8)⟩,
 ⟨some 7, none, .mov (.t 44)⟩]) (
 .reg none [
 ⟨some 45, none, .mov (.t 8)⟩,
 ⟨some 46, none, .mov (.t 6)⟩,
 ⟨some 47, none, .bin .mul (.c (.int .i64 2)) (.t 46)⟩,
 ⟨some 48, none, .bin .add (.t 45) (.t 47)⟩,
 ⟨some 8, none, .mov (.t 48)⟩])))))
def b137_1 : ACode := .gh [.keep [0, 1, 2, 6, 7, 8]] (.gh [] l137_1)
def l137_0 : ACode :=
 .seq (
 .seq (
 .reg none [
 ⟨some 28, none, .mov (.t 6)⟩,
 ⟨some 29, none, .mov (.t 1)⟩,
 ⟨some 30, none, .bin .lss (.t 28) (.t 29)⟩]) (
 .cond (.t 30) (
 .skip) (
 .exit 2))) (
 .block 3 (
 .seq (
 .reg none [
 ⟨some 31, none, .mov (.t 6)⟩,
 ⟨some 32, none, .bin .mul (.c (.int .i64 2)) (.t 31)⟩,
 ⟨some 7, none, .mov (.c (.int .i64 0))⟩,
 ⟨some 8, none, .mov (.t 32)⟩]) (
 .seq (
 .block 4 (
 .loop b137_1)) (
 .seq (
 .seq (
 .reg none [
 ⟨some 49, none, .mov (.t 7)⟩,
 ⟨some 50, none, .mov (.t 6)⟩,
 ⟨some 51, none, .bin .add (.t 49) (.t 50)⟩,
 ⟨some 9, none, .mov (.t 51)⟩]) (
 .seq (
 .reg none [
 ⟨some 52, none, .mov (.t 9)⟩,
 ⟨some 53, none, .mov (.t 1)⟩,
 ⟨some 54, none, .bin .lss (.t 52) (.t 53)⟩]) (
 .cond (.t 54) (
 .reg none [
 ⟨some 55, none, .mov (.t 0)⟩,
 ⟨some 56, none, .mov (.t 7)⟩,
 ⟨some 57, none, .mov (.t 9)⟩,
 ⟨some 58, none, .mov (.t 1)⟩,
 ⟨some 59, none, .mov (.t 2)⟩,
 ⟨some 60, none, .ncall true 0 140 [(.t 55), (.t 56), (.t 57), (.t 58), (.t 59)]⟩]) (
 .skip)))) (
 .reg none [
 ⟨some 61, none, .mov (.t 6)⟩,
 ⟨some 62, none, .bin .mul (.t 61) (.c (.int .i64 2))⟩,
 ⟨some 6, none, .mov (.t 62)⟩])))))
def b137_0 : ACode := .gh [.keep [0, 1, 2, 6]] (.gh [] l137_0)
def l137_2 : ACode :=
 .seq (
 .seq (
 .reg none [
 ⟨some 11, none, .mov (.t 8)⟩,
 ⟨some 12, none, .mov (.t 1)⟩,
 ⟨some 13, none, .bin .leq (.t 11) (.t 12)⟩]) (
 .cond (.t 13) (
 .skip) (
 .exit 0))) (
 .block 1 (
 .seq (
 .reg none [
 ⟨some 14, none, .mov (.t 0)⟩,
 ⟨some 15, none, .mov (.t 7)⟩,
 ⟨some 16, none, .mov (.t 8)⟩,
 ⟨some 17, none, .mov (.t 2)⟩,
 ⟨some 18, none, .ncall true 0 139 [(.t 14), (.t 15), (.t 16), (.t 17)]⟩]) (
 .seq (
 .reg none [
 ⟨some 19, none, .mov (.t 8)⟩,
 ⟨some 7, none, .mov (.t 19)⟩]) (
 .reg none [
 ⟨some 20, none, .mov (.t 8)⟩,
 ⟨some 21, none, .mov (.t 6)⟩,
 ⟨some 22, none, .bin .add (.t 20) (.t 21)⟩,
 ⟨some 8, none, .mov (.t 22)⟩]))))
def b137_2 : ACode := .gh [.keep [0, 1, 2, 6, 7, 8]] (.gh [] l137_2)
def c137 : ACode :=
 .seq (
 .reg none [
 ⟨some 6, none, .mov (.c (.int .i64 20))⟩]) (
 .seq (
 .reg none [
 ⟨some 10, none, .mov (.t 6)⟩,
 ⟨some 7, none, .mov (.c (.int .i64 0))⟩,
 ⟨some 8, none, .mov (.t 10)⟩]) (
 .seq (
 .block 0 (
 .loop b137_2)) (
 .seq (
 .reg none [
 ⟨some 23, none, .mov (.t 0)⟩,
 ⟨some 24, none, .mov (.t 7)⟩,
 ⟨some 25, none, .mov (.t 1)⟩,
 ⟨some 26, none, .mov (.t 2)⟩,
 ⟨some 27, none, .ncall true 0 139 [(.t 23), (.t 24), (.t 25), (.t 26)]⟩]) (
 .block 2 (
 .loop b137_0)))))
def a137 : AFunc := ⟨63, c137, []⟩
def c138 : ACode :=
 .seq (
 .reg none [
 ⟨some 2, none, .mov (.c (.bool false))⟩]) (
 .seq (
 .reg none [
 ⟨some 3, none, .mov (.t 0)⟩,
 ⟨some 4, none, .mov (.t 0)⟩,
 ⟨some 5, none, .bin .neq (.t 3) (.t 4)⟩,
 ⟨some 2, none, .mov (.t 5)⟩]) (
 .ret))
def a138 : AFunc := ⟨6, c138, [.tmp 2]⟩
def l139_1 : ACode :=
 .seq (
 .seq (
 .reg (some []) [
 ⟨some 18, none, .mov (.t 9)⟩,
 ⟨some 19, none, .mov (.t 1)⟩,
 ⟨some 20, none, .bin .gtr (.t 18) (.t 19)⟩,
 ⟨some 21, none, .mov (.t 20)⟩,
 ⟨some 22, (some (21, true)), .mov (.t 3)⟩,
 ⟨some 23, (some (21, true)), .mov (.t 0)⟩,
 ⟨some 24, (some (21, true)), .mov (.t 9)⟩,
 ⟨some 25, (some (21, true)), .iaddr 5 (.t 23) (.t 24)⟩,
 ⟨some 26, (some (21, true)), .load true 5 (.t 25)⟩,
 ⟨some 27, (some (21, true)), .mov (.t 0)⟩,
 ⟨some 28, (some (21, true)), .mov (.t 9)⟩,
 ⟨some 29, (some (21, true)), .bin .sub (.t 28) (.c (.int .i64 1))⟩,
 ⟨some 30, (some (21, true)), .iaddr 5 (.t 27) (.t 29)⟩,
 ⟨some 31, (some (21, true)), .load true 5 (.t 30)⟩,
 ⟨some 32, (some (21, true)), .ncallv true 0 (.t 22) [(.t 26), (.t 31)]⟩,
 ⟨some 33, (some (21, true)), .bin .lss (.t 32) (.c (.int .i64 0))⟩,
 ⟨some 34, none, .pick (.t 21) (.t 33) (.c (.bool false))⟩]) (
 .gh [.keep [0, 1, 2, 3, 8, 9, 34]] (
 .cond (.t 34) (
 .skip) (
 .exit 2)))) (
 .seq (
 .block 3 (
 .reg (some [(2, 15), (3, 15), (4, 15)]) [
 ⟨some 37, none, .mov (.t 0)⟩,
 ⟨some 38, none, .mov (.t 9)⟩,
 ⟨some 39, none, .mov (.t 0)⟩,
 ⟨some 40, none, .mov (.t 9)⟩,
 ⟨some 41, none, .bin .sub (.t 40) (.c (.int .i64 1))⟩,
 ⟨some 42, none, .mov (.t 0)⟩,
 ⟨some 43, none, .mov (.t 9)⟩,
 ⟨some 44, none, .bin .sub (.t 43) (.c (.int .i64 1))⟩,
 ⟨some 45, none, .iaddr 5 (.t 42) (.t 44)⟩,
 ⟨some 46, none, .load true 5 (.t 45)⟩,
 ⟨some 47, none, .mov (.t 0)⟩,
 ⟨some 48, none, .mov (.t 9)⟩,
 ⟨some 49, none, .iaddr 5 (.t 47) (.t 48)⟩,
 ⟨some 50, none, .load true 5 (.t 49)⟩,
 ⟨some 51, none, .iaddr 5 (.t 37) (.t 38)⟩,
 ⟨none, none, .store 5 (.t 51) (.t 46)⟩,
 ⟨some 52, none, .iaddr 5 (.t 39) (.t 41)⟩,
 ⟨none, none, .store 5 (.t 52) (.t 50)⟩])) (
 .reg none [
 ⟨some 35, none, .mov (.t 9)⟩,
 ⟨some 36, none, .bin .sub (.t 35) (.c (.int .i64 1))⟩,
 ⟨some 9, none, .mov (.t 36)⟩]))
def b139_1 : ACode := .gh [.keep [0, 1, 2, 3, 8, 9]] (.gh [] l139_1)
def l139_0 : ACode :=
 .seq (
 .seq (
 .reg none [
 ⟨some 12, none, .mov (.t 8)⟩,
 ⟨some 13, none, .mov (.t 2)⟩,
 ⟨some 14, none, .bin .lss (.t 12) (.t 13)⟩]) (
 .cond (.t 14) (
 .skip) (
 .exit 0))) (
 .seq (
 .block 1 (
 .seq (
 .reg none [
 ⟨some 17, none, .mov (.t 8)⟩,
 ⟨some 9, none, .mov (.t 17)⟩]) (
 .block 2 (
 .loop b139_1)))) (
 .reg none [
 ⟨some 15, none, .mov (.t 8)⟩,
 ⟨some 16, none, .bin .add (.t 15) (.c (.int .i64 1))⟩,
 ⟨some 8, none, .mov (.t 16)⟩]))
def b139_0 : ACode := .gh [.keep [0, 1, 2, 3, 8]] (.gh [] l139_0)
def c139 : ACode :=
 .seq (
 .reg none [
 ⟨some 10, none, .mov (.t 1)⟩,
 ⟨some 11, none, .bin .add (.t 10) (.c (.int .i64 1))⟩,
 ⟨some 8, none, .mov (.t 11)⟩]) (
 .block 0 (
 .loop b139_0))
def a139 : AFunc := ⟨53, c139, []⟩
def l140_0 : ACode :=
 .seq (
 .seq (
 .reg none [
 ⟨some 149, none, .mov (.t 20)⟩,
 ⟨some 150, none, .mov (.t 21)⟩,
 ⟨some 151, none, .bin .lss (.t 149) (.t 150)⟩]) (
 .cond (.t 151) (
 .skip) (
 .exit 8))) (
 .block 9 (
 .seq (
 .reg none [
 ⟨some 152, none, .mov (.t 20)⟩,
 ⟨some 153, none, .mov (.t 21)⟩,
 ⟨some 154, none, .bin .add (.t 152) (.t 153)⟩,
 ⟨some 155, none, .conv .u64 (.t 154)⟩,
 ⟨some 156, none, .bin .shr (.t 155) (.c (.int .u64 1))⟩,
 ⟨some 157, none, .conv .i64 (.t 156)⟩,
 ⟨some 23, none, .mov (.t 157)⟩]) (
 .gh [.keep [0, 1, 2, 3, 4, 18, 19, 20, 21, 22, 23]] (
 .seq (
 .reg (some []) [
 ⟨some 158, none, .mov (.t 4)⟩,
 ⟨some 159, none, .mov (.t 0)⟩,
 ⟨some 160, none, .mov (.t 22)⟩,
 ⟨some 161, none, .mov (.t 23)⟩,
 ⟨some 162, none, .bin .sub (.t 160) (.t 161)⟩,
 ⟨some 163, none, .iaddr 5 (.t 159) (.t 162)⟩,
 ⟨some 164, none, .load true 5 (.t 163)⟩,
 ⟨some 165, none, .mov (.t 0)⟩,
 ⟨some 166, none, .mov (.t 23)⟩,
 ⟨some 167, none, .iaddr 5 (.t 165) (.t 166)⟩,
 ⟨some 168, none, .load true 5 (.t 167)⟩,
 ⟨some 169, none, .ncallv true 0 (.t 158) [(.t 164), (.t 168)]⟩,
 ⟨some 170, none, .bin .lss (.t 169) (.c (.int .i64 0))⟩,
 ⟨some 171, none, .not (.t 170)⟩]) (
 .gh [.keep [0, 1, 2, 3, 4, 18, 19, 20, 21, 22, 23, 171]] (
 .cond (.t 171) (
 .reg none [
 ⟨some 172, none, .mov (.t 23)⟩,
 ⟨some 173, none, .bin .add (.t 172) (.c (.int .i64 1))⟩,
 ⟨some 20, none, .mov (.t 173)⟩]) (
 .reg none [
 ⟨some 174, none, .mov (.t 23)⟩,
 ⟨some 21, none, .mov (.t 174)⟩])))))))
def b140_0 : ACode := .gh [.keep [0, 1, 2, 3, 4, 18, 19, 20, 21, 22]] (.gh [] l140_0)
def l140_1 : ACode :=
 .seq (
 .seq (
 .reg none [
 ⟨some 108, none, .mov (.t 17)⟩,
 ⟨some 109, none, .mov (.t 14)⟩,
 ⟨some 110, none, .bin .gtr (.t 108) (.t 109)⟩]) (
 .cond (.t 110) (
 .skip) (
 .exit 6))) (
 .seq (
 .block 7 (
 .reg (some [(2, 15), (3, 15), (4, 15)]) [
 ⟨some 113, none, .mov (.t 0)⟩,
 ⟨some 114, none, .mov (.t 17)⟩,
 ⟨some 115, none, .mov (.t 0)⟩,
 ⟨some 116, none, .mov (.t 17)⟩,
 ⟨some 117, none, .bin .sub (.t 116) (.c (.int .i64 1))⟩,
 ⟨some 118, none, .mov (.t 0)⟩,
 ⟨some 119, none, .mov (.t 17)⟩,
 ⟨some 120, none, .bin .sub (.t 119) (.c (.int .i64 1))⟩,
 ⟨some 121, none, .iaddr 5 (.t 118) (.t 120)⟩,
 ⟨some 122, none, .load true 5 (.t 121)⟩,
 ⟨some 123, none, .mov (.t 0)⟩,
 ⟨some 124, none, .mov (.t 17)⟩,
 ⟨some 125, none, .iaddr 5 (.t 123) (.t 124)⟩,
 ⟨some 126, none, .load true 5 (.t 125)⟩,
 ⟨some 127, none, .iaddr 5 (.t 113) (.t 114)⟩,
 ⟨none, none, .store 5 (.t 127) (.t 122)⟩,
 ⟨some 128, none, .iaddr 5 (.t 115) (.t 117)⟩,
 ⟨none, none, .store 5 (.t 128) (.t 126)⟩])) (
 .reg none [
 ⟨some 111, none, .mov (.t 17)⟩,
 ⟨some 112, none, .bin .sub (.t 111) (.c (.int .i64 1))⟩,
 ⟨some 17, none, .mov (.t 112)⟩]))
def b140_1 : ACode := .gh [.keep [0, 14, 17]] (.gh [] l140_1)
def l140_2 : ACode :=
 .seq (
 .seq (
 .reg none [
 ⟨some 83, none, .mov (.t 14)⟩,
 ⟨some 84, none, .mov (.t 15)⟩,
 ⟨some 85, none, .bin .lss (.t 83) (.t 84)⟩]) (
 .cond (.t 85) (
 .skip) (
 .exit 4))) (
 .block 5 (
 .seq (
 .reg none [
 ⟨some 86, none, .mov (.t 14)⟩,
 ⟨some 87, none, .mov (.t 15)⟩,
 ⟨some 88, none, .bin .add (.t 86) (.t 87)⟩,
 ⟨some 89, none, .conv .u64 (.t 88)⟩,
 ⟨some 90, none, .bin .shr (.t 89) (.c (.int .u64 1))⟩,
 ⟨some 91, none, .conv .i64 (.t 90)⟩,
 ⟨some 16, none, .mov (.t 91)⟩]) (
 .gh [.keep [0, 2, 4, 14, 15, 16]] (
 .seq (
 .reg (some []) [
 ⟨some 92, none, .mov (.t 4)⟩,
 ⟨some 93, none, .mov (.t 0)⟩,
 ⟨some 94, none, .mov (.t 2)⟩,
 ⟨some 95, none, .iaddr 5 (.t 93) (.t 94)⟩,
 ⟨some 96, none, .load true 5 (.t 95)⟩,
 ⟨some 97, none, .mov (.t 0)⟩,
 ⟨some 98, none, .mov (.t 16)⟩,
 ⟨some 99, none, .iaddr 5 (.t 97) (.t 98)⟩,
 ⟨some 100, none, .load true 5 (.t 99)⟩,
 ⟨some 101, none, .ncallv true 0 (.t 92) [(.t 96), (.t 100)]⟩,
 ⟨some 102, none, .bin .lss (.t 101) (.c (.int .i64 0))⟩,
 ⟨some 103, none, .not (.t 102)⟩]) (
 .gh [.keep [0, 2, 4, 14, 15, 16, 103]] (
 .cond (.t 103) (
 .reg none [
 ⟨some 104, none, .mov (.t 16)⟩,
 ⟨some 105, none, .bin .add (.t 104) (.c (.int .i64 1))⟩,
 ⟨some 14, none, .mov (.t 105)⟩]) (
 .reg none [
 ⟨some 106, none, .mov (.t 16)⟩,
 ⟨some 15, none, .mov (.t 106)⟩])))))))
def b140_2 : ACode := .gh [.keep [0, 2, 4, 14, 15]] (.gh [] l140_2)
def l140_3 : ACode :=
 .seq (
 .seq (
 .reg none [
 ⟨some 55, none, .mov (.t 13)⟩,
 ⟨some 56, none, .mov (.t 10)⟩,
 ⟨some 57, none, .bin .sub (.t 56) (.c (.int .i64 1))⟩,
 ⟨some 58, none, .bin .lss (.t 55) (.t 57)⟩]) (
 .cond (.t 58) (
 .skip) (
 .exit 2))) (
 .seq (
 .block 3 (
 .reg (some [(2, 15), (3, 15), (4, 15)]) [
 ⟨some 61, none, .mov (.t 0)⟩,
 ⟨some 62, none, .mov (.t 13)⟩,
 ⟨some 63, none, .mov (.t 0)⟩,
 ⟨some 64, none, .mov (.t 13)⟩,
 ⟨some 65, none, .bin .add (.t 64) (.c (.int .i64 1))⟩,
 ⟨some 66, none, .mov (.t 0)⟩,
 ⟨some 67, none, .mov (.t 13)⟩,
 ⟨some 68, none, .bin .add (.t 67) (.c (.int .i64 1))⟩,
 ⟨some 69, none, .iaddr 5 (.t 66) (.t 68)⟩,
 ⟨some 70, none, .load true 5 (.t 69)⟩,
 ⟨some 71, none, .mov (.t 0)⟩,
 ⟨some 72, none, .mov (.t 13)⟩,
 ⟨some 73, none, .iaddr 5 (.t 71) (.t 72)⟩,
 ⟨some 74, none, .load true 5 (.t 73)⟩,
 ⟨some 75, none, .iaddr 5 (.t 61) (.t 62)⟩,
 ⟨none, none, .store 5 (.t 75) (.t 70)⟩,
 ⟨some 76, none, .iaddr 5 (.t 63) (.t 65)⟩,
 ⟨none, none, .store 5 (.t 76) (.t 74)⟩])) (
 .reg none [
 ⟨some 59, none, .mov (.t 13)⟩,
 ⟨some 60, none, .bin .add (.t 59) (.c (.int .i64 1))⟩,
 ⟨some 13, none, .mov (.t 60)⟩]))
def b140_3 : ACode := .gh [.keep [0, 10, 13]] (.gh [] l140_3)
def l140_4 : ACode :=
 .seq (
 .seq (
 .reg none [
 ⟨some 31, none, .mov (.t 10)⟩,
 ⟨some 32, none, .mov (.t 11)⟩,
 ⟨some 33, none, .bin .lss (.t 31) (.t 32)⟩]) (
 .cond (.t 33) (
 .skip) (
 .exit 0))) (
 .block 1 (
 .seq (
 .reg none [
 ⟨some 34, none, .mov (.t 10)⟩,
 ⟨some 35, none, .mov (.t 11)⟩,
 ⟨some 36, none, .bin .add (.t 34) (.t 35)⟩,
 ⟨some 37, none, .conv .u64 (.t 36)⟩,
 ⟨some 38, none, .bin .shr (.t 37) (.c (.int .u64 1))⟩,
 ⟨some 39, none, .conv .i64 (.t 38)⟩,
 ⟨some 12, none, .mov (.t 39)⟩]) (
 .gh [.keep [0, 1, 4, 10, 11, 12]] (
 .seq (
 .reg (some []) [
 ⟨some 40, none, .mov (.t 4)⟩,
 ⟨some 41, none, .mov (.t 0)⟩,
 ⟨some 42, none, .mov (.t 12)⟩,
 ⟨some 43, none, .iaddr 5 (.t 41) (.t 42)⟩,
 ⟨some 44, none, .load true 5 (.t 43)⟩,
 ⟨some 45, none, .mov (.t 0)⟩,
 ⟨some 46, none, .mov (.t 1)⟩,
 ⟨some 47, none, .iaddr 5 (.t 45) (.t 46)⟩,
 ⟨some 48, none, .load true 5 (.t 47)⟩,
 ⟨some 49, none, .ncallv true 0 (.t 40) [(.t 44), (.t 48)]⟩,
 ⟨some 50, none, .bin .lss (.t 49) (.c (.int .i64 0))⟩]) (
 .gh [.keep [0, 1, 4, 10, 11, 12, 50]] (
 .cond (.t 50) (
 .reg none [
 ⟨some 51, none, .mov (.t 12)⟩,
 ⟨some 52, none, .bin .add (.t 51) (.c (.int .i64 1))⟩,
 ⟨some 10, none, .mov (.t 52)⟩]) (
 .reg none [
 ⟨some 53, none, .mov (.t 12)⟩,
 ⟨some 11, none, .mov (.t 53)⟩])))))))
def b140_4 : ACode := .gh [.keep [0, 1, 4, 10, 11]] (.gh [] l140_4)
def c140 : ACode :=
 .seq (
 .seq (
 .reg none [
 ⟨some 25, none, .mov (.t 2)⟩,
 ⟨some 26, none, .mov (.t 1)⟩,
 ⟨some 27, none, .bin .sub (.t 25) (.t 26)⟩,
 ⟨some 28, none, .bin .eql (.t 27) (.c (.int .i64 1))⟩]) (
 .cond (.t 28) (
 .seq (
 .reg none [
 ⟨some 29, none, .mov (.t 2)⟩,
 ⟨some 10, none, .mov (.t 29)⟩]) (
 .seq (
 .reg none [
 ⟨some 30, none, .mov (.t 3)⟩,
 ⟨some 11, none, .mov (.t 30)⟩]) (
 .seq (
 .block 0 (
 .loop b140_4)) (
 .seq (
 .seq (
 .reg none [
 ⟨some 54, none, .mov (.t 1)⟩,
 ⟨some 13, none, .mov (.t 54)⟩]) (
 .block 2 (
 .loop b140_3))) (
 .ret))))) (
 .skip))) (
 .seq (
 .seq (
 .reg none [
 ⟨some 77, none, .mov (.t 3)⟩,
 ⟨some 78, none, .mov (.t 2)⟩,
 ⟨some 79, none, .bin .sub (.t 77) (.t 78)⟩,
 ⟨some 80, none, .bin .eql (.t 79) (.c (.int .i64 1))⟩]) (
 .cond (.t 80) (
 .seq (
 .reg none [
 ⟨some 81, none, .mov (.t 1)⟩,
 ⟨some 14, none, .mov (.t 81)⟩]) (
 .seq (
 .reg none [
 ⟨some 82, none, .mov (.t 2)⟩,
 ⟨some 15, none, .mov (.t 82)⟩]) (
 .seq (
 .block 4 (
 .loop b140_2)) (
 .seq (
 .seq (
 .reg none [
 ⟨some 107, none, .mov (.t 2)⟩,
 ⟨some 17, none, .mov (.t 107)⟩]) (
 .block 6 (
 .loop b140_1))) (
 .ret))))) (
 .skip))) (
 .seq (
 .reg none [
 ⟨some 129, none, .mov (.t 1)⟩,
 ⟨some 130, none, .mov (.t 3)⟩,
 ⟨some 131, none, .bin .add (.t 129) (.t 130)⟩,
 ⟨some 132, none, .conv .u64 (.t 131)⟩,
 ⟨some 133, none, .bin .shr (.t 132) (.c (.int .u64 1))⟩,
 ⟨some 134, none, .conv .i64 (.t 133)⟩,
 ⟨some 18, none, .mov (.t 134)⟩]) (
 .gh [.keep [0, 1, 2, 3, 4, 18]] (
 .seq (
 .reg none [
 ⟨some 135, none, .mov (.t 18)⟩,
 ⟨some 136, none, .mov (.t 2)⟩,
 ⟨some 137, none, .bin .add (.t 135) (.t 136)⟩,
 ⟨some 19, none, .mov (.t 137)⟩]) (
 .seq (
 .reg none [
 ⟨some 20, none, .mov (.c (.int .i64 0))⟩,
 ⟨some 21, none, .mov (.c (.int .i64 0))⟩]) (
 .seq (
 .seq (
 .reg none [
 ⟨some 138, none, .mov (.t 2)⟩,
 ⟨some 139, none, .mov (.t 18)⟩,
 ⟨some 140, none, .bin .gtr (.t 138) (.t 139)⟩]) (
 .cond (.t 140) (
 .seq (
 .reg none [
 ⟨some 141, none, .mov (.t 19)⟩,
 ⟨some 142, none, .mov (.t 3)⟩,
 ⟨some 143, none, .bin .sub (.t 141) (.t 142)⟩,
 ⟨some 20, none, .mov (.t 143)⟩]) (
 .reg none [
 ⟨some 144, none, .mov (.t 18)⟩,
 ⟨some 21, none, .mov (.t 144)⟩])) (
 .seq (
 .reg none [
 ⟨some 145, none, .mov (.t 1)⟩,
 ⟨some 20, none, .mov (.t 145)⟩]) (
 .reg none [
 ⟨some 146, none, .mov (.t 2)⟩,
 ⟨some 21, none, .mov (.t 146)⟩])))) (
 .seq (
 .reg none [
 ⟨some 147, none, .mov (.t 19)⟩,
 ⟨some 148, none, .bin .sub (.t 147) (.c (.int .i64 1))⟩,
 ⟨some 22, none, .mov (.t 148)⟩]) (
 .seq (
 .block 8 (
 .loop b140_0)) (
 .seq (
 .reg none [
 ⟨some 175, none, .mov (.t 19)⟩,
 ⟨some 176, none, .mov (.t 20)⟩,
 ⟨some 177, none, .bin .sub (.t 175) (.t 176)⟩,
 ⟨some 24, none, .mov (.t 177)⟩]) (
 .seq (
 .seq (
 .reg none [
 ⟨some 178, none, .mov (.t 20)⟩,
 ⟨some 179, none, .mov (.t 2)⟩,
 ⟨some 180, none, .bin .lss (.t 178) (.t 179)⟩,
 ⟨some 181, none, .mov (.t 180)⟩,
 ⟨some 182, (some (181, true)), .mov (.t 2)⟩,
 ⟨some 183, (some (181, true)), .mov (.t 24)⟩,
 ⟨some 184, (some (181, true)), .bin .lss (.t 182) (.t 183)⟩,
 ⟨some 185, none, .pick (.t 181) (.t 184) (.c (.bool false))⟩]) (
 .gh [.keep [0, 1, 2, 3, 4, 18, 20, 24, 185]] (
 .cond (.t 185) (
 .reg none [
 ⟨some 186, none, .mov (.t 0)⟩,
 ⟨some 187, none, .mov (.t 20)⟩,
 ⟨some 188, none, .mov (.t 2)⟩,
 ⟨some 189, none, .mov (.t 24)⟩,
 ⟨some 190, none, .mov (.t 4)⟩,
 ⟨some 191, none, .ncall true 0 141 [(.t 186), (.t 187), (.t 188), (.t 189), (.t 190)]⟩]) (
 .skip)))) (
 .seq (
 .seq (
 .reg none [
 ⟨some 192, none, .mov (.t 1)⟩,
 ⟨some 193, none, .mov (.t 20)⟩,
 ⟨some 194, none, .bin .lss (.t 192) (.t 193)⟩,
 ⟨some 195, none, .mov (.t 194)⟩,
 ⟨some 196, (some (195, true)), .mov (.t 20)⟩,
 ⟨some 197, (some (195, true)), .mov (.t 18)⟩,
 ⟨some 198, (some (195, true)), .bin .lss (.t 196) (.t 197)⟩,
 ⟨some 199, none, .pick (.t 195) (.t 198) (.c (.bool false))⟩]) (
 .gh [.keep [0, 1, 3, 4, 18, 20, 24, 199]] (
 .cond (.t 199) (
 .reg none [
 ⟨some 200, none, .mov (.t 0)⟩,
 ⟨some 201, none, .mov (.t 1)⟩,
 ⟨some 202, none, .mov (.t 20)⟩,
 ⟨some 203, none, .mov (.t 18)⟩,
 ⟨some 204, none, .mov (.t 4)⟩,
 ⟨some 205, none, .ncall true 0 140 [(.t 200), (.t 201), (.t 202), (.t 203), (.t 204)]⟩]) (
 .skip)))) (
 .seq (
 .reg none [
 ⟨some 206, none, .mov (.t 18)⟩,
 ⟨some 207, none, .mov (.t 24)⟩,
 ⟨some 208, none, .bin .lss (.t 206) (.t 207)⟩,
 ⟨some 209, none, .mov (.t 208)⟩,
 ⟨some 210, (some (209, true)), .mov (.t 24)⟩,
 ⟨some 211, (some (209, true)), .mov (.t 3)⟩,
 ⟨some 212, (some (209, true)), .bin .lss (.t 210) (.t 211)⟩,
 ⟨some 213, none, .pick (.t 209) (.t 212) (.c (.bool false))⟩]) (
 .gh [.keep [0, 3, 4, 18, 24, 213]] (
 .cond (.t 213) (
 .reg none [
 ⟨some 214, none, .mov (.t 0)⟩,
 ⟨some 215, none, .mov (.t 18)⟩,
 ⟨some 216, none, .mov (.t 24)⟩,
 ⟨some 217, none, .mov (.t 3)⟩,
 ⟨some 218, none, .mov (.t 4)⟩,
 ⟨some 219, none, .ncall true 0 140 [(.t 214), (.t 215), (.t 216), (.t 217), (.t 218)]⟩]) (
 .skip)))))))))))))))
def a140 : AFunc := ⟨220, c140, []⟩
def l141_0 : ACode :=
 .seq (
 .seq (
 .reg none [
 ⟨some 18, none, .mov (.t 10)⟩,
 ⟨some 19, none, .mov (.t 11)⟩,
 ⟨some 20, none, .bin .neq (.t 18) (.t 19)⟩]) (
 .cond (.t 20) (
 .skip) (
 .exit 0))) (
 .block 1 (
 .seq (
 .reg none [
 ⟨some 21, none, .mov (.t 10)⟩,
 ⟨some 22, none, .mov (.t 11)⟩,
 ⟨some 23, none, .bin .gtr (.t 21) (.t 22)⟩]) (
 .cond (.t 23) (
 .seq (
 .reg none [
 ⟨some 24, none, .mov (.t 0)⟩,
 ⟨some 25, none, .mov (.t 2)⟩,
 ⟨some 26, none, .mov (.t 10)⟩,
 ⟨some 27, none, .bin .sub (.t 25) (.t 26)⟩,
 ⟨some 28, none, .mov (.t 2)⟩,
 ⟨some 29, none, .mov (.t 11)⟩,
 ⟨some 30, none, .mov (.t 4)⟩,
 ⟨some 31, none, .ncall true 0 142 [(.t 24), (.t 27), (.t 28), (.t 29), (.t 30)]⟩]) (
 .gh [.keep [0, 2, 4, 10, 11]] (
 .reg none [
 ⟨some 32, none, .mov (.t 10)⟩,
 ⟨some 33, none, .mov (.t 11)⟩,
 ⟨some 34, none, .bin .sub (.t 32) (.t 33)⟩,
 ⟨some 10, none, .mov (.t 34)⟩]))) (
 .seq (
 .reg none [
 ⟨some 35, none, .mov (.t 0)⟩,
 ⟨some 36, none, .mov (.t 2)⟩,
 ⟨some 37, none, .mov (.t 10)⟩,
 ⟨some 38, none, .bin .sub (.t 36) (.t 37)⟩,
 ⟨some 39, none, .mov (.t 2)⟩,
 ⟨some 40, none, .mov (.t 11)⟩,
 ⟨some 41, none, .bin .add (.t 39) (.t 40)⟩,
 ⟨some 42, none, .mov (.t 10)⟩,
 ⟨some 43, none, .bin .sub (.t 41) (.t 42)⟩,
 ⟨some 44, none, .mov (.t 10)⟩,
 ⟨some 45, none, .mov (.t 4)⟩,
 ⟨some 46, none, .ncall true 0 142 [(.t 35), (.t 38), (.t 43), (.t 44), (.t 45)]⟩]) (
 .gh [.keep [0, 2, 4, 10, 11]] (
 .reg none [
 ⟨some 47, none, .mov (.t 11)⟩,
 ⟨some 48, none, .mov (.t 10)⟩,
 ⟨some 49, none, .bin .sub (.t 47) (.t 48)⟩,
 ⟨some 11, none, .mov (.t 49)⟩]))))))
def b141_0 : ACode := .gh [.keep [0, 2, 4, 10, 11]] (.gh [] l141_0)
def c141 : ACode :=
 .seq (
 .reg none [
 ⟨some 12, none, .mov (.t 2)⟩,
 ⟨some 13, none, .mov (.t 1)⟩,
 ⟨some 14, none, .bin .sub (.t 12) (.t 13)⟩,
 ⟨some 10, none, .mov (.t 14)⟩]) (
 .seq (
 .reg none [
 ⟨some 15, none, .mov (.t 3)⟩,
 ⟨some 16, none, .mov (.t 2)⟩,
 ⟨some 17, none, .bin .sub (.t 15) (.t 16)⟩,
 ⟨some 11, none, .mov (.t 17)⟩]) (
 .seq (
 .block 0 (
 .loop b141_0)) (
 .reg none [
 ⟨some 50, none, .mov (.t 0)⟩,
 ⟨some 51, none, .mov (.t 2)⟩,
 ⟨some 52, none, .mov (.t 10)⟩,
 ⟨some 53, none, .bin .sub (.t 51) (.t 52)⟩,
 ⟨some 54, none, .mov (.t 2)⟩,
 ⟨some 55, none, .mov (.t 10)⟩,
 ⟨some 56, none, .mov (.t 4)⟩,
 ⟨some 57, none, .ncall true 0 142 [(.t 50), (.t 53), (.t 54), (.t 55), (.t 56)]⟩])))
def a141 : AFunc := ⟨58, c141, []⟩
def l142_0 : ACode :=
 .seq (
 .seq (
 .reg none [
 ⟨some 11, none, .mov (.t 10)⟩,
 ⟨some 12, none, .mov (.t 3)⟩,
 ⟨some 13, none, .bin .lss (.t 11) (.t 12)⟩]) (
 .cond (.t 13) (
 .skip) (
 .exit 0))) (
 .seq (
 .block 1 (
 .reg (some [(4, 21), (5, 21), (6, 21), (7, 21)]) [
 ⟨some 16, none, .mov (.t 0)⟩,
 ⟨some 17, none, .mov (.t 1)⟩,
 ⟨some 18, none, .mov (.t 10)⟩,
 ⟨some 19, none, .bin .add (.t 17) (.t 18)⟩,
 ⟨some 20, none, .mov (.t 0)⟩,
 ⟨some 21, none, .mov (.t 2)⟩,
 ⟨some 22, none, .mov (.t 10)⟩,
 ⟨some 23, none, .bin .add (.t 21) (.t 22)⟩,
 ⟨some 24, none, .mov (.t 0)⟩,
 ⟨some 25, none, .mov (.t 2)⟩,
 ⟨some 26, none, .mov (.t 10)⟩,
 ⟨some 27, none, .bin .add (.t 25) (.t 26)⟩,
 ⟨some 28, none, .iaddr 5 (.t 24) (.t 27)⟩,
 ⟨some 29, none, .load true 5 (.t 28)⟩,
 ⟨some 30, none, .mov (.t 0)⟩,
 ⟨some 31, none, .mov (.t 1)⟩,
 ⟨some 32, none, .mov (.t 10)⟩,
 ⟨some 33, none, .bin .add (.t 31) (.t 32)⟩,
 ⟨some 34, none, .iaddr 5 (.t 30) (.t 33)⟩,
 ⟨some 35, none, .load true 5 (.t 34)⟩,
 ⟨some 36, none, .iaddr 5 (.t 16) (.t 19)⟩,
 ⟨none, none, .store 5 (.t 36) (.t 29)⟩,
 ⟨some 37, none, .iaddr 5 (.t 20) (.t 23)⟩,
 ⟨none, none, .store 5 (.t 37) (.t 35)⟩])) (
 .reg none [
 ⟨some 14, none, .mov (.t 10)⟩,
 ⟨some 15, none, .bin .add (.t 14) (.c (.int .i64 1))⟩,
 ⟨some 10, none, .mov (.t 15)⟩]))
def b142_0 : ACode := .gh [.keep [0, 1, 2, 3, 10]] (.gh [] l142_0)
def c142 : ACode :=
 .seq (
 .reg none [
 ⟨some 10, none, .mov (.c (.int .i64 0))⟩]) (
 .block 0 (
 .loop b142_0))
def a142 : AFunc := ⟨38, c142, []⟩
end Go.Proofs.Ytjhdnpmojhkbjaa
