/- The code of the program, for the machine, part 2. Printed by gen2.py. -/
import Derived.Test.YtimmgjppippdiaaTp
namespace Go.Proofs.Ytimmgjppippdiaa
/-! 161 cassegrain/code.solved params [46, 3] nfree 0 ntmps 146 -/
def l161_0 : ACode :=
 .seq (
 .reg none [
 ⟨some 125, none, .bin .lss (.t 124) (.t 123)⟩]) (
 .seq (
 .cond (.t 125) (
 .skip) (
 .exit 8)) (
 .seq (
 .block 9 (
 .seq (
 .reg none [
 ⟨some 126, none, .mov (.t 124)⟩,
 ⟨some 127, none, .iaddr 1 (.t 122) (.t 124)⟩,
 ⟨some 128, none, .load false 1 (.t 127)⟩,
 ⟨some 15, none, .mov (.t 126)⟩,
 ⟨some 16, none, .mov (.t 128)⟩]) (
 .seq (
 .seq (
 .reg none [
 ⟨some 129, none, .mov (.t 15)⟩,
 ⟨some 130, none, .mov (.t 1)⟩,
 ⟨some 131, none, .bin .lss (.t 129) (.t 130)⟩]) (
 .cond (.t 131) (
 .seq (
 .reg none [
 ⟨some 132, none, .mov (.t 14)⟩,
 ⟨some 133, none, .mov (.t 16)⟩,
 ⟨some 134, none, .mov (.t 1)⟩,
 ⟨some 135, none, .iaddr 1 (.t 133) (.t 134)⟩,
 ⟨some 136, none, .load false 1 (.t 135)⟩,
 ⟨some 137, none, .bslice 161138 3 1 [(.t 136)]⟩,
 ⟨some 138, none, .append 161139 3 1 (.t 132) (.t 137)⟩,
 ⟨some 14, none, .mov (.t 138)⟩]) (
 .gh [.keep [1, 14, 122, 123, 124]] (
 .exit 9))) (
 .skip))) (
 .seq (
 .reg none [
 ⟨some 139, none, .mov (.t 16)⟩,
 ⟨some 140, none, .mov (.t 1)⟩,
 ⟨some 141, none, .iaddr 1 (.t 139) (.t 140)⟩,
 ⟨some 142, none, .load false 1 (.t 141)⟩,
 ⟨some 143, none, .bin .neq (.t 142) (.c (.int .i64 0))⟩]) (
 .cond (.t 143) (
 .seq (
 .reg none [
 ⟨some 4, none, .mov (.c .nils)⟩,
 ⟨some 5, none, .mov (.c (.bool false))⟩]) (
 .ret)) (
 .skip)))))) (
 .reg none [
 ⟨some 144, none, .bin .add (.t 124) (.c (.int .i64 1))⟩,
 ⟨some 124, none, .mov (.t 144)⟩])))
def b161_0 : ACode := .gh [.keep [1, 14, 122, 123, 124]] (.gh [] l161_0)
def l161_3 : ACode :=
 .seq (
 .reg none [
 ⟨some 102, none, .bin .lss (.t 101) (.t 100)⟩]) (
 .seq (
 .cond (.t 102) (
 .skip) (
 .exit 6)) (
 .seq (
 .block 7 (
 .seq (
 .reg none [
 ⟨some 103, none, .mov (.t 101)⟩,
 ⟨some 13, none, .mov (.t 103)⟩]) (
 .reg (some []) [
 ⟨some 104, none, .mov (.t 11)⟩,
 ⟨some 105, none, .mov (.t 13)⟩,
 ⟨some 106, none, .iaddr 1 (.t 104) (.t 105)⟩,
 ⟨some 107, none, .load false 1 (.t 106)⟩,
 ⟨some 108, none, .mov (.t 0)⟩,
 ⟨some 109, none, .load false 1 (.t 6)⟩,
 ⟨some 110, none, .iaddr 1 (.t 108) (.t 109)⟩,
 ⟨some 111, none, .load false 1 (.t 110)⟩,
 ⟨some 112, none, .mov (.t 13)⟩,
 ⟨some 113, none, .iaddr 1 (.t 111) (.t 112)⟩,
 ⟨some 114, none, .load false 1 (.t 113)⟩,
 ⟨some 115, none, .mov (.t 12)⟩,
 ⟨some 116, none, .ncall true 0 104 [(.t 114), (.t 115)]⟩,
 ⟨some 117, none, .bin .xor (.t 107) (.t 116)⟩,
 ⟨some 118, none, .iaddr 1 (.t 104) (.t 105)⟩,
 ⟨none, none, .store 1 (.t 118) (.t 117)⟩]))) (
 .reg none [
 ⟨some 119, none, .bin .add (.t 101) (.c (.int .i64 1))⟩,
 ⟨some 101, none, .mov (.t 119)⟩])))
def b161_3 : ACode := .gh [.keep [0, 1, 6, 11, 12, 17, 18, 81, 82, 83, 100, 101]] (.gh [] l161_3)
def l161_2 : ACode :=
 .seq (
 .reg none [
 ⟨some 84, none, .bin .lss (.t 83) (.t 82)⟩]) (
 .seq (
 .cond (.t 84) (
 .skip) (
 .exit 4)) (
 .seq (
 .block 5 (
 .seq (
 .reg none [
 ⟨some 85, none, .mov (.t 83)⟩,
 ⟨some 86, none, .iaddr 1 (.t 81) (.t 83)⟩,
 ⟨some 87, none, .load false 1 (.t 86)⟩,
 ⟨some 10, none, .mov (.t 85)⟩,
 ⟨some 11, none, .mov (.t 87)⟩]) (
 .seq (
 .reg none [
 ⟨some 88, none, .mov (.t 11)⟩,
 ⟨some 89, none, .load false 1 (.t 6)⟩,
 ⟨some 90, none, .iaddr 1 (.t 88) (.t 89)⟩,
 ⟨some 91, none, .load false 1 (.t 90)⟩,
 ⟨some 12, none, .mov (.t 91)⟩]) (
 .seq (
 .reg none [
 ⟨some 92, none, .mov (.t 10)⟩,
 ⟨some 93, none, .load false 1 (.t 6)⟩,
 ⟨some 94, none, .bin .neq (.t 92) (.t 93)⟩,
 ⟨some 95, none, .mov (.t 94)⟩,
 ⟨some 96, (some (95, true)), .mov (.t 12)⟩,
 ⟨some 97, (some (95, true)), .bin .neq (.t 96) (.c (.int .i64 0))⟩,
 ⟨some 98, none, .pick (.t 95) (.t 97) (.c (.bool false))⟩]) (
 .gh [.keep [0, 1, 6, 11, 12, 17, 18, 81, 82, 83, 98]] (
 .cond (.t 98) (
 .seq (
 .reg none [
 ⟨some 99, none, .mov (.t 11)⟩,
 ⟨some 100, none, .len (.t 99)⟩,
 ⟨some 101, none, .mov (.c (.int .i64 0))⟩]) (
 .block 6 (
 .loop b161_3))) (
 .skip))))))) (
 .reg none [
 ⟨some 120, none, .bin .add (.t 83) (.c (.int .i64 1))⟩,
 ⟨some 83, none, .mov (.t 120)⟩])))
def b161_2 : ACode := .gh [.keep [0, 1, 6, 17, 18, 81, 82, 83]] (.gh [] l161_2)
def l161_4 : ACode :=
 .seq (
 .reg none [
 ⟨some 63, none, .bin .lss (.t 62) (.t 61)⟩]) (
 .seq (
 .cond (.t 63) (
 .skip) (
 .exit 2)) (
 .seq (
 .block 3 (
 .seq (
 .reg none [
 ⟨some 64, none, .mov (.t 62)⟩,
 ⟨some 9, none, .mov (.t 64)⟩]) (
 .reg (some []) [
 ⟨some 65, none, .mov (.t 0)⟩,
 ⟨some 66, none, .load false 1 (.t 6)⟩,
 ⟨some 67, none, .iaddr 1 (.t 65) (.t 66)⟩,
 ⟨some 68, none, .load false 1 (.t 67)⟩,
 ⟨some 69, none, .mov (.t 9)⟩,
 ⟨some 70, none, .mov (.t 0)⟩,
 ⟨some 71, none, .load false 1 (.t 6)⟩,
 ⟨some 72, none, .iaddr 1 (.t 70) (.t 71)⟩,
 ⟨some 73, none, .load false 1 (.t 72)⟩,
 ⟨some 74, none, .mov (.t 9)⟩,
 ⟨some 75, none, .iaddr 1 (.t 73) (.t 74)⟩,
 ⟨some 76, none, .load false 1 (.t 75)⟩,
 ⟨some 77, none, .mov (.t 8)⟩,
 ⟨some 78, none, .ncall true 0 104 [(.t 76), (.t 77)]⟩,
 ⟨some 79, none, .iaddr 1 (.t 68) (.t 69)⟩,
 ⟨none, none, .store 1 (.t 79) (.t 78)⟩]))) (
 .reg none [
 ⟨some 80, none, .bin .add (.t 62) (.c (.int .i64 1))⟩,
 ⟨some 62, none, .mov (.t 80)⟩])))
def b161_4 : ACode := .gh [.keep [0, 1, 6, 8, 17, 18, 61, 62]] (.gh [] l161_4)
def l161_1 : ACode :=
 .seq (
 .reg none [
 ⟨some 19, none, .bin .lss (.t 18) (.t 17)⟩]) (
 .seq (
 .cond (.t 19) (
 .skip) (
 .exit 0)) (
 .seq (
 .block 1 (
 .seq (
 .reg none [
 ⟨some 20, none, .mov (.t 18)⟩,
 ⟨some 6, none, .alloc 161007 3 (.int .i64 0)⟩,
 ⟨none, none, .store 1 (.t 6) (.t 20)⟩]) (
 .seq (
 .reg none [
 ⟨some 21, none, .mov (.t 0)⟩,
 ⟨some 22, none, .load false 1 (.t 6)⟩,
 ⟨some 23, none, .mov (.t 0)⟩,
 ⟨some 24, none, .len (.t 23)⟩,
 ⟨some 25, none, .mm false (.t 22) (.t 24)⟩,
 ⟨some 26, none, .slc 1 (.t 21) (some (.t 25)) none none⟩,
 ⟨some 27, none, .mkfn 175 [(.t 6)]⟩,
 ⟨some 28, none, .ncall true 0 174 [(.t 26), (.t 27)]⟩,
 ⟨some 7, none, .mov (.t 28)⟩]) (
 .gh [.keep [0, 1, 6, 7, 17, 18]] (
 .seq (
 .seq (
 .reg none [
 ⟨some 29, none, .mov (.t 7)⟩,
 ⟨some 30, none, .bin .lss (.t 29) (.c (.int .i64 0))⟩]) (
 .cond (.t 30) (
 .seq (
 .reg none [
 ⟨some 4, none, .mov (.c .nils)⟩,
 ⟨some 5, none, .mov (.c (.bool false))⟩]) (
 .ret)) (
 .skip))) (
 .seq (
 .reg (some [(2, 17), (3, 17), (4, 17), (5, 17)]) [
 ⟨some 31, none, .mov (.t 0)⟩,
 ⟨some 32, none, .load false 1 (.t 6)⟩,
 ⟨some 33, none, .mov (.t 0)⟩,
 ⟨some 34, none, .load false 1 (.t 6)⟩,
 ⟨some 35, none, .mov (.t 7)⟩,
 ⟨some 36, none, .bin .add (.t 34) (.t 35)⟩,
 ⟨some 37, none, .mov (.t 0)⟩,
 ⟨some 38, none, .load false 1 (.t 6)⟩,
 ⟨some 39, none, .mov (.t 7)⟩,
 ⟨some 40, none, .bin .add (.t 38) (.t 39)⟩,
 ⟨some 41, none, .iaddr 1 (.t 37) (.t 40)⟩,
 ⟨some 42, none, .load false 1 (.t 41)⟩,
 ⟨some 43, none, .mov (.t 0)⟩,
 ⟨some 44, none, .load false 1 (.t 6)⟩,
 ⟨some 45, none, .iaddr 1 (.t 43) (.t 44)⟩,
 ⟨some 46, none, .load false 1 (.t 45)⟩,
 ⟨some 47, none, .iaddr 1 (.t 31) (.t 32)⟩,
 ⟨none, none, .store 1 (.t 47) (.t 42)⟩,
 ⟨some 48, none, .iaddr 1 (.t 33) (.t 36)⟩,
 ⟨none, none, .store 1 (.t 48) (.t 46)⟩]) (
 .gh [.keep [0, 1, 6, 17, 18]] (
 .seq (
 .reg (some []) [
 ⟨some 49, none, .mov (.t 0)⟩,
 ⟨some 50, none, .load false 1 (.t 6)⟩,
 ⟨some 51, none, .iaddr 1 (.t 49) (.t 50)⟩,
 ⟨some 52, none, .load false 1 (.t 51)⟩,
 ⟨some 53, none, .load false 1 (.t 6)⟩,
 ⟨some 54, none, .iaddr 1 (.t 52) (.t 53)⟩,
 ⟨some 55, none, .load false 1 (.t 54)⟩,
 ⟨some 56, none, .ncall true 0 172 [(.t 55)]⟩,
 ⟨some 8, none, .mov (.t 56)⟩]) (
 .gh [.keep [0, 1, 6, 8, 17, 18]] (
 .seq (
 .seq (
 .reg none [
 ⟨some 57, none, .mov (.t 0)⟩,
 ⟨some 58, none, .load false 1 (.t 6)⟩,
 ⟨some 59, none, .iaddr 1 (.t 57) (.t 58)⟩,
 ⟨some 60, none, .load false 1 (.t 59)⟩,
 ⟨some 61, none, .len (.t 60)⟩,
 ⟨some 62, none, .mov (.c (.int .i64 0))⟩]) (
 .block 2 (
 .loop b161_4))) (
 .seq (
 .reg none [
 ⟨some 81, none, .mov (.t 0)⟩,
 ⟨some 82, none, .len (.t 81)⟩,
 ⟨some 83, none, .mov (.c (.int .i64 0))⟩]) (
 .block 4 (
 .loop b161_2))))))))))))) (
 .reg none [
 ⟨some 121, none, .bin .add (.t 18) (.c (.int .i64 1))⟩,
 ⟨some 18, none, .mov (.t 121)⟩])))
def b161_1 : ACode := .gh [.keep [0, 1, 17, 18]] (.gh [] l161_1)
def k161_0 : List AItem := .inLoop b161_0 :: [.inBlock 8,
 .code (.seq (
 .reg none [
 ⟨some 145, none, .mov (.t 14)⟩,
 ⟨some 4, none, .mov (.t 145)⟩,
 ⟨some 5, none, .mov (.c (.bool true))⟩]) (
 .ret))]
def k161_3 : List AItem := .inLoop b161_3 :: [.inBlock 6,
 .inBlock 5,
 .code (.reg none [
 ⟨some 120, none, .bin .add (.t 83) (.c (.int .i64 1))⟩,
 ⟨some 83, none, .mov (.t 120)⟩]),
 .inLoop b161_2,
 .inBlock 4,
 .inBlock 1,
 .code (.reg none [
 ⟨some 121, none, .bin .add (.t 18) (.c (.int .i64 1))⟩,
 ⟨some 18, none, .mov (.t 121)⟩]),
 .inLoop b161_1,
 .inBlock 0,
 .code (.seq (
 .reg none [
 ⟨some 14, none, .mov (.c .nils)⟩]) (
 .seq (
 .seq (
 .reg none [
 ⟨some 122, none, .mov (.t 0)⟩,
 ⟨some 123, none, .len (.t 122)⟩,
 ⟨some 124, none, .mov (.c (.int .i64 0))⟩]) (
 .block 8 (
 .loop b161_0))) (
 .seq (
 .reg none [
 ⟨some 145, none, .mov (.t 14)⟩,
 ⟨some 4, none, .mov (.t 145)⟩,
 ⟨some 5, none, .mov (.c (.bool true))⟩]) (
 .ret))))]
def k161_2 : List AItem := .inLoop b161_2 :: [.inBlock 4,
 .inBlock 1,
 .code (.reg none [
 ⟨some 121, none, .bin .add (.t 18) (.c (.int .i64 1))⟩,
 ⟨some 18, none, .mov (.t 121)⟩]),
 .inLoop b161_1,
 .inBlock 0,
 .code (.seq (
 .reg none [
 ⟨some 14, none, .mov (.c .nils)⟩]) (
 .seq (
 .seq (
 .reg none [
 ⟨some 122, none, .mov (.t 0)⟩,
 ⟨some 123, none, .len (.t 122)⟩,
 ⟨some 124, none, .mov (.c (.int .i64 0))⟩]) (
 .block 8 (
 .loop b161_0))) (
 .seq (
 .reg none [
 ⟨some 145, none, .mov (.t 14)⟩,
 ⟨some 4, none, .mov (.t 145)⟩,
 ⟨some 5, none, .mov (.c (.bool true))⟩]) (
 .ret))))]
def k161_4 : List AItem := .inLoop b161_4 :: [.inBlock 2,
 .code (.seq (
 .reg none [
 ⟨some 81, none, .mov (.t 0)⟩,
 ⟨some 82, none, .len (.t 81)⟩,
 ⟨some 83, none, .mov (.c (.int .i64 0))⟩]) (
 .block 4 (
 .loop b161_2))),
 .inBlock 1,
 .code (.reg none [
 ⟨some 121, none, .bin .add (.t 18) (.c (.int .i64 1))⟩,
 ⟨some 18, none, .mov (.t 121)⟩]),
 .inLoop b161_1,
 .inBlock 0,
 .code (.seq (
 .reg none [
 ⟨some 14, none, .mov (.c .nils)⟩]) (
 .seq (
 .seq (
 .reg none [
 ⟨some 122, none, .mov (.t 0)⟩,
 ⟨some 123, none, .len (.t 122)⟩,
 ⟨some 124, none, .mov (.c (.int .i64 0))⟩]) (
 .block 8 (
 .loop b161_0))) (
 .seq (
 .reg none [
 ⟨some 145, none, .mov (.t 14)⟩,
 ⟨some 4, none, .mov (.t 145)⟩,
 ⟨some 5, none, .mov (.c (.bool true))⟩]) (
 .ret))))]
def k161_1 : List AItem := .inLoop b161_1 :: [.inBlock 0,
 .code (.seq (
 .reg none [
 ⟨some 14, none, .mov (.c .nils)⟩]) (
 .seq (
 .seq (
 .reg none [
 ⟨some 122, none, .mov (.t 0)⟩,
 ⟨some 123, none, .len (.t 122)⟩,
 ⟨some 124, none, .mov (.c (.int .i64 0))⟩]) (
 .block 8 (
 .loop b161_0))) (
 .seq (
 .reg none [
 ⟨some 145, none, .mov (.t 14)⟩,
 ⟨some 4, none, .mov (.t 145)⟩,
 ⟨some 5, none, .mov (.c (.bool true))⟩]) (
 .ret))))]
def c161 : ACode :=
 .seq (
 .reg none [
 ⟨some 4, none, .mov (.c .nils)⟩,
 ⟨some 5, none, .mov (.c (.bool false))⟩]) (
 .seq (
 .seq (
 .reg none [
 ⟨some 17, none, .mov (.t 1)⟩,
 ⟨some 18, none, .mov (.c (.int .i64 0))⟩]) (
 .block 0 (
 .loop b161_1))) (
 .seq (
 .reg none [
 ⟨some 14, none, .mov (.c .nils)⟩]) (
 .seq (
 .seq (
 .reg none [
 ⟨some 122, none, .mov (.t 0)⟩,
 ⟨some 123, none, .len (.t 122)⟩,
 ⟨some 124, none, .mov (.c (.int .i64 0))⟩]) (
 .block 8 (
 .loop b161_0))) (
 .seq (
 .reg none [
 ⟨some 145, none, .mov (.t 14)⟩,
 ⟨some 4, none, .mov (.t 145)⟩,
 ⟨some 5, none, .mov (.c (.bool true))⟩]) (
 .ret)))))
def a161 : AFunc := ⟨146, c161, [.tmp 4, .tmp 5]⟩
/-! 163 slices.Repeat[[]float32,float32] params [170, 3] nfree 0 ntmps 48 -/
def l163_0 : ACode :=
 .seq (
 .seq (
 .reg none [
 ⟨some 34, none, .mov (.t 8)⟩,
 ⟨some 35, none, .mov (.t 7)⟩,
 ⟨some 36, none, .len (.t 35)⟩,
 ⟨some 37, none, .bin .lss (.t 34) (.t 36)⟩]) (
 .cond (.t 37) (
 .skip) (
 .exit 0))) (
 .block 1 (
 .reg (some [(0, 7)]) [
 ⟨some 38, none, .mov (.t 8)⟩,
 ⟨some 39, none, .mov (.t 7)⟩,
 ⟨some 40, none, .mov (.t 8)⟩,
 ⟨some 41, none, .slc 1 (.t 39) (some (.t 40)) none none⟩,
 ⟨some 42, none, .mov (.t 7)⟩,
 ⟨some 43, none, .mov (.t 8)⟩,
 ⟨some 44, none, .slc 1 (.t 42) none (some (.t 43)) none⟩,
 ⟨some 45, none, .copy 1 (.t 41) (.t 44)⟩,
 ⟨some 46, none, .bin .add (.t 38) (.t 45)⟩,
 ⟨some 8, none, .mov (.t 46)⟩]))
def b163_0 : ACode := .gh [.keep [7, 8]] (.gh [] l163_0)
def k163_0 : List AItem := .inLoop b163_0 :: [.inBlock 0,
 .code (.seq (
 .reg none [
 ⟨some 47, none, .mov (.t 7)⟩,
 ⟨some 4, none, .mov (.t 47)⟩]) (
 .ret))]
def c163 : ACode :=
 .seq (
 .reg none [
 ⟨some 4, none, .mov (.c .nils)⟩]) (
 .seq (
 .seq (
 .reg none [
 ⟨some 9, none, .mov (.t 1)⟩,
 ⟨some 10, none, .bin .lss (.t 9) (.c (.int .i64 0))⟩]) (
 .cond (.t 10) (
 .junk /- op makeInterface -/) (
 .skip))) (
 .seq (
 .reg none [
 ⟨some 13, none, .mov (.t 0)⟩,
 ⟨some 14, none, .len (.t 13)⟩,
 ⟨some 15, none, .conv .u64 (.t 14)⟩,
 ⟨some 16, none, .mov (.t 1)⟩,
 ⟨some 17, none, .conv .u64 (.t 16)⟩,
 ⟨some 18, none, .ncall true 0 154 [(.t 15), (.t 17)]⟩,
 ⟨some 12, none, .mov (.t 18)⟩,
 ⟨some 19, none, .ext 0 (.t 12)⟩,
 ⟨some 20, none, .ext 1 (.t 12)⟩,
 ⟨some 5, none, .mov (.t 19)⟩,
 ⟨some 6, none, .mov (.t 20)⟩]) (
 .gh [.keep [0, 5, 6]] (
 .seq (
 .seq (
 .reg none [
 ⟨some 21, none, .mov (.t 5)⟩,
 ⟨some 22, none, .bin .gtr (.t 21) (.c (.int .u64 0))⟩,
 ⟨some 23, none, .mov (.t 22)⟩,
 ⟨some 24, (some (23, false)), .mov (.t 6)⟩,
 ⟨some 25, (some (23, false)), .bin .gtr (.t 24) (.c (.int .u64 9223372036854775807))⟩,
 ⟨some 26, none, .pick (.t 23) (.c (.bool true)) (.t 25)⟩]) (
 .cond (.t 26) (
 .junk /- op makeInterface -/) (
 .skip))) (
 .seq (
 .reg none [
 ⟨some 28, none, .mov (.t 6)⟩,
 ⟨some 29, none, .conv .i64 (.t 28)⟩,
 ⟨some 30, none, .mkslice 163031 143 1 (.flt .f32 0) (.t 29)⟩,
 ⟨some 7, none, .mov (.t 30)⟩]) (
 .seq (
 .reg none [
 ⟨some 31, none, .mov (.t 7)⟩,
 ⟨some 32, none, .mov (.t 0)⟩,
 ⟨some 33, none, .copy 1 (.t 31) (.t 32)⟩,
 ⟨some 8, none, .mov (.t 33)⟩]) (
 .seq (
 .block 0 (
 .loop b163_0)) (
 .seq (
 .reg none [
 ⟨some 47, none, .mov (.t 7)⟩,
 ⟨some 4, none, .mov (.t 47)⟩]) (
 .ret)))))))))
def a163 : AFunc := ⟨48, c163, [.tmp 4]⟩
/-! 164 slices.IndexFunc[[]int,int] params [25, 40] nfree 0 ntmps 19 -/
def l164_0 : ACode :=
 .seq (
 .reg none [
 ⟨some 9, none, .bin .lss (.t 8) (.t 7)⟩]) (
 .seq (
 .cond (.t 9) (
 .skip) (
 .exit 0)) (
 .seq (
 .block 1 (
 .seq (
 .reg none [
 ⟨some 10, none, .mov (.t 8)⟩,
 ⟨some 5, none, .mov (.t 10)⟩]) (
 .seq (
 .reg none [
 ⟨some 11, none, .mov (.t 1)⟩,
 ⟨some 12, none, .mov (.t 0)⟩,
 ⟨some 13, none, .mov (.t 5)⟩,
 ⟨some 14, none, .iaddr 1 (.t 12) (.t 13)⟩,
 ⟨some 15, none, .load false 1 (.t 14)⟩,
 ⟨some 16, none, .icallv (.t 11) [(.t 15)]⟩]) (
 .cond (.t 16) (
 .seq (
 .reg none [
 ⟨some 17, none, .mov (.t 5)⟩,
 ⟨some 4, none, .mov (.t 17)⟩]) (
 .ret)) (
 .skip))))) (
 .reg none [
 ⟨some 18, none, .bin .add (.t 8) (.c (.int .i64 1))⟩,
 ⟨some 8, none, .mov (.t 18)⟩])))
def b164_0 : ACode := .gh [.keep [0, 1, 7, 8]] (.gh [] l164_0)
def k164_0 : List AItem := .inLoop b164_0 :: [.inBlock 0,
 .code (.seq (
 .reg none [
 ⟨some 4, none, .mov (.c (.int .i64 (-1)))⟩]) (
 .ret))]
def c164 : ACode :=
 .seq (
 .reg none [
 ⟨some 4, none, .mov (.c (.int .i64 0))⟩]) (
 .seq (
 .seq (
 .reg none [
 ⟨some 6, none, .mov (.t 0)⟩,
 ⟨some 7, none, .len (.t 6)⟩,
 ⟨some 8, none, .mov (.c (.int .i64 0))⟩]) (
 .block 0 (
 .loop b164_0))) (
 .seq (
 .reg none [
 ⟨some 4, none, .mov (.c (.int .i64 (-1)))⟩]) (
 .ret)))
def a164 : AFunc := ⟨19, c164, [.tmp 4]⟩
/-! 165 slices.Index[[]int,int] params [25, 3] nfree 0 ntmps 19 -/
def l165_0 : ACode :=
 .seq (
 .reg none [
 ⟨some 9, none, .bin .lss (.t 8) (.t 7)⟩]) (
 .seq (
 .cond (.t 9) (
 .skip) (
 .exit 0)) (
 .seq (
 .block 1 (
 .seq (
 .reg none [
 ⟨some 10, none, .mov (.t 8)⟩,
 ⟨some 5, none, .mov (.t 10)⟩]) (
 .seq (
 .reg none [
 ⟨some 11, none, .mov (.t 1)⟩,
 ⟨some 12, none, .mov (.t 0)⟩,
 ⟨some 13, none, .mov (.t 5)⟩,
 ⟨some 14, none, .iaddr 1 (.t 12) (.t 13)⟩,
 ⟨some 15, none, .load false 1 (.t 14)⟩,
 ⟨some 16, none, .bin .eql (.t 11) (.t 15)⟩]) (
 .cond (.t 16) (
 .seq (
 .reg none [
 ⟨some 17, none, .mov (.t 5)⟩,
 ⟨some 4, none, .mov (.t 17)⟩]) (
 .ret)) (
 .skip))))) (
 .reg none [
 ⟨some 18, none, .bin .add (.t 8) (.c (.int .i64 1))⟩,
 ⟨some 8, none, .mov (.t 18)⟩])))
def b165_0 : ACode := .gh [.keep [0, 1, 7, 8]] (.gh [] l165_0)
def k165_0 : List AItem := .inLoop b165_0 :: [.inBlock 0,
 .code (.seq (
 .reg none [
 ⟨some 4, none, .mov (.c (.int .i64 (-1)))⟩]) (
 .ret))]
def c165 : ACode :=
 .seq (
 .reg none [
 ⟨some 4, none, .mov (.c (.int .i64 0))⟩]) (
 .seq (
 .seq (
 .reg none [
 ⟨some 6, none, .mov (.t 0)⟩,
 ⟨some 7, none, .len (.t 6)⟩,
 ⟨some 8, none, .mov (.c (.int .i64 0))⟩]) (
 .block 0 (
 .loop b165_0))) (
 .seq (
 .reg none [
 ⟨some 4, none, .mov (.c (.int .i64 (-1)))⟩]) (
 .ret)))
def a165 : AFunc := ⟨19, c165, [.tmp 4]⟩
/-! 166 math/bits.OnesCount32 params [183] nfree 0 ntmps 21 -/
def c166 : ACode :=
 .seq (
 .reg none [
 ⟨some 2, none, .mov (.c (.int .i64 0))⟩]) (
 .seq (
 .reg (some []) [
 ⟨some 3, none, .mov (.t 0)⟩,
 ⟨some 4, none, .bin .shr (.t 3) (.c (.int .u64 24))⟩,
 ⟨some 5, none, .sidx (.c (.str [0, 1, 1, 2, 1, 2, 2, 3, 1, 2, 2, 3, 2, 3, 3, 4, 1, 2, 2, 3, 2, 3, 3, 4, 2, 3, 3, 4, 3, 4, 4, 5, 1, 2, 2, 3, 2, 3, 3, 4, 2, 3, 3, 4, 3, 4, 4, 5, 2, 3, 3, 4, 3, 4, 4, 5, 3, 4, 4, 5, 4, 5, 5, 6, 1, 2, 2, 3, 2, 3, 3, 4, 2, 3, 3, 4, 3, 4, 4, 5, 2, 3, 3, 4, 3, 4, 4, 5, 3, 4, 4, 5, 4, 5, 5, 6, 2, 3, 3, 4, 3, 4, 4, 5, 3, 4, 4, 5, 4, 5, 5, 6, 3, 4, 4, 5, 4, 5, 5, 6, 4, 5, 5, 6, 5, 6, 6, 7, 1, 2, 2, 3, 2, 3, 3, 4, 2, 3, 3, 4, 3, 4, 4, 5, 2, 3, 3, 4, 3, 4, 4, 5, 3, 4, 4, 5, 4, 5, 5, 6, 2, 3, 3, 4, 3, 4, 4, 5, 3, 4, 4, 5, 4, 5, 5, 6, 3, 4, 4, 5, 4, 5, 5, 6, 4, 5, 5, 6, 5, 6, 6, 7, 2, 3, 3, 4, 3, 4, 4, 5, 3, 4, 4, 5, 4, 5, 5, 6, 3, 4, 4, 5, 4, 5, 5, 6, 4, 5, 5, 6, 5, 6, 6, 7, 3, 4, 4, 5, 4, 5, 5, 6, 4, 5, 5, 6, 5, 6, 6, 7, 4, 5, 5, 6, 5, 6, 6, 7, 5, 6, 6, 7, 6, 7, 7, 8])) (.t 4)⟩,
 ⟨some 6, none, .mov (.t 0)⟩,
 ⟨some 7, none, .bin .shr (.t 6) (.c (.int .u64 16))⟩,
 ⟨some 8, none, .bin .and (.t 7) (.c (.int .u32 255))⟩,
 ⟨some 9, none, .sidx (.c (.str [0, 1, 1, 2, 1, 2, 2, 3, 1, 2, 2, 3, 2, 3, 3, 4, 1, 2, 2, 3, 2, 3, 3, 4, 2, 3, 3, 4, 3, 4, 4, 5, 1, 2, 2, 3, 2, 3, 3, 4, 2, 3, 3, 4, 3, 4, 4, 5, 2, 3, 3, 4, 3, 4, 4, 5, 3, 4, 4, 5, 4, 5, 5, 6, 1, 2, 2, 3, 2, 3, 3, 4, 2, 3, 3, 4, 3, 4, 4, 5, 2, 3, 3, 4, 3, 4, 4, 5, 3, 4, 4, 5, 4, 5, 5, 6, 2, 3, 3, 4, 3, 4, 4, 5, 3, 4, 4, 5, 4, 5, 5, 6, 3, 4, 4, 5, 4, 5, 5, 6, 4, 5, 5, 6, 5, 6, 6, 7, 1, 2, 2, 3, 2, 3, 3, 4, 2, 3, 3, 4, 3, 4, 4, 5, 2, 3, 3, 4, 3, 4, 4, 5, 3, 4, 4, 5, 4, 5, 5, 6, 2, 3, 3, 4, 3, 4, 4, 5, 3, 4, 4, 5, 4, 5, 5, 6, 3, 4, 4, 5, 4, 5, 5, 6, 4, 5, 5, 6, 5, 6, 6, 7, 2, 3, 3, 4, 3, 4, 4, 5, 3, 4, 4, 5, 4, 5, 5, 6, 3, 4, 4, 5, 4, 5, 5, 6, 4, 5, 5, 6, 5, 6, 6, 7, 3, 4, 4, 5, 4, 5, 5, 6, 4, 5, 5, 6, 5, 6, 6, 7, 4, 5, 5, 6, 5, 6, 6, 7, 5, 6, 6, 7, 6, 7, 7, 8])) (.t 8)⟩,
 ⟨some 10, none, .bin .add (.t 5) (.t 9)⟩,
 ⟨some 11, none, .mov (.t 0)⟩,
 ⟨some 12, none, .bin .shr (.t 11) (.c (.int .u64 8))⟩,
 ⟨some 13, none, .bin .and (.t 12) (.c (.int .u32 255))⟩,
 ⟨some 14, none, .sidx (.c (.str [0, 1, 1, 2, 1, 2, 2, 3, 1, 2, 2, 3, 2, 3, 3, 4, 1, 2, 2, 3, 2, 3, 3, 4, 2, 3, 3, 4, 3, 4, 4, 5, 1, 2, 2, 3, 2, 3, 3, 4, 2, 3, 3, 4, 3, 4, 4, 5, 2, 3, 3, 4, 3, 4, 4, 5, 3, 4, 4, 5, 4, 5, 5, 6, 1, 2, 2, 3, 2, 3, 3, 4, 2, 3, 3, 4, 3, 4, 4, 5, 2, 3, 3, 4, 3, 4, 4, 5, 3, 4, 4, 5, 4, 5, 5, 6, 2, 3, 3, 4, 3, 4, 4, 5, 3, 4, 4, 5, 4, 5, 5, 6, 3, 4, 4, 5, 4, 5, 5, 6, 4, 5, 5, 6, 5, 6, 6, 7, 1, 2, 2, 3, 2, 3, 3, 4, 2, 3, 3, 4, 3, 4, 4, 5, 2, 3, 3, 4, 3, 4, 4, 5, 3, 4, 4, 5, 4, 5, 5, 6, 2, 3, 3, 4, 3, 4, 4, 5, 3, 4, 4, 5, 4, 5, 5, 6, 3, 4, 4, 5, 4, 5, 5, 6, 4, 5, 5, 6, 5, 6, 6, 7, 2, 3, 3, 4, 3, 4, 4, 5, 3, 4, 4, 5, 4, 5, 5, 6, 3, 4, 4, 5, 4, 5, 5, 6, 4, 5, 5, 6, 5, 6, 6, 7, 3, 4, 4, 5, 4, 5, 5, 6, 4, 5, 5, 6, 5, 6, 6, 7, 4, 5, 5, 6, 5, 6, 6, 7, 5, 6, 6, 7, 6, 7, 7, 8])) (.t 13)⟩,
 ⟨some 15, none, .bin .add (.t 10) (.t 14)⟩,
 ⟨some 16, none, .mov (.t 0)⟩,
 ⟨some 17, none, .bin .and (.t 16) (.c (.int .u32 255))⟩,
 ⟨some 18, none, .sidx (.c (.str [0, 1, 1, 2, 1, 2, 2, 3, 1, 2, 2, 3, 2, 3, 3, 4, 1, 2, 2, 3, 2, 3, 3, 4, 2, 3, 3, 4, 3, 4, 4, 5, 1, 2, 2, 3, 2, 3, 3, 4, 2, 3, 3, 4, 3, 4, 4, 5, 2, 3, 3, 4, 3, 4, 4, 5, 3, 4, 4, 5, 4, 5, 5, 6, 1, 2, 2, 3, 2, 3, 3, 4, 2, 3, 3, 4, 3, 4, 4, 5, 2, 3, 3, 4, 3, 4, 4, 5, 3, 4, 4, 5, 4, 5, 5, 6, 2, 3, 3, 4, 3, 4, 4, 5, 3, 4, 4, 5, 4, 5, 5, 6, 3, 4, 4, 5, 4, 5, 5, 6, 4, 5, 5, 6, 5, 6, 6, 7, 1, 2, 2, 3, 2, 3, 3, 4, 2, 3, 3, 4, 3, 4, 4, 5, 2, 3, 3, 4, 3, 4, 4, 5, 3, 4, 4, 5, 4, 5, 5, 6, 2, 3, 3, 4, 3, 4, 4, 5, 3, 4, 4, 5, 4, 5, 5, 6, 3, 4, 4, 5, 4, 5, 5, 6, 4, 5, 5, 6, 5, 6, 6, 7, 2, 3, 3, 4, 3, 4, 4, 5, 3, 4, 4, 5, 4, 5, 5, 6, 3, 4, 4, 5, 4, 5, 5, 6, 4, 5, 5, 6, 5, 6, 6, 7, 3, 4, 4, 5, 4, 5, 5, 6, 4, 5, 5, 6, 5, 6, 6, 7, 4, 5, 5, 6, 5, 6, 6, 7, 5, 6, 6, 7, 6, 7, 7, 8])) (.t 17)⟩,
 ⟨some 19, none, .bin .add (.t 15) (.t 18)⟩,
 ⟨some 20, none, .conv .i64 (.t 19)⟩,
 ⟨some 2, none, .mov (.t 20)⟩]) (
 .gh [.keep [2]] (
 .ret)))
def a166 : AFunc := ⟨21, c166, [.tmp 2]⟩
/-! 167 math/bits.OnesCount64 params [185] nfree 0 ntmps 35 -/
def c167 : ACode :=
 .seq (
 .reg none [
 ⟨some 2, none, .mov (.c (.int .i64 0))⟩]) (
 .seq (
 .reg none [
 ⟨some 3, none, .mov (.t 0)⟩,
 ⟨some 4, none, .bin .shr (.t 3) (.c (.int .u64 1))⟩,
 ⟨some 5, none, .bin .and (.t 4) (.c (.int .u64 6148914691236517205))⟩,
 ⟨some 6, none, .mov (.t 0)⟩,
 ⟨some 7, none, .bin .and (.t 6) (.c (.int .u64 6148914691236517205))⟩,
 ⟨some 8, none, .bin .add (.t 5) (.t 7)⟩,
 ⟨some 0, none, .mov (.t 8)⟩]) (
 .gh [.keep [0]] (
 .seq (
 .reg none [
 ⟨some 9, none, .mov (.t 0)⟩,
 ⟨some 10, none, .bin .shr (.t 9) (.c (.int .u64 2))⟩,
 ⟨some 11, none, .bin .and (.t 10) (.c (.int .u64 3689348814741910323))⟩,
 ⟨some 12, none, .mov (.t 0)⟩,
 ⟨some 13, none, .bin .and (.t 12) (.c (.int .u64 3689348814741910323))⟩,
 ⟨some 14, none, .bin .add (.t 11) (.t 13)⟩,
 ⟨some 0, none, .mov (.t 14)⟩]) (
 .gh [.keep [0]] (
 .seq (
 .reg none [
 ⟨some 15, none, .mov (.t 0)⟩,
 ⟨some 16, none, .bin .shr (.t 15) (.c (.int .u64 4))⟩,
 ⟨some 17, none, .mov (.t 0)⟩,
 ⟨some 18, none, .bin .add (.t 16) (.t 17)⟩,
 ⟨some 19, none, .bin .and (.t 18) (.c (.int .u64 1085102592571150095))⟩,
 ⟨some 0, none, .mov (.t 19)⟩]) (
 .seq (
 .reg none [
 ⟨some 20, none, .mov (.t 0)⟩,
 ⟨some 21, none, .mov (.t 0)⟩,
 ⟨some 22, none, .bin .shr (.t 21) (.c (.int .u64 8))⟩,
 ⟨some 23, none, .bin .add (.t 20) (.t 22)⟩,
 ⟨some 0, none, .mov (.t 23)⟩]) (
 .seq (
 .reg none [
 ⟨some 24, none, .mov (.t 0)⟩,
 ⟨some 25, none, .mov (.t 0)⟩,
 ⟨some 26, none, .bin .shr (.t 25) (.c (.int .u64 16))⟩,
 ⟨some 27, none, .bin .add (.t 24) (.t 26)⟩,
 ⟨some 0, none, .mov (.t 27)⟩]) (
 .seq (
 .reg none [
 ⟨some 28, none, .mov (.t 0)⟩,
 ⟨some 29, none, .mov (.t 0)⟩,
 ⟨some 30, none, .bin .shr (.t 29) (.c (.int .u64 32))⟩,
 ⟨some 31, none, .bin .add (.t 28) (.t 30)⟩,
 ⟨some 0, none, .mov (.t 31)⟩]) (
 .seq (
 .reg none [
 ⟨some 32, none, .mov (.t 0)⟩,
 ⟨some 33, none, .conv .i64 (.t 32)⟩,
 ⟨some 34, none, .bin .and (.t 33) (.c (.int .i64 127))⟩,
 ⟨some 2, none, .mov (.t 34)⟩]) (
 .ret))))))))))
def a167 : AFunc := ⟨35, c167, [.tmp 2]⟩
/-! 168 math/bits.Mul32 params [183, 183] nfree 0 ntmps 17 -/
def c168 : ACode :=
 .seq (
 .reg none [
 ⟨some 4, none, .mov (.c (.int .u32 0))⟩,
 ⟨some 5, none, .mov (.c (.int .u32 0))⟩]) (
 .seq (
 .reg none [
 ⟨some 7, none, .mov (.t 0)⟩,
 ⟨some 8, none, .conv .u64 (.t 7)⟩,
 ⟨some 9, none, .mov (.t 1)⟩,
 ⟨some 10, none, .conv .u64 (.t 9)⟩,
 ⟨some 11, none, .bin .mul (.t 8) (.t 10)⟩,
 ⟨some 6, none, .mov (.t 11)⟩]) (
 .seq (
 .reg none [
 ⟨some 12, none, .mov (.t 6)⟩,
 ⟨some 13, none, .bin .shr (.t 12) (.c (.int .u64 32))⟩,
 ⟨some 14, none, .conv .u32 (.t 13)⟩,
 ⟨some 15, none, .mov (.t 6)⟩,
 ⟨some 16, none, .conv .u32 (.t 15)⟩,
 ⟨some 4, none, .mov (.t 14)⟩,
 ⟨some 5, none, .mov (.t 16)⟩]) (
 .ret)))
def a168 : AFunc := ⟨17, c168, [.tmp 4, .tmp 5]⟩
/-! 169 math/bits.Mul64 params [185, 185] nfree 0 ntmps 51 -/
def c169 : ACode :=
 .seq (
 .reg none [
 ⟨some 4, none, .mov (.c (.int .u64 0))⟩,
 ⟨some 5, none, .mov (.c (.int .u64 0))⟩]) (
 .seq (
 .reg none [
 ⟨some 14, none, .mov (.t 0)⟩,
 ⟨some 15, none, .bin .and (.t 14) (.c (.int .u64 4294967295))⟩,
 ⟨some 6, none, .mov (.t 15)⟩]) (
 .seq (
 .reg none [
 ⟨some 16, none, .mov (.t 0)⟩,
 ⟨some 17, none, .bin .shr (.t 16) (.c (.int .u64 32))⟩,
 ⟨some 7, none, .mov (.t 17)⟩]) (
 .seq (
 .reg none [
 ⟨some 18, none, .mov (.t 1)⟩,
 ⟨some 19, none, .bin .and (.t 18) (.c (.int .u64 4294967295))⟩,
 ⟨some 8, none, .mov (.t 19)⟩]) (
 .seq (
 .reg none [
 ⟨some 20, none, .mov (.t 1)⟩,
 ⟨some 21, none, .bin .shr (.t 20) (.c (.int .u64 32))⟩,
 ⟨some 9, none, .mov (.t 21)⟩]) (
 .seq (
 .reg none [
 ⟨some 22, none, .mov (.t 6)⟩,
 ⟨some 23, none, .mov (.t 8)⟩,
 ⟨some 24, none, .bin .mul (.t 22) (.t 23)⟩,
 ⟨some 10, none, .mov (.t 24)⟩]) (
 .seq (
 .reg none [
 ⟨some 25, none, .mov (.t 7)⟩,
 ⟨some 26, none, .mov (.t 8)⟩,
 ⟨some 27, none, .bin .mul (.t 25) (.t 26)⟩,
 ⟨some 28, none, .mov (.t 10)⟩,
 ⟨some 29, none, .bin .shr (.t 28) (.c (.int .u64 32))⟩,
 ⟨some 30, none, .bin .add (.t 27) (.t 29)⟩,
 ⟨some 11, none, .mov (.t 30)⟩]) (
 .gh [.keep [0, 1, 6, 7, 9, 11]] (
 .seq (
 .reg none [
 ⟨some 31, none, .mov (.t 11)⟩,
 ⟨some 32, none, .bin .and (.t 31) (.c (.int .u64 4294967295))⟩,
 ⟨some 12, none, .mov (.t 32)⟩]) (
 .seq (
 .reg none [
 ⟨some 33, none, .mov (.t 11)⟩,
 ⟨some 34, none, .bin .shr (.t 33) (.c (.int .u64 32))⟩,
 ⟨some 13, none, .mov (.t 34)⟩]) (
 .seq (
 .reg none [
 ⟨some 35, none, .mov (.t 12)⟩,
 ⟨some 36, none, .mov (.t 6)⟩,
 ⟨some 37, none, .mov (.t 9)⟩,
 ⟨some 38, none, .bin .mul (.t 36) (.t 37)⟩,
 ⟨some 39, none, .bin .add (.t 35) (.t 38)⟩,
 ⟨some 12, none, .mov (.t 39)⟩]) (
 .seq (
 .reg none [
 ⟨some 40, none, .mov (.t 7)⟩,
 ⟨some 41, none, .mov (.t 9)⟩,
 ⟨some 42, none, .bin .mul (.t 40) (.t 41)⟩,
 ⟨some 43, none, .mov (.t 13)⟩,
 ⟨some 44, none, .bin .add (.t 42) (.t 43)⟩,
 ⟨some 45, none, .mov (.t 12)⟩,
 ⟨some 46, none, .bin .shr (.t 45) (.c (.int .u64 32))⟩,
 ⟨some 47, none, .bin .add (.t 44) (.t 46)⟩,
 ⟨some 4, none, .mov (.t 47)⟩]) (
 .gh [.keep [0, 1, 4]] (
 .seq (
 .reg none [
 ⟨some 48, none, .mov (.t 0)⟩,
 ⟨some 49, none, .mov (.t 1)⟩,
 ⟨some 50, none, .bin .mul (.t 48) (.t 49)⟩,
 ⟨some 5, none, .mov (.t 50)⟩]) (
 .ret))))))))))))))
def a169 : AFunc := ⟨51, c169, [.tmp 4, .tmp 5]⟩
/-! 172 cassegrain/code.inverse params [3] nfree 0 ntmps 13 -/
def l172_0 : ACode :=
 .seq (
 .seq (
 .reg none [
 ⟨some 4, none, .mov (.t 3)⟩,
 ⟨some 5, none, .bin .lss (.t 4) (.c (.int .i64 16))⟩]) (
 .cond (.t 5) (
 .skip) (
 .exit 0))) (
 .seq (
 .block 1 (
 .seq (
 .reg none [
 ⟨some 8, none, .mov (.t 0)⟩,
 ⟨some 9, none, .mov (.t 3)⟩,
 ⟨some 10, none, .ncall true 0 104 [(.t 8), (.t 9)]⟩,
 ⟨some 11, none, .bin .eql (.t 10) (.c (.int .i64 1))⟩]) (
 .cond (.t 11) (
 .seq (
 .reg none [
 ⟨some 12, none, .mov (.t 3)⟩,
 ⟨some 2, none, .mov (.t 12)⟩]) (
 .ret)) (
 .skip)))) (
 .reg none [
 ⟨some 6, none, .mov (.t 3)⟩,
 ⟨some 7, none, .bin .add (.t 6) (.c (.int .i64 1))⟩,
 ⟨some 3, none, .mov (.t 7)⟩]))
def b172_0 : ACode := .gh [.keep [0, 3]] (.gh [] l172_0)
def k172_0 : List AItem := .inLoop b172_0 :: [.inBlock 0,
 .code (.seq (
 .reg none [
 ⟨some 2, none, .mov (.c (.int .i64 0))⟩]) (
 .ret))]
def c172 : ACode :=
 .seq (
 .reg none [
 ⟨some 2, none, .mov (.c (.int .i64 0))⟩]) (
 .seq (
 .seq (
 .reg none [
 ⟨some 3, none, .mov (.c (.int .i64 1))⟩]) (
 .block 0 (
 .loop b172_0))) (
 .seq (
 .reg none [
 ⟨some 2, none, .mov (.c (.int .i64 0))⟩]) (
 .ret)))
def a172 : AFunc := ⟨13, c172, [.tmp 2]⟩
/-! 174 slices.IndexFunc[[][]int,[]int] params [46, 64] nfree 0 ntmps 19 -/
def l174_0 : ACode :=
 .seq (
 .reg none [
 ⟨some 9, none, .bin .lss (.t 8) (.t 7)⟩]) (
 .seq (
 .cond (.t 9) (
 .skip) (
 .exit 0)) (
 .seq (
 .block 1 (
 .seq (
 .reg none [
 ⟨some 10, none, .mov (.t 8)⟩,
 ⟨some 5, none, .mov (.t 10)⟩]) (
 .seq (
 .reg none [
 ⟨some 11, none, .mov (.t 1)⟩,
 ⟨some 12, none, .mov (.t 0)⟩,
 ⟨some 13, none, .mov (.t 5)⟩,
 ⟨some 14, none, .iaddr 1 (.t 12) (.t 13)⟩,
 ⟨some 15, none, .load false 1 (.t 14)⟩,
 ⟨some 16, none, .icallv (.t 11) [(.t 15)]⟩]) (
 .cond (.t 16) (
 .seq (
 .reg none [
 ⟨some 17, none, .mov (.t 5)⟩,
 ⟨some 4, none, .mov (.t 17)⟩]) (
 .ret)) (
 .skip))))) (
 .reg none [
 ⟨some 18, none, .bin .add (.t 8) (.c (.int .i64 1))⟩,
 ⟨some 8, none, .mov (.t 18)⟩])))
def b174_0 : ACode := .gh [.keep [0, 1, 7, 8]] (.gh [] l174_0)
def k174_0 : List AItem := .inLoop b174_0 :: [.inBlock 0,
 .code (.seq (
 .reg none [
 ⟨some 4, none, .mov (.c (.int .i64 (-1)))⟩]) (
 .ret))]
def c174 : ACode :=
 .seq (
 .reg none [
 ⟨some 4, none, .mov (.c (.int .i64 0))⟩]) (
 .seq (
 .seq (
 .reg none [
 ⟨some 6, none, .mov (.t 0)⟩,
 ⟨some 7, none, .len (.t 6)⟩,
 ⟨some 8, none, .mov (.c (.int .i64 0))⟩]) (
 .block 0 (
 .loop b174_0))) (
 .seq (
 .reg none [
 ⟨some 4, none, .mov (.c (.int .i64 (-1)))⟩]) (
 .ret)))
def a174 : AFunc := ⟨19, c174, [.tmp 4]⟩
/-! 175 cassegrain/code.solved$1 params [25] nfree 1 ntmps 9 -/
def c175 : ACode :=
 .seq (
 .reg none [
 ⟨some 3, none, .mov (.c (.bool false))⟩]) (
 .seq (
 .reg none [
 ⟨some 4, none, .mov (.t 0)⟩,
 ⟨some 5, none, .load false 1 (.t 1)⟩,
 ⟨some 6, none, .iaddr 1 (.t 4) (.t 5)⟩,
 ⟨some 7, none, .load false 1 (.t 6)⟩,
 ⟨some 8, none, .bin .neq (.t 7) (.c (.int .i64 0))⟩,
 ⟨some 3, none, .mov (.t 8)⟩]) (
 .ret))
def a175 : AFunc := ⟨9, c175, [.tmp 3]⟩
end Go.Proofs.Ytimmgjppippdiaa
