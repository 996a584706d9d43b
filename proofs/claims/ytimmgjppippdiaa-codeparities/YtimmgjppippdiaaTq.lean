/- The code of the program, for the machine, part 2. Printed by gen2.py. -/
import Derived.Test.YtimmgjppippdiaaTp
namespace Go.Proofs.Ytimmgjppippdiaa
/-! 38 cassegrain/code.Flipped params [48, 25] nfree 0 ntmps 16 -/
def c38 : ACode :=
 .seq (
 .reg none [
 ⟨some 2, none, .box 38003 48 (.t 0)⟩,
 ⟨some 4, none, .mov (.c .nils)⟩,
 ⟨some 5, none, .mov (.c (.int .i64 0))⟩]) (
 .seq (
 .seq (
 .reg none [
 ⟨some 7, none, .load true 2 (.t 2)⟩,
 ⟨some 8, none, .mov (.t 1)⟩,
 ⟨some 9, none, .ncall true 0 114 [(.t 7), (.t 8)]⟩,
 ⟨some 6, none, .mov (.t 9)⟩]) (
 .seq (
 .reg none [
 ⟨some 10, none, .mov (.t 6)⟩,
 ⟨some 11, none, .bin .neq (.t 10) (.c (.int .i64 0))⟩]) (
 .cond (.t 11) (
 .seq (
 .reg none [
 ⟨some 12, none, .mov (.t 6)⟩,
 ⟨some 4, none, .mov (.c .nils)⟩,
 ⟨some 5, none, .mov (.t 12)⟩]) (
 .ret)) (
 .skip)))) (
 .seq (
 .reg none [
 ⟨some 13, none, .load true 2 (.t 2)⟩,
 ⟨some 14, none, .mov (.t 1)⟩,
 ⟨some 15, none, .ncall true 38016 116 [(.t 13), (.t 14)]⟩,
 ⟨some 4, none, .mov (.t 15)⟩,
 ⟨some 5, none, .mov (.c (.int .i64 0))⟩]) (
 .ret)))
def a38 : AFunc := ⟨16, c38, [.tmp 4, .tmp 5]⟩
/-! 39 cassegrain/cassegrainref05.CheckParity params [48] nfree 0 ntmps 76 -/
def l39_1 : ACode :=
 .seq (
 .seq (
 .reg none [
 ⟨some 29, none, .mov (.t 5)⟩,
 ⟨some 30, none, .faddr 1 (.t 1)⟩,
 ⟨some 31, none, .load false 1 (.t 30)⟩,
 ⟨some 32, none, .mov (.t 4)⟩,
 ⟨some 33, none, .iaddr 1 (.t 31) (.t 32)⟩,
 ⟨some 34, none, .load false 1 (.t 33)⟩,
 ⟨some 35, none, .len (.t 34)⟩,
 ⟨some 36, none, .bin .lss (.t 29) (.t 35)⟩]) (
 .gh [.keep [1, 4, 5, 36]] (
 .cond (.t 36) (
 .skip) (
 .exit 2)))) (
 .seq (
 .block 3 (
 .seq (
 .seq (
 .reg (some []) [
 ⟨some 39, none, .faddr 1 (.t 1)⟩,
 ⟨some 40, none, .load false 1 (.t 39)⟩,
 ⟨some 41, none, .mov (.t 4)⟩,
 ⟨some 42, none, .iaddr 1 (.t 40) (.t 41)⟩,
 ⟨some 43, none, .load false 1 (.t 42)⟩,
 ⟨some 44, none, .mov (.t 5)⟩,
 ⟨some 45, none, .iaddr 1 (.t 43) (.t 44)⟩,
 ⟨some 46, none, .load false 1 (.t 45)⟩,
 ⟨some 47, none, .faddr 0 (.t 1)⟩,
 ⟨some 48, none, .load false 1 (.t 47)⟩,
 ⟨some 49, none, .bin .sub (.t 48) (.c (.int .i64 1))⟩,
 ⟨some 50, none, .ncall true 0 45 [(.t 46), (.c (.int .i64 0)), (.t 49)]⟩,
 ⟨some 51, none, .not (.t 50)⟩]) (
 .gh [.keep [1, 4, 5, 51]] (
 .cond (.t 51) (
 .seq (
 .reg none [
 ⟨some 52, none, .mov (.t 4)⟩,
 ⟨some 2, none, .mov (.t 52)⟩,
 ⟨some 3, none, .mov (.c (.int .i64 6))⟩]) (
 .ret)) (
 .skip)))) (
 .seq (
 .reg (some []) [
 ⟨some 53, none, .mov (.t 5)⟩,
 ⟨some 54, none, .bin .gtr (.t 53) (.c (.int .i64 0))⟩,
 ⟨some 55, none, .mov (.t 54)⟩,
 ⟨some 56, (some (55, true)), .faddr 1 (.t 1)⟩,
 ⟨some 57, (some (55, true)), .load false 1 (.t 56)⟩,
 ⟨some 58, (some (55, true)), .mov (.t 4)⟩,
 ⟨some 59, (some (55, true)), .iaddr 1 (.t 57) (.t 58)⟩,
 ⟨some 60, (some (55, true)), .load false 1 (.t 59)⟩,
 ⟨some 61, (some (55, true)), .mov (.t 5)⟩,
 ⟨some 62, (some (55, true)), .iaddr 1 (.t 60) (.t 61)⟩,
 ⟨some 63, (some (55, true)), .load false 1 (.t 62)⟩,
 ⟨some 64, (some (55, true)), .faddr 1 (.t 1)⟩,
 ⟨some 65, (some (55, true)), .load false 1 (.t 64)⟩,
 ⟨some 66, (some (55, true)), .mov (.t 4)⟩,
 ⟨some 67, (some (55, true)), .iaddr 1 (.t 65) (.t 66)⟩,
 ⟨some 68, (some (55, true)), .load false 1 (.t 67)⟩,
 ⟨some 69, (some (55, true)), .mov (.t 5)⟩,
 ⟨some 70, (some (55, true)), .bin .sub (.t 69) (.c (.int .i64 1))⟩,
 ⟨some 71, (some (55, true)), .iaddr 1 (.t 68) (.t 70)⟩,
 ⟨some 72, (some (55, true)), .load false 1 (.t 71)⟩,
 ⟨some 73, (some (55, true)), .bin .leq (.t 63) (.t 72)⟩,
 ⟨some 74, none, .pick (.t 55) (.t 73) (.c (.bool false))⟩]) (
 .gh [.keep [1, 4, 5, 74]] (
 .cond (.t 74) (
 .seq (
 .reg none [
 ⟨some 75, none, .mov (.t 4)⟩,
 ⟨some 2, none, .mov (.t 75)⟩,
 ⟨some 3, none, .mov (.c (.int .i64 9))⟩]) (
 .ret)) (
 .skip)))))) (
 .reg none [
 ⟨some 37, none, .mov (.t 5)⟩,
 ⟨some 38, none, .bin .add (.t 37) (.c (.int .i64 1))⟩,
 ⟨some 5, none, .mov (.t 38)⟩]))
def b39_1 : ACode := .gh [.keep [1, 4, 5]] (.gh [] l39_1)
def l39_0 : ACode :=
 .seq (
 .seq (
 .reg none [
 ⟨some 14, none, .mov (.t 4)⟩,
 ⟨some 15, none, .faddr 1 (.t 1)⟩,
 ⟨some 16, none, .load false 1 (.t 15)⟩,
 ⟨some 17, none, .len (.t 16)⟩,
 ⟨some 18, none, .bin .lss (.t 14) (.t 17)⟩]) (
 .cond (.t 18) (
 .skip) (
 .exit 0))) (
 .seq (
 .block 1 (
 .seq (
 .seq (
 .reg none [
 ⟨some 21, none, .faddr 1 (.t 1)⟩,
 ⟨some 22, none, .load false 1 (.t 21)⟩,
 ⟨some 23, none, .mov (.t 4)⟩,
 ⟨some 24, none, .iaddr 1 (.t 22) (.t 23)⟩,
 ⟨some 25, none, .load false 1 (.t 24)⟩,
 ⟨some 26, none, .len (.t 25)⟩,
 ⟨some 27, none, .bin .eql (.t 26) (.c (.int .i64 0))⟩]) (
 .gh [.keep [1, 4, 27]] (
 .cond (.t 27) (
 .seq (
 .reg none [
 ⟨some 28, none, .mov (.t 4)⟩,
 ⟨some 2, none, .mov (.t 28)⟩,
 ⟨some 3, none, .mov (.c (.int .i64 10))⟩]) (
 .ret)) (
 .skip)))) (
 .seq (
 .reg none [
 ⟨some 5, none, .mov (.c (.int .i64 0))⟩]) (
 .block 2 (
 .loop b39_1))))) (
 .reg none [
 ⟨some 19, none, .mov (.t 4)⟩,
 ⟨some 20, none, .bin .add (.t 19) (.c (.int .i64 1))⟩,
 ⟨some 4, none, .mov (.t 20)⟩]))
def b39_0 : ACode := .gh [.keep [1, 4]] (.gh [] l39_0)
def k39_1 : List AItem := .inLoop b39_1 :: [.inBlock 2,
 .inBlock 1,
 .code (.reg none [
 ⟨some 19, none, .mov (.t 4)⟩,
 ⟨some 20, none, .bin .add (.t 19) (.c (.int .i64 1))⟩,
 ⟨some 4, none, .mov (.t 20)⟩]),
 .inLoop b39_0,
 .inBlock 0,
 .code (.seq (
 .reg none [
 ⟨some 2, none, .mov (.c (.int .i64 0))⟩,
 ⟨some 3, none, .mov (.c (.int .i64 0))⟩]) (
 .ret))]
def k39_0 : List AItem := .inLoop b39_0 :: [.inBlock 0,
 .code (.seq (
 .reg none [
 ⟨some 2, none, .mov (.c (.int .i64 0))⟩,
 ⟨some 3, none, .mov (.c (.int .i64 0))⟩]) (
 .ret))]
def c39 : ACode :=
 .seq (
 .reg none [
 ⟨some 1, none, .box 39002 48 (.t 0)⟩,
 ⟨some 2, none, .mov (.c (.int .i64 0))⟩,
 ⟨some 3, none, .mov (.c (.int .i64 0))⟩]) (
 .seq (
 .seq (
 .reg none [
 ⟨some 6, none, .faddr 0 (.t 1)⟩,
 ⟨some 7, none, .load false 1 (.t 6)⟩,
 ⟨some 8, none, .ncall true 0 45 [(.t 7), (.c (.int .i64 1)), (.c (.int .i64 24))]⟩,
 ⟨some 9, none, .not (.t 8)⟩]) (
 .cond (.t 9) (
 .seq (
 .reg none [
 ⟨some 2, none, .mov (.c (.int .i64 0))⟩,
 ⟨some 3, none, .mov (.c (.int .i64 2))⟩]) (
 .ret)) (
 .skip))) (
 .seq (
 .seq (
 .reg none [
 ⟨some 10, none, .faddr 1 (.t 1)⟩,
 ⟨some 11, none, .load false 1 (.t 10)⟩,
 ⟨some 12, none, .len (.t 11)⟩,
 ⟨some 13, none, .bin .gtr (.t 12) (.c (.int .i64 16))⟩]) (
 .cond (.t 13) (
 .seq (
 .reg none [
 ⟨some 2, none, .mov (.c (.int .i64 0))⟩,
 ⟨some 3, none, .mov (.c (.int .i64 8))⟩]) (
 .ret)) (
 .skip))) (
 .seq (
 .seq (
 .reg none [
 ⟨some 4, none, .mov (.c (.int .i64 0))⟩]) (
 .block 0 (
 .loop b39_0))) (
 .seq (
 .reg none [
 ⟨some 2, none, .mov (.c (.int .i64 0))⟩,
 ⟨some 3, none, .mov (.c (.int .i64 0))⟩]) (
 .ret)))))
def a39 : AFunc := ⟨76, c39, [.tmp 2, .tmp 3]⟩
/-! 40 cassegrain/cassegrainref05.ParityErr params [48, 25] nfree 0 ntmps 22 -/
def c40 : ACode :=
 .seq (
 .reg none [
 ⟨some 2, none, .box 40003 48 (.t 0)⟩,
 ⟨some 4, none, .mov (.c (.int .i64 0))⟩]) (
 .seq (
 .seq (
 .reg none [
 ⟨some 8, none, .load true 2 (.t 2)⟩,
 ⟨some 9, none, .ncall true 0 39 [(.t 8)]⟩,
 ⟨some 7, none, .mov (.t 9)⟩,
 ⟨some 10, none, .ext 0 (.t 7)⟩,
 ⟨some 11, none, .ext 1 (.t 7)⟩,
 ⟨some 5, none, .mov (.t 10)⟩,
 ⟨some 6, none, .mov (.t 11)⟩]) (
 .gh [.keep [1, 2, 6]] (
 .seq (
 .reg none [
 ⟨some 12, none, .mov (.t 6)⟩,
 ⟨some 13, none, .bin .neq (.t 12) (.c (.int .i64 0))⟩]) (
 .cond (.t 13) (
 .seq (
 .reg none [
 ⟨some 14, none, .mov (.t 6)⟩,
 ⟨some 4, none, .mov (.t 14)⟩]) (
 .ret)) (
 .skip))))) (
 .seq (
 .seq (
 .reg none [
 ⟨some 15, none, .mov (.t 1)⟩,
 ⟨some 16, none, .len (.t 15)⟩,
 ⟨some 17, none, .faddr 0 (.t 2)⟩,
 ⟨some 18, none, .load false 1 (.t 17)⟩,
 ⟨some 19, none, .bin .neq (.t 16) (.t 18)⟩]) (
 .cond (.t 19) (
 .seq (
 .reg none [
 ⟨some 4, none, .mov (.c (.int .i64 10))⟩]) (
 .ret)) (
 .skip))) (
 .seq (
 .reg none [
 ⟨some 20, none, .mov (.t 1)⟩,
 ⟨some 21, none, .ncall true 0 117 [(.t 20)]⟩,
 ⟨some 4, none, .mov (.t 21)⟩]) (
 .ret))))
def a40 : AFunc := ⟨22, c40, [.tmp 4]⟩
/-! 41 cassegrain/cassegrainref05.Unsatisfied params [48, 25] nfree 0 ntmps 47 -/
def l41_1 : ACode :=
 .seq (
 .seq (
 .reg none [
 ⟨some 16, none, .mov (.t 8)⟩,
 ⟨some 17, none, .faddr 1 (.t 2)⟩,
 ⟨some 18, none, .load false 1 (.t 17)⟩,
 ⟨some 19, none, .mov (.t 6)⟩,
 ⟨some 20, none, .iaddr 1 (.t 18) (.t 19)⟩,
 ⟨some 21, none, .load false 1 (.t 20)⟩,
 ⟨some 22, none, .len (.t 21)⟩,
 ⟨some 23, none, .bin .lss (.t 16) (.t 22)⟩]) (
 .gh [.keep [1, 2, 5, 6, 7, 8, 23]] (
 .cond (.t 23) (
 .skip) (
 .exit 2)))) (
 .seq (
 .block 3 (
 .reg none [
 ⟨some 26, none, .mov (.t 7)⟩,
 ⟨some 27, none, .mov (.t 1)⟩,
 ⟨some 28, none, .faddr 1 (.t 2)⟩,
 ⟨some 29, none, .load false 1 (.t 28)⟩,
 ⟨some 30, none, .mov (.t 6)⟩,
 ⟨some 31, none, .iaddr 1 (.t 29) (.t 30)⟩,
 ⟨some 32, none, .load false 1 (.t 31)⟩,
 ⟨some 33, none, .mov (.t 8)⟩,
 ⟨some 34, none, .iaddr 1 (.t 32) (.t 33)⟩,
 ⟨some 35, none, .load false 1 (.t 34)⟩,
 ⟨some 36, none, .iaddr 1 (.t 27) (.t 35)⟩,
 ⟨some 37, none, .load false 1 (.t 36)⟩,
 ⟨some 38, none, .bin .add (.t 26) (.t 37)⟩,
 ⟨some 7, none, .mov (.t 38)⟩])) (
 .reg none [
 ⟨some 24, none, .mov (.t 8)⟩,
 ⟨some 25, none, .bin .add (.t 24) (.c (.int .i64 1))⟩,
 ⟨some 8, none, .mov (.t 25)⟩]))
def b41_1 : ACode := .gh [.keep [1, 2, 5, 6, 7, 8]] (.gh [] l41_1)
def l41_0 : ACode :=
 .seq (
 .seq (
 .reg none [
 ⟨some 9, none, .mov (.t 6)⟩,
 ⟨some 10, none, .faddr 1 (.t 2)⟩,
 ⟨some 11, none, .load false 1 (.t 10)⟩,
 ⟨some 12, none, .len (.t 11)⟩,
 ⟨some 13, none, .bin .lss (.t 9) (.t 12)⟩]) (
 .cond (.t 13) (
 .skip) (
 .exit 0))) (
 .seq (
 .block 1 (
 .seq (
 .reg none [
 ⟨some 7, none, .mov (.c (.int .i64 0))⟩]) (
 .seq (
 .seq (
 .reg none [
 ⟨some 8, none, .mov (.c (.int .i64 0))⟩]) (
 .block 2 (
 .loop b41_1))) (
 .seq (
 .reg none [
 ⟨some 39, none, .mov (.t 7)⟩,
 ⟨some 40, none, .bin .rem (.t 39) (.c (.int .i64 2))⟩,
 ⟨some 41, none, .bin .eql (.t 40) (.c (.int .i64 1))⟩]) (
 .cond (.t 41) (
 .reg none [
 ⟨some 42, none, .mov (.t 5)⟩,
 ⟨some 43, none, .mov (.t 6)⟩,
 ⟨some 44, none, .bslice 41045 3 1 [(.t 43)]⟩,
 ⟨some 45, none, .append 41046 3 1 (.t 42) (.t 44)⟩,
 ⟨some 5, none, .mov (.t 45)⟩]) (
 .skip)))))) (
 .reg none [
 ⟨some 14, none, .mov (.t 6)⟩,
 ⟨some 15, none, .bin .add (.t 14) (.c (.int .i64 1))⟩,
 ⟨some 6, none, .mov (.t 15)⟩]))
def b41_0 : ACode := .gh [.keep [1, 2, 5, 6]] (.gh [] l41_0)
def k41_1 : List AItem := .inLoop b41_1 :: [.inBlock 2,
 .code (.seq (
 .reg none [
 ⟨some 39, none, .mov (.t 7)⟩,
 ⟨some 40, none, .bin .rem (.t 39) (.c (.int .i64 2))⟩,
 ⟨some 41, none, .bin .eql (.t 40) (.c (.int .i64 1))⟩]) (
 .cond (.t 41) (
 .reg none [
 ⟨some 42, none, .mov (.t 5)⟩,
 ⟨some 43, none, .mov (.t 6)⟩,
 ⟨some 44, none, .bslice 41045 3 1 [(.t 43)]⟩,
 ⟨some 45, none, .append 41046 3 1 (.t 42) (.t 44)⟩,
 ⟨some 5, none, .mov (.t 45)⟩]) (
 .skip))),
 .inBlock 1,
 .code (.reg none [
 ⟨some 14, none, .mov (.t 6)⟩,
 ⟨some 15, none, .bin .add (.t 14) (.c (.int .i64 1))⟩,
 ⟨some 6, none, .mov (.t 15)⟩]),
 .inLoop b41_0,
 .inBlock 0,
 .code (.seq (
 .reg none [
 ⟨some 46, none, .mov (.t 5)⟩,
 ⟨some 4, none, .mov (.t 46)⟩]) (
 .ret))]
def k41_0 : List AItem := .inLoop b41_0 :: [.inBlock 0,
 .code (.seq (
 .reg none [
 ⟨some 46, none, .mov (.t 5)⟩,
 ⟨some 4, none, .mov (.t 46)⟩]) (
 .ret))]
def c41 : ACode :=
 .seq (
 .reg none [
 ⟨some 2, none, .box 41003 48 (.t 0)⟩,
 ⟨some 4, none, .mov (.c .nils)⟩]) (
 .seq (
 .reg none [
 ⟨some 5, none, .mov (.c .nils)⟩]) (
 .seq (
 .seq (
 .reg none [
 ⟨some 6, none, .mov (.c (.int .i64 0))⟩]) (
 .block 0 (
 .loop b41_0))) (
 .seq (
 .reg none [
 ⟨some 46, none, .mov (.t 5)⟩,
 ⟨some 4, none, .mov (.t 46)⟩]) (
 .ret))))
def a41 : AFunc := ⟨47, c41, [.tmp 4]⟩
/-! 42 cassegrain/cassegrainref05.Flipped params [48, 25] nfree 0 ntmps 54 -/
def l42_1 : ACode :=
 .seq (
 .seq (
 .reg none [
 ⟨some 21, none, .mov (.t 9)⟩,
 ⟨some 22, none, .faddr 1 (.t 2)⟩,
 ⟨some 23, none, .load false 1 (.t 22)⟩,
 ⟨some 24, none, .len (.t 23)⟩,
 ⟨some 25, none, .bin .lss (.t 21) (.t 24)⟩]) (
 .cond (.t 25) (
 .skip) (
 .exit 2))) (
 .seq (
 .block 3 (
 .seq (
 .seq (
 .reg none [
 ⟨some 28, none, .faddr 1 (.t 2)⟩,
 ⟨some 29, none, .load false 1 (.t 28)⟩,
 ⟨some 30, none, .mov (.t 9)⟩,
 ⟨some 31, none, .iaddr 1 (.t 29) (.t 30)⟩,
 ⟨some 32, none, .load false 1 (.t 31)⟩,
 ⟨some 33, none, .mov (.t 7)⟩,
 ⟨some 34, none, .ncall true 0 49 [(.t 32), (.t 33)]⟩,
 ⟨some 35, none, .not (.t 34)⟩]) (
 .gh [.keep [2, 5, 6, 7, 8, 9, 35]] (
 .cond (.t 35) (
 .exit 3) (
 .skip)))) (
 .seq (
 .reg none [
 ⟨some 36, none, .mov (.t 5)⟩,
 ⟨some 37, none, .mov (.t 9)⟩,
 ⟨some 38, none, .ncall true 0 49 [(.t 36), (.t 37)]⟩]) (
 .cond (.t 38) (
 .reg none [
 ⟨some 39, none, .mov (.t 8)⟩,
 ⟨some 40, none, .bin .add (.t 39) (.c (.int .i64 1))⟩,
 ⟨some 8, none, .mov (.t 40)⟩]) (
 .reg none [
 ⟨some 41, none, .mov (.t 8)⟩,
 ⟨some 42, none, .bin .sub (.t 41) (.c (.int .i64 1))⟩,
 ⟨some 8, none, .mov (.t 42)⟩]))))) (
 .reg none [
 ⟨some 26, none, .mov (.t 9)⟩,
 ⟨some 27, none, .bin .add (.t 26) (.c (.int .i64 1))⟩,
 ⟨some 9, none, .mov (.t 27)⟩]))
def b42_1 : ACode := .gh [.keep [2, 5, 6, 7, 8, 9]] (.gh [] l42_1)
def l42_0 : ACode :=
 .seq (
 .seq (
 .reg none [
 ⟨some 15, none, .mov (.t 7)⟩,
 ⟨some 16, none, .faddr 0 (.t 2)⟩,
 ⟨some 17, none, .load false 1 (.t 16)⟩,
 ⟨some 18, none, .bin .lss (.t 15) (.t 17)⟩]) (
 .cond (.t 18) (
 .skip) (
 .exit 0))) (
 .seq (
 .block 1 (
 .seq (
 .reg none [
 ⟨some 8, none, .mov (.c (.int .i64 0))⟩]) (
 .seq (
 .seq (
 .reg none [
 ⟨some 9, none, .mov (.c (.int .i64 0))⟩]) (
 .block 2 (
 .loop b42_1))) (
 .seq (
 .reg none [
 ⟨some 43, none, .mov (.t 8)⟩,
 ⟨some 44, none, .bin .gtr (.t 43) (.c (.int .i64 0))⟩]) (
 .cond (.t 44) (
 .reg none [
 ⟨some 45, none, .mov (.t 6)⟩,
 ⟨some 46, none, .mov (.t 7)⟩,
 ⟨some 47, none, .mov (.t 6)⟩,
 ⟨some 48, none, .mov (.t 7)⟩,
 ⟨some 49, none, .iaddr 1 (.t 47) (.t 48)⟩,
 ⟨some 50, none, .load false 1 (.t 49)⟩,
 ⟨some 51, none, .bin .sub (.c (.int .i64 1)) (.t 50)⟩,
 ⟨some 52, none, .iaddr 1 (.t 45) (.t 46)⟩,
 ⟨none, none, .store 1 (.t 52) (.t 51)⟩]) (
 .skip)))))) (
 .reg none [
 ⟨some 19, none, .mov (.t 7)⟩,
 ⟨some 20, none, .bin .add (.t 19) (.c (.int .i64 1))⟩,
 ⟨some 7, none, .mov (.t 20)⟩]))
def b42_0 : ACode := .gh [.keep [2, 5, 6, 7]] (.gh [] l42_0)
def k42_1 : List AItem := .inLoop b42_1 :: [.inBlock 2,
 .code (.seq (
 .reg none [
 ⟨some 43, none, .mov (.t 8)⟩,
 ⟨some 44, none, .bin .gtr (.t 43) (.c (.int .i64 0))⟩]) (
 .cond (.t 44) (
 .reg none [
 ⟨some 45, none, .mov (.t 6)⟩,
 ⟨some 46, none, .mov (.t 7)⟩,
 ⟨some 47, none, .mov (.t 6)⟩,
 ⟨some 48, none, .mov (.t 7)⟩,
 ⟨some 49, none, .iaddr 1 (.t 47) (.t 48)⟩,
 ⟨some 50, none, .load false 1 (.t 49)⟩,
 ⟨some 51, none, .bin .sub (.c (.int .i64 1)) (.t 50)⟩,
 ⟨some 52, none, .iaddr 1 (.t 45) (.t 46)⟩,
 ⟨none, none, .store 1 (.t 52) (.t 51)⟩]) (
 .skip))),
 .inBlock 1,
 .code (.reg none [
 ⟨some 19, none, .mov (.t 7)⟩,
 ⟨some 20, none, .bin .add (.t 19) (.c (.int .i64 1))⟩,
 ⟨some 7, none, .mov (.t 20)⟩]),
 .inLoop b42_0,
 .inBlock 0,
 .code (.seq (
 .reg none [
 ⟨some 53, none, .mov (.t 6)⟩,
 ⟨some 4, none, .mov (.t 53)⟩]) (
 .ret))]
def k42_0 : List AItem := .inLoop b42_0 :: [.inBlock 0,
 .code (.seq (
 .reg none [
 ⟨some 53, none, .mov (.t 6)⟩,
 ⟨some 4, none, .mov (.t 53)⟩]) (
 .ret))]
def c42 : ACode :=
 .seq (
 .reg none [
 ⟨some 2, none, .box 42003 48 (.t 0)⟩,
 ⟨some 4, none, .mov (.c .nils)⟩]) (
 .seq (
 .reg none [
 ⟨some 10, none, .load true 2 (.t 2)⟩,
 ⟨some 11, none, .mov (.t 1)⟩,
 ⟨some 12, none, .ncall true 42013 41 [(.t 10), (.t 11)]⟩,
 ⟨some 5, none, .mov (.t 12)⟩]) (
 .seq (
 .reg none [
 ⟨some 13, none, .mov (.t 1)⟩,
 ⟨some 14, none, .ncall true 42015 20 [(.t 13)]⟩,
 ⟨some 6, none, .mov (.t 14)⟩]) (
 .seq (
 .seq (
 .reg none [
 ⟨some 7, none, .mov (.c (.int .i64 0))⟩]) (
 .block 0 (
 .loop b42_0))) (
 .seq (
 .reg none [
 ⟨some 53, none, .mov (.t 6)⟩,
 ⟨some 4, none, .mov (.t 53)⟩]) (
 .ret)))))
def a42 : AFunc := ⟨54, c42, [.tmp 4]⟩
/-! 43 cassegrain/cassegrainref05.ConvolutionErr params [24] nfree 0 ntmps 29 -/
def c43 : ACode :=
 .seq (
 .reg none [
 ⟨some 1, none, .box 43002 24 (.t 0)⟩,
 ⟨some 2, none, .mov (.c (.int .i64 0))⟩]) (
 .seq (
 .seq (
 .reg (some []) [
 ⟨some 3, none, .faddr 0 (.t 1)⟩,
 ⟨some 4, none, .load false 1 (.t 3)⟩,
 ⟨some 5, none, .ncall true 0 45 [(.t 4), (.c (.int .i64 1)), (.c (.int .i64 3))]⟩,
 ⟨some 6, none, .not (.t 5)⟩,
 ⟨some 7, none, .mov (.t 6)⟩,
 ⟨some 8, (some (7, false)), .faddr 1 (.t 1)⟩,
 ⟨some 9, (some (7, false)), .aaddr 2 1 (.t 8) (.c (.int .i64 0))⟩,
 ⟨some 10, (some (7, false)), .load false 1 (.t 9)⟩,
 ⟨some 11, (some (7, false)), .faddr 0 (.t 1)⟩,
 ⟨some 12, (some (7, false)), .load false 1 (.t 11)⟩,
 ⟨some 13, (some (7, false)), .bin .shl (.c (.int .i64 2)) (.t 12)⟩,
 ⟨some 14, (some (7, false)), .bin .sub (.t 13) (.c (.int .i64 1))⟩,
 ⟨some 15, (some (7, false)), .ncall true 0 45 [(.t 10), (.c (.int .i64 1)), (.t 14)]⟩,
 ⟨some 16, (some (7, false)), .not (.t 15)⟩,
 ⟨some 17, none, .pick (.t 7) (.c (.bool true)) (.t 16)⟩,
 ⟨some 18, none, .mov (.t 17)⟩,
 ⟨some 19, (some (18, false)), .faddr 1 (.t 1)⟩,
 ⟨some 20, (some (18, false)), .aaddr 2 1 (.t 19) (.c (.int .i64 1))⟩,
 ⟨some 21, (some (18, false)), .load false 1 (.t 20)⟩,
 ⟨some 22, (some (18, false)), .faddr 0 (.t 1)⟩,
 ⟨some 23, (some (18, false)), .load false 1 (.t 22)⟩,
 ⟨some 24, (some (18, false)), .bin .shl (.c (.int .i64 2)) (.t 23)⟩,
 ⟨some 25, (some (18, false)), .bin .sub (.t 24) (.c (.int .i64 1))⟩,
 ⟨some 26, (some (18, false)), .ncall true 0 45 [(.t 21), (.c (.int .i64 1)), (.t 25)]⟩,
 ⟨some 27, (some (18, false)), .not (.t 26)⟩,
 ⟨some 28, none, .pick (.t 18) (.c (.bool true)) (.t 27)⟩]) (
 .gh [.keep [28]] (
 .cond (.t 28) (
 .seq (
 .reg none [
 ⟨some 2, none, .mov (.c (.int .i64 2))⟩]) (
 .ret)) (
 .skip)))) (
 .seq (
 .reg none [
 ⟨some 2, none, .mov (.c (.int .i64 0))⟩]) (
 .ret)))
def a43 : AFunc := ⟨29, c43, [.tmp 2]⟩
/-! 44 cassegrain/cassegrainref05.BitsErr params [25] nfree 0 ntmps 8 -/
def c44 : ACode :=
 .seq (
 .reg none [
 ⟨some 2, none, .mov (.c (.int .i64 0))⟩]) (
 .seq (
 .seq (
 .reg none [
 ⟨some 3, none, .mov (.t 0)⟩,
 ⟨some 4, none, .len (.t 3)⟩,
 ⟨some 5, none, .bin .gtr (.t 4) (.c (.int .i64 300))⟩]) (
 .cond (.t 5) (
 .seq (
 .reg none [
 ⟨some 2, none, .mov (.c (.int .i64 8))⟩]) (
 .ret)) (
 .skip))) (
 .seq (
 .reg none [
 ⟨some 6, none, .mov (.t 0)⟩,
 ⟨some 7, none, .ncall true 0 117 [(.t 6)]⟩,
 ⟨some 2, none, .mov (.t 7)⟩]) (
 .ret)))
def a44 : AFunc := ⟨8, c44, [.tmp 2]⟩
/-! 45 cassegrain/cassegrainbase.Within params [3, 3, 3] nfree 0 ntmps 15 -/
def c45 : ACode :=
 .seq (
 .reg none [
 ⟨some 6, none, .mov (.c (.bool false))⟩]) (
 .seq (
 .reg none [
 ⟨some 7, none, .mov (.t 1)⟩,
 ⟨some 8, none, .mov (.t 0)⟩,
 ⟨some 9, none, .bin .leq (.t 7) (.t 8)⟩,
 ⟨some 10, none, .mov (.t 9)⟩,
 ⟨some 11, (some (10, true)), .mov (.t 0)⟩,
 ⟨some 12, (some (10, true)), .mov (.t 2)⟩,
 ⟨some 13, (some (10, true)), .bin .leq (.t 11) (.t 12)⟩,
 ⟨some 14, none, .pick (.t 10) (.t 13) (.c (.bool false))⟩,
 ⟨some 6, none, .mov (.t 14)⟩]) (
 .gh [.keep [6]] (
 .ret)))
def a45 : AFunc := ⟨15, c45, [.tmp 6]⟩
/-! 46 cassegrain/code.EncodeBits params [24, 25] nfree 0 ntmps 19 -/
def c46 : ACode :=
 .seq (
 .reg none [
 ⟨some 2, none, .box 46003 24 (.t 0)⟩,
 ⟨some 4, none, .mov (.c .nils)⟩,
 ⟨some 5, none, .mov (.c (.int .i64 0))⟩]) (
 .seq (
 .seq (
 .reg none [
 ⟨some 7, none, .load true 3 (.t 2)⟩,
 ⟨some 8, none, .ncall true 0 57 [(.t 7)]⟩,
 ⟨some 9, none, .mov (.t 1)⟩,
 ⟨some 10, none, .ncall true 0 118 [(.t 9)]⟩,
 ⟨some 11, none, .bslice 46012 27 1 [(.t 8), (.t 10)]⟩,
 ⟨some 12, none, .ncall true 0 105 [(.t 11)]⟩,
 ⟨some 6, none, .mov (.t 12)⟩]) (
 .gh [.keep [1, 2, 6]] (
 .seq (
 .reg none [
 ⟨some 13, none, .mov (.t 6)⟩,
 ⟨some 14, none, .bin .neq (.t 13) (.c (.int .i64 0))⟩]) (
 .cond (.t 14) (
 .seq (
 .reg none [
 ⟨some 15, none, .mov (.t 6)⟩,
 ⟨some 4, none, .mov (.c .nils)⟩,
 ⟨some 5, none, .mov (.t 15)⟩]) (
 .ret)) (
 .skip))))) (
 .seq (
 .reg none [
 ⟨some 16, none, .load true 3 (.t 2)⟩,
 ⟨some 17, none, .mov (.t 1)⟩,
 ⟨some 18, none, .ncall true 46019 119 [(.t 16), (.t 17)]⟩,
 ⟨some 4, none, .mov (.t 18)⟩,
 ⟨some 5, none, .mov (.c (.int .i64 0))⟩]) (
 .ret)))
def a46 : AFunc := ⟨19, c46, [.tmp 4, .tmp 5]⟩
/-! 47 cassegrain/code.FreeDistance params [24] nfree 0 ntmps 82 -/
def l47_2 : ACode :=
 .seq (
 .reg none [
 ⟨some 46, none, .bin .lss (.t 45) (.c (.int .i64 2))⟩]) (
 .seq (
 .cond (.t 46) (
 .skip) (
 .exit 4)) (
 .seq (
 .block 5 (
 .seq (
 .reg none [
 ⟨some 47, none, .mov (.t 45)⟩,
 ⟨some 12, none, .mov (.t 47)⟩]) (
 .seq (
 .reg none [
 ⟨some 49, none, .mov (.t 5)⟩,
 ⟨some 50, none, .mov (.t 11)⟩,
 ⟨some 51, none, .mov (.t 12)⟩,
 ⟨some 52, none, .icallv (.t 49) [(.t 50), (.t 51)]⟩,
 ⟨some 48, none, .mov (.t 52)⟩,
 ⟨some 53, none, .ext 0 (.t 48)⟩,
 ⟨some 54, none, .ext 1 (.t 48)⟩,
 ⟨some 13, none, .mov (.t 53)⟩,
 ⟨some 14, none, .mov (.t 54)⟩]) (
 .gh [.keep [5, 6, 7, 10, 11, 13, 14, 37, 38, 45]] (
 .seq (
 .seq (
 .reg none [
 ⟨some 55, none, .mov (.t 13)⟩,
 ⟨some 56, none, .bin .eql (.t 55) (.c (.int .i64 0))⟩]) (
 .cond (.t 56) (
 .seq (
 .reg none [
 ⟨some 57, none, .mov (.t 10)⟩,
 ⟨some 58, none, .mov (.t 7)⟩,
 ⟨some 59, none, .mov (.t 11)⟩,
 ⟨some 60, none, .iaddr 1 (.t 58) (.t 59)⟩,
 ⟨some 61, none, .load false 1 (.t 60)⟩,
 ⟨some 62, none, .mov (.t 14)⟩,
 ⟨some 63, none, .bin .add (.t 61) (.t 62)⟩,
 ⟨some 64, none, .mm false (.t 57) (.t 63)⟩,
 ⟨some 10, none, .mov (.t 64)⟩]) (
 .gh [.keep [5, 6, 7, 10, 11, 37, 38, 45]] (
 .exit 5))) (
 .skip))) (
 .reg (some []) [
 ⟨some 65, none, .mov (.t 7)⟩,
 ⟨some 66, none, .mov (.t 13)⟩,
 ⟨some 67, none, .mov (.t 7)⟩,
 ⟨some 68, none, .mov (.t 13)⟩,
 ⟨some 69, none, .iaddr 1 (.t 67) (.t 68)⟩,
 ⟨some 70, none, .load false 1 (.t 69)⟩,
 ⟨some 71, none, .mov (.t 7)⟩,
 ⟨some 72, none, .mov (.t 11)⟩,
 ⟨some 73, none, .iaddr 1 (.t 71) (.t 72)⟩,
 ⟨some 74, none, .load false 1 (.t 73)⟩,
 ⟨some 75, none, .mov (.t 14)⟩,
 ⟨some 76, none, .bin .add (.t 74) (.t 75)⟩,
 ⟨some 77, none, .mm false (.t 70) (.t 76)⟩,
 ⟨some 78, none, .iaddr 1 (.t 65) (.t 66)⟩,
 ⟨none, none, .store 1 (.t 78) (.t 77)⟩])))))) (
 .reg none [
 ⟨some 79, none, .bin .add (.t 45) (.c (.int .i64 1))⟩,
 ⟨some 45, none, .mov (.t 79)⟩])))
def b47_2 : ACode := .gh [.keep [5, 6, 7, 10, 11, 37, 38, 45]] (.gh [] l47_2)
def l47_1 : ACode :=
 .seq (
 .seq (
 .reg none [
 ⟨some 40, none, .mov (.t 11)⟩,
 ⟨some 41, none, .mov (.t 6)⟩,
 ⟨some 42, none, .bin .lss (.t 40) (.t 41)⟩]) (
 .cond (.t 42) (
 .skip) (
 .exit 2))) (
 .seq (
 .block 3 (
 .seq (
 .reg none [
 ⟨some 45, none, .mov (.c (.int .i64 0))⟩]) (
 .block 4 (
 .loop b47_2)))) (
 .reg none [
 ⟨some 43, none, .mov (.t 11)⟩,
 ⟨some 44, none, .bin .add (.t 43) (.c (.int .i64 1))⟩,
 ⟨some 11, none, .mov (.t 44)⟩]))
def b47_1 : ACode := .gh [.keep [5, 6, 7, 10, 11, 37, 38]] (.gh [] l47_1)
def l47_0 : ACode :=
 .seq (
 .reg none [
 ⟨some 39, none, .bin .lss (.t 38) (.t 37)⟩]) (
 .seq (
 .cond (.t 39) (
 .skip) (
 .exit 0)) (
 .seq (
 .block 1 (
 .seq (
 .reg none [
 ⟨some 11, none, .mov (.c (.int .i64 1))⟩]) (
 .block 2 (
 .loop b47_1)))) (
 .reg none [
 ⟨some 80, none, .bin .add (.t 38) (.c (.int .i64 1))⟩,
 ⟨some 38, none, .mov (.t 80)⟩])))
def b47_0 : ACode := .gh [.keep [5, 6, 7, 10, 37, 38]] (.gh [] l47_0)
def k47_2 : List AItem := .inLoop b47_2 :: [.inBlock 4,
 .inBlock 3,
 .code (.reg none [
 ⟨some 43, none, .mov (.t 11)⟩,
 ⟨some 44, none, .bin .add (.t 43) (.c (.int .i64 1))⟩,
 ⟨some 11, none, .mov (.t 44)⟩]),
 .inLoop b47_1,
 .inBlock 2,
 .inBlock 1,
 .code (.reg none [
 ⟨some 80, none, .bin .add (.t 38) (.c (.int .i64 1))⟩,
 ⟨some 38, none, .mov (.t 80)⟩]),
 .inLoop b47_0,
 .inBlock 0,
 .code (.seq (
 .reg none [
 ⟨some 81, none, .mov (.t 10)⟩,
 ⟨some 2, none, .mov (.t 81)⟩,
 ⟨some 3, none, .mov (.c (.int .i64 0))⟩]) (
 .ret))]
def k47_1 : List AItem := .inLoop b47_1 :: [.inBlock 2,
 .inBlock 1,
 .code (.reg none [
 ⟨some 80, none, .bin .add (.t 38) (.c (.int .i64 1))⟩,
 ⟨some 38, none, .mov (.t 80)⟩]),
 .inLoop b47_0,
 .inBlock 0,
 .code (.seq (
 .reg none [
 ⟨some 81, none, .mov (.t 10)⟩,
 ⟨some 2, none, .mov (.t 81)⟩,
 ⟨some 3, none, .mov (.c (.int .i64 0))⟩]) (
 .ret))]
def k47_0 : List AItem := .inLoop b47_0 :: [.inBlock 0,
 .code (.seq (
 .reg none [
 ⟨some 81, none, .mov (.t 10)⟩,
 ⟨some 2, none, .mov (.t 81)⟩,
 ⟨some 3, none, .mov (.c (.int .i64 0))⟩]) (
 .ret))]
def c47 : ACode :=
 .seq (
 .reg none [
 ⟨some 1, none, .box 47002 24 (.t 0)⟩,
 ⟨some 2, none, .mov (.c (.int .i64 0))⟩,
 ⟨some 3, none, .mov (.c (.int .i64 0))⟩]) (
 .seq (
 .seq (
 .reg none [
 ⟨some 15, none, .load true 3 (.t 1)⟩,
 ⟨some 16, none, .ncall true 0 57 [(.t 15)]⟩,
 ⟨some 4, none, .mov (.t 16)⟩]) (
 .seq (
 .reg none [
 ⟨some 17, none, .mov (.t 4)⟩,
 ⟨some 18, none, .bin .neq (.t 17) (.c (.int .i64 0))⟩]) (
 .cond (.t 18) (
 .seq (
 .reg none [
 ⟨some 19, none, .mov (.t 4)⟩,
 ⟨some 2, none, .mov (.c (.int .i64 0))⟩,
 ⟨some 3, none, .mov (.t 19)⟩]) (
 .ret)) (
 .skip)))) (
 .seq (
 .reg none [
 ⟨some 20, none, .mkfn 120 [(.t 1)]⟩,
 ⟨some 5, none, .mov (.t 20)⟩]) (
 .seq (
 .reg none [
 ⟨some 21, none, .faddr 0 (.t 1)⟩,
 ⟨some 22, none, .load false 1 (.t 21)⟩,
 ⟨some 23, none, .bin .shl (.c (.int .i64 1)) (.t 22)⟩,
 ⟨some 6, none, .mov (.t 23)⟩]) (
 .seq (
 .reg none [
 ⟨some 24, none, .bslice 47025 3 1 [(.c (.int .i64 100000))]⟩,
 ⟨some 25, none, .mov (.t 6)⟩,
 ⟨some 26, none, .ncall true 47027 122 [(.t 24), (.t 25)]⟩,
 ⟨some 7, none, .mov (.t 26)⟩]) (
 .seq (
 .reg none [
 ⟨some 28, none, .mov (.t 5)⟩,
 ⟨some 29, none, .icallv (.t 28) [(.c (.int .i64 0)), (.c (.int .i64 1))]⟩,
 ⟨some 27, none, .mov (.t 29)⟩,
 ⟨some 30, none, .ext 0 (.t 27)⟩,
 ⟨some 31, none, .ext 1 (.t 27)⟩,
 ⟨some 8, none, .mov (.t 30)⟩,
 ⟨some 9, none, .mov (.t 31)⟩]) (
 .seq (
 .reg none [
 ⟨some 32, none, .mov (.t 7)⟩,
 ⟨some 33, none, .mov (.t 8)⟩,
 ⟨some 34, none, .mov (.t 9)⟩,
 ⟨some 35, none, .iaddr 1 (.t 32) (.t 33)⟩,
 ⟨none, none, .store 1 (.t 35) (.t 34)⟩]) (
 .seq (
 .reg none [
 ⟨some 10, none, .mov (.c (.int .i64 100000))⟩]) (
 .seq (
 .seq (
 .reg none [
 ⟨some 36, none, .mov (.t 6)⟩,
 ⟨some 37, none, .bin .add (.t 36) (.c (.int .i64 1))⟩,
 ⟨some 38, none, .mov (.c (.int .i64 0))⟩]) (
 .block 0 (
 .loop b47_0))) (
 .seq (
 .reg none [
 ⟨some 81, none, .mov (.t 10)⟩,
 ⟨some 2, none, .mov (.t 81)⟩,
 ⟨some 3, none, .mov (.c (.int .i64 0))⟩]) (
 .ret))))))))))
def a47 : AFunc := ⟨82, c47, [.tmp 2, .tmp 3]⟩
/-! 48 cassegrain/cassegrainbase.AreBits params [25] nfree 0 ntmps 22 -/
def l48_0 : ACode :=
 .seq (
 .seq (
 .reg none [
 ⟨some 4, none, .mov (.t 3)⟩,
 ⟨some 5, none, .mov (.t 0)⟩,
 ⟨some 6, none, .len (.t 5)⟩,
 ⟨some 7, none, .bin .lss (.t 4) (.t 6)⟩]) (
 .cond (.t 7) (
 .skip) (
 .exit 0))) (
 .seq (
 .block 1 (
 .seq (
 .reg none [
 ⟨some 10, none, .mov (.t 0)⟩,
 ⟨some 11, none, .mov (.t 3)⟩,
 ⟨some 12, none, .iaddr 1 (.t 10) (.t 11)⟩,
 ⟨some 13, none, .load false 1 (.t 12)⟩,
 ⟨some 14, none, .bin .neq (.t 13) (.c (.int .i64 0))⟩,
 ⟨some 15, none, .mov (.t 14)⟩,
 ⟨some 16, (some (15, true)), .mov (.t 0)⟩,
 ⟨some 17, (some (15, true)), .mov (.t 3)⟩,
 ⟨some 18, (some (15, true)), .iaddr 1 (.t 16) (.t 17)⟩,
 ⟨some 19, (some (15, true)), .load false 1 (.t 18)⟩,
 ⟨some 20, (some (15, true)), .bin .neq (.t 19) (.c (.int .i64 1))⟩,
 ⟨some 21, none, .pick (.t 15) (.t 20) (.c (.bool false))⟩]) (
 .gh [.keep [0, 3, 21]] (
 .cond (.t 21) (
 .seq (
 .reg none [
 ⟨some 2, none, .mov (.c (.bool false))⟩]) (
 .ret)) (
 .skip))))) (
 .reg none [
 ⟨some 8, none, .mov (.t 3)⟩,
 ⟨some 9, none, .bin .add (.t 8) (.c (.int .i64 1))⟩,
 ⟨some 3, none, .mov (.t 9)⟩]))
def b48_0 : ACode := .gh [.keep [0, 3]] (.gh [] l48_0)
def k48_0 : List AItem := .inLoop b48_0 :: [.inBlock 0,
 .code (.seq (
 .reg none [
 ⟨some 2, none, .mov (.c (.bool true))⟩]) (
 .ret))]
def c48 : ACode :=
 .seq (
 .reg none [
 ⟨some 2, none, .mov (.c (.bool false))⟩]) (
 .seq (
 .seq (
 .reg none [
 ⟨some 3, none, .mov (.c (.int .i64 0))⟩]) (
 .block 0 (
 .loop b48_0))) (
 .seq (
 .reg none [
 ⟨some 2, none, .mov (.c (.bool true))⟩]) (
 .ret)))
def a48 : AFunc := ⟨22, c48, [.tmp 2]⟩
/-! 49 cassegrain/cassegrainbase.Has params [25, 3] nfree 0 ntmps 18 -/
def l49_0 : ACode :=
 .seq (
 .seq (
 .reg none [
 ⟨some 6, none, .mov (.t 5)⟩,
 ⟨some 7, none, .mov (.t 0)⟩,
 ⟨some 8, none, .len (.t 7)⟩,
 ⟨some 9, none, .bin .lss (.t 6) (.t 8)⟩]) (
 .cond (.t 9) (
 .skip) (
 .exit 0))) (
 .seq (
 .block 1 (
 .seq (
 .reg none [
 ⟨some 12, none, .mov (.t 0)⟩,
 ⟨some 13, none, .mov (.t 5)⟩,
 ⟨some 14, none, .iaddr 1 (.t 12) (.t 13)⟩,
 ⟨some 15, none, .load false 1 (.t 14)⟩,
 ⟨some 16, none, .mov (.t 1)⟩,
 ⟨some 17, none, .bin .eql (.t 15) (.t 16)⟩]) (
 .cond (.t 17) (
 .seq (
 .reg none [
 ⟨some 4, none, .mov (.c (.bool true))⟩]) (
 .ret)) (
 .skip)))) (
 .reg none [
 ⟨some 10, none, .mov (.t 5)⟩,
 ⟨some 11, none, .bin .add (.t 10) (.c (.int .i64 1))⟩,
 ⟨some 5, none, .mov (.t 11)⟩]))
def b49_0 : ACode := .gh [.keep [0, 1, 5]] (.gh [] l49_0)
def k49_0 : List AItem := .inLoop b49_0 :: [.inBlock 0,
 .code (.seq (
 .reg none [
 ⟨some 4, none, .mov (.c (.bool false))⟩]) (
 .ret))]
def c49 : ACode :=
 .seq (
 .reg none [
 ⟨some 4, none, .mov (.c (.bool false))⟩]) (
 .seq (
 .seq (
 .reg none [
 ⟨some 5, none, .mov (.c (.int .i64 0))⟩]) (
 .block 0 (
 .loop b49_0))) (
 .seq (
 .reg none [
 ⟨some 4, none, .mov (.c (.bool false))⟩]) (
 .ret)))
def a49 : AFunc := ⟨18, c49, [.tmp 4]⟩
/-! 50 cassegrain/cassegrainlaw05.few params [3, 3] nfree 0 ntmps 18 -/
def c50 : ACode :=
 .seq (
 .reg none [
 ⟨some 4, none, .mov (.c (.bool false))⟩]) (
 .seq (
 .reg none [
 ⟨some 5, none, .mov (.t 0)⟩,
 ⟨some 6, none, .bin .leq (.t 5) (.c (.int .i64 24))⟩,
 ⟨some 7, none, .mov (.t 6)⟩,
 ⟨some 8, (some (7, false)), .mov (.t 0)⟩,
 ⟨some 9, (some (7, false)), .mov (.t 1)⟩,
 ⟨some 10, (some (7, false)), .bin .gtr (.t 8) (.t 9)⟩,
 ⟨some 11, (some (7, false)), .mov (.t 10)⟩,
 ⟨some 12, (some (11, true)), .mov (.t 0)⟩,
 ⟨some 13, (some (11, true)), .mov (.t 1)⟩,
 ⟨some 14, (some (11, true)), .bin .add (.t 13) (.c (.int .i64 2))⟩,
 ⟨some 15, (some (11, true)), .bin .leq (.t 12) (.t 14)⟩,
 ⟨some 16, (some (7, false)), .pick (.t 11) (.t 15) (.c (.bool false))⟩,
 ⟨some 17, none, .pick (.t 7) (.c (.bool true)) (.t 16)⟩,
 ⟨some 4, none, .mov (.t 17)⟩]) (
 .gh [.keep [4]] (
 .ret)))
def a50 : AFunc := ⟨18, c50, [.tmp 4]⟩
/-! 51 cassegrain/code.Interleaved params [25, 3] nfree 0 ntmps 16 -/
def c51 : ACode :=
 .seq (
 .reg none [
 ⟨some 4, none, .mov (.c .nils)⟩,
 ⟨some 5, none, .mov (.c (.int .i64 0))⟩]) (
 .seq (
 .seq (
 .reg none [
 ⟨some 7, none, .mov (.t 0)⟩,
 ⟨some 8, none, .mov (.t 1)⟩,
 ⟨some 9, none, .ncall true 0 123 [(.t 7), (.t 8)]⟩,
 ⟨some 6, none, .mov (.t 9)⟩]) (
 .seq (
 .reg none [
 ⟨some 10, none, .mov (.t 6)⟩,
 ⟨some 11, none, .bin .neq (.t 10) (.c (.int .i64 0))⟩]) (
 .cond (.t 11) (
 .seq (
 .reg none [
 ⟨some 12, none, .mov (.t 6)⟩,
 ⟨some 4, none, .mov (.c .nils)⟩,
 ⟨some 5, none, .mov (.t 12)⟩]) (
 .ret)) (
 .skip)))) (
 .seq (
 .reg none [
 ⟨some 13, none, .mov (.t 0)⟩,
 ⟨some 14, none, .mov (.t 1)⟩,
 ⟨some 15, none, .ncall true 51016 124 [(.t 13), (.t 14)]⟩,
 ⟨some 4, none, .mov (.t 15)⟩,
 ⟨some 5, none, .mov (.c (.int .i64 0))⟩]) (
 .ret)))
def a51 : AFunc := ⟨16, c51, [.tmp 4, .tmp 5]⟩
/-! 52 cassegrain/code.Deinterleaved params [25, 3] nfree 0 ntmps 19 -/
def c52 : ACode :=
 .seq (
 .reg none [
 ⟨some 4, none, .mov (.c .nils)⟩,
 ⟨some 5, none, .mov (.c (.int .i64 0))⟩]) (
 .seq (
 .seq (
 .reg none [
 ⟨some 7, none, .mov (.t 0)⟩,
 ⟨some 8, none, .mov (.t 1)⟩,
 ⟨some 9, none, .ncall true 0 123 [(.t 7), (.t 8)]⟩,
 ⟨some 6, none, .mov (.t 9)⟩]) (
 .seq (
 .reg none [
 ⟨some 10, none, .mov (.t 6)⟩,
 ⟨some 11, none, .bin .neq (.t 10) (.c (.int .i64 0))⟩]) (
 .cond (.t 11) (
 .seq (
 .reg none [
 ⟨some 12, none, .mov (.t 6)⟩,
 ⟨some 4, none, .mov (.c .nils)⟩,
 ⟨some 5, none, .mov (.t 12)⟩]) (
 .ret)) (
 .skip)))) (
 .seq (
 .reg none [
 ⟨some 13, none, .mov (.t 0)⟩,
 ⟨some 14, none, .mov (.t 0)⟩,
 ⟨some 15, none, .len (.t 14)⟩,
 ⟨some 16, none, .mov (.t 1)⟩,
 ⟨some 17, none, .bin .quo (.t 15) (.t 16)⟩,
 ⟨some 18, none, .ncall true 52019 124 [(.t 13), (.t 17)]⟩,
 ⟨some 4, none, .mov (.t 18)⟩,
 ⟨some 5, none, .mov (.c (.int .i64 0))⟩]) (
 .gh [.keep [4, 5]] (
 .ret))))
def a52 : AFunc := ⟨19, c52, [.tmp 4, .tmp 5]⟩
/-! 53 cassegrain/cassegrainref05.ListErr params [25, 3] nfree 0 ntmps 16 -/
def c53 : ACode :=
 .seq (
 .reg none [
 ⟨some 4, none, .mov (.c (.int .i64 0))⟩]) (
 .seq (
 .seq (
 .reg none [
 ⟨some 5, none, .mov (.t 0)⟩,
 ⟨some 6, none, .len (.t 5)⟩,
 ⟨some 7, none, .bin .gtr (.t 6) (.c (.int .i64 400))⟩]) (
 .cond (.t 7) (
 .seq (
 .reg none [
 ⟨some 4, none, .mov (.c (.int .i64 8))⟩]) (
 .ret)) (
 .skip))) (
 .seq (
 .seq (
 .reg none [
 ⟨some 8, none, .mov (.t 1)⟩,
 ⟨some 9, none, .ncall true 0 45 [(.t 8), (.c (.int .i64 1)), (.c (.int .i64 400))]⟩,
 ⟨some 10, none, .not (.t 9)⟩]) (
 .cond (.t 10) (
 .seq (
 .reg none [
 ⟨some 4, none, .mov (.c (.int .i64 2))⟩]) (
 .ret)) (
 .skip))) (
 .seq (
 .seq (
 .reg none [
 ⟨some 11, none, .mov (.t 0)⟩,
 ⟨some 12, none, .len (.t 11)⟩,
 ⟨some 13, none, .mov (.t 1)⟩,
 ⟨some 14, none, .bin .rem (.t 12) (.t 13)⟩,
 ⟨some 15, none, .bin .neq (.t 14) (.c (.int .i64 0))⟩]) (
 .cond (.t 15) (
 .seq (
 .reg none [
 ⟨some 4, none, .mov (.c (.int .i64 10))⟩]) (
 .ret)) (
 .skip))) (
 .seq (
 .reg none [
 ⟨some 4, none, .mov (.c (.int .i64 0))⟩]) (
 .ret)))))
def a53 : AFunc := ⟨16, c53, [.tmp 4]⟩
/-! 54 cassegrain/cassegrainref05.Interleaved params [25, 3] nfree 0 ntmps 35 -/
def l54_1 : ACode :=
 .seq (
 .seq (
 .reg none [
 ⟨some 18, none, .mov (.t 8)⟩,
 ⟨some 19, none, .mov (.t 1)⟩,
 ⟨some 20, none, .bin .lss (.t 18) (.t 19)⟩]) (
 .cond (.t 20) (
 .skip) (
 .exit 2))) (
 .seq (
 .block 3 (
 .reg none [
 ⟨some 23, none, .mov (.t 6)⟩,
 ⟨some 24, none, .mov (.t 0)⟩,
 ⟨some 25, none, .mov (.t 8)⟩,
 ⟨some 26, none, .mov (.t 5)⟩,
 ⟨some 27, none, .bin .mul (.t 25) (.t 26)⟩,
 ⟨some 28, none, .mov (.t 7)⟩,
 ⟨some 29, none, .bin .add (.t 27) (.t 28)⟩,
 ⟨some 30, none, .iaddr 1 (.t 24) (.t 29)⟩,
 ⟨some 31, none, .load false 1 (.t 30)⟩,
 ⟨some 32, none, .bslice 54033 3 1 [(.t 31)]⟩,
 ⟨some 33, none, .append 54034 3 1 (.t 23) (.t 32)⟩,
 ⟨some 6, none, .mov (.t 33)⟩])) (
 .reg none [
 ⟨some 21, none, .mov (.t 8)⟩,
 ⟨some 22, none, .bin .add (.t 21) (.c (.int .i64 1))⟩,
 ⟨some 8, none, .mov (.t 22)⟩]))
def b54_1 : ACode := .gh [.keep [0, 1, 5, 6, 7, 8]] (.gh [] l54_1)
def l54_0 : ACode :=
 .seq (
 .seq (
 .reg none [
 ⟨some 13, none, .mov (.t 7)⟩,
 ⟨some 14, none, .mov (.t 5)⟩,
 ⟨some 15, none, .bin .lss (.t 13) (.t 14)⟩]) (
 .cond (.t 15) (
 .skip) (
 .exit 0))) (
 .seq (
 .block 1 (
 .seq (
 .reg none [
 ⟨some 8, none, .mov (.c (.int .i64 0))⟩]) (
 .block 2 (
 .loop b54_1)))) (
 .reg none [
 ⟨some 16, none, .mov (.t 7)⟩,
 ⟨some 17, none, .bin .add (.t 16) (.c (.int .i64 1))⟩,
 ⟨some 7, none, .mov (.t 17)⟩]))
def b54_0 : ACode := .gh [.keep [0, 1, 5, 6, 7]] (.gh [] l54_0)
def k54_1 : List AItem := .inLoop b54_1 :: [.inBlock 2,
 .inBlock 1,
 .code (.reg none [
 ⟨some 16, none, .mov (.t 7)⟩,
 ⟨some 17, none, .bin .add (.t 16) (.c (.int .i64 1))⟩,
 ⟨some 7, none, .mov (.t 17)⟩]),
 .inLoop b54_0,
 .inBlock 0,
 .code (.seq (
 .reg none [
 ⟨some 34, none, .mov (.t 6)⟩,
 ⟨some 4, none, .mov (.t 34)⟩]) (
 .ret))]
def k54_0 : List AItem := .inLoop b54_0 :: [.inBlock 0,
 .code (.seq (
 .reg none [
 ⟨some 34, none, .mov (.t 6)⟩,
 ⟨some 4, none, .mov (.t 34)⟩]) (
 .ret))]
def c54 : ACode :=
 .seq (
 .reg none [
 ⟨some 4, none, .mov (.c .nils)⟩]) (
 .seq (
 .reg none [
 ⟨some 9, none, .mov (.t 0)⟩,
 ⟨some 10, none, .len (.t 9)⟩,
 ⟨some 11, none, .mov (.t 1)⟩,
 ⟨some 12, none, .bin .quo (.t 10) (.t 11)⟩,
 ⟨some 5, none, .mov (.t 12)⟩]) (
 .seq (
 .reg none [
 ⟨some 6, none, .mov (.c .nils)⟩]) (
 .seq (
 .seq (
 .reg none [
 ⟨some 7, none, .mov (.c (.int .i64 0))⟩]) (
 .block 0 (
 .loop b54_0))) (
 .seq (
 .reg none [
 ⟨some 34, none, .mov (.t 6)⟩,
 ⟨some 4, none, .mov (.t 34)⟩]) (
 .ret)))))
def a54 : AFunc := ⟨35, c54, [.tmp 4]⟩
/-! 55 cassegrain/cassegrainref05.Deinterleaved params [25, 3] nfree 0 ntmps 42 -/
def l55_1 : ACode :=
 .seq (
 .seq (
 .reg none [
 ⟨some 21, none, .mov (.t 8)⟩,
 ⟨some 22, none, .mov (.t 5)⟩,
 ⟨some 23, none, .bin .lss (.t 21) (.t 22)⟩]) (
 .cond (.t 23) (
 .skip) (
 .exit 2))) (
 .seq (
 .block 3 (
 .reg none [
 ⟨some 26, none, .mov (.t 6)⟩,
 ⟨some 27, none, .mov (.t 7)⟩,
 ⟨some 28, none, .mov (.t 5)⟩,
 ⟨some 29, none, .bin .mul (.t 27) (.t 28)⟩,
 ⟨some 30, none, .mov (.t 8)⟩,
 ⟨some 31, none, .bin .add (.t 29) (.t 30)⟩,
 ⟨some 32, none, .mov (.t 0)⟩,
 ⟨some 33, none, .mov (.t 8)⟩,
 ⟨some 34, none, .mov (.t 1)⟩,
 ⟨some 35, none, .bin .mul (.t 33) (.t 34)⟩,
 ⟨some 36, none, .mov (.t 7)⟩,
 ⟨some 37, none, .bin .add (.t 35) (.t 36)⟩,
 ⟨some 38, none, .iaddr 1 (.t 32) (.t 37)⟩,
 ⟨some 39, none, .load false 1 (.t 38)⟩,
 ⟨some 40, none, .iaddr 1 (.t 26) (.t 31)⟩,
 ⟨none, none, .store 1 (.t 40) (.t 39)⟩])) (
 .reg none [
 ⟨some 24, none, .mov (.t 8)⟩,
 ⟨some 25, none, .bin .add (.t 24) (.c (.int .i64 1))⟩,
 ⟨some 8, none, .mov (.t 25)⟩]))
def b55_1 : ACode := .gh [.keep [0, 1, 5, 6, 7, 8]] (.gh [] l55_1)
def l55_0 : ACode :=
 .seq (
 .seq (
 .reg none [
 ⟨some 16, none, .mov (.t 7)⟩,
 ⟨some 17, none, .mov (.t 1)⟩,
 ⟨some 18, none, .bin .lss (.t 16) (.t 17)⟩]) (
 .cond (.t 18) (
 .skip) (
 .exit 0))) (
 .seq (
 .block 1 (
 .seq (
 .reg none [
 ⟨some 8, none, .mov (.c (.int .i64 0))⟩]) (
 .block 2 (
 .loop b55_1)))) (
 .reg none [
 ⟨some 19, none, .mov (.t 7)⟩,
 ⟨some 20, none, .bin .add (.t 19) (.c (.int .i64 1))⟩,
 ⟨some 7, none, .mov (.t 20)⟩]))
def b55_0 : ACode := .gh [.keep [0, 1, 5, 6, 7]] (.gh [] l55_0)
def k55_1 : List AItem := .inLoop b55_1 :: [.inBlock 2,
 .inBlock 1,
 .code (.reg none [
 ⟨some 19, none, .mov (.t 7)⟩,
 ⟨some 20, none, .bin .add (.t 19) (.c (.int .i64 1))⟩,
 ⟨some 7, none, .mov (.t 20)⟩]),
 .inLoop b55_0,
 .inBlock 0,
 .code (.seq (
 .reg none [
 ⟨some 41, none, .mov (.t 6)⟩,
 ⟨some 4, none, .mov (.t 41)⟩]) (
 .ret))]
def k55_0 : List AItem := .inLoop b55_0 :: [.inBlock 0,
 .code (.seq (
 .reg none [
 ⟨some 41, none, .mov (.t 6)⟩,
 ⟨some 4, none, .mov (.t 41)⟩]) (
 .ret))]
def c55 : ACode :=
 .seq (
 .reg none [
 ⟨some 4, none, .mov (.c .nils)⟩]) (
 .seq (
 .reg none [
 ⟨some 9, none, .mov (.t 0)⟩,
 ⟨some 10, none, .len (.t 9)⟩,
 ⟨some 11, none, .mov (.t 1)⟩,
 ⟨some 12, none, .bin .quo (.t 10) (.t 11)⟩,
 ⟨some 5, none, .mov (.t 12)⟩]) (
 .seq (
 .reg none [
 ⟨some 13, none, .mov (.t 0)⟩,
 ⟨some 14, none, .len (.t 13)⟩,
 ⟨some 15, none, .mkslice 55016 3 1 (.int .i64 0) (.t 14)⟩,
 ⟨some 6, none, .mov (.t 15)⟩]) (
 .seq (
 .seq (
 .reg none [
 ⟨some 7, none, .mov (.c (.int .i64 0))⟩]) (
 .block 0 (
 .loop b55_0))) (
 .seq (
 .reg none [
 ⟨some 41, none, .mov (.t 6)⟩,
 ⟨some 4, none, .mov (.t 41)⟩]) (
 .ret)))))
def a55 : AFunc := ⟨42, c55, [.tmp 4]⟩
/-! 56 cassegrain/code.MetricOf params [24, 25, 25] nfree 0 ntmps 53 -/
def l56_0 : ACode :=
 .seq (
 .reg none [
 ⟨some 39, none, .bin .lss (.t 38) (.t 37)⟩]) (
 .seq (
 .cond (.t 39) (
 .skip) (
 .exit 0)) (
 .seq (
 .block 1 (
 .seq (
 .reg none [
 ⟨some 40, none, .mov (.t 38)⟩,
 ⟨some 41, none, .iaddr 1 (.t 36) (.t 38)⟩,
 ⟨some 42, none, .load false 1 (.t 41)⟩,
 ⟨some 10, none, .mov (.t 40)⟩,
 ⟨some 11, none, .mov (.t 42)⟩]) (
 .reg none [
 ⟨some 43, none, .mov (.t 9)⟩,
 ⟨some 44, none, .mov (.t 11)⟩,
 ⟨some 45, none, .mov (.t 2)⟩,
 ⟨some 46, none, .mov (.t 10)⟩,
 ⟨some 47, none, .iaddr 1 (.t 45) (.t 46)⟩,
 ⟨some 48, none, .load false 1 (.t 47)⟩,
 ⟨some 49, none, .ncall true 0 125 [(.t 44), (.t 48)]⟩,
 ⟨some 50, none, .bin .add (.t 43) (.t 49)⟩,
 ⟨some 9, none, .mov (.t 50)⟩]))) (
 .reg none [
 ⟨some 51, none, .bin .add (.t 38) (.c (.int .i64 1))⟩,
 ⟨some 38, none, .mov (.t 51)⟩])))
def b56_0 : ACode := .gh [.keep [2, 9, 36, 37, 38]] (.gh [] l56_0)
def k56_0 : List AItem := .inLoop b56_0 :: [.inBlock 0,
 .code (.seq (
 .reg none [
 ⟨some 52, none, .mov (.t 9)⟩,
 ⟨some 6, none, .mov (.t 52)⟩,
 ⟨some 7, none, .mov (.c (.int .i64 0))⟩]) (
 .ret))]
def c56 : ACode :=
 .seq (
 .reg none [
 ⟨some 3, none, .box 56004 24 (.t 0)⟩,
 ⟨some 6, none, .mov (.c (.int .i64 0))⟩,
 ⟨some 7, none, .mov (.c (.int .i64 0))⟩]) (
 .seq (
 .seq (
 .reg (some []) [
 ⟨some 12, none, .load true 3 (.t 3)⟩,
 ⟨some 13, none, .ncall true 0 57 [(.t 12)]⟩,
 ⟨some 14, none, .mov (.t 1)⟩,
 ⟨some 15, none, .ncall true 0 118 [(.t 14)]⟩,
 ⟨some 16, none, .load true 3 (.t 3)⟩,
 ⟨some 17, none, .mov (.t 2)⟩,
 ⟨some 18, none, .ncall true 0 98 [(.t 16), (.t 17)]⟩,
 ⟨some 19, none, .mov (.t 2)⟩,
 ⟨some 20, none, .len (.t 19)⟩,
 ⟨some 21, none, .mov (.t 1)⟩,
 ⟨some 22, none, .len (.t 21)⟩,
 ⟨some 23, none, .faddr 0 (.t 3)⟩,
 ⟨some 24, none, .load false 1 (.t 23)⟩,
 ⟨some 25, none, .bin .add (.t 22) (.t 24)⟩,
 ⟨some 26, none, .bin .mul (.c (.int .i64 2)) (.t 25)⟩,
 ⟨some 27, none, .bin .eql (.t 20) (.t 26)⟩,
 ⟨some 28, none, .ncall true 0 111 [(.t 27), (.c (.int .i64 13))]⟩,
 ⟨some 29, none, .bslice 56030 27 1 [(.t 13), (.t 15), (.t 18), (.t 28)]⟩,
 ⟨some 30, none, .ncall true 0 105 [(.t 29)]⟩,
 ⟨some 8, none, .mov (.t 30)⟩]) (
 .gh [.keep [1, 2, 3, 8]] (
 .seq (
 .reg none [
 ⟨some 31, none, .mov (.t 8)⟩,
 ⟨some 32, none, .bin .neq (.t 31) (.c (.int .i64 0))⟩]) (
 .cond (.t 32) (
 .seq (
 .reg none [
 ⟨some 33, none, .mov (.t 8)⟩,
 ⟨some 6, none, .mov (.c (.int .i64 0))⟩,
 ⟨some 7, none, .mov (.t 33)⟩]) (
 .ret)) (
 .skip))))) (
 .seq (
 .reg none [
 ⟨some 9, none, .mov (.c (.int .i64 0))⟩]) (
 .seq (
 .seq (
 .reg none [
 ⟨some 34, none, .load true 3 (.t 3)⟩,
 ⟨some 35, none, .mov (.t 1)⟩,
 ⟨some 36, none, .ncall true 56037 119 [(.t 34), (.t 35)]⟩,
 ⟨some 37, none, .len (.t 36)⟩,
 ⟨some 38, none, .mov (.c (.int .i64 0))⟩]) (
 .block 0 (
 .loop b56_0))) (
 .seq (
 .reg none [
 ⟨some 52, none, .mov (.t 9)⟩,
 ⟨some 6, none, .mov (.t 52)⟩,
 ⟨some 7, none, .mov (.c (.int .i64 0))⟩]) (
 .ret)))))
def a56 : AFunc := ⟨53, c56, [.tmp 6, .tmp 7]⟩
/-! 57 cassegrain/code.CheckConvolution params [24] nfree 0 ntmps 15 -/
def c57 : ACode :=
 .seq (
 .reg none [
 ⟨some 1, none, .box 57002 24 (.t 0)⟩,
 ⟨some 2, none, .mov (.c (.int .i64 0))⟩]) (
 .seq (
 .seq (
 .reg none [
 ⟨some 3, none, .faddr 0 (.t 1)⟩,
 ⟨some 4, none, .load false 1 (.t 3)⟩,
 ⟨some 5, none, .ncall true 0 112 [(.t 4), (.c (.int .i64 1)), (.c (.int .i64 3))]⟩,
 ⟨some 6, none, .not (.t 5)⟩]) (
 .cond (.t 6) (
 .seq (
 .reg none [
 ⟨some 2, none, .mov (.c (.int .i64 2))⟩]) (
 .ret)) (
 .skip))) (
 .seq (
 .reg (some []) [
 ⟨some 7, none, .faddr 1 (.t 1)⟩,
 ⟨some 8, none, .asl 2 (.t 7) none none⟩,
 ⟨some 9, none, .faddr 0 (.t 1)⟩,
 ⟨some 10, none, .load false 1 (.t 9)⟩,
 ⟨some 11, none, .bin .add (.t 10) (.c (.int .i64 1))⟩,
 ⟨some 12, none, .bin .shl (.c (.int .i64 1)) (.t 11)⟩,
 ⟨some 13, none, .bin .sub (.t 12) (.c (.int .i64 1))⟩,
 ⟨some 14, none, .ncall true 0 103 [(.t 8), (.c (.int .i64 1)), (.t 13)]⟩,
 ⟨some 2, none, .mov (.t 14)⟩]) (
 .gh [.keep [2]] (
 .ret))))
def a57 : AFunc := ⟨15, c57, [.tmp 2]⟩
/-! 58 cassegrain/cassegrainref05.FreeDistance params [24] nfree 0 ntmps 79 -/
def l58_2 : ACode :=
 .seq (
 .seq (
 .reg none [
 ⟨some 45, none, .mov (.t 9)⟩,
 ⟨some 46, none, .bin .lss (.t 45) (.c (.int .i64 2))⟩]) (
 .cond (.t 46) (
 .skip) (
 .exit 6))) (
 .seq (
 .block 7 (
 .seq (
 .reg none [
 ⟨some 50, none, .load true 3 (.t 1)⟩,
 ⟨some 51, none, .mov (.t 8)⟩,
 ⟨some 52, none, .mov (.t 9)⟩,
 ⟨some 53, none, .ncall true 0 101 [(.t 50), (.t 51), (.t 52)]⟩,
 ⟨some 49, none, .mov (.t 53)⟩,
 ⟨some 54, none, .ext 0 (.t 49)⟩,
 ⟨some 55, none, .ext 1 (.t 49)⟩,
 ⟨some 11, none, .alloc 58012 22 (.agg (.ints .i64 [0, 0]))⟩,
 ⟨some 10, none, .mov (.t 54)⟩,
 ⟨none, none, .store 2 (.t 11) (.t 55)⟩]) (
 .gh [.keep [1, 3, 7, 8, 9, 10, 11]] (
 .seq (
 .reg (some []) [
 ⟨some 56, none, .mov (.t 3)⟩,
 ⟨some 57, none, .mov (.t 8)⟩,
 ⟨some 58, none, .iaddr 1 (.t 56) (.t 57)⟩,
 ⟨some 59, none, .load false 1 (.t 58)⟩,
 ⟨some 60, none, .aaddr 2 1 (.t 11) (.c (.int .i64 0))⟩,
 ⟨some 61, none, .load false 1 (.t 60)⟩,
 ⟨some 62, none, .bin .add (.t 59) (.t 61)⟩,
 ⟨some 63, none, .aaddr 2 1 (.t 11) (.c (.int .i64 1))⟩,
 ⟨some 64, none, .load false 1 (.t 63)⟩,
 ⟨some 65, none, .bin .add (.t 62) (.t 64)⟩,
 ⟨some 12, none, .mov (.t 65)⟩]) (
 .gh [.keep [1, 3, 7, 8, 9, 10, 12]] (
 .seq (
 .reg none [
 ⟨some 66, none, .mov (.t 12)⟩,
 ⟨some 67, none, .mov (.t 3)⟩,
 ⟨some 68, none, .mov (.t 10)⟩,
 ⟨some 69, none, .iaddr 1 (.t 67) (.t 68)⟩,
 ⟨some 70, none, .load false 1 (.t 69)⟩,
 ⟨some 71, none, .bin .lss (.t 66) (.t 70)⟩]) (
 .cond (.t 71) (
 .reg none [
 ⟨some 72, none, .mov (.t 3)⟩,
 ⟨some 73, none, .mov (.t 10)⟩,
 ⟨some 74, none, .mov (.t 12)⟩,
 ⟨some 75, none, .iaddr 1 (.t 72) (.t 73)⟩,
 ⟨none, none, .store 1 (.t 75) (.t 74)⟩,
 ⟨some 7, none, .mov (.c (.bool true))⟩]) (
 .skip)))))))) (
 .reg none [
 ⟨some 47, none, .mov (.t 9)⟩,
 ⟨some 48, none, .bin .add (.t 47) (.c (.int .i64 1))⟩,
 ⟨some 9, none, .mov (.t 48)⟩]))
def b58_2 : ACode := .gh [.keep [1, 3, 7, 8, 9]] (.gh [] l58_2)
def l58_1 : ACode :=
 .seq (
 .seq (
 .reg none [
 ⟨some 39, none, .mov (.t 8)⟩,
 ⟨some 40, none, .load true 3 (.t 1)⟩,
 ⟨some 41, none, .ncall true 0 100 [(.t 40)]⟩,
 ⟨some 42, none, .bin .lss (.t 39) (.t 41)⟩]) (
 .cond (.t 42) (
 .skip) (
 .exit 4))) (
 .seq (
 .block 5 (
 .seq (
 .reg none [
 ⟨some 9, none, .mov (.c (.int .i64 0))⟩]) (
 .block 6 (
 .loop b58_2)))) (
 .reg none [
 ⟨some 43, none, .mov (.t 8)⟩,
 ⟨some 44, none, .bin .add (.t 43) (.c (.int .i64 1))⟩,
 ⟨some 8, none, .mov (.t 44)⟩]))
def b58_1 : ACode := .gh [.keep [1, 3, 7, 8]] (.gh [] l58_1)
def l58_0 : ACode :=
 .seq (
 .seq (
 .reg none [
 ⟨some 38, none, .mov (.t 7)⟩]) (
 .cond (.t 38) (
 .skip) (
 .exit 2))) (
 .block 3 (
 .seq (
 .reg none [
 ⟨some 7, none, .mov (.c (.bool false))⟩]) (
 .seq (
 .reg none [
 ⟨some 8, none, .mov (.c (.int .i64 1))⟩]) (
 .block 4 (
 .loop b58_1)))))
def b58_0 : ACode := .gh [.keep [1, 3, 7]] (.gh [] l58_0)
def l58_3 : ACode :=
 .seq (
 .seq (
 .reg none [
 ⟨some 16, none, .mov (.t 4)⟩,
 ⟨some 17, none, .load true 3 (.t 1)⟩,
 ⟨some 18, none, .ncall true 0 100 [(.t 17)]⟩,
 ⟨some 19, none, .bin .lss (.t 16) (.t 18)⟩]) (
 .cond (.t 19) (
 .skip) (
 .exit 0))) (
 .seq (
 .block 1 (
 .reg none [
 ⟨some 22, none, .mov (.t 3)⟩,
 ⟨some 23, none, .mov (.t 4)⟩,
 ⟨some 24, none, .iaddr 1 (.t 22) (.t 23)⟩,
 ⟨none, none, .store 1 (.t 24) (.c (.int .i64 1000))⟩])) (
 .reg none [
 ⟨some 20, none, .mov (.t 4)⟩,
 ⟨some 21, none, .bin .add (.t 20) (.c (.int .i64 1))⟩,
 ⟨some 4, none, .mov (.t 21)⟩]))
def b58_3 : ACode := .gh [.keep [1, 3, 4]] (.gh [] l58_3)
def k58_2 : List AItem := .inLoop b58_2 :: [.inBlock 6,
 .inBlock 5,
 .code (.reg none [
 ⟨some 43, none, .mov (.t 8)⟩,
 ⟨some 44, none, .bin .add (.t 43) (.c (.int .i64 1))⟩,
 ⟨some 8, none, .mov (.t 44)⟩]),
 .inLoop b58_1,
 .inBlock 4,
 .inBlock 3,
 .inLoop b58_0,
 .inBlock 2,
 .code (.seq (
 .reg none [
 ⟨some 76, none, .mov (.t 3)⟩,
 ⟨some 77, none, .iaddr 1 (.t 76) (.c (.int .i64 0))⟩,
 ⟨some 78, none, .load false 1 (.t 77)⟩,
 ⟨some 2, none, .mov (.t 78)⟩]) (
 .ret))]
def k58_1 : List AItem := .inLoop b58_1 :: [.inBlock 4,
 .inBlock 3,
 .inLoop b58_0,
 .inBlock 2,
 .code (.seq (
 .reg none [
 ⟨some 76, none, .mov (.t 3)⟩,
 ⟨some 77, none, .iaddr 1 (.t 76) (.c (.int .i64 0))⟩,
 ⟨some 78, none, .load false 1 (.t 77)⟩,
 ⟨some 2, none, .mov (.t 78)⟩]) (
 .ret))]
def k58_0 : List AItem := .inLoop b58_0 :: [.inBlock 2,
 .code (.seq (
 .reg none [
 ⟨some 76, none, .mov (.t 3)⟩,
 ⟨some 77, none, .iaddr 1 (.t 76) (.c (.int .i64 0))⟩,
 ⟨some 78, none, .load false 1 (.t 77)⟩,
 ⟨some 2, none, .mov (.t 78)⟩]) (
 .ret))]
def k58_3 : List AItem := .inLoop b58_3 :: [.inBlock 0,
 .code (.seq (
 .reg none [
 ⟨some 26, none, .load true 3 (.t 1)⟩,
 ⟨some 27, none, .ncall true 0 101 [(.t 26), (.c (.int .i64 0)), (.c (.int .i64 1))]⟩,
 ⟨some 25, none, .mov (.t 27)⟩,
 ⟨some 28, none, .ext 0 (.t 25)⟩,
 ⟨some 29, none, .ext 1 (.t 25)⟩,
 ⟨some 6, none, .alloc 58007 22 (.agg (.ints .i64 [0, 0]))⟩,
 ⟨some 5, none, .mov (.t 28)⟩,
 ⟨none, none, .store 2 (.t 6) (.t 29)⟩]) (
 .seq (
 .reg none [
 ⟨some 30, none, .mov (.t 3)⟩,
 ⟨some 31, none, .mov (.t 5)⟩,
 ⟨some 32, none, .aaddr 2 1 (.t 6) (.c (.int .i64 0))⟩,
 ⟨some 33, none, .load false 1 (.t 32)⟩,
 ⟨some 34, none, .aaddr 2 1 (.t 6) (.c (.int .i64 1))⟩,
 ⟨some 35, none, .load false 1 (.t 34)⟩,
 ⟨some 36, none, .bin .add (.t 33) (.t 35)⟩,
 ⟨some 37, none, .iaddr 1 (.t 30) (.t 31)⟩,
 ⟨none, none, .store 1 (.t 37) (.t 36)⟩]) (
 .gh [.keep [1, 3]] (
 .seq (
 .seq (
 .reg none [
 ⟨some 7, none, .mov (.c (.bool true))⟩]) (
 .block 2 (
 .loop b58_0))) (
 .seq (
 .reg none [
 ⟨some 76, none, .mov (.t 3)⟩,
 ⟨some 77, none, .iaddr 1 (.t 76) (.c (.int .i64 0))⟩,
 ⟨some 78, none, .load false 1 (.t 77)⟩,
 ⟨some 2, none, .mov (.t 78)⟩]) (
 .ret))))))]
def c58 : ACode :=
 .seq (
 .reg none [
 ⟨some 1, none, .box 58002 24 (.t 0)⟩,
 ⟨some 2, none, .mov (.c (.int .i64 0))⟩]) (
 .seq (
 .reg none [
 ⟨some 13, none, .load true 3 (.t 1)⟩,
 ⟨some 14, none, .ncall true 0 100 [(.t 13)]⟩,
 ⟨some 15, none, .mkslice 58016 3 1 (.int .i64 0) (.t 14)⟩,
 ⟨some 3, none, .mov (.t 15)⟩]) (
 .seq (
 .seq (
 .reg none [
 ⟨some 4, none, .mov (.c (.int .i64 0))⟩]) (
 .block 0 (
 .loop b58_3))) (
 .seq (
 .reg none [
 ⟨some 26, none, .load true 3 (.t 1)⟩,
 ⟨some 27, none, .ncall true 0 101 [(.t 26), (.c (.int .i64 0)), (.c (.int .i64 1))]⟩,
 ⟨some 25, none, .mov (.t 27)⟩,
 ⟨some 28, none, .ext 0 (.t 25)⟩,
 ⟨some 29, none, .ext 1 (.t 25)⟩,
 ⟨some 6, none, .alloc 58007 22 (.agg (.ints .i64 [0, 0]))⟩,
 ⟨some 5, none, .mov (.t 28)⟩,
 ⟨none, none, .store 2 (.t 6) (.t 29)⟩]) (
 .seq (
 .reg none [
 ⟨some 30, none, .mov (.t 3)⟩,
 ⟨some 31, none, .mov (.t 5)⟩,
 ⟨some 32, none, .aaddr 2 1 (.t 6) (.c (.int .i64 0))⟩,
 ⟨some 33, none, .load false 1 (.t 32)⟩,
 ⟨some 34, none, .aaddr 2 1 (.t 6) (.c (.int .i64 1))⟩,
 ⟨some 35, none, .load false 1 (.t 34)⟩,
 ⟨some 36, none, .bin .add (.t 33) (.t 35)⟩,
 ⟨some 37, none, .iaddr 1 (.t 30) (.t 31)⟩,
 ⟨none, none, .store 1 (.t 37) (.t 36)⟩]) (
 .gh [.keep [1, 3]] (
 .seq (
 .seq (
 .reg none [
 ⟨some 7, none, .mov (.c (.bool true))⟩]) (
 .block 2 (
 .loop b58_0))) (
 .seq (
 .reg none [
 ⟨some 76, none, .mov (.t 3)⟩,
 ⟨some 77, none, .iaddr 1 (.t 76) (.c (.int .i64 0))⟩,
 ⟨some 78, none, .load false 1 (.t 77)⟩,
 ⟨some 2, none, .mov (.t 78)⟩]) (
 .ret))))))))
def a58 : AFunc := ⟨79, c58, [.tmp 2]⟩
/-! 59 cassegrain/cassegrainref05.Encode params [24, 25] nfree 0 ntmps 41 -/
def l59_0 : ACode :=
 .seq (
 .seq (
 .reg none [
 ⟨some 16, none, .mov (.t 8)⟩,
 ⟨some 17, none, .mov (.t 5)⟩,
 ⟨some 18, none, .len (.t 17)⟩,
 ⟨some 19, none, .bin .lss (.t 16) (.t 18)⟩]) (
 .cond (.t 19) (
 .skip) (
 .exit 0))) (
 .seq (
 .block 1 (
 .seq (
 .reg (some [(0, 10), (1, 10), (2, 10), (3, 10), (4, 10), (5, 10), (6, 10), (7, 10), (8, 10), (9, 10)]) [
 ⟨some 23, none, .load true 3 (.t 2)⟩,
 ⟨some 24, none, .mov (.t 7)⟩,
 ⟨some 25, none, .mov (.t 5)⟩,
 ⟨some 26, none, .mov (.t 8)⟩,
 ⟨some 27, none, .iaddr 1 (.t 25) (.t 26)⟩,
 ⟨some 28, none, .load false 1 (.t 27)⟩,
 ⟨some 29, none, .ncall true 0 101 [(.t 23), (.t 24), (.t 28)]⟩,
 ⟨some 22, none, .mov (.t 29)⟩,
 ⟨some 30, none, .ext 0 (.t 22)⟩,
 ⟨some 31, none, .ext 1 (.t 22)⟩,
 ⟨some 10, none, .alloc 59011 22 (.agg (.ints .i64 [0, 0]))⟩,
 ⟨some 9, none, .mov (.t 30)⟩,
 ⟨none, none, .store 2 (.t 10) (.t 31)⟩]) (
 .gh [.keep [2, 5, 6, 8, 9, 10]] (
 .seq (
 .reg none [
 ⟨some 32, none, .mov (.t 6)⟩,
 ⟨some 33, none, .aaddr 2 1 (.t 10) (.c (.int .i64 0))⟩,
 ⟨some 34, none, .load false 1 (.t 33)⟩,
 ⟨some 35, none, .aaddr 2 1 (.t 10) (.c (.int .i64 1))⟩,
 ⟨some 36, none, .load false 1 (.t 35)⟩,
 ⟨some 37, none, .bslice 59038 3 1 [(.t 34), (.t 36)]⟩,
 ⟨some 38, none, .append 59039 3 1 (.t 32) (.t 37)⟩,
 ⟨some 6, none, .mov (.t 38)⟩]) (
 .gh [.keep [2, 5, 6, 8, 9]] (
 .reg none [
 ⟨some 39, none, .mov (.t 9)⟩,
 ⟨some 7, none, .mov (.t 39)⟩])))))) (
 .reg none [
 ⟨some 20, none, .mov (.t 8)⟩,
 ⟨some 21, none, .bin .add (.t 20) (.c (.int .i64 1))⟩,
 ⟨some 8, none, .mov (.t 21)⟩]))
def b59_0 : ACode := .gh [.keep [2, 5, 6, 7, 8]] (.gh [] l59_0)
def k59_0 : List AItem := .inLoop b59_0 :: [.inBlock 0,
 .code (.seq (
 .reg none [
 ⟨some 40, none, .mov (.t 6)⟩,
 ⟨some 4, none, .mov (.t 40)⟩]) (
 .ret))]
def c59 : ACode :=
 .seq (
 .reg none [
 ⟨some 2, none, .box 59003 24 (.t 0)⟩,
 ⟨some 4, none, .mov (.c .nils)⟩]) (
 .seq (
 .reg (some [(1, 2), (1, 3)]) [
 ⟨some 11, none, .mov (.t 1)⟩,
 ⟨some 12, none, .ncall true 59013 20 [(.t 11)]⟩,
 ⟨some 13, none, .faddr 0 (.t 2)⟩,
 ⟨some 14, none, .load false 1 (.t 13)⟩,
 ⟨some 15, none, .append 59016 3 1 (.t 12) (.t 14)⟩,
 ⟨some 5, none, .mov (.t 15)⟩]) (
 .seq (
 .reg none [
 ⟨some 6, none, .mov (.c .nils)⟩]) (
 .seq (
 .reg none [
 ⟨some 7, none, .mov (.c (.int .i64 0))⟩]) (
 .seq (
 .seq (
 .reg none [
 ⟨some 8, none, .mov (.c (.int .i64 0))⟩]) (
 .block 0 (
 .loop b59_0))) (
 .seq (
 .reg none [
 ⟨some 40, none, .mov (.t 6)⟩,
 ⟨some 4, none, .mov (.t 40)⟩]) (
 .ret))))))
def a59 : AFunc := ⟨41, c59, [.tmp 4]⟩
/-! 60 cassegrain/cassegrainref05.SoftErr params [24, 25] nfree 0 ntmps 26 -/
def c60 : ACode :=
 .seq (
 .reg none [
 ⟨some 2, none, .box 60003 24 (.t 0)⟩,
 ⟨some 4, none, .mov (.c (.int .i64 0))⟩]) (
 .seq (
 .seq (
 .reg none [
 ⟨some 5, none, .mov (.t 1)⟩,
 ⟨some 6, none, .len (.t 5)⟩,
 ⟨some 7, none, .bin .rem (.t 6) (.c (.int .i64 2))⟩,
 ⟨some 8, none, .bin .neq (.t 7) (.c (.int .i64 0))⟩,
 ⟨some 9, none, .mov (.t 8)⟩,
 ⟨some 10, (some (9, false)), .mov (.t 1)⟩,
 ⟨some 11, (some (9, false)), .len (.t 10)⟩,
 ⟨some 12, (some (9, false)), .faddr 0 (.t 2)⟩,
 ⟨some 13, (some (9, false)), .load false 1 (.t 12)⟩,
 ⟨some 14, (some (9, false)), .bin .mul (.c (.int .i64 2)) (.t 13)⟩,
 ⟨some 15, (some (9, false)), .bin .lss (.t 11) (.t 14)⟩,
 ⟨some 16, none, .pick (.t 9) (.c (.bool true)) (.t 15)⟩]) (
 .gh [.keep [1, 2, 16]] (
 .cond (.t 16) (
 .seq (
 .reg none [
 ⟨some 4, none, .mov (.c (.int .i64 10))⟩]) (
 .ret)) (
 .skip)))) (
 .seq (
 .seq (
 .reg none [
 ⟨some 17, none, .mov (.t 1)⟩,
 ⟨some 18, none, .len (.t 17)⟩,
 ⟨some 19, none, .faddr 0 (.t 2)⟩,
 ⟨some 20, none, .load false 1 (.t 19)⟩,
 ⟨some 21, none, .bin .add (.c (.int .i64 300)) (.t 20)⟩,
 ⟨some 22, none, .bin .mul (.c (.int .i64 2)) (.t 21)⟩,
 ⟨some 23, none, .bin .gtr (.t 18) (.t 22)⟩]) (
 .gh [.keep [1, 23]] (
 .cond (.t 23) (
 .seq (
 .reg none [
 ⟨some 4, none, .mov (.c (.int .i64 8))⟩]) (
 .ret)) (
 .skip)))) (
 .seq (
 .reg none [
 ⟨some 24, none, .mov (.t 1)⟩,
 ⟨some 25, none, .ncall true 0 91 [(.t 24)]⟩,
 ⟨some 4, none, .mov (.t 25)⟩]) (
 .ret))))
def a60 : AFunc := ⟨26, c60, [.tmp 4]⟩
/-! 61 cassegrain/cassegrainref05.Metric params [24, 25, 25] nfree 0 ntmps 33 -/
def l61_0 : ACode :=
 .seq (
 .seq (
 .reg none [
 ⟨some 13, none, .mov (.t 9)⟩,
 ⟨some 14, none, .mov (.t 7)⟩,
 ⟨some 15, none, .len (.t 14)⟩,
 ⟨some 16, none, .bin .lss (.t 13) (.t 15)⟩]) (
 .cond (.t 16) (
 .skip) (
 .exit 0))) (
 .seq (
 .block 1 (
 .reg (some []) [
 ⟨some 19, none, .mov (.t 8)⟩,
 ⟨some 20, none, .mov (.t 2)⟩,
 ⟨some 21, none, .mov (.t 9)⟩,
 ⟨some 22, none, .iaddr 1 (.t 20) (.t 21)⟩,
 ⟨some 23, none, .load false 1 (.t 22)⟩,
 ⟨some 24, none, .mov (.t 7)⟩,
 ⟨some 25, none, .mov (.t 9)⟩,
 ⟨some 26, none, .iaddr 1 (.t 24) (.t 25)⟩,
 ⟨some 27, none, .load false 1 (.t 26)⟩,
 ⟨some 28, none, .bin .mul (.c (.int .i64 2)) (.t 27)⟩,
 ⟨some 29, none, .bin .sub (.c (.int .i64 1)) (.t 28)⟩,
 ⟨some 30, none, .bin .mul (.t 23) (.t 29)⟩,
 ⟨some 31, none, .bin .add (.t 19) (.t 30)⟩,
 ⟨some 8, none, .mov (.t 31)⟩])) (
 .reg none [
 ⟨some 17, none, .mov (.t 9)⟩,
 ⟨some 18, none, .bin .add (.t 17) (.c (.int .i64 1))⟩,
 ⟨some 9, none, .mov (.t 18)⟩]))
def b61_0 : ACode := .gh [.keep [2, 7, 8, 9]] (.gh [] l61_0)
def k61_0 : List AItem := .inLoop b61_0 :: [.inBlock 0,
 .code (.seq (
 .reg none [
 ⟨some 32, none, .mov (.t 8)⟩,
 ⟨some 6, none, .mov (.t 32)⟩]) (
 .ret))]
def c61 : ACode :=
 .seq (
 .reg none [
 ⟨some 3, none, .box 61004 24 (.t 0)⟩,
 ⟨some 6, none, .mov (.c (.int .i64 0))⟩]) (
 .seq (
 .reg none [
 ⟨some 10, none, .load true 3 (.t 3)⟩,
 ⟨some 11, none, .mov (.t 1)⟩,
 ⟨some 12, none, .ncall true 61013 59 [(.t 10), (.t 11)]⟩,
 ⟨some 7, none, .mov (.t 12)⟩]) (
 .seq (
 .reg none [
 ⟨some 8, none, .mov (.c (.int .i64 0))⟩]) (
 .seq (
 .seq (
 .reg none [
 ⟨some 9, none, .mov (.c (.int .i64 0))⟩]) (
 .block 0 (
 .loop b61_0))) (
 .seq (
 .reg none [
 ⟨some 32, none, .mov (.t 8)⟩,
 ⟨some 6, none, .mov (.t 32)⟩]) (
 .ret)))))
def a61 : AFunc := ⟨33, c61, [.tmp 6]⟩
/-! 62 cassegrain/code.CheckPotentials params [24, 25, 76] nfree 0 ntmps 101 -/
def l62_0 : ACode :=
 .seq (
 .reg none [
 ⟨some 59, none, .bin .lss (.t 58) (.t 57)⟩]) (
 .seq (
 .cond (.t 59) (
 .skip) (
 .exit 2)) (
 .seq (
 .block 3 (
 .seq (
 .reg none [
 ⟨some 60, none, .mov (.t 58)⟩,
 ⟨some 14, none, .alloc 62015 3 (.int .i64 0)⟩,
 ⟨none, none, .store 1 (.t 14) (.t 60)⟩]) (
 .seq (
 .reg none [
 ⟨some 61, none, .load true 4 (.t 10)⟩,
 ⟨some 62, none, .load false 1 (.t 14)⟩,
 ⟨some 63, none, .ncall true 0 128 [(.t 61), (.t 62)]⟩]) (
 .block 4 (
 .rf 62901 (.t 63) [64] (
 .reg none [
 ⟨some 15, none, .alloc 62016 145 (.agg (.gen [(.int .i64 0), (.int .i64 0), (.int .i64 0), (.flt .f32 0)]))⟩,
 ⟨none, none, .store 4 (.t 15) (.t 64)⟩]) (
 .block 5 (
 .seq (
 .reg (some []) [
 ⟨some 65, none, .load false 1 (.t 5)⟩,
 ⟨some 66, none, .load false 1 (.t 14)⟩,
 ⟨some 67, none, .iaddr 1 (.t 65) (.t 66)⟩,
 ⟨some 68, none, .load false 1 (.t 67)⟩,
 ⟨some 69, none, .faddr 0 (.t 15)⟩,
 ⟨some 70, none, .load false 1 (.t 69)⟩,
 ⟨some 71, none, .iaddr 1 (.t 68) (.t 70)⟩,
 ⟨some 72, none, .load false 1 (.t 71)⟩,
 ⟨some 73, none, .faddr 3 (.t 15)⟩,
 ⟨some 74, none, .load false 1 (.t 73)⟩,
 ⟨some 75, none, .f2i .i64 (.t 74)⟩,
 ⟨some 76, none, .bin .add (.t 72) (.t 75)⟩,
 ⟨some 77, none, .load false 1 (.t 5)⟩,
 ⟨some 78, none, .load false 1 (.t 14)⟩,
 ⟨some 79, none, .bin .add (.t 78) (.c (.int .i64 1))⟩,
 ⟨some 80, none, .iaddr 1 (.t 77) (.t 79)⟩,
 ⟨some 81, none, .load false 1 (.t 80)⟩,
 ⟨some 82, none, .faddr 2 (.t 15)⟩,
 ⟨some 83, none, .load false 1 (.t 82)⟩,
 ⟨some 84, none, .iaddr 1 (.t 81) (.t 83)⟩,
 ⟨some 85, none, .load false 1 (.t 84)⟩,
 ⟨some 86, none, .bin .gtr (.t 76) (.t 85)⟩]) (
 .gh [.keep [6, 7, 86]] (
 .cond (.t 86) (
 .seq (
 .reg none [
 ⟨none, none, .store 1 (.t 6) (.c (.int .i64 0))⟩,
 ⟨none, none, .store 1 (.t 7) (.c (.int .i64 19))⟩]) (
 .ret)) (
 .skip)))))))))) (
 .reg none [
 ⟨some 87, none, .bin .add (.t 58) (.c (.int .i64 1))⟩,
 ⟨some 58, none, .mov (.t 87)⟩])))
def b62_0 : ACode := .gh [.keep [5, 6, 7, 10, 57, 58]] (.gh [] l62_0)
def l62_1 : ACode :=
 .seq (
 .reg none [
 ⟨some 39, none, .bin .lss (.t 38) (.t 37)⟩]) (
 .seq (
 .cond (.t 39) (
 .skip) (
 .exit 0)) (
 .seq (
 .block 1 (
 .seq (
 .reg none [
 ⟨some 40, none, .iaddr 1 (.t 36) (.t 38)⟩,
 ⟨some 41, none, .load false 1 (.t 40)⟩,
 ⟨some 12, none, .mov (.t 41)⟩]) (
 .seq (
 .reg none [
 ⟨some 42, none, .mov (.t 12)⟩,
 ⟨some 43, none, .len (.t 42)⟩,
 ⟨some 44, none, .load true 4 (.t 10)⟩,
 ⟨some 45, none, .ncall true 0 127 [(.t 44)]⟩,
 ⟨some 46, none, .bin .eql (.t 43) (.t 45)⟩,
 ⟨some 47, none, .ncall true 0 111 [(.t 46), (.c (.int .i64 10))]⟩,
 ⟨some 48, none, .mov (.t 12)⟩,
 ⟨some 49, none, .ncall true 0 103 [(.t 48), (.c (.int .i64 (-1000000))), (.c (.int .i64 1000000))]⟩,
 ⟨some 50, none, .bslice 62051 27 1 [(.t 47), (.t 49)]⟩,
 ⟨some 51, none, .ncall true 0 105 [(.t 50)]⟩,
 ⟨some 13, none, .mov (.t 51)⟩]) (
 .gh [.keep [5, 6, 7, 10, 13, 36, 37, 38]] (
 .seq (
 .reg none [
 ⟨some 52, none, .mov (.t 13)⟩,
 ⟨some 53, none, .bin .neq (.t 52) (.c (.int .i64 0))⟩]) (
 .cond (.t 53) (
 .seq (
 .reg none [
 ⟨some 54, none, .mov (.t 13)⟩,
 ⟨none, none, .store 1 (.t 6) (.c (.int .i64 0))⟩,
 ⟨none, none, .store 1 (.t 7) (.t 54)⟩]) (
 .ret)) (
 .skip))))))) (
 .reg none [
 ⟨some 55, none, .bin .add (.t 38) (.c (.int .i64 1))⟩,
 ⟨some 38, none, .mov (.t 55)⟩])))
def b62_1 : ACode := .gh [.keep [5, 6, 7, 10, 36, 37, 38]] (.gh [] l62_1)
def k62_0 : List AItem := .inLoop b62_0 :: [.inBlock 2,
 .code (.seq (
 .reg (some []) [
 ⟨some 88, none, .load false 1 (.t 5)⟩,
 ⟨some 89, none, .load true 4 (.t 10)⟩,
 ⟨some 90, none, .ncall true 0 126 [(.t 89)]⟩,
 ⟨some 91, none, .iaddr 1 (.t 88) (.t 90)⟩,
 ⟨some 92, none, .load false 1 (.t 91)⟩,
 ⟨some 93, none, .iaddr 1 (.t 92) (.c (.int .i64 0))⟩,
 ⟨some 94, none, .load false 1 (.t 93)⟩,
 ⟨some 95, none, .load false 1 (.t 5)⟩,
 ⟨some 96, none, .iaddr 1 (.t 95) (.c (.int .i64 0))⟩,
 ⟨some 97, none, .load false 1 (.t 96)⟩,
 ⟨some 98, none, .iaddr 1 (.t 97) (.c (.int .i64 0))⟩,
 ⟨some 99, none, .load false 1 (.t 98)⟩,
 ⟨some 100, none, .bin .sub (.t 94) (.t 99)⟩,
 ⟨none, none, .store 1 (.t 6) (.t 100)⟩,
 ⟨none, none, .store 1 (.t 7) (.c (.int .i64 0))⟩]) (
 .gh [.keep [6, 7]] (
 .ret)))]
def k62_1 : List AItem := .inLoop b62_1 :: [.inBlock 0,
 .code (.seq (
 .seq (
 .reg none [
 ⟨some 56, none, .load true 4 (.t 10)⟩,
 ⟨some 57, none, .ncall true 0 126 [(.t 56)]⟩,
 ⟨some 58, none, .mov (.c (.int .i64 0))⟩]) (
 .block 2 (
 .loop b62_0))) (
 .seq (
 .reg (some []) [
 ⟨some 88, none, .load false 1 (.t 5)⟩,
 ⟨some 89, none, .load true 4 (.t 10)⟩,
 ⟨some 90, none, .ncall true 0 126 [(.t 89)]⟩,
 ⟨some 91, none, .iaddr 1 (.t 88) (.t 90)⟩,
 ⟨some 92, none, .load false 1 (.t 91)⟩,
 ⟨some 93, none, .iaddr 1 (.t 92) (.c (.int .i64 0))⟩,
 ⟨some 94, none, .load false 1 (.t 93)⟩,
 ⟨some 95, none, .load false 1 (.t 5)⟩,
 ⟨some 96, none, .iaddr 1 (.t 95) (.c (.int .i64 0))⟩,
 ⟨some 97, none, .load false 1 (.t 96)⟩,
 ⟨some 98, none, .iaddr 1 (.t 97) (.c (.int .i64 0))⟩,
 ⟨some 99, none, .load false 1 (.t 98)⟩,
 ⟨some 100, none, .bin .sub (.t 94) (.t 99)⟩,
 ⟨none, none, .store 1 (.t 6) (.t 100)⟩,
 ⟨none, none, .store 1 (.t 7) (.c (.int .i64 0))⟩]) (
 .gh [.keep [6, 7]] (
 .ret))))]
def c62 : ACode :=
 .seq (
 .reg none [
 ⟨some 3, none, .box 62004 24 (.t 0)⟩,
 ⟨some 5, none, .box 62006 76 (.t 2)⟩,
 ⟨some 6, none, .alloc 62007 3 (.int .i64 0)⟩,
 ⟨some 7, none, .alloc 62008 27 (.int .i64 0)⟩]) (
 .seq (
 .seq (
 .reg none [
 ⟨some 16, none, .load true 3 (.t 3)⟩,
 ⟨some 17, none, .ncall true 0 57 [(.t 16)]⟩,
 ⟨some 8, none, .mov (.t 17)⟩]) (
 .seq (
 .reg none [
 ⟨some 18, none, .mov (.t 8)⟩,
 ⟨some 19, none, .bin .neq (.t 18) (.c (.int .i64 0))⟩]) (
 .cond (.t 19) (
 .seq (
 .reg none [
 ⟨some 20, none, .mov (.t 8)⟩,
 ⟨none, none, .store 1 (.t 6) (.c (.int .i64 0))⟩,
 ⟨none, none, .store 1 (.t 7) (.t 20)⟩]) (
 .ret)) (
 .skip)))) (
 .seq (
 .seq (
 .reg none [
 ⟨some 21, none, .load true 3 (.t 3)⟩,
 ⟨some 22, none, .mov (.t 1)⟩,
 ⟨some 23, none, .ncall true 0 98 [(.t 21), (.t 22)]⟩,
 ⟨some 9, none, .mov (.t 23)⟩]) (
 .seq (
 .reg none [
 ⟨some 24, none, .mov (.t 9)⟩,
 ⟨some 25, none, .bin .neq (.t 24) (.c (.int .i64 0))⟩]) (
 .cond (.t 25) (
 .seq (
 .reg none [
 ⟨some 26, none, .mov (.t 9)⟩,
 ⟨none, none, .store 1 (.t 6) (.c (.int .i64 0))⟩,
 ⟨none, none, .store 1 (.t 7) (.t 26)⟩]) (
 .ret)) (
 .skip)))) (
 .seq (
 .reg none [
 ⟨some 27, none, .load true 3 (.t 3)⟩,
 ⟨some 28, none, .mov (.t 1)⟩,
 ⟨some 29, none, .build (.gen [(.int .i64 0), (.int .i64 0), (.int .i64 0), .nils]) [(0, 3, (.t 27)), (3, 1, (.t 28))]⟩,
 ⟨some 10, none, .alloc 62011 123 (.agg (.gen [(.int .i64 0), (.int .i64 0), (.int .i64 0), .nils]))⟩,
 ⟨none, none, .store 4 (.t 10) (.t 29)⟩]) (
 .seq (
 .seq (
 .reg (some []) [
 ⟨some 30, none, .load false 1 (.t 5)⟩,
 ⟨some 31, none, .len (.t 30)⟩,
 ⟨some 32, none, .load true 4 (.t 10)⟩,
 ⟨some 33, none, .ncall true 0 126 [(.t 32)]⟩,
 ⟨some 34, none, .bin .add (.t 33) (.c (.int .i64 1))⟩,
 ⟨some 35, none, .bin .neq (.t 31) (.t 34)⟩]) (
 .cond (.t 35) (
 .seq (
 .reg none [
 ⟨none, none, .store 1 (.t 6) (.c (.int .i64 0))⟩,
 ⟨none, none, .store 1 (.t 7) (.c (.int .i64 10))⟩]) (
 .ret)) (
 .skip))) (
 .seq (
 .seq (
 .reg none [
 ⟨some 36, none, .load false 1 (.t 5)⟩,
 ⟨some 37, none, .len (.t 36)⟩,
 ⟨some 38, none, .mov (.c (.int .i64 0))⟩]) (
 .block 0 (
 .loop b62_1))) (
 .seq (
 .seq (
 .reg none [
 ⟨some 56, none, .load true 4 (.t 10)⟩,
 ⟨some 57, none, .ncall true 0 126 [(.t 56)]⟩,
 ⟨some 58, none, .mov (.c (.int .i64 0))⟩]) (
 .block 2 (
 .loop b62_0))) (
 .seq (
 .reg (some []) [
 ⟨some 88, none, .load false 1 (.t 5)⟩,
 ⟨some 89, none, .load true 4 (.t 10)⟩,
 ⟨some 90, none, .ncall true 0 126 [(.t 89)]⟩,
 ⟨some 91, none, .iaddr 1 (.t 88) (.t 90)⟩,
 ⟨some 92, none, .load false 1 (.t 91)⟩,
 ⟨some 93, none, .iaddr 1 (.t 92) (.c (.int .i64 0))⟩,
 ⟨some 94, none, .load false 1 (.t 93)⟩,
 ⟨some 95, none, .load false 1 (.t 5)⟩,
 ⟨some 96, none, .iaddr 1 (.t 95) (.c (.int .i64 0))⟩,
 ⟨some 97, none, .load false 1 (.t 96)⟩,
 ⟨some 98, none, .iaddr 1 (.t 97) (.c (.int .i64 0))⟩,
 ⟨some 99, none, .load false 1 (.t 98)⟩,
 ⟨some 100, none, .bin .sub (.t 94) (.t 99)⟩,
 ⟨none, none, .store 1 (.t 6) (.t 100)⟩,
 ⟨none, none, .store 1 (.t 7) (.c (.int .i64 0))⟩]) (
 .gh [.keep [6, 7]] (
 .ret)))))))))
def a62 : AFunc := ⟨101, c62, [.cell 6 false 1, .cell 7 false 1]⟩
/-! 63 cassegrain/cassegrainref05.CopyPotentials params [76] nfree 0 ntmps 5 -/
def c63 : ACode :=
 .seq (
 .reg none [
 ⟨some 2, none, .mov (.c .nils)⟩]) (
 .seq (
 .reg none [
 ⟨some 3, none, .mov (.t 0)⟩,
 ⟨some 4, none, .ncall true 63005 113 [(.t 3)]⟩,
 ⟨some 2, none, .mov (.t 4)⟩]) (
 .ret))
def a63 : AFunc := ⟨5, c63, [.tmp 2]⟩
/-! 64 cassegrain/code.Potentials params [24, 25] nfree 0 ntmps 89 -/
def l64_0 : ACode :=
 .seq (
 .reg none [
 ⟨some 51, none, .bin .lss (.t 50) (.t 49)⟩]) (
 .seq (
 .cond (.t 51) (
 .skip) (
 .exit 2)) (
 .seq (
 .block 3 (
 .seq (
 .reg none [
 ⟨some 52, none, .mov (.t 50)⟩,
 ⟨some 11, none, .alloc 64012 3 (.int .i64 0)⟩,
 ⟨none, none, .store 1 (.t 11) (.t 52)⟩]) (
 .seq (
 .reg none [
 ⟨some 53, none, .load true 4 (.t 8)⟩,
 ⟨some 54, none, .load false 1 (.t 11)⟩,
 ⟨some 55, none, .ncall true 0 128 [(.t 53), (.t 54)]⟩]) (
 .block 4 (
 .rf 64901 (.t 55) [56] (
 .reg none [
 ⟨some 12, none, .alloc 64013 145 (.agg (.gen [(.int .i64 0), (.int .i64 0), (.int .i64 0), (.flt .f32 0)]))⟩,
 ⟨none, none, .store 4 (.t 12) (.t 56)⟩]) (
 .block 5 (
 .reg (some []) [
 ⟨some 57, none, .load false 1 (.t 9)⟩,
 ⟨some 58, none, .load false 1 (.t 11)⟩,
 ⟨some 59, none, .bin .add (.t 58) (.c (.int .i64 1))⟩,
 ⟨some 60, none, .iaddr 1 (.t 57) (.t 59)⟩,
 ⟨some 61, none, .load false 1 (.t 60)⟩,
 ⟨some 62, none, .faddr 2 (.t 12)⟩,
 ⟨some 63, none, .load false 1 (.t 62)⟩,
 ⟨some 64, none, .load false 1 (.t 9)⟩,
 ⟨some 65, none, .load false 1 (.t 11)⟩,
 ⟨some 66, none, .bin .add (.t 65) (.c (.int .i64 1))⟩,
 ⟨some 67, none, .iaddr 1 (.t 64) (.t 66)⟩,
 ⟨some 68, none, .load false 1 (.t 67)⟩,
 ⟨some 69, none, .faddr 2 (.t 12)⟩,
 ⟨some 70, none, .load false 1 (.t 69)⟩,
 ⟨some 71, none, .iaddr 1 (.t 68) (.t 70)⟩,
 ⟨some 72, none, .load false 1 (.t 71)⟩,
 ⟨some 73, none, .load false 1 (.t 9)⟩,
 ⟨some 74, none, .load false 1 (.t 11)⟩,
 ⟨some 75, none, .iaddr 1 (.t 73) (.t 74)⟩,
 ⟨some 76, none, .load false 1 (.t 75)⟩,
 ⟨some 77, none, .faddr 0 (.t 12)⟩,
 ⟨some 78, none, .load false 1 (.t 77)⟩,
 ⟨some 79, none, .iaddr 1 (.t 76) (.t 78)⟩,
 ⟨some 80, none, .load false 1 (.t 79)⟩,
 ⟨some 81, none, .faddr 3 (.t 12)⟩,
 ⟨some 82, none, .load false 1 (.t 81)⟩,
 ⟨some 83, none, .f2i .i64 (.t 82)⟩,
 ⟨some 84, none, .bin .add (.t 80) (.t 83)⟩,
 ⟨some 85, none, .mm true (.t 72) (.t 84)⟩,
 ⟨some 86, none, .iaddr 1 (.t 61) (.t 63)⟩,
 ⟨none, none, .store 1 (.t 86) (.t 85)⟩]))))))) (
 .reg none [
 ⟨some 87, none, .bin .add (.t 50) (.c (.int .i64 1))⟩,
 ⟨some 50, none, .mov (.t 87)⟩])))
def b64_0 : ACode := .gh [.keep [8, 9, 49, 50]] (.gh [] l64_0)
def l64_1 : ACode :=
 .seq (
 .reg none [
 ⟨some 34, none, .bin .lss (.t 33) (.t 32)⟩]) (
 .seq (
 .cond (.t 34) (
 .skip) (
 .exit 0)) (
 .seq (
 .block 1 (
 .seq (
 .reg none [
 ⟨some 35, none, .mov (.t 33)⟩,
 ⟨some 10, none, .mov (.t 35)⟩]) (
 .reg (some [(0, 2), (0, 5), (1, 2), (1, 5), (2, 3), (2, 4)]) [
 ⟨some 36, none, .load false 1 (.t 9)⟩,
 ⟨some 37, none, .mov (.t 10)⟩,
 ⟨some 38, none, .bslice 64039 3 1 [(.c (.int .i64 (-100000)))]⟩,
 ⟨some 39, none, .load true 4 (.t 8)⟩,
 ⟨some 40, none, .ncall true 0 127 [(.t 39)]⟩,
 ⟨some 41, none, .ncall true 64042 122 [(.t 38), (.t 40)]⟩,
 ⟨some 42, none, .iaddr 1 (.t 36) (.t 37)⟩,
 ⟨none, none, .store 1 (.t 42) (.t 41)⟩]))) (
 .reg none [
 ⟨some 43, none, .bin .add (.t 33) (.c (.int .i64 1))⟩,
 ⟨some 33, none, .mov (.t 43)⟩])))
def b64_1 : ACode := .gh [.keep [8, 9, 32, 33]] (.gh [] l64_1)
def k64_0 : List AItem := .inLoop b64_0 :: [.inBlock 2,
 .code (.seq (
 .reg none [
 ⟨some 88, none, .load false 1 (.t 9)⟩,
 ⟨some 4, none, .mov (.t 88)⟩,
 ⟨some 5, none, .mov (.c (.int .i64 0))⟩]) (
 .ret))]
def k64_1 : List AItem := .inLoop b64_1 :: [.inBlock 0,
 .code (.seq (
 .reg none [
 ⟨some 44, none, .load false 1 (.t 9)⟩,
 ⟨some 45, none, .iaddr 1 (.t 44) (.c (.int .i64 0))⟩,
 ⟨some 46, none, .load false 1 (.t 45)⟩,
 ⟨some 47, none, .iaddr 1 (.t 46) (.c (.int .i64 0))⟩,
 ⟨none, none, .store 1 (.t 47) (.c (.int .i64 0))⟩]) (
 .seq (
 .seq (
 .reg none [
 ⟨some 48, none, .load true 4 (.t 8)⟩,
 ⟨some 49, none, .ncall true 0 126 [(.t 48)]⟩,
 ⟨some 50, none, .mov (.c (.int .i64 0))⟩]) (
 .block 2 (
 .loop b64_0))) (
 .seq (
 .reg none [
 ⟨some 88, none, .load false 1 (.t 9)⟩,
 ⟨some 4, none, .mov (.t 88)⟩,
 ⟨some 5, none, .mov (.c (.int .i64 0))⟩]) (
 .ret))))]
def c64 : ACode :=
 .seq (
 .reg none [
 ⟨some 2, none, .box 64003 24 (.t 0)⟩,
 ⟨some 4, none, .mov (.c .nils)⟩,
 ⟨some 5, none, .mov (.c (.int .i64 0))⟩]) (
 .seq (
 .seq (
 .reg none [
 ⟨some 13, none, .load true 3 (.t 2)⟩,
 ⟨some 14, none, .ncall true 0 57 [(.t 13)]⟩,
 ⟨some 6, none, .mov (.t 14)⟩]) (
 .seq (
 .reg none [
 ⟨some 15, none, .mov (.t 6)⟩,
 ⟨some 16, none, .bin .neq (.t 15) (.c (.int .i64 0))⟩]) (
 .cond (.t 16) (
 .seq (
 .reg none [
 ⟨some 17, none, .mov (.t 6)⟩,
 ⟨some 4, none, .mov (.c .nils)⟩,
 ⟨some 5, none, .mov (.t 17)⟩]) (
 .ret)) (
 .skip)))) (
 .seq (
 .seq (
 .reg none [
 ⟨some 18, none, .load true 3 (.t 2)⟩,
 ⟨some 19, none, .mov (.t 1)⟩,
 ⟨some 20, none, .ncall true 0 98 [(.t 18), (.t 19)]⟩,
 ⟨some 7, none, .mov (.t 20)⟩]) (
 .seq (
 .reg none [
 ⟨some 21, none, .mov (.t 7)⟩,
 ⟨some 22, none, .bin .neq (.t 21) (.c (.int .i64 0))⟩]) (
 .cond (.t 22) (
 .seq (
 .reg none [
 ⟨some 23, none, .mov (.t 7)⟩,
 ⟨some 4, none, .mov (.c .nils)⟩,
 ⟨some 5, none, .mov (.t 23)⟩]) (
 .ret)) (
 .skip)))) (
 .seq (
 .reg none [
 ⟨some 24, none, .load true 3 (.t 2)⟩,
 ⟨some 25, none, .mov (.t 1)⟩,
 ⟨some 26, none, .build (.gen [(.int .i64 0), (.int .i64 0), (.int .i64 0), .nils]) [(0, 3, (.t 24)), (3, 1, (.t 25))]⟩,
 ⟨some 8, none, .alloc 64009 123 (.agg (.gen [(.int .i64 0), (.int .i64 0), (.int .i64 0), .nils]))⟩,
 ⟨none, none, .store 4 (.t 8) (.t 26)⟩]) (
 .seq (
 .reg none [
 ⟨some 27, none, .load true 4 (.t 8)⟩,
 ⟨some 28, none, .ncall true 0 126 [(.t 27)]⟩,
 ⟨some 29, none, .bin .add (.t 28) (.c (.int .i64 1))⟩,
 ⟨some 30, none, .mkslice 64031 25 1 .nils (.t 29)⟩,
 ⟨some 9, none, .alloc 64010 76 .nils⟩,
 ⟨none, none, .store 1 (.t 9) (.t 30)⟩]) (
 .seq (
 .seq (
 .reg none [
 ⟨some 31, none, .load false 1 (.t 9)⟩,
 ⟨some 32, none, .len (.t 31)⟩,
 ⟨some 33, none, .mov (.c (.int .i64 0))⟩]) (
 .block 0 (
 .loop b64_1))) (
 .seq (
 .reg none [
 ⟨some 44, none, .load false 1 (.t 9)⟩,
 ⟨some 45, none, .iaddr 1 (.t 44) (.c (.int .i64 0))⟩,
 ⟨some 46, none, .load false 1 (.t 45)⟩,
 ⟨some 47, none, .iaddr 1 (.t 46) (.c (.int .i64 0))⟩,
 ⟨none, none, .store 1 (.t 47) (.c (.int .i64 0))⟩]) (
 .seq (
 .seq (
 .reg none [
 ⟨some 48, none, .load true 4 (.t 8)⟩,
 ⟨some 49, none, .ncall true 0 126 [(.t 48)]⟩,
 ⟨some 50, none, .mov (.c (.int .i64 0))⟩]) (
 .block 2 (
 .loop b64_0))) (
 .seq (
 .reg none [
 ⟨some 88, none, .load false 1 (.t 9)⟩,
 ⟨some 4, none, .mov (.t 88)⟩,
 ⟨some 5, none, .mov (.c (.int .i64 0))⟩]) (
 .ret)))))))))
def a64 : AFunc := ⟨89, c64, [.tmp 4, .tmp 5]⟩
/-! 65 cassegrain/cassegrainref05.PotentialsErr params [24, 25, 76] nfree 0 ntmps 106 -/
def l65_2 : ACode :=
 .seq (
 .seq (
 .reg none [
 ⟨some 62, none, .mov (.t 12)⟩,
 ⟨some 63, none, .bin .lss (.t 62) (.c (.int .i64 2))⟩,
 ⟨some 64, none, .mov (.t 63)⟩,
 ⟨some 65, (some (64, true)), .mov (.t 12)⟩,
 ⟨some 66, (some (64, true)), .bin .eql (.t 65) (.c (.int .i64 0))⟩,
 ⟨some 67, (some (64, true)), .mov (.t 66)⟩,
 ⟨some 68, (some (67, false)), .mov (.t 10)⟩,
 ⟨some 69, (some (67, false)), .mov (.t 7)⟩,
 ⟨some 70, (some (67, false)), .faddr 0 (.t 3)⟩,
 ⟨some 71, (some (67, false)), .load false 1 (.t 70)⟩,
 ⟨some 72, (some (67, false)), .bin .sub (.t 69) (.t 71)⟩,
 ⟨some 73, (some (67, false)), .bin .lss (.t 68) (.t 72)⟩,
 ⟨some 74, (some (64, true)), .pick (.t 67) (.c (.bool true)) (.t 73)⟩,
 ⟨some 75, none, .pick (.t 64) (.t 74) (.c (.bool false))⟩]) (
 .gh [.keep [1, 2, 3, 7, 10, 11, 12, 75]] (
 .cond (.t 75) (
 .skip) (
 .exit 8)))) (
 .seq (
 .block 9 (
 .seq (
 .reg none [
 ⟨some 79, none, .load true 3 (.t 3)⟩,
 ⟨some 80, none, .mov (.t 11)⟩,
 ⟨some 81, none, .mov (.t 12)⟩,
 ⟨some 82, none, .ncall true 0 101 [(.t 79), (.t 80), (.t 81)]⟩,
 ⟨some 78, none, .mov (.t 82)⟩,
 ⟨some 83, none, .ext 0 (.t 78)⟩,
 ⟨some 84, none, .ext 1 (.t 78)⟩,
 ⟨some 14, none, .alloc 65015 22 (.agg (.ints .i64 [0, 0]))⟩,
 ⟨some 13, none, .mov (.t 83)⟩,
 ⟨none, none, .store 2 (.t 14) (.t 84)⟩]) (
 .gh [.keep [1, 2, 3, 7, 10, 11, 12, 13, 14]] (
 .seq (
 .reg (some []) [
 ⟨some 85, none, .mov (.t 2)⟩,
 ⟨some 86, none, .mov (.t 10)⟩,
 ⟨some 87, none, .iaddr 1 (.t 85) (.t 86)⟩,
 ⟨some 88, none, .load false 1 (.t 87)⟩,
 ⟨some 89, none, .mov (.t 11)⟩,
 ⟨some 90, none, .iaddr 1 (.t 88) (.t 89)⟩,
 ⟨some 91, none, .load false 1 (.t 90)⟩,
 ⟨some 92, none, .load true 2 (.t 14)⟩,
 ⟨some 93, none, .mov (.t 1)⟩,
 ⟨some 94, none, .mov (.t 10)⟩,
 ⟨some 95, none, .ncall true 0 102 [(.t 92), (.t 93), (.t 94)]⟩,
 ⟨some 96, none, .bin .add (.t 91) (.t 95)⟩,
 ⟨some 97, none, .mov (.t 2)⟩,
 ⟨some 98, none, .mov (.t 10)⟩,
 ⟨some 99, none, .bin .add (.t 98) (.c (.int .i64 1))⟩,
 ⟨some 100, none, .iaddr 1 (.t 97) (.t 99)⟩,
 ⟨some 101, none, .load false 1 (.t 100)⟩,
 ⟨some 102, none, .mov (.t 13)⟩,
 ⟨some 103, none, .iaddr 1 (.t 101) (.t 102)⟩,
 ⟨some 104, none, .load false 1 (.t 103)⟩,
 ⟨some 105, none, .bin .gtr (.t 96) (.t 104)⟩]) (
 .gh [.keep [1, 2, 3, 7, 10, 11, 12, 105]] (
 .cond (.t 105) (
 .seq (
 .reg none [
 ⟨some 6, none, .mov (.c (.int .i64 19))⟩]) (
 .ret)) (
 .skip))))))) (
 .reg none [
 ⟨some 76, none, .mov (.t 12)⟩,
 ⟨some 77, none, .bin .add (.t 76) (.c (.int .i64 1))⟩,
 ⟨some 12, none, .mov (.t 77)⟩]))
def b65_2 : ACode := .gh [.keep [1, 2, 3, 7, 10, 11, 12]] (.gh [] l65_2)
def l65_1 : ACode :=
 .seq (
 .seq (
 .reg none [
 ⟨some 56, none, .mov (.t 11)⟩,
 ⟨some 57, none, .load true 3 (.t 3)⟩,
 ⟨some 58, none, .ncall true 0 100 [(.t 57)]⟩,
 ⟨some 59, none, .bin .lss (.t 56) (.t 58)⟩]) (
 .cond (.t 59) (
 .skip) (
 .exit 6))) (
 .seq (
 .block 7 (
 .seq (
 .reg none [
 ⟨some 12, none, .mov (.c (.int .i64 0))⟩]) (
 .block 8 (
 .loop b65_2)))) (
 .reg none [
 ⟨some 60, none, .mov (.t 11)⟩,
 ⟨some 61, none, .bin .add (.t 60) (.c (.int .i64 1))⟩,
 ⟨some 11, none, .mov (.t 61)⟩]))
def b65_1 : ACode := .gh [.keep [1, 2, 3, 7, 10, 11]] (.gh [] l65_1)
def l65_0 : ACode :=
 .seq (
 .seq (
 .reg none [
 ⟨some 51, none, .mov (.t 10)⟩,
 ⟨some 52, none, .mov (.t 7)⟩,
 ⟨some 53, none, .bin .lss (.t 51) (.t 52)⟩]) (
 .cond (.t 53) (
 .skip) (
 .exit 4))) (
 .seq (
 .block 5 (
 .seq (
 .reg none [
 ⟨some 11, none, .mov (.c (.int .i64 0))⟩]) (
 .block 6 (
 .loop b65_1)))) (
 .reg none [
 ⟨some 54, none, .mov (.t 10)⟩,
 ⟨some 55, none, .bin .add (.t 54) (.c (.int .i64 1))⟩,
 ⟨some 10, none, .mov (.t 55)⟩]))
def b65_0 : ACode := .gh [.keep [1, 2, 3, 7, 10]] (.gh [] l65_0)
def l65_4 : ACode :=
 .seq (
 .seq (
 .reg none [
 ⟨some 36, none, .mov (.t 9)⟩,
 ⟨some 37, none, .load true 3 (.t 3)⟩,
 ⟨some 38, none, .ncall true 0 100 [(.t 37)]⟩,
 ⟨some 39, none, .bin .lss (.t 36) (.t 38)⟩]) (
 .cond (.t 39) (
 .skip) (
 .exit 2))) (
 .seq (
 .block 3 (
 .seq (
 .reg none [
 ⟨some 42, none, .mov (.t 2)⟩,
 ⟨some 43, none, .mov (.t 8)⟩,
 ⟨some 44, none, .iaddr 1 (.t 42) (.t 43)⟩,
 ⟨some 45, none, .load false 1 (.t 44)⟩,
 ⟨some 46, none, .mov (.t 9)⟩,
 ⟨some 47, none, .iaddr 1 (.t 45) (.t 46)⟩,
 ⟨some 48, none, .load false 1 (.t 47)⟩,
 ⟨some 49, none, .ncall true 0 45 [(.t 48), (.c (.int .i64 (-1000000))), (.c (.int .i64 1000000))]⟩,
 ⟨some 50, none, .not (.t 49)⟩]) (
 .gh [.keep [1, 2, 3, 7, 8, 9, 50]] (
 .cond (.t 50) (
 .seq (
 .reg none [
 ⟨some 6, none, .mov (.c (.int .i64 2))⟩]) (
 .ret)) (
 .skip))))) (
 .reg none [
 ⟨some 40, none, .mov (.t 9)⟩,
 ⟨some 41, none, .bin .add (.t 40) (.c (.int .i64 1))⟩,
 ⟨some 9, none, .mov (.t 41)⟩]))
def b65_4 : ACode := .gh [.keep [1, 2, 3, 7, 8, 9]] (.gh [] l65_4)
def l65_3 : ACode :=
 .seq (
 .seq (
 .reg none [
 ⟨some 23, none, .mov (.t 8)⟩,
 ⟨some 24, none, .mov (.t 7)⟩,
 ⟨some 25, none, .bin .leq (.t 23) (.t 24)⟩]) (
 .cond (.t 25) (
 .skip) (
 .exit 0))) (
 .seq (
 .block 1 (
 .seq (
 .seq (
 .reg (some []) [
 ⟨some 28, none, .mov (.t 2)⟩,
 ⟨some 29, none, .mov (.t 8)⟩,
 ⟨some 30, none, .iaddr 1 (.t 28) (.t 29)⟩,
 ⟨some 31, none, .load false 1 (.t 30)⟩,
 ⟨some 32, none, .len (.t 31)⟩,
 ⟨some 33, none, .load true 3 (.t 3)⟩,
 ⟨some 34, none, .ncall true 0 100 [(.t 33)]⟩,
 ⟨some 35, none, .bin .neq (.t 32) (.t 34)⟩]) (
 .gh [.keep [1, 2, 3, 7, 8, 35]] (
 .cond (.t 35) (
 .seq (
 .reg none [
 ⟨some 6, none, .mov (.c (.int .i64 10))⟩]) (
 .ret)) (
 .skip)))) (
 .seq (
 .reg none [
 ⟨some 9, none, .mov (.c (.int .i64 0))⟩]) (
 .block 2 (
 .loop b65_4))))) (
 .reg none [
 ⟨some 26, none, .mov (.t 8)⟩,
 ⟨some 27, none, .bin .add (.t 26) (.c (.int .i64 1))⟩,
 ⟨some 8, none, .mov (.t 27)⟩]))
def b65_3 : ACode := .gh [.keep [1, 2, 3, 7, 8]] (.gh [] l65_3)
def k65_2 : List AItem := .inLoop b65_2 :: [.inBlock 8,
 .inBlock 7,
 .code (.reg none [
 ⟨some 60, none, .mov (.t 11)⟩,
 ⟨some 61, none, .bin .add (.t 60) (.c (.int .i64 1))⟩,
 ⟨some 11, none, .mov (.t 61)⟩]),
 .inLoop b65_1,
 .inBlock 6,
 .inBlock 5,
 .code (.reg none [
 ⟨some 54, none, .mov (.t 10)⟩,
 ⟨some 55, none, .bin .add (.t 54) (.c (.int .i64 1))⟩,
 ⟨some 10, none, .mov (.t 55)⟩]),
 .inLoop b65_0,
 .inBlock 4,
 .code (.seq (
 .reg none [
 ⟨some 6, none, .mov (.c (.int .i64 0))⟩]) (
 .ret))]
def k65_1 : List AItem := .inLoop b65_1 :: [.inBlock 6,
 .inBlock 5,
 .code (.reg none [
 ⟨some 54, none, .mov (.t 10)⟩,
 ⟨some 55, none, .bin .add (.t 54) (.c (.int .i64 1))⟩,
 ⟨some 10, none, .mov (.t 55)⟩]),
 .inLoop b65_0,
 .inBlock 4,
 .code (.seq (
 .reg none [
 ⟨some 6, none, .mov (.c (.int .i64 0))⟩]) (
 .ret))]
def k65_0 : List AItem := .inLoop b65_0 :: [.inBlock 4,
 .code (.seq (
 .reg none [
 ⟨some 6, none, .mov (.c (.int .i64 0))⟩]) (
 .ret))]
def k65_4 : List AItem := .inLoop b65_4 :: [.inBlock 2,
 .inBlock 1,
 .code (.reg none [
 ⟨some 26, none, .mov (.t 8)⟩,
 ⟨some 27, none, .bin .add (.t 26) (.c (.int .i64 1))⟩,
 ⟨some 8, none, .mov (.t 27)⟩]),
 .inLoop b65_3,
 .inBlock 0,
 .code (.seq (
 .seq (
 .reg none [
 ⟨some 10, none, .mov (.c (.int .i64 0))⟩]) (
 .block 4 (
 .loop b65_0))) (
 .seq (
 .reg none [
 ⟨some 6, none, .mov (.c (.int .i64 0))⟩]) (
 .ret)))]
def k65_3 : List AItem := .inLoop b65_3 :: [.inBlock 0,
 .code (.seq (
 .seq (
 .reg none [
 ⟨some 10, none, .mov (.c (.int .i64 0))⟩]) (
 .block 4 (
 .loop b65_0))) (
 .seq (
 .reg none [
 ⟨some 6, none, .mov (.c (.int .i64 0))⟩]) (
 .ret)))]
def c65 : ACode :=
 .seq (
 .reg none [
 ⟨some 3, none, .box 65004 24 (.t 0)⟩,
 ⟨some 6, none, .mov (.c (.int .i64 0))⟩]) (
 .seq (
 .reg none [
 ⟨some 15, none, .mov (.t 1)⟩,
 ⟨some 16, none, .len (.t 15)⟩,
 ⟨some 17, none, .bin .quo (.t 16) (.c (.int .i64 2))⟩,
 ⟨some 7, none, .mov (.t 17)⟩]) (
 .seq (
 .seq (
 .reg none [
 ⟨some 18, none, .mov (.t 2)⟩,
 ⟨some 19, none, .len (.t 18)⟩,
 ⟨some 20, none, .mov (.t 7)⟩,
 ⟨some 21, none, .bin .add (.t 20) (.c (.int .i64 1))⟩,
 ⟨some 22, none, .bin .neq (.t 19) (.t 21)⟩]) (
 .cond (.t 22) (
 .seq (
 .reg none [
 ⟨some 6, none, .mov (.c (.int .i64 10))⟩]) (
 .ret)) (
 .skip))) (
 .seq (
 .seq (
 .reg none [
 ⟨some 8, none, .mov (.c (.int .i64 0))⟩]) (
 .block 0 (
 .loop b65_3))) (
 .seq (
 .seq (
 .reg none [
 ⟨some 10, none, .mov (.c (.int .i64 0))⟩]) (
 .block 4 (
 .loop b65_0))) (
 .seq (
 .reg none [
 ⟨some 6, none, .mov (.c (.int .i64 0))⟩]) (
 .ret))))))
def a65 : AFunc := ⟨106, c65, [.tmp 6]⟩
/-! 66 cassegrain/cassegrainref05.Bound params [76] nfree 0 ntmps 17 -/
def c66 : ACode :=
 .seq (
 .reg none [
 ⟨some 2, none, .mov (.c (.int .i64 0))⟩]) (
 .seq (
 .reg (some []) [
 ⟨some 3, none, .mov (.t 0)⟩,
 ⟨some 4, none, .mov (.t 0)⟩,
 ⟨some 5, none, .len (.t 4)⟩,
 ⟨some 6, none, .bin .sub (.t 5) (.c (.int .i64 1))⟩,
 ⟨some 7, none, .iaddr 1 (.t 3) (.t 6)⟩,
 ⟨some 8, none, .load false 1 (.t 7)⟩,
 ⟨some 9, none, .iaddr 1 (.t 8) (.c (.int .i64 0))⟩,
 ⟨some 10, none, .load false 1 (.t 9)⟩,
 ⟨some 11, none, .mov (.t 0)⟩,
 ⟨some 12, none, .iaddr 1 (.t 11) (.c (.int .i64 0))⟩,
 ⟨some 13, none, .load false 1 (.t 12)⟩,
 ⟨some 14, none, .iaddr 1 (.t 13) (.c (.int .i64 0))⟩,
 ⟨some 15, none, .load false 1 (.t 14)⟩,
 ⟨some 16, none, .bin .sub (.t 10) (.t 15)⟩,
 ⟨some 2, none, .mov (.t 16)⟩]) (
 .gh [.keep [2]] (
 .ret)))
def a66 : AFunc := ⟨17, c66, [.tmp 2]⟩
/-! 67 cassegrain/code.DecodeParity params [48, 25, 3] nfree 0 ntmps 41 -/
def l67_0 : ACode :=
 .seq (
 .reg none [
 ⟨some 28, none, .bin .lss (.t 27) (.t 26)⟩]) (
 .seq (
 .cond (.t 28) (
 .skip) (
 .exit 0)) (
 .seq (
 .block 1 (
 .seq (
 .reg none [
 ⟨some 29, none, .mov (.t 27)⟩,
 ⟨some 11, none, .mov (.t 29)⟩]) (
 .seq (
 .seq (
 .reg none [
 ⟨some 30, none, .load true 2 (.t 3)⟩,
 ⟨some 31, none, .mov (.t 10)⟩,
 ⟨some 32, none, .ncall true 67033 115 [(.t 30), (.t 31)]⟩,
 ⟨some 33, none, .len (.t 32)⟩,
 ⟨some 34, none, .bin .eql (.t 33) (.c (.int .i64 0))⟩]) (
 .cond (.t 34) (
 .seq (
 .reg none [
 ⟨some 35, none, .mov (.t 10)⟩,
 ⟨some 36, none, .mov (.t 11)⟩,
 ⟨some 6, none, .mov (.t 35)⟩,
 ⟨some 7, none, .mov (.t 36)⟩,
 ⟨some 8, none, .mov (.c (.int .i64 0))⟩]) (
 .ret)) (
 .skip))) (
 .reg none [
 ⟨some 37, none, .load true 2 (.t 3)⟩,
 ⟨some 38, none, .mov (.t 10)⟩,
 ⟨some 39, none, .ncall true 67040 116 [(.t 37), (.t 38)]⟩,
 ⟨some 10, none, .mov (.t 39)⟩])))) (
 .reg none [
 ⟨some 40, none, .bin .add (.t 27) (.c (.int .i64 1))⟩,
 ⟨some 27, none, .mov (.t 40)⟩])))
def b67_0 : ACode := .gh [.keep [3, 10, 26, 27]] (.gh [] l67_0)
def k67_0 : List AItem := .inLoop b67_0 :: [.inBlock 0,
 .code (.seq (
 .reg none [
 ⟨some 6, none, .mov (.c .nils)⟩,
 ⟨some 7, none, .mov (.c (.int .i64 0))⟩,
 ⟨some 8, none, .mov (.c (.int .i64 27))⟩]) (
 .ret))]
def c67 : ACode :=
 .seq (
 .reg none [
 ⟨some 3, none, .box 67004 48 (.t 0)⟩,
 ⟨some 6, none, .mov (.c .nils)⟩,
 ⟨some 7, none, .mov (.c (.int .i64 0))⟩,
 ⟨some 8, none, .mov (.c (.int .i64 0))⟩]) (
 .seq (
 .seq (
 .reg none [
 ⟨some 12, none, .load true 2 (.t 3)⟩,
 ⟨some 13, none, .mov (.t 1)⟩,
 ⟨some 14, none, .ncall true 0 114 [(.t 12), (.t 13)]⟩,
 ⟨some 15, none, .mov (.t 2)⟩,
 ⟨some 16, none, .ncall true 0 112 [(.t 15), (.c (.int .i64 0)), (.c (.int .i64 30))]⟩,
 ⟨some 17, none, .ncall true 0 111 [(.t 16), (.c (.int .i64 2))]⟩,
 ⟨some 18, none, .bslice 67019 27 1 [(.t 14), (.t 17)]⟩,
 ⟨some 19, none, .ncall true 0 105 [(.t 18)]⟩,
 ⟨some 9, none, .mov (.t 19)⟩]) (
 .gh [.keep [1, 2, 3, 9]] (
 .seq (
 .reg none [
 ⟨some 20, none, .mov (.t 9)⟩,
 ⟨some 21, none, .bin .neq (.t 20) (.c (.int .i64 0))⟩]) (
 .cond (.t 21) (
 .seq (
 .reg none [
 ⟨some 22, none, .mov (.t 9)⟩,
 ⟨some 6, none, .mov (.c .nils)⟩,
 ⟨some 7, none, .mov (.c (.int .i64 0))⟩,
 ⟨some 8, none, .mov (.t 22)⟩]) (
 .ret)) (
 .skip))))) (
 .seq (
 .reg none [
 ⟨some 23, none, .mov (.t 1)⟩,
 ⟨some 24, none, .ncall true 67025 129 [(.t 23)]⟩,
 ⟨some 10, none, .mov (.t 24)⟩]) (
 .seq (
 .seq (
 .reg none [
 ⟨some 25, none, .mov (.t 2)⟩,
 ⟨some 26, none, .bin .add (.t 25) (.c (.int .i64 1))⟩,
 ⟨some 27, none, .mov (.c (.int .i64 0))⟩]) (
 .block 0 (
 .loop b67_0))) (
 .seq (
 .reg none [
 ⟨some 6, none, .mov (.c .nils)⟩,
 ⟨some 7, none, .mov (.c (.int .i64 0))⟩,
 ⟨some 8, none, .mov (.c (.int .i64 27))⟩]) (
 .ret)))))
def a67 : AFunc := ⟨41, c67, [.tmp 6, .tmp 7, .tmp 8]⟩
/-! 68 cassegrain/code.Nearest params [48, 25] nfree 0 ntmps 38 -/
def c68 : ACode :=
 .seq (
 .reg none [
 ⟨some 2, none, .box 68003 48 (.t 0)⟩,
 ⟨some 3, none, .box 68004 25 (.t 1)⟩,
 ⟨some 4, none, .mov (.c .nils)⟩,
 ⟨some 5, none, .mov (.c (.int .i64 0))⟩,
 ⟨some 6, none, .mov (.c (.int .i64 0))⟩]) (
 .seq (
 .seq (
 .reg (some []) [
 ⟨some 12, none, .load true 2 (.t 2)⟩,
 ⟨some 13, none, .load false 1 (.t 3)⟩,
 ⟨some 14, none, .ncall true 0 114 [(.t 12), (.t 13)]⟩,
 ⟨some 15, none, .load true 2 (.t 2)⟩,
 ⟨some 16, none, .ncall true 0 130 [(.t 15)]⟩,
 ⟨some 17, none, .bslice 68018 27 1 [(.t 14), (.t 16)]⟩,
 ⟨some 18, none, .ncall true 0 105 [(.t 17)]⟩,
 ⟨some 7, none, .mov (.t 18)⟩]) (
 .gh [.keep [2, 3, 7]] (
 .seq (
 .reg none [
 ⟨some 19, none, .mov (.t 7)⟩,
 ⟨some 20, none, .bin .neq (.t 19) (.c (.int .i64 0))⟩]) (
 .cond (.t 20) (
 .seq (
 .reg none [
 ⟨some 21, none, .mov (.t 7)⟩,
 ⟨some 4, none, .mov (.c .nils)⟩,
 ⟨some 5, none, .mov (.c (.int .i64 0))⟩,
 ⟨some 6, none, .mov (.t 21)⟩]) (
 .ret)) (
 .skip))))) (
 .seq (
 .reg none [
 ⟨some 8, none, .alloc 68009 25 .nils⟩]) (
 .seq (
 .reg none [
 ⟨some 22, none, .faddr 0 (.t 2)⟩,
 ⟨some 23, none, .load false 1 (.t 22)⟩,
 ⟨some 24, none, .bin .add (.t 23) (.c (.int .i64 1))⟩,
 ⟨some 9, none, .alloc 68010 3 (.int .i64 0)⟩,
 ⟨none, none, .store 1 (.t 9) (.t 24)⟩]) (
 .seq (
 .seq (
 .reg none [
 ⟨some 25, none, .load true 2 (.t 2)⟩,
 ⟨some 26, none, .ncall true 0 131 [(.t 25)]⟩]) (
 .block 0 (
 .rf 68901 (.t 26) [27] (
 .reg none [
 ⟨some 10, none, .mov (.t 27)⟩]) (
 .block 1 (
 .seq (
 .reg none [
 ⟨some 28, none, .mov (.t 10)⟩,
 ⟨some 29, none, .load false 1 (.t 3)⟩,
 ⟨some 30, none, .ncall true 0 132 [(.t 28), (.t 29)]⟩,
 ⟨some 11, none, .mov (.t 30)⟩]) (
 .seq (
 .reg none [
 ⟨some 31, none, .mov (.t 11)⟩,
 ⟨some 32, none, .load false 1 (.t 9)⟩,
 ⟨some 33, none, .bin .lss (.t 31) (.t 32)⟩]) (
 .cond (.t 33) (
 .reg none [
 ⟨some 34, none, .mov (.t 10)⟩,
 ⟨some 35, none, .mov (.t 11)⟩,
 ⟨none, none, .store 1 (.t 8) (.t 34)⟩,
 ⟨none, none, .store 1 (.t 9) (.t 35)⟩]) (
 .skip)))))))) (
 .seq (
 .reg (some []) [
 ⟨some 36, none, .load false 1 (.t 8)⟩,
 ⟨some 37, none, .load false 1 (.t 9)⟩,
 ⟨some 4, none, .mov (.t 36)⟩,
 ⟨some 5, none, .mov (.t 37)⟩,
 ⟨some 6, none, .mov (.c (.int .i64 0))⟩]) (
 .ret))))))
def a68 : AFunc := ⟨38, c68, [.tmp 4, .tmp 5, .tmp 6]⟩
/-! 69 cassegrain/code.MinimumWeight params [48] nfree 0 ntmps 40 -/
def c69 : ACode :=
 .seq (
 .reg none [
 ⟨some 1, none, .box 69002 48 (.t 0)⟩,
 ⟨some 2, none, .mov (.c (.int .i64 0))⟩,
 ⟨some 3, none, .mov (.c (.int .i64 0))⟩]) (
 .seq (
 .seq (
 .reg (some []) [
 ⟨some 9, none, .load true 2 (.t 1)⟩,
 ⟨some 10, none, .ncall true 0 133 [(.t 9)]⟩,
 ⟨some 11, none, .load true 2 (.t 1)⟩,
 ⟨some 12, none, .ncall true 0 130 [(.t 11)]⟩,
 ⟨some 13, none, .bslice 69014 27 1 [(.t 10), (.t 12)]⟩,
 ⟨some 14, none, .ncall true 0 105 [(.t 13)]⟩,
 ⟨some 4, none, .mov (.t 14)⟩]) (
 .gh [.keep [1, 4]] (
 .seq (
 .reg none [
 ⟨some 15, none, .mov (.t 4)⟩,
 ⟨some 16, none, .bin .neq (.t 15) (.c (.int .i64 0))⟩]) (
 .cond (.t 16) (
 .seq (
 .reg none [
 ⟨some 17, none, .mov (.t 4)⟩,
 ⟨some 2, none, .mov (.c (.int .i64 0))⟩,
 ⟨some 3, none, .mov (.t 17)⟩]) (
 .ret)) (
 .skip))))) (
 .seq (
 .reg none [
 ⟨some 18, none, .faddr 0 (.t 1)⟩,
 ⟨some 19, none, .load false 1 (.t 18)⟩,
 ⟨some 20, none, .mkslice 69021 3 1 (.int .i64 0) (.t 19)⟩,
 ⟨some 5, none, .alloc 69006 25 .nils⟩,
 ⟨none, none, .store 1 (.t 5) (.t 20)⟩]) (
 .seq (
 .reg none [
 ⟨some 21, none, .faddr 0 (.t 1)⟩,
 ⟨some 22, none, .load false 1 (.t 21)⟩,
 ⟨some 23, none, .bin .add (.t 22) (.c (.int .i64 1))⟩,
 ⟨some 6, none, .alloc 69007 3 (.int .i64 0)⟩,
 ⟨none, none, .store 1 (.t 6) (.t 23)⟩]) (
 .seq (
 .seq (
 .reg none [
 ⟨some 24, none, .load true 2 (.t 1)⟩,
 ⟨some 25, none, .ncall true 0 131 [(.t 24)]⟩]) (
 .block 0 (
 .rf 69901 (.t 25) [26] (
 .reg none [
 ⟨some 7, none, .mov (.t 26)⟩]) (
 .block 1 (
 .seq (
 .reg none [
 ⟨some 27, none, .mov (.t 7)⟩,
 ⟨some 28, none, .load false 1 (.t 5)⟩,
 ⟨some 29, none, .ncall true 0 132 [(.t 27), (.t 28)]⟩,
 ⟨some 8, none, .mov (.t 29)⟩]) (
 .seq (
 .reg none [
 ⟨some 30, none, .mov (.t 8)⟩,
 ⟨some 31, none, .bin .gtr (.t 30) (.c (.int .i64 0))⟩]) (
 .cond (.t 31) (
 .reg none [
 ⟨some 32, none, .load false 1 (.t 6)⟩,
 ⟨some 33, none, .mov (.t 8)⟩,
 ⟨some 34, none, .mm false (.t 32) (.t 33)⟩,
 ⟨none, none, .store 1 (.t 6) (.t 34)⟩]) (
 .skip)))))))) (
 .seq (
 .seq (
 .reg none [
 ⟨some 35, none, .load false 1 (.t 6)⟩,
 ⟨some 36, none, .faddr 0 (.t 1)⟩,
 ⟨some 37, none, .load false 1 (.t 36)⟩,
 ⟨some 38, none, .bin .gtr (.t 35) (.t 37)⟩]) (
 .cond (.t 38) (
 .seq (
 .reg none [
 ⟨some 2, none, .mov (.c (.int .i64 0))⟩,
 ⟨some 3, none, .mov (.c (.int .i64 12))⟩]) (
 .ret)) (
 .skip))) (
 .seq (
 .reg none [
 ⟨some 39, none, .load false 1 (.t 6)⟩,
 ⟨some 2, none, .mov (.t 39)⟩,
 ⟨some 3, none, .mov (.c (.int .i64 0))⟩]) (
 .ret)))))))
def a69 : AFunc := ⟨40, c69, [.tmp 2, .tmp 3]⟩
/-! 70 cassegrain/cassegrainref05.MinimumWeight params [48] nfree 0 ntmps 39 -/
def l70_0 : ACode :=
 .seq (
 .seq (
 .reg none [
 ⟨some 11, none, .mov (.t 5)⟩,
 ⟨some 12, none, .faddr 0 (.t 1)⟩,
 ⟨some 13, none, .load false 1 (.t 12)⟩,
 ⟨some 14, none, .bin .shl (.c (.int .i64 1)) (.t 13)⟩,
 ⟨some 15, none, .bin .lss (.t 11) (.t 14)⟩]) (
 .cond (.t 15) (
 .skip) (
 .exit 0))) (
 .seq (
 .block 1 (
 .seq (
 .reg none [
 ⟨some 18, none, .mov (.t 5)⟩,
 ⟨some 19, none, .faddr 0 (.t 1)⟩,
 ⟨some 20, none, .load false 1 (.t 19)⟩,
 ⟨some 21, none, .ncall true 70022 134 [(.t 18), (.t 20)]⟩,
 ⟨some 6, none, .mov (.t 21)⟩]) (
 .seq (
 .seq (
 .reg none [
 ⟨some 22, none, .load true 2 (.t 1)⟩,
 ⟨some 23, none, .mov (.t 6)⟩,
 ⟨some 24, none, .ncall true 70025 41 [(.t 22), (.t 23)]⟩,
 ⟨some 25, none, .len (.t 24)⟩,
 ⟨some 26, none, .bin .gtr (.t 25) (.c (.int .i64 0))⟩]) (
 .cond (.t 26) (
 .exit 1) (
 .skip))) (
 .seq (
 .reg none [
 ⟨some 27, none, .mov (.t 3)⟩,
 ⟨some 28, none, .mov (.t 6)⟩,
 ⟨some 29, none, .ncall true 0 77 [(.t 27), (.t 28)]⟩,
 ⟨some 7, none, .mov (.t 29)⟩]) (
 .seq (
 .reg none [
 ⟨some 30, none, .mov (.t 4)⟩,
 ⟨some 31, none, .bin .lss (.t 30) (.c (.int .i64 0))⟩,
 ⟨some 32, none, .mov (.t 31)⟩,
 ⟨some 33, (some (32, false)), .mov (.t 7)⟩,
 ⟨some 34, (some (32, false)), .mov (.t 4)⟩,
 ⟨some 35, (some (32, false)), .bin .lss (.t 33) (.t 34)⟩,
 ⟨some 36, none, .pick (.t 32) (.c (.bool true)) (.t 35)⟩]) (
 .gh [.keep [1, 3, 4, 5, 7, 36]] (
 .cond (.t 36) (
 .reg none [
 ⟨some 37, none, .mov (.t 7)⟩,
 ⟨some 4, none, .mov (.t 37)⟩]) (
 .skip)))))))) (
 .reg none [
 ⟨some 16, none, .mov (.t 5)⟩,
 ⟨some 17, none, .bin .add (.t 16) (.c (.int .i64 1))⟩,
 ⟨some 5, none, .mov (.t 17)⟩]))
def b70_0 : ACode := .gh [.keep [1, 3, 4, 5]] (.gh [] l70_0)
def k70_0 : List AItem := .inLoop b70_0 :: [.inBlock 0,
 .code (.seq (
 .reg none [
 ⟨some 38, none, .mov (.t 4)⟩,
 ⟨some 2, none, .mov (.t 38)⟩]) (
 .ret))]
def c70 : ACode :=
 .seq (
 .reg none [
 ⟨some 1, none, .box 70002 48 (.t 0)⟩,
 ⟨some 2, none, .mov (.c (.int .i64 0))⟩]) (
 .seq (
 .reg none [
 ⟨some 8, none, .faddr 0 (.t 1)⟩,
 ⟨some 9, none, .load false 1 (.t 8)⟩,
 ⟨some 10, none, .mkslice 70011 3 1 (.int .i64 0) (.t 9)⟩,
 ⟨some 3, none, .mov (.t 10)⟩]) (
 .seq (
 .reg none [
 ⟨some 4, none, .mov (.c (.int .i64 (-1)))⟩]) (
 .seq (
 .seq (
 .reg none [
 ⟨some 5, none, .mov (.c (.int .i64 1))⟩]) (
 .block 0 (
 .loop b70_0))) (
 .seq (
 .reg none [
 ⟨some 38, none, .mov (.t 4)⟩,
 ⟨some 2, none, .mov (.t 38)⟩]) (
 .ret)))))
def a70 : AFunc := ⟨39, c70, [.tmp 2]⟩
/-! 71 cassegrain/cassegrainref05.Nearest params [48, 25] nfree 0 ntmps 40 -/
def l71_0 : ACode :=
 .seq (
 .seq (
 .reg none [
 ⟨some 14, none, .mov (.t 8)⟩,
 ⟨some 15, none, .faddr 0 (.t 2)⟩,
 ⟨some 16, none, .load false 1 (.t 15)⟩,
 ⟨some 17, none, .bin .shl (.c (.int .i64 1)) (.t 16)⟩,
 ⟨some 18, none, .bin .lss (.t 14) (.t 17)⟩]) (
 .cond (.t 18) (
 .skip) (
 .exit 0))) (
 .seq (
 .block 1 (
 .seq (
 .reg none [
 ⟨some 21, none, .mov (.t 8)⟩,
 ⟨some 22, none, .faddr 0 (.t 2)⟩,
 ⟨some 23, none, .load false 1 (.t 22)⟩,
 ⟨some 24, none, .ncall true 71025 134 [(.t 21), (.t 23)]⟩,
 ⟨some 9, none, .mov (.t 24)⟩]) (
 .seq (
 .seq (
 .reg none [
 ⟨some 25, none, .load true 2 (.t 2)⟩,
 ⟨some 26, none, .mov (.t 9)⟩,
 ⟨some 27, none, .ncall true 71028 41 [(.t 25), (.t 26)]⟩,
 ⟨some 28, none, .len (.t 27)⟩,
 ⟨some 29, none, .bin .gtr (.t 28) (.c (.int .i64 0))⟩]) (
 .cond (.t 29) (
 .exit 1) (
 .skip))) (
 .seq (
 .reg none [
 ⟨some 30, none, .mov (.t 1)⟩,
 ⟨some 31, none, .mov (.t 9)⟩,
 ⟨some 32, none, .ncall true 0 77 [(.t 30), (.t 31)]⟩,
 ⟨some 10, none, .mov (.t 32)⟩]) (
 .seq (
 .reg none [
 ⟨some 33, none, .mov (.t 10)⟩,
 ⟨some 34, none, .mov (.t 7)⟩,
 ⟨some 35, none, .bin .lss (.t 33) (.t 34)⟩]) (
 .cond (.t 35) (
 .reg none [
 ⟨some 36, none, .mov (.t 9)⟩,
 ⟨some 37, none, .mov (.t 10)⟩,
 ⟨some 6, none, .mov (.t 36)⟩,
 ⟨some 7, none, .mov (.t 37)⟩]) (
 .skip))))))) (
 .reg none [
 ⟨some 19, none, .mov (.t 8)⟩,
 ⟨some 20, none, .bin .add (.t 19) (.c (.int .i64 1))⟩,
 ⟨some 8, none, .mov (.t 20)⟩]))
def b71_0 : ACode := .gh [.keep [1, 2, 6, 7, 8]] (.gh [] l71_0)
def k71_0 : List AItem := .inLoop b71_0 :: [.inBlock 0,
 .code (.seq (
 .reg none [
 ⟨some 38, none, .mov (.t 6)⟩,
 ⟨some 39, none, .mov (.t 7)⟩,
 ⟨some 4, none, .mov (.t 38)⟩,
 ⟨some 5, none, .mov (.t 39)⟩]) (
 .ret))]
def c71 : ACode :=
 .seq (
 .reg none [
 ⟨some 2, none, .box 71003 48 (.t 0)⟩,
 ⟨some 4, none, .mov (.c .nils)⟩,
 ⟨some 5, none, .mov (.c (.int .i64 0))⟩]) (
 .seq (
 .reg none [
 ⟨some 6, none, .mov (.c .nils)⟩]) (
 .seq (
 .reg none [
 ⟨some 11, none, .faddr 0 (.t 2)⟩,
 ⟨some 12, none, .load false 1 (.t 11)⟩,
 ⟨some 13, none, .bin .add (.t 12) (.c (.int .i64 1))⟩,
 ⟨some 7, none, .mov (.t 13)⟩]) (
 .seq (
 .seq (
 .reg none [
 ⟨some 8, none, .mov (.c (.int .i64 0))⟩]) (
 .block 0 (
 .loop b71_0))) (
 .seq (
 .reg none [
 ⟨some 38, none, .mov (.t 6)⟩,
 ⟨some 39, none, .mov (.t 7)⟩,
 ⟨some 4, none, .mov (.t 38)⟩,
 ⟨some 5, none, .mov (.t 39)⟩]) (
 .ret)))))
def a71 : AFunc := ⟨40, c71, [.tmp 4, .tmp 5]⟩
/-! 72 cassegrain/cassegrainref05.DecodeParity params [48, 25, 3] nfree 0 ntmps 28 -/
def l72_0 : ACode :=
 .seq (
 .seq (
 .reg none [
 ⟨some 13, none, .mov (.t 10)⟩,
 ⟨some 14, none, .mov (.t 2)⟩,
 ⟨some 15, none, .bin .leq (.t 13) (.t 14)⟩]) (
 .cond (.t 15) (
 .skip) (
 .exit 0))) (
 .seq (
 .block 1 (
 .seq (
 .seq (
 .reg none [
 ⟨some 18, none, .load true 2 (.t 3)⟩,
 ⟨some 19, none, .mov (.t 9)⟩,
 ⟨some 20, none, .ncall true 72021 41 [(.t 18), (.t 19)]⟩,
 ⟨some 21, none, .len (.t 20)⟩,
 ⟨some 22, none, .bin .eql (.t 21) (.c (.int .i64 0))⟩]) (
 .cond (.t 22) (
 .seq (
 .reg none [
 ⟨some 23, none, .mov (.t 9)⟩,
 ⟨some 24, none, .mov (.t 10)⟩,
 ⟨some 6, none, .mov (.t 23)⟩,
 ⟨some 7, none, .mov (.t 24)⟩,
 ⟨some 8, none, .mov (.c (.bool true))⟩]) (
 .ret)) (
 .skip))) (
 .reg none [
 ⟨some 25, none, .load true 2 (.t 3)⟩,
 ⟨some 26, none, .mov (.t 9)⟩,
 ⟨some 27, none, .ncall true 72028 42 [(.t 25), (.t 26)]⟩,
 ⟨some 9, none, .mov (.t 27)⟩]))) (
 .reg none [
 ⟨some 16, none, .mov (.t 10)⟩,
 ⟨some 17, none, .bin .add (.t 16) (.c (.int .i64 1))⟩,
 ⟨some 10, none, .mov (.t 17)⟩]))
def b72_0 : ACode := .gh [.keep [2, 3, 9, 10]] (.gh [] l72_0)
def k72_0 : List AItem := .inLoop b72_0 :: [.inBlock 0,
 .code (.seq (
 .reg none [
 ⟨some 6, none, .mov (.c .nils)⟩,
 ⟨some 7, none, .mov (.c (.int .i64 0))⟩,
 ⟨some 8, none, .mov (.c (.bool false))⟩]) (
 .ret))]
def c72 : ACode :=
 .seq (
 .reg none [
 ⟨some 3, none, .box 72004 48 (.t 0)⟩,
 ⟨some 6, none, .mov (.c .nils)⟩,
 ⟨some 7, none, .mov (.c (.int .i64 0))⟩,
 ⟨some 8, none, .mov (.c (.bool false))⟩]) (
 .seq (
 .reg none [
 ⟨some 11, none, .mov (.t 1)⟩,
 ⟨some 12, none, .ncall true 72013 20 [(.t 11)]⟩,
 ⟨some 9, none, .mov (.t 12)⟩]) (
 .seq (
 .seq (
 .reg none [
 ⟨some 10, none, .mov (.c (.int .i64 0))⟩]) (
 .block 0 (
 .loop b72_0))) (
 .seq (
 .reg none [
 ⟨some 6, none, .mov (.c .nils)⟩,
 ⟨some 7, none, .mov (.c (.int .i64 0))⟩,
 ⟨some 8, none, .mov (.c (.bool false))⟩]) (
 .ret))))
def a72 : AFunc := ⟨28, c72, [.tmp 6, .tmp 7, .tmp 8]⟩
/-! 73 cassegrain/code.FormatWord params [25] nfree 0 ntmps 21 -/
def l73_0 : ACode :=
 .seq (
 .reg none [
 ⟨some 9, none, .bin .lss (.t 8) (.t 7)⟩]) (
 .seq (
 .cond (.t 9) (
 .skip) (
 .exit 0)) (
 .seq (
 .block 1 (
 .seq (
 .reg none [
 ⟨some 10, none, .iaddr 1 (.t 6) (.t 8)⟩,
 ⟨some 11, none, .load false 1 (.t 10)⟩,
 ⟨some 5, none, .mov (.t 11)⟩]) (
 .seq (
 .seq (
 .reg none [
 ⟨some 12, none, .mov (.t 5)⟩,
 ⟨some 13, none, .ncall true 0 135 [(.t 12)]⟩,
 ⟨some 14, none, .not (.t 13)⟩]) (
 .cond (.t 14) (
 .seq (
 .reg none [
 ⟨some 15, none, .ncall true 73016 136 [(.t 3), (.c (.int .u8 63))]⟩]) (
 .exit 1)) (
 .skip))) (
 .reg none [
 ⟨some 16, none, .mov (.t 5)⟩,
 ⟨some 17, none, .sidx (.c (.str [48, 49, 50, 51, 52, 53, 54, 55, 56, 57, 97, 98, 99, 100, 101, 102])) (.t 16)⟩,
 ⟨some 18, none, .ncall true 73019 136 [(.t 3), (.t 17)]⟩])))) (
 .reg none [
 ⟨some 19, none, .bin .add (.t 8) (.c (.int .i64 1))⟩,
 ⟨some 8, none, .mov (.t 19)⟩])))
def b73_0 : ACode := .gh [.keep [3, 6, 7, 8]] (.gh [] l73_0)
def k73_0 : List AItem := .inLoop b73_0 :: [.inBlock 0,
 .code (.seq (
 .reg none [
 ⟨some 20, none, .ncall true 0 137 [(.t 3)]⟩,
 ⟨some 2, none, .mov (.t 20)⟩]) (
 .ret))]
def c73 : ACode :=
 .seq (
 .reg none [
 ⟨some 2, none, .mov (.c (.str []))⟩]) (
 .seq (
 .reg none [
 ⟨some 3, none, .alloc 73004 153 (.agg (.gen [(.val (.pointer none)), .nils]))⟩]) (
 .seq (
 .seq (
 .reg none [
 ⟨some 6, none, .mov (.t 0)⟩,
 ⟨some 7, none, .len (.t 6)⟩,
 ⟨some 8, none, .mov (.c (.int .i64 0))⟩]) (
 .block 0 (
 .loop b73_0))) (
 .seq (
 .reg none [
 ⟨some 20, none, .ncall true 0 137 [(.t 3)]⟩,
 ⟨some 2, none, .mov (.t 20)⟩]) (
 .ret))))
def a73 : AFunc := ⟨21, c73, [.tmp 2]⟩
/-! 74 cassegrain/code.ParseWord params [9] nfree 0 ntmps 28 -/
def l74_0 : ACode :=
 .seq (
 .reg none [
 ⟨some 15, none, .bin .lss (.t 14) (.t 13)⟩]) (
 .seq (
 .cond (.t 15) (
 .skip) (
 .exit 0)) (
 .seq (
 .block 1 (
 .seq (
 .reg none [
 ⟨some 16, none, .iaddr 1 (.t 12) (.t 14)⟩,
 ⟨some 17, none, .load false 1 (.t 16)⟩,
 ⟨some 6, none, .mov (.t 17)⟩]) (
 .seq (
 .reg none [
 ⟨some 18, none, .mov (.t 6)⟩,
 ⟨some 19, none, .ncall true 0 138 [(.c (.str [48, 49, 50, 51, 52, 53, 54, 55, 56, 57, 97, 98, 99, 100, 101, 102])), (.t 18)]⟩,
 ⟨some 7, none, .mov (.t 19)⟩]) (
 .seq (
 .seq (
 .reg none [
 ⟨some 20, none, .mov (.t 7)⟩,
 ⟨some 21, none, .bin .lss (.t 20) (.c (.int .i64 0))⟩]) (
 .cond (.t 21) (
 .seq (
 .reg none [
 ⟨some 2, none, .mov (.c .nils)⟩,
 ⟨some 3, none, .mov (.c (.int .i64 7))⟩]) (
 .ret)) (
 .skip))) (
 .reg none [
 ⟨some 22, none, .mov (.t 4)⟩,
 ⟨some 23, none, .mov (.t 7)⟩,
 ⟨some 24, none, .bslice 74025 3 1 [(.t 23)]⟩,
 ⟨some 25, none, .append 74026 3 1 (.t 22) (.t 24)⟩,
 ⟨some 4, none, .mov (.t 25)⟩]))))) (
 .reg none [
 ⟨some 26, none, .bin .add (.t 14) (.c (.int .i64 1))⟩,
 ⟨some 14, none, .mov (.t 26)⟩])))
def b74_0 : ACode := .gh [.keep [4, 12, 13, 14]] (.gh [] l74_0)
def k74_0 : List AItem := .inLoop b74_0 :: [.inBlock 0,
 .code (.seq (
 .reg none [
 ⟨some 27, none, .mov (.t 4)⟩,
 ⟨some 2, none, .mov (.t 27)⟩,
 ⟨some 3, none, .mov (.c (.int .i64 0))⟩]) (
 .ret))]
def c74 : ACode :=
 .seq (
 .reg none [
 ⟨some 2, none, .mov (.c .nils)⟩,
 ⟨some 3, none, .mov (.c (.int .i64 0))⟩]) (
 .seq (
 .seq (
 .reg none [
 ⟨some 8, none, .mov (.t 0)⟩,
 ⟨some 9, none, .slen (.t 8)⟩,
 ⟨some 10, none, .bin .gtr (.t 9) (.c (.int .i64 400))⟩]) (
 .cond (.t 10) (
 .seq (
 .reg none [
 ⟨some 2, none, .mov (.c .nils)⟩,
 ⟨some 3, none, .mov (.c (.int .i64 8))⟩]) (
 .ret)) (
 .skip))) (
 .seq (
 .reg none [
 ⟨some 4, none, .mov (.c .nils)⟩]) (
 .seq (
 .seq (
 .junk /- convert string slice -/) (
 .block 0 (
 .loop b74_0))) (
 .seq (
 .reg none [
 ⟨some 27, none, .mov (.t 4)⟩,
 ⟨some 2, none, .mov (.t 27)⟩,
 ⟨some 3, none, .mov (.c (.int .i64 0))⟩]) (
 .ret)))))
def a74 : AFunc := ⟨28, c74, [.tmp 2, .tmp 3]⟩
/-! 75 cassegrain/cassegrainref05.ParseWord params [9] nfree 0 ntmps 35 -/
def l75_1 : ACode :=
 .seq (
 .seq (
 .reg none [
 ⟨some 17, none, .mov (.t 7)⟩,
 ⟨some 18, none, .bin .lss (.t 17) (.c (.int .i64 16))⟩]) (
 .cond (.t 18) (
 .skip) (
 .exit 2))) (
 .seq (
 .block 3 (
 .seq (
 .reg (some []) [
 ⟨some 21, none, .mov (.t 7)⟩,
 ⟨some 22, none, .sidx (.c (.str [48, 49, 50, 51, 52, 53, 54, 55, 56, 57, 97, 98, 99, 100, 101, 102])) (.t 21)⟩,
 ⟨some 23, none, .mov (.t 0)⟩,
 ⟨some 24, none, .mov (.t 5)⟩,
 ⟨some 25, none, .sidx (.t 23) (.t 24)⟩,
 ⟨some 26, none, .bin .eql (.t 22) (.t 25)⟩]) (
 .cond (.t 26) (
 .reg none [
 ⟨some 27, none, .mov (.t 7)⟩,
 ⟨some 6, none, .mov (.t 27)⟩]) (
 .skip)))) (
 .reg none [
 ⟨some 19, none, .mov (.t 7)⟩,
 ⟨some 20, none, .bin .add (.t 19) (.c (.int .i64 1))⟩,
 ⟨some 7, none, .mov (.t 20)⟩]))
def b75_1 : ACode := .gh [.keep [0, 4, 5, 6, 7]] (.gh [] l75_1)
def l75_0 : ACode :=
 .seq (
 .seq (
 .reg none [
 ⟨some 11, none, .mov (.t 5)⟩,
 ⟨some 12, none, .mov (.t 0)⟩,
 ⟨some 13, none, .slen (.t 12)⟩,
 ⟨some 14, none, .bin .lss (.t 11) (.t 13)⟩]) (
 .cond (.t 14) (
 .skip) (
 .exit 0))) (
 .seq (
 .block 1 (
 .seq (
 .reg none [
 ⟨some 6, none, .mov (.c (.int .i64 (-1)))⟩]) (
 .seq (
 .seq (
 .reg none [
 ⟨some 7, none, .mov (.c (.int .i64 0))⟩]) (
 .block 2 (
 .loop b75_1))) (
 .seq (
 .seq (
 .reg none [
 ⟨some 28, none, .mov (.t 6)⟩,
 ⟨some 29, none, .bin .lss (.t 28) (.c (.int .i64 0))⟩]) (
 .cond (.t 29) (
 .seq (
 .reg none [
 ⟨some 2, none, .mov (.c .nils)⟩,
 ⟨some 3, none, .mov (.c (.int .i64 7))⟩]) (
 .ret)) (
 .skip))) (
 .reg none [
 ⟨some 30, none, .mov (.t 4)⟩,
 ⟨some 31, none, .mov (.t 6)⟩,
 ⟨some 32, none, .bslice 75033 3 1 [(.t 31)]⟩,
 ⟨some 33, none, .append 75034 3 1 (.t 30) (.t 32)⟩,
 ⟨some 4, none, .mov (.t 33)⟩]))))) (
 .reg none [
 ⟨some 15, none, .mov (.t 5)⟩,
 ⟨some 16, none, .bin .add (.t 15) (.c (.int .i64 1))⟩,
 ⟨some 5, none, .mov (.t 16)⟩]))
def b75_0 : ACode := .gh [.keep [0, 4, 5]] (.gh [] l75_0)
def k75_1 : List AItem := .inLoop b75_1 :: [.inBlock 2,
 .code (.seq (
 .seq (
 .reg none [
 ⟨some 28, none, .mov (.t 6)⟩,
 ⟨some 29, none, .bin .lss (.t 28) (.c (.int .i64 0))⟩]) (
 .cond (.t 29) (
 .seq (
 .reg none [
 ⟨some 2, none, .mov (.c .nils)⟩,
 ⟨some 3, none, .mov (.c (.int .i64 7))⟩]) (
 .ret)) (
 .skip))) (
 .reg none [
 ⟨some 30, none, .mov (.t 4)⟩,
 ⟨some 31, none, .mov (.t 6)⟩,
 ⟨some 32, none, .bslice 75033 3 1 [(.t 31)]⟩,
 ⟨some 33, none, .append 75034 3 1 (.t 30) (.t 32)⟩,
 ⟨some 4, none, .mov (.t 33)⟩])),
 .inBlock 1,
 .code (.reg none [
 ⟨some 15, none, .mov (.t 5)⟩,
 ⟨some 16, none, .bin .add (.t 15) (.c (.int .i64 1))⟩,
 ⟨some 5, none, .mov (.t 16)⟩]),
 .inLoop b75_0,
 .inBlock 0,
 .code (.seq (
 .reg none [
 ⟨some 34, none, .mov (.t 4)⟩,
 ⟨some 2, none, .mov (.t 34)⟩,
 ⟨some 3, none, .mov (.c (.int .i64 0))⟩]) (
 .ret))]
def k75_0 : List AItem := .inLoop b75_0 :: [.inBlock 0,
 .code (.seq (
 .reg none [
 ⟨some 34, none, .mov (.t 4)⟩,
 ⟨some 2, none, .mov (.t 34)⟩,
 ⟨some 3, none, .mov (.c (.int .i64 0))⟩]) (
 .ret))]
def c75 : ACode :=
 .seq (
 .reg none [
 ⟨some 2, none, .mov (.c .nils)⟩,
 ⟨some 3, none, .mov (.c (.int .i64 0))⟩]) (
 .seq (
 .seq (
 .reg none [
 ⟨some 8, none, .mov (.t 0)⟩,
 ⟨some 9, none, .slen (.t 8)⟩,
 ⟨some 10, none, .bin .gtr (.t 9) (.c (.int .i64 400))⟩]) (
 .cond (.t 10) (
 .seq (
 .reg none [
 ⟨some 2, none, .mov (.c .nils)⟩,
 ⟨some 3, none, .mov (.c (.int .i64 8))⟩]) (
 .ret)) (
 .skip))) (
 .seq (
 .reg none [
 ⟨some 4, none, .mov (.c .nils)⟩]) (
 .seq (
 .seq (
 .reg none [
 ⟨some 5, none, .mov (.c (.int .i64 0))⟩]) (
 .block 0 (
 .loop b75_0))) (
 .seq (
 .reg none [
 ⟨some 34, none, .mov (.t 4)⟩,
 ⟨some 2, none, .mov (.t 34)⟩,
 ⟨some 3, none, .mov (.c (.int .i64 0))⟩]) (
 .ret)))))
def a75 : AFunc := ⟨35, c75, [.tmp 2, .tmp 3]⟩
/-! 76 cassegrain/cassegrainref05.FormatWord params [25] nfree 0 ntmps 31 -/
def l76_0 : ACode :=
 .seq (
 .seq (
 .reg none [
 ⟨some 5, none, .mov (.t 4)⟩,
 ⟨some 6, none, .mov (.t 0)⟩,
 ⟨some 7, none, .len (.t 6)⟩,
 ⟨some 8, none, .bin .lss (.t 5) (.t 7)⟩]) (
 .cond (.t 8) (
 .skip) (
 .exit 0))) (
 .seq (
 .block 1 (
 .seq (
 .reg none [
 ⟨some 11, none, .mov (.t 0)⟩,
 ⟨some 12, none, .mov (.t 4)⟩,
 ⟨some 13, none, .iaddr 1 (.t 11) (.t 12)⟩,
 ⟨some 14, none, .load false 1 (.t 13)⟩,
 ⟨some 15, none, .ncall true 0 27 [(.t 14)]⟩]) (
 .cond (.t 15) (
 .reg (some []) [
 ⟨some 16, none, .mov (.t 3)⟩,
 ⟨some 17, none, .mov (.t 0)⟩,
 ⟨some 18, none, .mov (.t 4)⟩,
 ⟨some 19, none, .iaddr 1 (.t 17) (.t 18)⟩,
 ⟨some 20, none, .load false 1 (.t 19)⟩,
 ⟨some 21, none, .mov (.t 0)⟩,
 ⟨some 22, none, .mov (.t 4)⟩,
 ⟨some 23, none, .iaddr 1 (.t 21) (.t 22)⟩,
 ⟨some 24, none, .load false 1 (.t 23)⟩,
 ⟨some 25, none, .bin .add (.t 24) (.c (.int .i64 1))⟩,
 ⟨some 26, none, .sslc (.c (.str [48, 49, 50, 51, 52, 53, 54, 55, 56, 57, 97, 98, 99, 100, 101, 102])) (some (.t 20)) (some (.t 25))⟩,
 ⟨some 27, none, .bin .add (.t 16) (.t 26)⟩,
 ⟨some 3, none, .mov (.t 27)⟩]) (
 .reg none [
 ⟨some 28, none, .mov (.t 3)⟩,
 ⟨some 29, none, .bin .add (.t 28) (.c (.str [63]))⟩,
 ⟨some 3, none, .mov (.t 29)⟩])))) (
 .reg none [
 ⟨some 9, none, .mov (.t 4)⟩,
 ⟨some 10, none, .bin .add (.t 9) (.c (.int .i64 1))⟩,
 ⟨some 4, none, .mov (.t 10)⟩]))
def b76_0 : ACode := .gh [.keep [0, 3, 4]] (.gh [] l76_0)
def k76_0 : List AItem := .inLoop b76_0 :: [.inBlock 0,
 .code (.seq (
 .reg none [
 ⟨some 30, none, .mov (.t 3)⟩,
 ⟨some 2, none, .mov (.t 30)⟩]) (
 .ret))]
def c76 : ACode :=
 .seq (
 .reg none [
 ⟨some 2, none, .mov (.c (.str []))⟩]) (
 .seq (
 .reg none [
 ⟨some 3, none, .mov (.c (.str []))⟩]) (
 .seq (
 .seq (
 .reg none [
 ⟨some 4, none, .mov (.c (.int .i64 0))⟩]) (
 .block 0 (
 .loop b76_0))) (
 .seq (
 .reg none [
 ⟨some 30, none, .mov (.t 3)⟩,
 ⟨some 2, none, .mov (.t 30)⟩]) (
 .ret))))
def a76 : AFunc := ⟨31, c76, [.tmp 2]⟩
/-! 77 cassegrain/cassegrainref05.Distance params [25, 25] nfree 0 ntmps 25 -/
def l77_0 : ACode :=
 .seq (
 .seq (
 .reg none [
 ⟨some 7, none, .mov (.t 6)⟩,
 ⟨some 8, none, .mov (.t 0)⟩,
 ⟨some 9, none, .len (.t 8)⟩,
 ⟨some 10, none, .bin .lss (.t 7) (.t 9)⟩]) (
 .cond (.t 10) (
 .skip) (
 .exit 0))) (
 .seq (
 .block 1 (
 .seq (
 .reg (some []) [
 ⟨some 13, none, .mov (.t 0)⟩,
 ⟨some 14, none, .mov (.t 6)⟩,
 ⟨some 15, none, .iaddr 1 (.t 13) (.t 14)⟩,
 ⟨some 16, none, .load false 1 (.t 15)⟩,
 ⟨some 17, none, .mov (.t 1)⟩,
 ⟨some 18, none, .mov (.t 6)⟩,
 ⟨some 19, none, .iaddr 1 (.t 17) (.t 18)⟩,
 ⟨some 20, none, .load false 1 (.t 19)⟩,
 ⟨some 21, none, .bin .neq (.t 16) (.t 20)⟩]) (
 .gh [.keep [0, 1, 5, 6, 21]] (
 .cond (.t 21) (
 .reg none [
 ⟨some 22, none, .mov (.t 5)⟩,
 ⟨some 23, none, .bin .add (.t 22) (.c (.int .i64 1))⟩,
 ⟨some 5, none, .mov (.t 23)⟩]) (
 .skip))))) (
 .reg none [
 ⟨some 11, none, .mov (.t 6)⟩,
 ⟨some 12, none, .bin .add (.t 11) (.c (.int .i64 1))⟩,
 ⟨some 6, none, .mov (.t 12)⟩]))
def b77_0 : ACode := .gh [.keep [0, 1, 5, 6]] (.gh [] l77_0)
def k77_0 : List AItem := .inLoop b77_0 :: [.inBlock 0,
 .code (.seq (
 .reg none [
 ⟨some 24, none, .mov (.t 5)⟩,
 ⟨some 4, none, .mov (.t 24)⟩]) (
 .ret))]
def c77 : ACode :=
 .seq (
 .reg none [
 ⟨some 4, none, .mov (.c (.int .i64 0))⟩]) (
 .seq (
 .reg none [
 ⟨some 5, none, .mov (.c (.int .i64 0))⟩]) (
 .seq (
 .seq (
 .reg none [
 ⟨some 6, none, .mov (.c (.int .i64 0))⟩]) (
 .block 0 (
 .loop b77_0))) (
 .seq (
 .reg none [
 ⟨some 24, none, .mov (.t 5)⟩,
 ⟨some 4, none, .mov (.t 24)⟩]) (
 .ret))))
def a77 : AFunc := ⟨25, c77, [.tmp 4]⟩
/-! 78 cassegrain/cassegrainbase.Before params [25, 25] nfree 0 ntmps 41 -/
def l78_0 : ACode :=
 .seq (
 .seq (
 .reg none [
 ⟨some 6, none, .mov (.t 5)⟩,
 ⟨some 7, none, .mov (.t 0)⟩,
 ⟨some 8, none, .len (.t 7)⟩,
 ⟨some 9, none, .bin .lss (.t 6) (.t 8)⟩,
 ⟨some 10, none, .mov (.t 9)⟩,
 ⟨some 11, (some (10, true)), .mov (.t 5)⟩,
 ⟨some 12, (some (10, true)), .mov (.t 1)⟩,
 ⟨some 13, (some (10, true)), .len (.t 12)⟩,
 ⟨some 14, (some (10, true)), .bin .lss (.t 11) (.t 13)⟩,
 ⟨some 15, none, .pick (.t 10) (.t 14) (.c (.bool false))⟩]) (
 .gh [.keep [0, 1, 5, 15]] (
 .cond (.t 15) (
 .skip) (
 .exit 0)))) (
 .seq (
 .block 1 (
 .seq (
 .reg (some []) [
 ⟨some 18, none, .mov (.t 0)⟩,
 ⟨some 19, none, .mov (.t 5)⟩,
 ⟨some 20, none, .iaddr 1 (.t 18) (.t 19)⟩,
 ⟨some 21, none, .load false 1 (.t 20)⟩,
 ⟨some 22, none, .mov (.t 1)⟩,
 ⟨some 23, none, .mov (.t 5)⟩,
 ⟨some 24, none, .iaddr 1 (.t 22) (.t 23)⟩,
 ⟨some 25, none, .load false 1 (.t 24)⟩,
 ⟨some 26, none, .bin .neq (.t 21) (.t 25)⟩]) (
 .gh [.keep [0, 1, 5, 26]] (
 .cond (.t 26) (
 .seq (
 .reg (some []) [
 ⟨some 27, none, .mov (.t 0)⟩,
 ⟨some 28, none, .mov (.t 5)⟩,
 ⟨some 29, none, .iaddr 1 (.t 27) (.t 28)⟩,
 ⟨some 30, none, .load false 1 (.t 29)⟩,
 ⟨some 31, none, .mov (.t 1)⟩,
 ⟨some 32, none, .mov (.t 5)⟩,
 ⟨some 33, none, .iaddr 1 (.t 31) (.t 32)⟩,
 ⟨some 34, none, .load false 1 (.t 33)⟩,
 ⟨some 35, none, .bin .lss (.t 30) (.t 34)⟩,
 ⟨some 4, none, .mov (.t 35)⟩]) (
 .gh [.keep [4]] (
 .ret))) (
 .skip))))) (
 .reg none [
 ⟨some 16, none, .mov (.t 5)⟩,
 ⟨some 17, none, .bin .add (.t 16) (.c (.int .i64 1))⟩,
 ⟨some 5, none, .mov (.t 17)⟩]))
def b78_0 : ACode := .gh [.keep [0, 1, 5]] (.gh [] l78_0)
def k78_0 : List AItem := .inLoop b78_0 :: [.inBlock 0,
 .code (.seq (
 .reg none [
 ⟨some 36, none, .mov (.t 0)⟩,
 ⟨some 37, none, .len (.t 36)⟩,
 ⟨some 38, none, .mov (.t 1)⟩,
 ⟨some 39, none, .len (.t 38)⟩,
 ⟨some 40, none, .bin .lss (.t 37) (.t 39)⟩,
 ⟨some 4, none, .mov (.t 40)⟩]) (
 .ret))]
def c78 : ACode :=
 .seq (
 .reg none [
 ⟨some 4, none, .mov (.c (.bool false))⟩]) (
 .seq (
 .seq (
 .reg none [
 ⟨some 5, none, .mov (.c (.int .i64 0))⟩]) (
 .block 0 (
 .loop b78_0))) (
 .seq (
 .reg none [
 ⟨some 36, none, .mov (.t 0)⟩,
 ⟨some 37, none, .len (.t 36)⟩,
 ⟨some 38, none, .mov (.t 1)⟩,
 ⟨some 39, none, .len (.t 38)⟩,
 ⟨some 40, none, .bin .lss (.t 37) (.t 39)⟩,
 ⟨some 4, none, .mov (.t 40)⟩]) (
 .ret)))
def a78 : AFunc := ⟨41, c78, [.tmp 4]⟩
/-! 79 cassegrain/code.DecodeBlock params [3, 25] nfree 0 ntmps 33 -/
def c79 : ACode :=
 .seq (
 .reg none [
 ⟨some 4, none, .mov (.c .nils)⟩,
 ⟨some 5, none, .mov (.c (.int .i64 0))⟩,
 ⟨some 6, none, .mov (.c (.int .i64 0))⟩]) (
 .seq (
 .seq (
 .reg none [
 ⟨some 11, none, .mov (.t 0)⟩,
 ⟨some 12, none, .ncall true 0 106 [(.t 11)]⟩,
 ⟨some 13, none, .mov (.t 1)⟩,
 ⟨some 14, none, .ncall true 0 107 [(.t 13), (.c (.int .i64 15))]⟩,
 ⟨some 15, none, .bslice 79016 27 1 [(.t 12), (.t 14)]⟩,
 ⟨some 16, none, .ncall true 0 105 [(.t 15)]⟩,
 ⟨some 7, none, .mov (.t 16)⟩]) (
 .gh [.keep [0, 1, 7]] (
 .seq (
 .reg none [
 ⟨some 17, none, .mov (.t 7)⟩,
 ⟨some 18, none, .bin .neq (.t 17) (.c (.int .i64 0))⟩]) (
 .cond (.t 18) (
 .seq (
 .reg none [
 ⟨some 19, none, .mov (.t 7)⟩,
 ⟨some 4, none, .mov (.c .nils)⟩,
 ⟨some 5, none, .mov (.c (.int .i64 0))⟩,
 ⟨some 6, none, .mov (.t 19)⟩]) (
 .ret)) (
 .skip))))) (
 .seq (
 .reg none [
 ⟨some 21, none, .mov (.t 1)⟩,
 ⟨some 22, none, .s2a 15 (.t 21)⟩,
 ⟨some 23, none, .load true 15 (.t 22)⟩,
 ⟨some 24, none, .mov (.t 0)⟩,
 ⟨some 25, none, .ncall true 0 139 [(.t 23), (.t 24)]⟩,
 ⟨some 20, none, .mov (.t 25)⟩,
 ⟨some 26, none, .ext 0 (.t 20)⟩,
 ⟨some 27, none, .ext 1 (.t 20)⟩,
 ⟨some 28, none, .ext 2 (.t 20)⟩,
 ⟨some 8, none, .alloc 79009 133 (.agg (.ints .i64 [0, 0, 0, 0, 0, 0, 0, 0, 0, 0, 0, 0, 0, 0, 0]))⟩,
 ⟨none, none, .store 15 (.t 8) (.t 26)⟩,
 ⟨some 9, none, .mov (.t 27)⟩,
 ⟨some 10, none, .mov (.t 28)⟩]) (
 .gh [.keep [8, 9, 10]] (
 .seq (
 .seq (
 .reg none [
 ⟨some 29, none, .mov (.t 10)⟩,
 ⟨some 30, none, .not (.t 29)⟩]) (
 .cond (.t 30) (
 .seq (
 .reg none [
 ⟨some 4, none, .mov (.c .nils)⟩,
 ⟨some 5, none, .mov (.c (.int .i64 0))⟩,
 ⟨some 6, none, .mov (.c (.int .i64 27))⟩]) (
 .ret)) (
 .skip))) (
 .seq (
 .reg none [
 ⟨some 31, none, .asl 15 (.t 8) none none⟩,
 ⟨some 32, none, .mov (.t 9)⟩,
 ⟨some 4, none, .mov (.t 31)⟩,
 ⟨some 5, none, .mov (.t 32)⟩,
 ⟨some 6, none, .mov (.c (.int .i64 0))⟩]) (
 .ret))))))
def a79 : AFunc := ⟨33, c79, [.tmp 4, .tmp 5, .tmp 6]⟩
/-! 80 cassegrain/code.FillErasures params [3, 25, 25] nfree 0 ntmps 62 -/
def l80_0 : ACode :=
 .seq (
 .reg none [
 ⟨some 33, none, .bin .lss (.t 32) (.t 31)⟩]) (
 .seq (
 .cond (.t 33) (
 .skip) (
 .exit 0)) (
 .seq (
 .block 1 (
 .seq (
 .reg none [
 ⟨some 34, none, .iaddr 1 (.t 30) (.t 32)⟩,
 ⟨some 35, none, .load false 1 (.t 34)⟩,
 ⟨some 11, none, .mov (.t 35)⟩]) (
 .seq (
 .seq (
 .reg none [
 ⟨some 36, none, .mov (.t 11)⟩,
 ⟨some 37, none, .ncall true 0 112 [(.t 36), (.c (.int .i64 0)), (.c (.int .i64 14))]⟩,
 ⟨some 38, none, .ncall true 0 111 [(.t 37), (.c (.int .i64 6))]⟩,
 ⟨some 39, none, .mov (.t 11)⟩,
 ⟨some 40, none, .mov (.t 9)⟩,
 ⟨some 41, none, .bin .gtr (.t 39) (.t 40)⟩,
 ⟨some 42, none, .ncall true 0 111 [(.t 41), (.c (.int .i64 9))]⟩,
 ⟨some 43, none, .bslice 80044 27 1 [(.t 38), (.t 42)]⟩,
 ⟨some 44, none, .ncall true 0 105 [(.t 43)]⟩,
 ⟨some 12, none, .mov (.t 44)⟩]) (
 .gh [.keep [0, 1, 2, 11, 12, 30, 31, 32]] (
 .seq (
 .reg none [
 ⟨some 45, none, .mov (.t 12)⟩,
 ⟨some 46, none, .bin .neq (.t 45) (.c (.int .i64 0))⟩]) (
 .cond (.t 46) (
 .seq (
 .reg none [
 ⟨some 47, none, .mov (.t 12)⟩,
 ⟨some 6, none, .mov (.c .nils)⟩,
 ⟨some 7, none, .mov (.t 47)⟩]) (
 .ret)) (
 .skip))))) (
 .reg none [
 ⟨some 48, none, .mov (.t 11)⟩,
 ⟨some 9, none, .mov (.t 48)⟩])))) (
 .reg none [
 ⟨some 49, none, .bin .add (.t 32) (.c (.int .i64 1))⟩,
 ⟨some 32, none, .mov (.t 49)⟩])))
def b80_0 : ACode := .gh [.keep [0, 1, 2, 9, 30, 31, 32]] (.gh [] l80_0)
def k80_0 : List AItem := .inLoop b80_0 :: [.inBlock 0,
 .code (.seq (
 .reg none [
 ⟨some 51, none, .mov (.t 1)⟩,
 ⟨some 52, none, .s2a 15 (.t 51)⟩,
 ⟨some 53, none, .load true 15 (.t 52)⟩,
 ⟨some 54, none, .mov (.t 0)⟩,
 ⟨some 55, none, .mov (.t 2)⟩,
 ⟨some 56, none, .ncall true 0 140 [(.t 53), (.t 54), (.t 55)]⟩,
 ⟨some 50, none, .mov (.t 56)⟩,
 ⟨some 57, none, .ext 0 (.t 50)⟩,
 ⟨some 58, none, .ext 1 (.t 50)⟩,
 ⟨some 13, none, .alloc 80014 133 (.agg (.ints .i64 [0, 0, 0, 0, 0, 0, 0, 0, 0, 0, 0, 0, 0, 0, 0]))⟩,
 ⟨none, none, .store 15 (.t 13) (.t 57)⟩,
 ⟨some 14, none, .mov (.t 58)⟩]) (
 .gh [.keep [13, 14]] (
 .seq (
 .seq (
 .reg none [
 ⟨some 59, none, .mov (.t 14)⟩,
 ⟨some 60, none, .not (.t 59)⟩]) (
 .cond (.t 60) (
 .seq (
 .reg none [
 ⟨some 6, none, .mov (.c .nils)⟩,
 ⟨some 7, none, .mov (.c (.int .i64 27))⟩]) (
 .ret)) (
 .skip))) (
 .seq (
 .reg none [
 ⟨some 61, none, .asl 15 (.t 13) none none⟩,
 ⟨some 6, none, .mov (.t 61)⟩,
 ⟨some 7, none, .mov (.c (.int .i64 0))⟩]) (
 .ret)))))]
def c80 : ACode :=
 .seq (
 .reg none [
 ⟨some 6, none, .mov (.c .nils)⟩,
 ⟨some 7, none, .mov (.c (.int .i64 0))⟩]) (
 .seq (
 .seq (
 .reg none [
 ⟨some 15, none, .mov (.t 0)⟩,
 ⟨some 16, none, .ncall true 0 106 [(.t 15)]⟩,
 ⟨some 17, none, .mov (.t 1)⟩,
 ⟨some 18, none, .ncall true 0 107 [(.t 17), (.c (.int .i64 15))]⟩,
 ⟨some 19, none, .mov (.t 2)⟩,
 ⟨some 20, none, .len (.t 19)⟩,
 ⟨some 21, none, .mov (.t 0)⟩,
 ⟨some 22, none, .bin .mul (.c (.int .i64 2)) (.t 21)⟩,
 ⟨some 23, none, .bin .leq (.t 20) (.t 22)⟩,
 ⟨some 24, none, .ncall true 0 111 [(.t 23), (.c (.int .i64 8))]⟩,
 ⟨some 25, none, .bslice 80026 27 1 [(.t 16), (.t 18), (.t 24)]⟩,
 ⟨some 26, none, .ncall true 0 105 [(.t 25)]⟩,
 ⟨some 8, none, .mov (.t 26)⟩]) (
 .gh [.keep [0, 1, 2, 8]] (
 .seq (
 .reg none [
 ⟨some 27, none, .mov (.t 8)⟩,
 ⟨some 28, none, .bin .neq (.t 27) (.c (.int .i64 0))⟩]) (
 .cond (.t 28) (
 .seq (
 .reg none [
 ⟨some 29, none, .mov (.t 8)⟩,
 ⟨some 6, none, .mov (.c .nils)⟩,
 ⟨some 7, none, .mov (.t 29)⟩]) (
 .ret)) (
 .skip))))) (
 .seq (
 .reg none [
 ⟨some 9, none, .mov (.c (.int .i64 (-1)))⟩]) (
 .seq (
 .seq (
 .reg none [
 ⟨some 30, none, .mov (.t 2)⟩,
 ⟨some 31, none, .len (.t 30)⟩,
 ⟨some 32, none, .mov (.c (.int .i64 0))⟩]) (
 .block 0 (
 .loop b80_0))) (
 .seq (
 .reg none [
 ⟨some 51, none, .mov (.t 1)⟩,
 ⟨some 52, none, .s2a 15 (.t 51)⟩,
 ⟨some 53, none, .load true 15 (.t 52)⟩,
 ⟨some 54, none, .mov (.t 0)⟩,
 ⟨some 55, none, .mov (.t 2)⟩,
 ⟨some 56, none, .ncall true 0 140 [(.t 53), (.t 54), (.t 55)]⟩,
 ⟨some 50, none, .mov (.t 56)⟩,
 ⟨some 57, none, .ext 0 (.t 50)⟩,
 ⟨some 58, none, .ext 1 (.t 50)⟩,
 ⟨some 13, none, .alloc 80014 133 (.agg (.ints .i64 [0, 0, 0, 0, 0, 0, 0, 0, 0, 0, 0, 0, 0, 0, 0]))⟩,
 ⟨none, none, .store 15 (.t 13) (.t 57)⟩,
 ⟨some 14, none, .mov (.t 58)⟩]) (
 .gh [.keep [13, 14]] (
 .seq (
 .seq (
 .reg none [
 ⟨some 59, none, .mov (.t 14)⟩,
 ⟨some 60, none, .not (.t 59)⟩]) (
 .cond (.t 60) (
 .seq (
 .reg none [
 ⟨some 6, none, .mov (.c .nils)⟩,
 ⟨some 7, none, .mov (.c (.int .i64 27))⟩]) (
 .ret)) (
 .skip))) (
 .seq (
 .reg none [
 ⟨some 61, none, .asl 15 (.t 13) none none⟩,
 ⟨some 6, none, .mov (.t 61)⟩,
 ⟨some 7, none, .mov (.c (.int .i64 0))⟩]) (
 .ret))))))))
def a80 : AFunc := ⟨62, c80, [.tmp 6, .tmp 7]⟩
/-! 81 cassegrain/cassegrainref05.Decode params [3, 25] nfree 0 ntmps 38 -/
def l81_1 : ACode :=
 .seq (
 .seq (
 .reg none [
 ⟨some 19, none, .mov (.t 9)⟩,
 ⟨some 20, none, .mov (.t 8)⟩,
 ⟨some 21, none, .len (.t 20)⟩,
 ⟨some 22, none, .bin .lss (.t 19) (.t 21)⟩]) (
 .cond (.t 22) (
 .skip) (
 .exit 2))) (
 .seq (
 .block 3 (
 .seq (
 .reg none [
 ⟨some 26, none, .mov (.t 0)⟩,
 ⟨some 27, none, .mov (.t 1)⟩,
 ⟨some 28, none, .mov (.t 8)⟩,
 ⟨some 29, none, .mov (.t 9)⟩,
 ⟨some 30, none, .iaddr 1 (.t 28) (.t 29)⟩,
 ⟨some 31, none, .load false 1 (.t 30)⟩,
 ⟨some 32, none, .ncall true 81033 83 [(.t 26), (.t 27), (.t 31)]⟩,
 ⟨some 25, none, .mov (.t 32)⟩,
 ⟨some 33, none, .ext 0 (.t 25)⟩,
 ⟨some 34, none, .ext 1 (.t 25)⟩,
 ⟨some 10, none, .mov (.t 33)⟩,
 ⟨some 11, none, .mov (.t 34)⟩]) (
 .gh [.keep [0, 1, 7, 8, 9, 10, 11]] (
 .seq (
 .reg none [
 ⟨some 35, none, .mov (.t 11)⟩]) (
 .cond (.t 35) (
 .seq (
 .reg none [
 ⟨some 36, none, .mov (.t 10)⟩,
 ⟨some 37, none, .mov (.t 7)⟩,
 ⟨some 4, none, .mov (.t 36)⟩,
 ⟨some 5, none, .mov (.t 37)⟩,
 ⟨some 6, none, .mov (.c (.bool true))⟩]) (
 .ret)) (
 .skip)))))) (
 .reg none [
 ⟨some 23, none, .mov (.t 9)⟩,
 ⟨some 24, none, .bin .add (.t 23) (.c (.int .i64 1))⟩,
 ⟨some 9, none, .mov (.t 24)⟩]))
def b81_1 : ACode := .gh [.keep [0, 1, 7, 8, 9]] (.gh [] l81_1)
def l81_0 : ACode :=
 .seq (
 .seq (
 .reg none [
 ⟨some 12, none, .mov (.t 7)⟩,
 ⟨some 13, none, .mov (.t 0)⟩,
 ⟨some 14, none, .bin .leq (.t 12) (.t 13)⟩]) (
 .cond (.t 14) (
 .skip) (
 .exit 0))) (
 .seq (
 .block 1 (
 .seq (
 .reg none [
 ⟨some 17, none, .mov (.t 7)⟩,
 ⟨some 18, none, .ncall true 81019 141 [(.c (.int .i64 0)), (.t 17)]⟩,
 ⟨some 8, none, .mov (.t 18)⟩]) (
 .seq (
 .reg none [
 ⟨some 9, none, .mov (.c (.int .i64 0))⟩]) (
 .block 2 (
 .loop b81_1))))) (
 .reg none [
 ⟨some 15, none, .mov (.t 7)⟩,
 ⟨some 16, none, .bin .add (.t 15) (.c (.int .i64 1))⟩,
 ⟨some 7, none, .mov (.t 16)⟩]))
def b81_0 : ACode := .gh [.keep [0, 1, 7]] (.gh [] l81_0)
def k81_1 : List AItem := .inLoop b81_1 :: [.inBlock 2,
 .inBlock 1,
 .code (.reg none [
 ⟨some 15, none, .mov (.t 7)⟩,
 ⟨some 16, none, .bin .add (.t 15) (.c (.int .i64 1))⟩,
 ⟨some 7, none, .mov (.t 16)⟩]),
 .inLoop b81_0,
 .inBlock 0,
 .code (.seq (
 .reg none [
 ⟨some 4, none, .mov (.c .nils)⟩,
 ⟨some 5, none, .mov (.c (.int .i64 0))⟩,
 ⟨some 6, none, .mov (.c (.bool false))⟩]) (
 .ret))]
def k81_0 : List AItem := .inLoop b81_0 :: [.inBlock 0,
 .code (.seq (
 .reg none [
 ⟨some 4, none, .mov (.c .nils)⟩,
 ⟨some 5, none, .mov (.c (.int .i64 0))⟩,
 ⟨some 6, none, .mov (.c (.bool false))⟩]) (
 .ret))]
def c81 : ACode :=
 .seq (
 .reg none [
 ⟨some 4, none, .mov (.c .nils)⟩,
 ⟨some 5, none, .mov (.c (.int .i64 0))⟩,
 ⟨some 6, none, .mov (.c (.bool false))⟩]) (
 .seq (
 .seq (
 .reg none [
 ⟨some 7, none, .mov (.c (.int .i64 0))⟩]) (
 .block 0 (
 .loop b81_0))) (
 .seq (
 .reg none [
 ⟨some 4, none, .mov (.c .nils)⟩,
 ⟨some 5, none, .mov (.c (.int .i64 0))⟩,
 ⟨some 6, none, .mov (.c (.bool false))⟩]) (
 .ret)))
def a81 : AFunc := ⟨38, c81, [.tmp 4, .tmp 5, .tmp 6]⟩
/-! 82 cassegrain/cassegrainref05.ErasedErr params [3, 25] nfree 0 ntmps 37 -/
def l82_0 : ACode :=
 .seq (
 .seq (
 .reg none [
 ⟨some 11, none, .mov (.t 5)⟩,
 ⟨some 12, none, .mov (.t 1)⟩,
 ⟨some 13, none, .len (.t 12)⟩,
 ⟨some 14, none, .bin .lss (.t 11) (.t 13)⟩]) (
 .cond (.t 14) (
 .skip) (
 .exit 0))) (
 .seq (
 .block 1 (
 .seq (
 .seq (
 .reg none [
 ⟨some 17, none, .mov (.t 1)⟩,
 ⟨some 18, none, .mov (.t 5)⟩,
 ⟨some 19, none, .iaddr 1 (.t 17) (.t 18)⟩,
 ⟨some 20, none, .load false 1 (.t 19)⟩,
 ⟨some 21, none, .ncall true 0 45 [(.t 20), (.c (.int .i64 0)), (.c (.int .i64 14))]⟩,
 ⟨some 22, none, .not (.t 21)⟩]) (
 .cond (.t 22) (
 .seq (
 .reg none [
 ⟨some 4, none, .mov (.c (.int .i64 6))⟩]) (
 .ret)) (
 .skip))) (
 .seq (
 .reg (some []) [
 ⟨some 23, none, .mov (.t 5)⟩,
 ⟨some 24, none, .bin .gtr (.t 23) (.c (.int .i64 0))⟩,
 ⟨some 25, none, .mov (.t 24)⟩,
 ⟨some 26, (some (25, true)), .mov (.t 1)⟩,
 ⟨some 27, (some (25, true)), .mov (.t 5)⟩,
 ⟨some 28, (some (25, true)), .iaddr 1 (.t 26) (.t 27)⟩,
 ⟨some 29, (some (25, true)), .load false 1 (.t 28)⟩,
 ⟨some 30, (some (25, true)), .mov (.t 1)⟩,
 ⟨some 31, (some (25, true)), .mov (.t 5)⟩,
 ⟨some 32, (some (25, true)), .bin .sub (.t 31) (.c (.int .i64 1))⟩,
 ⟨some 33, (some (25, true)), .iaddr 1 (.t 30) (.t 32)⟩,
 ⟨some 34, (some (25, true)), .load false 1 (.t 33)⟩,
 ⟨some 35, (some (25, true)), .bin .leq (.t 29) (.t 34)⟩,
 ⟨some 36, none, .pick (.t 25) (.t 35) (.c (.bool false))⟩]) (
 .gh [.keep [1, 5, 36]] (
 .cond (.t 36) (
 .seq (
 .reg none [
 ⟨some 4, none, .mov (.c (.int .i64 9))⟩]) (
 .ret)) (
 .skip)))))) (
 .reg none [
 ⟨some 15, none, .mov (.t 5)⟩,
 ⟨some 16, none, .bin .add (.t 15) (.c (.int .i64 1))⟩,
 ⟨some 5, none, .mov (.t 16)⟩]))
def b82_0 : ACode := .gh [.keep [1, 5]] (.gh [] l82_0)
def k82_0 : List AItem := .inLoop b82_0 :: [.inBlock 0,
 .code (.seq (
 .reg none [
 ⟨some 4, none, .mov (.c (.int .i64 0))⟩]) (
 .ret))]
def c82 : ACode :=
 .seq (
 .reg none [
 ⟨some 4, none, .mov (.c (.int .i64 0))⟩]) (
 .seq (
 .seq (
 .reg none [
 ⟨some 6, none, .mov (.t 1)⟩,
 ⟨some 7, none, .len (.t 6)⟩,
 ⟨some 8, none, .mov (.t 0)⟩,
 ⟨some 9, none, .bin .mul (.c (.int .i64 2)) (.t 8)⟩,
 ⟨some 10, none, .bin .gtr (.t 7) (.t 9)⟩]) (
 .cond (.t 10) (
 .seq (
 .reg none [
 ⟨some 4, none, .mov (.c (.int .i64 8))⟩]) (
 .ret)) (
 .skip))) (
 .seq (
 .seq (
 .reg none [
 ⟨some 5, none, .mov (.c (.int .i64 0))⟩]) (
 .block 0 (
 .loop b82_0))) (
 .seq (
 .reg none [
 ⟨some 4, none, .mov (.c (.int .i64 0))⟩]) (
 .ret))))
def a82 : AFunc := ⟨37, c82, [.tmp 4]⟩
/-! 83 cassegrain/cassegrainref05.Fill params [3, 25, 25] nfree 0 ntmps 204 -/
def l83_0 : ACode :=
 .seq (
 .seq (
 .reg none [
 ⟨some 180, none, .mov (.t 22)⟩,
 ⟨some 181, none, .mov (.t 2)⟩,
 ⟨some 182, none, .len (.t 181)⟩,
 ⟨some 183, none, .bin .lss (.t 180) (.t 182)⟩]) (
 .cond (.t 183) (
 .skip) (
 .exit 16))) (
 .seq (
 .block 17 (
 .reg (some []) [
 ⟨some 186, none, .mov (.t 8)⟩,
 ⟨some 187, none, .mov (.t 2)⟩,
 ⟨some 188, none, .mov (.t 22)⟩,
 ⟨some 189, none, .iaddr 1 (.t 187) (.t 188)⟩,
 ⟨some 190, none, .load false 1 (.t 189)⟩,
 ⟨some 191, none, .mov (.t 11)⟩,
 ⟨some 192, none, .mov (.t 22)⟩,
 ⟨some 193, none, .iaddr 1 (.t 191) (.t 192)⟩,
 ⟨some 194, none, .load false 1 (.t 193)⟩,
 ⟨some 195, none, .mov (.t 2)⟩,
 ⟨some 196, none, .len (.t 195)⟩,
 ⟨some 197, none, .iaddr 1 (.t 194) (.t 196)⟩,
 ⟨some 198, none, .load false 1 (.t 197)⟩,
 ⟨some 199, none, .iaddr 1 (.t 186) (.t 190)⟩,
 ⟨none, none, .store 1 (.t 199) (.t 198)⟩])) (
 .reg none [
 ⟨some 184, none, .mov (.t 22)⟩,
 ⟨some 185, none, .bin .add (.t 184) (.c (.int .i64 1))⟩,
 ⟨some 22, none, .mov (.t 185)⟩]))
def b83_0 : ACode := .gh [.keep [0, 2, 8, 11, 22]] (.gh [] l83_0)
def l83_3 : ACode :=
 .seq (
 .seq (
 .reg none [
 ⟨some 151, none, .mov (.t 21)⟩,
 ⟨some 152, none, .mov (.t 2)⟩,
 ⟨some 153, none, .len (.t 152)⟩,
 ⟨some 154, none, .bin .leq (.t 151) (.t 153)⟩]) (
 .cond (.t 154) (
 .skip) (
 .exit 14))) (
 .seq (
 .block 15 (
 .reg (some []) [
 ⟨some 157, none, .mov (.t 11)⟩,
 ⟨some 158, none, .mov (.t 19)⟩,
 ⟨some 159, none, .iaddr 1 (.t 157) (.t 158)⟩,
 ⟨some 160, none, .load false 1 (.t 159)⟩,
 ⟨some 161, none, .mov (.t 21)⟩,
 ⟨some 162, none, .mov (.t 11)⟩,
 ⟨some 163, none, .mov (.t 19)⟩,
 ⟨some 164, none, .iaddr 1 (.t 162) (.t 163)⟩,
 ⟨some 165, none, .load false 1 (.t 164)⟩,
 ⟨some 166, none, .mov (.t 21)⟩,
 ⟨some 167, none, .iaddr 1 (.t 165) (.t 166)⟩,
 ⟨some 168, none, .load false 1 (.t 167)⟩,
 ⟨some 169, none, .mov (.t 20)⟩,
 ⟨some 170, none, .mov (.t 11)⟩,
 ⟨some 171, none, .mov (.t 15)⟩,
 ⟨some 172, none, .iaddr 1 (.t 170) (.t 171)⟩,
 ⟨some 173, none, .load false 1 (.t 172)⟩,
 ⟨some 174, none, .mov (.t 21)⟩,
 ⟨some 175, none, .iaddr 1 (.t 173) (.t 174)⟩,
 ⟨some 176, none, .load false 1 (.t 175)⟩,
 ⟨some 177, none, .ncall true 0 28 [(.t 169), (.t 176)]⟩,
 ⟨some 178, none, .bin .xor (.t 168) (.t 177)⟩,
 ⟨some 179, none, .iaddr 1 (.t 160) (.t 161)⟩,
 ⟨none, none, .store 1 (.t 179) (.t 178)⟩])) (
 .reg none [
 ⟨some 155, none, .mov (.t 21)⟩,
 ⟨some 156, none, .bin .add (.t 155) (.c (.int .i64 1))⟩,
 ⟨some 21, none, .mov (.t 156)⟩]))
def b83_3 : ACode := .gh [.keep [0, 2, 8, 11, 15, 19, 20, 21]] (.gh [] l83_3)
def l83_2 : ACode :=
 .seq (
 .seq (
 .reg none [
 ⟨some 135, none, .mov (.t 19)⟩,
 ⟨some 136, none, .mov (.t 11)⟩,
 ⟨some 137, none, .len (.t 136)⟩,
 ⟨some 138, none, .bin .lss (.t 135) (.t 137)⟩]) (
 .cond (.t 138) (
 .skip) (
 .exit 12))) (
 .seq (
 .block 13 (
 .seq (
 .reg none [
 ⟨some 141, none, .mov (.t 11)⟩,
 ⟨some 142, none, .mov (.t 19)⟩,
 ⟨some 143, none, .iaddr 1 (.t 141) (.t 142)⟩,
 ⟨some 144, none, .load false 1 (.t 143)⟩,
 ⟨some 145, none, .mov (.t 15)⟩,
 ⟨some 146, none, .iaddr 1 (.t 144) (.t 145)⟩,
 ⟨some 147, none, .load false 1 (.t 146)⟩,
 ⟨some 20, none, .mov (.t 147)⟩]) (
 .gh [.keep [0, 2, 8, 11, 15, 19, 20]] (
 .seq (
 .seq (
 .reg none [
 ⟨some 148, none, .mov (.t 19)⟩,
 ⟨some 149, none, .mov (.t 15)⟩,
 ⟨some 150, none, .bin .eql (.t 148) (.t 149)⟩]) (
 .cond (.t 150) (
 .exit 13) (
 .skip))) (
 .seq (
 .reg none [
 ⟨some 21, none, .mov (.c (.int .i64 0))⟩]) (
 .block 14 (
 .loop b83_3))))))) (
 .reg none [
 ⟨some 139, none, .mov (.t 19)⟩,
 ⟨some 140, none, .bin .add (.t 139) (.c (.int .i64 1))⟩,
 ⟨some 19, none, .mov (.t 140)⟩]))
def b83_2 : ACode := .gh [.keep [0, 2, 8, 11, 15, 19]] (.gh [] l83_2)
def l83_4 : ACode :=
 .seq (
 .seq (
 .reg none [
 ⟨some 114, none, .mov (.t 18)⟩,
 ⟨some 115, none, .mov (.t 2)⟩,
 ⟨some 116, none, .len (.t 115)⟩,
 ⟨some 117, none, .bin .leq (.t 114) (.t 116)⟩]) (
 .cond (.t 117) (
 .skip) (
 .exit 10))) (
 .seq (
 .block 11 (
 .reg (some []) [
 ⟨some 120, none, .mov (.t 11)⟩,
 ⟨some 121, none, .mov (.t 15)⟩,
 ⟨some 122, none, .iaddr 1 (.t 120) (.t 121)⟩,
 ⟨some 123, none, .load false 1 (.t 122)⟩,
 ⟨some 124, none, .mov (.t 18)⟩,
 ⟨some 125, none, .mov (.t 11)⟩,
 ⟨some 126, none, .mov (.t 15)⟩,
 ⟨some 127, none, .iaddr 1 (.t 125) (.t 126)⟩,
 ⟨some 128, none, .load false 1 (.t 127)⟩,
 ⟨some 129, none, .mov (.t 18)⟩,
 ⟨some 130, none, .iaddr 1 (.t 128) (.t 129)⟩,
 ⟨some 131, none, .load false 1 (.t 130)⟩,
 ⟨some 132, none, .mov (.t 17)⟩,
 ⟨some 133, none, .ncall true 0 28 [(.t 131), (.t 132)]⟩,
 ⟨some 134, none, .iaddr 1 (.t 123) (.t 124)⟩,
 ⟨none, none, .store 1 (.t 134) (.t 133)⟩])) (
 .reg none [
 ⟨some 118, none, .mov (.t 18)⟩,
 ⟨some 119, none, .bin .add (.t 118) (.c (.int .i64 1))⟩,
 ⟨some 18, none, .mov (.t 119)⟩]))
def b83_4 : ACode := .gh [.keep [0, 2, 8, 11, 15, 17, 18]] (.gh [] l83_4)
def l83_5 : ACode :=
 .seq (
 .seq (
 .reg none [
 ⟨some 82, none, .mov (.t 11)⟩,
 ⟨some 83, none, .mov (.t 16)⟩,
 ⟨some 84, none, .iaddr 1 (.t 82) (.t 83)⟩,
 ⟨some 85, none, .load false 1 (.t 84)⟩,
 ⟨some 86, none, .mov (.t 15)⟩,
 ⟨some 87, none, .iaddr 1 (.t 85) (.t 86)⟩,
 ⟨some 88, none, .load false 1 (.t 87)⟩,
 ⟨some 89, none, .bin .eql (.t 88) (.c (.int .i64 0))⟩]) (
 .gh [.keep [0, 2, 8, 11, 15, 16, 89]] (
 .cond (.t 89) (
 .skip) (
 .exit 8)))) (
 .block 9 (
 .reg none [
 ⟨some 90, none, .mov (.t 16)⟩,
 ⟨some 91, none, .bin .add (.t 90) (.c (.int .i64 1))⟩,
 ⟨some 16, none, .mov (.t 91)⟩]))
def b83_5 : ACode := .gh [.keep [0, 2, 8, 11, 15, 16]] (.gh [] l83_5)
def l83_1 : ACode :=
 .seq (
 .seq (
 .reg none [
 ⟨some 75, none, .mov (.t 15)⟩,
 ⟨some 76, none, .mov (.t 2)⟩,
 ⟨some 77, none, .len (.t 76)⟩,
 ⟨some 78, none, .bin .lss (.t 75) (.t 77)⟩]) (
 .cond (.t 78) (
 .skip) (
 .exit 6))) (
 .seq (
 .block 7 (
 .seq (
 .reg none [
 ⟨some 81, none, .mov (.t 15)⟩,
 ⟨some 16, none, .mov (.t 81)⟩]) (
 .seq (
 .block 8 (
 .loop b83_5)) (
 .seq (
 .reg (some [(2, 13), (3, 13)]) [
 ⟨some 92, none, .mov (.t 11)⟩,
 ⟨some 93, none, .mov (.t 15)⟩,
 ⟨some 94, none, .mov (.t 11)⟩,
 ⟨some 95, none, .mov (.t 16)⟩,
 ⟨some 96, none, .mov (.t 11)⟩,
 ⟨some 97, none, .mov (.t 16)⟩,
 ⟨some 98, none, .iaddr 1 (.t 96) (.t 97)⟩,
 ⟨some 99, none, .load false 1 (.t 98)⟩,
 ⟨some 100, none, .mov (.t 11)⟩,
 ⟨some 101, none, .mov (.t 15)⟩,
 ⟨some 102, none, .iaddr 1 (.t 100) (.t 101)⟩,
 ⟨some 103, none, .load false 1 (.t 102)⟩,
 ⟨some 104, none, .iaddr 1 (.t 92) (.t 93)⟩,
 ⟨none, none, .store 1 (.t 104) (.t 99)⟩,
 ⟨some 105, none, .iaddr 1 (.t 94) (.t 95)⟩,
 ⟨none, none, .store 1 (.t 105) (.t 103)⟩]) (
 .gh [.keep [0, 2, 8, 11, 15]] (
 .seq (
 .reg none [
 ⟨some 106, none, .mov (.t 11)⟩,
 ⟨some 107, none, .mov (.t 15)⟩,
 ⟨some 108, none, .iaddr 1 (.t 106) (.t 107)⟩,
 ⟨some 109, none, .load false 1 (.t 108)⟩,
 ⟨some 110, none, .mov (.t 15)⟩,
 ⟨some 111, none, .iaddr 1 (.t 109) (.t 110)⟩,
 ⟨some 112, none, .load false 1 (.t 111)⟩,
 ⟨some 113, none, .ncall true 0 142 [(.t 112)]⟩,
 ⟨some 17, none, .mov (.t 113)⟩]) (
 .gh [.keep [0, 2, 8, 11, 15, 17]] (
 .seq (
 .seq (
 .reg none [
 ⟨some 18, none, .mov (.c (.int .i64 0))⟩]) (
 .block 10 (
 .loop b83_4))) (
 .seq (
 .reg none [
 ⟨some 19, none, .mov (.c (.int .i64 0))⟩]) (
 .block 12 (
 .loop b83_2))))))))))) (
 .reg none [
 ⟨some 79, none, .mov (.t 15)⟩,
 ⟨some 80, none, .bin .add (.t 79) (.c (.int .i64 1))⟩,
 ⟨some 15, none, .mov (.t 80)⟩]))
def b83_1 : ACode := .gh [.keep [0, 2, 8, 11, 15]] (.gh [] l83_1)
def l83_7 : ACode :=
 .seq (
 .seq (
 .reg none [
 ⟨some 46, none, .mov (.t 14)⟩,
 ⟨some 47, none, .mov (.t 2)⟩,
 ⟨some 48, none, .len (.t 47)⟩,
 ⟨some 49, none, .bin .lss (.t 46) (.t 48)⟩]) (
 .cond (.t 49) (
 .skip) (
 .exit 4))) (
 .seq (
 .block 5 (
 .reg none [
 ⟨some 52, none, .mov (.t 13)⟩,
 ⟨some 53, none, .mov (.t 12)⟩,
 ⟨some 54, none, .mov (.t 2)⟩,
 ⟨some 55, none, .mov (.t 14)⟩,
 ⟨some 56, none, .iaddr 1 (.t 54) (.t 55)⟩,
 ⟨some 57, none, .load false 1 (.t 56)⟩,
 ⟨some 58, none, .bin .sub (.c (.int .i64 14)) (.t 57)⟩,
 ⟨some 59, none, .bin .mul (.t 53) (.t 58)⟩,
 ⟨some 60, none, .bin .rem (.t 59) (.c (.int .i64 15))⟩,
 ⟨some 61, none, .ncall true 0 110 [(.t 60)]⟩,
 ⟨some 62, none, .bslice 83063 3 1 [(.t 61)]⟩,
 ⟨some 63, none, .append 83064 3 1 (.t 52) (.t 62)⟩,
 ⟨some 13, none, .mov (.t 63)⟩])) (
 .reg none [
 ⟨some 50, none, .mov (.t 14)⟩,
 ⟨some 51, none, .bin .add (.t 50) (.c (.int .i64 1))⟩,
 ⟨some 14, none, .mov (.t 51)⟩]))
def b83_7 : ACode := .gh [.keep [0, 2, 8, 10, 11, 12, 13, 14]] (.gh [] l83_7)
def l83_6 : ACode :=
 .seq (
 .seq (
 .reg none [
 ⟨some 40, none, .mov (.t 12)⟩,
 ⟨some 41, none, .mov (.t 0)⟩,
 ⟨some 42, none, .bin .mul (.c (.int .i64 2)) (.t 41)⟩,
 ⟨some 43, none, .bin .leq (.t 40) (.t 42)⟩]) (
 .cond (.t 43) (
 .skip) (
 .exit 2))) (
 .seq (
 .block 3 (
 .seq (
 .reg none [
 ⟨some 13, none, .mov (.c .nils)⟩]) (
 .seq (
 .seq (
 .reg none [
 ⟨some 14, none, .mov (.c (.int .i64 0))⟩]) (
 .block 4 (
 .loop b83_7))) (
 .reg none [
 ⟨some 64, none, .mov (.t 11)⟩,
 ⟨some 65, none, .mov (.t 13)⟩,
 ⟨some 66, none, .mov (.t 10)⟩,
 ⟨some 67, none, .mov (.t 12)⟩,
 ⟨some 68, none, .bin .sub (.t 67) (.c (.int .i64 1))⟩,
 ⟨some 69, none, .iaddr 1 (.t 66) (.t 68)⟩,
 ⟨some 70, none, .load false 1 (.t 69)⟩,
 ⟨some 71, none, .bslice 83072 3 1 [(.t 70)]⟩,
 ⟨some 72, none, .append 83073 3 1 (.t 65) (.t 71)⟩,
 ⟨some 73, none, .bslice 83074 25 1 [(.t 72)]⟩,
 ⟨some 74, none, .append 83075 25 1 (.t 64) (.t 73)⟩,
 ⟨some 11, none, .mov (.t 74)⟩])))) (
 .reg none [
 ⟨some 44, none, .mov (.t 12)⟩,
 ⟨some 45, none, .bin .add (.t 44) (.c (.int .i64 1))⟩,
 ⟨some 12, none, .mov (.t 45)⟩]))
def b83_6 : ACode := .gh [.keep [0, 2, 8, 10, 11, 12]] (.gh [] l83_6)
def l83_8 : ACode :=
 .seq (
 .seq (
 .reg none [
 ⟨some 25, none, .mov (.t 9)⟩,
 ⟨some 26, none, .mov (.t 2)⟩,
 ⟨some 27, none, .len (.t 26)⟩,
 ⟨some 28, none, .bin .lss (.t 25) (.t 27)⟩]) (
 .cond (.t 28) (
 .skip) (
 .exit 0))) (
 .seq (
 .block 1 (
 .reg none [
 ⟨some 31, none, .mov (.t 8)⟩,
 ⟨some 32, none, .mov (.t 2)⟩,
 ⟨some 33, none, .mov (.t 9)⟩,
 ⟨some 34, none, .iaddr 1 (.t 32) (.t 33)⟩,
 ⟨some 35, none, .load false 1 (.t 34)⟩,
 ⟨some 36, none, .iaddr 1 (.t 31) (.t 35)⟩,
 ⟨none, none, .store 1 (.t 36) (.c (.int .i64 0))⟩])) (
 .reg none [
 ⟨some 29, none, .mov (.t 9)⟩,
 ⟨some 30, none, .bin .add (.t 29) (.c (.int .i64 1))⟩,
 ⟨some 9, none, .mov (.t 30)⟩]))
def b83_8 : ACode := .gh [.keep [0, 2, 8, 9]] (.gh [] l83_8)
def k83_0 : List AItem := .inLoop b83_0 :: [.inBlock 16,
 .code (.seq (
 .reg none [
 ⟨some 200, none, .mov (.t 8)⟩,
 ⟨some 201, none, .mov (.t 0)⟩,
 ⟨some 202, none, .mov (.t 8)⟩,
 ⟨some 203, none, .ncall true 0 143 [(.t 201), (.t 202)]⟩,
 ⟨some 6, none, .mov (.t 200)⟩,
 ⟨some 7, none, .mov (.t 203)⟩]) (
 .ret))]
def k83_3 : List AItem := .inLoop b83_3 :: [.inBlock 14,
 .inBlock 13,
 .code (.reg none [
 ⟨some 139, none, .mov (.t 19)⟩,
 ⟨some 140, none, .bin .add (.t 139) (.c (.int .i64 1))⟩,
 ⟨some 19, none, .mov (.t 140)⟩]),
 .inLoop b83_2,
 .inBlock 12,
 .inBlock 7,
 .code (.reg none [
 ⟨some 79, none, .mov (.t 15)⟩,
 ⟨some 80, none, .bin .add (.t 79) (.c (.int .i64 1))⟩,
 ⟨some 15, none, .mov (.t 80)⟩]),
 .inLoop b83_1,
 .inBlock 6,
 .code (.seq (
 .seq (
 .reg none [
 ⟨some 22, none, .mov (.c (.int .i64 0))⟩]) (
 .block 16 (
 .loop b83_0))) (
 .seq (
 .reg none [
 ⟨some 200, none, .mov (.t 8)⟩,
 ⟨some 201, none, .mov (.t 0)⟩,
 ⟨some 202, none, .mov (.t 8)⟩,
 ⟨some 203, none, .ncall true 0 143 [(.t 201), (.t 202)]⟩,
 ⟨some 6, none, .mov (.t 200)⟩,
 ⟨some 7, none, .mov (.t 203)⟩]) (
 .ret)))]
def k83_2 : List AItem := .inLoop b83_2 :: [.inBlock 12,
 .inBlock 7,
 .code (.reg none [
 ⟨some 79, none, .mov (.t 15)⟩,
 ⟨some 80, none, .bin .add (.t 79) (.c (.int .i64 1))⟩,
 ⟨some 15, none, .mov (.t 80)⟩]),
 .inLoop b83_1,
 .inBlock 6,
 .code (.seq (
 .seq (
 .reg none [
 ⟨some 22, none, .mov (.c (.int .i64 0))⟩]) (
 .block 16 (
 .loop b83_0))) (
 .seq (
 .reg none [
 ⟨some 200, none, .mov (.t 8)⟩,
 ⟨some 201, none, .mov (.t 0)⟩,
 ⟨some 202, none, .mov (.t 8)⟩,
 ⟨some 203, none, .ncall true 0 143 [(.t 201), (.t 202)]⟩,
 ⟨some 6, none, .mov (.t 200)⟩,
 ⟨some 7, none, .mov (.t 203)⟩]) (
 .ret)))]
def k83_4 : List AItem := .inLoop b83_4 :: [.inBlock 10,
 .code (.seq (
 .reg none [
 ⟨some 19, none, .mov (.c (.int .i64 0))⟩]) (
 .block 12 (
 .loop b83_2))),
 .inBlock 7,
 .code (.reg none [
 ⟨some 79, none, .mov (.t 15)⟩,
 ⟨some 80, none, .bin .add (.t 79) (.c (.int .i64 1))⟩,
 ⟨some 15, none, .mov (.t 80)⟩]),
 .inLoop b83_1,
 .inBlock 6,
 .code (.seq (
 .seq (
 .reg none [
 ⟨some 22, none, .mov (.c (.int .i64 0))⟩]) (
 .block 16 (
 .loop b83_0))) (
 .seq (
 .reg none [
 ⟨some 200, none, .mov (.t 8)⟩,
 ⟨some 201, none, .mov (.t 0)⟩,
 ⟨some 202, none, .mov (.t 8)⟩,
 ⟨some 203, none, .ncall true 0 143 [(.t 201), (.t 202)]⟩,
 ⟨some 6, none, .mov (.t 200)⟩,
 ⟨some 7, none, .mov (.t 203)⟩]) (
 .ret)))]
def k83_5 : List AItem := .inLoop b83_5 :: [.inBlock 8,
 .code (.seq (
 .reg (some [(2, 13), (3, 13)]) [
 ⟨some 92, none, .mov (.t 11)⟩,
 ⟨some 93, none, .mov (.t 15)⟩,
 ⟨some 94, none, .mov (.t 11)⟩,
 ⟨some 95, none, .mov (.t 16)⟩,
 ⟨some 96, none, .mov (.t 11)⟩,
 ⟨some 97, none, .mov (.t 16)⟩,
 ⟨some 98, none, .iaddr 1 (.t 96) (.t 97)⟩,
 ⟨some 99, none, .load false 1 (.t 98)⟩,
 ⟨some 100, none, .mov (.t 11)⟩,
 ⟨some 101, none, .mov (.t 15)⟩,
 ⟨some 102, none, .iaddr 1 (.t 100) (.t 101)⟩,
 ⟨some 103, none, .load false 1 (.t 102)⟩,
 ⟨some 104, none, .iaddr 1 (.t 92) (.t 93)⟩,
 ⟨none, none, .store 1 (.t 104) (.t 99)⟩,
 ⟨some 105, none, .iaddr 1 (.t 94) (.t 95)⟩,
 ⟨none, none, .store 1 (.t 105) (.t 103)⟩]) (
 .gh [.keep [0, 2, 8, 11, 15]] (
 .seq (
 .reg none [
 ⟨some 106, none, .mov (.t 11)⟩,
 ⟨some 107, none, .mov (.t 15)⟩,
 ⟨some 108, none, .iaddr 1 (.t 106) (.t 107)⟩,
 ⟨some 109, none, .load false 1 (.t 108)⟩,
 ⟨some 110, none, .mov (.t 15)⟩,
 ⟨some 111, none, .iaddr 1 (.t 109) (.t 110)⟩,
 ⟨some 112, none, .load false 1 (.t 111)⟩,
 ⟨some 113, none, .ncall true 0 142 [(.t 112)]⟩,
 ⟨some 17, none, .mov (.t 113)⟩]) (
 .gh [.keep [0, 2, 8, 11, 15, 17]] (
 .seq (
 .seq (
 .reg none [
 ⟨some 18, none, .mov (.c (.int .i64 0))⟩]) (
 .block 10 (
 .loop b83_4))) (
 .seq (
 .reg none [
 ⟨some 19, none, .mov (.c (.int .i64 0))⟩]) (
 .block 12 (
 .loop b83_2)))))))),
 .inBlock 7,
 .code (.reg none [
 ⟨some 79, none, .mov (.t 15)⟩,
 ⟨some 80, none, .bin .add (.t 79) (.c (.int .i64 1))⟩,
 ⟨some 15, none, .mov (.t 80)⟩]),
 .inLoop b83_1,
 .inBlock 6,
 .code (.seq (
 .seq (
 .reg none [
 ⟨some 22, none, .mov (.c (.int .i64 0))⟩]) (
 .block 16 (
 .loop b83_0))) (
 .seq (
 .reg none [
 ⟨some 200, none, .mov (.t 8)⟩,
 ⟨some 201, none, .mov (.t 0)⟩,
 ⟨some 202, none, .mov (.t 8)⟩,
 ⟨some 203, none, .ncall true 0 143 [(.t 201), (.t 202)]⟩,
 ⟨some 6, none, .mov (.t 200)⟩,
 ⟨some 7, none, .mov (.t 203)⟩]) (
 .ret)))]
def k83_1 : List AItem := .inLoop b83_1 :: [.inBlock 6,
 .code (.seq (
 .seq (
 .reg none [
 ⟨some 22, none, .mov (.c (.int .i64 0))⟩]) (
 .block 16 (
 .loop b83_0))) (
 .seq (
 .reg none [
 ⟨some 200, none, .mov (.t 8)⟩,
 ⟨some 201, none, .mov (.t 0)⟩,
 ⟨some 202, none, .mov (.t 8)⟩,
 ⟨some 203, none, .ncall true 0 143 [(.t 201), (.t 202)]⟩,
 ⟨some 6, none, .mov (.t 200)⟩,
 ⟨some 7, none, .mov (.t 203)⟩]) (
 .ret)))]
def k83_7 : List AItem := .inLoop b83_7 :: [.inBlock 4,
 .code (.reg none [
 ⟨some 64, none, .mov (.t 11)⟩,
 ⟨some 65, none, .mov (.t 13)⟩,
 ⟨some 66, none, .mov (.t 10)⟩,
 ⟨some 67, none, .mov (.t 12)⟩,
 ⟨some 68, none, .bin .sub (.t 67) (.c (.int .i64 1))⟩,
 ⟨some 69, none, .iaddr 1 (.t 66) (.t 68)⟩,
 ⟨some 70, none, .load false 1 (.t 69)⟩,
 ⟨some 71, none, .bslice 83072 3 1 [(.t 70)]⟩,
 ⟨some 72, none, .append 83073 3 1 (.t 65) (.t 71)⟩,
 ⟨some 73, none, .bslice 83074 25 1 [(.t 72)]⟩,
 ⟨some 74, none, .append 83075 25 1 (.t 64) (.t 73)⟩,
 ⟨some 11, none, .mov (.t 74)⟩]),
 .inBlock 3,
 .code (.reg none [
 ⟨some 44, none, .mov (.t 12)⟩,
 ⟨some 45, none, .bin .add (.t 44) (.c (.int .i64 1))⟩,
 ⟨some 12, none, .mov (.t 45)⟩]),
 .inLoop b83_6,
 .inBlock 2,
 .code (.seq (
 .seq (
 .reg none [
 ⟨some 15, none, .mov (.c (.int .i64 0))⟩]) (
 .block 6 (
 .loop b83_1))) (
 .seq (
 .seq (
 .reg none [
 ⟨some 22, none, .mov (.c (.int .i64 0))⟩]) (
 .block 16 (
 .loop b83_0))) (
 .seq (
 .reg none [
 ⟨some 200, none, .mov (.t 8)⟩,
 ⟨some 201, none, .mov (.t 0)⟩,
 ⟨some 202, none, .mov (.t 8)⟩,
 ⟨some 203, none, .ncall true 0 143 [(.t 201), (.t 202)]⟩,
 ⟨some 6, none, .mov (.t 200)⟩,
 ⟨some 7, none, .mov (.t 203)⟩]) (
 .ret))))]
def k83_6 : List AItem := .inLoop b83_6 :: [.inBlock 2,
 .code (.seq (
 .seq (
 .reg none [
 ⟨some 15, none, .mov (.c (.int .i64 0))⟩]) (
 .block 6 (
 .loop b83_1))) (
 .seq (
 .seq (
 .reg none [
 ⟨some 22, none, .mov (.c (.int .i64 0))⟩]) (
 .block 16 (
 .loop b83_0))) (
 .seq (
 .reg none [
 ⟨some 200, none, .mov (.t 8)⟩,
 ⟨some 201, none, .mov (.t 0)⟩,
 ⟨some 202, none, .mov (.t 8)⟩,
 ⟨some 203, none, .ncall true 0 143 [(.t 201), (.t 202)]⟩,
 ⟨some 6, none, .mov (.t 200)⟩,
 ⟨some 7, none, .mov (.t 203)⟩]) (
 .ret))))]
def k83_8 : List AItem := .inLoop b83_8 :: [.inBlock 0,
 .code (.seq (
 .reg none [
 ⟨some 37, none, .mov (.t 0)⟩,
 ⟨some 38, none, .mov (.t 8)⟩,
 ⟨some 39, none, .ncall true 83040 31 [(.t 37), (.t 38)]⟩,
 ⟨some 10, none, .mov (.t 39)⟩]) (
 .seq (
 .reg none [
 ⟨some 11, none, .mov (.c .nils)⟩]) (
 .seq (
 .seq (
 .reg none [
 ⟨some 12, none, .mov (.c (.int .i64 1))⟩]) (
 .block 2 (
 .loop b83_6))) (
 .seq (
 .seq (
 .reg none [
 ⟨some 15, none, .mov (.c (.int .i64 0))⟩]) (
 .block 6 (
 .loop b83_1))) (
 .seq (
 .seq (
 .reg none [
 ⟨some 22, none, .mov (.c (.int .i64 0))⟩]) (
 .block 16 (
 .loop b83_0))) (
 .seq (
 .reg none [
 ⟨some 200, none, .mov (.t 8)⟩,
 ⟨some 201, none, .mov (.t 0)⟩,
 ⟨some 202, none, .mov (.t 8)⟩,
 ⟨some 203, none, .ncall true 0 143 [(.t 201), (.t 202)]⟩,
 ⟨some 6, none, .mov (.t 200)⟩,
 ⟨some 7, none, .mov (.t 203)⟩]) (
 .ret)))))))]
def c83 : ACode :=
 .seq (
 .reg none [
 ⟨some 6, none, .mov (.c .nils)⟩,
 ⟨some 7, none, .mov (.c (.bool false))⟩]) (
 .seq (
 .reg none [
 ⟨some 23, none, .mov (.t 1)⟩,
 ⟨some 24, none, .ncall true 83025 20 [(.t 23)]⟩,
 ⟨some 8, none, .mov (.t 24)⟩]) (
 .seq (
 .seq (
 .reg none [
 ⟨some 9, none, .mov (.c (.int .i64 0))⟩]) (
 .block 0 (
 .loop b83_8))) (
 .seq (
 .reg none [
 ⟨some 37, none, .mov (.t 0)⟩,
 ⟨some 38, none, .mov (.t 8)⟩,
 ⟨some 39, none, .ncall true 83040 31 [(.t 37), (.t 38)]⟩,
 ⟨some 10, none, .mov (.t 39)⟩]) (
 .seq (
 .reg none [
 ⟨some 11, none, .mov (.c .nils)⟩]) (
 .seq (
 .seq (
 .reg none [
 ⟨some 12, none, .mov (.c (.int .i64 1))⟩]) (
 .block 2 (
 .loop b83_6))) (
 .seq (
 .seq (
 .reg none [
 ⟨some 15, none, .mov (.c (.int .i64 0))⟩]) (
 .block 6 (
 .loop b83_1))) (
 .seq (
 .seq (
 .reg none [
 ⟨some 22, none, .mov (.c (.int .i64 0))⟩]) (
 .block 16 (
 .loop b83_0))) (
 .seq (
 .reg none [
 ⟨some 200, none, .mov (.t 8)⟩,
 ⟨some 201, none, .mov (.t 0)⟩,
 ⟨some 202, none, .mov (.t 8)⟩,
 ⟨some 203, none, .ncall true 0 143 [(.t 201), (.t 202)]⟩,
 ⟨some 6, none, .mov (.t 200)⟩,
 ⟨some 7, none, .mov (.t 203)⟩]) (
 .ret)))))))))
def a83 : AFunc := ⟨204, c83, [.tmp 6, .tmp 7]⟩
/-! 84 cassegrain/code.EncodeLink params [108, 25] nfree 0 ntmps 70 -/
def l84_1 : ACode :=
 .seq (
 .seq (
 .reg none [
 ⟨some 54, none, .mov (.t 15)⟩,
 ⟨some 55, none, .bin .geq (.t 54) (.c (.int .i64 0))⟩]) (
 .cond (.t 55) (
 .skip) (
 .exit 4))) (
 .seq (
 .block 5 (
 .reg none [
 ⟨some 58, none, .mov (.t 10)⟩,
 ⟨some 59, none, .mov (.t 14)⟩,
 ⟨some 60, none, .mov (.t 15)⟩,
 ⟨some 61, none, .bin .shr (.t 59) (.t 60)⟩,
 ⟨some 62, none, .bin .and (.t 61) (.c (.int .i64 1))⟩,
 ⟨some 63, none, .bslice 84064 3 1 [(.t 62)]⟩,
 ⟨some 64, none, .append 84065 3 1 (.t 58) (.t 63)⟩,
 ⟨some 10, none, .mov (.t 64)⟩])) (
 .reg none [
 ⟨some 56, none, .mov (.t 15)⟩,
 ⟨some 57, none, .bin .sub (.t 56) (.c (.int .i64 1))⟩,
 ⟨some 15, none, .mov (.t 57)⟩]))
def b84_1 : ACode := .gh [.keep [2, 10, 14, 15, 48, 49, 50]] (.gh [] l84_1)
def l84_0 : ACode :=
 .seq (
 .reg none [
 ⟨some 51, none, .bin .lss (.t 50) (.t 49)⟩]) (
 .seq (
 .cond (.t 51) (
 .skip) (
 .exit 2)) (
 .seq (
 .block 3 (
 .seq (
 .reg none [
 ⟨some 52, none, .iaddr 1 (.t 48) (.t 50)⟩,
 ⟨some 53, none, .load false 1 (.t 52)⟩,
 ⟨some 14, none, .mov (.t 53)⟩]) (
 .seq (
 .reg none [
 ⟨some 15, none, .mov (.c (.int .i64 3))⟩]) (
 .block 4 (
 .loop b84_1))))) (
 .reg none [
 ⟨some 65, none, .bin .add (.t 50) (.c (.int .i64 1))⟩,
 ⟨some 50, none, .mov (.t 65)⟩])))
def b84_0 : ACode := .gh [.keep [2, 10, 48, 49, 50]] (.gh [] l84_0)
def k84_1 : List AItem := .inLoop b84_1 :: [.inBlock 4,
 .inBlock 3,
 .code (.reg none [
 ⟨some 65, none, .bin .add (.t 50) (.c (.int .i64 1))⟩,
 ⟨some 50, none, .mov (.t 65)⟩]),
 .inLoop b84_0,
 .inBlock 2,
 .code (.seq (
 .reg none [
 ⟨some 66, none, .faddr 0 (.t 2)⟩,
 ⟨some 67, none, .load true 3 (.t 66)⟩,
 ⟨some 68, none, .mov (.t 10)⟩,
 ⟨some 69, none, .ncall true 84070 119 [(.t 67), (.t 68)]⟩,
 ⟨some 4, none, .mov (.t 69)⟩,
 ⟨some 5, none, .mov (.c (.int .i64 0))⟩]) (
 .ret))]
def k84_0 : List AItem := .inLoop b84_0 :: [.inBlock 2,
 .code (.seq (
 .reg none [
 ⟨some 66, none, .faddr 0 (.t 2)⟩,
 ⟨some 67, none, .load true 3 (.t 66)⟩,
 ⟨some 68, none, .mov (.t 10)⟩,
 ⟨some 69, none, .ncall true 84070 119 [(.t 67), (.t 68)]⟩,
 ⟨some 4, none, .mov (.t 69)⟩,
 ⟨some 5, none, .mov (.c (.int .i64 0))⟩]) (
 .ret))]
def c84 : ACode :=
 .seq (
 .reg none [
 ⟨some 2, none, .box 84003 108 (.t 0)⟩,
 ⟨some 4, none, .mov (.c .nils)⟩,
 ⟨some 5, none, .mov (.c (.int .i64 0))⟩]) (
 .seq (
 .seq (
 .reg none [
 ⟨some 16, none, .load true 5 (.t 2)⟩,
 ⟨some 17, none, .ncall true 0 87 [(.t 16)]⟩,
 ⟨some 6, none, .mov (.t 17)⟩]) (
 .seq (
 .reg none [
 ⟨some 18, none, .mov (.t 6)⟩,
 ⟨some 19, none, .bin .neq (.t 18) (.c (.int .i64 0))⟩]) (
 .cond (.t 19) (
 .seq (
 .reg none [
 ⟨some 20, none, .mov (.t 6)⟩,
 ⟨some 4, none, .mov (.c .nils)⟩,
 ⟨some 5, none, .mov (.t 20)⟩]) (
 .ret)) (
 .skip)))) (
 .seq (
 .reg none [
 ⟨some 21, none, .faddr 3 (.t 2)⟩,
 ⟨some 22, none, .load false 1 (.t 21)⟩,
 ⟨some 23, none, .bin .mul (.c (.int .i64 2)) (.t 22)⟩,
 ⟨some 24, none, .bin .sub (.c (.int .i64 15)) (.t 23)⟩,
 ⟨some 7, none, .mov (.t 24)⟩]) (
 .seq (
 .seq (
 .reg none [
 ⟨some 25, none, .mov (.t 1)⟩,
 ⟨some 26, none, .faddr 4 (.t 2)⟩,
 ⟨some 27, none, .load false 1 (.t 26)⟩,
 ⟨some 28, none, .mov (.t 7)⟩,
 ⟨some 29, none, .bin .mul (.t 27) (.t 28)⟩,
 ⟨some 30, none, .ncall true 0 107 [(.t 25), (.t 29)]⟩,
 ⟨some 8, none, .mov (.t 30)⟩]) (
 .gh [.keep [1, 2, 7, 8]] (
 .seq (
 .reg none [
 ⟨some 31, none, .mov (.t 8)⟩,
 ⟨some 32, none, .bin .neq (.t 31) (.c (.int .i64 0))⟩]) (
 .cond (.t 32) (
 .seq (
 .reg none [
 ⟨some 33, none, .mov (.t 8)⟩,
 ⟨some 4, none, .mov (.c .nils)⟩,
 ⟨some 5, none, .mov (.t 33)⟩]) (
 .ret)) (
 .skip))))) (
 .seq (
 .reg none [
 ⟨some 9, none, .alloc 84010 25 .nils⟩,
 ⟨some 10, none, .mov (.c .nils)⟩]) (
 .seq (
 .seq (
 .reg none [
 ⟨some 34, none, .mov (.t 1)⟩,
 ⟨some 35, none, .mov (.t 7)⟩,
 ⟨some 36, none, .ncall true 0 144 [(.t 34), (.t 35)]⟩]) (
 .block 0 (
 .rf 84901 (.t 36) [37] (
 .reg none [
 ⟨some 11, none, .mov (.t 37)⟩]) (
 .block 1 (
 .seq (
 .reg none [
 ⟨some 38, none, .faddr 3 (.t 2)⟩,
 ⟨some 39, none, .load false 1 (.t 38)⟩,
 ⟨some 40, none, .mov (.t 11)⟩,
 ⟨some 41, none, .ncall true 0 109 [(.t 39), (.t 40)]⟩,
 ⟨some 12, none, .alloc 84013 133 (.agg (.ints .i64 [0, 0, 0, 0, 0, 0, 0, 0, 0, 0, 0, 0, 0, 0, 0]))⟩,
 ⟨none, none, .store 15 (.t 12) (.t 41)⟩]) (
 .reg (some []) [
 ⟨some 42, none, .load false 1 (.t 9)⟩,
 ⟨some 43, none, .asl 15 (.t 12) none none⟩,
 ⟨some 44, none, .append 84045 3 1 (.t 42) (.t 43)⟩,
 ⟨none, none, .store 1 (.t 9) (.t 44)⟩])))))) (
 .seq (
 .seq (
 .reg none [
 ⟨some 45, none, .load false 1 (.t 9)⟩,
 ⟨some 46, none, .faddr 4 (.t 2)⟩,
 ⟨some 47, none, .load false 1 (.t 46)⟩,
 ⟨some 48, none, .ncall true 84049 124 [(.t 45), (.t 47)]⟩,
 ⟨some 49, none, .len (.t 48)⟩,
 ⟨some 50, none, .mov (.c (.int .i64 0))⟩]) (
 .block 2 (
 .loop b84_0))) (
 .seq (
 .reg none [
 ⟨some 66, none, .faddr 0 (.t 2)⟩,
 ⟨some 67, none, .load true 3 (.t 66)⟩,
 ⟨some 68, none, .mov (.t 10)⟩,
 ⟨some 69, none, .ncall true 84070 119 [(.t 67), (.t 68)]⟩,
 ⟨some 4, none, .mov (.t 69)⟩,
 ⟨some 5, none, .mov (.c (.int .i64 0))⟩]) (
 .ret))))))))
def a84 : AFunc := ⟨70, c84, [.tmp 4, .tmp 5]⟩
/-! 85 cassegrain/code.DecodeLink params [108, 25] nfree 0 ntmps 108 -/
def l85_0 : ACode :=
 .seq (
 .reg none [
 ⟨some 63, none, .bin .lss (.t 62) (.t 61)⟩]) (
 .seq (
 .cond (.t 63) (
 .skip) (
 .exit 2)) (
 .seq (
 .block 3 (
 .seq (
 .reg none [
 ⟨some 64, none, .iaddr 1 (.t 60) (.t 62)⟩,
 ⟨some 65, none, .load false 1 (.t 64)⟩,
 ⟨some 16, none, .mov (.t 65)⟩]) (
 .reg none [
 ⟨some 66, none, .mov (.t 14)⟩,
 ⟨some 67, none, .bin .shl (.t 66) (.c (.int .u64 1))⟩,
 ⟨some 68, none, .mov (.t 16)⟩,
 ⟨some 69, none, .bin .or (.t 67) (.t 68)⟩,
 ⟨some 14, none, .mov (.t 69)⟩]))) (
 .reg none [
 ⟨some 70, none, .bin .add (.t 62) (.c (.int .i64 1))⟩,
 ⟨some 62, none, .mov (.t 70)⟩])))
def b85_0 : ACode := .gh [.keep [12, 14, 60, 61, 62]] (.gh [] l85_0)
def k85_0 : List AItem := .inLoop b85_0 :: [.inBlock 2,
 .code (.reg none [
 ⟨some 71, none, .load false 1 (.t 12)⟩,
 ⟨some 72, none, .mov (.t 14)⟩,
 ⟨some 73, none, .bslice 85074 3 1 [(.t 72)]⟩,
 ⟨some 74, none, .append 85075 3 1 (.t 71) (.t 73)⟩,
 ⟨none, none, .store 1 (.t 12) (.t 74)⟩]),
 .inBlock 1]
def c85 : ACode :=
 .seq (
 .reg none [
 ⟨some 2, none, .box 85003 108 (.t 0)⟩,
 ⟨some 4, none, .alloc 85005 25 .nils⟩,
 ⟨some 5, none, .alloc 85006 3 (.int .i64 0)⟩,
 ⟨some 6, none, .alloc 85007 27 (.int .i64 0)⟩]) (
 .seq (
 .seq (
 .reg none [
 ⟨some 23, none, .load true 5 (.t 2)⟩,
 ⟨some 24, none, .ncall true 0 87 [(.t 23)]⟩,
 ⟨some 7, none, .mov (.t 24)⟩]) (
 .seq (
 .reg none [
 ⟨some 25, none, .mov (.t 7)⟩,
 ⟨some 26, none, .bin .neq (.t 25) (.c (.int .i64 0))⟩]) (
 .cond (.t 26) (
 .seq (
 .reg none [
 ⟨some 27, none, .mov (.t 7)⟩,
 ⟨none, none, .store 1 (.t 4) (.c .nils)⟩,
 ⟨none, none, .store 1 (.t 5) (.c (.int .i64 0))⟩,
 ⟨none, none, .store 1 (.t 6) (.t 27)⟩]) (
 .ret)) (
 .skip)))) (
 .seq (
 .reg none [
 ⟨some 28, none, .faddr 4 (.t 2)⟩,
 ⟨some 29, none, .load false 1 (.t 28)⟩,
 ⟨some 30, none, .bin .mul (.t 29) (.c (.int .i64 15))⟩,
 ⟨some 31, none, .bin .mul (.t 30) (.c (.int .i64 4))⟩,
 ⟨some 32, none, .faddr 0 (.t 2)⟩,
 ⟨some 33, none, .faddr 0 (.t 32)⟩,
 ⟨some 34, none, .load false 1 (.t 33)⟩,
 ⟨some 35, none, .bin .add (.t 31) (.t 34)⟩,
 ⟨some 36, none, .bin .mul (.c (.int .i64 2)) (.t 35)⟩,
 ⟨some 8, none, .mov (.t 36)⟩]) (
 .gh [.keep [1, 2, 4, 5, 6, 8]] (
 .seq (
 .seq (
 .reg none [
 ⟨some 37, none, .mov (.t 1)⟩,
 ⟨some 38, none, .len (.t 37)⟩,
 ⟨some 39, none, .mov (.t 8)⟩,
 ⟨some 40, none, .bin .eql (.t 38) (.t 39)⟩,
 ⟨some 41, none, .ncall true 0 111 [(.t 40), (.c (.int .i64 10))]⟩,
 ⟨some 42, none, .mov (.t 1)⟩,
 ⟨some 43, none, .ncall true 0 103 [(.t 42), (.c (.int .i64 (-7))), (.c (.int .i64 7))]⟩,
 ⟨some 44, none, .bslice 85045 27 1 [(.t 41), (.t 43)]⟩,
 ⟨some 45, none, .ncall true 0 105 [(.t 44)]⟩,
 ⟨some 9, none, .mov (.t 45)⟩]) (
 .gh [.keep [1, 2, 4, 5, 6, 9]] (
 .seq (
 .reg none [
 ⟨some 46, none, .mov (.t 9)⟩,
 ⟨some 47, none, .bin .neq (.t 46) (.c (.int .i64 0))⟩]) (
 .cond (.t 47) (
 .seq (
 .reg none [
 ⟨some 48, none, .mov (.t 9)⟩,
 ⟨none, none, .store 1 (.t 4) (.c .nils)⟩,
 ⟨none, none, .store 1 (.t 5) (.c (.int .i64 0))⟩,
 ⟨none, none, .store 1 (.t 6) (.t 48)⟩]) (
 .ret)) (
 .skip))))) (
 .seq (
 .reg none [
 ⟨some 50, none, .faddr 0 (.t 2)⟩,
 ⟨some 51, none, .load true 3 (.t 50)⟩,
 ⟨some 52, none, .mov (.t 1)⟩,
 ⟨some 53, none, .build (.gen [(.int .i64 0), (.int .i64 0), (.int .i64 0), .nils]) [(0, 3, (.t 51)), (3, 1, (.t 52))]⟩,
 ⟨some 54, none, .ncall true 85055 99 [(.t 53)]⟩,
 ⟨some 49, none, .mov (.t 54)⟩,
 ⟨some 55, none, .ext 0 (.t 49)⟩,
 ⟨some 56, none, .ext 1 (.t 49)⟩,
 ⟨some 10, none, .mov (.t 55)⟩,
 ⟨some 11, none, .mov (.t 56)⟩]) (
 .gh [.keep [2, 4, 5, 6, 10]] (
 .seq (
 .reg none [
 ⟨some 12, none, .alloc 85013 25 .nils⟩]) (
 .seq (
 .seq (
 .reg none [
 ⟨some 57, none, .mov (.t 10)⟩,
 ⟨some 58, none, .ncall true 0 144 [(.t 57), (.c (.int .i64 4))]⟩]) (
 .block 0 (
 .rf 85902 (.t 58) [59] (
 .reg none [
 ⟨some 13, none, .mov (.t 59)⟩]) (
 .block 1 (
 .seq (
 .reg none [
 ⟨some 14, none, .mov (.c (.int .i64 0))⟩]) (
 .seq (
 .seq (
 .reg none [
 ⟨some 60, none, .mov (.t 13)⟩,
 ⟨some 61, none, .len (.t 60)⟩,
 ⟨some 62, none, .mov (.c (.int .i64 0))⟩]) (
 .block 2 (
 .loop b85_0))) (
 .reg none [
 ⟨some 71, none, .load false 1 (.t 12)⟩,
 ⟨some 72, none, .mov (.t 14)⟩,
 ⟨some 73, none, .bslice 85074 3 1 [(.t 72)]⟩,
 ⟨some 74, none, .append 85075 3 1 (.t 71) (.t 73)⟩,
 ⟨none, none, .store 1 (.t 12) (.t 74)⟩]))))))) (
 .seq (
 .reg none [
 ⟨some 17, none, .alloc 85018 25 .nils⟩]) (
 .seq (
 .reg none [
 ⟨some 18, none, .alloc 85019 3 (.int .i64 0)⟩,
 ⟨none, none, .store 1 (.t 18) (.c (.int .i64 0))⟩]) (
 .seq (
 .seq (
 .reg (some []) [
 ⟨some 75, none, .load false 1 (.t 12)⟩,
 ⟨some 76, none, .load false 1 (.t 12)⟩,
 ⟨some 77, none, .len (.t 76)⟩,
 ⟨some 78, none, .faddr 4 (.t 2)⟩,
 ⟨some 79, none, .load false 1 (.t 78)⟩,
 ⟨some 80, none, .bin .quo (.t 77) (.t 79)⟩,
 ⟨some 81, none, .ncall true 85082 124 [(.t 75), (.t 80)]⟩,
 ⟨some 82, none, .ncall true 0 144 [(.t 81), (.c (.int .i64 15))]⟩]) (
 .gh [.keep [2, 4, 5, 6, 17, 18, 82]] (
 .block 4 (
 .rf 85901 (.t 82) [83] (
 .reg none [
 ⟨some 19, none, .mov (.t 83)⟩]) (
 .block 5 (
 .seq (
 .reg (some [(0, 10), (1, 10), (2, 10), (3, 10), (4, 10), (5, 10), (6, 10), (7, 10), (8, 10), (8, 11), (9, 10), (9, 11)]) [
 ⟨some 85, none, .mov (.t 19)⟩,
 ⟨some 86, none, .s2a 15 (.t 85)⟩,
 ⟨some 87, none, .load true 15 (.t 86)⟩,
 ⟨some 88, none, .faddr 3 (.t 2)⟩,
 ⟨some 89, none, .load false 1 (.t 88)⟩,
 ⟨some 90, none, .ncall true 0 139 [(.t 87), (.t 89)]⟩,
 ⟨some 84, none, .mov (.t 90)⟩,
 ⟨some 91, none, .ext 0 (.t 84)⟩,
 ⟨some 92, none, .ext 1 (.t 84)⟩,
 ⟨some 93, none, .ext 2 (.t 84)⟩,
 ⟨some 20, none, .alloc 85021 133 (.agg (.ints .i64 [0, 0, 0, 0, 0, 0, 0, 0, 0, 0, 0, 0, 0, 0, 0]))⟩,
 ⟨none, none, .store 15 (.t 20) (.t 91)⟩,
 ⟨some 21, none, .mov (.t 92)⟩,
 ⟨some 22, none, .mov (.t 93)⟩]) (
 .gh [.keep [2, 4, 5, 6, 17, 18, 20, 21, 22]] (
 .seq (
 .seq (
 .reg none [
 ⟨some 94, none, .mov (.t 22)⟩,
 ⟨some 95, none, .not (.t 94)⟩]) (
 .cond (.t 95) (
 .seq (
 .reg none [
 ⟨none, none, .store 1 (.t 4) (.c .nils)⟩,
 ⟨none, none, .store 1 (.t 5) (.c (.int .i64 0))⟩,
 ⟨none, none, .store 1 (.t 6) (.c (.int .i64 27))⟩]) (
 .ret)) (
 .skip))) (
 .seq (
 .reg (some []) [
 ⟨some 96, none, .load false 1 (.t 17)⟩,
 ⟨some 97, none, .faddr 3 (.t 2)⟩,
 ⟨some 98, none, .load false 1 (.t 97)⟩,
 ⟨some 99, none, .bin .mul (.c (.int .i64 2)) (.t 98)⟩,
 ⟨some 100, none, .bin .sub (.c (.int .i64 15)) (.t 99)⟩,
 ⟨some 101, none, .asl 15 (.t 20) none (some (.t 100))⟩,
 ⟨some 102, none, .append 85103 3 1 (.t 96) (.t 101)⟩,
 ⟨none, none, .store 1 (.t 17) (.t 102)⟩]) (
 .gh [.keep [18, 21]] (
 .reg none [
 ⟨some 103, none, .load false 1 (.t 18)⟩,
 ⟨some 104, none, .mov (.t 21)⟩,
 ⟨some 105, none, .bin .add (.t 103) (.t 104)⟩,
 ⟨none, none, .store 1 (.t 18) (.t 105)⟩]))))))))))) (
 .seq (
 .reg (some [(1, 2)]) [
 ⟨some 106, none, .load false 1 (.t 17)⟩,
 ⟨some 107, none, .load false 1 (.t 18)⟩,
 ⟨none, none, .store 1 (.t 4) (.t 106)⟩,
 ⟨none, none, .store 1 (.t 5) (.t 107)⟩,
 ⟨none, none, .store 1 (.t 6) (.c (.int .i64 0))⟩]) (
 .ret)))))))))))))
def a85 : AFunc := ⟨108, c85, [.cell 4 false 1, .cell 5 false 1, .cell 6 false 1]⟩
/-! 86 cassegrain/cassegrainref05.LinkErr params [108] nfree 0 ntmps 21 -/
def c86 : ACode :=
 .seq (
 .reg none [
 ⟨some 1, none, .box 86002 108 (.t 0)⟩,
 ⟨some 2, none, .mov (.c (.int .i64 0))⟩]) (
 .seq (
 .seq (
 .reg none [
 ⟨some 5, none, .faddr 0 (.t 1)⟩,
 ⟨some 6, none, .load true 3 (.t 5)⟩,
 ⟨some 7, none, .ncall true 0 43 [(.t 6)]⟩,
 ⟨some 3, none, .mov (.t 7)⟩]) (
 .seq (
 .reg none [
 ⟨some 8, none, .mov (.t 3)⟩,
 ⟨some 9, none, .bin .neq (.t 8) (.c (.int .i64 0))⟩]) (
 .cond (.t 9) (
 .seq (
 .reg none [
 ⟨some 10, none, .mov (.t 3)⟩,
 ⟨some 2, none, .mov (.t 10)⟩]) (
 .ret)) (
 .skip)))) (
 .seq (
 .seq (
 .reg none [
 ⟨some 11, none, .faddr 3 (.t 1)⟩,
 ⟨some 12, none, .load false 1 (.t 11)⟩,
 ⟨some 13, none, .ncall true 0 29 [(.t 12)]⟩,
 ⟨some 4, none, .mov (.t 13)⟩]) (
 .seq (
 .reg none [
 ⟨some 14, none, .mov (.t 4)⟩,
 ⟨some 15, none, .bin .neq (.t 14) (.c (.int .i64 0))⟩]) (
 .cond (.t 15) (
 .seq (
 .reg none [
 ⟨some 16, none, .mov (.t 4)⟩,
 ⟨some 2, none, .mov (.t 16)⟩]) (
 .ret)) (
 .skip)))) (
 .seq (
 .seq (
 .reg none [
 ⟨some 17, none, .faddr 4 (.t 1)⟩,
 ⟨some 18, none, .load false 1 (.t 17)⟩,
 ⟨some 19, none, .ncall true 0 45 [(.t 18), (.c (.int .i64 1)), (.c (.int .i64 4))]⟩,
 ⟨some 20, none, .not (.t 19)⟩]) (
 .cond (.t 20) (
 .seq (
 .reg none [
 ⟨some 2, none, .mov (.c (.int .i64 2))⟩]) (
 .ret)) (
 .skip))) (
 .seq (
 .reg none [
 ⟨some 2, none, .mov (.c (.int .i64 0))⟩]) (
 .ret)))))
def a86 : AFunc := ⟨21, c86, [.tmp 2]⟩
/-! 87 cassegrain/code.CheckLink params [108] nfree 0 ntmps 15 -/
def c87 : ACode :=
 .seq (
 .reg none [
 ⟨some 1, none, .box 87002 108 (.t 0)⟩,
 ⟨some 2, none, .mov (.c (.int .i64 0))⟩]) (
 .seq (
 .reg (some []) [
 ⟨some 3, none, .faddr 0 (.t 1)⟩,
 ⟨some 4, none, .load true 3 (.t 3)⟩,
 ⟨some 5, none, .ncall true 0 57 [(.t 4)]⟩,
 ⟨some 6, none, .faddr 3 (.t 1)⟩,
 ⟨some 7, none, .load false 1 (.t 6)⟩,
 ⟨some 8, none, .ncall true 0 106 [(.t 7)]⟩,
 ⟨some 9, none, .faddr 4 (.t 1)⟩,
 ⟨some 10, none, .load false 1 (.t 9)⟩,
 ⟨some 11, none, .ncall true 0 112 [(.t 10), (.c (.int .i64 1)), (.c (.int .i64 4))]⟩,
 ⟨some 12, none, .ncall true 0 111 [(.t 11), (.c (.int .i64 2))]⟩,
 ⟨some 13, none, .bslice 87014 27 1 [(.t 5), (.t 8), (.t 12)]⟩,
 ⟨some 14, none, .ncall true 0 105 [(.t 13)]⟩,
 ⟨some 2, none, .mov (.t 14)⟩]) (
 .gh [.keep [2]] (
 .ret)))
def a87 : AFunc := ⟨15, c87, [.tmp 2]⟩
/-! 88 cassegrain/cassegrainref05.Data params [108] nfree 0 ntmps 10 -/
def c88 : ACode :=
 .seq (
 .reg none [
 ⟨some 1, none, .box 88002 108 (.t 0)⟩,
 ⟨some 2, none, .mov (.c (.int .i64 0))⟩]) (
 .seq (
 .reg none [
 ⟨some 3, none, .faddr 4 (.t 1)⟩,
 ⟨some 4, none, .load false 1 (.t 3)⟩,
 ⟨some 5, none, .faddr 3 (.t 1)⟩,
 ⟨some 6, none, .load false 1 (.t 5)⟩,
 ⟨some 7, none, .bin .mul (.c (.int .i64 2)) (.t 6)⟩,
 ⟨some 8, none, .bin .sub (.c (.int .i64 15)) (.t 7)⟩,
 ⟨some 9, none, .bin .mul (.t 4) (.t 8)⟩,
 ⟨some 2, none, .mov (.t 9)⟩]) (
 .gh [.keep [2]] (
 .ret)))
def a88 : AFunc := ⟨10, c88, [.tmp 2]⟩
/-! 89 cassegrain/cassegrainref05.EncodeLink params [108, 25] nfree 0 ntmps 56 -/
def l89_0 : ACode :=
 .seq (
 .seq (
 .reg none [
 ⟨some 39, none, .mov (.t 10)⟩,
 ⟨some 40, none, .mov (.t 9)⟩,
 ⟨some 41, none, .len (.t 40)⟩,
 ⟨some 42, none, .bin .lss (.t 39) (.t 41)⟩]) (
 .cond (.t 42) (
 .skip) (
 .exit 2))) (
 .seq (
 .block 3 (
 .reg none [
 ⟨some 45, none, .mov (.t 7)⟩,
 ⟨some 46, none, .mov (.t 9)⟩,
 ⟨some 47, none, .mov (.t 10)⟩,
 ⟨some 48, none, .iaddr 1 (.t 46) (.t 47)⟩,
 ⟨some 49, none, .load false 1 (.t 48)⟩,
 ⟨some 50, none, .ncall true 89051 134 [(.t 49), (.c (.int .i64 4))]⟩,
 ⟨some 51, none, .append 89052 3 1 (.t 45) (.t 50)⟩,
 ⟨some 7, none, .mov (.t 51)⟩])) (
 .reg none [
 ⟨some 43, none, .mov (.t 10)⟩,
 ⟨some 44, none, .bin .add (.t 43) (.c (.int .i64 1))⟩,
 ⟨some 10, none, .mov (.t 44)⟩]))
def b89_0 : ACode := .gh [.keep [2, 7, 9, 10]] (.gh [] l89_0)
def l89_1 : ACode :=
 .seq (
 .seq (
 .reg none [
 ⟨some 15, none, .mov (.t 8)⟩,
 ⟨some 16, none, .faddr 4 (.t 2)⟩,
 ⟨some 17, none, .load false 1 (.t 16)⟩,
 ⟨some 18, none, .bin .lss (.t 15) (.t 17)⟩]) (
 .cond (.t 18) (
 .skip) (
 .exit 0))) (
 .seq (
 .block 1 (
 .reg (some [(0, 12)]) [
 ⟨some 21, none, .mov (.t 6)⟩,
 ⟨some 22, none, .faddr 3 (.t 2)⟩,
 ⟨some 23, none, .load false 1 (.t 22)⟩,
 ⟨some 24, none, .mov (.t 1)⟩,
 ⟨some 25, none, .mov (.t 8)⟩,
 ⟨some 26, none, .mov (.t 5)⟩,
 ⟨some 27, none, .bin .mul (.t 25) (.t 26)⟩,
 ⟨some 28, none, .mov (.t 8)⟩,
 ⟨some 29, none, .bin .add (.t 28) (.c (.int .i64 1))⟩,
 ⟨some 30, none, .mov (.t 5)⟩,
 ⟨some 31, none, .bin .mul (.t 29) (.t 30)⟩,
 ⟨some 32, none, .slc 1 (.t 24) (some (.t 27)) (some (.t 31)) none⟩,
 ⟨some 33, none, .ncall true 89034 33 [(.t 23), (.t 32)]⟩,
 ⟨some 34, none, .append 89035 3 1 (.t 21) (.t 33)⟩,
 ⟨some 6, none, .mov (.t 34)⟩])) (
 .reg none [
 ⟨some 19, none, .mov (.t 8)⟩,
 ⟨some 20, none, .bin .add (.t 19) (.c (.int .i64 1))⟩,
 ⟨some 8, none, .mov (.t 20)⟩]))
def b89_1 : ACode := .gh [.keep [1, 2, 5, 6, 7, 8]] (.gh [] l89_1)
def k89_0 : List AItem := .inLoop b89_0 :: [.inBlock 2,
 .code (.seq (
 .reg none [
 ⟨some 52, none, .faddr 0 (.t 2)⟩,
 ⟨some 53, none, .load true 3 (.t 52)⟩,
 ⟨some 54, none, .mov (.t 7)⟩,
 ⟨some 55, none, .ncall true 89056 59 [(.t 53), (.t 54)]⟩,
 ⟨some 4, none, .mov (.t 55)⟩]) (
 .ret))]
def k89_1 : List AItem := .inLoop b89_1 :: [.inBlock 0,
 .code (.seq (
 .reg none [
 ⟨some 35, none, .mov (.t 6)⟩,
 ⟨some 36, none, .faddr 4 (.t 2)⟩,
 ⟨some 37, none, .load false 1 (.t 36)⟩,
 ⟨some 38, none, .ncall true 89039 54 [(.t 35), (.t 37)]⟩,
 ⟨some 9, none, .mov (.t 38)⟩]) (
 .seq (
 .seq (
 .reg none [
 ⟨some 10, none, .mov (.c (.int .i64 0))⟩]) (
 .block 2 (
 .loop b89_0))) (
 .seq (
 .reg none [
 ⟨some 52, none, .faddr 0 (.t 2)⟩,
 ⟨some 53, none, .load true 3 (.t 52)⟩,
 ⟨some 54, none, .mov (.t 7)⟩,
 ⟨some 55, none, .ncall true 89056 59 [(.t 53), (.t 54)]⟩,
 ⟨some 4, none, .mov (.t 55)⟩]) (
 .ret))))]
def c89 : ACode :=
 .seq (
 .reg none [
 ⟨some 2, none, .box 89003 108 (.t 0)⟩,
 ⟨some 4, none, .mov (.c .nils)⟩]) (
 .seq (
 .reg none [
 ⟨some 11, none, .faddr 3 (.t 2)⟩,
 ⟨some 12, none, .load false 1 (.t 11)⟩,
 ⟨some 13, none, .bin .mul (.c (.int .i64 2)) (.t 12)⟩,
 ⟨some 14, none, .bin .sub (.c (.int .i64 15)) (.t 13)⟩,
 ⟨some 5, none, .mov (.t 14)⟩]) (
 .seq (
 .reg none [
 ⟨some 6, none, .mov (.c .nils)⟩,
 ⟨some 7, none, .mov (.c .nils)⟩]) (
 .seq (
 .seq (
 .reg none [
 ⟨some 8, none, .mov (.c (.int .i64 0))⟩]) (
 .block 0 (
 .loop b89_1))) (
 .seq (
 .reg none [
 ⟨some 35, none, .mov (.t 6)⟩,
 ⟨some 36, none, .faddr 4 (.t 2)⟩,
 ⟨some 37, none, .load false 1 (.t 36)⟩,
 ⟨some 38, none, .ncall true 89039 54 [(.t 35), (.t 37)]⟩,
 ⟨some 9, none, .mov (.t 38)⟩]) (
 .seq (
 .seq (
 .reg none [
 ⟨some 10, none, .mov (.c (.int .i64 0))⟩]) (
 .block 2 (
 .loop b89_0))) (
 .seq (
 .reg none [
 ⟨some 52, none, .faddr 0 (.t 2)⟩,
 ⟨some 53, none, .load true 3 (.t 52)⟩,
 ⟨some 54, none, .mov (.t 7)⟩,
 ⟨some 55, none, .ncall true 89056 59 [(.t 53), (.t 54)]⟩,
 ⟨some 4, none, .mov (.t 55)⟩]) (
 .ret)))))))
def a89 : AFunc := ⟨56, c89, [.tmp 4]⟩
/-! 90 cassegrain/cassegrainref05.Count params [108] nfree 0 ntmps 12 -/
def c90 : ACode :=
 .seq (
 .reg none [
 ⟨some 1, none, .box 90002 108 (.t 0)⟩,
 ⟨some 2, none, .mov (.c (.int .i64 0))⟩]) (
 .seq (
 .reg none [
 ⟨some 3, none, .faddr 4 (.t 1)⟩,
 ⟨some 4, none, .load false 1 (.t 3)⟩,
 ⟨some 5, none, .bin .mul (.c (.int .i64 4)) (.t 4)⟩,
 ⟨some 6, none, .bin .mul (.t 5) (.c (.int .i64 15))⟩,
 ⟨some 7, none, .faddr 0 (.t 1)⟩,
 ⟨some 8, none, .faddr 0 (.t 7)⟩,
 ⟨some 9, none, .load false 1 (.t 8)⟩,
 ⟨some 10, none, .bin .add (.t 6) (.t 9)⟩,
 ⟨some 11, none, .bin .mul (.c (.int .i64 2)) (.t 10)⟩,
 ⟨some 2, none, .mov (.t 11)⟩]) (
 .gh [.keep [2]] (
 .ret)))
def a90 : AFunc := ⟨12, c90, [.tmp 2]⟩
/-! 91 cassegrain/cassegrainref05.RangeErr params [25] nfree 0 ntmps 16 -/
def l91_0 : ACode :=
 .seq (
 .seq (
 .reg none [
 ⟨some 4, none, .mov (.t 3)⟩,
 ⟨some 5, none, .mov (.t 0)⟩,
 ⟨some 6, none, .len (.t 5)⟩,
 ⟨some 7, none, .bin .lss (.t 4) (.t 6)⟩]) (
 .cond (.t 7) (
 .skip) (
 .exit 0))) (
 .seq (
 .block 1 (
 .seq (
 .reg none [
 ⟨some 10, none, .mov (.t 0)⟩,
 ⟨some 11, none, .mov (.t 3)⟩,
 ⟨some 12, none, .iaddr 1 (.t 10) (.t 11)⟩,
 ⟨some 13, none, .load false 1 (.t 12)⟩,
 ⟨some 14, none, .ncall true 0 45 [(.t 13), (.c (.int .i64 (-7))), (.c (.int .i64 7))]⟩,
 ⟨some 15, none, .not (.t 14)⟩]) (
 .cond (.t 15) (
 .seq (
 .reg none [
 ⟨some 2, none, .mov (.c (.int .i64 2))⟩]) (
 .ret)) (
 .skip)))) (
 .reg none [
 ⟨some 8, none, .mov (.t 3)⟩,
 ⟨some 9, none, .bin .add (.t 8) (.c (.int .i64 1))⟩,
 ⟨some 3, none, .mov (.t 9)⟩]))
def b91_0 : ACode := .gh [.keep [0, 3]] (.gh [] l91_0)
def k91_0 : List AItem := .inLoop b91_0 :: [.inBlock 0,
 .code (.seq (
 .reg none [
 ⟨some 2, none, .mov (.c (.int .i64 0))⟩]) (
 .ret))]
def c91 : ACode :=
 .seq (
 .reg none [
 ⟨some 2, none, .mov (.c (.int .i64 0))⟩]) (
 .seq (
 .seq (
 .reg none [
 ⟨some 3, none, .mov (.c (.int .i64 0))⟩]) (
 .block 0 (
 .loop b91_0))) (
 .seq (
 .reg none [
 ⟨some 2, none, .mov (.c (.int .i64 0))⟩]) (
 .ret)))
def a91 : AFunc := ⟨16, c91, [.tmp 2]⟩
/-! 92 cassegrain/cassegrainref05.DecodeLink params [108, 25] nfree 0 ntmps 80 -/
def l92_0 : ACode :=
 .seq (
 .seq (
 .reg none [
 ⟨some 45, none, .mov (.t 14)⟩,
 ⟨some 46, none, .faddr 4 (.t 2)⟩,
 ⟨some 47, none, .load false 1 (.t 46)⟩,
 ⟨some 48, none, .bin .lss (.t 45) (.t 47)⟩]) (
 .cond (.t 48) (
 .skip) (
 .exit 2))) (
 .seq (
 .block 3 (
 .seq (
 .reg (some []) [
 ⟨some 52, none, .faddr 3 (.t 2)⟩,
 ⟨some 53, none, .load false 1 (.t 52)⟩,
 ⟨some 54, none, .mov (.t 12)⟩,
 ⟨some 55, none, .mov (.t 14)⟩,
 ⟨some 56, none, .bin .mul (.t 55) (.c (.int .i64 15))⟩,
 ⟨some 57, none, .mov (.t 14)⟩,
 ⟨some 58, none, .bin .add (.t 57) (.c (.int .i64 1))⟩,
 ⟨some 59, none, .bin .mul (.t 58) (.c (.int .i64 15))⟩,
 ⟨some 60, none, .slc 1 (.t 54) (some (.t 56)) (some (.t 59)) none⟩,
 ⟨some 61, none, .ncall true 92062 81 [(.t 53), (.t 60)]⟩,
 ⟨some 51, none, .mov (.t 61)⟩,
 ⟨some 62, none, .ext 0 (.t 51)⟩,
 ⟨some 63, none, .ext 1 (.t 51)⟩,
 ⟨some 64, none, .ext 2 (.t 51)⟩,
 ⟨some 15, none, .mov (.t 62)⟩,
 ⟨some 16, none, .mov (.t 63)⟩,
 ⟨some 17, none, .mov (.t 64)⟩]) (
 .gh [.keep [2, 10, 12, 13, 14, 15, 16, 17]] (
 .seq (
 .seq (
 .reg none [
 ⟨some 65, none, .mov (.t 17)⟩,
 ⟨some 66, none, .not (.t 65)⟩]) (
 .cond (.t 66) (
 .seq (
 .reg none [
 ⟨some 4, none, .mov (.c .nils)⟩,
 ⟨some 5, none, .mov (.c (.int .i64 0))⟩,
 ⟨some 6, none, .mov (.c (.bool false))⟩]) (
 .ret)) (
 .skip))) (
 .reg none [
 ⟨some 67, none, .mov (.t 10)⟩,
 ⟨some 68, none, .mov (.t 15)⟩,
 ⟨some 69, none, .faddr 3 (.t 2)⟩,
 ⟨some 70, none, .load false 1 (.t 69)⟩,
 ⟨some 71, none, .bin .mul (.c (.int .i64 2)) (.t 70)⟩,
 ⟨some 72, none, .bin .sub (.c (.int .i64 15)) (.t 71)⟩,
 ⟨some 73, none, .slc 1 (.t 68) none (some (.t 72)) none⟩,
 ⟨some 74, none, .append 92075 3 1 (.t 67) (.t 73)⟩,
 ⟨some 75, none, .mov (.t 13)⟩,
 ⟨some 76, none, .mov (.t 16)⟩,
 ⟨some 77, none, .bin .add (.t 75) (.t 76)⟩,
 ⟨some 10, none, .mov (.t 74)⟩,
 ⟨some 13, none, .mov (.t 77)⟩]))))) (
 .reg none [
 ⟨some 49, none, .mov (.t 14)⟩,
 ⟨some 50, none, .bin .add (.t 49) (.c (.int .i64 1))⟩,
 ⟨some 14, none, .mov (.t 50)⟩]))
def b92_0 : ACode := .gh [.keep [2, 10, 12, 13, 14]] (.gh [] l92_0)
def l92_1 : ACode :=
 .seq (
 .seq (
 .reg none [
 ⟨some 25, none, .mov (.t 11)⟩,
 ⟨some 26, none, .bin .add (.t 25) (.c (.int .i64 4))⟩,
 ⟨some 27, none, .mov (.t 7)⟩,
 ⟨some 28, none, .len (.t 27)⟩,
 ⟨some 29, none, .bin .leq (.t 26) (.t 28)⟩]) (
 .cond (.t 29) (
 .skip) (
 .exit 0))) (
 .seq (
 .block 1 (
 .reg none [
 ⟨some 32, none, .mov (.t 9)⟩,
 ⟨some 33, none, .mov (.t 7)⟩,
 ⟨some 34, none, .mov (.t 11)⟩,
 ⟨some 35, none, .mov (.t 11)⟩,
 ⟨some 36, none, .bin .add (.t 35) (.c (.int .i64 4))⟩,
 ⟨some 37, none, .slc 1 (.t 33) (some (.t 34)) (some (.t 36)) none⟩,
 ⟨some 38, none, .ncall true 0 145 [(.t 37)]⟩,
 ⟨some 39, none, .bslice 92040 3 1 [(.t 38)]⟩,
 ⟨some 40, none, .append 92041 3 1 (.t 32) (.t 39)⟩,
 ⟨some 9, none, .mov (.t 40)⟩])) (
 .reg none [
 ⟨some 30, none, .mov (.t 11)⟩,
 ⟨some 31, none, .bin .add (.t 30) (.c (.int .i64 4))⟩,
 ⟨some 11, none, .mov (.t 31)⟩]))
def b92_1 : ACode := .gh [.keep [2, 7, 9, 10, 11]] (.gh [] l92_1)
def k92_0 : List AItem := .inLoop b92_0 :: [.inBlock 2,
 .code (.seq (
 .reg none [
 ⟨some 78, none, .mov (.t 10)⟩,
 ⟨some 79, none, .mov (.t 13)⟩,
 ⟨some 4, none, .mov (.t 78)⟩,
 ⟨some 5, none, .mov (.t 79)⟩,
 ⟨some 6, none, .mov (.c (.bool true))⟩]) (
 .ret))]
def k92_1 : List AItem := .inLoop b92_1 :: [.inBlock 0,
 .code (.seq (
 .reg none [
 ⟨some 41, none, .mov (.t 9)⟩,
 ⟨some 42, none, .faddr 4 (.t 2)⟩,
 ⟨some 43, none, .load false 1 (.t 42)⟩,
 ⟨some 44, none, .ncall true 92045 55 [(.t 41), (.t 43)]⟩,
 ⟨some 12, none, .mov (.t 44)⟩]) (
 .seq (
 .reg none [
 ⟨some 13, none, .mov (.c (.int .i64 0))⟩]) (
 .seq (
 .seq (
 .reg none [
 ⟨some 14, none, .mov (.c (.int .i64 0))⟩]) (
 .block 2 (
 .loop b92_0))) (
 .seq (
 .reg none [
 ⟨some 78, none, .mov (.t 10)⟩,
 ⟨some 79, none, .mov (.t 13)⟩,
 ⟨some 4, none, .mov (.t 78)⟩,
 ⟨some 5, none, .mov (.t 79)⟩,
 ⟨some 6, none, .mov (.c (.bool true))⟩]) (
 .ret)))))]
def c92 : ACode :=
 .seq (
 .reg none [
 ⟨some 2, none, .box 92003 108 (.t 0)⟩,
 ⟨some 4, none, .mov (.c .nils)⟩,
 ⟨some 5, none, .mov (.c (.int .i64 0))⟩,
 ⟨some 6, none, .mov (.c (.bool false))⟩]) (
 .seq (
 .reg none [
 ⟨some 19, none, .faddr 0 (.t 2)⟩,
 ⟨some 20, none, .load true 3 (.t 19)⟩,
 ⟨some 21, none, .mov (.t 1)⟩,
 ⟨some 22, none, .ncall true 92023 22 [(.t 20), (.t 21)]⟩,
 ⟨some 18, none, .mov (.t 22)⟩,
 ⟨some 23, none, .ext 0 (.t 18)⟩,
 ⟨some 24, none, .ext 1 (.t 18)⟩,
 ⟨some 7, none, .mov (.t 23)⟩,
 ⟨some 8, none, .mov (.t 24)⟩]) (
 .gh [.keep [2, 7]] (
 .seq (
 .reg none [
 ⟨some 9, none, .mov (.c .nils)⟩,
 ⟨some 10, none, .mov (.c .nils)⟩]) (
 .seq (
 .seq (
 .reg none [
 ⟨some 11, none, .mov (.c (.int .i64 0))⟩]) (
 .block 0 (
 .loop b92_1))) (
 .seq (
 .reg none [
 ⟨some 41, none, .mov (.t 9)⟩,
 ⟨some 42, none, .faddr 4 (.t 2)⟩,
 ⟨some 43, none, .load false 1 (.t 42)⟩,
 ⟨some 44, none, .ncall true 92045 55 [(.t 41), (.t 43)]⟩,
 ⟨some 12, none, .mov (.t 44)⟩]) (
 .seq (
 .reg none [
 ⟨some 13, none, .mov (.c (.int .i64 0))⟩]) (
 .seq (
 .seq (
 .reg none [
 ⟨some 14, none, .mov (.c (.int .i64 0))⟩]) (
 .block 2 (
 .loop b92_0))) (
 .seq (
 .reg none [
 ⟨some 78, none, .mov (.t 10)⟩,
 ⟨some 79, none, .mov (.t 13)⟩,
 ⟨some 4, none, .mov (.t 78)⟩,
 ⟨some 5, none, .mov (.t 79)⟩,
 ⟨some 6, none, .mov (.c (.bool true))⟩]) (
 .ret)))))))))
def a92 : AFunc := ⟨80, c92, [.tmp 4, .tmp 5, .tmp 6]⟩
/-! 93 cassegrain/cassegrainlaw05.signs params [25] nfree 0 ntmps 21 -/
def l93_0 : ACode :=
 .seq (
 .seq (
 .reg none [
 ⟨some 5, none, .mov (.t 4)⟩,
 ⟨some 6, none, .mov (.t 0)⟩,
 ⟨some 7, none, .len (.t 6)⟩,
 ⟨some 8, none, .bin .lss (.t 5) (.t 7)⟩]) (
 .cond (.t 8) (
 .skip) (
 .exit 0))) (
 .seq (
 .block 1 (
 .reg none [
 ⟨some 11, none, .mov (.t 3)⟩,
 ⟨some 12, none, .mov (.t 0)⟩,
 ⟨some 13, none, .mov (.t 4)⟩,
 ⟨some 14, none, .iaddr 1 (.t 12) (.t 13)⟩,
 ⟨some 15, none, .load false 1 (.t 14)⟩,
 ⟨some 16, none, .bin .mul (.c (.int .i64 2)) (.t 15)⟩,
 ⟨some 17, none, .bin .sub (.c (.int .i64 1)) (.t 16)⟩,
 ⟨some 18, none, .bslice 93019 3 1 [(.t 17)]⟩,
 ⟨some 19, none, .append 93020 3 1 (.t 11) (.t 18)⟩,
 ⟨some 3, none, .mov (.t 19)⟩])) (
 .reg none [
 ⟨some 9, none, .mov (.t 4)⟩,
 ⟨some 10, none, .bin .add (.t 9) (.c (.int .i64 1))⟩,
 ⟨some 4, none, .mov (.t 10)⟩]))
def b93_0 : ACode := .gh [.keep [0, 3, 4]] (.gh [] l93_0)
def k93_0 : List AItem := .inLoop b93_0 :: [.inBlock 0,
 .code (.seq (
 .reg none [
 ⟨some 20, none, .mov (.t 3)⟩,
 ⟨some 2, none, .mov (.t 20)⟩]) (
 .ret))]
def c93 : ACode :=
 .seq (
 .reg none [
 ⟨some 2, none, .mov (.c .nils)⟩]) (
 .seq (
 .reg none [
 ⟨some 3, none, .mov (.c .nils)⟩]) (
 .seq (
 .seq (
 .reg none [
 ⟨some 4, none, .mov (.c (.int .i64 0))⟩]) (
 .block 0 (
 .loop b93_0))) (
 .seq (
 .reg none [
 ⟨some 20, none, .mov (.t 3)⟩,
 ⟨some 2, none, .mov (.t 20)⟩]) (
 .ret))))
def a93 : AFunc := ⟨21, c93, [.tmp 2]⟩
/-! 94 cassegrain/cassegrainlaw05.Inner params [] nfree 0 ntmps 3 -/
def c94 : ACode :=
 .seq (
 .reg none [
 ⟨some 0, none, .alloc 94001 24 (.agg (.gen [(.int .i64 0), (.int .i64 0), (.int .i64 0)]))⟩]) (
 .seq (
 .reg none [
 ⟨some 1, none, .build (.ints .i64 [0, 0]) [(0, 1, (.c (.int .i64 7))), (1, 1, (.c (.int .i64 5)))]⟩,
 ⟨some 2, none, .build (.gen [(.int .i64 0), (.int .i64 0), (.int .i64 0)]) [(0, 1, (.c (.int .i64 2))), (1, 2, (.t 1))]⟩,
 ⟨none, none, .store 3 (.t 0) (.t 2)⟩]) (
 .ret))
def a94 : AFunc := ⟨3, c94, [.cell 0 true 3]⟩
/-! 95 cassegrain/cassegrainlaw05.soft params [] nfree 0 ntmps 2 -/
def c95 : ACode :=
 .seq (
 .reg none [
 ⟨some 0, none, .mov (.c .nils)⟩]) (
 .seq (
 .reg none [
 ⟨some 1, none, .bslice 95002 3 1 [(.c (.int .i64 (-1))), (.c (.int .i64 (-1))), (.c (.int .i64 1)), (.c (.int .i64 1)), (.c (.int .i64 (-1))), (.c (.int .i64 (-1))), (.c (.int .i64 1)), (.c (.int .i64 1))]⟩,
 ⟨some 0, none, .mov (.t 1)⟩]) (
 .ret))
def a95 : AFunc := ⟨2, c95, [.tmp 0]⟩
/-! 96 cassegrain/cassegrainlaw05.last params [3] nfree 0 ntmps 7 -/
def c96 : ACode :=
 .seq (
 .reg none [
 ⟨some 2, none, .mov (.c .nils)⟩]) (
 .seq (
 .reg none [
 ⟨some 3, none, .mkslice 96004 3 1 (.int .i64 0) (.c (.int .i64 12))⟩,
 ⟨some 4, none, .mov (.t 0)⟩,
 ⟨some 5, none, .bslice 96006 3 1 [(.t 4)]⟩,
 ⟨some 6, none, .append 96007 3 1 (.t 3) (.t 5)⟩,
 ⟨some 2, none, .mov (.t 6)⟩]) (
 .ret))
def a96 : AFunc := ⟨7, c96, [.tmp 2]⟩
/-! 97 cassegrain/cassegrainlaw05.Parity params [] nfree 0 ntmps 5 -/
def c97 : ACode :=
 .seq (
 .reg none [
 ⟨some 0, none, .alloc 97001 48 (.agg (.gen [(.int .i64 0), .nils]))⟩]) (
 .seq (
 .reg none [
 ⟨some 1, none, .bslice 97002 3 1 [(.c (.int .i64 0)), (.c (.int .i64 1))]⟩,
 ⟨some 2, none, .bslice 97003 3 1 [(.c (.int .i64 1)), (.c (.int .i64 2))]⟩,
 ⟨some 3, none, .bslice 97004 25 1 [(.t 1), (.t 2)]⟩,
 ⟨some 4, none, .build (.gen [(.int .i64 0), .nils]) [(0, 1, (.c (.int .i64 3))), (1, 1, (.t 3))]⟩,
 ⟨none, none, .store 2 (.t 0) (.t 4)⟩]) (
 .ret))
def a97 : AFunc := ⟨5, c97, [.cell 0 true 2]⟩
/-! 98 cassegrain/code.softErr params [24, 25] nfree 0 ntmps 30 -/
def c98 : ACode :=
 .seq (
 .reg none [
 ⟨some 2, none, .box 98003 24 (.t 0)⟩,
 ⟨some 4, none, .mov (.c (.int .i64 0))⟩]) (
 .seq (
 .reg (some []) [
 ⟨some 5, none, .mov (.t 1)⟩,
 ⟨some 6, none, .len (.t 5)⟩,
 ⟨some 7, none, .bin .rem (.t 6) (.c (.int .i64 2))⟩,
 ⟨some 8, none, .bin .eql (.t 7) (.c (.int .i64 0))⟩,
 ⟨some 9, none, .mov (.t 8)⟩,
 ⟨some 10, (some (9, true)), .mov (.t 1)⟩,
 ⟨some 11, (some (9, true)), .len (.t 10)⟩,
 ⟨some 12, (some (9, true)), .faddr 0 (.t 2)⟩,
 ⟨some 13, (some (9, true)), .load false 1 (.t 12)⟩,
 ⟨some 14, (some (9, true)), .bin .mul (.c (.int .i64 2)) (.t 13)⟩,
 ⟨some 15, (some (9, true)), .bin .geq (.t 11) (.t 14)⟩,
 ⟨some 16, none, .pick (.t 9) (.t 15) (.c (.bool false))⟩,
 ⟨some 17, none, .ncall true 0 111 [(.t 16), (.c (.int .i64 10))]⟩,
 ⟨some 18, none, .mov (.t 1)⟩,
 ⟨some 19, none, .len (.t 18)⟩,
 ⟨some 20, none, .faddr 0 (.t 2)⟩,
 ⟨some 21, none, .load false 1 (.t 20)⟩,
 ⟨some 22, none, .bin .add (.c (.int .i64 300)) (.t 21)⟩,
 ⟨some 23, none, .bin .mul (.c (.int .i64 2)) (.t 22)⟩,
 ⟨some 24, none, .bin .leq (.t 19) (.t 23)⟩,
 ⟨some 25, none, .ncall true 0 111 [(.t 24), (.c (.int .i64 8))]⟩,
 ⟨some 26, none, .mov (.t 1)⟩,
 ⟨some 27, none, .ncall true 0 103 [(.t 26), (.c (.int .i64 (-7))), (.c (.int .i64 7))]⟩,
 ⟨some 28, none, .bslice 98029 27 1 [(.t 17), (.t 25), (.t 27)]⟩,
 ⟨some 29, none, .ncall true 0 105 [(.t 28)]⟩,
 ⟨some 4, none, .mov (.t 29)⟩]) (
 .gh [.keep [4]] (
 .ret)))
def a98 : AFunc := ⟨30, c98, [.tmp 4]⟩
/-! 99 (cassegrain/code.trellis).best params [123] nfree 0 ntmps 61 -/
def l99_0 : ACode :=
 .seq (
 .reg none [
 ⟨some 14, none, .bin .lss (.t 13) (.t 12)⟩]) (
 .seq (
 .cond (.t 14) (
 .skip) (
 .exit 0)) (
 .seq (
 .block 1 (
 .seq (
 .reg none [
 ⟨some 15, none, .mov (.t 13)⟩,
 ⟨some 7, none, .alloc 99008 3 (.int .i64 0)⟩,
 ⟨none, none, .store 1 (.t 7) (.t 15)⟩]) (
 .seq (
 .reg none [
 ⟨some 16, none, .load true 4 (.t 1)⟩,
 ⟨some 17, none, .load false 1 (.t 7)⟩,
 ⟨some 18, none, .ncall true 0 128 [(.t 16), (.t 17)]⟩]) (
 .block 2 (
 .rf 99901 (.t 18) [19] (
 .reg none [
 ⟨some 8, none, .alloc 99009 145 (.agg (.gen [(.int .i64 0), (.int .i64 0), (.int .i64 0), (.flt .f32 0)]))⟩,
 ⟨none, none, .store 4 (.t 8) (.t 19)⟩]) (
 .block 3 (
 .seq (
 .reg (some []) [
 ⟨some 20, none, .faddr 0 (.t 8)⟩,
 ⟨some 21, none, .load false 1 (.t 20)⟩,
 ⟨some 22, none, .load false 1 (.t 6)⟩,
 ⟨some 23, none, .bin .eql (.t 21) (.t 22)⟩,
 ⟨some 24, none, .mov (.t 23)⟩,
 ⟨some 25, (some (24, true)), .load false 1 (.t 4)⟩,
 ⟨some 26, (some (24, true)), .load false 1 (.t 7)⟩,
 ⟨some 27, (some (24, true)), .bin .add (.t 26) (.c (.int .i64 1))⟩,
 ⟨some 28, (some (24, true)), .iaddr 1 (.t 25) (.t 27)⟩,
 ⟨some 29, (some (24, true)), .load false 1 (.t 28)⟩,
 ⟨some 30, (some (24, true)), .faddr 2 (.t 8)⟩,
 ⟨some 31, (some (24, true)), .load false 1 (.t 30)⟩,
 ⟨some 32, (some (24, true)), .iaddr 1 (.t 29) (.t 31)⟩,
 ⟨some 33, (some (24, true)), .load false 1 (.t 32)⟩,
 ⟨some 34, (some (24, true)), .faddr 3 (.t 8)⟩,
 ⟨some 35, (some (24, true)), .load false 1 (.t 34)⟩,
 ⟨some 36, (some (24, true)), .bin .add (.t 33) (.t 35)⟩,
 ⟨some 37, (some (24, true)), .load false 1 (.t 4)⟩,
 ⟨some 38, (some (24, true)), .load false 1 (.t 7)⟩,
 ⟨some 39, (some (24, true)), .iaddr 1 (.t 37) (.t 38)⟩,
 ⟨some 40, (some (24, true)), .load false 1 (.t 39)⟩,
 ⟨some 41, (some (24, true)), .load false 1 (.t 6)⟩,
 ⟨some 42, (some (24, true)), .iaddr 1 (.t 40) (.t 41)⟩,
 ⟨some 43, (some (24, true)), .load false 1 (.t 42)⟩,
 ⟨some 44, (some (24, true)), .bin .eql (.t 36) (.t 43)⟩,
 ⟨some 45, none, .pick (.t 24) (.t 44) (.c (.bool false))⟩]) (
 .gh [.keep [1, 4, 5, 6, 8, 12, 13, 45]] (
 .cond (.t 45) (
 .seq (
 .reg (some [(0, 3), (3, 5), (3, 6), (4, 5), (4, 6), (5, 7), (6, 7)]) [
 ⟨some 46, none, .load false 1 (.t 5)⟩,
 ⟨some 47, none, .faddr 1 (.t 8)⟩,
 ⟨some 48, none, .load false 1 (.t 47)⟩,
 ⟨some 49, none, .bslice 99050 3 1 [(.t 48)]⟩,
 ⟨some 50, none, .append 99051 3 1 (.t 46) (.t 49)⟩,
 ⟨some 51, none, .faddr 2 (.t 8)⟩,
 ⟨some 52, none, .load false 1 (.t 51)⟩,
 ⟨none, none, .store 1 (.t 5) (.t 50)⟩,
 ⟨none, none, .store 1 (.t 6) (.t 52)⟩]) (
 .gh [.keep [1, 4, 5, 6, 12, 13]] (
 .exit 2))) (
 .skip)))))))))) (
 .reg none [
 ⟨some 53, none, .bin .add (.t 13) (.c (.int .i64 1))⟩,
 ⟨some 13, none, .mov (.t 53)⟩])))
def b99_0 : ACode := .gh [.keep [1, 4, 5, 6, 12, 13]] (.gh [] l99_0)
def k99_0 : List AItem := .inLoop b99_0 :: [.inBlock 0,
 .code (.seq (
 .reg (some []) [
 ⟨some 54, none, .load false 1 (.t 5)⟩,
 ⟨some 55, none, .load false 1 (.t 4)⟩,
 ⟨some 56, none, .iaddr 1 (.t 55) (.c (.int .i64 0))⟩,
 ⟨some 57, none, .load false 1 (.t 56)⟩,
 ⟨some 58, none, .iaddr 1 (.t 57) (.c (.int .i64 0))⟩,
 ⟨some 59, none, .load false 1 (.t 58)⟩,
 ⟨some 60, none, .f2i .i64 (.t 59)⟩,
 ⟨some 2, none, .mov (.t 54)⟩,
 ⟨some 3, none, .mov (.t 60)⟩]) (
 .gh [.keep [2, 3]] (
 .ret)))]
def c99 : ACode :=
 .seq (
 .reg none [
 ⟨some 1, none, .box 99002 123 (.t 0)⟩,
 ⟨some 2, none, .mov (.c .nils)⟩,
 ⟨some 3, none, .mov (.c (.int .i64 0))⟩]) (
 .seq (
 .reg none [
 ⟨some 9, none, .load true 4 (.t 1)⟩,
 ⟨some 10, none, .ncall true 99011 146 [(.t 9)]⟩,
 ⟨some 4, none, .alloc 99005 168 .nils⟩,
 ⟨none, none, .store 1 (.t 4) (.t 10)⟩]) (
 .seq (
 .reg none [
 ⟨some 5, none, .alloc 99006 25 .nils⟩]) (
 .seq (
 .reg none [
 ⟨some 6, none, .alloc 99007 3 (.int .i64 0)⟩,
 ⟨none, none, .store 1 (.t 6) (.c (.int .i64 0))⟩]) (
 .seq (
 .seq (
 .reg none [
 ⟨some 11, none, .load true 4 (.t 1)⟩,
 ⟨some 12, none, .ncall true 0 147 [(.t 11)]⟩,
 ⟨some 13, none, .mov (.c (.int .i64 0))⟩]) (
 .block 0 (
 .loop b99_0))) (
 .seq (
 .reg (some []) [
 ⟨some 54, none, .load false 1 (.t 5)⟩,
 ⟨some 55, none, .load false 1 (.t 4)⟩,
 ⟨some 56, none, .iaddr 1 (.t 55) (.c (.int .i64 0))⟩,
 ⟨some 57, none, .load false 1 (.t 56)⟩,
 ⟨some 58, none, .iaddr 1 (.t 57) (.c (.int .i64 0))⟩,
 ⟨some 59, none, .load false 1 (.t 58)⟩,
 ⟨some 60, none, .f2i .i64 (.t 59)⟩,
 ⟨some 2, none, .mov (.t 54)⟩,
 ⟨some 3, none, .mov (.t 60)⟩]) (
 .gh [.keep [2, 3]] (
 .ret)))))))
def a99 : AFunc := ⟨61, c99, [.tmp 2, .tmp 3]⟩
/-! 100 cassegrain/cassegrainref05.States params [24] nfree 0 ntmps 6 -/
def c100 : ACode :=
 .seq (
 .reg none [
 ⟨some 1, none, .box 100002 24 (.t 0)⟩,
 ⟨some 2, none, .mov (.c (.int .i64 0))⟩]) (
 .seq (
 .reg none [
 ⟨some 3, none, .faddr 0 (.t 1)⟩,
 ⟨some 4, none, .load false 1 (.t 3)⟩,
 ⟨some 5, none, .bin .shl (.c (.int .i64 1)) (.t 4)⟩,
 ⟨some 2, none, .mov (.t 5)⟩]) (
 .ret))
def a100 : AFunc := ⟨6, c100, [.tmp 2]⟩
/-! 101 cassegrain/cassegrainref05.Step params [24, 3, 3] nfree 0 ntmps 28 -/
def c101 : ACode :=
 .seq (
 .reg none [
 ⟨some 3, none, .box 101004 24 (.t 0)⟩,
 ⟨some 6, none, .mov (.c (.int .i64 0))⟩,
 ⟨some 7, none, .alloc 101008 22 (.agg (.ints .i64 [0, 0]))⟩]) (
 .seq (
 .reg none [
 ⟨some 9, none, .mov (.t 2)⟩,
 ⟨some 10, none, .faddr 0 (.t 3)⟩,
 ⟨some 11, none, .load false 1 (.t 10)⟩,
 ⟨some 12, none, .bin .shl (.t 9) (.t 11)⟩,
 ⟨some 13, none, .mov (.t 1)⟩,
 ⟨some 14, none, .bin .add (.t 12) (.t 13)⟩,
 ⟨some 8, none, .mov (.t 14)⟩]) (
 .gh [.keep [3, 7, 8]] (
 .seq (
 .reg (some []) [
 ⟨some 15, none, .mov (.t 8)⟩,
 ⟨some 16, none, .bin .quo (.t 15) (.c (.int .i64 2))⟩,
 ⟨some 17, none, .mov (.t 8)⟩,
 ⟨some 18, none, .faddr 1 (.t 3)⟩,
 ⟨some 19, none, .aaddr 2 1 (.t 18) (.c (.int .i64 0))⟩,
 ⟨some 20, none, .load false 1 (.t 19)⟩,
 ⟨some 21, none, .ncall true 0 148 [(.t 17), (.t 20)]⟩,
 ⟨some 22, none, .mov (.t 8)⟩,
 ⟨some 23, none, .faddr 1 (.t 3)⟩,
 ⟨some 24, none, .aaddr 2 1 (.t 23) (.c (.int .i64 1))⟩,
 ⟨some 25, none, .load false 1 (.t 24)⟩,
 ⟨some 26, none, .ncall true 0 148 [(.t 22), (.t 25)]⟩,
 ⟨some 27, none, .build (.ints .i64 [0, 0]) [(0, 1, (.t 21)), (1, 1, (.t 26))]⟩,
 ⟨some 6, none, .mov (.t 16)⟩,
 ⟨none, none, .store 2 (.t 7) (.t 27)⟩]) (
 .gh [.keep [6, 7]] (
 .ret)))))
def a101 : AFunc := ⟨28, c101, [.tmp 6, .cell 7 true 2]⟩
/-! 102 cassegrain/cassegrainref05.Gain params [22, 25, 3] nfree 0 ntmps 29 -/
def c102 : ACode :=
 .seq (
 .reg none [
 ⟨some 3, none, .box 102004 22 (.t 0)⟩,
 ⟨some 6, none, .mov (.c (.int .i64 0))⟩]) (
 .seq (
 .reg (some []) [
 ⟨some 7, none, .mov (.t 1)⟩,
 ⟨some 8, none, .mov (.t 2)⟩,
 ⟨some 9, none, .bin .mul (.c (.int .i64 2)) (.t 8)⟩,
 ⟨some 10, none, .iaddr 1 (.t 7) (.t 9)⟩,
 ⟨some 11, none, .load false 1 (.t 10)⟩,
 ⟨some 12, none, .aaddr 2 1 (.t 3) (.c (.int .i64 0))⟩,
 ⟨some 13, none, .load false 1 (.t 12)⟩,
 ⟨some 14, none, .bin .mul (.c (.int .i64 2)) (.t 13)⟩,
 ⟨some 15, none, .bin .sub (.c (.int .i64 1)) (.t 14)⟩,
 ⟨some 16, none, .bin .mul (.t 11) (.t 15)⟩,
 ⟨some 17, none, .mov (.t 1)⟩,
 ⟨some 18, none, .mov (.t 2)⟩,
 ⟨some 19, none, .bin .mul (.c (.int .i64 2)) (.t 18)⟩,
 ⟨some 20, none, .bin .add (.t 19) (.c (.int .i64 1))⟩,
 ⟨some 21, none, .iaddr 1 (.t 17) (.t 20)⟩,
 ⟨some 22, none, .load false 1 (.t 21)⟩,
 ⟨some 23, none, .aaddr 2 1 (.t 3) (.c (.int .i64 1))⟩,
 ⟨some 24, none, .load false 1 (.t 23)⟩,
 ⟨some 25, none, .bin .mul (.c (.int .i64 2)) (.t 24)⟩,
 ⟨some 26, none, .bin .sub (.c (.int .i64 1)) (.t 25)⟩,
 ⟨some 27, none, .bin .mul (.t 22) (.t 26)⟩,
 ⟨some 28, none, .bin .add (.t 16) (.t 27)⟩,
 ⟨some 6, none, .mov (.t 28)⟩]) (
 .gh [.keep [6]] (
 .ret)))
def a102 : AFunc := ⟨29, c102, [.tmp 6]⟩
/-! 103 cassegrain/code.rangeErr params [25, 3, 3] nfree 0 ntmps 14 -/
def c103 : ACode :=
 .seq (
 .reg none [
 ⟨some 4, none, .box 103005 3 (.t 1)⟩,
 ⟨some 5, none, .box 103006 3 (.t 2)⟩,
 ⟨some 6, none, .mov (.c (.int .i64 0))⟩]) (
 .seq (
 .reg none [
 ⟨some 8, none, .mov (.t 0)⟩,
 ⟨some 9, none, .mkfn 150 [(.t 4), (.t 5)]⟩,
 ⟨some 10, none, .ncall true 0 149 [(.t 8), (.t 9)]⟩,
 ⟨some 7, none, .mov (.t 10)⟩]) (
 .seq (
 .reg none [
 ⟨some 11, none, .mov (.t 7)⟩,
 ⟨some 12, none, .not (.t 11)⟩,
 ⟨some 13, none, .ncall true 0 111 [(.t 12), (.c (.int .i64 2))]⟩,
 ⟨some 6, none, .mov (.t 13)⟩]) (
 .ret)))
def a103 : AFunc := ⟨14, c103, [.tmp 6]⟩
/-! 104 cassegrain/code.product params [3, 3] nfree 0 ntmps 23 -/
def l104_0 : ACode :=
 .seq (
 .seq (
 .reg none [
 ⟨some 6, none, .mov (.t 1)⟩,
 ⟨some 7, none, .bin .gtr (.t 6) (.c (.int .i64 0))⟩]) (
 .cond (.t 7) (
 .skip) (
 .exit 0))) (
 .seq (
 .block 1 (
 .seq (
 .seq (
 .reg none [
 ⟨some 10, none, .mov (.t 1)⟩,
 ⟨some 11, none, .bin .and (.t 10) (.c (.int .i64 1))⟩,
 ⟨some 12, none, .bin .eql (.t 11) (.c (.int .i64 1))⟩]) (
 .cond (.t 12) (
 .reg none [
 ⟨some 13, none, .mov (.t 5)⟩,
 ⟨some 14, none, .mov (.t 0)⟩,
 ⟨some 15, none, .bin .xor (.t 13) (.t 14)⟩,
 ⟨some 5, none, .mov (.t 15)⟩]) (
 .skip))) (
 .seq (
 .reg none [
 ⟨some 16, none, .mov (.t 0)⟩,
 ⟨some 17, none, .bin .shl (.t 16) (.c (.int .u64 1))⟩,
 ⟨some 0, none, .mov (.t 17)⟩]) (
 .seq (
 .reg none [
 ⟨some 18, none, .mov (.t 0)⟩,
 ⟨some 19, none, .bin .geq (.t 18) (.c (.int .i64 16))⟩]) (
 .cond (.t 19) (
 .reg none [
 ⟨some 20, none, .mov (.t 0)⟩,
 ⟨some 21, none, .bin .xor (.t 20) (.c (.int .i64 19))⟩,
 ⟨some 0, none, .mov (.t 21)⟩]) (
 .skip)))))) (
 .reg none [
 ⟨some 8, none, .mov (.t 1)⟩,
 ⟨some 9, none, .bin .shr (.t 8) (.c (.int .u64 1))⟩,
 ⟨some 1, none, .mov (.t 9)⟩]))
def b104_0 : ACode := .gh [.keep [0, 1, 5]] (.gh [] l104_0)
def k104_0 : List AItem := .inLoop b104_0 :: [.inBlock 0,
 .code (.seq (
 .reg none [
 ⟨some 22, none, .mov (.t 5)⟩,
 ⟨some 4, none, .mov (.t 22)⟩]) (
 .ret))]
def c104 : ACode :=
 .seq (
 .reg none [
 ⟨some 4, none, .mov (.c (.int .i64 0))⟩]) (
 .seq (
 .reg none [
 ⟨some 5, none, .mov (.c (.int .i64 0))⟩]) (
 .seq (
 .block 0 (
 .loop b104_0)) (
 .seq (
 .reg none [
 ⟨some 22, none, .mov (.t 5)⟩,
 ⟨some 4, none, .mov (.t 22)⟩]) (
 .ret))))
def a104 : AFunc := ⟨23, c104, [.tmp 4]⟩
/-! 105 cassegrain/code.first params [172] nfree 0 ntmps 15 -/
def l105_0 : ACode :=
 .seq (
 .reg none [
 ⟨some 8, none, .bin .lss (.t 7) (.t 6)⟩]) (
 .seq (
 .cond (.t 8) (
 .skip) (
 .exit 0)) (
 .seq (
 .block 1 (
 .seq (
 .reg none [
 ⟨some 9, none, .iaddr 1 (.t 5) (.t 7)⟩,
 ⟨some 10, none, .load false 1 (.t 9)⟩,
 ⟨some 4, none, .mov (.t 10)⟩]) (
 .seq (
 .reg none [
 ⟨some 11, none, .mov (.t 4)⟩,
 ⟨some 12, none, .bin .neq (.t 11) (.c (.int .i64 0))⟩]) (
 .cond (.t 12) (
 .seq (
 .reg none [
 ⟨some 13, none, .mov (.t 4)⟩,
 ⟨some 2, none, .mov (.t 13)⟩]) (
 .ret)) (
 .skip))))) (
 .reg none [
 ⟨some 14, none, .bin .add (.t 7) (.c (.int .i64 1))⟩,
 ⟨some 7, none, .mov (.t 14)⟩])))
def b105_0 : ACode := .gh [.keep [5, 6, 7]] (.gh [] l105_0)
def k105_0 : List AItem := .inLoop b105_0 :: [.inBlock 0,
 .code (.seq (
 .reg none [
 ⟨some 2, none, .mov (.c (.int .i64 0))⟩]) (
 .ret))]
def c105 : ACode :=
 .seq (
 .reg none [
 ⟨some 2, none, .mov (.c (.int .i64 0))⟩]) (
 .seq (
 .seq (
 .reg none [
 ⟨some 5, none, .mov (.t 0)⟩,
 ⟨some 6, none, .len (.t 5)⟩,
 ⟨some 7, none, .mov (.c (.int .i64 0))⟩]) (
 .block 0 (
 .loop b105_0))) (
 .seq (
 .reg none [
 ⟨some 2, none, .mov (.c (.int .i64 0))⟩]) (
 .ret)))
def a105 : AFunc := ⟨15, c105, [.tmp 2]⟩
/-! 106 cassegrain/code.halfErr params [3] nfree 0 ntmps 6 -/
def c106 : ACode :=
 .seq (
 .reg none [
 ⟨some 2, none, .mov (.c (.int .i64 0))⟩]) (
 .seq (
 .reg none [
 ⟨some 3, none, .mov (.t 0)⟩,
 ⟨some 4, none, .ncall true 0 112 [(.t 3), (.c (.int .i64 1)), (.c (.int .i64 3))]⟩,
 ⟨some 5, none, .ncall true 0 111 [(.t 4), (.c (.int .i64 2))]⟩,
 ⟨some 2, none, .mov (.t 5)⟩]) (
 .ret))
def a106 : AFunc := ⟨6, c106, [.tmp 2]⟩
/-! 107 cassegrain/code.elementsErr params [25, 3] nfree 0 ntmps 14 -/
def c107 : ACode :=
 .seq (
 .reg none [
 ⟨some 4, none, .mov (.c (.int .i64 0))⟩]) (
 .seq (
 .reg none [
 ⟨some 5, none, .mov (.t 0)⟩,
 ⟨some 6, none, .len (.t 5)⟩,
 ⟨some 7, none, .mov (.t 1)⟩,
 ⟨some 8, none, .bin .eql (.t 6) (.t 7)⟩,
 ⟨some 9, none, .ncall true 0 111 [(.t 8), (.c (.int .i64 10))]⟩,
 ⟨some 10, none, .mov (.t 0)⟩,
 ⟨some 11, none, .ncall true 0 103 [(.t 10), (.c (.int .i64 0)), (.c (.int .i64 15))]⟩,
 ⟨some 12, none, .bslice 107013 27 1 [(.t 9), (.t 11)]⟩,
 ⟨some 13, none, .ncall true 0 105 [(.t 12)]⟩,
 ⟨some 4, none, .mov (.t 13)⟩]) (
 .gh [.keep [4]] (
 .ret)))
def a107 : AFunc := ⟨14, c107, [.tmp 4]⟩
/-! 108 (cassegrain/code.word).syndromes params [133, 3] nfree 0 ntmps 20 -/
def l108_0 : ACode :=
 .seq (
 .seq (
 .reg none [
 ⟨some 7, none, .mov (.t 6)⟩,
 ⟨some 8, none, .mov (.t 1)⟩,
 ⟨some 9, none, .bin .mul (.c (.int .i64 2)) (.t 8)⟩,
 ⟨some 10, none, .bin .leq (.t 7) (.t 9)⟩]) (
 .cond (.t 10) (
 .skip) (
 .exit 0))) (
 .seq (
 .block 1 (
 .reg none [
 ⟨some 13, none, .mov (.t 5)⟩,
 ⟨some 14, none, .load true 15 (.t 2)⟩,
 ⟨some 15, none, .mov (.t 6)⟩,
 ⟨some 16, none, .ncall true 0 151 [(.t 14), (.t 15)]⟩,
 ⟨some 17, none, .bslice 108018 3 1 [(.t 16)]⟩,
 ⟨some 18, none, .append 108019 3 1 (.t 13) (.t 17)⟩,
 ⟨some 5, none, .mov (.t 18)⟩])) (
 .reg none [
 ⟨some 11, none, .mov (.t 6)⟩,
 ⟨some 12, none, .bin .add (.t 11) (.c (.int .i64 1))⟩,
 ⟨some 6, none, .mov (.t 12)⟩]))
def b108_0 : ACode := .gh [.keep [1, 2, 5, 6]] (.gh [] l108_0)
def k108_0 : List AItem := .inLoop b108_0 :: [.inBlock 0,
 .code (.seq (
 .reg none [
 ⟨some 19, none, .mov (.t 5)⟩,
 ⟨some 4, none, .mov (.t 19)⟩]) (
 .ret))]
def c108 : ACode :=
 .seq (
 .reg none [
 ⟨some 2, none, .box 108003 133 (.t 0)⟩,
 ⟨some 4, none, .mov (.c .nils)⟩]) (
 .seq (
 .reg none [
 ⟨some 5, none, .mov (.c .nils)⟩]) (
 .seq (
 .seq (
 .reg none [
 ⟨some 6, none, .mov (.c (.int .i64 1))⟩]) (
 .block 0 (
 .loop b108_0))) (
 .seq (
 .reg none [
 ⟨some 19, none, .mov (.t 5)⟩,
 ⟨some 4, none, .mov (.t 19)⟩]) (
 .ret))))
def a108 : AFunc := ⟨20, c108, [.tmp 4]⟩
/-! 109 cassegrain/code.encoded params [3, 25] nfree 0 ntmps 31 -/
def l109_0 : ACode :=
 .seq (
 .seq (
 .reg none [
 ⟨some 15, none, .mov (.t 7)⟩,
 ⟨some 16, none, .bin .lss (.t 15) (.c (.int .i64 15))⟩]) (
 .cond (.t 16) (
 .skip) (
 .exit 0))) (
 .seq (
 .block 1 (
 .reg none [
 ⟨some 19, none, .mov (.t 6)⟩,
 ⟨some 20, none, .mov (.t 7)⟩,
 ⟨some 21, none, .bslice 109022 3 1 [(.t 20)]⟩,
 ⟨some 22, none, .append 109023 3 1 (.t 19) (.t 21)⟩,
 ⟨some 6, none, .mov (.t 22)⟩])) (
 .reg none [
 ⟨some 17, none, .mov (.t 7)⟩,
 ⟨some 18, none, .bin .add (.t 17) (.c (.int .i64 1))⟩,
 ⟨some 7, none, .mov (.t 18)⟩]))
def b109_0 : ACode := .gh [.keep [0, 4, 5, 6, 7]] (.gh [] l109_0)
def k109_0 : List AItem := .inLoop b109_0 :: [.inBlock 0,
 .code (.seq (
 .reg none [
 ⟨some 24, none, .load true 15 (.t 5)⟩,
 ⟨some 25, none, .mov (.t 0)⟩,
 ⟨some 26, none, .mov (.t 6)⟩,
 ⟨some 27, none, .ncall true 0 140 [(.t 24), (.t 25), (.t 26)]⟩,
 ⟨some 23, none, .mov (.t 27)⟩,
 ⟨some 28, none, .ext 0 (.t 23)⟩,
 ⟨some 29, none, .ext 1 (.t 23)⟩,
 ⟨some 8, none, .alloc 109009 133 (.agg (.ints .i64 [0, 0, 0, 0, 0, 0, 0, 0, 0, 0, 0, 0, 0, 0, 0]))⟩,
 ⟨none, none, .store 15 (.t 8) (.t 28)⟩,
 ⟨some 9, none, .mov (.t 29)⟩]) (
 .gh [.keep [4, 8]] (
 .seq (
 .reg none [
 ⟨some 30, none, .load true 15 (.t 8)⟩,
 ⟨none, none, .store 15 (.t 4) (.t 30)⟩]) (
 .ret))))]
def c109 : ACode :=
 .seq (
 .reg none [
 ⟨some 4, none, .alloc 109005 133 (.agg (.ints .i64 [0, 0, 0, 0, 0, 0, 0, 0, 0, 0, 0, 0, 0, 0, 0]))⟩]) (
 .seq (
 .reg none [
 ⟨some 5, none, .alloc 109006 133 (.agg (.ints .i64 [0, 0, 0, 0, 0, 0, 0, 0, 0, 0, 0, 0, 0, 0, 0]))⟩]) (
 .seq (
 .reg none [
 ⟨some 10, none, .asl 15 (.t 5) none none⟩,
 ⟨some 11, none, .mov (.t 1)⟩,
 ⟨some 12, none, .copy 1 (.t 10) (.t 11)⟩]) (
 .seq (
 .reg none [
 ⟨some 6, none, .mov (.c .nils)⟩]) (
 .seq (
 .seq (
 .reg none [
 ⟨some 13, none, .mov (.t 1)⟩,
 ⟨some 14, none, .len (.t 13)⟩,
 ⟨some 7, none, .mov (.t 14)⟩]) (
 .block 0 (
 .loop b109_0))) (
 .seq (
 .reg none [
 ⟨some 24, none, .load true 15 (.t 5)⟩,
 ⟨some 25, none, .mov (.t 0)⟩,
 ⟨some 26, none, .mov (.t 6)⟩,
 ⟨some 27, none, .ncall true 0 140 [(.t 24), (.t 25), (.t 26)]⟩,
 ⟨some 23, none, .mov (.t 27)⟩,
 ⟨some 28, none, .ext 0 (.t 23)⟩,
 ⟨some 29, none, .ext 1 (.t 23)⟩,
 ⟨some 8, none, .alloc 109009 133 (.agg (.ints .i64 [0, 0, 0, 0, 0, 0, 0, 0, 0, 0, 0, 0, 0, 0, 0]))⟩,
 ⟨none, none, .store 15 (.t 8) (.t 28)⟩,
 ⟨some 9, none, .mov (.t 29)⟩]) (
 .gh [.keep [4, 8]] (
 .seq (
 .reg none [
 ⟨some 30, none, .load true 15 (.t 8)⟩,
 ⟨none, none, .store 15 (.t 4) (.t 30)⟩]) (
 .ret))))))))
def a109 : AFunc := ⟨31, c109, [.cell 4 true 15]⟩
/-! 110 cassegrain/cassegrainref05.Power params [3] nfree 0 ntmps 13 -/
def l110_0 : ACode :=
 .seq (
 .seq (
 .reg none [
 ⟨some 5, none, .mov (.t 4)⟩,
 ⟨some 6, none, .mov (.t 0)⟩,
 ⟨some 7, none, .bin .lss (.t 5) (.t 6)⟩]) (
 .cond (.t 7) (
 .skip) (
 .exit 0))) (
 .seq (
 .block 1 (
 .reg none [
 ⟨some 10, none, .mov (.t 3)⟩,
 ⟨some 11, none, .ncall true 0 28 [(.t 10), (.c (.int .i64 2))]⟩,
 ⟨some 3, none, .mov (.t 11)⟩])) (
 .reg none [
 ⟨some 8, none, .mov (.t 4)⟩,
 ⟨some 9, none, .bin .add (.t 8) (.c (.int .i64 1))⟩,
 ⟨some 4, none, .mov (.t 9)⟩]))
def b110_0 : ACode := .gh [.keep [0, 3, 4]] (.gh [] l110_0)
def k110_0 : List AItem := .inLoop b110_0 :: [.inBlock 0,
 .code (.seq (
 .reg none [
 ⟨some 12, none, .mov (.t 3)⟩,
 ⟨some 2, none, .mov (.t 12)⟩]) (
 .ret))]
def c110 : ACode :=
 .seq (
 .reg none [
 ⟨some 2, none, .mov (.c (.int .i64 0))⟩]) (
 .seq (
 .reg none [
 ⟨some 3, none, .mov (.c (.int .i64 1))⟩]) (
 .seq (
 .seq (
 .reg none [
 ⟨some 4, none, .mov (.c (.int .i64 0))⟩]) (
 .block 0 (
 .loop b110_0))) (
 .seq (
 .reg none [
 ⟨some 12, none, .mov (.t 3)⟩,
 ⟨some 2, none, .mov (.t 12)⟩]) (
 .ret))))
def a110 : AFunc := ⟨13, c110, [.tmp 2]⟩
/-! 111 cassegrain/code.unless params [4, 27] nfree 0 ntmps 7 -/
def c111 : ACode :=
 .seq (
 .reg none [
 ⟨some 4, none, .mov (.c (.int .i64 0))⟩]) (
 .seq (
 .seq (
 .reg none [
 ⟨some 5, none, .mov (.t 0)⟩]) (
 .cond (.t 5) (
 .seq (
 .reg none [
 ⟨some 4, none, .mov (.c (.int .i64 0))⟩]) (
 .ret)) (
 .skip))) (
 .seq (
 .reg none [
 ⟨some 6, none, .mov (.t 1)⟩,
 ⟨some 4, none, .mov (.t 6)⟩]) (
 .ret)))
def a111 : AFunc := ⟨7, c111, [.tmp 4]⟩
/-! 112 cassegrain/code.within params [3, 3, 3] nfree 0 ntmps 15 -/
def c112 : ACode :=
 .seq (
 .reg none [
 ⟨some 6, none, .mov (.c (.bool false))⟩]) (
 .seq (
 .reg none [
 ⟨some 7, none, .mov (.t 1)⟩,
 ⟨some 8, none, .mov (.t 0)⟩,
 ⟨some 9, none, .bin .leq (.t 7) (.t 8)⟩,
 ⟨some 10, none, .mov (.t 9)⟩,
 ⟨some 11, (some (10, true)), .mov (.t 0)⟩,
 ⟨some 12, (some (10, true)), .mov (.t 2)⟩,
 ⟨some 13, (some (10, true)), .bin .leq (.t 11) (.t 12)⟩,
 ⟨some 14, none, .pick (.t 10) (.t 13) (.c (.bool false))⟩,
 ⟨some 6, none, .mov (.t 14)⟩]) (
 .gh [.keep [6]] (
 .ret)))
def a112 : AFunc := ⟨15, c112, [.tmp 6]⟩
/-! 113 cassegrain/cassegrainbase.CopyLists params [46] nfree 0 ntmps 20 -/
def l113_0 : ACode :=
 .seq (
 .seq (
 .reg none [
 ⟨some 5, none, .mov (.t 4)⟩,
 ⟨some 6, none, .mov (.t 0)⟩,
 ⟨some 7, none, .len (.t 6)⟩,
 ⟨some 8, none, .bin .lss (.t 5) (.t 7)⟩]) (
 .cond (.t 8) (
 .skip) (
 .exit 0))) (
 .seq (
 .block 1 (
 .reg none [
 ⟨some 11, none, .mov (.t 3)⟩,
 ⟨some 12, none, .mov (.t 0)⟩,
 ⟨some 13, none, .mov (.t 4)⟩,
 ⟨some 14, none, .iaddr 1 (.t 12) (.t 13)⟩,
 ⟨some 15, none, .load false 1 (.t 14)⟩,
 ⟨some 16, none, .ncall true 113017 20 [(.t 15)]⟩,
 ⟨some 17, none, .bslice 113018 25 1 [(.t 16)]⟩,
 ⟨some 18, none, .append 113019 25 1 (.t 11) (.t 17)⟩,
 ⟨some 3, none, .mov (.t 18)⟩])) (
 .reg none [
 ⟨some 9, none, .mov (.t 4)⟩,
 ⟨some 10, none, .bin .add (.t 9) (.c (.int .i64 1))⟩,
 ⟨some 4, none, .mov (.t 10)⟩]))
def b113_0 : ACode := .gh [.keep [0, 3, 4]] (.gh [] l113_0)
def k113_0 : List AItem := .inLoop b113_0 :: [.inBlock 0,
 .code (.seq (
 .reg none [
 ⟨some 19, none, .mov (.t 3)⟩,
 ⟨some 2, none, .mov (.t 19)⟩]) (
 .ret))]
def c113 : ACode :=
 .seq (
 .reg none [
 ⟨some 2, none, .mov (.c .nils)⟩]) (
 .seq (
 .reg none [
 ⟨some 3, none, .mov (.c .nils)⟩]) (
 .seq (
 .seq (
 .reg none [
 ⟨some 4, none, .mov (.c (.int .i64 0))⟩]) (
 .block 0 (
 .loop b113_0))) (
 .seq (
 .reg none [
 ⟨some 19, none, .mov (.t 3)⟩,
 ⟨some 2, none, .mov (.t 19)⟩]) (
 .ret))))
def a113 : AFunc := ⟨20, c113, [.tmp 2]⟩
/-! 114 cassegrain/code.wordErr params [48, 25] nfree 0 ntmps 17 -/
def c114 : ACode :=
 .seq (
 .reg none [
 ⟨some 2, none, .box 114003 48 (.t 0)⟩,
 ⟨some 4, none, .mov (.c (.int .i64 0))⟩]) (
 .seq (
 .reg (some []) [
 ⟨some 5, none, .load true 2 (.t 2)⟩,
 ⟨some 6, none, .ncall true 0 133 [(.t 5)]⟩,
 ⟨some 7, none, .mov (.t 1)⟩,
 ⟨some 8, none, .len (.t 7)⟩,
 ⟨some 9, none, .faddr 0 (.t 2)⟩,
 ⟨some 10, none, .load false 1 (.t 9)⟩,
 ⟨some 11, none, .bin .eql (.t 8) (.t 10)⟩,
 ⟨some 12, none, .ncall true 0 111 [(.t 11), (.c (.int .i64 10))]⟩,
 ⟨some 13, none, .mov (.t 1)⟩,
 ⟨some 14, none, .ncall true 0 103 [(.t 13), (.c (.int .i64 0)), (.c (.int .i64 1))]⟩,
 ⟨some 15, none, .bslice 114016 27 1 [(.t 6), (.t 12), (.t 14)]⟩,
 ⟨some 16, none, .ncall true 0 105 [(.t 15)]⟩,
 ⟨some 4, none, .mov (.t 16)⟩]) (
 .gh [.keep [4]] (
 .ret)))
def a114 : AFunc := ⟨17, c114, [.tmp 4]⟩
/-! 115 cassegrain/code.unsatisfied params [48, 25] nfree 0 ntmps 40 -/
def l115_1 : ACode :=
 .seq (
 .reg none [
 ⟨some 22, none, .bin .lss (.t 21) (.t 20)⟩]) (
 .seq (
 .cond (.t 22) (
 .skip) (
 .exit 2)) (
 .seq (
 .block 3 (
 .seq (
 .reg none [
 ⟨some 23, none, .iaddr 1 (.t 19) (.t 21)⟩,
 ⟨some 24, none, .load false 1 (.t 23)⟩,
 ⟨some 10, none, .mov (.t 24)⟩]) (
 .reg none [
 ⟨some 25, none, .mov (.t 8)⟩,
 ⟨some 26, none, .mov (.t 1)⟩,
 ⟨some 27, none, .mov (.t 10)⟩,
 ⟨some 28, none, .iaddr 1 (.t 26) (.t 27)⟩,
 ⟨some 29, none, .load false 1 (.t 28)⟩,
 ⟨some 30, none, .bin .xor (.t 25) (.t 29)⟩,
 ⟨some 8, none, .mov (.t 30)⟩]))) (
 .reg none [
 ⟨some 31, none, .bin .add (.t 21) (.c (.int .i64 1))⟩,
 ⟨some 21, none, .mov (.t 31)⟩])))
def b115_1 : ACode := .gh [.keep [1, 5, 6, 8, 12, 13, 14, 19, 20, 21]] (.gh [] l115_1)
def l115_0 : ACode :=
 .seq (
 .reg none [
 ⟨some 15, none, .bin .lss (.t 14) (.t 13)⟩]) (
 .seq (
 .cond (.t 15) (
 .skip) (
 .exit 0)) (
 .seq (
 .block 1 (
 .seq (
 .reg none [
 ⟨some 16, none, .mov (.t 14)⟩,
 ⟨some 17, none, .iaddr 1 (.t 12) (.t 14)⟩,
 ⟨some 18, none, .load false 1 (.t 17)⟩,
 ⟨some 6, none, .mov (.t 16)⟩,
 ⟨some 7, none, .mov (.t 18)⟩]) (
 .seq (
 .reg none [
 ⟨some 8, none, .mov (.c (.int .i64 0))⟩]) (
 .seq (
 .seq (
 .reg none [
 ⟨some 19, none, .mov (.t 7)⟩,
 ⟨some 20, none, .len (.t 19)⟩,
 ⟨some 21, none, .mov (.c (.int .i64 0))⟩]) (
 .block 2 (
 .loop b115_1))) (
 .seq (
 .reg none [
 ⟨some 32, none, .mov (.t 8)⟩,
 ⟨some 33, none, .bin .eql (.t 32) (.c (.int .i64 1))⟩]) (
 .cond (.t 33) (
 .reg none [
 ⟨some 34, none, .mov (.t 5)⟩,
 ⟨some 35, none, .mov (.t 6)⟩,
 ⟨some 36, none, .bslice 115037 3 1 [(.t 35)]⟩,
 ⟨some 37, none, .append 115038 3 1 (.t 34) (.t 36)⟩,
 ⟨some 5, none, .mov (.t 37)⟩]) (
 .skip))))))) (
 .reg none [
 ⟨some 38, none, .bin .add (.t 14) (.c (.int .i64 1))⟩,
 ⟨some 14, none, .mov (.t 38)⟩])))
def b115_0 : ACode := .gh [.keep [1, 5, 12, 13, 14]] (.gh [] l115_0)
def k115_1 : List AItem := .inLoop b115_1 :: [.inBlock 2,
 .code (.seq (
 .reg none [
 ⟨some 32, none, .mov (.t 8)⟩,
 ⟨some 33, none, .bin .eql (.t 32) (.c (.int .i64 1))⟩]) (
 .cond (.t 33) (
 .reg none [
 ⟨some 34, none, .mov (.t 5)⟩,
 ⟨some 35, none, .mov (.t 6)⟩,
 ⟨some 36, none, .bslice 115037 3 1 [(.t 35)]⟩,
 ⟨some 37, none, .append 115038 3 1 (.t 34) (.t 36)⟩,
 ⟨some 5, none, .mov (.t 37)⟩]) (
 .skip))),
 .inBlock 1,
 .code (.reg none [
 ⟨some 38, none, .bin .add (.t 14) (.c (.int .i64 1))⟩,
 ⟨some 14, none, .mov (.t 38)⟩]),
 .inLoop b115_0,
 .inBlock 0,
 .code (.seq (
 .reg none [
 ⟨some 39, none, .mov (.t 5)⟩,
 ⟨some 4, none, .mov (.t 39)⟩]) (
 .ret))]
def k115_0 : List AItem := .inLoop b115_0 :: [.inBlock 0,
 .code (.seq (
 .reg none [
 ⟨some 39, none, .mov (.t 5)⟩,
 ⟨some 4, none, .mov (.t 39)⟩]) (
 .ret))]
def c115 : ACode :=
 .seq (
 .reg none [
 ⟨some 2, none, .box 115003 48 (.t 0)⟩,
 ⟨some 4, none, .mov (.c .nils)⟩]) (
 .seq (
 .reg none [
 ⟨some 5, none, .mov (.c .nils)⟩]) (
 .seq (
 .seq (
 .reg none [
 ⟨some 11, none, .faddr 1 (.t 2)⟩,
 ⟨some 12, none, .load false 1 (.t 11)⟩,
 ⟨some 13, none, .len (.t 12)⟩,
 ⟨some 14, none, .mov (.c (.int .i64 0))⟩]) (
 .block 0 (
 .loop b115_0))) (
 .seq (
 .reg none [
 ⟨some 39, none, .mov (.t 5)⟩,
 ⟨some 4, none, .mov (.t 39)⟩]) (
 .ret))))
def a115 : AFunc := ⟨40, c115, [.tmp 4]⟩
/-! 116 cassegrain/code.flipped params [48, 25] nfree 0 ntmps 66 -/
def l116_0 : ACode :=
 .seq (
 .reg none [
 ⟨some 52, none, .bin .lss (.t 51) (.t 50)⟩]) (
 .seq (
 .cond (.t 52) (
 .skip) (
 .exit 4)) (
 .seq (
 .block 5 (
 .seq (
 .reg none [
 ⟨some 53, none, .mov (.t 51)⟩,
 ⟨some 54, none, .iaddr 1 (.t 49) (.t 51)⟩,
 ⟨some 55, none, .load false 1 (.t 54)⟩,
 ⟨some 13, none, .mov (.t 53)⟩,
 ⟨some 14, none, .mov (.t 55)⟩]) (
 .seq (
 .reg none [
 ⟨some 56, none, .mov (.t 14)⟩,
 ⟨some 57, none, .bin .gtr (.t 56) (.c (.int .i64 0))⟩]) (
 .cond (.t 57) (
 .reg none [
 ⟨some 58, none, .mov (.t 12)⟩,
 ⟨some 59, none, .mov (.t 13)⟩,
 ⟨some 60, none, .iaddr 1 (.t 58) (.t 59)⟩,
 ⟨some 61, none, .load false 1 (.t 60)⟩,
 ⟨some 62, none, .bin .xor (.t 61) (.c (.int .i64 1))⟩,
 ⟨some 63, none, .iaddr 1 (.t 58) (.t 59)⟩,
 ⟨none, none, .store 1 (.t 63) (.t 62)⟩]) (
 .skip))))) (
 .reg none [
 ⟨some 64, none, .bin .add (.t 51) (.c (.int .i64 1))⟩,
 ⟨some 51, none, .mov (.t 64)⟩])))
def b116_0 : ACode := .gh [.keep [12, 49, 50, 51]] (.gh [] l116_0)
def l116_2 : ACode :=
 .seq (
 .reg none [
 ⟨some 35, none, .bin .lss (.t 34) (.t 33)⟩]) (
 .seq (
 .cond (.t 35) (
 .skip) (
 .exit 2)) (
 .seq (
 .block 3 (
 .seq (
 .reg none [
 ⟨some 36, none, .iaddr 1 (.t 32) (.t 34)⟩,
 ⟨some 37, none, .load false 1 (.t 36)⟩,
 ⟨some 11, none, .mov (.t 37)⟩]) (
 .reg none [
 ⟨some 38, none, .mov (.t 5)⟩,
 ⟨some 39, none, .mov (.t 11)⟩,
 ⟨some 40, none, .iaddr 1 (.t 38) (.t 39)⟩,
 ⟨some 41, none, .load false 1 (.t 40)⟩,
 ⟨some 42, none, .mov (.t 9)⟩,
 ⟨some 43, none, .bin .add (.t 41) (.t 42)⟩,
 ⟨some 44, none, .iaddr 1 (.t 38) (.t 39)⟩,
 ⟨none, none, .store 1 (.t 44) (.t 43)⟩]))) (
 .reg none [
 ⟨some 45, none, .bin .add (.t 34) (.c (.int .i64 1))⟩,
 ⟨some 34, none, .mov (.t 45)⟩])))
def b116_2 : ACode := .gh [.keep [1, 5, 6, 9, 22, 23, 24, 32, 33, 34]] (.gh [] l116_2)
def l116_1 : ACode :=
 .seq (
 .reg none [
 ⟨some 25, none, .bin .lss (.t 24) (.t 23)⟩]) (
 .seq (
 .cond (.t 25) (
 .skip) (
 .exit 0)) (
 .seq (
 .block 1 (
 .seq (
 .reg none [
 ⟨some 26, none, .mov (.t 24)⟩,
 ⟨some 27, none, .iaddr 1 (.t 22) (.t 24)⟩,
 ⟨some 28, none, .load false 1 (.t 27)⟩,
 ⟨some 7, none, .mov (.t 26)⟩,
 ⟨some 8, none, .mov (.t 28)⟩]) (
 .seq (
 .reg none [
 ⟨some 9, none, .mov (.c (.int .i64 (-1)))⟩]) (
 .seq (
 .seq (
 .reg none [
 ⟨some 29, none, .mov (.t 6)⟩,
 ⟨some 30, none, .mov (.t 7)⟩,
 ⟨some 31, none, .ncall true 0 152 [(.t 29), (.t 30)]⟩]) (
 .cond (.t 31) (
 .reg none [
 ⟨some 9, none, .mov (.c (.int .i64 1))⟩]) (
 .skip))) (
 .seq (
 .reg none [
 ⟨some 32, none, .mov (.t 8)⟩,
 ⟨some 33, none, .len (.t 32)⟩,
 ⟨some 34, none, .mov (.c (.int .i64 0))⟩]) (
 .block 2 (
 .loop b116_2))))))) (
 .reg none [
 ⟨some 46, none, .bin .add (.t 24) (.c (.int .i64 1))⟩,
 ⟨some 24, none, .mov (.t 46)⟩])))
def b116_1 : ACode := .gh [.keep [1, 5, 6, 22, 23, 24]] (.gh [] l116_1)
def k116_0 : List AItem := .inLoop b116_0 :: [.inBlock 4,
 .code (.seq (
 .reg none [
 ⟨some 65, none, .mov (.t 12)⟩,
 ⟨some 4, none, .mov (.t 65)⟩]) (
 .ret))]
def k116_2 : List AItem := .inLoop b116_2 :: [.inBlock 2,
 .inBlock 1,
 .code (.reg none [
 ⟨some 46, none, .bin .add (.t 24) (.c (.int .i64 1))⟩,
 ⟨some 24, none, .mov (.t 46)⟩]),
 .inLoop b116_1,
 .inBlock 0,
 .code (.seq (
 .reg none [
 ⟨some 47, none, .mov (.t 1)⟩,
 ⟨some 48, none, .ncall true 116049 129 [(.t 47)]⟩,
 ⟨some 12, none, .mov (.t 48)⟩]) (
 .seq (
 .seq (
 .reg none [
 ⟨some 49, none, .mov (.t 5)⟩,
 ⟨some 50, none, .len (.t 49)⟩,
 ⟨some 51, none, .mov (.c (.int .i64 0))⟩]) (
 .block 4 (
 .loop b116_0))) (
 .seq (
 .reg none [
 ⟨some 65, none, .mov (.t 12)⟩,
 ⟨some 4, none, .mov (.t 65)⟩]) (
 .ret))))]
def k116_1 : List AItem := .inLoop b116_1 :: [.inBlock 0,
 .code (.seq (
 .reg none [
 ⟨some 47, none, .mov (.t 1)⟩,
 ⟨some 48, none, .ncall true 116049 129 [(.t 47)]⟩,
 ⟨some 12, none, .mov (.t 48)⟩]) (
 .seq (
 .seq (
 .reg none [
 ⟨some 49, none, .mov (.t 5)⟩,
 ⟨some 50, none, .len (.t 49)⟩,
 ⟨some 51, none, .mov (.c (.int .i64 0))⟩]) (
 .block 4 (
 .loop b116_0))) (
 .seq (
 .reg none [
 ⟨some 65, none, .mov (.t 12)⟩,
 ⟨some 4, none, .mov (.t 65)⟩]) (
 .ret))))]
def c116 : ACode :=
 .seq (
 .reg none [
 ⟨some 2, none, .box 116003 48 (.t 0)⟩,
 ⟨some 4, none, .mov (.c .nils)⟩]) (
 .seq (
 .reg none [
 ⟨some 15, none, .faddr 0 (.t 2)⟩,
 ⟨some 16, none, .load false 1 (.t 15)⟩,
 ⟨some 17, none, .mkslice 116018 3 1 (.int .i64 0) (.t 16)⟩,
 ⟨some 5, none, .mov (.t 17)⟩]) (
 .seq (
 .reg none [
 ⟨some 18, none, .load true 2 (.t 2)⟩,
 ⟨some 19, none, .mov (.t 1)⟩,
 ⟨some 20, none, .ncall true 116021 115 [(.t 18), (.t 19)]⟩,
 ⟨some 6, none, .mov (.t 20)⟩]) (
 .seq (
 .seq (
 .reg none [
 ⟨some 21, none, .faddr 1 (.t 2)⟩,
 ⟨some 22, none, .load false 1 (.t 21)⟩,
 ⟨some 23, none, .len (.t 22)⟩,
 ⟨some 24, none, .mov (.c (.int .i64 0))⟩]) (
 .block 0 (
 .loop b116_1))) (
 .seq (
 .reg none [
 ⟨some 47, none, .mov (.t 1)⟩,
 ⟨some 48, none, .ncall true 116049 129 [(.t 47)]⟩,
 ⟨some 12, none, .mov (.t 48)⟩]) (
 .seq (
 .seq (
 .reg none [
 ⟨some 49, none, .mov (.t 5)⟩,
 ⟨some 50, none, .len (.t 49)⟩,
 ⟨some 51, none, .mov (.c (.int .i64 0))⟩]) (
 .block 4 (
 .loop b116_0))) (
 .seq (
 .reg none [
 ⟨some 65, none, .mov (.t 12)⟩,
 ⟨some 4, none, .mov (.t 65)⟩]) (
 .ret)))))))
def a116 : AFunc := ⟨66, c116, [.tmp 4]⟩
/-! 117 cassegrain/cassegrainref05.AreErr params [25] nfree 0 ntmps 6 -/
def c117 : ACode :=
 .seq (
 .reg none [
 ⟨some 2, none, .mov (.c (.int .i64 0))⟩]) (
 .seq (
 .seq (
 .reg none [
 ⟨some 3, none, .mov (.t 0)⟩,
 ⟨some 4, none, .ncall true 0 48 [(.t 3)]⟩,
 ⟨some 5, none, .not (.t 4)⟩]) (
 .cond (.t 5) (
 .seq (
 .reg none [
 ⟨some 2, none, .mov (.c (.int .i64 2))⟩]) (
 .ret)) (
 .skip))) (
 .seq (
 .reg none [
 ⟨some 2, none, .mov (.c (.int .i64 0))⟩]) (
 .ret)))
def a117 : AFunc := ⟨6, c117, [.tmp 2]⟩
/-! 118 cassegrain/code.bitsErr params [25] nfree 0 ntmps 11 -/
def c118 : ACode :=
 .seq (
 .reg none [
 ⟨some 2, none, .mov (.c (.int .i64 0))⟩]) (
 .seq (
 .reg none [
 ⟨some 3, none, .mov (.t 0)⟩,
 ⟨some 4, none, .len (.t 3)⟩,
 ⟨some 5, none, .bin .leq (.t 4) (.c (.int .i64 300))⟩,
 ⟨some 6, none, .ncall true 0 111 [(.t 5), (.c (.int .i64 8))]⟩,
 ⟨some 7, none, .mov (.t 0)⟩,
 ⟨some 8, none, .ncall true 0 103 [(.t 7), (.c (.int .i64 0)), (.c (.int .i64 1))]⟩,
 ⟨some 9, none, .bslice 118010 27 1 [(.t 6), (.t 8)]⟩,
 ⟨some 10, none, .ncall true 0 105 [(.t 9)]⟩,
 ⟨some 2, none, .mov (.t 10)⟩]) (
 .gh [.keep [2]] (
 .ret)))
def a118 : AFunc := ⟨11, c118, [.tmp 2]⟩
/-! 119 cassegrain/code.encode params [24, 25] nfree 0 ntmps 34 -/
def l119_0 : ACode :=
 .seq (
 .reg none [
 ⟨some 18, none, .bin .lss (.t 17) (.t 16)⟩]) (
 .seq (
 .cond (.t 18) (
 .skip) (
 .exit 0)) (
 .seq (
 .block 1 (
 .seq (
 .reg none [
 ⟨some 19, none, .iaddr 1 (.t 15) (.t 17)⟩,
 ⟨some 20, none, .load false 1 (.t 19)⟩,
 ⟨some 8, none, .mov (.t 20)⟩]) (
 .seq (
 .reg none [
 ⟨some 22, none, .load true 3 (.t 2)⟩,
 ⟨some 23, none, .mov (.t 6)⟩,
 ⟨some 24, none, .mov (.t 8)⟩,
 ⟨some 25, none, .ncall true 0 121 [(.t 22), (.t 23), (.t 24)]⟩,
 ⟨some 21, none, .mov (.t 25)⟩,
 ⟨some 26, none, .ext 0 (.t 21)⟩,
 ⟨some 27, none, .ext 1 (.t 21)⟩,
 ⟨some 10, none, .alloc 119011 22 (.agg (.ints .i64 [0, 0]))⟩,
 ⟨some 9, none, .mov (.t 26)⟩,
 ⟨none, none, .store 2 (.t 10) (.t 27)⟩]) (
 .gh [.keep [2, 5, 9, 10, 15, 16, 17]] (
 .seq (
 .reg none [
 ⟨some 28, none, .mov (.t 5)⟩,
 ⟨some 29, none, .asl 2 (.t 10) none none⟩,
 ⟨some 30, none, .append 119031 3 1 (.t 28) (.t 29)⟩,
 ⟨some 5, none, .mov (.t 30)⟩]) (
 .reg none [
 ⟨some 31, none, .mov (.t 9)⟩,
 ⟨some 6, none, .mov (.t 31)⟩])))))) (
 .reg none [
 ⟨some 32, none, .bin .add (.t 17) (.c (.int .i64 1))⟩,
 ⟨some 17, none, .mov (.t 32)⟩])))
def b119_0 : ACode := .gh [.keep [2, 5, 6, 15, 16, 17]] (.gh [] l119_0)
def k119_0 : List AItem := .inLoop b119_0 :: [.inBlock 0,
 .code (.seq (
 .reg none [
 ⟨some 33, none, .mov (.t 5)⟩,
 ⟨some 4, none, .mov (.t 33)⟩]) (
 .ret))]
def c119 : ACode :=
 .seq (
 .reg none [
 ⟨some 2, none, .box 119003 24 (.t 0)⟩,
 ⟨some 4, none, .mov (.c .nils)⟩]) (
 .seq (
 .reg none [
 ⟨some 5, none, .mov (.c .nils)⟩]) (
 .seq (
 .reg none [
 ⟨some 6, none, .mov (.c (.int .i64 0))⟩]) (
 .seq (
 .seq (
 .reg (some [(1, 2), (1, 3), (1, 6), (4, 6)]) [
 ⟨some 11, none, .mov (.t 1)⟩,
 ⟨some 12, none, .ncall true 119013 129 [(.t 11)]⟩,
 ⟨some 13, none, .faddr 0 (.t 2)⟩,
 ⟨some 14, none, .load false 1 (.t 13)⟩,
 ⟨some 15, none, .append 119016 3 1 (.t 12) (.t 14)⟩,
 ⟨some 16, none, .len (.t 15)⟩,
 ⟨some 17, none, .mov (.c (.int .i64 0))⟩]) (
 .block 0 (
 .loop b119_0))) (
 .seq (
 .reg none [
 ⟨some 33, none, .mov (.t 5)⟩,
 ⟨some 4, none, .mov (.t 33)⟩]) (
 .ret)))))
def a119 : AFunc := ⟨34, c119, [.tmp 4]⟩
/-! 120 cassegrain/code.FreeDistance$1 params [3, 3] nfree 1 ntmps 22 -/
def c120 : ACode :=
 .seq (
 .reg none [
 ⟨some 5, none, .mov (.c (.int .i64 0))⟩,
 ⟨some 6, none, .mov (.c (.int .i64 0))⟩]) (
 .seq (
 .reg none [
 ⟨some 10, none, .load true 3 (.t 2)⟩,
 ⟨some 11, none, .mov (.t 0)⟩,
 ⟨some 12, none, .mov (.t 1)⟩,
 ⟨some 13, none, .ncall true 0 121 [(.t 10), (.t 11), (.t 12)]⟩,
 ⟨some 9, none, .mov (.t 13)⟩,
 ⟨some 14, none, .ext 0 (.t 9)⟩,
 ⟨some 15, none, .ext 1 (.t 9)⟩,
 ⟨some 8, none, .alloc 120009 22 (.agg (.ints .i64 [0, 0]))⟩,
 ⟨some 7, none, .mov (.t 14)⟩,
 ⟨none, none, .store 2 (.t 8) (.t 15)⟩]) (
 .gh [.keep [7, 8]] (
 .seq (
 .reg (some []) [
 ⟨some 16, none, .mov (.t 7)⟩,
 ⟨some 17, none, .aaddr 2 1 (.t 8) (.c (.int .i64 0))⟩,
 ⟨some 18, none, .load false 1 (.t 17)⟩,
 ⟨some 19, none, .aaddr 2 1 (.t 8) (.c (.int .i64 1))⟩,
 ⟨some 20, none, .load false 1 (.t 19)⟩,
 ⟨some 21, none, .bin .add (.t 18) (.t 20)⟩,
 ⟨some 5, none, .mov (.t 16)⟩,
 ⟨some 6, none, .mov (.t 21)⟩]) (
 .gh [.keep [5, 6]] (
 .ret)))))
def a120 : AFunc := ⟨22, c120, [.tmp 5, .tmp 6]⟩
/-! 121 cassegrain/code.step params [24, 3, 3] nfree 0 ntmps 35 -/
def l121_0 : ACode :=
 .seq (
 .reg none [
 ⟨some 20, none, .bin .lss (.t 19) (.c (.int .i64 2))⟩]) (
 .seq (
 .cond (.t 20) (
 .skip) (
 .exit 0)) (
 .seq (
 .block 1 (
 .seq (
 .reg none [
 ⟨some 21, none, .mov (.t 19)⟩,
 ⟨some 22, none, .idx 2 (.t 18) (.t 19)⟩,
 ⟨some 9, none, .mov (.t 21)⟩,
 ⟨some 10, none, .mov (.t 22)⟩]) (
 .reg none [
 ⟨some 23, none, .mov (.t 9)⟩,
 ⟨some 24, none, .mov (.t 8)⟩,
 ⟨some 25, none, .mov (.t 10)⟩,
 ⟨some 26, none, .bin .and (.t 24) (.t 25)⟩,
 ⟨some 27, none, .conv .u64 (.t 26)⟩,
 ⟨some 28, none, .ncall true 0 153 [(.t 27)]⟩,
 ⟨some 29, none, .bin .rem (.t 28) (.c (.int .i64 2))⟩,
 ⟨some 30, none, .aaddr 2 1 (.t 7) (.t 23)⟩,
 ⟨none, none, .store 1 (.t 30) (.t 29)⟩]))) (
 .reg none [
 ⟨some 31, none, .bin .add (.t 19) (.c (.int .i64 1))⟩,
 ⟨some 19, none, .mov (.t 31)⟩])))
def b121_0 : ACode := .gh [.keep [7, 8, 18, 19]] (.gh [] l121_0)
def k121_0 : List AItem := .inLoop b121_0 :: [.inBlock 0,
 .code (.seq (
 .reg (some []) [
 ⟨some 32, none, .mov (.t 8)⟩,
 ⟨some 33, none, .bin .shr (.t 32) (.c (.int .u64 1))⟩,
 ⟨some 34, none, .load true 2 (.t 7)⟩,
 ⟨some 6, none, .mov (.t 33)⟩,
 ⟨none, none, .store 2 (.t 7) (.t 34)⟩]) (
 .ret))]
def c121 : ACode :=
 .seq (
 .reg none [
 ⟨some 3, none, .box 121004 24 (.t 0)⟩,
 ⟨some 6, none, .mov (.c (.int .i64 0))⟩,
 ⟨some 7, none, .alloc 121008 22 (.agg (.ints .i64 [0, 0]))⟩]) (
 .seq (
 .reg none [
 ⟨some 11, none, .mov (.t 2)⟩,
 ⟨some 12, none, .faddr 0 (.t 3)⟩,
 ⟨some 13, none, .load false 1 (.t 12)⟩,
 ⟨some 14, none, .bin .shl (.t 11) (.t 13)⟩,
 ⟨some 15, none, .mov (.t 1)⟩,
 ⟨some 16, none, .bin .or (.t 14) (.t 15)⟩,
 ⟨some 8, none, .mov (.t 16)⟩]) (
 .gh [.keep [3, 7, 8]] (
 .seq (
 .seq (
 .reg none [
 ⟨some 17, none, .faddr 1 (.t 3)⟩,
 ⟨some 18, none, .load true 2 (.t 17)⟩,
 ⟨some 19, none, .mov (.c (.int .i64 0))⟩]) (
 .block 0 (
 .loop b121_0))) (
 .seq (
 .reg (some []) [
 ⟨some 32, none, .mov (.t 8)⟩,
 ⟨some 33, none, .bin .shr (.t 32) (.c (.int .u64 1))⟩,
 ⟨some 34, none, .load true 2 (.t 7)⟩,
 ⟨some 6, none, .mov (.t 33)⟩,
 ⟨none, none, .store 2 (.t 7) (.t 34)⟩]) (
 .ret)))))
def a121 : AFunc := ⟨35, c121, [.tmp 6, .cell 7 true 2]⟩
/-! 122 slices.Repeat[[]int,int] params [25, 3] nfree 0 ntmps 48 -/
def l122_0 : ACode :=
 .seq (
 .seq (
 .reg none [
 ⟨some 34, none, .mov (.t 8)⟩,
 ⟨some 35, none, .mov (.t 7)⟩,
 ⟨some 36, none, .len (.t 35)⟩,
 ⟨some 37, none, .bin .lss (.t 34) (.t 36)⟩]) (
 .cond (.t 37) (
 .skip) (
 .exit 0))) (
 .block 1 (
 .reg (some [(0, 7)]) [
 ⟨some 38, none, .mov (.t 8)⟩,
 ⟨some 39, none, .mov (.t 7)⟩,
 ⟨some 40, none, .mov (.t 8)⟩,
 ⟨some 41, none, .slc 1 (.t 39) (some (.t 40)) none none⟩,
 ⟨some 42, none, .mov (.t 7)⟩,
 ⟨some 43, none, .mov (.t 8)⟩,
 ⟨some 44, none, .slc 1 (.t 42) none (some (.t 43)) none⟩,
 ⟨some 45, none, .copy 1 (.t 41) (.t 44)⟩,
 ⟨some 46, none, .bin .add (.t 38) (.t 45)⟩,
 ⟨some 8, none, .mov (.t 46)⟩]))
def b122_0 : ACode := .gh [.keep [7, 8]] (.gh [] l122_0)
def k122_0 : List AItem := .inLoop b122_0 :: [.inBlock 0,
 .code (.seq (
 .reg none [
 ⟨some 47, none, .mov (.t 7)⟩,
 ⟨some 4, none, .mov (.t 47)⟩]) (
 .ret))]
def c122 : ACode :=
 .seq (
 .reg none [
 ⟨some 4, none, .mov (.c .nils)⟩]) (
 .seq (
 .seq (
 .reg none [
 ⟨some 9, none, .mov (.t 1)⟩,
 ⟨some 10, none, .bin .lss (.t 9) (.c (.int .i64 0))⟩]) (
 .cond (.t 10) (
 .junk /- op makeInterface -/) (
 .skip))) (
 .seq (
 .reg none [
 ⟨some 13, none, .mov (.t 0)⟩,
 ⟨some 14, none, .len (.t 13)⟩,
 ⟨some 15, none, .conv .u64 (.t 14)⟩,
 ⟨some 16, none, .mov (.t 1)⟩,
 ⟨some 17, none, .conv .u64 (.t 16)⟩,
 ⟨some 18, none, .ncall true 0 154 [(.t 15), (.t 17)]⟩,
 ⟨some 12, none, .mov (.t 18)⟩,
 ⟨some 19, none, .ext 0 (.t 12)⟩,
 ⟨some 20, none, .ext 1 (.t 12)⟩,
 ⟨some 5, none, .mov (.t 19)⟩,
 ⟨some 6, none, .mov (.t 20)⟩]) (
 .gh [.keep [0, 5, 6]] (
 .seq (
 .seq (
 .reg none [
 ⟨some 21, none, .mov (.t 5)⟩,
 ⟨some 22, none, .bin .gtr (.t 21) (.c (.int .u64 0))⟩,
 ⟨some 23, none, .mov (.t 22)⟩,
 ⟨some 24, (some (23, false)), .mov (.t 6)⟩,
 ⟨some 25, (some (23, false)), .bin .gtr (.t 24) (.c (.int .u64 9223372036854775807))⟩,
 ⟨some 26, none, .pick (.t 23) (.c (.bool true)) (.t 25)⟩]) (
 .cond (.t 26) (
 .junk /- op makeInterface -/) (
 .skip))) (
 .seq (
 .reg none [
 ⟨some 28, none, .mov (.t 6)⟩,
 ⟨some 29, none, .conv .i64 (.t 28)⟩,
 ⟨some 30, none, .mkslice 122031 3 1 (.int .i64 0) (.t 29)⟩,
 ⟨some 7, none, .mov (.t 30)⟩]) (
 .seq (
 .reg none [
 ⟨some 31, none, .mov (.t 7)⟩,
 ⟨some 32, none, .mov (.t 0)⟩,
 ⟨some 33, none, .copy 1 (.t 31) (.t 32)⟩,
 ⟨some 8, none, .mov (.t 33)⟩]) (
 .seq (
 .block 0 (
 .loop b122_0)) (
 .seq (
 .reg none [
 ⟨some 47, none, .mov (.t 7)⟩,
 ⟨some 4, none, .mov (.t 47)⟩]) (
 .ret)))))))))
def a122 : AFunc := ⟨48, c122, [.tmp 4]⟩
/-! 123 cassegrain/code.listErr params [25, 3] nfree 0 ntmps 24 -/
def c123 : ACode :=
 .seq (
 .reg none [
 ⟨some 4, none, .mov (.c (.int .i64 0))⟩]) (
 .seq (
 .seq (
 .reg none [
 ⟨some 6, none, .mov (.t 0)⟩,
 ⟨some 7, none, .len (.t 6)⟩,
 ⟨some 8, none, .bin .leq (.t 7) (.c (.int .i64 400))⟩,
 ⟨some 9, none, .ncall true 0 111 [(.t 8), (.c (.int .i64 8))]⟩,
 ⟨some 10, none, .mov (.t 1)⟩,
 ⟨some 11, none, .ncall true 0 112 [(.t 10), (.c (.int .i64 1)), (.c (.int .i64 400))]⟩,
 ⟨some 12, none, .ncall true 0 111 [(.t 11), (.c (.int .i64 2))]⟩,
 ⟨some 13, none, .bslice 123014 27 1 [(.t 9), (.t 12)]⟩,
 ⟨some 14, none, .ncall true 0 105 [(.t 13)]⟩,
 ⟨some 5, none, .mov (.t 14)⟩]) (
 .gh [.keep [0, 1, 5]] (
 .seq (
 .reg none [
 ⟨some 15, none, .mov (.t 5)⟩,
 ⟨some 16, none, .bin .neq (.t 15) (.c (.int .i64 0))⟩]) (
 .cond (.t 16) (
 .seq (
 .reg none [
 ⟨some 17, none, .mov (.t 5)⟩,
 ⟨some 4, none, .mov (.t 17)⟩]) (
 .ret)) (
 .skip))))) (
 .seq (
 .reg none [
 ⟨some 18, none, .mov (.t 0)⟩,
 ⟨some 19, none, .len (.t 18)⟩,
 ⟨some 20, none, .mov (.t 1)⟩,
 ⟨some 21, none, .bin .rem (.t 19) (.t 20)⟩,
 ⟨some 22, none, .bin .eql (.t 21) (.c (.int .i64 0))⟩,
 ⟨some 23, none, .ncall true 0 111 [(.t 22), (.c (.int .i64 10))]⟩,
 ⟨some 4, none, .mov (.t 23)⟩]) (
 .gh [.keep [4]] (
 .ret))))
def a123 : AFunc := ⟨24, c123, [.tmp 4]⟩
end Go.Proofs.Ytimmgjppippdiaa
