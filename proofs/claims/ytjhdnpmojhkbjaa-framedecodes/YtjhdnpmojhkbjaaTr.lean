/- The code of the program, for the machine, part 3. Printed by gen2.py. -/
import Derived.Test.YtjhdnpmojhkbjaaTq
namespace Go.Proofs.Ytjhdnpmojhkbjaa
/-! 141 slices.rotateCmpFunc[cassegrain/frame.numbered] params [137, 3, 3, 3, 180] nfree 0 ntmps 58 -/
def l141_0 : ACode :=
 .seq (
 .seq (
 .reg none [
 ⟨some 18, none, .mov (.t 10)⟩,
 ⟨some 19, none, .mov (.t 11)⟩,
 ⟨some 20, none, .bin .neq (.t 18) (.t 19)⟩]) (
 .cond (.t 20) (
 .skip) (
 .exit 0))) (
 .block 1 (
 .seq (
 .reg none [
 ⟨some 21, none, .mov (.t 10)⟩,
 ⟨some 22, none, .mov (.t 11)⟩,
 ⟨some 23, none, .bin .gtr (.t 21) (.t 22)⟩]) (
 .cond (.t 23) (
 .seq (
 .reg none [
 ⟨some 24, none, .mov (.t 0)⟩,
 ⟨some 25, none, .mov (.t 2)⟩,
 ⟨some 26, none, .mov (.t 10)⟩,
 ⟨some 27, none, .bin .sub (.t 25) (.t 26)⟩,
 ⟨some 28, none, .mov (.t 2)⟩,
 ⟨some 29, none, .mov (.t 11)⟩,
 ⟨some 30, none, .mov (.t 4)⟩,
 ⟨some 31, none, .ncall true 0 142 [(.t 24), (.t 27), (.t 28), (.t 29), (.t 30)]⟩]) (
 .gh [.keep [0, 2, 4, 10, 11]] (
 .reg none [
 ⟨some 32, none, .mov (.t 10)⟩,
 ⟨some 33, none, .mov (.t 11)⟩,
 ⟨some 34, none, .bin .sub (.t 32) (.t 33)⟩,
 ⟨some 10, none, .mov (.t 34)⟩]))) (
 .seq (
 .reg none [
 ⟨some 35, none, .mov (.t 0)⟩,
 ⟨some 36, none, .mov (.t 2)⟩,
 ⟨some 37, none, .mov (.t 10)⟩,
 ⟨some 38, none, .bin .sub (.t 36) (.t 37)⟩,
 ⟨some 39, none, .mov (.t 2)⟩,
 ⟨some 40, none, .mov (.t 11)⟩,
 ⟨some 41, none, .bin .add (.t 39) (.t 40)⟩,
 ⟨some 42, none, .mov (.t 10)⟩,
 ⟨some 43, none, .bin .sub (.t 41) (.t 42)⟩,
 ⟨some 44, none, .mov (.t 10)⟩,
 ⟨some 45, none, .mov (.t 4)⟩,
 ⟨some 46, none, .ncall true 0 142 [(.t 35), (.t 38), (.t 43), (.t 44), (.t 45)]⟩]) (
 .gh [.keep [0, 2, 4, 10, 11]] (
 .reg none [
 ⟨some 47, none, .mov (.t 11)⟩,
 ⟨some 48, none, .mov (.t 10)⟩,
 ⟨some 49, none, .bin .sub (.t 47) (.t 48)⟩,
 ⟨some 11, none, .mov (.t 49)⟩]))))))
def b141_0 : ACode := .gh [.keep [0, 2, 4, 10, 11]] (.gh [] l141_0)
def k141_0 : List AItem := .inLoop b141_0 :: [.inBlock 0,
 .code (.reg none [
 ⟨some 50, none, .mov (.t 0)⟩,
 ⟨some 51, none, .mov (.t 2)⟩,
 ⟨some 52, none, .mov (.t 10)⟩,
 ⟨some 53, none, .bin .sub (.t 51) (.t 52)⟩,
 ⟨some 54, none, .mov (.t 2)⟩,
 ⟨some 55, none, .mov (.t 10)⟩,
 ⟨some 56, none, .mov (.t 4)⟩,
 ⟨some 57, none, .ncall true 0 142 [(.t 50), (.t 53), (.t 54), (.t 55), (.t 56)]⟩])]
def c141 : ACode :=
 .seq (
 .reg none [
 ⟨some 12, none, .mov (.t 2)⟩,
 ⟨some 13, none, .mov (.t 1)⟩,
 ⟨some 14, none, .bin .sub (.t 12) (.t 13)⟩,
 ⟨some 10, none, .mov (.t 14)⟩]) (
 .seq (
 .reg none [
 ⟨some 15, none, .mov (.t 3)⟩,
 ⟨some 16, none, .mov (.t 2)⟩,
 ⟨some 17, none, .bin .sub (.t 15) (.t 16)⟩,
 ⟨some 11, none, .mov (.t 17)⟩]) (
 .seq (
 .block 0 (
 .loop b141_0)) (
 .reg none [
 ⟨some 50, none, .mov (.t 0)⟩,
 ⟨some 51, none, .mov (.t 2)⟩,
 ⟨some 52, none, .mov (.t 10)⟩,
 ⟨some 53, none, .bin .sub (.t 51) (.t 52)⟩,
 ⟨some 54, none, .mov (.t 2)⟩,
 ⟨some 55, none, .mov (.t 10)⟩,
 ⟨some 56, none, .mov (.t 4)⟩,
 ⟨some 57, none, .ncall true 0 142 [(.t 50), (.t 53), (.t 54), (.t 55), (.t 56)]⟩])))
def a141 : AFunc := ⟨58, c141, []⟩
/-! 142 slices.swapRangeCmpFunc[cassegrain/frame.numbered] params [137, 3, 3, 3, 180] nfree 0 ntmps 38 -/
def l142_0 : ACode :=
 .seq (
 .seq (
 .reg none [
 ⟨some 11, none, .mov (.t 10)⟩,
 ⟨some 12, none, .mov (.t 3)⟩,
 ⟨some 13, none, .bin .lss (.t 11) (.t 12)⟩]) (
 .cond (.t 13) (
 .skip) (
 .exit 0))) (
 .seq (
 .block 1 (
 .reg (some [(4, 21), (5, 21), (6, 21), (7, 21)]) [
 ⟨some 16, none, .mov (.t 0)⟩,
 ⟨some 17, none, .mov (.t 1)⟩,
 ⟨some 18, none, .mov (.t 10)⟩,
 ⟨some 19, none, .bin .add (.t 17) (.t 18)⟩,
 ⟨some 20, none, .mov (.t 0)⟩,
 ⟨some 21, none, .mov (.t 2)⟩,
 ⟨some 22, none, .mov (.t 10)⟩,
 ⟨some 23, none, .bin .add (.t 21) (.t 22)⟩,
 ⟨some 24, none, .mov (.t 0)⟩,
 ⟨some 25, none, .mov (.t 2)⟩,
 ⟨some 26, none, .mov (.t 10)⟩,
 ⟨some 27, none, .bin .add (.t 25) (.t 26)⟩,
 ⟨some 28, none, .iaddr 5 (.t 24) (.t 27)⟩,
 ⟨some 29, none, .load true 5 (.t 28)⟩,
 ⟨some 30, none, .mov (.t 0)⟩,
 ⟨some 31, none, .mov (.t 1)⟩,
 ⟨some 32, none, .mov (.t 10)⟩,
 ⟨some 33, none, .bin .add (.t 31) (.t 32)⟩,
 ⟨some 34, none, .iaddr 5 (.t 30) (.t 33)⟩,
 ⟨some 35, none, .load true 5 (.t 34)⟩,
 ⟨some 36, none, .iaddr 5 (.t 16) (.t 19)⟩,
 ⟨none, none, .store 5 (.t 36) (.t 29)⟩,
 ⟨some 37, none, .iaddr 5 (.t 20) (.t 23)⟩,
 ⟨none, none, .store 5 (.t 37) (.t 35)⟩])) (
 .reg none [
 ⟨some 14, none, .mov (.t 10)⟩,
 ⟨some 15, none, .bin .add (.t 14) (.c (.int .i64 1))⟩,
 ⟨some 10, none, .mov (.t 15)⟩]))
def b142_0 : ACode := .gh [.keep [0, 1, 2, 3, 10]] (.gh [] l142_0)
def k142_0 : List AItem := .inLoop b142_0 :: [.inBlock 0]
def c142 : ACode :=
 .seq (
 .reg none [
 ⟨some 10, none, .mov (.c (.int .i64 0))⟩]) (
 .block 0 (
 .loop b142_0))
def a142 : AFunc := ⟨38, c142, []⟩
end Go.Proofs.Ytjhdnpmojhkbjaa
