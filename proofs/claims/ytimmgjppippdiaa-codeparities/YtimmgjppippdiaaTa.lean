/- The code of the program, for the machine, part 3. Printed by gen2.py. -/
import Derived.Test.YtimmgjppippdiaaTq
namespace Go.Proofs.Ytimmgjppippdiaa
/-! 124 cassegrain/code.turned params [25, 3] nfree 0 ntmps 40 -/
def l124_1 : ACode :=
 .seq (
 .reg none [
 ⟨some 22, none, .bin .lss (.t 21) (.t 20)⟩]) (
 .seq (
 .cond (.t 22) (
 .skip) (
 .exit 2)) (
 .seq (
 .block 3 (
 .seq (
 .reg none [
 ⟨some 23, none, .mov (.t 21)⟩,
 ⟨some 7, none, .mov (.t 23)⟩]) (
 .reg none [
 ⟨some 24, none, .mov (.t 5)⟩,
 ⟨some 25, none, .mov (.t 0)⟩,
 ⟨some 26, none, .mov (.t 7)⟩,
 ⟨some 27, none, .mov (.t 0)⟩,
 ⟨some 28, none, .len (.t 27)⟩,
 ⟨some 29, none, .mov (.t 1)⟩,
 ⟨some 30, none, .bin .quo (.t 28) (.t 29)⟩,
 ⟨some 31, none, .bin .mul (.t 26) (.t 30)⟩,
 ⟨some 32, none, .mov (.t 6)⟩,
 ⟨some 33, none, .bin .add (.t 31) (.t 32)⟩,
 ⟨some 34, none, .iaddr 1 (.t 25) (.t 33)⟩,
 ⟨some 35, none, .load false 1 (.t 34)⟩,
 ⟨some 36, none, .bslice 124037 3 1 [(.t 35)]⟩,
 ⟨some 37, none, .append 124038 3 1 (.t 24) (.t 36)⟩,
 ⟨some 5, none, .mov (.t 37)⟩]))) (
 .reg none [
 ⟨some 38, none, .bin .add (.t 21) (.c (.int .i64 1))⟩,
 ⟨some 21, none, .mov (.t 38)⟩])))
def b124_1 : ACode := .gh [.keep [0, 1, 5, 6, 20, 21]] (.gh [] l124_1)
def l124_0 : ACode :=
 .seq (
 .seq (
 .reg none [
 ⟨some 8, none, .mov (.t 1)⟩,
 ⟨some 9, none, .bin .gtr (.t 8) (.c (.int .i64 0))⟩,
 ⟨some 10, none, .mov (.t 9)⟩,
 ⟨some 11, (some (10, true)), .mov (.t 6)⟩,
 ⟨some 12, (some (10, true)), .mov (.t 0)⟩,
 ⟨some 13, (some (10, true)), .len (.t 12)⟩,
 ⟨some 14, (some (10, true)), .mov (.t 1)⟩,
 ⟨some 15, (some (10, true)), .bin .quo (.t 13) (.t 14)⟩,
 ⟨some 16, (some (10, true)), .bin .lss (.t 11) (.t 15)⟩,
 ⟨some 17, none, .pick (.t 10) (.t 16) (.c (.bool false))⟩]) (
 .gh [.keep [0, 1, 5, 6, 17]] (
 .cond (.t 17) (
 .skip) (
 .exit 0)))) (
 .seq (
 .block 1 (
 .seq (
 .reg none [
 ⟨some 20, none, .mov (.t 1)⟩,
 ⟨some 21, none, .mov (.c (.int .i64 0))⟩]) (
 .block 2 (
 .loop b124_1)))) (
 .reg none [
 ⟨some 18, none, .mov (.t 6)⟩,
 ⟨some 19, none, .bin .add (.t 18) (.c (.int .i64 1))⟩,
 ⟨some 6, none, .mov (.t 19)⟩]))
def b124_0 : ACode := .gh [.keep [0, 1, 5, 6]] (.gh [] l124_0)
def k124_1 : List AItem := .inLoop b124_1 :: [.inBlock 2,
 .inBlock 1,
 .code (.reg none [
 ⟨some 18, none, .mov (.t 6)⟩,
 ⟨some 19, none, .bin .add (.t 18) (.c (.int .i64 1))⟩,
 ⟨some 6, none, .mov (.t 19)⟩]),
 .inLoop b124_0,
 .inBlock 0,
 .code (.seq (
 .reg none [
 ⟨some 39, none, .mov (.t 5)⟩,
 ⟨some 4, none, .mov (.t 39)⟩]) (
 .ret))]
def k124_0 : List AItem := .inLoop b124_0 :: [.inBlock 0,
 .code (.seq (
 .reg none [
 ⟨some 39, none, .mov (.t 5)⟩,
 ⟨some 4, none, .mov (.t 39)⟩]) (
 .ret))]
def c124 : ACode :=
 .seq (
 .reg none [
 ⟨some 4, none, .mov (.c .nils)⟩]) (
 .seq (
 .reg none [
 ⟨some 5, none, .mov (.c .nils)⟩]) (
 .seq (
 .seq (
 .reg none [
 ⟨some 6, none, .mov (.c (.int .i64 0))⟩]) (
 .block 0 (
 .loop b124_0))) (
 .seq (
 .reg none [
 ⟨some 39, none, .mov (.t 5)⟩,
 ⟨some 4, none, .mov (.t 39)⟩]) (
 .ret))))
def a124 : AFunc := ⟨40, c124, [.tmp 4]⟩
/-! 125 cassegrain/code.contribution params [3, 3] nfree 0 ntmps 10 -/
def c125 : ACode :=
 .seq (
 .reg none [
 ⟨some 4, none, .mov (.c (.int .i64 0))⟩]) (
 .seq (
 .seq (
 .reg none [
 ⟨some 5, none, .mov (.t 0)⟩,
 ⟨some 6, none, .bin .eql (.t 5) (.c (.int .i64 0))⟩]) (
 .cond (.t 6) (
 .seq (
 .reg none [
 ⟨some 7, none, .mov (.t 1)⟩,
 ⟨some 4, none, .mov (.t 7)⟩]) (
 .ret)) (
 .skip))) (
 .seq (
 .reg none [
 ⟨some 8, none, .mov (.t 1)⟩,
 ⟨some 9, none, .neg (.t 8)⟩,
 ⟨some 4, none, .mov (.t 9)⟩]) (
 .ret)))
def a125 : AFunc := ⟨10, c125, [.tmp 4]⟩
/-! 126 (cassegrain/code.trellis).steps params [123] nfree 0 ntmps 7 -/
def c126 : ACode :=
 .seq (
 .reg none [
 ⟨some 1, none, .box 126002 123 (.t 0)⟩,
 ⟨some 2, none, .mov (.c (.int .i64 0))⟩]) (
 .seq (
 .reg none [
 ⟨some 3, none, .faddr 3 (.t 1)⟩,
 ⟨some 4, none, .load false 1 (.t 3)⟩,
 ⟨some 5, none, .len (.t 4)⟩,
 ⟨some 6, none, .bin .quo (.t 5) (.c (.int .i64 2))⟩,
 ⟨some 2, none, .mov (.t 6)⟩]) (
 .ret))
def a126 : AFunc := ⟨7, c126, [.tmp 2]⟩
/-! 127 (cassegrain/code.trellis).states params [123] nfree 0 ntmps 7 -/
def c127 : ACode :=
 .seq (
 .reg none [
 ⟨some 1, none, .box 127002 123 (.t 0)⟩,
 ⟨some 2, none, .mov (.c (.int .i64 0))⟩]) (
 .seq (
 .reg none [
 ⟨some 3, none, .faddr 0 (.t 1)⟩,
 ⟨some 4, none, .faddr 0 (.t 3)⟩,
 ⟨some 5, none, .load false 1 (.t 4)⟩,
 ⟨some 6, none, .bin .shl (.c (.int .i64 1)) (.t 5)⟩,
 ⟨some 2, none, .mov (.t 6)⟩]) (
 .ret))
def a127 : AFunc := ⟨7, c127, [.tmp 2]⟩
/-! 128 (cassegrain/code.trellis).branches params [123, 3] nfree 0 ntmps 6 -/
def c128 : ACode :=
 .seq (
 .reg none [
 ⟨some 2, none, .box 128003 123 (.t 0)⟩,
 ⟨some 3, none, .box 128004 3 (.t 1)⟩,
 ⟨some 4, none, .mov (.c (.val .nilFunc))⟩]) (
 .seq (
 .reg none [
 ⟨some 5, none, .mkfn 155 [(.t 2), (.t 3)]⟩,
 ⟨some 4, none, .mov (.t 5)⟩]) (
 .ret))
def a128 : AFunc := ⟨6, c128, [.tmp 4]⟩
/-! 129 slices.Clone[[]int,int] params [25] nfree 0 ntmps 8 -/
def c129 : ACode :=
 .seq (
 .reg none [
 ⟨some 2, none, .mov (.c .nils)⟩]) (
 .seq (
 .seq (
 .reg none [
 ⟨some 3, none, .mov (.t 0)⟩,
 ⟨some 4, none, .isnil false (.t 3)⟩]) (
 .cond (.t 4) (
 .seq (
 .reg none [
 ⟨some 2, none, .mov (.c .nils)⟩]) (
 .ret)) (
 .skip))) (
 .seq (
 .reg none [
 ⟨some 5, none, .bslice 129006 3 1 []⟩,
 ⟨some 6, none, .mov (.t 0)⟩,
 ⟨some 7, none, .append 129008 3 1 (.t 5) (.t 6)⟩,
 ⟨some 2, none, .mov (.t 7)⟩]) (
 .ret)))
def a129 : AFunc := ⟨8, c129, [.tmp 2]⟩
/-! 130 cassegrain/code.searchErr params [48] nfree 0 ntmps 7 -/
def c130 : ACode :=
 .seq (
 .reg none [
 ⟨some 1, none, .box 130002 48 (.t 0)⟩,
 ⟨some 2, none, .mov (.c (.int .i64 0))⟩]) (
 .seq (
 .reg none [
 ⟨some 3, none, .faddr 0 (.t 1)⟩,
 ⟨some 4, none, .load false 1 (.t 3)⟩,
 ⟨some 5, none, .bin .leq (.t 4) (.c (.int .i64 14))⟩,
 ⟨some 6, none, .ncall true 0 111 [(.t 5), (.c (.int .i64 8))]⟩,
 ⟨some 2, none, .mov (.t 6)⟩]) (
 .ret))
def a130 : AFunc := ⟨7, c130, [.tmp 2]⟩
/-! 131 cassegrain/code.words params [48] nfree 0 ntmps 4 -/
def c131 : ACode :=
 .seq (
 .reg none [
 ⟨some 1, none, .box 131002 48 (.t 0)⟩,
 ⟨some 2, none, .mov (.c (.val .nilFunc))⟩]) (
 .seq (
 .reg none [
 ⟨some 3, none, .mkfn 156 [(.t 1)]⟩,
 ⟨some 2, none, .mov (.t 3)⟩]) (
 .ret))
def a131 : AFunc := ⟨4, c131, [.tmp 2]⟩
/-! 132 cassegrain/code.distance params [25, 25] nfree 0 ntmps 25 -/
def l132_0 : ACode :=
 .seq (
 .reg none [
 ⟨some 10, none, .bin .lss (.t 9) (.t 8)⟩]) (
 .seq (
 .cond (.t 10) (
 .skip) (
 .exit 0)) (
 .seq (
 .block 1 (
 .seq (
 .reg none [
 ⟨some 11, none, .mov (.t 9)⟩,
 ⟨some 6, none, .mov (.t 11)⟩]) (
 .reg (some []) [
 ⟨some 12, none, .mov (.t 5)⟩,
 ⟨some 13, none, .mov (.t 0)⟩,
 ⟨some 14, none, .mov (.t 6)⟩,
 ⟨some 15, none, .iaddr 1 (.t 13) (.t 14)⟩,
 ⟨some 16, none, .load false 1 (.t 15)⟩,
 ⟨some 17, none, .mov (.t 1)⟩,
 ⟨some 18, none, .mov (.t 6)⟩,
 ⟨some 19, none, .iaddr 1 (.t 17) (.t 18)⟩,
 ⟨some 20, none, .load false 1 (.t 19)⟩,
 ⟨some 21, none, .bin .xor (.t 16) (.t 20)⟩,
 ⟨some 22, none, .bin .add (.t 12) (.t 21)⟩,
 ⟨some 5, none, .mov (.t 22)⟩]))) (
 .reg none [
 ⟨some 23, none, .bin .add (.t 9) (.c (.int .i64 1))⟩,
 ⟨some 9, none, .mov (.t 23)⟩])))
def b132_0 : ACode := .gh [.keep [0, 1, 5, 8, 9]] (.gh [] l132_0)
def k132_0 : List AItem := .inLoop b132_0 :: [.inBlock 0,
 .code (.seq (
 .reg none [
 ⟨some 24, none, .mov (.t 5)⟩,
 ⟨some 4, none, .mov (.t 24)⟩]) (
 .ret))]
def c132 : ACode :=
 .seq (
 .reg none [
 ⟨some 4, none, .mov (.c (.int .i64 0))⟩]) (
 .seq (
 .reg none [
 ⟨some 5, none, .mov (.c (.int .i64 0))⟩]) (
 .seq (
 .seq (
 .reg none [
 ⟨some 7, none, .mov (.t 0)⟩,
 ⟨some 8, none, .len (.t 7)⟩,
 ⟨some 9, none, .mov (.c (.int .i64 0))⟩]) (
 .block 0 (
 .loop b132_0))) (
 .seq (
 .reg none [
 ⟨some 24, none, .mov (.t 5)⟩,
 ⟨some 4, none, .mov (.t 24)⟩]) (
 .ret))))
def a132 : AFunc := ⟨25, c132, [.tmp 4]⟩
/-! 133 cassegrain/code.parityErr params [48] nfree 0 ntmps 11 -/
def c133 : ACode :=
 .seq (
 .reg none [
 ⟨some 1, none, .box 133002 48 (.t 0)⟩,
 ⟨some 2, none, .mov (.c (.int .i64 0))⟩]) (
 .seq (
 .reg none [
 ⟨some 6, none, .load true 2 (.t 1)⟩,
 ⟨some 7, none, .ncall true 0 35 [(.t 6)]⟩,
 ⟨some 5, none, .mov (.t 7)⟩,
 ⟨some 8, none, .ext 0 (.t 5)⟩,
 ⟨some 9, none, .ext 1 (.t 5)⟩,
 ⟨some 3, none, .mov (.t 8)⟩,
 ⟨some 4, none, .mov (.t 9)⟩]) (
 .gh [.keep [4]] (
 .seq (
 .reg none [
 ⟨some 10, none, .mov (.t 4)⟩,
 ⟨some 2, none, .mov (.t 10)⟩]) (
 .ret))))
def a133 : AFunc := ⟨11, c133, [.tmp 2]⟩
/-! 134 cassegrain/cassegrainbase.BitsOf params [3, 3] nfree 0 ntmps 23 -/
def l134_0 : ACode :=
 .seq (
 .seq (
 .reg none [
 ⟨some 11, none, .mov (.t 6)⟩,
 ⟨some 12, none, .bin .geq (.t 11) (.c (.int .i64 0))⟩]) (
 .cond (.t 12) (
 .skip) (
 .exit 0))) (
 .seq (
 .block 1 (
 .seq (
 .reg none [
 ⟨some 15, none, .mov (.t 5)⟩,
 ⟨some 16, none, .mov (.t 6)⟩,
 ⟨some 17, none, .mov (.t 0)⟩,
 ⟨some 18, none, .bin .rem (.t 17) (.c (.int .i64 2))⟩,
 ⟨some 19, none, .iaddr 1 (.t 15) (.t 16)⟩,
 ⟨none, none, .store 1 (.t 19) (.t 18)⟩]) (
 .reg none [
 ⟨some 20, none, .mov (.t 0)⟩,
 ⟨some 21, none, .bin .quo (.t 20) (.c (.int .i64 2))⟩,
 ⟨some 0, none, .mov (.t 21)⟩]))) (
 .reg none [
 ⟨some 13, none, .mov (.t 6)⟩,
 ⟨some 14, none, .bin .sub (.t 13) (.c (.int .i64 1))⟩,
 ⟨some 6, none, .mov (.t 14)⟩]))
def b134_0 : ACode := .gh [.keep [0, 5, 6]] (.gh [] l134_0)
def k134_0 : List AItem := .inLoop b134_0 :: [.inBlock 0,
 .code (.seq (
 .reg none [
 ⟨some 22, none, .mov (.t 5)⟩,
 ⟨some 4, none, .mov (.t 22)⟩]) (
 .ret))]
def c134 : ACode :=
 .seq (
 .reg none [
 ⟨some 4, none, .mov (.c .nils)⟩]) (
 .seq (
 .reg none [
 ⟨some 7, none, .mov (.t 1)⟩,
 ⟨some 8, none, .mkslice 134009 3 1 (.int .i64 0) (.t 7)⟩,
 ⟨some 5, none, .mov (.t 8)⟩]) (
 .seq (
 .seq (
 .reg none [
 ⟨some 9, none, .mov (.t 1)⟩,
 ⟨some 10, none, .bin .sub (.t 9) (.c (.int .i64 1))⟩,
 ⟨some 6, none, .mov (.t 10)⟩]) (
 .block 0 (
 .loop b134_0))) (
 .seq (
 .reg none [
 ⟨some 22, none, .mov (.t 5)⟩,
 ⟨some 4, none, .mov (.t 22)⟩]) (
 .ret))))
def a134 : AFunc := ⟨23, c134, [.tmp 4]⟩
/-! 135 cassegrain/code.isElement params [3] nfree 0 ntmps 5 -/
def c135 : ACode :=
 .seq (
 .reg none [
 ⟨some 2, none, .mov (.c (.bool false))⟩]) (
 .seq (
 .reg none [
 ⟨some 3, none, .mov (.t 0)⟩,
 ⟨some 4, none, .ncall true 0 112 [(.t 3), (.c (.int .i64 0)), (.c (.int .i64 15))]⟩,
 ⟨some 2, none, .mov (.t 4)⟩]) (
 .ret))
def a135 : AFunc := ⟨5, c135, [.tmp 2]⟩
/-! 136 (*strings.Builder).WriteByte params [150, 5] nfree 0 ntmps 17 -/
def c136 : ACode :=
 .seq (
 .reg none [
 ⟨some 4, none, .mov (.c (.val .nilIface))⟩]) (
 .seq (
 .reg none [
 ⟨some 5, none, .mov (.t 0)⟩,
 ⟨some 6, none, .ncall true 0 157 [(.t 5)]⟩]) (
 .seq (
 .reg none [
 ⟨some 7, none, .mov (.t 0)⟩,
 ⟨some 8, none, .mov (.t 0)⟩,
 ⟨some 9, none, .nilck (.t 8)⟩,
 ⟨some 10, none, .faddr 1 (.t 9)⟩,
 ⟨some 11, none, .load false 1 (.t 10)⟩,
 ⟨some 12, none, .mov (.t 1)⟩,
 ⟨some 13, none, .bslice 136014 5 1 [(.t 12)]⟩,
 ⟨some 14, none, .append 136015 5 1 (.t 11) (.t 13)⟩,
 ⟨some 15, none, .nilck (.t 7)⟩,
 ⟨some 16, none, .faddr 1 (.t 15)⟩,
 ⟨none, none, .store 1 (.t 16) (.t 14)⟩]) (
 .gh [.keep []] (
 .seq (
 .reg none [
 ⟨some 4, none, .mov (.c (.val .nilIface))⟩]) (
 .ret)))))
def a136 : AFunc := ⟨17, c136, [.tmp 4]⟩
/-! 137 (*strings.Builder).String params [150] nfree 0 ntmps 14 -/
def c137 : ACode :=
 .seq (
 .reg none [
 ⟨some 2, none, .mov (.c (.str []))⟩]) (
 .seq (
 .junk /- builtin unsafeSliceData -/) (
 .gh [.keep [2]] (
 .ret)))
def a137 : AFunc := ⟨14, c137, [.tmp 2]⟩
/-! 138 strings.IndexByte params [9, 5] nfree 0 ntmps 8 -/
def c138 : ACode :=
 .seq (
 .reg none [
 ⟨some 4, none, .mov (.c (.int .i64 0))⟩]) (
 .seq (
 .reg none [
 ⟨some 5, none, .mov (.t 0)⟩,
 ⟨some 6, none, .mov (.t 1)⟩,
 ⟨some 7, none, .ncall true 0 158 [(.t 5), (.t 6)]⟩,
 ⟨some 4, none, .mov (.t 7)⟩]) (
 .ret))
def a138 : AFunc := ⟨8, c138, [.tmp 4]⟩
/-! 139 (cassegrain/code.word).decoded params [133, 3] nfree 0 ntmps 56 -/
def l139_1 : ACode :=
 .seq (
 .reg none [
 ⟨some 40, none, .bin .lss (.t 39) (.c (.int .i64 15))⟩]) (
 .seq (
 .cond (.t 40) (
 .skip) (
 .exit 2)) (
 .seq (
 .block 3 (
 .seq (
 .reg none [
 ⟨some 41, none, .mov (.t 39)⟩,
 ⟨some 14, none, .mov (.t 41)⟩]) (
 .seq (
 .reg (some []) [
 ⟨some 42, none, .mov (.t 14)⟩,
 ⟨some 43, none, .aaddr 15 1 (.t 2) (.t 42)⟩,
 ⟨some 44, none, .load false 1 (.t 43)⟩,
 ⟨some 45, none, .mov (.t 14)⟩,
 ⟨some 46, none, .aaddr 15 1 (.t 11) (.t 45)⟩,
 ⟨some 47, none, .load false 1 (.t 46)⟩,
 ⟨some 48, none, .bin .neq (.t 44) (.t 47)⟩]) (
 .gh [.keep [2, 4, 11, 13, 39, 48]] (
 .cond (.t 48) (
 .reg none [
 ⟨some 49, none, .mov (.t 13)⟩,
 ⟨some 50, none, .bin .add (.t 49) (.c (.int .i64 1))⟩,
 ⟨some 13, none, .mov (.t 50)⟩]) (
 .skip)))))) (
 .reg none [
 ⟨some 51, none, .bin .add (.t 39) (.c (.int .i64 1))⟩,
 ⟨some 39, none, .mov (.t 51)⟩])))
def b139_1 : ACode := .gh [.keep [2, 4, 11, 13, 39]] (.gh [] l139_1)
def l139_0 : ACode :=
 .seq (
 .reg none [
 ⟨some 21, none, .bin .lss (.t 20) (.t 19)⟩]) (
 .seq (
 .cond (.t 21) (
 .skip) (
 .exit 0)) (
 .seq (
 .block 1 (
 .seq (
 .reg none [
 ⟨some 22, none, .mov (.t 20)⟩,
 ⟨some 8, none, .mov (.t 22)⟩]) (
 .seq (
 .reg none [
 ⟨some 24, none, .mov (.t 7)⟩,
 ⟨some 25, none, .mov (.t 8)⟩,
 ⟨some 26, none, .ncall true 139027 159 [(.t 24), (.t 25)]⟩,
 ⟨some 23, none, .mov (.t 26)⟩,
 ⟨some 27, none, .ext 0 (.t 23)⟩,
 ⟨some 28, none, .ext 1 (.t 23)⟩,
 ⟨some 9, none, .mov (.t 27)⟩,
 ⟨some 10, none, .mov (.t 28)⟩]) (
 .gh [.keep [1, 2, 4, 7, 9, 10, 19, 20]] (
 .seq (
 .seq (
 .reg none [
 ⟨some 29, none, .mov (.t 10)⟩,
 ⟨some 30, none, .not (.t 29)⟩]) (
 .cond (.t 30) (
 .exit 1) (
 .skip))) (
 .seq (
 .reg none [
 ⟨some 32, none, .load true 15 (.t 2)⟩,
 ⟨some 33, none, .mov (.t 1)⟩,
 ⟨some 34, none, .mov (.t 9)⟩,
 ⟨some 35, none, .ncall true 0 140 [(.t 32), (.t 33), (.t 34)]⟩,
 ⟨some 31, none, .mov (.t 35)⟩,
 ⟨some 36, none, .ext 0 (.t 31)⟩,
 ⟨some 37, none, .ext 1 (.t 31)⟩,
 ⟨some 11, none, .alloc 139012 133 (.agg (.ints .i64 [0, 0, 0, 0, 0, 0, 0, 0, 0, 0, 0, 0, 0, 0, 0]))⟩,
 ⟨none, none, .store 15 (.t 11) (.t 36)⟩,
 ⟨some 12, none, .mov (.t 37)⟩]) (
 .gh [.keep [1, 2, 4, 7, 11, 12, 19, 20]] (
 .seq (
 .reg none [
 ⟨some 38, none, .mov (.t 12)⟩]) (
 .cond (.t 38) (
 .seq (
 .reg none [
 ⟨some 13, none, .mov (.c (.int .i64 0))⟩]) (
 .seq (
 .seq (
 .reg none [
 ⟨some 39, none, .mov (.c (.int .i64 0))⟩]) (
 .block 2 (
 .loop b139_1))) (
 .seq (
 .reg none [
 ⟨some 52, none, .load true 15 (.t 11)⟩,
 ⟨some 53, none, .mov (.t 13)⟩,
 ⟨none, none, .store 15 (.t 4) (.t 52)⟩,
 ⟨some 5, none, .mov (.t 53)⟩,
 ⟨some 6, none, .mov (.c (.bool true))⟩]) (
 .ret)))) (
 .skip)))))))))) (
 .reg none [
 ⟨some 54, none, .bin .add (.t 20) (.c (.int .i64 1))⟩,
 ⟨some 20, none, .mov (.t 54)⟩])))
def b139_0 : ACode := .gh [.keep [1, 2, 4, 7, 19, 20]] (.gh [] l139_0)
def k139_1 : List AItem := .inLoop b139_1 :: [.inBlock 2,
 .code (.seq (
 .reg none [
 ⟨some 52, none, .load true 15 (.t 11)⟩,
 ⟨some 53, none, .mov (.t 13)⟩,
 ⟨none, none, .store 15 (.t 4) (.t 52)⟩,
 ⟨some 5, none, .mov (.t 53)⟩,
 ⟨some 6, none, .mov (.c (.bool true))⟩]) (
 .ret)),
 .inBlock 1,
 .code (.reg none [
 ⟨some 54, none, .bin .add (.t 20) (.c (.int .i64 1))⟩,
 ⟨some 20, none, .mov (.t 54)⟩]),
 .inLoop b139_0,
 .inBlock 0,
 .code (.seq (
 .reg none [
 ⟨some 55, none, .build (.ints .i64 [0, 0, 0, 0, 0, 0, 0, 0, 0, 0, 0, 0, 0, 0, 0]) []⟩,
 ⟨none, none, .store 15 (.t 4) (.t 55)⟩,
 ⟨some 5, none, .mov (.c (.int .i64 0))⟩,
 ⟨some 6, none, .mov (.c (.bool false))⟩]) (
 .ret))]
def k139_0 : List AItem := .inLoop b139_0 :: [.inBlock 0,
 .code (.seq (
 .reg none [
 ⟨some 55, none, .build (.ints .i64 [0, 0, 0, 0, 0, 0, 0, 0, 0, 0, 0, 0, 0, 0, 0]) []⟩,
 ⟨none, none, .store 15 (.t 4) (.t 55)⟩,
 ⟨some 5, none, .mov (.c (.int .i64 0))⟩,
 ⟨some 6, none, .mov (.c (.bool false))⟩]) (
 .ret))]
def c139 : ACode :=
 .seq (
 .reg none [
 ⟨some 2, none, .box 139003 133 (.t 0)⟩,
 ⟨some 4, none, .alloc 139005 133 (.agg (.ints .i64 [0, 0, 0, 0, 0, 0, 0, 0, 0, 0, 0, 0, 0, 0, 0]))⟩,
 ⟨some 5, none, .mov (.c (.int .i64 0))⟩,
 ⟨some 6, none, .mov (.c (.bool false))⟩]) (
 .seq (
 .reg none [
 ⟨some 15, none, .load true 15 (.t 2)⟩,
 ⟨some 16, none, .mov (.t 1)⟩,
 ⟨some 17, none, .ncall true 139018 108 [(.t 15), (.t 16)]⟩,
 ⟨some 7, none, .mov (.t 17)⟩]) (
 .seq (
 .seq (
 .reg none [
 ⟨some 18, none, .mov (.t 1)⟩,
 ⟨some 19, none, .bin .add (.t 18) (.c (.int .i64 1))⟩,
 ⟨some 20, none, .mov (.c (.int .i64 0))⟩]) (
 .block 0 (
 .loop b139_0))) (
 .seq (
 .reg none [
 ⟨some 55, none, .build (.ints .i64 [0, 0, 0, 0, 0, 0, 0, 0, 0, 0, 0, 0, 0, 0, 0]) []⟩,
 ⟨none, none, .store 15 (.t 4) (.t 55)⟩,
 ⟨some 5, none, .mov (.c (.int .i64 0))⟩,
 ⟨some 6, none, .mov (.c (.bool false))⟩]) (
 .ret))))
def a139 : AFunc := ⟨56, c139, [.cell 4 true 15, .tmp 5, .tmp 6]⟩
/-! 140 (cassegrain/code.word).filled params [133, 3, 25] nfree 0 ntmps 87 -/
def l140_0 : ACode :=
 .seq (
 .reg none [
 ⟨some 75, none, .bin .lss (.t 74) (.t 73)⟩]) (
 .seq (
 .cond (.t 75) (
 .skip) (
 .exit 6)) (
 .seq (
 .block 7 (
 .seq (
 .reg none [
 ⟨some 76, none, .mov (.t 74)⟩,
 ⟨some 77, none, .iaddr 1 (.t 72) (.t 74)⟩,
 ⟨some 78, none, .load false 1 (.t 77)⟩,
 ⟨some 18, none, .mov (.t 76)⟩,
 ⟨some 19, none, .mov (.t 78)⟩]) (
 .reg none [
 ⟨some 79, none, .mov (.t 19)⟩,
 ⟨some 80, none, .mov (.t 16)⟩,
 ⟨some 81, none, .mov (.t 18)⟩,
 ⟨some 82, none, .iaddr 1 (.t 80) (.t 81)⟩,
 ⟨some 83, none, .load false 1 (.t 82)⟩,
 ⟨some 84, none, .aaddr 15 1 (.t 3) (.t 79)⟩,
 ⟨none, none, .store 1 (.t 84) (.t 83)⟩]))) (
 .reg none [
 ⟨some 85, none, .bin .add (.t 74) (.c (.int .i64 1))⟩,
 ⟨some 74, none, .mov (.t 85)⟩])))
def b140_0 : ACode := .gh [.keep [3, 6, 16, 72, 73, 74]] (.gh [] l140_0)
def l140_2 : ACode :=
 .seq (
 .reg none [
 ⟨some 41, none, .bin .lss (.t 40) (.t 39)⟩]) (
 .seq (
 .cond (.t 41) (
 .skip) (
 .exit 4)) (
 .seq (
 .block 5 (
 .seq (
 .reg none [
 ⟨some 42, none, .iaddr 1 (.t 38) (.t 40)⟩,
 ⟨some 43, none, .load false 1 (.t 42)⟩,
 ⟨some 15, none, .mov (.t 43)⟩]) (
 .reg none [
 ⟨some 44, none, .mov (.t 13)⟩,
 ⟨some 45, none, .mov (.t 11)⟩,
 ⟨some 46, none, .bin .add (.t 45) (.c (.int .i64 1))⟩,
 ⟨some 47, none, .mov (.t 15)⟩,
 ⟨some 48, none, .bin .sub (.c (.int .i64 14)) (.t 47)⟩,
 ⟨some 49, none, .bin .mul (.t 46) (.t 48)⟩,
 ⟨some 50, none, .ncall true 0 160 [(.t 49)]⟩,
 ⟨some 51, none, .bslice 140052 3 1 [(.t 50)]⟩,
 ⟨some 52, none, .append 140053 3 1 (.t 44) (.t 51)⟩,
 ⟨some 13, none, .mov (.t 52)⟩]))) (
 .reg none [
 ⟨some 53, none, .bin .add (.t 40) (.c (.int .i64 1))⟩,
 ⟨some 40, none, .mov (.t 53)⟩])))
def b140_2 : ACode := .gh [.keep [2, 3, 6, 10, 11, 12, 13, 31, 32, 33, 38, 39, 40]] (.gh [] l140_2)
def l140_1 : ACode :=
 .seq (
 .reg none [
 ⟨some 34, none, .bin .lss (.t 33) (.t 32)⟩]) (
 .seq (
 .cond (.t 34) (
 .skip) (
 .exit 2)) (
 .seq (
 .block 3 (
 .seq (
 .reg none [
 ⟨some 35, none, .mov (.t 33)⟩,
 ⟨some 36, none, .iaddr 1 (.t 31) (.t 33)⟩,
 ⟨some 37, none, .load false 1 (.t 36)⟩,
 ⟨some 11, none, .mov (.t 35)⟩,
 ⟨some 12, none, .mov (.t 37)⟩]) (
 .seq (
 .reg none [
 ⟨some 13, none, .mov (.c .nils)⟩]) (
 .seq (
 .seq (
 .reg none [
 ⟨some 38, none, .mov (.t 2)⟩,
 ⟨some 39, none, .len (.t 38)⟩,
 ⟨some 40, none, .mov (.c (.int .i64 0))⟩]) (
 .block 4 (
 .loop b140_2))) (
 .reg none [
 ⟨some 54, none, .mov (.t 10)⟩,
 ⟨some 55, none, .mov (.t 13)⟩,
 ⟨some 56, none, .mov (.t 12)⟩,
 ⟨some 57, none, .bslice 140058 3 1 [(.t 56)]⟩,
 ⟨some 58, none, .append 140059 3 1 (.t 55) (.t 57)⟩,
 ⟨some 59, none, .bslice 140060 25 1 [(.t 58)]⟩,
 ⟨some 60, none, .append 140061 25 1 (.t 54) (.t 59)⟩,
 ⟨some 10, none, .mov (.t 60)⟩]))))) (
 .reg none [
 ⟨some 61, none, .bin .add (.t 33) (.c (.int .i64 1))⟩,
 ⟨some 33, none, .mov (.t 61)⟩])))
def b140_1 : ACode := .gh [.keep [2, 3, 6, 10, 31, 32, 33]] (.gh [] l140_1)
def l140_3 : ACode :=
 .seq (
 .reg none [
 ⟨some 23, none, .bin .lss (.t 22) (.t 21)⟩]) (
 .seq (
 .cond (.t 23) (
 .skip) (
 .exit 0)) (
 .seq (
 .block 1 (
 .seq (
 .reg none [
 ⟨some 24, none, .iaddr 1 (.t 20) (.t 22)⟩,
 ⟨some 25, none, .load false 1 (.t 24)⟩,
 ⟨some 9, none, .mov (.t 25)⟩]) (
 .reg none [
 ⟨some 26, none, .mov (.t 9)⟩,
 ⟨some 27, none, .aaddr 15 1 (.t 3) (.t 26)⟩,
 ⟨none, none, .store 1 (.t 27) (.c (.int .i64 0))⟩]))) (
 .reg none [
 ⟨some 28, none, .bin .add (.t 22) (.c (.int .i64 1))⟩,
 ⟨some 22, none, .mov (.t 28)⟩])))
def b140_3 : ACode := .gh [.keep [1, 2, 3, 6, 20, 21, 22]] (.gh [] l140_3)
def k140_0 : List AItem := .inLoop b140_0 :: [.inBlock 6,
 .code (.seq (
 .reg none [
 ⟨some 86, none, .load true 15 (.t 3)⟩,
 ⟨none, none, .store 15 (.t 6) (.t 86)⟩,
 ⟨some 7, none, .mov (.c (.bool true))⟩]) (
 .ret))]
def k140_2 : List AItem := .inLoop b140_2 :: [.inBlock 4,
 .code (.reg none [
 ⟨some 54, none, .mov (.t 10)⟩,
 ⟨some 55, none, .mov (.t 13)⟩,
 ⟨some 56, none, .mov (.t 12)⟩,
 ⟨some 57, none, .bslice 140058 3 1 [(.t 56)]⟩,
 ⟨some 58, none, .append 140059 3 1 (.t 55) (.t 57)⟩,
 ⟨some 59, none, .bslice 140060 25 1 [(.t 58)]⟩,
 ⟨some 60, none, .append 140061 25 1 (.t 54) (.t 59)⟩,
 ⟨some 10, none, .mov (.t 60)⟩]),
 .inBlock 3,
 .code (.reg none [
 ⟨some 61, none, .bin .add (.t 33) (.c (.int .i64 1))⟩,
 ⟨some 33, none, .mov (.t 61)⟩]),
 .inLoop b140_1,
 .inBlock 2,
 .code (.seq (
 .reg none [
 ⟨some 63, none, .mov (.t 10)⟩,
 ⟨some 64, none, .mov (.t 2)⟩,
 ⟨some 65, none, .len (.t 64)⟩,
 ⟨some 66, none, .ncall true 140067 161 [(.t 63), (.t 65)]⟩,
 ⟨some 62, none, .mov (.t 66)⟩,
 ⟨some 67, none, .ext 0 (.t 62)⟩,
 ⟨some 68, none, .ext 1 (.t 62)⟩,
 ⟨some 16, none, .mov (.t 67)⟩,
 ⟨some 17, none, .mov (.t 68)⟩]) (
 .gh [.keep [2, 3, 6, 16, 17]] (
 .seq (
 .seq (
 .reg none [
 ⟨some 69, none, .mov (.t 17)⟩,
 ⟨some 70, none, .not (.t 69)⟩]) (
 .cond (.t 70) (
 .seq (
 .reg none [
 ⟨some 71, none, .build (.ints .i64 [0, 0, 0, 0, 0, 0, 0, 0, 0, 0, 0, 0, 0, 0, 0]) []⟩,
 ⟨none, none, .store 15 (.t 6) (.t 71)⟩,
 ⟨some 7, none, .mov (.c (.bool false))⟩]) (
 .ret)) (
 .skip))) (
 .seq (
 .seq (
 .reg none [
 ⟨some 72, none, .mov (.t 2)⟩,
 ⟨some 73, none, .len (.t 72)⟩,
 ⟨some 74, none, .mov (.c (.int .i64 0))⟩]) (
 .block 6 (
 .loop b140_0))) (
 .seq (
 .reg none [
 ⟨some 86, none, .load true 15 (.t 3)⟩,
 ⟨none, none, .store 15 (.t 6) (.t 86)⟩,
 ⟨some 7, none, .mov (.c (.bool true))⟩]) (
 .ret))))))]
def k140_1 : List AItem := .inLoop b140_1 :: [.inBlock 2,
 .code (.seq (
 .reg none [
 ⟨some 63, none, .mov (.t 10)⟩,
 ⟨some 64, none, .mov (.t 2)⟩,
 ⟨some 65, none, .len (.t 64)⟩,
 ⟨some 66, none, .ncall true 140067 161 [(.t 63), (.t 65)]⟩,
 ⟨some 62, none, .mov (.t 66)⟩,
 ⟨some 67, none, .ext 0 (.t 62)⟩,
 ⟨some 68, none, .ext 1 (.t 62)⟩,
 ⟨some 16, none, .mov (.t 67)⟩,
 ⟨some 17, none, .mov (.t 68)⟩]) (
 .gh [.keep [2, 3, 6, 16, 17]] (
 .seq (
 .seq (
 .reg none [
 ⟨some 69, none, .mov (.t 17)⟩,
 ⟨some 70, none, .not (.t 69)⟩]) (
 .cond (.t 70) (
 .seq (
 .reg none [
 ⟨some 71, none, .build (.ints .i64 [0, 0, 0, 0, 0, 0, 0, 0, 0, 0, 0, 0, 0, 0, 0]) []⟩,
 ⟨none, none, .store 15 (.t 6) (.t 71)⟩,
 ⟨some 7, none, .mov (.c (.bool false))⟩]) (
 .ret)) (
 .skip))) (
 .seq (
 .seq (
 .reg none [
 ⟨some 72, none, .mov (.t 2)⟩,
 ⟨some 73, none, .len (.t 72)⟩,
 ⟨some 74, none, .mov (.c (.int .i64 0))⟩]) (
 .block 6 (
 .loop b140_0))) (
 .seq (
 .reg none [
 ⟨some 86, none, .load true 15 (.t 3)⟩,
 ⟨none, none, .store 15 (.t 6) (.t 86)⟩,
 ⟨some 7, none, .mov (.c (.bool true))⟩]) (
 .ret))))))]
def k140_3 : List AItem := .inLoop b140_3 :: [.inBlock 0,
 .code (.seq (
 .reg none [
 ⟨some 10, none, .mov (.c .nils)⟩]) (
 .seq (
 .seq (
 .reg none [
 ⟨some 29, none, .load true 15 (.t 3)⟩,
 ⟨some 30, none, .mov (.t 1)⟩,
 ⟨some 31, none, .ncall true 140032 108 [(.t 29), (.t 30)]⟩,
 ⟨some 32, none, .len (.t 31)⟩,
 ⟨some 33, none, .mov (.c (.int .i64 0))⟩]) (
 .block 2 (
 .loop b140_1))) (
 .seq (
 .reg none [
 ⟨some 63, none, .mov (.t 10)⟩,
 ⟨some 64, none, .mov (.t 2)⟩,
 ⟨some 65, none, .len (.t 64)⟩,
 ⟨some 66, none, .ncall true 140067 161 [(.t 63), (.t 65)]⟩,
 ⟨some 62, none, .mov (.t 66)⟩,
 ⟨some 67, none, .ext 0 (.t 62)⟩,
 ⟨some 68, none, .ext 1 (.t 62)⟩,
 ⟨some 16, none, .mov (.t 67)⟩,
 ⟨some 17, none, .mov (.t 68)⟩]) (
 .gh [.keep [2, 3, 6, 16, 17]] (
 .seq (
 .seq (
 .reg none [
 ⟨some 69, none, .mov (.t 17)⟩,
 ⟨some 70, none, .not (.t 69)⟩]) (
 .cond (.t 70) (
 .seq (
 .reg none [
 ⟨some 71, none, .build (.ints .i64 [0, 0, 0, 0, 0, 0, 0, 0, 0, 0, 0, 0, 0, 0, 0]) []⟩,
 ⟨none, none, .store 15 (.t 6) (.t 71)⟩,
 ⟨some 7, none, .mov (.c (.bool false))⟩]) (
 .ret)) (
 .skip))) (
 .seq (
 .seq (
 .reg none [
 ⟨some 72, none, .mov (.t 2)⟩,
 ⟨some 73, none, .len (.t 72)⟩,
 ⟨some 74, none, .mov (.c (.int .i64 0))⟩]) (
 .block 6 (
 .loop b140_0))) (
 .seq (
 .reg none [
 ⟨some 86, none, .load true 15 (.t 3)⟩,
 ⟨none, none, .store 15 (.t 6) (.t 86)⟩,
 ⟨some 7, none, .mov (.c (.bool true))⟩]) (
 .ret))))))))]
def c140 : ACode :=
 .seq (
 .reg none [
 ⟨some 3, none, .box 140004 133 (.t 0)⟩,
 ⟨some 6, none, .alloc 140007 133 (.agg (.ints .i64 [0, 0, 0, 0, 0, 0, 0, 0, 0, 0, 0, 0, 0, 0, 0]))⟩,
 ⟨some 7, none, .mov (.c (.bool false))⟩]) (
 .seq (
 .seq (
 .reg none [
 ⟨some 20, none, .mov (.t 2)⟩,
 ⟨some 21, none, .len (.t 20)⟩,
 ⟨some 22, none, .mov (.c (.int .i64 0))⟩]) (
 .block 0 (
 .loop b140_3))) (
 .seq (
 .reg none [
 ⟨some 10, none, .mov (.c .nils)⟩]) (
 .seq (
 .seq (
 .reg none [
 ⟨some 29, none, .load true 15 (.t 3)⟩,
 ⟨some 30, none, .mov (.t 1)⟩,
 ⟨some 31, none, .ncall true 140032 108 [(.t 29), (.t 30)]⟩,
 ⟨some 32, none, .len (.t 31)⟩,
 ⟨some 33, none, .mov (.c (.int .i64 0))⟩]) (
 .block 2 (
 .loop b140_1))) (
 .seq (
 .reg none [
 ⟨some 63, none, .mov (.t 10)⟩,
 ⟨some 64, none, .mov (.t 2)⟩,
 ⟨some 65, none, .len (.t 64)⟩,
 ⟨some 66, none, .ncall true 140067 161 [(.t 63), (.t 65)]⟩,
 ⟨some 62, none, .mov (.t 66)⟩,
 ⟨some 67, none, .ext 0 (.t 62)⟩,
 ⟨some 68, none, .ext 1 (.t 62)⟩,
 ⟨some 16, none, .mov (.t 67)⟩,
 ⟨some 17, none, .mov (.t 68)⟩]) (
 .gh [.keep [2, 3, 6, 16, 17]] (
 .seq (
 .seq (
 .reg none [
 ⟨some 69, none, .mov (.t 17)⟩,
 ⟨some 70, none, .not (.t 69)⟩]) (
 .cond (.t 70) (
 .seq (
 .reg none [
 ⟨some 71, none, .build (.ints .i64 [0, 0, 0, 0, 0, 0, 0, 0, 0, 0, 0, 0, 0, 0, 0]) []⟩,
 ⟨none, none, .store 15 (.t 6) (.t 71)⟩,
 ⟨some 7, none, .mov (.c (.bool false))⟩]) (
 .ret)) (
 .skip))) (
 .seq (
 .seq (
 .reg none [
 ⟨some 72, none, .mov (.t 2)⟩,
 ⟨some 73, none, .len (.t 72)⟩,
 ⟨some 74, none, .mov (.c (.int .i64 0))⟩]) (
 .block 6 (
 .loop b140_0))) (
 .seq (
 .reg none [
 ⟨some 86, none, .load true 15 (.t 3)⟩,
 ⟨none, none, .store 15 (.t 6) (.t 86)⟩,
 ⟨some 7, none, .mov (.c (.bool true))⟩]) (
 .ret)))))))))
def a140 : AFunc := ⟨87, c140, [.cell 6 true 15, .tmp 7]⟩
/-! 141 cassegrain/cassegrainref05.sets params [3, 3] nfree 0 ntmps 39 -/
def l141_1 : ACode :=
 .seq (
 .seq (
 .reg none [
 ⟨some 22, none, .mov (.t 8)⟩,
 ⟨some 23, none, .mov (.t 7)⟩,
 ⟨some 24, none, .len (.t 23)⟩,
 ⟨some 25, none, .bin .lss (.t 22) (.t 24)⟩]) (
 .cond (.t 25) (
 .skip) (
 .exit 2))) (
 .seq (
 .block 3 (
 .reg none [
 ⟨some 28, none, .mov (.t 5)⟩,
 ⟨some 29, none, .mov (.t 6)⟩,
 ⟨some 30, none, .bslice 141031 3 1 [(.t 29)]⟩,
 ⟨some 31, none, .mov (.t 7)⟩,
 ⟨some 32, none, .mov (.t 8)⟩,
 ⟨some 33, none, .iaddr 1 (.t 31) (.t 32)⟩,
 ⟨some 34, none, .load false 1 (.t 33)⟩,
 ⟨some 35, none, .append 141036 3 1 (.t 30) (.t 34)⟩,
 ⟨some 36, none, .bslice 141037 25 1 [(.t 35)]⟩,
 ⟨some 37, none, .append 141038 25 1 (.t 28) (.t 36)⟩,
 ⟨some 5, none, .mov (.t 37)⟩])) (
 .reg none [
 ⟨some 26, none, .mov (.t 8)⟩,
 ⟨some 27, none, .bin .add (.t 26) (.c (.int .i64 1))⟩,
 ⟨some 8, none, .mov (.t 27)⟩]))
def b141_1 : ACode := .gh [.keep [1, 5, 6, 7, 8]] (.gh [] l141_1)
def l141_0 : ACode :=
 .seq (
 .seq (
 .reg none [
 ⟨some 13, none, .mov (.t 6)⟩,
 ⟨some 14, none, .bin .lss (.t 13) (.c (.int .i64 15))⟩]) (
 .cond (.t 14) (
 .skip) (
 .exit 0))) (
 .seq (
 .block 1 (
 .seq (
 .reg none [
 ⟨some 17, none, .mov (.t 6)⟩,
 ⟨some 18, none, .bin .add (.t 17) (.c (.int .i64 1))⟩,
 ⟨some 19, none, .mov (.t 1)⟩,
 ⟨some 20, none, .bin .sub (.t 19) (.c (.int .i64 1))⟩,
 ⟨some 21, none, .ncall true 141022 141 [(.t 18), (.t 20)]⟩,
 ⟨some 7, none, .mov (.t 21)⟩]) (
 .seq (
 .reg none [
 ⟨some 8, none, .mov (.c (.int .i64 0))⟩]) (
 .block 2 (
 .loop b141_1))))) (
 .reg none [
 ⟨some 15, none, .mov (.t 6)⟩,
 ⟨some 16, none, .bin .add (.t 15) (.c (.int .i64 1))⟩,
 ⟨some 6, none, .mov (.t 16)⟩]))
def b141_0 : ACode := .gh [.keep [1, 5, 6]] (.gh [] l141_0)
def k141_1 : List AItem := .inLoop b141_1 :: [.inBlock 2,
 .inBlock 1,
 .code (.reg none [
 ⟨some 15, none, .mov (.t 6)⟩,
 ⟨some 16, none, .bin .add (.t 15) (.c (.int .i64 1))⟩,
 ⟨some 6, none, .mov (.t 16)⟩]),
 .inLoop b141_0,
 .inBlock 0,
 .code (.seq (
 .reg none [
 ⟨some 38, none, .mov (.t 5)⟩,
 ⟨some 4, none, .mov (.t 38)⟩]) (
 .ret))]
def k141_0 : List AItem := .inLoop b141_0 :: [.inBlock 0,
 .code (.seq (
 .reg none [
 ⟨some 38, none, .mov (.t 5)⟩,
 ⟨some 4, none, .mov (.t 38)⟩]) (
 .ret))]
def c141 : ACode :=
 .seq (
 .reg none [
 ⟨some 4, none, .mov (.c .nils)⟩]) (
 .seq (
 .seq (
 .reg none [
 ⟨some 9, none, .mov (.t 1)⟩,
 ⟨some 10, none, .bin .eql (.t 9) (.c (.int .i64 0))⟩]) (
 .cond (.t 10) (
 .seq (
 .reg none [
 ⟨some 11, none, .bslice 141012 25 1 [(.c .nils)]⟩,
 ⟨some 4, none, .mov (.t 11)⟩]) (
 .ret)) (
 .skip))) (
 .seq (
 .reg none [
 ⟨some 5, none, .mov (.c .nils)⟩]) (
 .seq (
 .seq (
 .reg none [
 ⟨some 12, none, .mov (.t 0)⟩,
 ⟨some 6, none, .mov (.t 12)⟩]) (
 .block 0 (
 .loop b141_0))) (
 .seq (
 .reg none [
 ⟨some 38, none, .mov (.t 5)⟩,
 ⟨some 4, none, .mov (.t 38)⟩]) (
 .ret)))))
def a141 : AFunc := ⟨39, c141, [.tmp 4]⟩
/-! 142 cassegrain/cassegrainref05.inverse params [3] nfree 0 ntmps 13 -/
def l142_0 : ACode :=
 .seq (
 .seq (
 .reg none [
 ⟨some 4, none, .mov (.t 3)⟩,
 ⟨some 5, none, .bin .lss (.t 4) (.c (.int .i64 16))⟩]) (
 .cond (.t 5) (
 .skip) (
 .exit 0))) (
 .seq (
 .block 1 (
 .seq (
 .reg none [
 ⟨some 8, none, .mov (.t 0)⟩,
 ⟨some 9, none, .mov (.t 3)⟩,
 ⟨some 10, none, .ncall true 0 28 [(.t 8), (.t 9)]⟩,
 ⟨some 11, none, .bin .eql (.t 10) (.c (.int .i64 1))⟩]) (
 .cond (.t 11) (
 .seq (
 .reg none [
 ⟨some 12, none, .mov (.t 3)⟩,
 ⟨some 2, none, .mov (.t 12)⟩]) (
 .ret)) (
 .skip)))) (
 .reg none [
 ⟨some 6, none, .mov (.t 3)⟩,
 ⟨some 7, none, .bin .add (.t 6) (.c (.int .i64 1))⟩,
 ⟨some 3, none, .mov (.t 7)⟩]))
def b142_0 : ACode := .gh [.keep [0, 3]] (.gh [] l142_0)
def k142_0 : List AItem := .inLoop b142_0 :: [.inBlock 0,
 .code (.seq (
 .reg none [
 ⟨some 2, none, .mov (.c (.int .i64 0))⟩]) (
 .ret))]
def c142 : ACode :=
 .seq (
 .reg none [
 ⟨some 2, none, .mov (.c (.int .i64 0))⟩]) (
 .seq (
 .seq (
 .reg none [
 ⟨some 3, none, .mov (.c (.int .i64 1))⟩]) (
 .block 0 (
 .loop b142_0))) (
 .seq (
 .reg none [
 ⟨some 2, none, .mov (.c (.int .i64 0))⟩]) (
 .ret)))
def a142 : AFunc := ⟨13, c142, [.tmp 2]⟩
/-! 143 cassegrain/cassegrainref05.IsWord params [3, 25] nfree 0 ntmps 21 -/
def l143_0 : ACode :=
 .seq (
 .seq (
 .reg none [
 ⟨some 10, none, .mov (.t 6)⟩,
 ⟨some 11, none, .mov (.t 5)⟩,
 ⟨some 12, none, .len (.t 11)⟩,
 ⟨some 13, none, .bin .lss (.t 10) (.t 12)⟩]) (
 .cond (.t 13) (
 .skip) (
 .exit 0))) (
 .seq (
 .block 1 (
 .seq (
 .reg none [
 ⟨some 16, none, .mov (.t 5)⟩,
 ⟨some 17, none, .mov (.t 6)⟩,
 ⟨some 18, none, .iaddr 1 (.t 16) (.t 17)⟩,
 ⟨some 19, none, .load false 1 (.t 18)⟩,
 ⟨some 20, none, .bin .neq (.t 19) (.c (.int .i64 0))⟩]) (
 .cond (.t 20) (
 .seq (
 .reg none [
 ⟨some 4, none, .mov (.c (.bool false))⟩]) (
 .ret)) (
 .skip)))) (
 .reg none [
 ⟨some 14, none, .mov (.t 6)⟩,
 ⟨some 15, none, .bin .add (.t 14) (.c (.int .i64 1))⟩,
 ⟨some 6, none, .mov (.t 15)⟩]))
def b143_0 : ACode := .gh [.keep [5, 6]] (.gh [] l143_0)
def k143_0 : List AItem := .inLoop b143_0 :: [.inBlock 0,
 .code (.seq (
 .reg none [
 ⟨some 4, none, .mov (.c (.bool true))⟩]) (
 .ret))]
def c143 : ACode :=
 .seq (
 .reg none [
 ⟨some 4, none, .mov (.c (.bool false))⟩]) (
 .seq (
 .reg none [
 ⟨some 7, none, .mov (.t 0)⟩,
 ⟨some 8, none, .mov (.t 1)⟩,
 ⟨some 9, none, .ncall true 143010 31 [(.t 7), (.t 8)]⟩,
 ⟨some 5, none, .mov (.t 9)⟩]) (
 .seq (
 .seq (
 .reg none [
 ⟨some 6, none, .mov (.c (.int .i64 0))⟩]) (
 .block 0 (
 .loop b143_0))) (
 .seq (
 .reg none [
 ⟨some 4, none, .mov (.c (.bool true))⟩]) (
 .ret))))
def a143 : AFunc := ⟨21, c143, [.tmp 4]⟩
/-! 144 slices.Chunk[[]int,int] params [25, 3] nfree 0 ntmps 9 -/
def c144 : ACode :=
 .seq (
 .reg none [
 ⟨some 2, none, .box 144003 25 (.t 0)⟩,
 ⟨some 3, none, .box 144004 3 (.t 1)⟩,
 ⟨some 4, none, .mov (.c (.val .nilFunc))⟩]) (
 .seq (
 .seq (
 .reg none [
 ⟨some 5, none, .load false 1 (.t 3)⟩,
 ⟨some 6, none, .bin .lss (.t 5) (.c (.int .i64 1))⟩]) (
 .cond (.t 6) (
 .junk /- op makeInterface -/) (
 .skip))) (
 .seq (
 .reg none [
 ⟨some 8, none, .mkfn 162 [(.t 2), (.t 3)]⟩,
 ⟨some 4, none, .mov (.t 8)⟩]) (
 .ret)))
def a144 : AFunc := ⟨9, c144, [.tmp 4]⟩
/-! 145 cassegrain/cassegrainbase.NumberOf params [25] nfree 0 ntmps 19 -/
def l145_0 : ACode :=
 .seq (
 .seq (
 .reg none [
 ⟨some 5, none, .mov (.t 4)⟩,
 ⟨some 6, none, .mov (.t 0)⟩,
 ⟨some 7, none, .len (.t 6)⟩,
 ⟨some 8, none, .bin .lss (.t 5) (.t 7)⟩]) (
 .cond (.t 8) (
 .skip) (
 .exit 0))) (
 .seq (
 .block 1 (
 .reg none [
 ⟨some 11, none, .mov (.t 3)⟩,
 ⟨some 12, none, .bin .mul (.c (.int .i64 2)) (.t 11)⟩,
 ⟨some 13, none, .mov (.t 0)⟩,
 ⟨some 14, none, .mov (.t 4)⟩,
 ⟨some 15, none, .iaddr 1 (.t 13) (.t 14)⟩,
 ⟨some 16, none, .load false 1 (.t 15)⟩,
 ⟨some 17, none, .bin .add (.t 12) (.t 16)⟩,
 ⟨some 3, none, .mov (.t 17)⟩])) (
 .reg none [
 ⟨some 9, none, .mov (.t 4)⟩,
 ⟨some 10, none, .bin .add (.t 9) (.c (.int .i64 1))⟩,
 ⟨some 4, none, .mov (.t 10)⟩]))
def b145_0 : ACode := .gh [.keep [0, 3, 4]] (.gh [] l145_0)
def k145_0 : List AItem := .inLoop b145_0 :: [.inBlock 0,
 .code (.seq (
 .reg none [
 ⟨some 18, none, .mov (.t 3)⟩,
 ⟨some 2, none, .mov (.t 18)⟩]) (
 .ret))]
def c145 : ACode :=
 .seq (
 .reg none [
 ⟨some 2, none, .mov (.c (.int .i64 0))⟩]) (
 .seq (
 .reg none [
 ⟨some 3, none, .mov (.c (.int .i64 0))⟩]) (
 .seq (
 .seq (
 .reg none [
 ⟨some 4, none, .mov (.c (.int .i64 0))⟩]) (
 .block 0 (
 .loop b145_0))) (
 .seq (
 .reg none [
 ⟨some 18, none, .mov (.t 3)⟩,
 ⟨some 2, none, .mov (.t 18)⟩]) (
 .ret))))
def a145 : AFunc := ⟨19, c145, [.tmp 2]⟩
/-! 146 (cassegrain/code.trellis).rest params [123] nfree 0 ntmps 71 -/
def l146_0 : ACode :=
 .seq (
 .seq (
 .reg none [
 ⟨some 33, none, .load false 1 (.t 5)⟩,
 ⟨some 34, none, .bin .geq (.t 33) (.c (.int .i64 0))⟩]) (
 .cond (.t 34) (
 .skip) (
 .exit 2))) (
 .seq (
 .block 3 (
 .seq (
 .reg none [
 ⟨some 37, none, .load true 4 (.t 1)⟩,
 ⟨some 38, none, .load false 1 (.t 5)⟩,
 ⟨some 39, none, .ncall true 0 128 [(.t 37), (.t 38)]⟩]) (
 .block 4 (
 .rf 146901 (.t 39) [40] (
 .reg none [
 ⟨some 6, none, .alloc 146007 145 (.agg (.gen [(.int .i64 0), (.int .i64 0), (.int .i64 0), (.flt .f32 0)]))⟩,
 ⟨none, none, .store 4 (.t 6) (.t 40)⟩]) (
 .block 5 (
 .reg (some []) [
 ⟨some 41, none, .load false 1 (.t 3)⟩,
 ⟨some 42, none, .load false 1 (.t 5)⟩,
 ⟨some 43, none, .iaddr 1 (.t 41) (.t 42)⟩,
 ⟨some 44, none, .load false 1 (.t 43)⟩,
 ⟨some 45, none, .faddr 0 (.t 6)⟩,
 ⟨some 46, none, .load false 1 (.t 45)⟩,
 ⟨some 47, none, .load false 1 (.t 3)⟩,
 ⟨some 48, none, .load false 1 (.t 5)⟩,
 ⟨some 49, none, .iaddr 1 (.t 47) (.t 48)⟩,
 ⟨some 50, none, .load false 1 (.t 49)⟩,
 ⟨some 51, none, .faddr 0 (.t 6)⟩,
 ⟨some 52, none, .load false 1 (.t 51)⟩,
 ⟨some 53, none, .iaddr 1 (.t 50) (.t 52)⟩,
 ⟨some 54, none, .load false 1 (.t 53)⟩,
 ⟨some 55, none, .load false 1 (.t 3)⟩,
 ⟨some 56, none, .load false 1 (.t 5)⟩,
 ⟨some 57, none, .bin .add (.t 56) (.c (.int .i64 1))⟩,
 ⟨some 58, none, .iaddr 1 (.t 55) (.t 57)⟩,
 ⟨some 59, none, .load false 1 (.t 58)⟩,
 ⟨some 60, none, .faddr 2 (.t 6)⟩,
 ⟨some 61, none, .load false 1 (.t 60)⟩,
 ⟨some 62, none, .iaddr 1 (.t 59) (.t 61)⟩,
 ⟨some 63, none, .load false 1 (.t 62)⟩,
 ⟨some 64, none, .faddr 3 (.t 6)⟩,
 ⟨some 65, none, .load false 1 (.t 64)⟩,
 ⟨some 66, none, .bin .add (.t 63) (.t 65)⟩,
 ⟨some 67, none, .mm true (.t 54) (.t 66)⟩,
 ⟨some 68, none, .iaddr 1 (.t 44) (.t 46)⟩,
 ⟨none, none, .store 1 (.t 68) (.t 67)⟩])))))) (
 .seq (
 .seq (
 .reg none [
 ⟨some 69, none, .load false 1 (.t 5)⟩]) (
 .reg none [
 ⟨some 5, none, .alloc 146006 3 (.int .i64 0)⟩,
 ⟨none, none, .store 1 (.t 5) (.t 69)⟩])) (
 .reg none [
 ⟨some 35, none, .load false 1 (.t 5)⟩,
 ⟨some 36, none, .bin .sub (.t 35) (.c (.int .i64 1))⟩,
 ⟨none, none, .store 1 (.t 5) (.t 36)⟩])))
def b146_0 : ACode := .gh [.keep [1, 3, 5]] (.gh [] l146_0)
def l146_1 : ACode :=
 .seq (
 .reg none [
 ⟨some 14, none, .bin .lss (.t 13) (.t 12)⟩]) (
 .seq (
 .cond (.t 14) (
 .skip) (
 .exit 0)) (
 .seq (
 .block 1 (
 .seq (
 .reg none [
 ⟨some 15, none, .mov (.t 13)⟩,
 ⟨some 4, none, .mov (.t 15)⟩]) (
 .reg (some [(0, 2), (0, 5), (1, 2), (1, 5), (2, 3), (2, 4)]) [
 ⟨some 16, none, .load false 1 (.t 3)⟩,
 ⟨some 17, none, .mov (.t 4)⟩,
 ⟨some 18, none, .bslice 146019 143 1 [(.c (.flt .f32 3351465984))]⟩,
 ⟨some 19, none, .load true 4 (.t 1)⟩,
 ⟨some 20, none, .ncall true 0 127 [(.t 19)]⟩,
 ⟨some 21, none, .ncall true 146022 163 [(.t 18), (.t 20)]⟩,
 ⟨some 22, none, .iaddr 1 (.t 16) (.t 17)⟩,
 ⟨none, none, .store 1 (.t 22) (.t 21)⟩]))) (
 .reg none [
 ⟨some 23, none, .bin .add (.t 13) (.c (.int .i64 1))⟩,
 ⟨some 13, none, .mov (.t 23)⟩])))
def b146_1 : ACode := .gh [.keep [1, 3, 12, 13]] (.gh [] l146_1)
def k146_0 : List AItem := .inLoop b146_0 :: [.inBlock 2,
 .code (.seq (
 .reg none [
 ⟨some 70, none, .load false 1 (.t 3)⟩,
 ⟨some 2, none, .mov (.t 70)⟩]) (
 .ret))]
def k146_1 : List AItem := .inLoop b146_1 :: [.inBlock 0,
 .code (.seq (
 .reg (some []) [
 ⟨some 24, none, .load false 1 (.t 3)⟩,
 ⟨some 25, none, .load true 4 (.t 1)⟩,
 ⟨some 26, none, .ncall true 0 126 [(.t 25)]⟩,
 ⟨some 27, none, .iaddr 1 (.t 24) (.t 26)⟩,
 ⟨some 28, none, .load false 1 (.t 27)⟩,
 ⟨some 29, none, .iaddr 1 (.t 28) (.c (.int .i64 0))⟩,
 ⟨none, none, .store 1 (.t 29) (.c (.flt .f32 0))⟩]) (
 .gh [.keep [1, 3]] (
 .seq (
 .seq (
 .reg none [
 ⟨some 30, none, .load true 4 (.t 1)⟩,
 ⟨some 31, none, .ncall true 0 126 [(.t 30)]⟩,
 ⟨some 32, none, .bin .sub (.t 31) (.c (.int .i64 1))⟩,
 ⟨some 5, none, .alloc 146006 3 (.int .i64 0)⟩,
 ⟨none, none, .store 1 (.t 5) (.t 32)⟩]) (
 .block 2 (
 .loop b146_0))) (
 .seq (
 .reg none [
 ⟨some 70, none, .load false 1 (.t 3)⟩,
 ⟨some 2, none, .mov (.t 70)⟩]) (
 .ret)))))]
def c146 : ACode :=
 .seq (
 .reg none [
 ⟨some 1, none, .box 146002 123 (.t 0)⟩,
 ⟨some 2, none, .mov (.c .nils)⟩]) (
 .seq (
 .reg none [
 ⟨some 7, none, .load true 4 (.t 1)⟩,
 ⟨some 8, none, .ncall true 0 126 [(.t 7)]⟩,
 ⟨some 9, none, .bin .add (.t 8) (.c (.int .i64 1))⟩,
 ⟨some 10, none, .mkslice 146011 170 1 .nils (.t 9)⟩,
 ⟨some 3, none, .alloc 146004 168 .nils⟩,
 ⟨none, none, .store 1 (.t 3) (.t 10)⟩]) (
 .seq (
 .seq (
 .reg none [
 ⟨some 11, none, .load false 1 (.t 3)⟩,
 ⟨some 12, none, .len (.t 11)⟩,
 ⟨some 13, none, .mov (.c (.int .i64 0))⟩]) (
 .block 0 (
 .loop b146_1))) (
 .seq (
 .reg (some []) [
 ⟨some 24, none, .load false 1 (.t 3)⟩,
 ⟨some 25, none, .load true 4 (.t 1)⟩,
 ⟨some 26, none, .ncall true 0 126 [(.t 25)]⟩,
 ⟨some 27, none, .iaddr 1 (.t 24) (.t 26)⟩,
 ⟨some 28, none, .load false 1 (.t 27)⟩,
 ⟨some 29, none, .iaddr 1 (.t 28) (.c (.int .i64 0))⟩,
 ⟨none, none, .store 1 (.t 29) (.c (.flt .f32 0))⟩]) (
 .gh [.keep [1, 3]] (
 .seq (
 .seq (
 .reg none [
 ⟨some 30, none, .load true 4 (.t 1)⟩,
 ⟨some 31, none, .ncall true 0 126 [(.t 30)]⟩,
 ⟨some 32, none, .bin .sub (.t 31) (.c (.int .i64 1))⟩,
 ⟨some 5, none, .alloc 146006 3 (.int .i64 0)⟩,
 ⟨none, none, .store 1 (.t 5) (.t 32)⟩]) (
 .block 2 (
 .loop b146_0))) (
 .seq (
 .reg none [
 ⟨some 70, none, .load false 1 (.t 3)⟩,
 ⟨some 2, none, .mov (.t 70)⟩]) (
 .ret)))))))
def a146 : AFunc := ⟨71, c146, [.tmp 2]⟩
/-! 147 (cassegrain/code.trellis).bits params [123] nfree 0 ntmps 9 -/
def c147 : ACode :=
 .seq (
 .reg none [
 ⟨some 1, none, .box 147002 123 (.t 0)⟩,
 ⟨some 2, none, .mov (.c (.int .i64 0))⟩]) (
 .seq (
 .reg (some []) [
 ⟨some 3, none, .load true 4 (.t 1)⟩,
 ⟨some 4, none, .ncall true 0 126 [(.t 3)]⟩,
 ⟨some 5, none, .faddr 0 (.t 1)⟩,
 ⟨some 6, none, .faddr 0 (.t 5)⟩,
 ⟨some 7, none, .load false 1 (.t 6)⟩,
 ⟨some 8, none, .bin .sub (.t 4) (.t 7)⟩,
 ⟨some 2, none, .mov (.t 8)⟩]) (
 .gh [.keep [2]] (
 .ret)))
def a147 : AFunc := ⟨9, c147, [.tmp 2]⟩
/-! 148 cassegrain/cassegrainref05.output params [3, 3] nfree 0 ntmps 20 -/
def l148_0 : ACode :=
 .seq (
 .seq (
 .reg none [
 ⟨some 10, none, .mov (.t 6)⟩,
 ⟨some 11, none, .bin .gtr (.t 10) (.c (.int .i64 0))⟩]) (
 .cond (.t 11) (
 .skip) (
 .exit 0))) (
 .seq (
 .block 1 (
 .reg none [
 ⟨some 14, none, .mov (.t 5)⟩,
 ⟨some 15, none, .mov (.t 6)⟩,
 ⟨some 16, none, .bin .rem (.t 15) (.c (.int .i64 2))⟩,
 ⟨some 17, none, .bin .add (.t 14) (.t 16)⟩,
 ⟨some 5, none, .mov (.t 17)⟩])) (
 .reg none [
 ⟨some 12, none, .mov (.t 6)⟩,
 ⟨some 13, none, .bin .quo (.t 12) (.c (.int .i64 2))⟩,
 ⟨some 6, none, .mov (.t 13)⟩]))
def b148_0 : ACode := .gh [.keep [5, 6]] (.gh [] l148_0)
def k148_0 : List AItem := .inLoop b148_0 :: [.inBlock 0,
 .code (.seq (
 .reg none [
 ⟨some 18, none, .mov (.t 5)⟩,
 ⟨some 19, none, .bin .rem (.t 18) (.c (.int .i64 2))⟩,
 ⟨some 4, none, .mov (.t 19)⟩]) (
 .ret))]
def c148 : ACode :=
 .seq (
 .reg none [
 ⟨some 4, none, .mov (.c (.int .i64 0))⟩]) (
 .seq (
 .reg none [
 ⟨some 5, none, .mov (.c (.int .i64 0))⟩]) (
 .seq (
 .seq (
 .reg none [
 ⟨some 7, none, .mov (.t 0)⟩,
 ⟨some 8, none, .mov (.t 1)⟩,
 ⟨some 9, none, .bin .and (.t 7) (.t 8)⟩,
 ⟨some 6, none, .mov (.t 9)⟩]) (
 .block 0 (
 .loop b148_0))) (
 .seq (
 .reg none [
 ⟨some 18, none, .mov (.t 5)⟩,
 ⟨some 19, none, .bin .rem (.t 18) (.c (.int .i64 2))⟩,
 ⟨some 4, none, .mov (.t 19)⟩]) (
 .ret))))
def a148 : AFunc := ⟨20, c148, [.tmp 4]⟩
/-! 149 slices.ContainsFunc[[]int,int] params [25, 40] nfree 0 ntmps 9 -/
def c149 : ACode :=
 .seq (
 .reg none [
 ⟨some 4, none, .mov (.c (.bool false))⟩]) (
 .seq (
 .reg none [
 ⟨some 5, none, .mov (.t 0)⟩,
 ⟨some 6, none, .mov (.t 1)⟩,
 ⟨some 7, none, .ncall true 0 164 [(.t 5), (.t 6)]⟩,
 ⟨some 8, none, .bin .geq (.t 7) (.c (.int .i64 0))⟩,
 ⟨some 4, none, .mov (.t 8)⟩]) (
 .ret))
def a149 : AFunc := ⟨9, c149, [.tmp 4]⟩
/-! 150 cassegrain/code.rangeErr$1 params [3] nfree 2 ntmps 10 -/
def c150 : ACode :=
 .seq (
 .reg none [
 ⟨some 4, none, .mov (.c (.bool false))⟩]) (
 .seq (
 .reg none [
 ⟨some 5, none, .mov (.t 0)⟩,
 ⟨some 6, none, .load false 1 (.t 1)⟩,
 ⟨some 7, none, .load false 1 (.t 2)⟩,
 ⟨some 8, none, .ncall true 0 112 [(.t 5), (.t 6), (.t 7)]⟩,
 ⟨some 9, none, .not (.t 8)⟩,
 ⟨some 4, none, .mov (.t 9)⟩]) (
 .ret))
def a150 : AFunc := ⟨10, c150, [.tmp 4]⟩
/-! 151 (cassegrain/code.word).syndrome params [133, 3] nfree 0 ntmps 24 -/
def l151_0 : ACode :=
 .seq (
 .reg none [
 ⟨some 10, none, .bin .lss (.t 9) (.c (.int .i64 15))⟩]) (
 .seq (
 .cond (.t 10) (
 .skip) (
 .exit 0)) (
 .seq (
 .block 1 (
 .seq (
 .reg none [
 ⟨some 11, none, .mov (.t 9)⟩,
 ⟨some 12, none, .idx 15 (.t 8) (.t 9)⟩,
 ⟨some 6, none, .mov (.t 11)⟩,
 ⟨some 7, none, .mov (.t 12)⟩]) (
 .reg none [
 ⟨some 13, none, .mov (.t 5)⟩,
 ⟨some 14, none, .mov (.t 7)⟩,
 ⟨some 15, none, .mov (.t 1)⟩,
 ⟨some 16, none, .mov (.t 6)⟩,
 ⟨some 17, none, .bin .sub (.c (.int .i64 14)) (.t 16)⟩,
 ⟨some 18, none, .bin .mul (.t 15) (.t 17)⟩,
 ⟨some 19, none, .ncall true 0 160 [(.t 18)]⟩,
 ⟨some 20, none, .ncall true 0 104 [(.t 14), (.t 19)]⟩,
 ⟨some 21, none, .bin .xor (.t 13) (.t 20)⟩,
 ⟨some 5, none, .mov (.t 21)⟩]))) (
 .reg none [
 ⟨some 22, none, .bin .add (.t 9) (.c (.int .i64 1))⟩,
 ⟨some 9, none, .mov (.t 22)⟩])))
def b151_0 : ACode := .gh [.keep [1, 5, 8, 9]] (.gh [] l151_0)
def k151_0 : List AItem := .inLoop b151_0 :: [.inBlock 0,
 .code (.seq (
 .reg none [
 ⟨some 23, none, .mov (.t 5)⟩,
 ⟨some 4, none, .mov (.t 23)⟩]) (
 .ret))]
def c151 : ACode :=
 .seq (
 .reg none [
 ⟨some 2, none, .box 151003 133 (.t 0)⟩,
 ⟨some 4, none, .mov (.c (.int .i64 0))⟩]) (
 .seq (
 .reg none [
 ⟨some 5, none, .mov (.c (.int .i64 0))⟩]) (
 .seq (
 .seq (
 .reg none [
 ⟨some 8, none, .load true 15 (.t 2)⟩,
 ⟨some 9, none, .mov (.c (.int .i64 0))⟩]) (
 .block 0 (
 .loop b151_0))) (
 .seq (
 .reg none [
 ⟨some 23, none, .mov (.t 5)⟩,
 ⟨some 4, none, .mov (.t 23)⟩]) (
 .ret))))
def a151 : AFunc := ⟨24, c151, [.tmp 4]⟩
/-! 152 slices.Contains[[]int,int] params [25, 3] nfree 0 ntmps 9 -/
def c152 : ACode :=
 .seq (
 .reg none [
 ⟨some 4, none, .mov (.c (.bool false))⟩]) (
 .seq (
 .reg none [
 ⟨some 5, none, .mov (.t 0)⟩,
 ⟨some 6, none, .mov (.t 1)⟩,
 ⟨some 7, none, .ncall true 0 165 [(.t 5), (.t 6)]⟩,
 ⟨some 8, none, .bin .geq (.t 7) (.c (.int .i64 0))⟩,
 ⟨some 4, none, .mov (.t 8)⟩]) (
 .ret))
def a152 : AFunc := ⟨9, c152, [.tmp 4]⟩
/-! 153 math/bits.OnesCount params [167] nfree 0 ntmps 8 -/
def c153 : ACode :=
 .seq (
 .reg none [
 ⟨some 2, none, .mov (.c (.int .i64 0))⟩]) (
 .seq (
 .cond (.c (.bool false)) (
 .seq (
 .reg none [
 ⟨some 3, none, .mov (.t 0)⟩,
 ⟨some 4, none, .conv .u32 (.t 3)⟩,
 ⟨some 5, none, .ncall true 0 166 [(.t 4)]⟩,
 ⟨some 2, none, .mov (.t 5)⟩]) (
 .ret)) (
 .skip)) (
 .seq (
 .reg none [
 ⟨some 6, none, .mov (.t 0)⟩,
 ⟨some 7, none, .ncall true 0 167 [(.t 6)]⟩,
 ⟨some 2, none, .mov (.t 7)⟩]) (
 .ret)))
def a153 : AFunc := ⟨8, c153, [.tmp 2]⟩
/-! 154 math/bits.Mul params [167, 167] nfree 0 ntmps 30 -/
def c154 : ACode :=
 .seq (
 .reg none [
 ⟨some 4, none, .mov (.c (.int .u64 0))⟩,
 ⟨some 5, none, .mov (.c (.int .u64 0))⟩]) (
 .seq (
 .cond (.c (.bool false)) (
 .seq (
 .reg none [
 ⟨some 11, none, .mov (.t 0)⟩,
 ⟨some 12, none, .conv .u32 (.t 11)⟩,
 ⟨some 13, none, .mov (.t 1)⟩,
 ⟨some 14, none, .conv .u32 (.t 13)⟩,
 ⟨some 15, none, .ncall true 0 168 [(.t 12), (.t 14)]⟩,
 ⟨some 10, none, .mov (.t 15)⟩,
 ⟨some 16, none, .ext 0 (.t 10)⟩,
 ⟨some 17, none, .ext 1 (.t 10)⟩,
 ⟨some 6, none, .mov (.t 16)⟩,
 ⟨some 7, none, .mov (.t 17)⟩]) (
 .gh [.keep [6, 7]] (
 .seq (
 .reg none [
 ⟨some 18, none, .mov (.t 6)⟩,
 ⟨some 19, none, .conv .u64 (.t 18)⟩,
 ⟨some 20, none, .mov (.t 7)⟩,
 ⟨some 21, none, .conv .u64 (.t 20)⟩,
 ⟨some 4, none, .mov (.t 19)⟩,
 ⟨some 5, none, .mov (.t 21)⟩]) (
 .ret)))) (
 .skip)) (
 .seq (
 .reg none [
 ⟨some 23, none, .mov (.t 0)⟩,
 ⟨some 24, none, .mov (.t 1)⟩,
 ⟨some 25, none, .ncall true 0 169 [(.t 23), (.t 24)]⟩,
 ⟨some 22, none, .mov (.t 25)⟩,
 ⟨some 26, none, .ext 0 (.t 22)⟩,
 ⟨some 27, none, .ext 1 (.t 22)⟩,
 ⟨some 8, none, .mov (.t 26)⟩,
 ⟨some 9, none, .mov (.t 27)⟩]) (
 .gh [.keep [8, 9]] (
 .seq (
 .reg none [
 ⟨some 28, none, .mov (.t 8)⟩,
 ⟨some 29, none, .mov (.t 9)⟩,
 ⟨some 4, none, .mov (.t 28)⟩,
 ⟨some 5, none, .mov (.t 29)⟩]) (
 .ret)))))
def a154 : AFunc := ⟨30, c154, [.tmp 4, .tmp 5]⟩
/-! 155 (cassegrain/code.trellis).branches$1 params [176] nfree 2 ntmps 64 -/
def l155_1 : ACode :=
 .seq (
 .reg none [
 ⟨some 15, none, .bin .lss (.t 14) (.c (.int .i64 2))⟩]) (
 .seq (
 .cond (.t 15) (
 .skip) (
 .exit 2)) (
 .seq (
 .block 3 (
 .seq (
 .reg none [
 ⟨some 16, none, .mov (.t 14)⟩,
 ⟨some 5, none, .mov (.t 16)⟩]) (
 .seq (
 .seq (
 .reg (some []) [
 ⟨some 17, none, .mov (.t 5)⟩,
 ⟨some 18, none, .bin .eql (.t 17) (.c (.int .i64 1))⟩,
 ⟨some 19, none, .mov (.t 18)⟩,
 ⟨some 20, (some (19, true)), .load false 1 (.t 2)⟩,
 ⟨some 21, (some (19, true)), .load true 4 (.t 1)⟩,
 ⟨some 22, (some (19, true)), .ncall true 0 147 [(.t 21)]⟩,
 ⟨some 23, (some (19, true)), .bin .geq (.t 20) (.t 22)⟩,
 ⟨some 24, none, .pick (.t 19) (.t 23) (.c (.bool false))⟩]) (
 .gh [.keep [0, 1, 2, 4, 5, 10, 11, 14, 24]] (
 .cond (.t 24) (
 .exit 2) (
 .skip)))) (
 .seq (
 .reg none [
 ⟨some 26, none, .faddr 0 (.t 1)⟩,
 ⟨some 27, none, .load true 3 (.t 26)⟩,
 ⟨some 28, none, .mov (.t 4)⟩,
 ⟨some 29, none, .mov (.t 5)⟩,
 ⟨some 30, none, .ncall true 0 121 [(.t 27), (.t 28), (.t 29)]⟩,
 ⟨some 25, none, .mov (.t 30)⟩,
 ⟨some 31, none, .ext 0 (.t 25)⟩,
 ⟨some 32, none, .ext 1 (.t 25)⟩,
 ⟨some 7, none, .alloc 155008 22 (.agg (.ints .i64 [0, 0]))⟩,
 ⟨some 6, none, .mov (.t 31)⟩,
 ⟨none, none, .store 2 (.t 7) (.t 32)⟩]) (
 .gh [.keep [0, 1, 2, 4, 5, 6, 7, 10, 11, 14]] (
 .seq (
 .reg (some []) [
 ⟨some 33, none, .aaddr 2 1 (.t 7) (.c (.int .i64 0))⟩,
 ⟨some 34, none, .load false 1 (.t 33)⟩,
 ⟨some 35, none, .faddr 3 (.t 1)⟩,
 ⟨some 36, none, .load false 1 (.t 35)⟩,
 ⟨some 37, none, .load false 1 (.t 2)⟩,
 ⟨some 38, none, .bin .mul (.c (.int .i64 2)) (.t 37)⟩,
 ⟨some 39, none, .iaddr 1 (.t 36) (.t 38)⟩,
 ⟨some 40, none, .load false 1 (.t 39)⟩,
 ⟨some 41, none, .ncall true 0 125 [(.t 34), (.t 40)]⟩,
 ⟨some 42, none, .aaddr 2 1 (.t 7) (.c (.int .i64 1))⟩,
 ⟨some 43, none, .load false 1 (.t 42)⟩,
 ⟨some 44, none, .faddr 3 (.t 1)⟩,
 ⟨some 45, none, .load false 1 (.t 44)⟩,
 ⟨some 46, none, .load false 1 (.t 2)⟩,
 ⟨some 47, none, .bin .mul (.c (.int .i64 2)) (.t 46)⟩,
 ⟨some 48, none, .bin .add (.t 47) (.c (.int .i64 1))⟩,
 ⟨some 49, none, .iaddr 1 (.t 45) (.t 48)⟩,
 ⟨some 50, none, .load false 1 (.t 49)⟩,
 ⟨some 51, none, .ncall true 0 125 [(.t 43), (.t 50)]⟩,
 ⟨some 52, none, .bin .add (.t 41) (.t 51)⟩,
 ⟨some 8, none, .mov (.t 52)⟩]) (
 .gh [.keep [0, 1, 2, 4, 5, 6, 8, 10, 11, 14]] (
 .seq (
 .reg none [
 ⟨some 53, none, .mov (.t 0)⟩,
 ⟨some 54, none, .mov (.t 4)⟩,
 ⟨some 55, none, .mov (.t 5)⟩,
 ⟨some 56, none, .mov (.t 6)⟩,
 ⟨some 57, none, .mov (.t 8)⟩,
 ⟨some 58, none, .i2f .f32 (.t 57)⟩,
 ⟨some 59, none, .build (.gen [(.int .i64 0), (.int .i64 0), (.int .i64 0), (.flt .f32 0)]) [(0, 1, (.t 54)), (1, 1, (.t 55)), (2, 1, (.t 56)), (3, 1, (.t 58))]⟩,
 ⟨some 60, none, .icallv (.t 53) [(.t 59)]⟩,
 ⟨some 61, none, .not (.t 60)⟩]) (
 .gh [.keep [0, 1, 2, 4, 10, 11, 14, 61]] (
 .cond (.t 61) (
 .ret) (
 .skip))))))))))) (
 .reg none [
 ⟨some 62, none, .bin .add (.t 14) (.c (.int .i64 1))⟩,
 ⟨some 14, none, .mov (.t 62)⟩])))
def b155_1 : ACode := .gh [.keep [0, 1, 2, 4, 10, 11, 14]] (.gh [] l155_1)
def l155_0 : ACode :=
 .seq (
 .reg none [
 ⟨some 12, none, .bin .lss (.t 11) (.t 10)⟩]) (
 .seq (
 .cond (.t 12) (
 .skip) (
 .exit 0)) (
 .seq (
 .block 1 (
 .seq (
 .reg none [
 ⟨some 13, none, .mov (.t 11)⟩,
 ⟨some 4, none, .mov (.t 13)⟩]) (
 .seq (
 .reg none [
 ⟨some 14, none, .mov (.c (.int .i64 0))⟩]) (
 .block 2 (
 .loop b155_1))))) (
 .reg none [
 ⟨some 63, none, .bin .add (.t 11) (.c (.int .i64 1))⟩,
 ⟨some 11, none, .mov (.t 63)⟩])))
def b155_0 : ACode := .gh [.keep [0, 1, 2, 10, 11]] (.gh [] l155_0)
def k155_1 : List AItem := .inLoop b155_1 :: [.inBlock 2,
 .inBlock 1,
 .code (.reg none [
 ⟨some 63, none, .bin .add (.t 11) (.c (.int .i64 1))⟩,
 ⟨some 11, none, .mov (.t 63)⟩]),
 .inLoop b155_0,
 .inBlock 0]
def k155_0 : List AItem := .inLoop b155_0 :: [.inBlock 0]
def c155 : ACode :=
 .seq (
 .reg none [
 ⟨some 9, none, .load true 4 (.t 1)⟩,
 ⟨some 10, none, .ncall true 0 127 [(.t 9)]⟩,
 ⟨some 11, none, .mov (.c (.int .i64 0))⟩]) (
 .block 0 (
 .loop b155_0))
def a155 : AFunc := ⟨64, c155, []⟩
/-! 156 cassegrain/code.words$1 params [64] nfree 1 ntmps 44 -/
def l156_1 : ACode :=
 .seq (
 .reg none [
 ⟨some 18, none, .bin .lss (.t 17) (.t 16)⟩]) (
 .seq (
 .cond (.t 18) (
 .skip) (
 .exit 2)) (
 .seq (
 .block 3 (
 .seq (
 .reg none [
 ⟨some 19, none, .mov (.t 17)⟩,
 ⟨some 5, none, .mov (.t 19)⟩]) (
 .reg none [
 ⟨some 20, none, .mov (.t 4)⟩,
 ⟨some 21, none, .mov (.t 5)⟩,
 ⟨some 22, none, .mov (.t 3)⟩,
 ⟨some 23, none, .faddr 0 (.t 1)⟩,
 ⟨some 24, none, .load false 1 (.t 23)⟩,
 ⟨some 25, none, .bin .sub (.t 24) (.c (.int .i64 1))⟩,
 ⟨some 26, none, .mov (.t 5)⟩,
 ⟨some 27, none, .bin .sub (.t 25) (.t 26)⟩,
 ⟨some 28, none, .bin .shr (.t 22) (.t 27)⟩,
 ⟨some 29, none, .bin .and (.t 28) (.c (.int .i64 1))⟩,
 ⟨some 30, none, .iaddr 1 (.t 20) (.t 21)⟩,
 ⟨none, none, .store 1 (.t 30) (.t 29)⟩]))) (
 .reg none [
 ⟨some 31, none, .bin .add (.t 17) (.c (.int .i64 1))⟩,
 ⟨some 17, none, .mov (.t 31)⟩])))
def b156_1 : ACode := .gh [.keep [0, 1, 3, 4, 8, 9, 16, 17]] (.gh [] l156_1)
def l156_0 : ACode :=
 .seq (
 .reg none [
 ⟨some 10, none, .bin .lss (.t 9) (.t 8)⟩]) (
 .seq (
 .cond (.t 10) (
 .skip) (
 .exit 0)) (
 .seq (
 .block 1 (
 .seq (
 .reg none [
 ⟨some 11, none, .mov (.t 9)⟩,
 ⟨some 3, none, .mov (.t 11)⟩]) (
 .seq (
 .reg none [
 ⟨some 12, none, .faddr 0 (.t 1)⟩,
 ⟨some 13, none, .load false 1 (.t 12)⟩,
 ⟨some 14, none, .mkslice 156015 3 1 (.int .i64 0) (.t 13)⟩,
 ⟨some 4, none, .mov (.t 14)⟩]) (
 .seq (
 .seq (
 .reg none [
 ⟨some 15, none, .mov (.t 4)⟩,
 ⟨some 16, none, .len (.t 15)⟩,
 ⟨some 17, none, .mov (.c (.int .i64 0))⟩]) (
 .block 2 (
 .loop b156_1))) (
 .seq (
 .reg none [
 ⟨some 32, none, .load true 2 (.t 1)⟩,
 ⟨some 33, none, .mov (.t 4)⟩,
 ⟨some 34, none, .ncall true 156035 115 [(.t 32), (.t 33)]⟩,
 ⟨some 35, none, .len (.t 34)⟩,
 ⟨some 36, none, .bin .eql (.t 35) (.c (.int .i64 0))⟩,
 ⟨some 37, none, .mov (.t 36)⟩,
 ⟨some 38, (some (37, true)), .mov (.t 0)⟩,
 ⟨some 39, (some (37, true)), .mov (.t 4)⟩,
 ⟨some 40, (some (37, true)), .icallv (.t 38) [(.t 39)]⟩,
 ⟨some 41, (some (37, true)), .not (.t 40)⟩,
 ⟨some 42, none, .pick (.t 37) (.t 41) (.c (.bool false))⟩]) (
 .gh [.keep [0, 1, 8, 9, 42]] (
 .cond (.t 42) (
 .ret) (
 .skip)))))))) (
 .reg none [
 ⟨some 43, none, .bin .add (.t 9) (.c (.int .i64 1))⟩,
 ⟨some 9, none, .mov (.t 43)⟩])))
def b156_0 : ACode := .gh [.keep [0, 1, 8, 9]] (.gh [] l156_0)
def k156_1 : List AItem := .inLoop b156_1 :: [.inBlock 2,
 .code (.seq (
 .reg none [
 ⟨some 32, none, .load true 2 (.t 1)⟩,
 ⟨some 33, none, .mov (.t 4)⟩,
 ⟨some 34, none, .ncall true 156035 115 [(.t 32), (.t 33)]⟩,
 ⟨some 35, none, .len (.t 34)⟩,
 ⟨some 36, none, .bin .eql (.t 35) (.c (.int .i64 0))⟩,
 ⟨some 37, none, .mov (.t 36)⟩,
 ⟨some 38, (some (37, true)), .mov (.t 0)⟩,
 ⟨some 39, (some (37, true)), .mov (.t 4)⟩,
 ⟨some 40, (some (37, true)), .icallv (.t 38) [(.t 39)]⟩,
 ⟨some 41, (some (37, true)), .not (.t 40)⟩,
 ⟨some 42, none, .pick (.t 37) (.t 41) (.c (.bool false))⟩]) (
 .gh [.keep [0, 1, 8, 9, 42]] (
 .cond (.t 42) (
 .ret) (
 .skip)))),
 .inBlock 1,
 .code (.reg none [
 ⟨some 43, none, .bin .add (.t 9) (.c (.int .i64 1))⟩,
 ⟨some 9, none, .mov (.t 43)⟩]),
 .inLoop b156_0,
 .inBlock 0]
def k156_0 : List AItem := .inLoop b156_0 :: [.inBlock 0]
def c156 : ACode :=
 .seq (
 .reg none [
 ⟨some 6, none, .faddr 0 (.t 1)⟩,
 ⟨some 7, none, .load false 1 (.t 6)⟩,
 ⟨some 8, none, .bin .shl (.c (.int .i64 1)) (.t 7)⟩,
 ⟨some 9, none, .mov (.c (.int .i64 0))⟩]) (
 .block 0 (
 .loop b156_0))
def a156 : AFunc := ⟨44, c156, []⟩
/-! 157 (*strings.Builder).copyCheck params [150] nfree 0 ntmps 20 -/
def c157 : ACode :=
 .seq (
 .reg none [
 ⟨some 2, none, .mov (.t 0)⟩,
 ⟨some 3, none, .nilck (.t 2)⟩,
 ⟨some 4, none, .faddr 0 (.t 3)⟩,
 ⟨some 5, none, .load false 1 (.t 4)⟩,
 ⟨some 6, none, .bin .eql (.t 5) (.c (.val (.pointer none)))⟩]) (
 .cond (.t 6) (
 .junk /- convert pointer unsafePointer -/) (
 .seq (
 .reg none [
 ⟨some 14, none, .mov (.t 0)⟩,
 ⟨some 15, none, .nilck (.t 14)⟩,
 ⟨some 16, none, .faddr 0 (.t 15)⟩,
 ⟨some 17, none, .load false 1 (.t 16)⟩,
 ⟨some 18, none, .mov (.t 0)⟩,
 ⟨some 19, none, .bin .neq (.t 17) (.t 18)⟩]) (
 .cond (.t 19) (
 .junk) (
 .skip))))
def a157 : AFunc := ⟨20, c157, []⟩
/-! 158 internal/stringslite.IndexByte params [9, 5] nfree 0 ntmps 8 -/
def c158 : ACode :=
 .seq (
 .reg none [
 ⟨some 4, none, .mov (.c (.int .i64 0))⟩]) (
 .seq (
 .reg none [
 ⟨some 5, none, .mov (.t 0)⟩,
 ⟨some 6, none, .mov (.t 1)⟩,
 ⟨some 7, none, .ncall true 0 171 [(.t 5), (.t 6)]⟩,
 ⟨some 4, none, .mov (.t 7)⟩]) (
 .ret))
def a158 : AFunc := ⟨8, c158, [.tmp 4]⟩
/-! 159 cassegrain/code.positions params [25, 3] nfree 0 ntmps 96 -/
def l159_1 : ACode :=
 .seq (
 .reg none [
 ⟨some 72, none, .bin .lss (.t 71) (.t 70)⟩]) (
 .seq (
 .cond (.t 72) (
 .skip) (
 .exit 6)) (
 .seq (
 .block 7 (
 .seq (
 .reg none [
 ⟨some 73, none, .iaddr 1 (.t 69) (.t 71)⟩,
 ⟨some 74, none, .load false 1 (.t 73)⟩,
 ⟨some 18, none, .mov (.t 74)⟩]) (
 .seq (
 .reg none [
 ⟨some 75, none, .mov (.t 16)⟩,
 ⟨some 76, none, .mov (.t 14)⟩,
 ⟨some 77, none, .ncall true 0 104 [(.t 75), (.t 76)]⟩,
 ⟨some 16, none, .mov (.t 77)⟩]) (
 .reg none [
 ⟨some 78, none, .mov (.t 15)⟩,
 ⟨some 79, none, .mov (.t 18)⟩,
 ⟨some 80, none, .mov (.t 16)⟩,
 ⟨some 81, none, .ncall true 0 104 [(.t 79), (.t 80)]⟩,
 ⟨some 82, none, .bin .xor (.t 78) (.t 81)⟩,
 ⟨some 15, none, .mov (.t 82)⟩])))) (
 .reg none [
 ⟨some 83, none, .bin .add (.t 71) (.c (.int .i64 1))⟩,
 ⟨some 71, none, .mov (.t 83)⟩])))
def b159_1 : ACode := .gh [.keep [1, 10, 12, 13, 14, 15, 16, 63, 69, 70, 71]] (.gh [] l159_1)
def l159_0 : ACode :=
 .seq (
 .reg none [
 ⟨some 64, none, .bin .lss (.t 63) (.c (.int .i64 15))⟩]) (
 .seq (
 .cond (.t 64) (
 .skip) (
 .exit 4)) (
 .seq (
 .block 5 (
 .seq (
 .reg none [
 ⟨some 65, none, .mov (.t 63)⟩,
 ⟨some 13, none, .mov (.t 65)⟩]) (
 .seq (
 .reg none [
 ⟨some 66, none, .mov (.t 13)⟩,
 ⟨some 67, none, .ncall true 0 173 [(.t 66)]⟩,
 ⟨some 68, none, .ncall true 0 172 [(.t 67)]⟩,
 ⟨some 14, none, .mov (.t 68)⟩]) (
 .seq (
 .reg none [
 ⟨some 15, none, .mov (.c (.int .i64 1))⟩,
 ⟨some 16, none, .mov (.c (.int .i64 1))⟩]) (
 .seq (
 .seq (
 .reg none [
 ⟨some 69, none, .mov (.t 10)⟩,
 ⟨some 70, none, .len (.t 69)⟩,
 ⟨some 71, none, .mov (.c (.int .i64 0))⟩]) (
 .block 6 (
 .loop b159_1))) (
 .seq (
 .reg none [
 ⟨some 84, none, .mov (.t 15)⟩,
 ⟨some 85, none, .bin .eql (.t 84) (.c (.int .i64 0))⟩]) (
 .cond (.t 85) (
 .reg none [
 ⟨some 86, none, .mov (.t 12)⟩,
 ⟨some 87, none, .mov (.t 13)⟩,
 ⟨some 88, none, .bslice 159089 3 1 [(.t 87)]⟩,
 ⟨some 89, none, .append 159090 3 1 (.t 86) (.t 88)⟩,
 ⟨some 12, none, .mov (.t 89)⟩]) (
 .skip)))))))) (
 .reg none [
 ⟨some 90, none, .bin .add (.t 63) (.c (.int .i64 1))⟩,
 ⟨some 63, none, .mov (.t 90)⟩])))
def b159_0 : ACode := .gh [.keep [1, 10, 12, 63]] (.gh [] l159_0)
def l159_3 : ACode :=
 .seq (
 .seq (
 .reg none [
 ⟨some 27, none, .mov (.t 9)⟩,
 ⟨some 28, none, .mov (.t 1)⟩,
 ⟨some 29, none, .bin .leq (.t 27) (.t 28)⟩]) (
 .cond (.t 29) (
 .skip) (
 .exit 2))) (
 .seq (
 .block 3 (
 .reg none [
 ⟨some 32, none, .mov (.t 8)⟩,
 ⟨some 33, none, .mov (.t 0)⟩,
 ⟨some 34, none, .mov (.t 7)⟩,
 ⟨some 35, none, .mov (.t 1)⟩,
 ⟨some 36, none, .bin .add (.t 34) (.t 35)⟩,
 ⟨some 37, none, .mov (.t 9)⟩,
 ⟨some 38, none, .bin .sub (.t 36) (.t 37)⟩,
 ⟨some 39, none, .iaddr 1 (.t 33) (.t 38)⟩,
 ⟨some 40, none, .load false 1 (.t 39)⟩,
 ⟨some 41, none, .bslice 159042 3 1 [(.t 40)]⟩,
 ⟨some 42, none, .append 159043 3 1 (.t 32) (.t 41)⟩,
 ⟨some 8, none, .mov (.t 42)⟩])) (
 .reg none [
 ⟨some 30, none, .mov (.t 9)⟩,
 ⟨some 31, none, .bin .add (.t 30) (.c (.int .i64 1))⟩,
 ⟨some 9, none, .mov (.t 31)⟩]))
def b159_3 : ACode := .gh [.keep [0, 1, 6, 7, 8, 9]] (.gh [] l159_3)
def l159_2 : ACode :=
 .seq (
 .seq (
 .reg none [
 ⟨some 19, none, .mov (.t 7)⟩,
 ⟨some 20, none, .mov (.t 1)⟩,
 ⟨some 21, none, .bin .add (.t 19) (.t 20)⟩,
 ⟨some 22, none, .mov (.t 0)⟩,
 ⟨some 23, none, .len (.t 22)⟩,
 ⟨some 24, none, .bin .lss (.t 21) (.t 23)⟩]) (
 .cond (.t 24) (
 .skip) (
 .exit 0))) (
 .seq (
 .block 1 (
 .seq (
 .reg none [
 ⟨some 8, none, .mov (.c .nils)⟩]) (
 .seq (
 .seq (
 .reg none [
 ⟨some 9, none, .mov (.c (.int .i64 1))⟩]) (
 .block 2 (
 .loop b159_3))) (
 .reg none [
 ⟨some 43, none, .mov (.t 6)⟩,
 ⟨some 44, none, .mov (.t 8)⟩,
 ⟨some 45, none, .mov (.t 0)⟩,
 ⟨some 46, none, .mov (.t 7)⟩,
 ⟨some 47, none, .mov (.t 1)⟩,
 ⟨some 48, none, .bin .add (.t 46) (.t 47)⟩,
 ⟨some 49, none, .iaddr 1 (.t 45) (.t 48)⟩,
 ⟨some 50, none, .load false 1 (.t 49)⟩,
 ⟨some 51, none, .bslice 159052 3 1 [(.t 50)]⟩,
 ⟨some 52, none, .append 159053 3 1 (.t 44) (.t 51)⟩,
 ⟨some 53, none, .bslice 159054 25 1 [(.t 52)]⟩,
 ⟨some 54, none, .append 159055 25 1 (.t 43) (.t 53)⟩,
 ⟨some 6, none, .mov (.t 54)⟩])))) (
 .reg none [
 ⟨some 25, none, .mov (.t 7)⟩,
 ⟨some 26, none, .bin .add (.t 25) (.c (.int .i64 1))⟩,
 ⟨some 7, none, .mov (.t 26)⟩]))
def b159_2 : ACode := .gh [.keep [0, 1, 6, 7]] (.gh [] l159_2)
def k159_1 : List AItem := .inLoop b159_1 :: [.inBlock 6,
 .code (.seq (
 .reg none [
 ⟨some 84, none, .mov (.t 15)⟩,
 ⟨some 85, none, .bin .eql (.t 84) (.c (.int .i64 0))⟩]) (
 .cond (.t 85) (
 .reg none [
 ⟨some 86, none, .mov (.t 12)⟩,
 ⟨some 87, none, .mov (.t 13)⟩,
 ⟨some 88, none, .bslice 159089 3 1 [(.t 87)]⟩,
 ⟨some 89, none, .append 159090 3 1 (.t 86) (.t 88)⟩,
 ⟨some 12, none, .mov (.t 89)⟩]) (
 .skip))),
 .inBlock 5,
 .code (.reg none [
 ⟨some 90, none, .bin .add (.t 63) (.c (.int .i64 1))⟩,
 ⟨some 63, none, .mov (.t 90)⟩]),
 .inLoop b159_0,
 .inBlock 4,
 .code (.seq (
 .reg none [
 ⟨some 91, none, .mov (.t 12)⟩,
 ⟨some 92, none, .mov (.t 12)⟩,
 ⟨some 93, none, .len (.t 92)⟩,
 ⟨some 94, none, .mov (.t 1)⟩,
 ⟨some 95, none, .bin .eql (.t 93) (.t 94)⟩,
 ⟨some 4, none, .mov (.t 91)⟩,
 ⟨some 5, none, .mov (.t 95)⟩]) (
 .ret))]
def k159_0 : List AItem := .inLoop b159_0 :: [.inBlock 4,
 .code (.seq (
 .reg none [
 ⟨some 91, none, .mov (.t 12)⟩,
 ⟨some 92, none, .mov (.t 12)⟩,
 ⟨some 93, none, .len (.t 92)⟩,
 ⟨some 94, none, .mov (.t 1)⟩,
 ⟨some 95, none, .bin .eql (.t 93) (.t 94)⟩,
 ⟨some 4, none, .mov (.t 91)⟩,
 ⟨some 5, none, .mov (.t 95)⟩]) (
 .ret))]
def k159_3 : List AItem := .inLoop b159_3 :: [.inBlock 2,
 .code (.reg none [
 ⟨some 43, none, .mov (.t 6)⟩,
 ⟨some 44, none, .mov (.t 8)⟩,
 ⟨some 45, none, .mov (.t 0)⟩,
 ⟨some 46, none, .mov (.t 7)⟩,
 ⟨some 47, none, .mov (.t 1)⟩,
 ⟨some 48, none, .bin .add (.t 46) (.t 47)⟩,
 ⟨some 49, none, .iaddr 1 (.t 45) (.t 48)⟩,
 ⟨some 50, none, .load false 1 (.t 49)⟩,
 ⟨some 51, none, .bslice 159052 3 1 [(.t 50)]⟩,
 ⟨some 52, none, .append 159053 3 1 (.t 44) (.t 51)⟩,
 ⟨some 53, none, .bslice 159054 25 1 [(.t 52)]⟩,
 ⟨some 54, none, .append 159055 25 1 (.t 43) (.t 53)⟩,
 ⟨some 6, none, .mov (.t 54)⟩]),
 .inBlock 1,
 .code (.reg none [
 ⟨some 25, none, .mov (.t 7)⟩,
 ⟨some 26, none, .bin .add (.t 25) (.c (.int .i64 1))⟩,
 ⟨some 7, none, .mov (.t 26)⟩]),
 .inLoop b159_2,
 .inBlock 0,
 .code (.seq (
 .reg none [
 ⟨some 56, none, .mov (.t 6)⟩,
 ⟨some 57, none, .mov (.t 1)⟩,
 ⟨some 58, none, .ncall true 159059 161 [(.t 56), (.t 57)]⟩,
 ⟨some 55, none, .mov (.t 58)⟩,
 ⟨some 59, none, .ext 0 (.t 55)⟩,
 ⟨some 60, none, .ext 1 (.t 55)⟩,
 ⟨some 10, none, .mov (.t 59)⟩,
 ⟨some 11, none, .mov (.t 60)⟩]) (
 .gh [.keep [1, 10, 11]] (
 .seq (
 .seq (
 .reg none [
 ⟨some 61, none, .mov (.t 11)⟩,
 ⟨some 62, none, .not (.t 61)⟩]) (
 .cond (.t 62) (
 .seq (
 .reg none [
 ⟨some 4, none, .mov (.c .nils)⟩,
 ⟨some 5, none, .mov (.c (.bool false))⟩]) (
 .ret)) (
 .skip))) (
 .seq (
 .reg none [
 ⟨some 12, none, .mov (.c .nils)⟩]) (
 .seq (
 .seq (
 .reg none [
 ⟨some 63, none, .mov (.c (.int .i64 0))⟩]) (
 .block 4 (
 .loop b159_0))) (
 .seq (
 .reg none [
 ⟨some 91, none, .mov (.t 12)⟩,
 ⟨some 92, none, .mov (.t 12)⟩,
 ⟨some 93, none, .len (.t 92)⟩,
 ⟨some 94, none, .mov (.t 1)⟩,
 ⟨some 95, none, .bin .eql (.t 93) (.t 94)⟩,
 ⟨some 4, none, .mov (.t 91)⟩,
 ⟨some 5, none, .mov (.t 95)⟩]) (
 .ret)))))))]
def k159_2 : List AItem := .inLoop b159_2 :: [.inBlock 0,
 .code (.seq (
 .reg none [
 ⟨some 56, none, .mov (.t 6)⟩,
 ⟨some 57, none, .mov (.t 1)⟩,
 ⟨some 58, none, .ncall true 159059 161 [(.t 56), (.t 57)]⟩,
 ⟨some 55, none, .mov (.t 58)⟩,
 ⟨some 59, none, .ext 0 (.t 55)⟩,
 ⟨some 60, none, .ext 1 (.t 55)⟩,
 ⟨some 10, none, .mov (.t 59)⟩,
 ⟨some 11, none, .mov (.t 60)⟩]) (
 .gh [.keep [1, 10, 11]] (
 .seq (
 .seq (
 .reg none [
 ⟨some 61, none, .mov (.t 11)⟩,
 ⟨some 62, none, .not (.t 61)⟩]) (
 .cond (.t 62) (
 .seq (
 .reg none [
 ⟨some 4, none, .mov (.c .nils)⟩,
 ⟨some 5, none, .mov (.c (.bool false))⟩]) (
 .ret)) (
 .skip))) (
 .seq (
 .reg none [
 ⟨some 12, none, .mov (.c .nils)⟩]) (
 .seq (
 .seq (
 .reg none [
 ⟨some 63, none, .mov (.c (.int .i64 0))⟩]) (
 .block 4 (
 .loop b159_0))) (
 .seq (
 .reg none [
 ⟨some 91, none, .mov (.t 12)⟩,
 ⟨some 92, none, .mov (.t 12)⟩,
 ⟨some 93, none, .len (.t 92)⟩,
 ⟨some 94, none, .mov (.t 1)⟩,
 ⟨some 95, none, .bin .eql (.t 93) (.t 94)⟩,
 ⟨some 4, none, .mov (.t 91)⟩,
 ⟨some 5, none, .mov (.t 95)⟩]) (
 .ret)))))))]
def c159 : ACode :=
 .seq (
 .reg none [
 ⟨some 4, none, .mov (.c .nils)⟩,
 ⟨some 5, none, .mov (.c (.bool false))⟩]) (
 .seq (
 .reg none [
 ⟨some 6, none, .mov (.c .nils)⟩]) (
 .seq (
 .seq (
 .reg none [
 ⟨some 7, none, .mov (.c (.int .i64 0))⟩]) (
 .block 0 (
 .loop b159_2))) (
 .seq (
 .reg none [
 ⟨some 56, none, .mov (.t 6)⟩,
 ⟨some 57, none, .mov (.t 1)⟩,
 ⟨some 58, none, .ncall true 159059 161 [(.t 56), (.t 57)]⟩,
 ⟨some 55, none, .mov (.t 58)⟩,
 ⟨some 59, none, .ext 0 (.t 55)⟩,
 ⟨some 60, none, .ext 1 (.t 55)⟩,
 ⟨some 10, none, .mov (.t 59)⟩,
 ⟨some 11, none, .mov (.t 60)⟩]) (
 .gh [.keep [1, 10, 11]] (
 .seq (
 .seq (
 .reg none [
 ⟨some 61, none, .mov (.t 11)⟩,
 ⟨some 62, none, .not (.t 61)⟩]) (
 .cond (.t 62) (
 .seq (
 .reg none [
 ⟨some 4, none, .mov (.c .nils)⟩,
 ⟨some 5, none, .mov (.c (.bool false))⟩]) (
 .ret)) (
 .skip))) (
 .seq (
 .reg none [
 ⟨some 12, none, .mov (.c .nils)⟩]) (
 .seq (
 .seq (
 .reg none [
 ⟨some 63, none, .mov (.c (.int .i64 0))⟩]) (
 .block 4 (
 .loop b159_0))) (
 .seq (
 .reg none [
 ⟨some 91, none, .mov (.t 12)⟩,
 ⟨some 92, none, .mov (.t 12)⟩,
 ⟨some 93, none, .len (.t 92)⟩,
 ⟨some 94, none, .mov (.t 1)⟩,
 ⟨some 95, none, .bin .eql (.t 93) (.t 94)⟩,
 ⟨some 4, none, .mov (.t 91)⟩,
 ⟨some 5, none, .mov (.t 95)⟩]) (
 .ret)))))))))
def a159 : AFunc := ⟨96, c159, [.tmp 4, .tmp 5]⟩
/-! 160 cassegrain/code.power params [3] nfree 0 ntmps 12 -/
def l160_0 : ACode :=
 .seq (
 .reg none [
 ⟨some 7, none, .bin .lss (.t 6) (.t 5)⟩]) (
 .seq (
 .cond (.t 7) (
 .skip) (
 .exit 0)) (
 .seq (
 .block 1 (
 .reg none [
 ⟨some 8, none, .mov (.t 3)⟩,
 ⟨some 9, none, .ncall true 0 104 [(.t 8), (.c (.int .i64 2))]⟩,
 ⟨some 3, none, .mov (.t 9)⟩])) (
 .reg none [
 ⟨some 10, none, .bin .add (.t 6) (.c (.int .i64 1))⟩,
 ⟨some 6, none, .mov (.t 10)⟩])))
def b160_0 : ACode := .gh [.keep [3, 5, 6]] (.gh [] l160_0)
def k160_0 : List AItem := .inLoop b160_0 :: [.inBlock 0,
 .code (.seq (
 .reg none [
 ⟨some 11, none, .mov (.t 3)⟩,
 ⟨some 2, none, .mov (.t 11)⟩]) (
 .ret))]
def c160 : ACode :=
 .seq (
 .reg none [
 ⟨some 2, none, .mov (.c (.int .i64 0))⟩]) (
 .seq (
 .reg none [
 ⟨some 3, none, .mov (.c (.int .i64 1))⟩]) (
 .seq (
 .seq (
 .reg none [
 ⟨some 4, none, .mov (.t 0)⟩,
 ⟨some 5, none, .bin .rem (.t 4) (.c (.int .i64 15))⟩,
 ⟨some 6, none, .mov (.c (.int .i64 0))⟩]) (
 .block 0 (
 .loop b160_0))) (
 .seq (
 .reg none [
 ⟨some 11, none, .mov (.t 3)⟩,
 ⟨some 2, none, .mov (.t 11)⟩]) (
 .ret))))
def a160 : AFunc := ⟨12, c160, [.tmp 2]⟩
/-! 161 cassegrain/code.solved params [46, 3] nfree 0 ntmps 146 -/
def l161_0 : ACode :=
 .seq (
 .reg none [
 ⟨some 125, none, .bin .lss (.t 124) (.t 123)⟩]) (
 .seq (
 .cond (.t 125) (
 .skip) (
 .exit 8)) (
 .seq (
 .block 9 (
 .seq (
 .reg none [
 ⟨some 126, none, .mov (.t 124)⟩,
 ⟨some 127, none, .iaddr 1 (.t 122) (.t 124)⟩,
 ⟨some 128, none, .load false 1 (.t 127)⟩,
 ⟨some 15, none, .mov (.t 126)⟩,
 ⟨some 16, none, .mov (.t 128)⟩]) (
 .seq (
 .seq (
 .reg none [
 ⟨some 129, none, .mov (.t 15)⟩,
 ⟨some 130, none, .mov (.t 1)⟩,
 ⟨some 131, none, .bin .lss (.t 129) (.t 130)⟩]) (
 .cond (.t 131) (
 .seq (
 .reg none [
 ⟨some 132, none, .mov (.t 14)⟩,
 ⟨some 133, none, .mov (.t 16)⟩,
 ⟨some 134, none, .mov (.t 1)⟩,
 ⟨some 135, none, .iaddr 1 (.t 133) (.t 134)⟩,
 ⟨some 136, none, .load false 1 (.t 135)⟩,
 ⟨some 137, none, .bslice 161138 3 1 [(.t 136)]⟩,
 ⟨some 138, none, .append 161139 3 1 (.t 132) (.t 137)⟩,
 ⟨some 14, none, .mov (.t 138)⟩]) (
 .gh [.keep [1, 14, 122, 123, 124]] (
 .exit 9))) (
 .skip))) (
 .seq (
 .reg none [
 ⟨some 139, none, .mov (.t 16)⟩,
 ⟨some 140, none, .mov (.t 1)⟩,
 ⟨some 141, none, .iaddr 1 (.t 139) (.t 140)⟩,
 ⟨some 142, none, .load false 1 (.t 141)⟩,
 ⟨some 143, none, .bin .neq (.t 142) (.c (.int .i64 0))⟩]) (
 .cond (.t 143) (
 .seq (
 .reg none [
 ⟨some 4, none, .mov (.c .nils)⟩,
 ⟨some 5, none, .mov (.c (.bool false))⟩]) (
 .ret)) (
 .skip)))))) (
 .reg none [
 ⟨some 144, none, .bin .add (.t 124) (.c (.int .i64 1))⟩,
 ⟨some 124, none, .mov (.t 144)⟩])))
def b161_0 : ACode := .gh [.keep [1, 14, 122, 123, 124]] (.gh [] l161_0)
def l161_3 : ACode :=
 .seq (
 .reg none [
 ⟨some 102, none, .bin .lss (.t 101) (.t 100)⟩]) (
 .seq (
 .cond (.t 102) (
 .skip) (
 .exit 6)) (
 .seq (
 .block 7 (
 .seq (
 .reg none [
 ⟨some 103, none, .mov (.t 101)⟩,
 ⟨some 13, none, .mov (.t 103)⟩]) (
 .reg (some []) [
 ⟨some 104, none, .mov (.t 11)⟩,
 ⟨some 105, none, .mov (.t 13)⟩,
 ⟨some 106, none, .iaddr 1 (.t 104) (.t 105)⟩,
 ⟨some 107, none, .load false 1 (.t 106)⟩,
 ⟨some 108, none, .mov (.t 0)⟩,
 ⟨some 109, none, .load false 1 (.t 6)⟩,
 ⟨some 110, none, .iaddr 1 (.t 108) (.t 109)⟩,
 ⟨some 111, none, .load false 1 (.t 110)⟩,
 ⟨some 112, none, .mov (.t 13)⟩,
 ⟨some 113, none, .iaddr 1 (.t 111) (.t 112)⟩,
 ⟨some 114, none, .load false 1 (.t 113)⟩,
 ⟨some 115, none, .mov (.t 12)⟩,
 ⟨some 116, none, .ncall true 0 104 [(.t 114), (.t 115)]⟩,
 ⟨some 117, none, .bin .xor (.t 107) (.t 116)⟩,
 ⟨some 118, none, .iaddr 1 (.t 104) (.t 105)⟩,
 ⟨none, none, .store 1 (.t 118) (.t 117)⟩]))) (
 .reg none [
 ⟨some 119, none, .bin .add (.t 101) (.c (.int .i64 1))⟩,
 ⟨some 101, none, .mov (.t 119)⟩])))
def b161_3 : ACode := .gh [.keep [0, 1, 6, 11, 12, 17, 18, 81, 82, 83, 100, 101]] (.gh [] l161_3)
def l161_2 : ACode :=
 .seq (
 .reg none [
 ⟨some 84, none, .bin .lss (.t 83) (.t 82)⟩]) (
 .seq (
 .cond (.t 84) (
 .skip) (
 .exit 4)) (
 .seq (
 .block 5 (
 .seq (
 .reg none [
 ⟨some 85, none, .mov (.t 83)⟩,
 ⟨some 86, none, .iaddr 1 (.t 81) (.t 83)⟩,
 ⟨some 87, none, .load false 1 (.t 86)⟩,
 ⟨some 10, none, .mov (.t 85)⟩,
 ⟨some 11, none, .mov (.t 87)⟩]) (
 .seq (
 .reg none [
 ⟨some 88, none, .mov (.t 11)⟩,
 ⟨some 89, none, .load false 1 (.t 6)⟩,
 ⟨some 90, none, .iaddr 1 (.t 88) (.t 89)⟩,
 ⟨some 91, none, .load false 1 (.t 90)⟩,
 ⟨some 12, none, .mov (.t 91)⟩]) (
 .seq (
 .reg none [
 ⟨some 92, none, .mov (.t 10)⟩,
 ⟨some 93, none, .load false 1 (.t 6)⟩,
 ⟨some 94, none, .bin .neq (.t 92) (.t 93)⟩,
 ⟨some 95, none, .mov (.t 94)⟩,
 ⟨some 96, (some (95, true)), .mov (.t 12)⟩,
 ⟨some 97, (some (95, true)), .bin .neq (.t 96) (.c (.int .i64 0))⟩,
 ⟨some 98, none, .pick (.t 95) (.t 97) (.c (.bool false))⟩]) (
 .gh [.keep [0, 1, 6, 11, 12, 17, 18, 81, 82, 83, 98]] (
 .cond (.t 98) (
 .seq (
 .reg none [
 ⟨some 99, none, .mov (.t 11)⟩,
 ⟨some 100, none, .len (.t 99)⟩,
 ⟨some 101, none, .mov (.c (.int .i64 0))⟩]) (
 .block 6 (
 .loop b161_3))) (
 .skip))))))) (
 .reg none [
 ⟨some 120, none, .bin .add (.t 83) (.c (.int .i64 1))⟩,
 ⟨some 83, none, .mov (.t 120)⟩])))
def b161_2 : ACode := .gh [.keep [0, 1, 6, 17, 18, 81, 82, 83]] (.gh [] l161_2)
def l161_4 : ACode :=
 .seq (
 .reg none [
 ⟨some 63, none, .bin .lss (.t 62) (.t 61)⟩]) (
 .seq (
 .cond (.t 63) (
 .skip) (
 .exit 2)) (
 .seq (
 .block 3 (
 .seq (
 .reg none [
 ⟨some 64, none, .mov (.t 62)⟩,
 ⟨some 9, none, .mov (.t 64)⟩]) (
 .reg (some []) [
 ⟨some 65, none, .mov (.t 0)⟩,
 ⟨some 66, none, .load false 1 (.t 6)⟩,
 ⟨some 67, none, .iaddr 1 (.t 65) (.t 66)⟩,
 ⟨some 68, none, .load false 1 (.t 67)⟩,
 ⟨some 69, none, .mov (.t 9)⟩,
 ⟨some 70, none, .mov (.t 0)⟩,
 ⟨some 71, none, .load false 1 (.t 6)⟩,
 ⟨some 72, none, .iaddr 1 (.t 70) (.t 71)⟩,
 ⟨some 73, none, .load false 1 (.t 72)⟩,
 ⟨some 74, none, .mov (.t 9)⟩,
 ⟨some 75, none, .iaddr 1 (.t 73) (.t 74)⟩,
 ⟨some 76, none, .load false 1 (.t 75)⟩,
 ⟨some 77, none, .mov (.t 8)⟩,
 ⟨some 78, none, .ncall true 0 104 [(.t 76), (.t 77)]⟩,
 ⟨some 79, none, .iaddr 1 (.t 68) (.t 69)⟩,
 ⟨none, none, .store 1 (.t 79) (.t 78)⟩]))) (
 .reg none [
 ⟨some 80, none, .bin .add (.t 62) (.c (.int .i64 1))⟩,
 ⟨some 62, none, .mov (.t 80)⟩])))
def b161_4 : ACode := .gh [.keep [0, 1, 6, 8, 17, 18, 61, 62]] (.gh [] l161_4)
def l161_1 : ACode :=
 .seq (
 .reg none [
 ⟨some 19, none, .bin .lss (.t 18) (.t 17)⟩]) (
 .seq (
 .cond (.t 19) (
 .skip) (
 .exit 0)) (
 .seq (
 .block 1 (
 .seq (
 .reg none [
 ⟨some 20, none, .mov (.t 18)⟩,
 ⟨some 6, none, .alloc 161007 3 (.int .i64 0)⟩,
 ⟨none, none, .store 1 (.t 6) (.t 20)⟩]) (
 .seq (
 .reg none [
 ⟨some 21, none, .mov (.t 0)⟩,
 ⟨some 22, none, .load false 1 (.t 6)⟩,
 ⟨some 23, none, .mov (.t 0)⟩,
 ⟨some 24, none, .len (.t 23)⟩,
 ⟨some 25, none, .mm false (.t 22) (.t 24)⟩,
 ⟨some 26, none, .slc 1 (.t 21) (some (.t 25)) none none⟩,
 ⟨some 27, none, .mkfn 175 [(.t 6)]⟩,
 ⟨some 28, none, .ncall true 0 174 [(.t 26), (.t 27)]⟩,
 ⟨some 7, none, .mov (.t 28)⟩]) (
 .gh [.keep [0, 1, 6, 7, 17, 18]] (
 .seq (
 .seq (
 .reg none [
 ⟨some 29, none, .mov (.t 7)⟩,
 ⟨some 30, none, .bin .lss (.t 29) (.c (.int .i64 0))⟩]) (
 .cond (.t 30) (
 .seq (
 .reg none [
 ⟨some 4, none, .mov (.c .nils)⟩,
 ⟨some 5, none, .mov (.c (.bool false))⟩]) (
 .ret)) (
 .skip))) (
 .seq (
 .reg (some [(2, 17), (3, 17), (4, 17), (5, 17)]) [
 ⟨some 31, none, .mov (.t 0)⟩,
 ⟨some 32, none, .load false 1 (.t 6)⟩,
 ⟨some 33, none, .mov (.t 0)⟩,
 ⟨some 34, none, .load false 1 (.t 6)⟩,
 ⟨some 35, none, .mov (.t 7)⟩,
 ⟨some 36, none, .bin .add (.t 34) (.t 35)⟩,
 ⟨some 37, none, .mov (.t 0)⟩,
 ⟨some 38, none, .load false 1 (.t 6)⟩,
 ⟨some 39, none, .mov (.t 7)⟩,
 ⟨some 40, none, .bin .add (.t 38) (.t 39)⟩,
 ⟨some 41, none, .iaddr 1 (.t 37) (.t 40)⟩,
 ⟨some 42, none, .load false 1 (.t 41)⟩,
 ⟨some 43, none, .mov (.t 0)⟩,
 ⟨some 44, none, .load false 1 (.t 6)⟩,
 ⟨some 45, none, .iaddr 1 (.t 43) (.t 44)⟩,
 ⟨some 46, none, .load false 1 (.t 45)⟩,
 ⟨some 47, none, .iaddr 1 (.t 31) (.t 32)⟩,
 ⟨none, none, .store 1 (.t 47) (.t 42)⟩,
 ⟨some 48, none, .iaddr 1 (.t 33) (.t 36)⟩,
 ⟨none, none, .store 1 (.t 48) (.t 46)⟩]) (
 .gh [.keep [0, 1, 6, 17, 18]] (
 .seq (
 .reg (some []) [
 ⟨some 49, none, .mov (.t 0)⟩,
 ⟨some 50, none, .load false 1 (.t 6)⟩,
 ⟨some 51, none, .iaddr 1 (.t 49) (.t 50)⟩,
 ⟨some 52, none, .load false 1 (.t 51)⟩,
 ⟨some 53, none, .load false 1 (.t 6)⟩,
 ⟨some 54, none, .iaddr 1 (.t 52) (.t 53)⟩,
 ⟨some 55, none, .load false 1 (.t 54)⟩,
 ⟨some 56, none, .ncall true 0 172 [(.t 55)]⟩,
 ⟨some 8, none, .mov (.t 56)⟩]) (
 .gh [.keep [0, 1, 6, 8, 17, 18]] (
 .seq (
 .seq (
 .reg none [
 ⟨some 57, none, .mov (.t 0)⟩,
 ⟨some 58, none, .load false 1 (.t 6)⟩,
 ⟨some 59, none, .iaddr 1 (.t 57) (.t 58)⟩,
 ⟨some 60, none, .load false 1 (.t 59)⟩,
 ⟨some 61, none, .len (.t 60)⟩,
 ⟨some 62, none, .mov (.c (.int .i64 0))⟩]) (
 .block 2 (
 .loop b161_4))) (
 .seq (
 .reg none [
 ⟨some 81, none, .mov (.t 0)⟩,
 ⟨some 82, none, .len (.t 81)⟩,
 ⟨some 83, none, .mov (.c (.int .i64 0))⟩]) (
 .block 4 (
 .loop b161_2))))))))))))) (
 .reg none [
 ⟨some 121, none, .bin .add (.t 18) (.c (.int .i64 1))⟩,
 ⟨some 18, none, .mov (.t 121)⟩])))
def b161_1 : ACode := .gh [.keep [0, 1, 17, 18]] (.gh [] l161_1)
def k161_0 : List AItem := .inLoop b161_0 :: [.inBlock 8,
 .code (.seq (
 .reg none [
 ⟨some 145, none, .mov (.t 14)⟩,
 ⟨some 4, none, .mov (.t 145)⟩,
 ⟨some 5, none, .mov (.c (.bool true))⟩]) (
 .ret))]
def k161_3 : List AItem := .inLoop b161_3 :: [.inBlock 6,
 .inBlock 5,
 .code (.reg none [
 ⟨some 120, none, .bin .add (.t 83) (.c (.int .i64 1))⟩,
 ⟨some 83, none, .mov (.t 120)⟩]),
 .inLoop b161_2,
 .inBlock 4,
 .inBlock 1,
 .code (.reg none [
 ⟨some 121, none, .bin .add (.t 18) (.c (.int .i64 1))⟩,
 ⟨some 18, none, .mov (.t 121)⟩]),
 .inLoop b161_1,
 .inBlock 0,
 .code (.seq (
 .reg none [
 ⟨some 14, none, .mov (.c .nils)⟩]) (
 .seq (
 .seq (
 .reg none [
 ⟨some 122, none, .mov (.t 0)⟩,
 ⟨some 123, none, .len (.t 122)⟩,
 ⟨some 124, none, .mov (.c (.int .i64 0))⟩]) (
 .block 8 (
 .loop b161_0))) (
 .seq (
 .reg none [
 ⟨some 145, none, .mov (.t 14)⟩,
 ⟨some 4, none, .mov (.t 145)⟩,
 ⟨some 5, none, .mov (.c (.bool true))⟩]) (
 .ret))))]
def k161_2 : List AItem := .inLoop b161_2 :: [.inBlock 4,
 .inBlock 1,
 .code (.reg none [
 ⟨some 121, none, .bin .add (.t 18) (.c (.int .i64 1))⟩,
 ⟨some 18, none, .mov (.t 121)⟩]),
 .inLoop b161_1,
 .inBlock 0,
 .code (.seq (
 .reg none [
 ⟨some 14, none, .mov (.c .nils)⟩]) (
 .seq (
 .seq (
 .reg none [
 ⟨some 122, none, .mov (.t 0)⟩,
 ⟨some 123, none, .len (.t 122)⟩,
 ⟨some 124, none, .mov (.c (.int .i64 0))⟩]) (
 .block 8 (
 .loop b161_0))) (
 .seq (
 .reg none [
 ⟨some 145, none, .mov (.t 14)⟩,
 ⟨some 4, none, .mov (.t 145)⟩,
 ⟨some 5, none, .mov (.c (.bool true))⟩]) (
 .ret))))]
def k161_4 : List AItem := .inLoop b161_4 :: [.inBlock 2,
 .code (.seq (
 .reg none [
 ⟨some 81, none, .mov (.t 0)⟩,
 ⟨some 82, none, .len (.t 81)⟩,
 ⟨some 83, none, .mov (.c (.int .i64 0))⟩]) (
 .block 4 (
 .loop b161_2))),
 .inBlock 1,
 .code (.reg none [
 ⟨some 121, none, .bin .add (.t 18) (.c (.int .i64 1))⟩,
 ⟨some 18, none, .mov (.t 121)⟩]),
 .inLoop b161_1,
 .inBlock 0,
 .code (.seq (
 .reg none [
 ⟨some 14, none, .mov (.c .nils)⟩]) (
 .seq (
 .seq (
 .reg none [
 ⟨some 122, none, .mov (.t 0)⟩,
 ⟨some 123, none, .len (.t 122)⟩,
 ⟨some 124, none, .mov (.c (.int .i64 0))⟩]) (
 .block 8 (
 .loop b161_0))) (
 .seq (
 .reg none [
 ⟨some 145, none, .mov (.t 14)⟩,
 ⟨some 4, none, .mov (.t 145)⟩,
 ⟨some 5, none, .mov (.c (.bool true))⟩]) (
 .ret))))]
def k161_1 : List AItem := .inLoop b161_1 :: [.inBlock 0,
 .code (.seq (
 .reg none [
 ⟨some 14, none, .mov (.c .nils)⟩]) (
 .seq (
 .seq (
 .reg none [
 ⟨some 122, none, .mov (.t 0)⟩,
 ⟨some 123, none, .len (.t 122)⟩,
 ⟨some 124, none, .mov (.c (.int .i64 0))⟩]) (
 .block 8 (
 .loop b161_0))) (
 .seq (
 .reg none [
 ⟨some 145, none, .mov (.t 14)⟩,
 ⟨some 4, none, .mov (.t 145)⟩,
 ⟨some 5, none, .mov (.c (.bool true))⟩]) (
 .ret))))]
def c161 : ACode :=
 .seq (
 .reg none [
 ⟨some 4, none, .mov (.c .nils)⟩,
 ⟨some 5, none, .mov (.c (.bool false))⟩]) (
 .seq (
 .seq (
 .reg none [
 ⟨some 17, none, .mov (.t 1)⟩,
 ⟨some 18, none, .mov (.c (.int .i64 0))⟩]) (
 .block 0 (
 .loop b161_1))) (
 .seq (
 .reg none [
 ⟨some 14, none, .mov (.c .nils)⟩]) (
 .seq (
 .seq (
 .reg none [
 ⟨some 122, none, .mov (.t 0)⟩,
 ⟨some 123, none, .len (.t 122)⟩,
 ⟨some 124, none, .mov (.c (.int .i64 0))⟩]) (
 .block 8 (
 .loop b161_0))) (
 .seq (
 .reg none [
 ⟨some 145, none, .mov (.t 14)⟩,
 ⟨some 4, none, .mov (.t 145)⟩,
 ⟨some 5, none, .mov (.c (.bool true))⟩]) (
 .ret)))))
def a161 : AFunc := ⟨146, c161, [.tmp 4, .tmp 5]⟩
/-! 162 slices.Chunk[[]int,int]$1 params [64] nfree 2 ntmps 31 -/
def l162_0 : ACode :=
 .seq (
 .seq (
 .reg none [
 ⟨some 6, none, .mov (.t 4)⟩,
 ⟨some 7, none, .load false 1 (.t 1)⟩,
 ⟨some 8, none, .len (.t 7)⟩,
 ⟨some 9, none, .bin .lss (.t 6) (.t 8)⟩]) (
 .cond (.t 9) (
 .skip) (
 .exit 0))) (
 .seq (
 .block 1 (
 .seq (
 .reg (some []) [
 ⟨some 13, none, .load false 1 (.t 2)⟩,
 ⟨some 14, none, .load false 1 (.t 1)⟩,
 ⟨some 15, none, .mov (.t 4)⟩,
 ⟨some 16, none, .slc 1 (.t 14) (some (.t 15)) none none⟩,
 ⟨some 17, none, .len (.t 16)⟩,
 ⟨some 18, none, .mm false (.t 13) (.t 17)⟩,
 ⟨some 5, none, .mov (.t 18)⟩]) (
 .gh [.keep [0, 1, 2, 4, 5]] (
 .seq (
 .reg none [
 ⟨some 19, none, .mov (.t 0)⟩,
 ⟨some 20, none, .load false 1 (.t 1)⟩,
 ⟨some 21, none, .mov (.t 4)⟩,
 ⟨some 22, none, .mov (.t 4)⟩,
 ⟨some 23, none, .mov (.t 5)⟩,
 ⟨some 24, none, .bin .add (.t 22) (.t 23)⟩,
 ⟨some 25, none, .mov (.t 4)⟩,
 ⟨some 26, none, .mov (.t 5)⟩,
 ⟨some 27, none, .bin .add (.t 25) (.t 26)⟩,
 ⟨some 28, none, .slc 1 (.t 20) (some (.t 21)) (some (.t 24)) (some (.t 27))⟩,
 ⟨some 29, none, .icallv (.t 19) [(.t 28)]⟩,
 ⟨some 30, none, .not (.t 29)⟩]) (
 .gh [.keep [0, 1, 2, 4, 30]] (
 .cond (.t 30) (
 .ret) (
 .skip))))))) (
 .reg none [
 ⟨some 10, none, .mov (.t 4)⟩,
 ⟨some 11, none, .load false 1 (.t 2)⟩,
 ⟨some 12, none, .bin .add (.t 10) (.t 11)⟩,
 ⟨some 4, none, .mov (.t 12)⟩]))
def b162_0 : ACode := .gh [.keep [0, 1, 2, 4]] (.gh [] l162_0)
def k162_0 : List AItem := .inLoop b162_0 :: [.inBlock 0]
def c162 : ACode :=
 .seq (
 .reg none [
 ⟨some 4, none, .mov (.c (.int .i64 0))⟩]) (
 .block 0 (
 .loop b162_0))
def a162 : AFunc := ⟨31, c162, []⟩
/-! 163 slices.Repeat[[]float32,float32] params [170, 3] nfree 0 ntmps 48 -/
def l163_0 : ACode :=
 .seq (
 .seq (
 .reg none [
 ⟨some 34, none, .mov (.t 8)⟩,
 ⟨some 35, none, .mov (.t 7)⟩,
 ⟨some 36, none, .len (.t 35)⟩,
 ⟨some 37, none, .bin .lss (.t 34) (.t 36)⟩]) (
 .cond (.t 37) (
 .skip) (
 .exit 0))) (
 .block 1 (
 .reg (some [(0, 7)]) [
 ⟨some 38, none, .mov (.t 8)⟩,
 ⟨some 39, none, .mov (.t 7)⟩,
 ⟨some 40, none, .mov (.t 8)⟩,
 ⟨some 41, none, .slc 1 (.t 39) (some (.t 40)) none none⟩,
 ⟨some 42, none, .mov (.t 7)⟩,
 ⟨some 43, none, .mov (.t 8)⟩,
 ⟨some 44, none, .slc 1 (.t 42) none (some (.t 43)) none⟩,
 ⟨some 45, none, .copy 1 (.t 41) (.t 44)⟩,
 ⟨some 46, none, .bin .add (.t 38) (.t 45)⟩,
 ⟨some 8, none, .mov (.t 46)⟩]))
def b163_0 : ACode := .gh [.keep [7, 8]] (.gh [] l163_0)
def k163_0 : List AItem := .inLoop b163_0 :: [.inBlock 0,
 .code (.seq (
 .reg none [
 ⟨some 47, none, .mov (.t 7)⟩,
 ⟨some 4, none, .mov (.t 47)⟩]) (
 .ret))]
def c163 : ACode :=
 .seq (
 .reg none [
 ⟨some 4, none, .mov (.c .nils)⟩]) (
 .seq (
 .seq (
 .reg none [
 ⟨some 9, none, .mov (.t 1)⟩,
 ⟨some 10, none, .bin .lss (.t 9) (.c (.int .i64 0))⟩]) (
 .cond (.t 10) (
 .junk /- op makeInterface -/) (
 .skip))) (
 .seq (
 .reg none [
 ⟨some 13, none, .mov (.t 0)⟩,
 ⟨some 14, none, .len (.t 13)⟩,
 ⟨some 15, none, .conv .u64 (.t 14)⟩,
 ⟨some 16, none, .mov (.t 1)⟩,
 ⟨some 17, none, .conv .u64 (.t 16)⟩,
 ⟨some 18, none, .ncall true 0 154 [(.t 15), (.t 17)]⟩,
 ⟨some 12, none, .mov (.t 18)⟩,
 ⟨some 19, none, .ext 0 (.t 12)⟩,
 ⟨some 20, none, .ext 1 (.t 12)⟩,
 ⟨some 5, none, .mov (.t 19)⟩,
 ⟨some 6, none, .mov (.t 20)⟩]) (
 .gh [.keep [0, 5, 6]] (
 .seq (
 .seq (
 .reg none [
 ⟨some 21, none, .mov (.t 5)⟩,
 ⟨some 22, none, .bin .gtr (.t 21) (.c (.int .u64 0))⟩,
 ⟨some 23, none, .mov (.t 22)⟩,
 ⟨some 24, (some (23, false)), .mov (.t 6)⟩,
 ⟨some 25, (some (23, false)), .bin .gtr (.t 24) (.c (.int .u64 9223372036854775807))⟩,
 ⟨some 26, none, .pick (.t 23) (.c (.bool true)) (.t 25)⟩]) (
 .cond (.t 26) (
 .junk /- op makeInterface -/) (
 .skip))) (
 .seq (
 .reg none [
 ⟨some 28, none, .mov (.t 6)⟩,
 ⟨some 29, none, .conv .i64 (.t 28)⟩,
 ⟨some 30, none, .mkslice 163031 143 1 (.flt .f32 0) (.t 29)⟩,
 ⟨some 7, none, .mov (.t 30)⟩]) (
 .seq (
 .reg none [
 ⟨some 31, none, .mov (.t 7)⟩,
 ⟨some 32, none, .mov (.t 0)⟩,
 ⟨some 33, none, .copy 1 (.t 31) (.t 32)⟩,
 ⟨some 8, none, .mov (.t 33)⟩]) (
 .seq (
 .block 0 (
 .loop b163_0)) (
 .seq (
 .reg none [
 ⟨some 47, none, .mov (.t 7)⟩,
 ⟨some 4, none, .mov (.t 47)⟩]) (
 .ret)))))))))
def a163 : AFunc := ⟨48, c163, [.tmp 4]⟩
/-! 164 slices.IndexFunc[[]int,int] params [25, 40] nfree 0 ntmps 19 -/
def l164_0 : ACode :=
 .seq (
 .reg none [
 ⟨some 9, none, .bin .lss (.t 8) (.t 7)⟩]) (
 .seq (
 .cond (.t 9) (
 .skip) (
 .exit 0)) (
 .seq (
 .block 1 (
 .seq (
 .reg none [
 ⟨some 10, none, .mov (.t 8)⟩,
 ⟨some 5, none, .mov (.t 10)⟩]) (
 .seq (
 .reg none [
 ⟨some 11, none, .mov (.t 1)⟩,
 ⟨some 12, none, .mov (.t 0)⟩,
 ⟨some 13, none, .mov (.t 5)⟩,
 ⟨some 14, none, .iaddr 1 (.t 12) (.t 13)⟩,
 ⟨some 15, none, .load false 1 (.t 14)⟩,
 ⟨some 16, none, .icallv (.t 11) [(.t 15)]⟩]) (
 .cond (.t 16) (
 .seq (
 .reg none [
 ⟨some 17, none, .mov (.t 5)⟩,
 ⟨some 4, none, .mov (.t 17)⟩]) (
 .ret)) (
 .skip))))) (
 .reg none [
 ⟨some 18, none, .bin .add (.t 8) (.c (.int .i64 1))⟩,
 ⟨some 8, none, .mov (.t 18)⟩])))
def b164_0 : ACode := .gh [.keep [0, 1, 7, 8]] (.gh [] l164_0)
def k164_0 : List AItem := .inLoop b164_0 :: [.inBlock 0,
 .code (.seq (
 .reg none [
 ⟨some 4, none, .mov (.c (.int .i64 (-1)))⟩]) (
 .ret))]
def c164 : ACode :=
 .seq (
 .reg none [
 ⟨some 4, none, .mov (.c (.int .i64 0))⟩]) (
 .seq (
 .seq (
 .reg none [
 ⟨some 6, none, .mov (.t 0)⟩,
 ⟨some 7, none, .len (.t 6)⟩,
 ⟨some 8, none, .mov (.c (.int .i64 0))⟩]) (
 .block 0 (
 .loop b164_0))) (
 .seq (
 .reg none [
 ⟨some 4, none, .mov (.c (.int .i64 (-1)))⟩]) (
 .ret)))
def a164 : AFunc := ⟨19, c164, [.tmp 4]⟩
/-! 165 slices.Index[[]int,int] params [25, 3] nfree 0 ntmps 19 -/
def l165_0 : ACode :=
 .seq (
 .reg none [
 ⟨some 9, none, .bin .lss (.t 8) (.t 7)⟩]) (
 .seq (
 .cond (.t 9) (
 .skip) (
 .exit 0)) (
 .seq (
 .block 1 (
 .seq (
 .reg none [
 ⟨some 10, none, .mov (.t 8)⟩,
 ⟨some 5, none, .mov (.t 10)⟩]) (
 .seq (
 .reg none [
 ⟨some 11, none, .mov (.t 1)⟩,
 ⟨some 12, none, .mov (.t 0)⟩,
 ⟨some 13, none, .mov (.t 5)⟩,
 ⟨some 14, none, .iaddr 1 (.t 12) (.t 13)⟩,
 ⟨some 15, none, .load false 1 (.t 14)⟩,
 ⟨some 16, none, .bin .eql (.t 11) (.t 15)⟩]) (
 .cond (.t 16) (
 .seq (
 .reg none [
 ⟨some 17, none, .mov (.t 5)⟩,
 ⟨some 4, none, .mov (.t 17)⟩]) (
 .ret)) (
 .skip))))) (
 .reg none [
 ⟨some 18, none, .bin .add (.t 8) (.c (.int .i64 1))⟩,
 ⟨some 8, none, .mov (.t 18)⟩])))
def b165_0 : ACode := .gh [.keep [0, 1, 7, 8]] (.gh [] l165_0)
def k165_0 : List AItem := .inLoop b165_0 :: [.inBlock 0,
 .code (.seq (
 .reg none [
 ⟨some 4, none, .mov (.c (.int .i64 (-1)))⟩]) (
 .ret))]
def c165 : ACode :=
 .seq (
 .reg none [
 ⟨some 4, none, .mov (.c (.int .i64 0))⟩]) (
 .seq (
 .seq (
 .reg none [
 ⟨some 6, none, .mov (.t 0)⟩,
 ⟨some 7, none, .len (.t 6)⟩,
 ⟨some 8, none, .mov (.c (.int .i64 0))⟩]) (
 .block 0 (
 .loop b165_0))) (
 .seq (
 .reg none [
 ⟨some 4, none, .mov (.c (.int .i64 (-1)))⟩]) (
 .ret)))
def a165 : AFunc := ⟨19, c165, [.tmp 4]⟩
/-! 166 math/bits.OnesCount32 params [183] nfree 0 ntmps 21 -/
def c166 : ACode :=
 .seq (
 .reg none [
 ⟨some 2, none, .mov (.c (.int .i64 0))⟩]) (
 .seq (
 .reg (some []) [
 ⟨some 3, none, .mov (.t 0)⟩,
 ⟨some 4, none, .bin .shr (.t 3) (.c (.int .u64 24))⟩,
 ⟨some 5, none, .sidx (.c (.str [0, 1, 1, 2, 1, 2, 2, 3, 1, 2, 2, 3, 2, 3, 3, 4, 1, 2, 2, 3, 2, 3, 3, 4, 2, 3, 3, 4, 3, 4, 4, 5, 1, 2, 2, 3, 2, 3, 3, 4, 2, 3, 3, 4, 3, 4, 4, 5, 2, 3, 3, 4, 3, 4, 4, 5, 3, 4, 4, 5, 4, 5, 5, 6, 1, 2, 2, 3, 2, 3, 3, 4, 2, 3, 3, 4, 3, 4, 4, 5, 2, 3, 3, 4, 3, 4, 4, 5, 3, 4, 4, 5, 4, 5, 5, 6, 2, 3, 3, 4, 3, 4, 4, 5, 3, 4, 4, 5, 4, 5, 5, 6, 3, 4, 4, 5, 4, 5, 5, 6, 4, 5, 5, 6, 5, 6, 6, 7, 1, 2, 2, 3, 2, 3, 3, 4, 2, 3, 3, 4, 3, 4, 4, 5, 2, 3, 3, 4, 3, 4, 4, 5, 3, 4, 4, 5, 4, 5, 5, 6, 2, 3, 3, 4, 3, 4, 4, 5, 3, 4, 4, 5, 4, 5, 5, 6, 3, 4, 4, 5, 4, 5, 5, 6, 4, 5, 5, 6, 5, 6, 6, 7, 2, 3, 3, 4, 3, 4, 4, 5, 3, 4, 4, 5, 4, 5, 5, 6, 3, 4, 4, 5, 4, 5, 5, 6, 4, 5, 5, 6, 5, 6, 6, 7, 3, 4, 4, 5, 4, 5, 5, 6, 4, 5, 5, 6, 5, 6, 6, 7, 4, 5, 5, 6, 5, 6, 6, 7, 5, 6, 6, 7, 6, 7, 7, 8])) (.t 4)⟩,
 ⟨some 6, none, .mov (.t 0)⟩,
 ⟨some 7, none, .bin .shr (.t 6) (.c (.int .u64 16))⟩,
 ⟨some 8, none, .bin .and (.t 7) (.c (.int .u32 255))⟩,
 ⟨some 9, none, .sidx (.c (.str [0, 1, 1, 2, 1, 2, 2, 3, 1, 2, 2, 3, 2, 3, 3, 4, 1, 2, 2, 3, 2, 3, 3, 4, 2, 3, 3, 4, 3, 4, 4, 5, 1, 2, 2, 3, 2, 3, 3, 4, 2, 3, 3, 4, 3, 4, 4, 5, 2, 3, 3, 4, 3, 4, 4, 5, 3, 4, 4, 5, 4, 5, 5, 6, 1, 2, 2, 3, 2, 3, 3, 4, 2, 3, 3, 4, 3, 4, 4, 5, 2, 3, 3, 4, 3, 4, 4, 5, 3, 4, 4, 5, 4, 5, 5, 6, 2, 3, 3, 4, 3, 4, 4, 5, 3, 4, 4, 5, 4, 5, 5, 6, 3, 4, 4, 5, 4, 5, 5, 6, 4, 5, 5, 6, 5, 6, 6, 7, 1, 2, 2, 3, 2, 3, 3, 4, 2, 3, 3, 4, 3, 4, 4, 5, 2, 3, 3, 4, 3, 4, 4, 5, 3, 4, 4, 5, 4, 5, 5, 6, 2, 3, 3, 4, 3, 4, 4, 5, 3, 4, 4, 5, 4, 5, 5, 6, 3, 4, 4, 5, 4, 5, 5, 6, 4, 5, 5, 6, 5, 6, 6, 7, 2, 3, 3, 4, 3, 4, 4, 5, 3, 4, 4, 5, 4, 5, 5, 6, 3, 4, 4, 5, 4, 5, 5, 6, 4, 5, 5, 6, 5, 6, 6, 7, 3, 4, 4, 5, 4, 5, 5, 6, 4, 5, 5, 6, 5, 6, 6, 7, 4, 5, 5, 6, 5, 6, 6, 7, 5, 6, 6, 7, 6, 7, 7, 8])) (.t 8)⟩,
 ⟨some 10, none, .bin .add (.t 5) (.t 9)⟩,
 ⟨some 11, none, .mov (.t 0)⟩,
 ⟨some 12, none, .bin .shr (.t 11) (.c (.int .u64 8))⟩,
 ⟨some 13, none, .bin .and (.t 12) (.c (.int .u32 255))⟩,
 ⟨some 14, none, .sidx (.c (.str [0, 1, 1, 2, 1, 2, 2, 3, 1, 2, 2, 3, 2, 3, 3, 4, 1, 2, 2, 3, 2, 3, 3, 4, 2, 3, 3, 4, 3, 4, 4, 5, 1, 2, 2, 3, 2, 3, 3, 4, 2, 3, 3, 4, 3, 4, 4, 5, 2, 3, 3, 4, 3, 4, 4, 5, 3, 4, 4, 5, 4, 5, 5, 6, 1, 2, 2, 3, 2, 3, 3, 4, 2, 3, 3, 4, 3, 4, 4, 5, 2, 3, 3, 4, 3, 4, 4, 5, 3, 4, 4, 5, 4, 5, 5, 6, 2, 3, 3, 4, 3, 4, 4, 5, 3, 4, 4, 5, 4, 5, 5, 6, 3, 4, 4, 5, 4, 5, 5, 6, 4, 5, 5, 6, 5, 6, 6, 7, 1, 2, 2, 3, 2, 3, 3, 4, 2, 3, 3, 4, 3, 4, 4, 5, 2, 3, 3, 4, 3, 4, 4, 5, 3, 4, 4, 5, 4, 5, 5, 6, 2, 3, 3, 4, 3, 4, 4, 5, 3, 4, 4, 5, 4, 5, 5, 6, 3, 4, 4, 5, 4, 5, 5, 6, 4, 5, 5, 6, 5, 6, 6, 7, 2, 3, 3, 4, 3, 4, 4, 5, 3, 4, 4, 5, 4, 5, 5, 6, 3, 4, 4, 5, 4, 5, 5, 6, 4, 5, 5, 6, 5, 6, 6, 7, 3, 4, 4, 5, 4, 5, 5, 6, 4, 5, 5, 6, 5, 6, 6, 7, 4, 5, 5, 6, 5, 6, 6, 7, 5, 6, 6, 7, 6, 7, 7, 8])) (.t 13)⟩,
 ⟨some 15, none, .bin .add (.t 10) (.t 14)⟩,
 ⟨some 16, none, .mov (.t 0)⟩,
 ⟨some 17, none, .bin .and (.t 16) (.c (.int .u32 255))⟩,
 ⟨some 18, none, .sidx (.c (.str [0, 1, 1, 2, 1, 2, 2, 3, 1, 2, 2, 3, 2, 3, 3, 4, 1, 2, 2, 3, 2, 3, 3, 4, 2, 3, 3, 4, 3, 4, 4, 5, 1, 2, 2, 3, 2, 3, 3, 4, 2, 3, 3, 4, 3, 4, 4, 5, 2, 3, 3, 4, 3, 4, 4, 5, 3, 4, 4, 5, 4, 5, 5, 6, 1, 2, 2, 3, 2, 3, 3, 4, 2, 3, 3, 4, 3, 4, 4, 5, 2, 3, 3, 4, 3, 4, 4, 5, 3, 4, 4, 5, 4, 5, 5, 6, 2, 3, 3, 4, 3, 4, 4, 5, 3, 4, 4, 5, 4, 5, 5, 6, 3, 4, 4, 5, 4, 5, 5, 6, 4, 5, 5, 6, 5, 6, 6, 7, 1, 2, 2, 3, 2, 3, 3, 4, 2, 3, 3, 4, 3, 4, 4, 5, 2, 3, 3, 4, 3, 4, 4, 5, 3, 4, 4, 5, 4, 5, 5, 6, 2, 3, 3, 4, 3, 4, 4, 5, 3, 4, 4, 5, 4, 5, 5, 6, 3, 4, 4, 5, 4, 5, 5, 6, 4, 5, 5, 6, 5, 6, 6, 7, 2, 3, 3, 4, 3, 4, 4, 5, 3, 4, 4, 5, 4, 5, 5, 6, 3, 4, 4, 5, 4, 5, 5, 6, 4, 5, 5, 6, 5, 6, 6, 7, 3, 4, 4, 5, 4, 5, 5, 6, 4, 5, 5, 6, 5, 6, 6, 7, 4, 5, 5, 6, 5, 6, 6, 7, 5, 6, 6, 7, 6, 7, 7, 8])) (.t 17)⟩,
 ⟨some 19, none, .bin .add (.t 15) (.t 18)⟩,
 ⟨some 20, none, .conv .i64 (.t 19)⟩,
 ⟨some 2, none, .mov (.t 20)⟩]) (
 .gh [.keep [2]] (
 .ret)))
def a166 : AFunc := ⟨21, c166, [.tmp 2]⟩
/-! 167 math/bits.OnesCount64 params [185] nfree 0 ntmps 35 -/
def c167 : ACode :=
 .seq (
 .reg none [
 ⟨some 2, none, .mov (.c (.int .i64 0))⟩]) (
 .seq (
 .reg none [
 ⟨some 3, none, .mov (.t 0)⟩,
 ⟨some 4, none, .bin .shr (.t 3) (.c (.int .u64 1))⟩,
 ⟨some 5, none, .bin .and (.t 4) (.c (.int .u64 6148914691236517205))⟩,
 ⟨some 6, none, .mov (.t 0)⟩,
 ⟨some 7, none, .bin .and (.t 6) (.c (.int .u64 6148914691236517205))⟩,
 ⟨some 8, none, .bin .add (.t 5) (.t 7)⟩,
 ⟨some 0, none, .mov (.t 8)⟩]) (
 .gh [.keep [0]] (
 .seq (
 .reg none [
 ⟨some 9, none, .mov (.t 0)⟩,
 ⟨some 10, none, .bin .shr (.t 9) (.c (.int .u64 2))⟩,
 ⟨some 11, none, .bin .and (.t 10) (.c (.int .u64 3689348814741910323))⟩,
 ⟨some 12, none, .mov (.t 0)⟩,
 ⟨some 13, none, .bin .and (.t 12) (.c (.int .u64 3689348814741910323))⟩,
 ⟨some 14, none, .bin .add (.t 11) (.t 13)⟩,
 ⟨some 0, none, .mov (.t 14)⟩]) (
 .gh [.keep [0]] (
 .seq (
 .reg none [
 ⟨some 15, none, .mov (.t 0)⟩,
 ⟨some 16, none, .bin .shr (.t 15) (.c (.int .u64 4))⟩,
 ⟨some 17, none, .mov (.t 0)⟩,
 ⟨some 18, none, .bin .add (.t 16) (.t 17)⟩,
 ⟨some 19, none, .bin .and (.t 18) (.c (.int .u64 1085102592571150095))⟩,
 ⟨some 0, none, .mov (.t 19)⟩]) (
 .seq (
 .reg none [
 ⟨some 20, none, .mov (.t 0)⟩,
 ⟨some 21, none, .mov (.t 0)⟩,
 ⟨some 22, none, .bin .shr (.t 21) (.c (.int .u64 8))⟩,
 ⟨some 23, none, .bin .add (.t 20) (.t 22)⟩,
 ⟨some 0, none, .mov (.t 23)⟩]) (
 .seq (
 .reg none [
 ⟨some 24, none, .mov (.t 0)⟩,
 ⟨some 25, none, .mov (.t 0)⟩,
 ⟨some 26, none, .bin .shr (.t 25) (.c (.int .u64 16))⟩,
 ⟨some 27, none, .bin .add (.t 24) (.t 26)⟩,
 ⟨some 0, none, .mov (.t 27)⟩]) (
 .seq (
 .reg none [
 ⟨some 28, none, .mov (.t 0)⟩,
 ⟨some 29, none, .mov (.t 0)⟩,
 ⟨some 30, none, .bin .shr (.t 29) (.c (.int .u64 32))⟩,
 ⟨some 31, none, .bin .add (.t 28) (.t 30)⟩,
 ⟨some 0, none, .mov (.t 31)⟩]) (
 .seq (
 .reg none [
 ⟨some 32, none, .mov (.t 0)⟩,
 ⟨some 33, none, .conv .i64 (.t 32)⟩,
 ⟨some 34, none, .bin .and (.t 33) (.c (.int .i64 127))⟩,
 ⟨some 2, none, .mov (.t 34)⟩]) (
 .ret))))))))))
def a167 : AFunc := ⟨35, c167, [.tmp 2]⟩
/-! 168 math/bits.Mul32 params [183, 183] nfree 0 ntmps 17 -/
def c168 : ACode :=
 .seq (
 .reg none [
 ⟨some 4, none, .mov (.c (.int .u32 0))⟩,
 ⟨some 5, none, .mov (.c (.int .u32 0))⟩]) (
 .seq (
 .reg none [
 ⟨some 7, none, .mov (.t 0)⟩,
 ⟨some 8, none, .conv .u64 (.t 7)⟩,
 ⟨some 9, none, .mov (.t 1)⟩,
 ⟨some 10, none, .conv .u64 (.t 9)⟩,
 ⟨some 11, none, .bin .mul (.t 8) (.t 10)⟩,
 ⟨some 6, none, .mov (.t 11)⟩]) (
 .seq (
 .reg none [
 ⟨some 12, none, .mov (.t 6)⟩,
 ⟨some 13, none, .bin .shr (.t 12) (.c (.int .u64 32))⟩,
 ⟨some 14, none, .conv .u32 (.t 13)⟩,
 ⟨some 15, none, .mov (.t 6)⟩,
 ⟨some 16, none, .conv .u32 (.t 15)⟩,
 ⟨some 4, none, .mov (.t 14)⟩,
 ⟨some 5, none, .mov (.t 16)⟩]) (
 .ret)))
def a168 : AFunc := ⟨17, c168, [.tmp 4, .tmp 5]⟩
/-! 169 math/bits.Mul64 params [185, 185] nfree 0 ntmps 51 -/
def c169 : ACode :=
 .seq (
 .reg none [
 ⟨some 4, none, .mov (.c (.int .u64 0))⟩,
 ⟨some 5, none, .mov (.c (.int .u64 0))⟩]) (
 .seq (
 .reg none [
 ⟨some 14, none, .mov (.t 0)⟩,
 ⟨some 15, none, .bin .and (.t 14) (.c (.int .u64 4294967295))⟩,
 ⟨some 6, none, .mov (.t 15)⟩]) (
 .seq (
 .reg none [
 ⟨some 16, none, .mov (.t 0)⟩,
 ⟨some 17, none, .bin .shr (.t 16) (.c (.int .u64 32))⟩,
 ⟨some 7, none, .mov (.t 17)⟩]) (
 .seq (
 .reg none [
 ⟨some 18, none, .mov (.t 1)⟩,
 ⟨some 19, none, .bin .and (.t 18) (.c (.int .u64 4294967295))⟩,
 ⟨some 8, none, .mov (.t 19)⟩]) (
 .seq (
 .reg none [
 ⟨some 20, none, .mov (.t 1)⟩,
 ⟨some 21, none, .bin .shr (.t 20) (.c (.int .u64 32))⟩,
 ⟨some 9, none, .mov (.t 21)⟩]) (
 .seq (
 .reg none [
 ⟨some 22, none, .mov (.t 6)⟩,
 ⟨some 23, none, .mov (.t 8)⟩,
 ⟨some 24, none, .bin .mul (.t 22) (.t 23)⟩,
 ⟨some 10, none, .mov (.t 24)⟩]) (
 .seq (
 .reg none [
 ⟨some 25, none, .mov (.t 7)⟩,
 ⟨some 26, none, .mov (.t 8)⟩,
 ⟨some 27, none, .bin .mul (.t 25) (.t 26)⟩,
 ⟨some 28, none, .mov (.t 10)⟩,
 ⟨some 29, none, .bin .shr (.t 28) (.c (.int .u64 32))⟩,
 ⟨some 30, none, .bin .add (.t 27) (.t 29)⟩,
 ⟨some 11, none, .mov (.t 30)⟩]) (
 .gh [.keep [0, 1, 6, 7, 9, 11]] (
 .seq (
 .reg none [
 ⟨some 31, none, .mov (.t 11)⟩,
 ⟨some 32, none, .bin .and (.t 31) (.c (.int .u64 4294967295))⟩,
 ⟨some 12, none, .mov (.t 32)⟩]) (
 .seq (
 .reg none [
 ⟨some 33, none, .mov (.t 11)⟩,
 ⟨some 34, none, .bin .shr (.t 33) (.c (.int .u64 32))⟩,
 ⟨some 13, none, .mov (.t 34)⟩]) (
 .seq (
 .reg none [
 ⟨some 35, none, .mov (.t 12)⟩,
 ⟨some 36, none, .mov (.t 6)⟩,
 ⟨some 37, none, .mov (.t 9)⟩,
 ⟨some 38, none, .bin .mul (.t 36) (.t 37)⟩,
 ⟨some 39, none, .bin .add (.t 35) (.t 38)⟩,
 ⟨some 12, none, .mov (.t 39)⟩]) (
 .seq (
 .reg none [
 ⟨some 40, none, .mov (.t 7)⟩,
 ⟨some 41, none, .mov (.t 9)⟩,
 ⟨some 42, none, .bin .mul (.t 40) (.t 41)⟩,
 ⟨some 43, none, .mov (.t 13)⟩,
 ⟨some 44, none, .bin .add (.t 42) (.t 43)⟩,
 ⟨some 45, none, .mov (.t 12)⟩,
 ⟨some 46, none, .bin .shr (.t 45) (.c (.int .u64 32))⟩,
 ⟨some 47, none, .bin .add (.t 44) (.t 46)⟩,
 ⟨some 4, none, .mov (.t 47)⟩]) (
 .gh [.keep [0, 1, 4]] (
 .seq (
 .reg none [
 ⟨some 48, none, .mov (.t 0)⟩,
 ⟨some 49, none, .mov (.t 1)⟩,
 ⟨some 50, none, .bin .mul (.t 48) (.t 49)⟩,
 ⟨some 5, none, .mov (.t 50)⟩]) (
 .ret))))))))))))))
def a169 : AFunc := ⟨51, c169, [.tmp 4, .tmp 5]⟩
/-! 172 cassegrain/code.inverse params [3] nfree 0 ntmps 13 -/
def l172_0 : ACode :=
 .seq (
 .seq (
 .reg none [
 ⟨some 4, none, .mov (.t 3)⟩,
 ⟨some 5, none, .bin .lss (.t 4) (.c (.int .i64 16))⟩]) (
 .cond (.t 5) (
 .skip) (
 .exit 0))) (
 .seq (
 .block 1 (
 .seq (
 .reg none [
 ⟨some 8, none, .mov (.t 0)⟩,
 ⟨some 9, none, .mov (.t 3)⟩,
 ⟨some 10, none, .ncall true 0 104 [(.t 8), (.t 9)]⟩,
 ⟨some 11, none, .bin .eql (.t 10) (.c (.int .i64 1))⟩]) (
 .cond (.t 11) (
 .seq (
 .reg none [
 ⟨some 12, none, .mov (.t 3)⟩,
 ⟨some 2, none, .mov (.t 12)⟩]) (
 .ret)) (
 .skip)))) (
 .reg none [
 ⟨some 6, none, .mov (.t 3)⟩,
 ⟨some 7, none, .bin .add (.t 6) (.c (.int .i64 1))⟩,
 ⟨some 3, none, .mov (.t 7)⟩]))
def b172_0 : ACode := .gh [.keep [0, 3]] (.gh [] l172_0)
def k172_0 : List AItem := .inLoop b172_0 :: [.inBlock 0,
 .code (.seq (
 .reg none [
 ⟨some 2, none, .mov (.c (.int .i64 0))⟩]) (
 .ret))]
def c172 : ACode :=
 .seq (
 .reg none [
 ⟨some 2, none, .mov (.c (.int .i64 0))⟩]) (
 .seq (
 .seq (
 .reg none [
 ⟨some 3, none, .mov (.c (.int .i64 1))⟩]) (
 .block 0 (
 .loop b172_0))) (
 .seq (
 .reg none [
 ⟨some 2, none, .mov (.c (.int .i64 0))⟩]) (
 .ret)))
def a172 : AFunc := ⟨13, c172, [.tmp 2]⟩
/-! 173 cassegrain/code.locator params [3] nfree 0 ntmps 6 -/
def c173 : ACode :=
 .seq (
 .reg none [
 ⟨some 2, none, .mov (.c (.int .i64 0))⟩]) (
 .seq (
 .reg none [
 ⟨some 3, none, .mov (.t 0)⟩,
 ⟨some 4, none, .bin .sub (.c (.int .i64 14)) (.t 3)⟩,
 ⟨some 5, none, .ncall true 0 160 [(.t 4)]⟩,
 ⟨some 2, none, .mov (.t 5)⟩]) (
 .ret))
def a173 : AFunc := ⟨6, c173, [.tmp 2]⟩
/-! 174 slices.IndexFunc[[][]int,[]int] params [46, 64] nfree 0 ntmps 19 -/
def l174_0 : ACode :=
 .seq (
 .reg none [
 ⟨some 9, none, .bin .lss (.t 8) (.t 7)⟩]) (
 .seq (
 .cond (.t 9) (
 .skip) (
 .exit 0)) (
 .seq (
 .block 1 (
 .seq (
 .reg none [
 ⟨some 10, none, .mov (.t 8)⟩,
 ⟨some 5, none, .mov (.t 10)⟩]) (
 .seq (
 .reg none [
 ⟨some 11, none, .mov (.t 1)⟩,
 ⟨some 12, none, .mov (.t 0)⟩,
 ⟨some 13, none, .mov (.t 5)⟩,
 ⟨some 14, none, .iaddr 1 (.t 12) (.t 13)⟩,
 ⟨some 15, none, .load false 1 (.t 14)⟩,
 ⟨some 16, none, .icallv (.t 11) [(.t 15)]⟩]) (
 .cond (.t 16) (
 .seq (
 .reg none [
 ⟨some 17, none, .mov (.t 5)⟩,
 ⟨some 4, none, .mov (.t 17)⟩]) (
 .ret)) (
 .skip))))) (
 .reg none [
 ⟨some 18, none, .bin .add (.t 8) (.c (.int .i64 1))⟩,
 ⟨some 8, none, .mov (.t 18)⟩])))
def b174_0 : ACode := .gh [.keep [0, 1, 7, 8]] (.gh [] l174_0)
def k174_0 : List AItem := .inLoop b174_0 :: [.inBlock 0,
 .code (.seq (
 .reg none [
 ⟨some 4, none, .mov (.c (.int .i64 (-1)))⟩]) (
 .ret))]
def c174 : ACode :=
 .seq (
 .reg none [
 ⟨some 4, none, .mov (.c (.int .i64 0))⟩]) (
 .seq (
 .seq (
 .reg none [
 ⟨some 6, none, .mov (.t 0)⟩,
 ⟨some 7, none, .len (.t 6)⟩,
 ⟨some 8, none, .mov (.c (.int .i64 0))⟩]) (
 .block 0 (
 .loop b174_0))) (
 .seq (
 .reg none [
 ⟨some 4, none, .mov (.c (.int .i64 (-1)))⟩]) (
 .ret)))
def a174 : AFunc := ⟨19, c174, [.tmp 4]⟩
/-! 175 cassegrain/code.solved$1 params [25] nfree 1 ntmps 9 -/
def c175 : ACode :=
 .seq (
 .reg none [
 ⟨some 3, none, .mov (.c (.bool false))⟩]) (
 .seq (
 .reg none [
 ⟨some 4, none, .mov (.t 0)⟩,
 ⟨some 5, none, .load false 1 (.t 1)⟩,
 ⟨some 6, none, .iaddr 1 (.t 4) (.t 5)⟩,
 ⟨some 7, none, .load false 1 (.t 6)⟩,
 ⟨some 8, none, .bin .neq (.t 7) (.c (.int .i64 0))⟩,
 ⟨some 3, none, .mov (.t 8)⟩]) (
 .ret))
def a175 : AFunc := ⟨9, c175, [.tmp 3]⟩
end Go.Proofs.Ytimmgjppippdiaa

/- The table of the program's code. Printed by gen2.py. -/
namespace Go.Proofs.Ytimmgjppippdiaa
def tree : FTree := (.node (.node (.node (.node (.node (.node (.node (.node .leaf 3 a3 .leaf) 4 a4 .leaf) 5 a5 (.node (.node .leaf 6 a6 .leaf) 7 a7 .leaf)) 8 a8 (.node (.node (.node .leaf 9 a9 .leaf) 10 a10 .leaf) 11 a11 (.node .leaf 12 a12 .leaf))) 13 a13 (.node (.node (.node (.node .leaf 14 a14 .leaf) 15 a15 .leaf) 16 a16 (.node .leaf 17 a17 .leaf)) 18 a18 (.node (.node (.node .leaf 19 a19 .leaf) 20 a20 .leaf) 21 a21 (.node .leaf 22 a22 .leaf)))) 23 a23 (.node (.node (.node (.node (.node .leaf 24 a24 .leaf) 25 a25 .leaf) 26 a26 (.node (.node .leaf 27 a27 .leaf) 28 a28 .leaf)) 29 a29 (.node (.node (.node .leaf 30 a30 .leaf) 31 a31 .leaf) 32 a32 (.node .leaf 34 a34 .leaf))) 35 a35 (.node (.node (.node (.node .leaf 36 a36 .leaf) 37 a37 .leaf) 38 a38 (.node .leaf 39 a39 .leaf)) 40 a40 (.node (.node (.node .leaf 41 a41 .leaf) 42 a42 .leaf) 43 a43 (.node .leaf 44 a44 .leaf))))) 45 a45 (.node (.node (.node (.node (.node (.node .leaf 46 a46 .leaf) 47 a47 .leaf) 48 a48 (.node (.node .leaf 49 a49 .leaf) 50 a50 .leaf)) 51 a51 (.node (.node (.node .leaf 52 a52 .leaf) 53 a53 .leaf) 54 a54 (.node .leaf 55 a55 .leaf))) 56 a56 (.node (.node (.node (.node .leaf 57 a57 .leaf) 58 a58 .leaf) 60 a60 (.node .leaf 61 a61 .leaf)) 62 a62 (.node (.node (.node .leaf 63 a63 .leaf) 64 a64 .leaf) 65 a65 (.node .leaf 66 a66 .leaf)))) 67 a67 (.node (.node (.node (.node (.node .leaf 68 a68 .leaf) 69 a69 .leaf) 70 a70 (.node (.node .leaf 71 a71 .leaf) 72 a72 .leaf)) 73 a73 (.node (.node (.node .leaf 74 a74 .leaf) 75 a75 .leaf) 76 a76 (.node .leaf 77 a77 .leaf))) 78 a78 (.node (.node (.node (.node .leaf 79 a79 .leaf) 80 a80 .leaf) 81 a81 (.node .leaf 82 a82 .leaf)) 83 a83 (.node (.node (.node .leaf 84 a84 .leaf) 85 a85 .leaf) 86 a86 (.node .leaf 87 a87 .leaf)))))) 88 a88 (.node (.node (.node (.node (.node (.node (.node .leaf 89 a89 .leaf) 90 a90 .leaf) 91 a91 (.node (.node .leaf 92 a92 .leaf) 93 a93 .leaf)) 94 a94 (.node (.node (.node .leaf 95 a95 .leaf) 96 a96 .leaf) 97 a97 (.node .leaf 98 a98 .leaf))) 99 a99 (.node (.node (.node (.node .leaf 100 a100 .leaf) 101 a101 .leaf) 102 a102 (.node .leaf 103 a103 .leaf)) 104 a104 (.node (.node (.node .leaf 105 a105 .leaf) 106 a106 .leaf) 107 a107 (.node .leaf 108 a108 .leaf)))) 109 a109 (.node (.node (.node (.node (.node .leaf 110 a110 .leaf) 111 a111 .leaf) 112 a112 (.node (.node .leaf 113 a113 .leaf) 114 a114 .leaf)) 115 a115 (.node (.node (.node .leaf 116 a116 .leaf) 117 a117 .leaf) 118 a118 (.node .leaf 120 a120 .leaf))) 121 a121 (.node (.node (.node (.node .leaf 122 a122 .leaf) 123 a123 .leaf) 124 a124 (.node .leaf 125 a125 .leaf)) 126 a126 (.node (.node (.node .leaf 127 a127 .leaf) 128 a128 .leaf) 129 a129 (.node .leaf 130 a130 .leaf))))) 131 a131 (.node (.node (.node (.node (.node (.node .leaf 132 a132 .leaf) 133 a133 .leaf) 134 a134 (.node (.node .leaf 135 a135 .leaf) 136 a136 .leaf)) 137 a137 (.node (.node (.node .leaf 138 a138 .leaf) 139 a139 .leaf) 140 a140 (.node .leaf 141 a141 .leaf))) 142 a142 (.node (.node (.node (.node .leaf 143 a143 .leaf) 144 a144 .leaf) 145 a145 (.node .leaf 146 a146 .leaf)) 147 a147 (.node (.node (.node .leaf 148 a148 .leaf) 149 a149 .leaf) 150 a150 (.node .leaf 151 a151 .leaf)))) 152 a152 (.node (.node (.node (.node (.node .leaf 153 a153 .leaf) 154 a154 .leaf) 155 a155 (.node (.node .leaf 156 a156 .leaf) 157 a157 .leaf)) 159 a159 (.node (.node (.node .leaf 160 a160 .leaf) 161 a161 .leaf) 162 a162 (.node .leaf 163 a163 .leaf))) 164 a164 (.node (.node (.node (.node .leaf 165 a165 .leaf) 166 a166 .leaf) 167 a167 (.node .leaf 168 a168 .leaf)) 169 a169 (.node (.node (.node .leaf 172 a172 .leaf) 173 a173 .leaf) 174 a174 (.node .leaf 175 a175 .leaf)))))))
def tab : Tab := tree.find
-- TABLE 3 4 5 6 7 8 9 10 11 12 13 14 15 16 17 18 19 20 21 22 23 24 25 26 27 28 29 30 31 32 34 35 36 37 38 39 40 41 42 43 44 45 46 47 48 49 50 51 52 53 54 55 56 57 58 60 61 62 63 64 65 66 67 68 69 70 71 72 73 74 75 76 77 78 79 80 81 82 83 84 85 86 87 88 89 90 91 92 93 94 95 96 97 98 99 100 101 102 103 104 105 106 107 108 109 110 111 112 113 114 115 116 117 118 120 121 122 123 124 125 126 127 128 129 130 131 132 133 134 135 136 137 138 139 140 141 142 143 144 145 146 147 148 149 150 151 152 153 154 155 156 157 159 160 161 162 163 164 165 166 167 168 169 172 173 174 175
end Go.Proofs.Ytimmgjppippdiaa
