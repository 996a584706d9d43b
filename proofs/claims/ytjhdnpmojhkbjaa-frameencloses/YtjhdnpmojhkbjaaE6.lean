/- Paths of functions, printed by the explorer (Gx). No condition. -/
import Derived.Test.YtjhdnpmojhkbjaaE3
import Derived.KernelRfl
namespace Go.Proofs.Ytjhdnpmojhkbjaa
set_option maxRecDepth 100000
set_option linter.unusedVariables false
def f23e (ps : List AV) (n : Int) : List AFrame := [{ fn := 23, N := 55, env := [(0, AV.list (Row.big (Sh.agg [Sh.int .i64, Sh.int .i64, Sh.int .i64]) ps)), (1, AV.int .i64 n)], todo := [.code a23.code], defs := [], rnd := none, ret := false, res := [ARes.cell 4 true 2, ARes.tmp 5] }]
theorem f23e_at (ps : List AV) (n : Int) : enterA tab 23 [AV.list (Row.big (Sh.agg [Sh.int .i64, Sh.int .i64, Sh.int .i64]) ps), AV.int .i64 n] = some { fn := 23, N := 55, env := [(0, AV.list (Row.big (Sh.agg [Sh.int .i64, Sh.int .i64, Sh.int .i64]) ps)), (1, AV.int .i64 n)], todo := [.code a23.code], defs := [], rnd := none, ret := false, res := [ARes.cell 4 true 2, ARes.tmp 5] } := rfl
def f23h125_0a (ps : List AV) (n : Int) (n0 : Int) (n1 : Int) (n2 : Int) (b3 : Bool) (n4 : Int) (n5 : Int) (b6 : Bool) (n7 : Int) (n8 : Int) (n9 : Int) (b10 : Bool) : List AFrame := [{ fn := 125, N := 69, env := [(0, AV.yld 23901 1), (1, AV.ptr 88002 0 0 0), (12, AV.list (Row.big (Sh.agg [Sh.int .i64, Sh.int .i64, Sh.int .i64]) ps)), (13, AV.int .i64 n0), (14, AV.int .i64 n7)], todo := .code (ACode.gh [] l125_0) :: k125_0, defs := [], rnd := none, ret := false, res := [] }, { fn := 23, N := 55, env := [(0, AV.list (Row.big (Sh.agg [Sh.int .i64, Sh.int .i64, Sh.int .i64]) ps)), (3, AV.ptr 23004 0 0 0), (4, AV.ptr 23005 0 0 0), (5, AV.int .i64 0), (6, AV.int .i64 n1), (7, AV.ptr 23008 0 0 0), (8, AV.ptr 23009 0 0 0), (19, AV.int .i64 n2), (20, AV.bool b3), (23, AV.list (Row.big (Sh.agg [Sh.int .i64, Sh.int .i64, Sh.int .i64]) ps)), (24, AV.fn 125 [AV.ptr 88002 0 0 0])], todo := [AItem.inRF 23901 1, AItem.inBlock 0, .code (ACode.seq (ACode.reg none [{ d := some 54, g := none, k := OpK.load true 2 (Opd.t 7) }, { d := none, g := none, k := OpK.store 2 (Opd.t 4) (Opd.t 54) }, { d := some 5, g := none, k := OpK.mov (Opd.c (AV.int .i64 0)) }]) ACode.ret)], defs := [(23901, 0)], rnd := none, ret := false, res := [ARes.cell 4 true 2, ARes.tmp 5] }]
def f23h125_0am (ps : List AV) (n : Int) (n0 : Int) (n1 : Int) (n2 : Int) (b3 : Bool) (n4 : Int) (n5 : Int) (b6 : Bool) (n7 : Int) (n8 : Int) (n9 : Int) (b10 : Bool) : AHeap := [(23004, { base := 0, blks := [Blk.row 3 1 (Row.gen [AV.int .i64 n])] }), (23005, { base := 0, blks := [Blk.row 40 2 (Row.gen [AV.agg (Row.gen [AV.int .i64 0, AV.int .i64 0])])] }), (23008, { base := 0, blks := [Blk.row 40 2 (Row.gen [AV.agg (Row.gen [AV.int .i64 n8, AV.int .i64 n9])])] }), (23009, { base := 0, blks := [Blk.row 4 1 (Row.gen [AV.bool b10])] }), (23901, { base := 0, blks := [Blk.dfr, Blk.lp { st := RSt.ready, fn := 23, N := 55, env := [(0, AV.list (Row.big (Sh.agg [Sh.int .i64, Sh.int .i64, Sh.int .i64]) ps)), (3, AV.ptr 23004 0 0 0), (4, AV.ptr 23005 0 0 0), (5, AV.int .i64 0), (6, AV.int .i64 n4), (7, AV.ptr 23008 0 0 0), (8, AV.ptr 23009 0 0 0), (19, AV.int .i64 n5), (20, AV.bool b6), (23, AV.list (Row.big (Sh.agg [Sh.int .i64, Sh.int .i64, Sh.int .i64]) ps)), (24, AV.fn 125 [AV.ptr 88002 0 0 0])], params := [25], asg := ACode.reg none [{ d := some 9, g := none, k := OpK.alloc 23010 152 (AV.agg (Row.gen [AV.int .i64 0, AV.int .i64 0, AV.int .i64 0, AV.int .i64 0])) }, { d := none, g := none, k := OpK.store 4 (Opd.t 9) (Opd.t 25) }], body := ACode.block 1 (ACode.seq (ACode.reg none [{ d := some 26, g := none, k := OpK.load true 4 (Opd.t 9) }, { d := some 27, g := none, k := OpK.load false 1 (Opd.t 3) }, { d := some 28, g := none, k := OpK.ncall true 0 89 [Opd.t 26, Opd.t 27] }, { d := some 10, g := none, k := OpK.mov (Opd.t 28) }]) (ACode.seq (ACode.reg (some [(0, 11), (1, 11), (2, 11), (3, 11), (4, 11), (5, 11), (6, 11), (7, 11), (8, 11), (9, 11), (10, 11)]) [{ d := some 29, g := none, k := OpK.mov (Opd.t 10) }, { d := some 30, g := none, k := OpK.load true 4 (Opd.t 9) }, { d := some 31, g := none, k := OpK.ncall true 0 91 [Opd.t 30] }, { d := some 32, g := none, k := OpK.ncall true 0 90 [Opd.t 29, Opd.t 31] }, { d := some 33, g := none, k := OpK.mov (Opd.t 10) }, { d := some 34, g := none, k := OpK.neg (Opd.t 33) }, { d := some 35, g := none, k := OpK.load true 4 (Opd.t 9) }, { d := some 36, g := none, k := OpK.ncall true 0 91 [Opd.t 35] }, { d := some 37, g := none, k := OpK.ncall true 0 90 [Opd.t 34, Opd.t 36] }, { d := some 38, g := none, k := OpK.neg (Opd.t 37) }, { d := some 39, g := none, k := OpK.build (Row.gen [AV.int .i64 0, AV.int .i64 0]) [(0, 1, Opd.t 32), (1, 1, Opd.t 38)] }, { d := some 11, g := none, k := OpK.alloc 23012 40 (AV.agg (Row.gen [AV.int .i64 0, AV.int .i64 0])) }, { d := none, g := none, k := OpK.store 2 (Opd.t 11) (Opd.t 39) }]) (ACode.gh [Ghost.keep [3, 4, 5, 7, 8, 11]] (ACode.seq (ACode.seq (ACode.reg none [{ d := some 40, g := none, k := OpK.load false 1 (Opd.t 8) }, { d := some 41, g := none, k := OpK.not (Opd.t 40) }]) (ACode.cond (Opd.t 41) (ACode.reg none [{ d := some 42, g := none, k := OpK.load true 2 (Opd.t 11) }, { d := none, g := none, k := OpK.store 2 (Opd.t 7) (Opd.t 42) }, { d := none, g := none, k := OpK.store 1 (Opd.t 8) (Opd.c (AV.bool true)) }]) ACode.skip)) (ACode.reg none [{ d := some 43, g := none, k := OpK.faddr 0 (Opd.t 7) }, { d := some 44, g := none, k := OpK.load false 1 (Opd.t 43) }, { d := some 45, g := none, k := OpK.faddr 0 (Opd.t 11) }, { d := some 46, g := none, k := OpK.load false 1 (Opd.t 45) }, { d := some 47, g := none, k := OpK.mm false (Opd.t 44) (Opd.t 46) }, { d := some 48, g := none, k := OpK.faddr 1 (Opd.t 7) }, { d := some 49, g := none, k := OpK.load false 1 (Opd.t 48) }, { d := some 50, g := none, k := OpK.faddr 1 (Opd.t 11) }, { d := some 51, g := none, k := OpK.load false 1 (Opd.t 50) }, { d := some 52, g := none, k := OpK.mm true (Opd.t 49) (Opd.t 51) }, { d := some 53, g := none, k := OpK.build (Row.gen [AV.int .i64 0, AV.int .i64 0]) [(0, 1, Opd.t 47), (1, 1, Opd.t 52)] }, { d := none, g := none, k := OpK.store 2 (Opd.t 7) (Opd.t 53) }]))))) }] }), (88002, { base := 0, blks := [Blk.row 38 1 (Row.gen [AV.list (Row.big (Sh.agg [Sh.int .i64, Sh.int .i64, Sh.int .i64]) ps)])] })]
def f23h125_1a (ps : List AV) (n : Int) (n0 : Int) (n1 : Int) (n2 : Int) (b3 : Bool) (n4 : Int) (n5 : Int) (b6 : Bool) (n7 : Int) (x11 : List AV) (n12 : Int) (n13 : Int) (n14 : Int) (n15 : Int) (n16 : Int) (n17 : Int) (n18 : Int) (b19 : Bool) : List AFrame := [{ fn := 125, N := 69, env := [(0, AV.yld 23901 1), (1, AV.ptr 88002 0 0 0), (4, AV.ptr 125005 0 0 0), (12, AV.list (Row.big (Sh.agg [Sh.int .i64, Sh.int .i64, Sh.int .i64]) ps)), (13, AV.int .i64 n0), (14, AV.int .i64 n7), (21, AV.list (Row.big (Sh.agg [Sh.int .i64, Sh.int .i64, Sh.int .i64]) x11)), (22, AV.int .i64 n12), (23, AV.int .i64 n16)], todo := .code (ACode.gh [] l125_1) :: k125_1, defs := [], rnd := none, ret := false, res := [] }, { fn := 23, N := 55, env := [(0, AV.list (Row.big (Sh.agg [Sh.int .i64, Sh.int .i64, Sh.int .i64]) ps)), (3, AV.ptr 23004 0 0 0), (4, AV.ptr 23005 0 0 0), (5, AV.int .i64 0), (6, AV.int .i64 n1), (7, AV.ptr 23008 0 0 0), (8, AV.ptr 23009 0 0 0), (19, AV.int .i64 n2), (20, AV.bool b3), (23, AV.list (Row.big (Sh.agg [Sh.int .i64, Sh.int .i64, Sh.int .i64]) ps)), (24, AV.fn 125 [AV.ptr 88002 0 0 0])], todo := [AItem.inRF 23901 1, AItem.inBlock 0, .code (ACode.seq (ACode.reg none [{ d := some 54, g := none, k := OpK.load true 2 (Opd.t 7) }, { d := none, g := none, k := OpK.store 2 (Opd.t 4) (Opd.t 54) }, { d := some 5, g := none, k := OpK.mov (Opd.c (AV.int .i64 0)) }]) ACode.ret)], defs := [(23901, 0)], rnd := none, ret := false, res := [ARes.cell 4 true 2, ARes.tmp 5] }]
def f23h125_1am (ps : List AV) (n : Int) (n0 : Int) (n1 : Int) (n2 : Int) (b3 : Bool) (n4 : Int) (n5 : Int) (b6 : Bool) (n7 : Int) (x11 : List AV) (n12 : Int) (n13 : Int) (n14 : Int) (n15 : Int) (n16 : Int) (n17 : Int) (n18 : Int) (b19 : Bool) : AHeap := [(23004, { base := 0, blks := [Blk.row 3 1 (Row.gen [AV.int .i64 n])] }), (23005, { base := 0, blks := [Blk.row 40 2 (Row.gen [AV.agg (Row.gen [AV.int .i64 0, AV.int .i64 0])])] }), (23008, { base := 0, blks := [Blk.row 40 2 (Row.gen [AV.agg (Row.gen [AV.int .i64 n17, AV.int .i64 n18])])] }), (23009, { base := 0, blks := [Blk.row 4 1 (Row.gen [AV.bool b19])] }), (23901, { base := 0, blks := [Blk.dfr, Blk.lp { st := RSt.ready, fn := 23, N := 55, env := [(0, AV.list (Row.big (Sh.agg [Sh.int .i64, Sh.int .i64, Sh.int .i64]) ps)), (3, AV.ptr 23004 0 0 0), (4, AV.ptr 23005 0 0 0), (5, AV.int .i64 0), (6, AV.int .i64 n4), (7, AV.ptr 23008 0 0 0), (8, AV.ptr 23009 0 0 0), (19, AV.int .i64 n5), (20, AV.bool b6), (23, AV.list (Row.big (Sh.agg [Sh.int .i64, Sh.int .i64, Sh.int .i64]) ps)), (24, AV.fn 125 [AV.ptr 88002 0 0 0])], params := [25], asg := ACode.reg none [{ d := some 9, g := none, k := OpK.alloc 23010 152 (AV.agg (Row.gen [AV.int .i64 0, AV.int .i64 0, AV.int .i64 0, AV.int .i64 0])) }, { d := none, g := none, k := OpK.store 4 (Opd.t 9) (Opd.t 25) }], body := ACode.block 1 (ACode.seq (ACode.reg none [{ d := some 26, g := none, k := OpK.load true 4 (Opd.t 9) }, { d := some 27, g := none, k := OpK.load false 1 (Opd.t 3) }, { d := some 28, g := none, k := OpK.ncall true 0 89 [Opd.t 26, Opd.t 27] }, { d := some 10, g := none, k := OpK.mov (Opd.t 28) }]) (ACode.seq (ACode.reg (some [(0, 11), (1, 11), (2, 11), (3, 11), (4, 11), (5, 11), (6, 11), (7, 11), (8, 11), (9, 11), (10, 11)]) [{ d := some 29, g := none, k := OpK.mov (Opd.t 10) }, { d := some 30, g := none, k := OpK.load true 4 (Opd.t 9) }, { d := some 31, g := none, k := OpK.ncall true 0 91 [Opd.t 30] }, { d := some 32, g := none, k := OpK.ncall true 0 90 [Opd.t 29, Opd.t 31] }, { d := some 33, g := none, k := OpK.mov (Opd.t 10) }, { d := some 34, g := none, k := OpK.neg (Opd.t 33) }, { d := some 35, g := none, k := OpK.load true 4 (Opd.t 9) }, { d := some 36, g := none, k := OpK.ncall true 0 91 [Opd.t 35] }, { d := some 37, g := none, k := OpK.ncall true 0 90 [Opd.t 34, Opd.t 36] }, { d := some 38, g := none, k := OpK.neg (Opd.t 37) }, { d := some 39, g := none, k := OpK.build (Row.gen [AV.int .i64 0, AV.int .i64 0]) [(0, 1, Opd.t 32), (1, 1, Opd.t 38)] }, { d := some 11, g := none, k := OpK.alloc 23012 40 (AV.agg (Row.gen [AV.int .i64 0, AV.int .i64 0])) }, { d := none, g := none, k := OpK.store 2 (Opd.t 11) (Opd.t 39) }]) (ACode.gh [Ghost.keep [3, 4, 5, 7, 8, 11]] (ACode.seq (ACode.seq (ACode.reg none [{ d := some 40, g := none, k := OpK.load false 1 (Opd.t 8) }, { d := some 41, g := none, k := OpK.not (Opd.t 40) }]) (ACode.cond (Opd.t 41) (ACode.reg none [{ d := some 42, g := none, k := OpK.load true 2 (Opd.t 11) }, { d := none, g := none, k := OpK.store 2 (Opd.t 7) (Opd.t 42) }, { d := none, g := none, k := OpK.store 1 (Opd.t 8) (Opd.c (AV.bool true)) }]) ACode.skip)) (ACode.reg none [{ d := some 43, g := none, k := OpK.faddr 0 (Opd.t 7) }, { d := some 44, g := none, k := OpK.load false 1 (Opd.t 43) }, { d := some 45, g := none, k := OpK.faddr 0 (Opd.t 11) }, { d := some 46, g := none, k := OpK.load false 1 (Opd.t 45) }, { d := some 47, g := none, k := OpK.mm false (Opd.t 44) (Opd.t 46) }, { d := some 48, g := none, k := OpK.faddr 1 (Opd.t 7) }, { d := some 49, g := none, k := OpK.load false 1 (Opd.t 48) }, { d := some 50, g := none, k := OpK.faddr 1 (Opd.t 11) }, { d := some 51, g := none, k := OpK.load false 1 (Opd.t 50) }, { d := some 52, g := none, k := OpK.mm true (Opd.t 49) (Opd.t 51) }, { d := some 53, g := none, k := OpK.build (Row.gen [AV.int .i64 0, AV.int .i64 0]) [(0, 1, Opd.t 47), (1, 1, Opd.t 52)] }, { d := none, g := none, k := OpK.store 2 (Opd.t 7) (Opd.t 53) }]))))) }] }), (88002, { base := 0, blks := [Blk.row 38 1 (Row.gen [AV.list (Row.big (Sh.agg [Sh.int .i64, Sh.int .i64, Sh.int .i64]) ps)])] }), (125005, { base := 0, blks := [Blk.row 49 3 (Row.gen [AV.agg (Row.gen [AV.int .i64 n13, AV.int .i64 n14, AV.int .i64 n15])])] })]
def f23h125_2a (ps : List AV) (n : Int) (n0 : Int) (n1 : Int) (n2 : Int) (b3 : Bool) (n4 : Int) (n5 : Int) (b6 : Bool) (n7 : Int) (x11 : List AV) (n12 : Int) (n13 : Int) (n14 : Int) (n15 : Int) (n16 : Int) (l20 : List Int) (n21 : Int) (n22 : Int) (n23 : Int) (n24 : Int) (n25 : Int) (n26 : Int) (b27 : Bool) : List AFrame := [{ fn := 125, N := 69, env := [(0, AV.yld 23901 1), (1, AV.ptr 88002 0 0 0), (4, AV.ptr 125005 0 0 0), (6, AV.ptr 125007 0 0 0), (12, AV.list (Row.big (Sh.agg [Sh.int .i64, Sh.int .i64, Sh.int .i64]) ps)), (13, AV.int .i64 n0), (14, AV.int .i64 n7), (21, AV.list (Row.big (Sh.agg [Sh.int .i64, Sh.int .i64, Sh.int .i64]) x11)), (22, AV.int .i64 n12), (23, AV.int .i64 n16), (33, AV.agg (.ints .i64 l20)), (34, AV.int .i64 n24)], todo := .code (ACode.gh [] l125_2) :: k125_2, defs := [], rnd := none, ret := false, res := [] }, { fn := 23, N := 55, env := [(0, AV.list (Row.big (Sh.agg [Sh.int .i64, Sh.int .i64, Sh.int .i64]) ps)), (3, AV.ptr 23004 0 0 0), (4, AV.ptr 23005 0 0 0), (5, AV.int .i64 0), (6, AV.int .i64 n1), (7, AV.ptr 23008 0 0 0), (8, AV.ptr 23009 0 0 0), (19, AV.int .i64 n2), (20, AV.bool b3), (23, AV.list (Row.big (Sh.agg [Sh.int .i64, Sh.int .i64, Sh.int .i64]) ps)), (24, AV.fn 125 [AV.ptr 88002 0 0 0])], todo := [AItem.inRF 23901 1, AItem.inBlock 0, .code (ACode.seq (ACode.reg none [{ d := some 54, g := none, k := OpK.load true 2 (Opd.t 7) }, { d := none, g := none, k := OpK.store 2 (Opd.t 4) (Opd.t 54) }, { d := some 5, g := none, k := OpK.mov (Opd.c (AV.int .i64 0)) }]) ACode.ret)], defs := [(23901, 0)], rnd := none, ret := false, res := [ARes.cell 4 true 2, ARes.tmp 5] }]
def f23h125_2am (ps : List AV) (n : Int) (n0 : Int) (n1 : Int) (n2 : Int) (b3 : Bool) (n4 : Int) (n5 : Int) (b6 : Bool) (n7 : Int) (x11 : List AV) (n12 : Int) (n13 : Int) (n14 : Int) (n15 : Int) (n16 : Int) (l20 : List Int) (n21 : Int) (n22 : Int) (n23 : Int) (n24 : Int) (n25 : Int) (n26 : Int) (b27 : Bool) : AHeap := [(23004, { base := 0, blks := [Blk.row 3 1 (Row.gen [AV.int .i64 n])] }), (23005, { base := 0, blks := [Blk.row 40 2 (Row.gen [AV.agg (Row.gen [AV.int .i64 0, AV.int .i64 0])])] }), (23008, { base := 0, blks := [Blk.row 40 2 (Row.gen [AV.agg (Row.gen [AV.int .i64 n25, AV.int .i64 n26])])] }), (23009, { base := 0, blks := [Blk.row 4 1 (Row.gen [AV.bool b27])] }), (23901, { base := 0, blks := [Blk.dfr, Blk.lp { st := RSt.ready, fn := 23, N := 55, env := [(0, AV.list (Row.big (Sh.agg [Sh.int .i64, Sh.int .i64, Sh.int .i64]) ps)), (3, AV.ptr 23004 0 0 0), (4, AV.ptr 23005 0 0 0), (5, AV.int .i64 0), (6, AV.int .i64 n4), (7, AV.ptr 23008 0 0 0), (8, AV.ptr 23009 0 0 0), (19, AV.int .i64 n5), (20, AV.bool b6), (23, AV.list (Row.big (Sh.agg [Sh.int .i64, Sh.int .i64, Sh.int .i64]) ps)), (24, AV.fn 125 [AV.ptr 88002 0 0 0])], params := [25], asg := ACode.reg none [{ d := some 9, g := none, k := OpK.alloc 23010 152 (AV.agg (Row.gen [AV.int .i64 0, AV.int .i64 0, AV.int .i64 0, AV.int .i64 0])) }, { d := none, g := none, k := OpK.store 4 (Opd.t 9) (Opd.t 25) }], body := ACode.block 1 (ACode.seq (ACode.reg none [{ d := some 26, g := none, k := OpK.load true 4 (Opd.t 9) }, { d := some 27, g := none, k := OpK.load false 1 (Opd.t 3) }, { d := some 28, g := none, k := OpK.ncall true 0 89 [Opd.t 26, Opd.t 27] }, { d := some 10, g := none, k := OpK.mov (Opd.t 28) }]) (ACode.seq (ACode.reg (some [(0, 11), (1, 11), (2, 11), (3, 11), (4, 11), (5, 11), (6, 11), (7, 11), (8, 11), (9, 11), (10, 11)]) [{ d := some 29, g := none, k := OpK.mov (Opd.t 10) }, { d := some 30, g := none, k := OpK.load true 4 (Opd.t 9) }, { d := some 31, g := none, k := OpK.ncall true 0 91 [Opd.t 30] }, { d := some 32, g := none, k := OpK.ncall true 0 90 [Opd.t 29, Opd.t 31] }, { d := some 33, g := none, k := OpK.mov (Opd.t 10) }, { d := some 34, g := none, k := OpK.neg (Opd.t 33) }, { d := some 35, g := none, k := OpK.load true 4 (Opd.t 9) }, { d := some 36, g := none, k := OpK.ncall true 0 91 [Opd.t 35] }, { d := some 37, g := none, k := OpK.ncall true 0 90 [Opd.t 34, Opd.t 36] }, { d := some 38, g := none, k := OpK.neg (Opd.t 37) }, { d := some 39, g := none, k := OpK.build (Row.gen [AV.int .i64 0, AV.int .i64 0]) [(0, 1, Opd.t 32), (1, 1, Opd.t 38)] }, { d := some 11, g := none, k := OpK.alloc 23012 40 (AV.agg (Row.gen [AV.int .i64 0, AV.int .i64 0])) }, { d := none, g := none, k := OpK.store 2 (Opd.t 11) (Opd.t 39) }]) (ACode.gh [Ghost.keep [3, 4, 5, 7, 8, 11]] (ACode.seq (ACode.seq (ACode.reg none [{ d := some 40, g := none, k := OpK.load false 1 (Opd.t 8) }, { d := some 41, g := none, k := OpK.not (Opd.t 40) }]) (ACode.cond (Opd.t 41) (ACode.reg none [{ d := some 42, g := none, k := OpK.load true 2 (Opd.t 11) }, { d := none, g := none, k := OpK.store 2 (Opd.t 7) (Opd.t 42) }, { d := none, g := none, k := OpK.store 1 (Opd.t 8) (Opd.c (AV.bool true)) }]) ACode.skip)) (ACode.reg none [{ d := some 43, g := none, k := OpK.faddr 0 (Opd.t 7) }, { d := some 44, g := none, k := OpK.load false 1 (Opd.t 43) }, { d := some 45, g := none, k := OpK.faddr 0 (Opd.t 11) }, { d := some 46, g := none, k := OpK.load false 1 (Opd.t 45) }, { d := some 47, g := none, k := OpK.mm false (Opd.t 44) (Opd.t 46) }, { d := some 48, g := none, k := OpK.faddr 1 (Opd.t 7) }, { d := some 49, g := none, k := OpK.load false 1 (Opd.t 48) }, { d := some 50, g := none, k := OpK.faddr 1 (Opd.t 11) }, { d := some 51, g := none, k := OpK.load false 1 (Opd.t 50) }, { d := some 52, g := none, k := OpK.mm true (Opd.t 49) (Opd.t 51) }, { d := some 53, g := none, k := OpK.build (Row.gen [AV.int .i64 0, AV.int .i64 0]) [(0, 1, Opd.t 47), (1, 1, Opd.t 52)] }, { d := none, g := none, k := OpK.store 2 (Opd.t 7) (Opd.t 53) }]))))) }] }), (88002, { base := 0, blks := [Blk.row 38 1 (Row.gen [AV.list (Row.big (Sh.agg [Sh.int .i64, Sh.int .i64, Sh.int .i64]) ps)])] }), (125005, { base := 0, blks := [Blk.row 49 3 (Row.gen [AV.agg (Row.gen [AV.int .i64 n13, AV.int .i64 n14, AV.int .i64 n15])])] }), (125007, { base := 0, blks := [Blk.row 49 3 (Row.gen [AV.agg (Row.gen [AV.int .i64 n21, AV.int .i64 n22, AV.int .i64 n23])])] })]
def f23h125_3a (ps : List AV) (n : Int) (n0 : Int) (n1 : Int) (n2 : Int) (b3 : Bool) (n4 : Int) (n5 : Int) (b6 : Bool) (n7 : Int) (x11 : List AV) (n12 : Int) (n13 : Int) (n14 : Int) (n15 : Int) (n16 : Int) (l20 : List Int) (n21 : Int) (n22 : Int) (n23 : Int) (n24 : Int) (n28 : Int) (l29 : List Int) (n30 : Int) (n31 : Int) (n32 : Int) (b33 : Bool) : List AFrame := [{ fn := 125, N := 69, env := [(0, AV.yld 23901 1), (1, AV.ptr 88002 0 0 0), (4, AV.ptr 125005 0 0 0), (6, AV.ptr 125007 0 0 0), (8, AV.int .i64 n28), (12, AV.list (Row.big (Sh.agg [Sh.int .i64, Sh.int .i64, Sh.int .i64]) ps)), (13, AV.int .i64 n0), (14, AV.int .i64 n7), (21, AV.list (Row.big (Sh.agg [Sh.int .i64, Sh.int .i64, Sh.int .i64]) x11)), (22, AV.int .i64 n12), (23, AV.int .i64 n16), (33, AV.agg (.ints .i64 l20)), (34, AV.int .i64 n24), (43, AV.agg (.ints .i64 l29)), (44, AV.int .i64 n30)], todo := .code (ACode.gh [] l125_3) :: k125_3, defs := [], rnd := none, ret := false, res := [] }, { fn := 23, N := 55, env := [(0, AV.list (Row.big (Sh.agg [Sh.int .i64, Sh.int .i64, Sh.int .i64]) ps)), (3, AV.ptr 23004 0 0 0), (4, AV.ptr 23005 0 0 0), (5, AV.int .i64 0), (6, AV.int .i64 n1), (7, AV.ptr 23008 0 0 0), (8, AV.ptr 23009 0 0 0), (19, AV.int .i64 n2), (20, AV.bool b3), (23, AV.list (Row.big (Sh.agg [Sh.int .i64, Sh.int .i64, Sh.int .i64]) ps)), (24, AV.fn 125 [AV.ptr 88002 0 0 0])], todo := [AItem.inRF 23901 1, AItem.inBlock 0, .code (ACode.seq (ACode.reg none [{ d := some 54, g := none, k := OpK.load true 2 (Opd.t 7) }, { d := none, g := none, k := OpK.store 2 (Opd.t 4) (Opd.t 54) }, { d := some 5, g := none, k := OpK.mov (Opd.c (AV.int .i64 0)) }]) ACode.ret)], defs := [(23901, 0)], rnd := none, ret := false, res := [ARes.cell 4 true 2, ARes.tmp 5] }]
def f23h125_3am (ps : List AV) (n : Int) (n0 : Int) (n1 : Int) (n2 : Int) (b3 : Bool) (n4 : Int) (n5 : Int) (b6 : Bool) (n7 : Int) (x11 : List AV) (n12 : Int) (n13 : Int) (n14 : Int) (n15 : Int) (n16 : Int) (l20 : List Int) (n21 : Int) (n22 : Int) (n23 : Int) (n24 : Int) (n28 : Int) (l29 : List Int) (n30 : Int) (n31 : Int) (n32 : Int) (b33 : Bool) : AHeap := [(23004, { base := 0, blks := [Blk.row 3 1 (Row.gen [AV.int .i64 n])] }), (23005, { base := 0, blks := [Blk.row 40 2 (Row.gen [AV.agg (Row.gen [AV.int .i64 0, AV.int .i64 0])])] }), (23008, { base := 0, blks := [Blk.row 40 2 (Row.gen [AV.agg (Row.gen [AV.int .i64 n31, AV.int .i64 n32])])] }), (23009, { base := 0, blks := [Blk.row 4 1 (Row.gen [AV.bool b33])] }), (23901, { base := 0, blks := [Blk.dfr, Blk.lp { st := RSt.ready, fn := 23, N := 55, env := [(0, AV.list (Row.big (Sh.agg [Sh.int .i64, Sh.int .i64, Sh.int .i64]) ps)), (3, AV.ptr 23004 0 0 0), (4, AV.ptr 23005 0 0 0), (5, AV.int .i64 0), (6, AV.int .i64 n4), (7, AV.ptr 23008 0 0 0), (8, AV.ptr 23009 0 0 0), (19, AV.int .i64 n5), (20, AV.bool b6), (23, AV.list (Row.big (Sh.agg [Sh.int .i64, Sh.int .i64, Sh.int .i64]) ps)), (24, AV.fn 125 [AV.ptr 88002 0 0 0])], params := [25], asg := ACode.reg none [{ d := some 9, g := none, k := OpK.alloc 23010 152 (AV.agg (Row.gen [AV.int .i64 0, AV.int .i64 0, AV.int .i64 0, AV.int .i64 0])) }, { d := none, g := none, k := OpK.store 4 (Opd.t 9) (Opd.t 25) }], body := ACode.block 1 (ACode.seq (ACode.reg none [{ d := some 26, g := none, k := OpK.load true 4 (Opd.t 9) }, { d := some 27, g := none, k := OpK.load false 1 (Opd.t 3) }, { d := some 28, g := none, k := OpK.ncall true 0 89 [Opd.t 26, Opd.t 27] }, { d := some 10, g := none, k := OpK.mov (Opd.t 28) }]) (ACode.seq (ACode.reg (some [(0, 11), (1, 11), (2, 11), (3, 11), (4, 11), (5, 11), (6, 11), (7, 11), (8, 11), (9, 11), (10, 11)]) [{ d := some 29, g := none, k := OpK.mov (Opd.t 10) }, { d := some 30, g := none, k := OpK.load true 4 (Opd.t 9) }, { d := some 31, g := none, k := OpK.ncall true 0 91 [Opd.t 30] }, { d := some 32, g := none, k := OpK.ncall true 0 90 [Opd.t 29, Opd.t 31] }, { d := some 33, g := none, k := OpK.mov (Opd.t 10) }, { d := some 34, g := none, k := OpK.neg (Opd.t 33) }, { d := some 35, g := none, k := OpK.load true 4 (Opd.t 9) }, { d := some 36, g := none, k := OpK.ncall true 0 91 [Opd.t 35] }, { d := some 37, g := none, k := OpK.ncall true 0 90 [Opd.t 34, Opd.t 36] }, { d := some 38, g := none, k := OpK.neg (Opd.t 37) }, { d := some 39, g := none, k := OpK.build (Row.gen [AV.int .i64 0, AV.int .i64 0]) [(0, 1, Opd.t 32), (1, 1, Opd.t 38)] }, { d := some 11, g := none, k := OpK.alloc 23012 40 (AV.agg (Row.gen [AV.int .i64 0, AV.int .i64 0])) }, { d := none, g := none, k := OpK.store 2 (Opd.t 11) (Opd.t 39) }]) (ACode.gh [Ghost.keep [3, 4, 5, 7, 8, 11]] (ACode.seq (ACode.seq (ACode.reg none [{ d := some 40, g := none, k := OpK.load false 1 (Opd.t 8) }, { d := some 41, g := none, k := OpK.not (Opd.t 40) }]) (ACode.cond (Opd.t 41) (ACode.reg none [{ d := some 42, g := none, k := OpK.load true 2 (Opd.t 11) }, { d := none, g := none, k := OpK.store 2 (Opd.t 7) (Opd.t 42) }, { d := none, g := none, k := OpK.store 1 (Opd.t 8) (Opd.c (AV.bool true)) }]) ACode.skip)) (ACode.reg none [{ d := some 43, g := none, k := OpK.faddr 0 (Opd.t 7) }, { d := some 44, g := none, k := OpK.load false 1 (Opd.t 43) }, { d := some 45, g := none, k := OpK.faddr 0 (Opd.t 11) }, { d := some 46, g := none, k := OpK.load false 1 (Opd.t 45) }, { d := some 47, g := none, k := OpK.mm false (Opd.t 44) (Opd.t 46) }, { d := some 48, g := none, k := OpK.faddr 1 (Opd.t 7) }, { d := some 49, g := none, k := OpK.load false 1 (Opd.t 48) }, { d := some 50, g := none, k := OpK.faddr 1 (Opd.t 11) }, { d := some 51, g := none, k := OpK.load false 1 (Opd.t 50) }, { d := some 52, g := none, k := OpK.mm true (Opd.t 49) (Opd.t 51) }, { d := some 53, g := none, k := OpK.build (Row.gen [AV.int .i64 0, AV.int .i64 0]) [(0, 1, Opd.t 47), (1, 1, Opd.t 52)] }, { d := none, g := none, k := OpK.store 2 (Opd.t 7) (Opd.t 53) }]))))) }] }), (88002, { base := 0, blks := [Blk.row 38 1 (Row.gen [AV.list (Row.big (Sh.agg [Sh.int .i64, Sh.int .i64, Sh.int .i64]) ps)])] }), (125005, { base := 0, blks := [Blk.row 49 3 (Row.gen [AV.agg (Row.gen [AV.int .i64 n13, AV.int .i64 n14, AV.int .i64 n15])])] }), (125007, { base := 0, blks := [Blk.row 49 3 (Row.gen [AV.agg (Row.gen [AV.int .i64 n21, AV.int .i64 n22, AV.int .i64 n23])])] })]
theorem f23p0 (A : Ar) (ps : List AV) (n : Int) : gfin A tab BE3 24 [true] 23 (f23e ps n) [] =
  some ([A.and (A.and (A.and (A.ltN 0 1) (A.leN (A.addN 0 2) 2)) true) (A.and true (A.and true true)), true, A.and (A.ltN 0 1) (A.eqN 2 2), true, true, A.not (A.eq (firstE [lnE ps, unlessE (Decidable.decide (0 ≤ n ∧ n ≤ 1000000)) 2]) 0), true, true, true, A.and (A.and true true) (Decidable.decide (List.length [lnE ps, unlessE (Decidable.decide (0 ≤ n ∧ n ≤ 1000000)) 2] ≤ 1000000)), List.all [AV.int .i64 (lnE ps), AV.int .i64 (unlessE (Decidable.decide (0 ≤ n ∧ n ≤ 1000000)) 2)] fun x => AV.bx x && Nat.beq (flatLen A x) 1, A.and true true, A.and true true, A.and (A.ltN 0 1) (A.eqN 0 0), A.and true (Decidable.decide (List.length ps ≤ 1000000)), true, true, A.and true (A.ltN 0 2), A.and true (A.ltN 0 1)],
   AV.tup [AV.agg (Row.gen [AV.int .i64 0, AV.int .i64 0]), AV.int .i64 (firstE [lnE ps, unlessE (Decidable.decide (0 ≤ n ∧ n ≤ 1000000)) 2])], none) := by kernel_rfl
theorem f23p1 (A : Ar) (ps : List AV) (n : Int) : gwalkL A tab BE3 55 [false] (f23e ps n) [] =
  some ([true, true, A.and (A.ltN 0 1) (A.eqN 0 0), true, true, true, true, A.and true (A.ltN 0 1), true, A.and (A.ltN 0 1) (A.and (A.and true (A.eqN 0 0)) (A.and (A.eqN 1 1) (A.eqN 1 1))), A.and true (A.ltN 0 1), A.and true (A.ltN 0 2), !A.not (A.eq (firstE [lnE ps, unlessE (Decidable.decide (0 ≤ n ∧ n ≤ 1000000)) 2]) 0), true, true, true, A.and (A.and true true) (Decidable.decide (List.length [lnE ps, unlessE (Decidable.decide (0 ≤ n ∧ n ≤ 1000000)) 2] ≤ 1000000)), List.all [AV.int .i64 (lnE ps), AV.int .i64 (unlessE (Decidable.decide (0 ≤ n ∧ n ≤ 1000000)) 2)] fun x => AV.bx x && Nat.beq (flatLen A x) 1, A.and true true, A.and true true, A.and (A.ltN 0 1) (A.eqN 0 0), A.and true (Decidable.decide (List.length ps ≤ 1000000)), true, true, A.and true (A.ltN 0 2), A.and true (A.ltN 0 1)],
   f23h125_0a (ps) (n) (A.int (A.lenA ps)) (firstE [lnE ps, unlessE (Decidable.decide (0 ≤ n ∧ n ≤ 1000000)) 2]) (firstE [lnE ps, unlessE (Decidable.decide (0 ≤ n ∧ n ≤ 1000000)) 2]) (A.not (A.eq (firstE [lnE ps, unlessE (Decidable.decide (0 ≤ n ∧ n ≤ 1000000)) 2]) 0)) (firstE [lnE ps, unlessE (Decidable.decide (0 ≤ n ∧ n ≤ 1000000)) 2]) (firstE [lnE ps, unlessE (Decidable.decide (0 ≤ n ∧ n ≤ 1000000)) 2]) (A.not (A.eq (firstE [lnE ps, unlessE (Decidable.decide (0 ≤ n ∧ n ≤ 1000000)) 2]) 0)) (0) (0) (0) (false), f23h125_0am (ps) (n) (A.int (A.lenA ps)) (firstE [lnE ps, unlessE (Decidable.decide (0 ≤ n ∧ n ≤ 1000000)) 2]) (firstE [lnE ps, unlessE (Decidable.decide (0 ≤ n ∧ n ≤ 1000000)) 2]) (A.not (A.eq (firstE [lnE ps, unlessE (Decidable.decide (0 ≤ n ∧ n ≤ 1000000)) 2]) 0)) (firstE [lnE ps, unlessE (Decidable.decide (0 ≤ n ∧ n ≤ 1000000)) 2]) (firstE [lnE ps, unlessE (Decidable.decide (0 ≤ n ∧ n ≤ 1000000)) 2]) (A.not (A.eq (firstE [lnE ps, unlessE (Decidable.decide (0 ≤ n ∧ n ≤ 1000000)) 2]) 0)) (0) (0) (0) (false)) := by kernel_rfl
theorem f23p2 (A : Ar) (ps : List AV) (n : Int) (n0 : Int) (n1 : Int) (n2 : Int) (b3 : Bool) (n4 : Int) (n5 : Int) (b6 : Bool) (n7 : Int) (n8 : Int) (n9 : Int) (b10 : Bool) : gwalkL A tab BE3 30 [true] (f23h125_0a ps n n0 n1 n2 b3 n4 n5 b6 n7 n8 n9 b10) (f23h125_0am ps n n0 n1 n2 b3 n4 n5 b6 n7 n8 n9 b10) =
  some ([true, true, A.and (A.and true (A.le 0 n7)) (A.and (A.and (A.leN 0 (A.nat n7)) (A.leN (A.nat n7) (A.lenA ps))) (A.and (A.eqN 3 3) true)), true, A.and (A.ltN 0 1) (A.eqN 0 0), A.and (A.ltN 0 1) (A.eqN 3 3), true, A.and true (A.ltN 0 3), A.leN (A.addN 0 3) 3, A.and (A.and (A.le 0 n7) (A.ltN (A.nat n7) (A.lenA ps))) (A.eqN 3 3), true, A.lt n7 n0, true],
   f23h125_1a (ps) (n) (n0) (n1) (n2) (b3) (n4) (n5) (b6) (n7) (A.subA ps 0 (A.subN (A.nat n7) 0)) (A.int (A.lenA (A.subA ps 0 (A.subN (A.nat n7) 0)))) (AV.toI (AV.cellAt (A.nthA ps (A.nat n7)) 0)) (AV.toI (AV.cellAt (A.nthA ps (A.nat n7)) 1)) (AV.toI (AV.cellAt (A.nthA ps (A.nat n7)) 2)) (0) (n8) (n9) (b10), f23h125_1am (ps) (n) (n0) (n1) (n2) (b3) (n4) (n5) (b6) (n7) (A.subA ps 0 (A.subN (A.nat n7) 0)) (A.int (A.lenA (A.subA ps 0 (A.subN (A.nat n7) 0)))) (AV.toI (AV.cellAt (A.nthA ps (A.nat n7)) 0)) (AV.toI (AV.cellAt (A.nthA ps (A.nat n7)) 1)) (AV.toI (AV.cellAt (A.nthA ps (A.nat n7)) 2)) (0) (n8) (n9) (b10)) := by kernel_rfl
theorem f23p3 (A : Ar) (ps : List AV) (n : Int) (n0 : Int) (n1 : Int) (n2 : Int) (b3 : Bool) (n4 : Int) (n5 : Int) (b6 : Bool) (n7 : Int) (n8 : Int) (n9 : Int) (b10 : Bool) : gfin A tab BE3 20 [false] 23 (f23h125_0a ps n n0 n1 n2 b3 n4 n5 b6 n7 n8 n9 b10) (f23h125_0am ps n n0 n1 n2 b3 n4 n5 b6 n7 n8 n9 b10) =
  some ([A.and (A.and (A.and (A.ltN 0 1) (A.leN (A.addN 0 2) 2)) true) (A.and true (A.and true true)), true, A.and (A.ltN 0 1) (A.eqN 2 2), A.and (A.ltN 0 1) (A.leN (A.addN 0 2) 2), true, !A.lt n7 n0, true],
   AV.tup [AV.agg (Row.gen [AV.int .i64 n8, AV.int .i64 n9]), AV.int .i64 0], none) := by kernel_rfl
theorem f23p4 (A : Ar) (ps : List AV) (n : Int) (n0 : Int) (n1 : Int) (n2 : Int) (b3 : Bool) (n4 : Int) (n5 : Int) (b6 : Bool) (n7 : Int) (x11 : List AV) (n12 : Int) (n13 : Int) (n14 : Int) (n15 : Int) (n16 : Int) (n17 : Int) (n18 : Int) (b19 : Bool) : gwalkL A tab BE3 32 [true] (f23h125_1a ps n n0 n1 n2 b3 n4 n5 b6 n7 x11 n12 n13 n14 n15 n16 n17 n18 b19) (f23h125_1am ps n n0 n1 n2 b3 n4 n5 b6 n7 x11 n12 n13 n14 n15 n16 n17 n18 b19) =
  some ([true, A.and (A.and true (A.eqN 1 1)) (A.and (A.leN (A.addN 0 1) (A.len [0, 0])) (A.and (A.ltN 0 1) (A.and (A.and true (A.eqN 1 1)) (A.and (A.leN (A.addN 1 1) (A.len (A.set [0, 0] 0 (AV.toI (AV.cellAt (A.nthA x11 (A.nat n16)) 1))))) (A.and (A.ltN 0 1) true))))), A.and (A.ltN 0 1) (A.ltN 2 3), true, true, A.and (A.ltN 0 1) (A.ltN 1 3), true, true, A.and (A.ltN 0 1) (A.eqN 3 3), A.and true (A.ltN 0 3), A.leN (A.addN 0 3) 3, A.and (A.and (A.le 0 n16) (A.ltN (A.nat n16) (A.lenA x11))) (A.eqN 3 3), A.lt n16 n12, true],
   f23h125_2a (ps) (n) (n0) (n1) (n2) (b3) (n4) (n5) (b6) (n7) (x11) (n12) (n13) (n14) (n15) (n16) (A.set (A.set [0, 0] 0 (AV.toI (AV.cellAt (A.nthA x11 (A.nat n16)) 1))) 1 (AV.toI (AV.cellAt (A.nthA x11 (A.nat n16)) 2))) (AV.toI (AV.cellAt (A.nthA x11 (A.nat n16)) 0)) (AV.toI (AV.cellAt (A.nthA x11 (A.nat n16)) 1)) (AV.toI (AV.cellAt (A.nthA x11 (A.nat n16)) 2)) (0) (n17) (n18) (b19), f23h125_2am (ps) (n) (n0) (n1) (n2) (b3) (n4) (n5) (b6) (n7) (x11) (n12) (n13) (n14) (n15) (n16) (A.set (A.set [0, 0] 0 (AV.toI (AV.cellAt (A.nthA x11 (A.nat n16)) 1))) 1 (AV.toI (AV.cellAt (A.nthA x11 (A.nat n16)) 2))) (AV.toI (AV.cellAt (A.nthA x11 (A.nat n16)) 0)) (AV.toI (AV.cellAt (A.nthA x11 (A.nat n16)) 1)) (AV.toI (AV.cellAt (A.nthA x11 (A.nat n16)) 2)) (0) (n17) (n18) (b19)) := by kernel_rfl
theorem f23p5 (A : Ar) (ps : List AV) (n : Int) (n0 : Int) (n1 : Int) (n2 : Int) (b3 : Bool) (n4 : Int) (n5 : Int) (b6 : Bool) (n7 : Int) (x11 : List AV) (n12 : Int) (n13 : Int) (n14 : Int) (n15 : Int) (n16 : Int) (n17 : Int) (n18 : Int) (b19 : Bool) : gwalkL A tab BE3 15 [false] (f23h125_1a ps n n0 n1 n2 b3 n4 n5 b6 n7 x11 n12 n13 n14 n15 n16 n17 n18 b19) (f23h125_1am ps n n0 n1 n2 b3 n4 n5 b6 n7 x11 n12 n13 n14 n15 n16 n17 n18 b19) =
  some ([true, A.inR .i64 (A.add n7 1), !A.lt n16 n12, true],
   f23h125_0a (ps) (n) (n0) (n1) (n2) (b3) (n4) (n5) (b6) (A.add n7 1) (n17) (n18) (b19), f23h125_0am (ps) (n) (n0) (n1) (n2) (b3) (n4) (n5) (b6) (A.add n7 1) (n17) (n18) (b19)) := by kernel_rfl
theorem f23p6 (A : Ar) (ps : List AV) (n : Int) (n0 : Int) (n1 : Int) (n2 : Int) (b3 : Bool) (n4 : Int) (n5 : Int) (b6 : Bool) (n7 : Int) (x11 : List AV) (n12 : Int) (n13 : Int) (n14 : Int) (n15 : Int) (n16 : Int) (l20 : List Int) (n21 : Int) (n22 : Int) (n23 : Int) (n24 : Int) (n25 : Int) (n26 : Int) (b27 : Bool) : gwalkL A tab BE3 30 [true] (f23h125_2a ps n n0 n1 n2 b3 n4 n5 b6 n7 x11 n12 n13 n14 n15 n16 l20 n21 n22 n23 n24 n25 n26 b27) (f23h125_2am ps n n0 n1 n2 b3 n4 n5 b6 n7 x11 n12 n13 n14 n15 n16 l20 n21 n22 n23 n24 n25 n26 b27) =
  some ([true, A.and (A.and true (A.eqN 1 1)) (A.and (A.leN (A.addN 0 1) (A.len [0, 0])) (A.and (A.ltN 0 1) (A.and (A.and true (A.eqN 1 1)) (A.and (A.leN (A.addN 1 1) (A.len (A.set [0, 0] 0 n14))) (A.and (A.ltN 0 1) true))))), A.and (A.ltN 0 1) (A.ltN 2 3), true, true, A.and (A.ltN 0 1) (A.ltN 1 3), true, true, true, A.and (A.and (A.le 0 n24) (A.lt n24 (A.int 2))) (A.ltN (A.nat n24) (A.len l20)), A.lt n24 2, true],
   f23h125_3a (ps) (n) (n0) (n1) (n2) (b3) (n4) (n5) (b6) (n7) (x11) (n12) (n13) (n14) (n15) (n16) (l20) (n21) (n22) (n23) (n24) (A.nth l20 (A.nat n24)) (A.set (A.set [0, 0] 0 n14) 1 n15) (0) (n25) (n26) (b27), f23h125_3am (ps) (n) (n0) (n1) (n2) (b3) (n4) (n5) (b6) (n7) (x11) (n12) (n13) (n14) (n15) (n16) (l20) (n21) (n22) (n23) (n24) (A.nth l20 (A.nat n24)) (A.set (A.set [0, 0] 0 n14) 1 n15) (0) (n25) (n26) (b27)) := by kernel_rfl
theorem f23p7 (A : Ar) (ps : List AV) (n : Int) (n0 : Int) (n1 : Int) (n2 : Int) (b3 : Bool) (n4 : Int) (n5 : Int) (b6 : Bool) (n7 : Int) (x11 : List AV) (n12 : Int) (n13 : Int) (n14 : Int) (n15 : Int) (n16 : Int) (l20 : List Int) (n21 : Int) (n22 : Int) (n23 : Int) (n24 : Int) (n25 : Int) (n26 : Int) (b27 : Bool) : gwalkL A tab BE3 15 [false] (f23h125_2a ps n n0 n1 n2 b3 n4 n5 b6 n7 x11 n12 n13 n14 n15 n16 l20 n21 n22 n23 n24 n25 n26 b27) (f23h125_2am ps n n0 n1 n2 b3 n4 n5 b6 n7 x11 n12 n13 n14 n15 n16 l20 n21 n22 n23 n24 n25 n26 b27) =
  some ([true, A.inR .i64 (A.add n16 1), !A.lt n24 2, true],
   f23h125_1a (ps) (n) (n0) (n1) (n2) (b3) (n4) (n5) (b6) (n7) (x11) (n12) (n13) (n14) (n15) (A.add n16 1) (n25) (n26) (b27), f23h125_1am (ps) (n) (n0) (n1) (n2) (b3) (n4) (n5) (b6) (n7) (x11) (n12) (n13) (n14) (n15) (A.add n16 1) (n25) (n26) (b27)) := by kernel_rfl
theorem f23p8 (A : Ar) (ps : List AV) (n : Int) (n0 : Int) (n1 : Int) (n2 : Int) (b3 : Bool) (n4 : Int) (n5 : Int) (b6 : Bool) (n7 : Int) (x11 : List AV) (n12 : Int) (n13 : Int) (n14 : Int) (n15 : Int) (n16 : Int) (l20 : List Int) (n21 : Int) (n22 : Int) (n23 : Int) (n24 : Int) (n28 : Int) (l29 : List Int) (n30 : Int) (n31 : Int) (n32 : Int) (b33 : Bool) : gwalkL A tab BE3 96 [true, true, true, true, true, true, true, false] (f23h125_3a ps n n0 n1 n2 b3 n4 n5 b6 n7 x11 n12 n13 n14 n15 n16 l20 n21 n22 n23 n24 n28 l29 n30 n31 n32 b33) (f23h125_3am ps n n0 n1 n2 b3 n4 n5 b6 n7 x11 n12 n13 n14 n15 n16 l20 n21 n22 n23 n24 n28 l29 n30 n31 n32 b33) =
  some ([true, A.inR .i64 (A.add n30 1), !A.not true, true, true, true, true, A.and (A.ltN 0 1) (A.eqN 2 2), A.and (A.and true (A.eqN 1 1)) (A.and (A.leN (A.addN 0 1) 2) (A.and (A.ltN 0 1) (A.and (A.and true (A.eqN 1 1)) (A.and (A.leN (A.addN 1 1) 2) (A.and (A.ltN 0 1) true))))), true, A.and (A.ltN 0 1) (A.ltN 1 2), true, A.and (A.ltN 0 1) (A.ltN 1 2), true, true, A.and (A.ltN 0 1) (A.ltN 0 2), true, A.and (A.ltN 0 1) (A.ltN 0 2), true, A.and (A.ltN 0 1) (A.and (A.and true (A.eqN 0 0)) (A.and (A.eqN 1 1) (A.eqN 1 1))), A.and (A.ltN 0 1) (A.eqN 2 2), A.and (A.ltN 0 1) (A.leN (A.addN 0 2) 2), A.not b33, true, A.and (A.ltN 0 1) (A.eqN 0 0), A.and (A.ltN 0 1) (A.eqN 2 2), A.and true (A.ltN 0 2), A.and (A.and true (A.eqN 1 1)) (A.and (A.leN (A.addN 0 1) 2) (A.and (A.ltN 0 1) (A.and (A.and true (A.eqN 1 1)) (A.and (A.leN (A.addN 1 1) 2) (A.and (A.ltN 0 1) true))))), A.inR .i64 (A.neg (floorI (A.neg (atC n21 n28 n13 (A.nth l29 (A.nat n30)) n)) (denC n21 n13))), A.and true (Decidable.decide ((0 < denC n21 n13 ∧ denC n21 n13 ≤ 1000000) ∧ -4000000000000000000 ≤ A.neg (atC n21 n28 n13 (A.nth l29 (A.nat n30)) n) ∧ A.neg (atC n21 n28 n13 (A.nth l29 (A.nat n30)) n) ≤ 4000000000000000000)), A.and true (Decidable.decide (cntB n21 = true ∧ cntB n13 = true)), A.and (A.ltN 0 1) (A.leN (A.addN 0 4) 4), A.inR .i64 (A.neg (atC n21 n28 n13 (A.nth l29 (A.nat n30)) n)), true, A.and true (Decidable.decide ((0 < denC n21 n13 ∧ denC n21 n13 ≤ 1000000) ∧ -4000000000000000000 ≤ atC n21 n28 n13 (A.nth l29 (A.nat n30)) n ∧ atC n21 n28 n13 (A.nth l29 (A.nat n30)) n ≤ 4000000000000000000)), A.and true (Decidable.decide (cntB n21 = true ∧ cntB n13 = true)), A.and (A.ltN 0 1) (A.leN (A.addN 0 4) 4), true, true, A.and true (Decidable.decide (chB n21 n28 n13 (A.nth l29 (A.nat n30)) = true ∧ cntB n = true)), A.and (A.ltN 0 1) (A.eqN 0 0), A.and (A.ltN 0 1) (A.leN (A.addN 0 4) 4), A.and (A.ltN 0 1) (A.eqN 4 4), A.and true (A.ltN 0 4), true, A.and (A.ltN 0 1) (A.leN (A.addN 0 4) 4), true, true, fitB n21 n28 n13 (A.nth l29 (A.nat n30)) ps, true, A.and true (Decidable.decide (chB n21 n28 n13 (A.nth l29 (A.nat n30)) = true ∧ allP ps = true)), A.and (A.ltN 0 1) (A.eqN 0 0), A.and (A.ltN 0 1) (A.leN (A.addN 0 4) 4), A.and (A.ltN 0 1) (A.eqN 4 4), A.and true (A.ltN 0 4), A.and (A.and true (A.eqN 2 2)) (A.and (A.leN (A.addN 0 2) 4) (A.and (A.ltN 0 2) (A.and (A.and true (A.eqN 2 2)) (A.and (A.leN (A.addN 2 2) 4) (A.and (A.ltN 0 2) true))))), A.and (A.and true (A.eqN 1 1)) (A.and (A.leN (A.addN 0 1) 2) (A.and (A.ltN 0 1) (A.and (A.and true (A.eqN 1 1)) (A.and (A.leN (A.addN 1 1) 2) (A.and (A.ltN 0 1) true))))), true, A.and (A.ltN 0 1) (A.ltN 0 3), true, A.and (A.and true (A.eqN 1 1)) (A.and (A.leN (A.addN 0 1) 2) (A.and (A.ltN 0 1) (A.and (A.and true (A.eqN 1 1)) (A.and (A.leN (A.addN 1 1) 2) (A.and (A.ltN 0 1) true))))), true, A.and (A.ltN 0 1) (A.ltN 0 3), true, true, A.and (A.and (A.le 0 n30) (A.lt n30 (A.int 2))) (A.ltN (A.nat n30) (A.len l29)), A.lt n30 2, true],
   f23h125_3a (ps) (n) (n0) (n1) (n2) (b3) (n4) (n5) (b6) (n7) (x11) (n12) (n13) (n14) (n15) (n16) (l20) (n21) (n22) (n23) (n24) (n28) (l29) (A.add n30 1) (A.min (floorI (atC n21 n28 n13 (A.nth l29 (A.nat n30)) n) (denC n21 n13)) (floorI (atC n21 n28 n13 (A.nth l29 (A.nat n30)) n) (denC n21 n13))) (A.max (A.neg (floorI (A.neg (atC n21 n28 n13 (A.nth l29 (A.nat n30)) n)) (denC n21 n13))) (A.neg (floorI (A.neg (atC n21 n28 n13 (A.nth l29 (A.nat n30)) n)) (denC n21 n13)))) (true), f23h125_3am (ps) (n) (n0) (n1) (n2) (b3) (n4) (n5) (b6) (n7) (x11) (n12) (n13) (n14) (n15) (n16) (l20) (n21) (n22) (n23) (n24) (n28) (l29) (A.add n30 1) (A.min (floorI (atC n21 n28 n13 (A.nth l29 (A.nat n30)) n) (denC n21 n13)) (floorI (atC n21 n28 n13 (A.nth l29 (A.nat n30)) n) (denC n21 n13))) (A.max (A.neg (floorI (A.neg (atC n21 n28 n13 (A.nth l29 (A.nat n30)) n)) (denC n21 n13))) (A.neg (floorI (A.neg (atC n21 n28 n13 (A.nth l29 (A.nat n30)) n)) (denC n21 n13)))) (true)) := by kernel_rfl
theorem f23p9 (A : Ar) (ps : List AV) (n : Int) (n0 : Int) (n1 : Int) (n2 : Int) (b3 : Bool) (n4 : Int) (n5 : Int) (b6 : Bool) (n7 : Int) (x11 : List AV) (n12 : Int) (n13 : Int) (n14 : Int) (n15 : Int) (n16 : Int) (l20 : List Int) (n21 : Int) (n22 : Int) (n23 : Int) (n24 : Int) (n28 : Int) (l29 : List Int) (n30 : Int) (n31 : Int) (n32 : Int) (b33 : Bool) : gwalkL A tab BE3 92 [true, true, true, true, false, true, true, false] (f23h125_3a ps n n0 n1 n2 b3 n4 n5 b6 n7 x11 n12 n13 n14 n15 n16 l20 n21 n22 n23 n24 n28 l29 n30 n31 n32 b33) (f23h125_3am ps n n0 n1 n2 b3 n4 n5 b6 n7 x11 n12 n13 n14 n15 n16 l20 n21 n22 n23 n24 n28 l29 n30 n31 n32 b33) =
  some ([true, A.inR .i64 (A.add n30 1), !A.not true, true, true, true, true, A.and (A.ltN 0 1) (A.eqN 2 2), A.and (A.and true (A.eqN 1 1)) (A.and (A.leN (A.addN 0 1) 2) (A.and (A.ltN 0 1) (A.and (A.and true (A.eqN 1 1)) (A.and (A.leN (A.addN 1 1) 2) (A.and (A.ltN 0 1) true))))), true, A.and (A.ltN 0 1) (A.ltN 1 2), true, A.and (A.ltN 0 1) (A.ltN 1 2), true, true, A.and (A.ltN 0 1) (A.ltN 0 2), true, A.and (A.ltN 0 1) (A.ltN 0 2), true, !A.not b33, true, A.and (A.ltN 0 1) (A.eqN 0 0), A.and (A.ltN 0 1) (A.eqN 2 2), A.and true (A.ltN 0 2), A.and (A.and true (A.eqN 1 1)) (A.and (A.leN (A.addN 0 1) 2) (A.and (A.ltN 0 1) (A.and (A.and true (A.eqN 1 1)) (A.and (A.leN (A.addN 1 1) 2) (A.and (A.ltN 0 1) true))))), A.inR .i64 (A.neg (floorI (A.neg (atC n21 n28 n13 (A.nth l29 (A.nat n30)) n)) (denC n21 n13))), A.and true (Decidable.decide ((0 < denC n21 n13 ∧ denC n21 n13 ≤ 1000000) ∧ -4000000000000000000 ≤ A.neg (atC n21 n28 n13 (A.nth l29 (A.nat n30)) n) ∧ A.neg (atC n21 n28 n13 (A.nth l29 (A.nat n30)) n) ≤ 4000000000000000000)), A.and true (Decidable.decide (cntB n21 = true ∧ cntB n13 = true)), A.and (A.ltN 0 1) (A.leN (A.addN 0 4) 4), A.inR .i64 (A.neg (atC n21 n28 n13 (A.nth l29 (A.nat n30)) n)), true, A.and true (Decidable.decide ((0 < denC n21 n13 ∧ denC n21 n13 ≤ 1000000) ∧ -4000000000000000000 ≤ atC n21 n28 n13 (A.nth l29 (A.nat n30)) n ∧ atC n21 n28 n13 (A.nth l29 (A.nat n30)) n ≤ 4000000000000000000)), A.and true (Decidable.decide (cntB n21 = true ∧ cntB n13 = true)), A.and (A.ltN 0 1) (A.leN (A.addN 0 4) 4), true, true, A.and true (Decidable.decide (chB n21 n28 n13 (A.nth l29 (A.nat n30)) = true ∧ cntB n = true)), A.and (A.ltN 0 1) (A.eqN 0 0), A.and (A.ltN 0 1) (A.leN (A.addN 0 4) 4), A.and (A.ltN 0 1) (A.eqN 4 4), A.and true (A.ltN 0 4), true, A.and (A.ltN 0 1) (A.leN (A.addN 0 4) 4), true, true, fitB n21 n28 n13 (A.nth l29 (A.nat n30)) ps, true, A.and true (Decidable.decide (chB n21 n28 n13 (A.nth l29 (A.nat n30)) = true ∧ allP ps = true)), A.and (A.ltN 0 1) (A.eqN 0 0), A.and (A.ltN 0 1) (A.leN (A.addN 0 4) 4), A.and (A.ltN 0 1) (A.eqN 4 4), A.and true (A.ltN 0 4), A.and (A.and true (A.eqN 2 2)) (A.and (A.leN (A.addN 0 2) 4) (A.and (A.ltN 0 2) (A.and (A.and true (A.eqN 2 2)) (A.and (A.leN (A.addN 2 2) 4) (A.and (A.ltN 0 2) true))))), A.and (A.and true (A.eqN 1 1)) (A.and (A.leN (A.addN 0 1) 2) (A.and (A.ltN 0 1) (A.and (A.and true (A.eqN 1 1)) (A.and (A.leN (A.addN 1 1) 2) (A.and (A.ltN 0 1) true))))), true, A.and (A.ltN 0 1) (A.ltN 0 3), true, A.and (A.and true (A.eqN 1 1)) (A.and (A.leN (A.addN 0 1) 2) (A.and (A.ltN 0 1) (A.and (A.and true (A.eqN 1 1)) (A.and (A.leN (A.addN 1 1) 2) (A.and (A.ltN 0 1) true))))), true, A.and (A.ltN 0 1) (A.ltN 0 3), true, true, A.and (A.and (A.le 0 n30) (A.lt n30 (A.int 2))) (A.ltN (A.nat n30) (A.len l29)), A.lt n30 2, true],
   f23h125_3a (ps) (n) (n0) (n1) (n2) (b3) (n4) (n5) (b6) (n7) (x11) (n12) (n13) (n14) (n15) (n16) (l20) (n21) (n22) (n23) (n24) (n28) (l29) (A.add n30 1) (A.min n31 (floorI (atC n21 n28 n13 (A.nth l29 (A.nat n30)) n) (denC n21 n13))) (A.max n32 (A.neg (floorI (A.neg (atC n21 n28 n13 (A.nth l29 (A.nat n30)) n)) (denC n21 n13)))) (b33), f23h125_3am (ps) (n) (n0) (n1) (n2) (b3) (n4) (n5) (b6) (n7) (x11) (n12) (n13) (n14) (n15) (n16) (l20) (n21) (n22) (n23) (n24) (n28) (l29) (A.add n30 1) (A.min n31 (floorI (atC n21 n28 n13 (A.nth l29 (A.nat n30)) n) (denC n21 n13))) (A.max n32 (A.neg (floorI (A.neg (atC n21 n28 n13 (A.nth l29 (A.nat n30)) n)) (denC n21 n13)))) (b33)) := by kernel_rfl
theorem f23p10 (A : Ar) (ps : List AV) (n : Int) (n0 : Int) (n1 : Int) (n2 : Int) (b3 : Bool) (n4 : Int) (n5 : Int) (b6 : Bool) (n7 : Int) (x11 : List AV) (n12 : Int) (n13 : Int) (n14 : Int) (n15 : Int) (n16 : Int) (l20 : List Int) (n21 : Int) (n22 : Int) (n23 : Int) (n24 : Int) (n28 : Int) (l29 : List Int) (n30 : Int) (n31 : Int) (n32 : Int) (b33 : Bool) : gwalkL A tab BE3 52 [true, false, false, false, false, false, false] (f23h125_3a ps n n0 n1 n2 b3 n4 n5 b6 n7 x11 n12 n13 n14 n15 n16 l20 n21 n22 n23 n24 n28 l29 n30 n31 n32 b33) (f23h125_3am ps n n0 n1 n2 b3 n4 n5 b6 n7 x11 n12 n13 n14 n15 n16 l20 n21 n22 n23 n24 n28 l29 n30 n31 n32 b33) =
  some ([true, A.inR .i64 (A.add n30 1), true, true, true, true, true, true, true, true, true, true, !fitB n21 n28 n13 (A.nth l29 (A.nat n30)) ps, true, A.and true (Decidable.decide (chB n21 n28 n13 (A.nth l29 (A.nat n30)) = true ∧ allP ps = true)), A.and (A.ltN 0 1) (A.eqN 0 0), A.and (A.ltN 0 1) (A.leN (A.addN 0 4) 4), A.and (A.ltN 0 1) (A.eqN 4 4), A.and true (A.ltN 0 4), A.and (A.and true (A.eqN 2 2)) (A.and (A.leN (A.addN 0 2) 4) (A.and (A.ltN 0 2) (A.and (A.and true (A.eqN 2 2)) (A.and (A.leN (A.addN 2 2) 4) (A.and (A.ltN 0 2) true))))), A.and (A.and true (A.eqN 1 1)) (A.and (A.leN (A.addN 0 1) 2) (A.and (A.ltN 0 1) (A.and (A.and true (A.eqN 1 1)) (A.and (A.leN (A.addN 1 1) 2) (A.and (A.ltN 0 1) true))))), true, A.and (A.ltN 0 1) (A.ltN 0 3), true, A.and (A.and true (A.eqN 1 1)) (A.and (A.leN (A.addN 0 1) 2) (A.and (A.ltN 0 1) (A.and (A.and true (A.eqN 1 1)) (A.and (A.leN (A.addN 1 1) 2) (A.and (A.ltN 0 1) true))))), true, A.and (A.ltN 0 1) (A.ltN 0 3), true, true, A.and (A.and (A.le 0 n30) (A.lt n30 (A.int 2))) (A.ltN (A.nat n30) (A.len l29)), A.lt n30 2, true],
   f23h125_3a (ps) (n) (n0) (n1) (n2) (b3) (n4) (n5) (b6) (n7) (x11) (n12) (n13) (n14) (n15) (n16) (l20) (n21) (n22) (n23) (n24) (n28) (l29) (A.add n30 1) (n31) (n32) (b33), f23h125_3am (ps) (n) (n0) (n1) (n2) (b3) (n4) (n5) (b6) (n7) (x11) (n12) (n13) (n14) (n15) (n16) (l20) (n21) (n22) (n23) (n24) (n28) (l29) (A.add n30 1) (n31) (n32) (b33)) := by kernel_rfl
theorem f23p11 (A : Ar) (ps : List AV) (n : Int) (n0 : Int) (n1 : Int) (n2 : Int) (b3 : Bool) (n4 : Int) (n5 : Int) (b6 : Bool) (n7 : Int) (x11 : List AV) (n12 : Int) (n13 : Int) (n14 : Int) (n15 : Int) (n16 : Int) (l20 : List Int) (n21 : Int) (n22 : Int) (n23 : Int) (n24 : Int) (n28 : Int) (l29 : List Int) (n30 : Int) (n31 : Int) (n32 : Int) (b33 : Bool) : gwalkL A tab BE3 15 [false] (f23h125_3a ps n n0 n1 n2 b3 n4 n5 b6 n7 x11 n12 n13 n14 n15 n16 l20 n21 n22 n23 n24 n28 l29 n30 n31 n32 b33) (f23h125_3am ps n n0 n1 n2 b3 n4 n5 b6 n7 x11 n12 n13 n14 n15 n16 l20 n21 n22 n23 n24 n28 l29 n30 n31 n32 b33) =
  some ([true, A.inR .i64 (A.add n24 1), !A.lt n30 2, true],
   f23h125_2a (ps) (n) (n0) (n1) (n2) (b3) (n4) (n5) (b6) (n7) (x11) (n12) (n13) (n14) (n15) (n16) (l20) (n21) (n22) (n23) (A.add n24 1) (n31) (n32) (b33), f23h125_2am (ps) (n) (n0) (n1) (n2) (b3) (n4) (n5) (b6) (n7) (x11) (n12) (n13) (n14) (n15) (n16) (l20) (n21) (n22) (n23) (A.add n24 1) (n31) (n32) (b33)) := by kernel_rfl
end Go.Proofs.Ytjhdnpmojhkbjaa
/- Contracts as a list. No condition. -/
namespace Go.Proofs.Ytjhdnpmojhkbjaa
abbrev T3 := Int × Int × Bool
def loX (n a b c d : Int) : Int := floorI (atC a b c d n) (denC a c)
def hiX (n a b c d : Int) : Int := -(floorI (-(atC a b c d n)) (denC a c))
def stpT (ps : List AV) (n a b c d : Int) (s : T3) : T3 :=
  if fitB a b c d ps = true then (if s.2.2 = true then (min s.1 (loX n a b c d), max s.2.1 (hiX n a b c d), true) else (loX n a b c d, hiX n a b c d, true)) else s
def two (f : Int → T3 → T3) (x y : Int) (s : T3) : T3 := f y (f x s)
def pairT (ps : List AV) (n : Int) (q p : AV) (s : T3) : T3 := two (fun b => two (fun d => stpT ps n (pC p) b (pC q) d) (pL q) (pH q)) (pL p) (pH p) s
def inT (ps : List AV) (n : Int) (q : AV) : List AV → T3 → T3
  | [], s => s
  | p :: l, s => inT ps n q l (pairT ps n q p s)
def goT (ps : List AV) (n : Int) : Nat → Nat → T3 → T3
  | 0, _, s => s
  | t + 1, i, s => goT ps n t (i + 1) (inT ps n (ps.getD i (.int .i64 0)) (ps.take i) s)
theorem floor_rng {m d : Int} (hm : -4000000000000000000 ≤ m ∧ m ≤ 4000000000000000000) (hd : 0 < d) : -4000000000000000001 ≤ floorI m d ∧ floorI m d ≤ 4000000000000000000 := by
  have h1 := tdiv_rng m hd
  have h3 : (m.tdiv d).natAbs ≤ m.natAbs := by rw [Int.natAbs_tdiv]; exact Nat.div_le_self _ _
  unfold floorI
  split <;> omega
theorem s23_3 {C : Ctx} (hC : C.P = Try.prog) (ps : List AV) (n : Int) (n0 n1 n2 : Int) (b3 : Bool) (n4 n5 : Int) (b6 : Bool) (n7 : Int) (x11 : List AV) (n12 n13 n14 n15 n16 : Int) (l20 : List Int) (n21 n22 n23 n24 n28 : Int) (l29 : List Int) (k : Nat) (s : T3) (d : Int) (hk : k < 2) (hl : l29.length = 2) (hd : l29.getD k 0 = d) (hch : chB n21 n28 n13 d = true) (hp : allP ps = true) (hn : cntB n = true) (hden : 0 < denC n21 n13 ∧ denC n21 n13 ≤ 1000000) (R : List AFrame → AHeap → Prop)
    (h : Ev C (f23h125_3a ps n n0 n1 n2 b3 n4 n5 b6 n7 x11 n12 n13 n14 n15 n16 l20 n21 n22 n23 n24 n28 l29 ((k + 1 : Nat) : Int) (stpT ps n n21 n28 n13 d s).1 (stpT ps n n21 n28 n13 d s).2.1 (stpT ps n n21 n28 n13 d s).2.2) (f23h125_3am ps n n0 n1 n2 b3 n4 n5 b6 n7 x11 n12 n13 n14 n15 n16 l20 n21 n22 n23 n24 n28 l29 ((k + 1 : Nat) : Int) (stpT ps n n21 n28 n13 d s).1 (stpT ps n n21 n28 n13 d s).2.1 (stpT ps n n21 n28 n13 d s).2.2) R) :
    Ev C (f23h125_3a ps n n0 n1 n2 b3 n4 n5 b6 n7 x11 n12 n13 n14 n15 n16 l20 n21 n22 n23 n24 n28 l29 k s.1 s.2.1 s.2.2) (f23h125_3am ps n n0 n1 n2 b3 n4 n5 b6 n7 x11 n12 n13 n14 n15 n16 l20 n21 n22 n23 n24 n28 l29 k s.1 s.2.1 s.2.2) R := by
  obtain ⟨lo, hi, some⟩ := s
  have e1 : std.nth l29 (std.nat (k : Int)) = d := by rw [← hd]; rfl
  have g1 : chB n21 n28 n13 d = true ∧ allP ps = true := ⟨hch, hp⟩
  have g2 : chB n21 n28 n13 d = true ∧ cntB n = true := ⟨hch, hn⟩
  have hcc := chB_ok hch
  have g3 : cntB n21 = true ∧ cntB n13 = true := by simp only [cntB, decide_eq_true_eq]; exact hcc.1
  have hr := atC_rng hch hn
  have hat : atC n21 n28 n13 d n = n28 * (n13 - n21) + (d - n28) * (n - n21) := rfl
  have hr1 : -2000000000000000000 ≤ atC n21 n28 n13 d n ∧ atC n21 n28 n13 d n ≤ 2000000000000000000 := by omega
  have f1 := floor_rng (m := atC n21 n28 n13 d n) (by omega) hden.1
  have f2 := floor_rng (m := -atC n21 n28 n13 d n) (by omega) hden.1
  have g4 : (0 < denC n21 n13 ∧ denC n21 n13 ≤ 1000000) ∧ -4000000000000000000 ≤ atC n21 n28 n13 d n ∧ atC n21 n28 n13 d n ≤ 4000000000000000000 := ⟨hden, by omega⟩
  have g5 : (0 < denC n21 n13 ∧ denC n21 n13 ≤ 1000000) ∧ -4000000000000000000 ≤ -atC n21 n28 n13 d n ∧ -atC n21 n28 n13 d n ≤ 4000000000000000000 := ⟨hden, by omega⟩
  unfold stpT loX hiX at h
  by_cases hf : fitB n21 n28 n13 d ps = true
  · rw [if_pos hf] at h
    cases some with
    | true =>
      simp only [if_pos] at h
      refine go hC BE3_ok (f23p9 std ps n n0 n1 n2 b3 n4 n5 b6 n7 x11 n12 n13 n14 n15 n16 l20 n21 n22 n23 n24 n28 l29 k lo hi true) ?_ (by simp only [e1]; simpa using h)
      simp only [e1, hf, decide_eq_true g1, decide_eq_true g2, decide_eq_true g3, s_neg, decide_eq_true g4, decide_eq_true g5]
      simp [hl]; omega
    | false =>
      simp only [Bool.false_eq_true, if_false] at h
      refine go hC BE3_ok (f23p8 std ps n n0 n1 n2 b3 n4 n5 b6 n7 x11 n12 n13 n14 n15 n16 l20 n21 n22 n23 n24 n28 l29 k lo hi false) ?_ (by simp only [e1]; simpa using h)
      simp only [e1, hf, decide_eq_true g1, decide_eq_true g2, decide_eq_true g3, s_neg, decide_eq_true g4, decide_eq_true g5]
      simp [hl]; omega
  · rw [if_neg hf] at h
    simp only [Bool.not_eq_true] at hf
    refine go hC BE3_ok (f23p10 std ps n n0 n1 n2 b3 n4 n5 b6 n7 x11 n12 n13 n14 n15 n16 l20 n21 n22 n23 n24 n28 l29 k lo hi some) ?_ (by simpa using h)
    simp only [e1, hf, decide_eq_true g1]
    simp [hl]; omega
theorem s23_2 {C : Ctx} (hC : C.P = Try.prog) (ps : List AV) (n : Int) (n0 n1 n2 : Int) (b3 : Bool) (n4 n5 : Int) (b6 : Bool) (n7 : Int) (x11 : List AV) (n12 n13 n14 n15 n16 : Int) (l20 : List Int) (n21 n22 n23 : Int) (k : Nat) (s : T3) (b : Int) (hk : k < 2) (hl : l20.length = 2) (hb : l20.getD k 0 = b) (hc1 : chB n21 b n13 n14 = true) (hc2 : chB n21 b n13 n15 = true) (hp : allP ps = true) (hn : cntB n = true) (hden : 0 < denC n21 n13 ∧ denC n21 n13 ≤ 1000000) (R : List AFrame → AHeap → Prop) (s2 : T3) (hs2 : two (fun d => stpT ps n n21 b n13 d) n14 n15 s = s2)
    (h : Ev C (f23h125_2a ps n n0 n1 n2 b3 n4 n5 b6 n7 x11 n12 n13 n14 n15 n16 l20 n21 n22 n23 ((k + 1 : Nat) : Int) s2.1 s2.2.1 s2.2.2) (f23h125_2am ps n n0 n1 n2 b3 n4 n5 b6 n7 x11 n12 n13 n14 n15 n16 l20 n21 n22 n23 ((k + 1 : Nat) : Int) s2.1 s2.2.1 s2.2.2) R) :
    Ev C (f23h125_2a ps n n0 n1 n2 b3 n4 n5 b6 n7 x11 n12 n13 n14 n15 n16 l20 n21 n22 n23 k s.1 s.2.1 s.2.2) (f23h125_2am ps n n0 n1 n2 b3 n4 n5 b6 n7 x11 n12 n13 n14 n15 n16 l20 n21 n22 n23 k s.1 s.2.1 s.2.2) R := by
  have e1 : std.nth l20 (std.nat (k : Int)) = b := by rw [← hb]; rfl
  refine go hC BE3_ok (f23p6 std ps n n0 n1 n2 b3 n4 n5 b6 n7 x11 n12 n13 n14 n15 n16 l20 n21 n22 n23 k s.1 s.2.1 s.2.2) (by simp [hl]; omega) ?_
  simp only [e1]
  have e2 : std.set (std.set [0, 0] 0 n14) 1 n15 = [n14, n15] := rfl
  rw [e2]
  have q2 : Ev C (f23h125_3a ps n n0 n1 n2 b3 n4 n5 b6 n7 x11 n12 n13 n14 n15 n16 l20 n21 n22 n23 k b [n14, n15] ((2 : Nat) : Int) s2.1 s2.2.1 s2.2.2) (f23h125_3am ps n n0 n1 n2 b3 n4 n5 b6 n7 x11 n12 n13 n14 n15 n16 l20 n21 n22 n23 k b [n14, n15] ((2 : Nat) : Int) s2.1 s2.2.1 s2.2.2) R :=
    go hC BE3_ok (f23p11 std ps n n0 n1 n2 b3 n4 n5 b6 n7 x11 n12 n13 n14 n15 n16 l20 n21 n22 n23 k b [n14, n15] _ _ _ _) (by simp; omega) (by simpa using h)
  rw [← hs2] at q2
  have q1 := s23_3 hC ps n n0 n1 n2 b3 n4 n5 b6 n7 x11 n12 n13 n14 n15 n16 l20 n21 n22 n23 k b [n14, n15] 1 (stpT ps n n21 b n13 n14 s) n15 (by omega) rfl rfl hc2 hp hn hden R q2
  have q0 := s23_3 hC ps n n0 n1 n2 b3 n4 n5 b6 n7 x11 n12 n13 n14 n15 n16 l20 n21 n22 n23 k b [n14, n15] 0 s n14 (by omega) rfl rfl hc1 hp hn hden R q1
  simpa using q0
theorem s23_1 {C : Ctx} (hC : C.P = Try.prog) (ps : List AV) (n : Int) (n0 n1 n2 : Int) (b3 : Bool) (n4 n5 : Int) (b6 : Bool) (n7 : Int) (x11 : List AV) (q : AV) (i : Nat) (s : T3) (hi : i < x11.length) (hx : x11.length ≤ 1000) (hq : okP (pC q) (pL q) (pH q) = true) (hpi : okP (pC x11[i]) (pL x11[i]) (pH x11[i]) = true) (hlt : pC x11[i] < pC q) (hp : allP ps = true) (hn : cntB n = true) (R : List AFrame → AHeap → Prop) (s2 : T3) (hs2 : pairT ps n q x11[i] s = s2)
    (h : Ev C (f23h125_1a ps n n0 n1 n2 b3 n4 n5 b6 n7 x11 x11.length (pC q) (pL q) (pH q) ((i + 1 : Nat) : Int) s2.1 s2.2.1 s2.2.2) (f23h125_1am ps n n0 n1 n2 b3 n4 n5 b6 n7 x11 x11.length (pC q) (pL q) (pH q) ((i + 1 : Nat) : Int) s2.1 s2.2.1 s2.2.2) R) :
    Ev C (f23h125_1a ps n n0 n1 n2 b3 n4 n5 b6 n7 x11 x11.length (pC q) (pL q) (pH q) i s.1 s.2.1 s.2.2) (f23h125_1am ps n n0 n1 n2 b3 n4 n5 b6 n7 x11 x11.length (pC q) (pL q) (pH q) i s.1 s.2.1 s.2.2) R := by
  have e1 : std.nthA x11 (std.nat (i : Int)) = x11[i] := by simp [hi]
  have g0 : (x11[i].cellAt 0).toI = pC x11[i] := rfl
  have g1 : (x11[i].cellAt 1).toI = pL x11[i] := rfl
  have g2 : (x11[i].cellAt 2).toI = pH x11[i] := rfl
  refine go hC BE3_ok (f23p4 std ps n n0 n1 n2 b3 n4 n5 b6 n7 x11 x11.length (pC q) (pL q) (pH q) i s.1 s.2.1 s.2.2) (by simp only [e1, g0, g1, g2]; simp [hi]) ?_
  simp only [e1, g0, g1, g2]
  generalize x11[i] = p at *
  simp only [okP, decide_eq_true_eq] at hq hpi
  have e2 : std.set (std.set [0, 0] 0 (pL p)) 1 (pH p) = [pL p, pH p] := rfl
  rw [e2]
  have c1 : chB (pC p) (pL p) (pC q) (pL q) = true := by simp [chB, cntB, timB]; omega
  have c2 : chB (pC p) (pL p) (pC q) (pH q) = true := by simp [chB, cntB, timB]; omega
  have c3 : chB (pC p) (pH p) (pC q) (pL q) = true := by simp [chB, cntB, timB]; omega
  have c4 : chB (pC p) (pH p) (pC q) (pH q) = true := by simp [chB, cntB, timB]; omega
  have hden : 0 < denC (pC p) (pC q) ∧ denC (pC p) (pC q) ≤ 1000000 := by unfold denC; omega
  have q2 : Ev C (f23h125_2a ps n n0 n1 n2 b3 n4 n5 b6 n7 x11 x11.length (pC q) (pL q) (pH q) i [pL p, pH p] (pC p) (pL p) (pH p) ((2 : Nat) : Int) s2.1 s2.2.1 s2.2.2) (f23h125_2am ps n n0 n1 n2 b3 n4 n5 b6 n7 x11 x11.length (pC q) (pL q) (pH q) i [pL p, pH p] (pC p) (pL p) (pH p) ((2 : Nat) : Int) s2.1 s2.2.1 s2.2.2) R :=
    go hC BE3_ok (f23p7 std ps n n0 n1 n2 b3 n4 n5 b6 n7 x11 x11.length (pC q) (pL q) (pH q) i [pL p, pH p] (pC p) (pL p) (pH p) _ _ _ _) (by simp; omega) (by simpa using h)
  have q1 := s23_2 hC ps n n0 n1 n2 b3 n4 n5 b6 n7 x11 x11.length (pC q) (pL q) (pH q) i [pL p, pH p] (pC p) (pL p) (pH p) 1 (two (fun d => stpT ps n (pC p) (pL p) (pC q) d) (pL q) (pH q) s) (pH p) (by omega) rfl rfl c3 c4 hp hn hden R s2 hs2 q2
  have q0 := s23_2 hC ps n n0 n1 n2 b3 n4 n5 b6 n7 x11 x11.length (pC q) (pL q) (pH q) i [pL p, pH p] (pC p) (pL p) (pH p) 0 s (pL p) (by omega) rfl rfl c1 c2 hp hn hden R _ rfl q1
  simpa using q0
theorem l23_1 {C : Ctx} (hC : C.P = Try.prog) (ps : List AV) (n : Int) (n0 n1 n2 : Int) (b3 : Bool) (n4 n5 : Int) (b6 : Bool) (n7 : Int) (x11 : List AV) (q : AV) (hx : x11.length ≤ 1000) (hq : okP (pC q) (pL q) (pH q) = true) (hpi : ∀ p ∈ x11, okP (pC p) (pL p) (pH p) = true ∧ pC p < pC q) (hp : allP ps = true) (hn : cntB n = true) (R : List AFrame → AHeap → Prop) (s2 : T3)
    (h : Ev C (f23h125_1a ps n n0 n1 n2 b3 n4 n5 b6 n7 x11 x11.length (pC q) (pL q) (pH q) x11.length s2.1 s2.2.1 s2.2.2) (f23h125_1am ps n n0 n1 n2 b3 n4 n5 b6 n7 x11 x11.length (pC q) (pL q) (pH q) x11.length s2.1 s2.2.1 s2.2.2) R) : ∀ (t i : Nat) (s : T3), i + t = x11.length → inT ps n q (x11.drop i) s = s2 →
    Ev C (f23h125_1a ps n n0 n1 n2 b3 n4 n5 b6 n7 x11 x11.length (pC q) (pL q) (pH q) i s.1 s.2.1 s.2.2) (f23h125_1am ps n n0 n1 n2 b3 n4 n5 b6 n7 x11 x11.length (pC q) (pL q) (pH q) i s.1 s.2.1 s.2.2) R := by
  intro t
  induction t with
  | zero =>
    intro i s hi hs
    rw [List.drop_of_length_le (by omega), inT] at hs
    have : i = x11.length := by omega
    subst this; subst hs; exact h
  | succ t ih =>
    intro i s hi hs
    have hlt : i < x11.length := by omega
    rw [List.drop_eq_getElem_cons hlt, inT] at hs
    have hk := hpi x11[i] (by simp)
    exact s23_1 hC ps n n0 n1 n2 b3 n4 n5 b6 n7 x11 q i s hlt hx hq hk.1 hk.2 hp hn R _ rfl (ih (i + 1) _ (by omega) hs)
theorem l23_0 {C : Ctx} (hC : C.P = Try.prog) (ps : List AV) (n : Int) (n0 n1 n2 : Int) (b3 : Bool) (n4 n5 : Int) (b6 : Bool) (hl : ps.length ≤ 1000) (hok : ∀ p ∈ ps, okP (pC p) (pL p) (pH p) = true) (hasc : ps.Pairwise (fun p q => pC p < pC q)) (hp : allP ps = true) (hn : cntB n = true) (R : List AFrame → AHeap → Prop) (s2 : T3) (e0 : n0 = ps.length)
    (h : Ev C (f23h125_0a ps n n0 n1 n2 b3 n4 n5 b6 ps.length s2.1 s2.2.1 s2.2.2) (f23h125_0am ps n n0 n1 n2 b3 n4 n5 b6 ps.length s2.1 s2.2.1 s2.2.2) R) : ∀ (t i : Nat) (s : T3), i + t = ps.length → goT ps n t i s = s2 →
    Ev C (f23h125_0a ps n n0 n1 n2 b3 n4 n5 b6 i s.1 s.2.1 s.2.2) (f23h125_0am ps n n0 n1 n2 b3 n4 n5 b6 i s.1 s.2.1 s.2.2) R := by
  subst e0
  intro t
  induction t with
  | zero =>
    intro i s hi hs
    rw [goT] at hs
    have : i = ps.length := by omega
    subst this; subst hs; exact h
  | succ t ih =>
    intro i s hi hs
    have hlt : i < ps.length := by omega
    rw [goT] at hs
    have e1 : std.nthA ps (std.nat (i : Int)) = ps[i] := by simp [hlt]
    have e2 : ps.getD i (.int .i64 0) = ps[i] := by simp [hlt]
    have e3 : std.subA ps 0 (std.subN (std.nat (i : Int)) 0) = ps.take i := by simp
    have e4 : std.lenA (ps.take i) = (ps.take i).length := rfl
    have g0 : (ps[i].cellAt 0).toI = pC ps[i] := rfl
    have g1 : (ps[i].cellAt 1).toI = pL ps[i] := rfl
    have g2 : (ps[i].cellAt 2).toI = pH ps[i] := rfl
    rw [e2] at hs
    have ih' := ih (i + 1) _ (by omega) hs
    refine go hC BE3_ok (f23p2 std ps n ps.length n1 n2 b3 n4 n5 b6 i s.1 s.2.1 s.2.2) (by simp [hlt]; omega) ?_
    simp only [e1, e3, e4, g0, g1, g2, s_int]
    have hmem : ∀ p ∈ ps.take i, okP (pC p) (pL p) (pH p) = true ∧ pC p < pC ps[i] := fun p hpm => by
      obtain ⟨j, hj, rfl⟩ := List.mem_take_iff_getElem.1 hpm
      exact ⟨hok _ (by simp), List.pairwise_iff_getElem.1 hasc j i (by omega) hlt (by omega)⟩
    have q := l23_1 hC ps n ps.length n1 n2 b3 n4 n5 b6 i (ps.take i) ps[i] (by rw [List.length_take]; omega) (hok _ (by simp)) hmem hp hn R _ (go hC BE3_ok (f23p5 std ps n ps.length n1 n2 b3 n4 n5 b6 i (ps.take i) _ _ _ _ _ _ _ _) (by simp; omega) (by simpa using ih')) (ps.take i).length 0 s (by omega) rfl
    simpa using q
def tmT (ps : List AV) (n : Int) : T3 := goT ps n ps.length 0 (0, 0, false)
def tmE (ps : List AV) (n : Int) : Int := if lnE ps = 0 then (if 0 ≤ n ∧ n ≤ 1000000 then 0 else 2) else lnE ps
def tmV (ps : List AV) (n : Int) : Int × Int := if tmE ps n = 0 then ((tmT ps n).1, (tmT ps n).2.1) else (0, 0)
theorem lnE_ok {ps : List AV} (h : lnE ps = 0) : (chkP ps).2 = 0 ∧ 2 ≤ ps.length ∧ lineS ps = true := by
  unfold lnE at h
  split at h
  · rename_i h1
    split at h
    · omega
    · split at h
      · exact ⟨h1, by omega, by assumption⟩
      · omega
  · rename_i h1; exact absurd h h1
theorem chkP_all {ps : List AV} (h : (chkP ps).2 = 0) : (∀ p ∈ ps, okP (pC p) (pL p) (pH p) = true) ∧ ps.Pairwise (fun p q => pC p < pC q) := by
  unfold chkP at h
  split at h
  · simp at h
  · split at h
    · simp at h
    · obtain ⟨h1, h2⟩ := chkL_ok h
      exact ⟨fun p hp => (h1 p hp).1, h2⟩
theorem time23_ok (ps : List AV) (n : Int) (h : ps.length ≤ 1000000) : Pure Try.prog 23 [.list (.big (.agg [.int .i64, .int .i64, .int .i64]) ps), .int .i64 n] (.tup [.agg (.gen [.int .i64 (tmV ps n).1, .int .i64 (tmV ps n).2]), .int .i64 (tmE ps n)]) none :=
  start (f23e_at ps n) fun C hC => by
    have e0 : firstE [lnE ps, unlessE (decide (0 ≤ n ∧ n ≤ 1000000)) 2] = tmE ps n := by
      rw [tmE]
      by_cases h1 : lnE ps = 0
      · by_cases h2 : 0 ≤ n ∧ n ≤ 1000000
        · rw [decide_eq_true h2, if_pos h1, if_pos h2, h1]; rfl
        · rw [decide_eq_false h2, if_pos h1, if_neg h2, h1]; rfl
      · rw [if_neg h1]; simp [firstE, h1]
    by_cases hE : tmE ps n = 0
    · have h1 : lnE ps = 0 := by unfold tmE at hE; split at hE <;> assumption
      have h2 : 0 ≤ n ∧ n ≤ 1000000 := by
        rw [tmE, if_pos h1] at hE
        split at hE
        · assumption
        · omega
      obtain ⟨hc, hl2, _⟩ := lnE_ok h1
      obtain ⟨hok, hasc⟩ := chkP_all hc
      have hl := (chkP_ok hc).2.1
      have hp : allP ps = true := by rw [allP, Bool.and_eq_true, decide_eq_true_eq, List.all_eq_true]; exact ⟨by omega, hok⟩
      refine go hC BE3_ok (f23p1 std ps n) (by simp only [e0, hE]; simp [h, AV.bx, flatLen]) ?_
      simp only [e0, hE]
      have q := l23_0 hC ps n ps.length 0 0 (std.not (std.eq 0 0)) 0 0 (std.not (std.eq 0 0)) (by omega) hok hasc hp (decide_eq_true h2) (FinQ 23 (.tup [.agg (.gen [.int .i64 (tmT ps n).1, .int .i64 (tmT ps n).2.1]), .int .i64 0]) none) (tmT ps n) rfl
        (fin hC BE3_ok (f23p3 std ps n _ _ _ _ _ _ _ _ _ _ _) (by simp) rfl rfl) ps.length 0 (0, 0, false) (by omega) rfl
      rw [tmV, if_pos hE]
      simpa using q
    · rw [tmV, if_neg hE]
      exact fin hC BE3_ok (f23p0 std ps n) (by simp only [e0]; simp [h, hE, AV.bx, flatLen]) (by rw [e0]) rfl
def k23 : Ctr := ⟨23, 0, fun _ a => match a with | [.list (.big (.agg [.int .i64, .int .i64, .int .i64]) ps), .int .i64 n] => some (decide (ps.length ≤ 1000000), .tup [.agg (.gen [.int .i64 (tmV ps n).1, .int .i64 (tmV ps n).2]), .int .i64 (tmE ps n)], none) | _ => none⟩
theorem k23_ok : k23.OK Try.prog := fun pa args r fr h => by
  simp only [k23] at h
  split at h
  · simp only [Option.some.injEq, Prod.mk.injEq, decide_eq_true_eq] at h
    obtain ⟨h0, rfl, rfl⟩ := h
    exact time23_ok _ _ h0
  · cases h
def BE4 : List Ctr := [k23] ++ BE3
theorem BE4_ok : CtrsOK Try.prog BE4 := ⟨k23_ok, BE3_ok⟩
end Go.Proofs.Ytjhdnpmojhkbjaa
/- Contracts as a list. No condition. -/
namespace Go.Proofs.Ytjhdnpmojhkbjaa
def frA (n d : Int) : AV := .agg (.gen [.int .i64 n, .int .i64 d])
def candI (q : AV) : List AV → List AV
  | [] => []
  | p :: l => frA (lN (pL q - pL p) (pC q - pC p)) (lD (pL q - pL p) (pC q - pC p)) :: frA (lN (pH q - pH p) (pC q - pC p)) (lD (pH q - pH p) (pC q - pC p)) :: candI q l
def candO (ps : List AV) : Nat → Nat → List AV
  | 0, _ => []
  | t + 1, i => candI (ps.getD i (.int .i64 0)) (ps.take i) ++ candO ps t (i + 1)
def xN (x : AV) : Int := (x.cellAt 0).toI
def xD (x : AV) : Int := (x.cellAt 1).toI
def frmX (num den n : Int) (p : AV) : Int := pL p * den + num * (n - pC p)
def tooX (num den n : Int) (p : AV) : Int := pH p * den + num * (n - pC p)
def lhF (num den n : Int) : List AV → Int × Int → Int × Int
  | [], s => s
  | p :: l, s => lhF num den n l (max s.1 (frmX num den n p), min s.2 (tooX num den n p))
def lhS (num den n : Int) : List AV → Int × Int
  | [] => (0, 0)
  | p :: l => lhF num den n l (frmX num den n p, tooX num den n p)
def stpR (ps : List AV) (n : Int) (r : R4) (x : AV) (s : T3) : T3 :=
  if cmpI (xN x) (xD x) r.1 r.2.1 < 0 then s
  else if 0 < cmpI (xN x) (xD x) r.2.2.1 r.2.2.2 then s
  else if s.2.2 = true then (min s.1 (floorI (lhS (xN x) (xD x) n ps).1 (xD x)), max s.2.1 (ceilI (lhS (xN x) (xD x) n ps).2 (xD x)), true)
  else (floorI (lhS (xN x) (xD x) n ps).1 (xD x), ceilI (lhS (xN x) (xD x) n ps).2 (xD x), true)
def runR (ps : List AV) (n : Int) (r : R4) : List AV → T3 → T3
  | [], s => s
  | x :: l, s => runR ps n r l (stpR ps n r x s)
def ratsR (ps : List AV) : List AV := frA (rateP ps).1 (rateP ps).2.1 :: frA (rateP ps).2.2.1 (rateP ps).2.2.2 :: candO ps (ps.length - 1) 1
def tmR (ps : List AV) (n : Int) : T3 := runR ps n (rateP ps) (ratsR ps) (0, 0, false)
def frG (x : AV) : Prop := (-1000000000000 ≤ xN x ∧ xN x ≤ 1000000000000) ∧ 0 < xD x ∧ xD x ≤ 1000000
theorem low_frG {a d : Int} (ha : -1000000000000 ≤ a ∧ a ≤ 1000000000000) (hd : 0 < d ∧ d ≤ 1000000) : frG (frA (lN a d) (lD a d)) := by
  have h := low_rng a hd.1
  show (-1000000000000 ≤ lN a d ∧ lN a d ≤ 1000000000000) ∧ 0 < lD a d ∧ lD a d ≤ 1000000
  omega
theorem candI_G {q : AV} (hq : okP (pC q) (pL q) (pH q) = true) : ∀ {l : List AV}, (∀ p ∈ l, okP (pC p) (pL p) (pH p) = true ∧ pC p < pC q) → ∀ x ∈ candI q l, frG x
  | [], _, x, hx => absurd hx List.not_mem_nil
  | p :: l, h, x, hx => by
    have hp := h p List.mem_cons_self
    have ih := candI_G hq (l := l) (fun p hp => h p (List.mem_cons_of_mem _ hp))
    simp only [okP, decide_eq_true_eq] at hq hp
    rw [candI, List.mem_cons, List.mem_cons] at hx
    rcases hx with rfl | rfl | hx
    · exact low_frG (by omega) (by omega)
    · exact low_frG (by omega) (by omega)
    · exact ih x hx
def ascP (ps : List AV) : Prop := (∀ p ∈ ps, okP (pC p) (pL p) (pH p) = true) ∧ ps.Pairwise (fun p q => pC p < pC q)
theorem asc_take {ps : List AV} (h : ascP ps) {i : Nat} (hi : i < ps.length) : ∀ p ∈ ps.take i, okP (pC p) (pL p) (pH p) = true ∧ pC p < pC ps[i] := fun p hpm => by
  obtain ⟨j, hj, rfl⟩ := List.mem_take_iff_getElem.1 hpm
  exact ⟨h.1 _ (by simp), List.pairwise_iff_getElem.1 h.2 j i (by omega) hi (by omega)⟩
theorem candO_G {ps : List AV} (h : ascP ps) : ∀ (t i : Nat), i + t = ps.length → ∀ x ∈ candO ps t i, frG x
  | 0, _, _, x, hx => absurd hx List.not_mem_nil
  | t + 1, i, hi, x, hx => by
    have hlt : i < ps.length := by omega
    have e : ps.getD i (.int .i64 0) = ps[i] := by simp [hlt]
    rw [candO, e, List.mem_append] at hx
    rcases hx with hx | hx
    · exact candI_G (h.1 _ (by simp)) (asc_take h hlt) x hx
    · exact candO_G h t (i + 1) (by omega) x hx
def BE5 : List Ctr := BE4
theorem BE5_ok : CtrsOK Try.prog BE5 := BE4_ok
end Go.Proofs.Ytjhdnpmojhkbjaa
/- Lines in the plane, in fractions: where the least time is reached. No condition. -/
namespace Go.Proofs.Ytjhdnpmojhkbjaa
theorem exMax {α : Type} (f : α → Rat) : ∀ (l : List α), l ≠ [] → ∃ m ∈ l, ∀ x ∈ l, f x ≤ f m
  | [], h => absurd rfl h
  | [a], _ => ⟨a, by simp, fun x hx => by rw [List.mem_singleton] at hx; subst hx; exact Rat.le_refl⟩
  | a :: b :: l, _ => by
    obtain ⟨m, hm, h⟩ := exMax f (b :: l) (by simp)
    by_cases hab : f m ≤ f a
    · refine ⟨a, by simp, fun x hx => ?_⟩
      rcases List.mem_cons.1 hx with rfl | hx
      · exact Rat.le_refl
      · exact Rat.le_trans (h x hx) hab
    · refine ⟨m, List.mem_cons_of_mem _ hm, fun x hx => ?_⟩
      rcases List.mem_cons.1 hx with rfl | hx
      · exact Rat.le_of_lt (Rat.not_le.1 hab)
      · exact h x hx
theorem divle {a b x : Rat} (hb : 0 < b) : a / b ≤ x ↔ a ≤ x * b := by
  have h1 : a / b * b = a := Rat.div_mul_cancel (fun h => by rw [h] at hb; exact absurd hb (by decide))
  constructor
  · intro h
    have := Rat.mul_le_mul_of_nonneg_right h (Rat.le_of_lt hb)
    rwa [h1] at this
  · intro h
    rw [← h1] at h
    exact Rat.le_of_mul_le_mul_right h hb
theorem ledv {a b x : Rat} (hb : 0 < b) : x ≤ a / b ↔ x * b ≤ a := by
  have h1 : a / b * b = a := Rat.div_mul_cancel (fun h => by rw [h] at hb; exact absurd hb (by decide))
  constructor
  · intro h
    have := Rat.mul_le_mul_of_nonneg_right h (Rat.le_of_lt hb)
    rwa [h1] at this
  · intro h
    rw [← h1] at h
    exact Rat.le_of_mul_le_mul_right h hb
theorem mulle {a b c : Rat} (h : a ≤ b) (hc : 0 ≤ c) : a * c ≤ b * c := Rat.mul_le_mul_of_nonneg_right h hc
theorem lowest_at {α : Type} (P : List α) (c L : α → Rat) (n r0 r1 s T : Rat) (h0 : r0 ≤ s) (h1 : s ≤ r1) (hne : P ≠ []) (hd : ∀ p ∈ P, ∀ q ∈ P, c p = c q → L p = L q) (h : ∀ p ∈ P, L p + s * (n - c p) ≤ T) :
    ∃ b, (b = r0 ∨ b = r1 ∨ ∃ p ∈ P, ∃ q ∈ P, c p < c q ∧ b = (L q - L p) / (c q - c p)) ∧ r0 ≤ b ∧ b ≤ r1 ∧ ∀ p ∈ P, L p + b * (n - c p) ≤ T := by
  obtain ⟨k, hk, hm⟩ := exMax (fun p => L p + s * (n - c p)) P hne
  have hT := h k hk
  have key : ∀ i ∈ P, L i - L k ≤ s * (c i - c k) := fun i hi => by have := hm i hi; grind
  by_cases hn : c k ≤ n
  · obtain ⟨b, hb, hbm⟩ := exMax (fun x : Rat => x) (r0 :: (P.filter (fun i => decide (c k < c i))).map fun i => (L i - L k) / (c i - c k)) (by simp)
    have hbs : b ≤ s := by
      rcases List.mem_cons.1 hb with rfl | hb
      · exact h0
      · obtain ⟨i, hi, rfl⟩ := List.mem_map.1 hb
        obtain ⟨hi, hci⟩ := List.mem_filter.1 hi
        have hci : c k < c i := of_decide_eq_true hci
        exact (divle (by grind)).2 (key i hi)
    have hrb : r0 ≤ b := hbm r0 (by simp)
    refine ⟨b, ?_, hrb, Rat.le_trans hbs h1, fun i hi => ?_⟩
    · rcases List.mem_cons.1 hb with rfl | hb
      · exact .inl rfl
      · obtain ⟨i, hi, rfl⟩ := List.mem_map.1 hb
        obtain ⟨hi, hci⟩ := List.mem_filter.1 hi
        exact .inr (.inr ⟨k, hk, i, hi, of_decide_eq_true hci, rfl⟩)
    · have e1 : L i - L k ≤ b * (c i - c k) := by
        rcases (Rat.le_total : c i ≤ c k ∨ c k ≤ c i) with hc | hc
        · have := mulle (a := b) (b := s) (c := c k - c i) hbs (by grind)
          have := key i hi
          grind
        · by_cases he : c k = c i
          · have := hd k hk i hi he
            rw [← he]; grind
          · have hlt : c k < c i := by grind
            exact (divle (by grind)).1 (hbm _ (List.mem_cons_of_mem _ (List.mem_map.2 ⟨i, List.mem_filter.2 ⟨hi, decide_eq_true hlt⟩, rfl⟩)))
      have := mulle (a := b) (b := s) (c := n - c k) hbs (by grind)
      grind
  · have hn : n < c k := Rat.not_le.1 hn
    obtain ⟨b, hb, hbm⟩ := exMax (fun x : Rat => -x) (r1 :: (P.filter (fun i => decide (c i < c k))).map fun i => (L k - L i) / (c k - c i)) (by simp)
    have hbs : s ≤ b := by
      rcases List.mem_cons.1 hb with rfl | hb
      · exact h1
      · obtain ⟨i, hi, rfl⟩ := List.mem_map.1 hb
        obtain ⟨hi, hci⟩ := List.mem_filter.1 hi
        have hci : c i < c k := of_decide_eq_true hci
        refine (ledv (by grind)).2 ?_
        have := key i hi
        grind
    have hrb : b ≤ r1 := by have := hbm r1 (by simp); grind
    refine ⟨b, ?_, Rat.le_trans h0 hbs, hrb, fun i hi => ?_⟩
    · rcases List.mem_cons.1 hb with rfl | hb
      · exact .inr (.inl rfl)
      · obtain ⟨i, hi, rfl⟩ := List.mem_map.1 hb
        obtain ⟨hi, hci⟩ := List.mem_filter.1 hi
        exact .inr (.inr ⟨i, hi, k, hk, of_decide_eq_true hci, rfl⟩)
    · have e1 : L i - L k ≤ b * (c i - c k) := by
        rcases (Rat.le_total : c k ≤ c i ∨ c i ≤ c k) with hc | hc
        · have := mulle (a := s) (b := b) (c := c i - c k) hbs (by grind)
          have := key i hi
          grind
        · by_cases he : c k = c i
          · have := hd k hk i hi he
            rw [← he]; grind
          · have hlt : c i < c k := by grind
            have h2 := hbm _ (List.mem_cons_of_mem _ (List.mem_map.2 ⟨i, List.mem_filter.2 ⟨hi, decide_eq_true hlt⟩, rfl⟩))
            have h3 : b ≤ (L k - L i) / (c k - c i) := by grind
            have h4 := (ledv (by grind)).1 h3
            grind
      have := mulle (a := s) (b := b) (c := c k - n) hbs (by grind)
      grind
theorem turn_at {α : Type} (P : List α) (c L H : α → Rat) (n b : Rat) (k : α) (h2 : ∃ p ∈ P, c p ≠ c k) (hLH : ∀ p ∈ P, c p = c k → L p ≤ L k ∧ L k ≤ H p)
    (hb : ∀ p ∈ P, L p ≤ L k + b * (c p - c k) ∧ L k + b * (c p - c k) ≤ H p) :
    ∃ p ∈ P, ∃ e, (e = L p ∨ e = H p) ∧ c p ≠ c k ∧ ∃ σ, σ * (c p - c k) = e - L k ∧ (∀ q ∈ P, L q ≤ L k + σ * (c q - c k) ∧ L k + σ * (c q - c k) ≤ H q) ∧ L k + σ * (n - c k) ≤ L k + b * (n - c k) := by
  obtain ⟨p0, hp0, hc0⟩ := h2
  have hz : ∀ q ∈ P, c q = c k → ∀ σ : Rat, L q ≤ L k + σ * (c q - c k) ∧ L k + σ * (c q - c k) ≤ H q := fun q hq he σ => by
    have := hLH q hq he
    rw [he]; grind
  by_cases hn : c k ≤ n
  · -- lower bounds of the slope
    obtain ⟨p, hp, hm⟩ := exMax (fun q : α => if c k < c q then (L q - L k) / (c q - c k) else (L k - H q) / (c k - c q)) (P.filter fun q => decide (c q ≠ c k)) (List.ne_nil_of_mem (List.mem_filter.2 ⟨hp0, decide_eq_true hc0⟩))
    obtain ⟨hp, hcp⟩ := List.mem_filter.1 hp
    have hcp : c p ≠ c k := of_decide_eq_true hcp
    obtain ⟨σ, hσ⟩ : ∃ σ, σ = (if c k < c p then (L p - L k) / (c p - c k) else (L k - H p) / (c k - c p)) := ⟨_, rfl⟩
    have hσb : σ ≤ b := by
      have := hb p hp
      rw [hσ]
      split
      · exact (divle (by grind)).2 (by grind)
      · exact (divle (by grind)).2 (by grind)
    have hfe : ∀ q ∈ P, L q ≤ L k + σ * (c q - c k) ∧ L k + σ * (c q - c k) ≤ H q := fun q hq => by
      by_cases he : c q = c k
      · exact hz q hq he σ
      · have h3 := hm q (List.mem_filter.2 ⟨hq, decide_eq_true he⟩)
        simp only [← hσ] at h3
        have h4 := hb q hq
        by_cases hlt : c k < c q
        · rw [if_pos hlt] at h3
          have h5 := (divle (by grind)).1 h3
          have h6 := mulle (a := σ) (b := b) (c := c q - c k) hσb (by grind)
          exact ⟨by grind, by grind⟩
        · rw [if_neg hlt] at h3
          have h5 := (divle (by grind)).1 h3
          have h6 := mulle (a := σ) (b := b) (c := c k - c q) hσb (by grind)
          exact ⟨by grind, by grind⟩
    have hT : L k + σ * (n - c k) ≤ L k + b * (n - c k) := by
      have := mulle (a := σ) (b := b) (c := n - c k) hσb (by grind)
      grind
    by_cases hlt : c k < c p
    · rw [if_pos hlt] at hσ
      exact ⟨p, hp, L p, .inl rfl, hcp, σ, by rw [hσ]; exact Rat.div_mul_cancel (by grind), hfe, hT⟩
    · rw [if_neg hlt] at hσ
      refine ⟨p, hp, H p, .inr rfl, hcp, σ, ?_, hfe, hT⟩
      have h7 : σ * (c k - c p) = L k - H p := by rw [hσ]; exact Rat.div_mul_cancel (by grind)
      grind
  · have hn : n < c k := Rat.not_le.1 hn
    obtain ⟨p, hp, hm⟩ := exMax (fun q : α => -(if c k < c q then (H q - L k) / (c q - c k) else (L k - L q) / (c k - c q))) (P.filter fun q => decide (c q ≠ c k)) (List.ne_nil_of_mem (List.mem_filter.2 ⟨hp0, decide_eq_true hc0⟩))
    obtain ⟨hp, hcp⟩ := List.mem_filter.1 hp
    have hcp : c p ≠ c k := of_decide_eq_true hcp
    obtain ⟨σ, hσ⟩ : ∃ σ, σ = (if c k < c p then (H p - L k) / (c p - c k) else (L k - L p) / (c k - c p)) := ⟨_, rfl⟩
    have hσb : b ≤ σ := by
      have := hb p hp
      rw [hσ]
      split
      · exact (ledv (by grind)).2 (by grind)
      · exact (ledv (by grind)).2 (by grind)
    have hfe : ∀ q ∈ P, L q ≤ L k + σ * (c q - c k) ∧ L k + σ * (c q - c k) ≤ H q := fun q hq => by
      by_cases he : c q = c k
      · exact hz q hq he σ
      · have h3 := hm q (List.mem_filter.2 ⟨hq, decide_eq_true he⟩)
        simp only [← hσ] at h3
        have h4 := hb q hq
        by_cases hlt : c k < c q
        · rw [if_pos hlt] at h3
          have h5 := (ledv (a := H q - L k) (b := c q - c k) (x := σ) (by grind)).1 (by grind)
          have h6 := mulle (a := b) (b := σ) (c := c q - c k) hσb (by grind)
          exact ⟨by grind, by grind⟩
        · rw [if_neg hlt] at h3
          have h5 := (ledv (a := L k - L q) (b := c k - c q) (x := σ) (by grind)).1 (by grind)
          have h6 := mulle (a := b) (b := σ) (c := c k - c q) hσb (by grind)
          exact ⟨by grind, by grind⟩
    have hT : L k + σ * (n - c k) ≤ L k + b * (n - c k) := by
      have := mulle (a := b) (b := σ) (c := c k - n) hσb (by grind)
      grind
    by_cases hlt : c k < c p
    · rw [if_pos hlt] at hσ
      exact ⟨p, hp, H p, .inr rfl, hcp, σ, by rw [hσ]; exact Rat.div_mul_cancel (by grind), hfe, hT⟩
    · rw [if_neg hlt] at hσ
      refine ⟨p, hp, L p, .inl rfl, hcp, σ, ?_, hfe, hT⟩
      have h7 : σ * (c k - c p) = L k - L p := by rw [hσ]; exact Rat.div_mul_cancel (by grind)
      grind
end Go.Proofs.Ytjhdnpmojhkbjaa
/- Times: what the chords give and what the rates give is the same. No condition. -/
namespace Go.Proofs.Ytjhdnpmojhkbjaa
def accV (s : T3) (v : Int × Int) : T3 := if s.2.2 = true then (min s.1 v.1, max s.2.1 v.2, true) else (v.1, v.2, true)
theorem acc_run : ∀ (l : List (Int × Int)) (a b : Int), ∃ m M, l.foldl accV (a, b, true) = (m, M, true) ∧ (m = a ∨ ∃ v ∈ l, v.1 = m) ∧ m ≤ a ∧ (∀ v ∈ l, m ≤ v.1) ∧ (M = b ∨ ∃ v ∈ l, v.2 = M) ∧ b ≤ M ∧ (∀ v ∈ l, v.2 ≤ M)
  | [], a, b => ⟨a, b, rfl, .inl rfl, Int.le_refl _, fun v hv => absurd hv List.not_mem_nil, .inl rfl, Int.le_refl _, fun v hv => absurd hv List.not_mem_nil⟩
  | v :: l, a, b => by
    obtain ⟨m, M, h1, h2, h3, h4, h5, h6, h7⟩ := acc_run l (min a v.1) (max b v.2)
    have k1 : m ≤ a ∧ m ≤ v.1 := by clear h2 h5; omega
    have k2 : b ≤ M ∧ v.2 ≤ M := by clear h2 h5; omega
    have k3 : min a v.1 = a ∨ v.1 = min a v.1 := by clear h2 h5; omega
    have k4 : max b v.2 = b ∨ v.2 = max b v.2 := by clear h2 h5; omega
    refine ⟨m, M, h1, ?_, k1.1, fun w hw => ?_, ?_, k2.1, fun w hw => ?_⟩
    · rcases h2 with h2 | ⟨w, hw, h2⟩
      · rcases k3 with k3 | k3
        · exact .inl (h2.trans k3)
        · exact .inr ⟨v, by simp, k3.trans h2.symm⟩
      · exact .inr ⟨w, by simp [hw], h2⟩
    · rcases List.mem_cons.1 hw with rfl | hw
      · exact k1.2
      · exact h4 w hw
    · rcases h5 with h5 | ⟨w, hw, h5⟩
      · rcases k4 with k4 | k4
        · exact .inl (h5.trans k4)
        · exact .inr ⟨v, by simp, k4.trans h5.symm⟩
      · exact .inr ⟨w, by simp [hw], h5⟩
    · rcases List.mem_cons.1 hw with rfl | hw
      · exact k2.2
      · exact h7 w hw
theorem acc_all {l : List (Int × Int)} (h : l ≠ []) : ∃ m M, l.foldl accV (0, 0, false) = (m, M, true) ∧ (∃ v ∈ l, v.1 = m) ∧ (∀ v ∈ l, m ≤ v.1) ∧ (∃ v ∈ l, v.2 = M) ∧ ∀ v ∈ l, v.2 ≤ M := by
  cases l with
  | nil => exact absurd rfl h
  | cons v l =>
    obtain ⟨m, M, h1, h2, h3, h4, h5, h6, h7⟩ := acc_run l v.1 v.2
    refine ⟨m, M, h1, ?_, fun w hw => ?_, ?_, fun w hw => ?_⟩
    · rcases h2 with h2 | ⟨w, hw, h2⟩
      · exact ⟨v, by simp, h2.symm⟩
      · exact ⟨w, by simp [hw], h2⟩
    · rcases List.mem_cons.1 hw with rfl | hw
      · exact h3
      · exact h4 w hw
    · rcases h5 with h5 | ⟨w, hw, h5⟩
      · exact ⟨v, by simp, h5.symm⟩
      · exact ⟨w, by simp [hw], h5⟩
    · rcases List.mem_cons.1 hw with rfl | hw
      · exact h6
      · exact h7 w hw
def valC (ps : List AV) (n a b c d : Int) : List (Int × Int) := if fitB a b c d ps = true then [(loX n a b c d, hiX n a b c d)] else []
theorem stpT_acc (ps : List AV) (n a b c d : Int) (s : T3) : stpT ps n a b c d s = (valC ps n a b c d).foldl accV s := by
  unfold stpT valC
  split <;> rfl
def valP (ps : List AV) (n : Int) (q p : AV) : List (Int × Int) :=
  (valC ps n (pC p) (pL p) (pC q) (pL q) ++ valC ps n (pC p) (pL p) (pC q) (pH q)) ++ (valC ps n (pC p) (pH p) (pC q) (pL q) ++ valC ps n (pC p) (pH p) (pC q) (pH q))
theorem pairT_acc (ps : List AV) (n : Int) (q p : AV) (s : T3) : pairT ps n q p s = (valP ps n q p).foldl accV s := by
  simp only [pairT, two, stpT_acc, valP, List.foldl_append]
def valI (ps : List AV) (n : Int) (q : AV) : List AV → List (Int × Int)
  | [] => []
  | p :: l => valP ps n q p ++ valI ps n q l
theorem inT_acc (ps : List AV) (n : Int) (q : AV) : ∀ (l : List AV) (s : T3), inT ps n q l s = (valI ps n q l).foldl accV s
  | [], s => rfl
  | p :: l, s => by rw [inT, pairT_acc, inT_acc ps n q l, valI, List.foldl_append]
def valO (ps : List AV) (n : Int) : Nat → Nat → List (Int × Int)
  | 0, _ => []
  | t + 1, i => valI ps n (ps.getD i (.int .i64 0)) (ps.take i) ++ valO ps n t (i + 1)
theorem goT_acc (ps : List AV) (n : Int) : ∀ (t i : Nat) (s : T3), goT ps n t i s = (valO ps n t i).foldl accV s
  | 0, i, s => rfl
  | t + 1, i, s => by rw [goT, inT_acc, goT_acc ps n t, valO, List.foldl_append]
theorem tmT_acc (ps : List AV) (n : Int) : tmT ps n = (valO ps n ps.length 0).foldl accV (0, 0, false) := goT_acc ps n ps.length 0 _
def isCh (ps : List AV) (n : Int) (p q : AV) (v : Int × Int) : Prop :=
  ∃ b d, (b = pL p ∨ b = pH p) ∧ (d = pL q ∨ d = pH q) ∧ fitB (pC p) b (pC q) d ps = true ∧ v = (loX n (pC p) b (pC q) d, hiX n (pC p) b (pC q) d)
theorem mem_valC {ps : List AV} {n a b c d : Int} {v : Int × Int} : v ∈ valC ps n a b c d ↔ fitB a b c d ps = true ∧ v = (loX n a b c d, hiX n a b c d) := by
  unfold valC
  split
  · rename_i h; simp [h]
  · rename_i h; simp [h]
theorem mem_valP {ps : List AV} {n : Int} {q p : AV} {v : Int × Int} : v ∈ valP ps n q p ↔ isCh ps n p q v := by
  simp only [valP, List.mem_append, mem_valC, isCh]
  constructor
  · rintro ((⟨h1, h2⟩ | ⟨h1, h2⟩) | ⟨h1, h2⟩ | ⟨h1, h2⟩)
    · exact ⟨_, _, .inl rfl, .inl rfl, h1, h2⟩
    · exact ⟨_, _, .inl rfl, .inr rfl, h1, h2⟩
    · exact ⟨_, _, .inr rfl, .inl rfl, h1, h2⟩
    · exact ⟨_, _, .inr rfl, .inr rfl, h1, h2⟩
  · rintro ⟨b, d, rfl | rfl, rfl | rfl, h1, h2⟩
    · exact .inl (.inl ⟨h1, h2⟩)
    · exact .inl (.inr ⟨h1, h2⟩)
    · exact .inr (.inl ⟨h1, h2⟩)
    · exact .inr (.inr ⟨h1, h2⟩)
theorem mem_valI {ps : List AV} {n : Int} {q : AV} {v : Int × Int} : ∀ {l : List AV}, v ∈ valI ps n q l ↔ ∃ p ∈ l, isCh ps n p q v
  | [] => by simp [valI]
  | p :: l => by simp only [valI, List.mem_append, mem_valP, mem_valI (l := l), List.mem_cons, exists_eq_or_imp]
theorem asc_lt {ps : List AV} (h : ascP ps) {p q : AV} (hp : p ∈ ps) (hq : q ∈ ps) (hlt : pC p < pC q) : ∃ i, ∃ hi : i < ps.length, ps[i] = q ∧ p ∈ ps.take i := by
  obtain ⟨j, hj, rfl⟩ := List.getElem_of_mem hp
  obtain ⟨i, hi, rfl⟩ := List.getElem_of_mem hq
  refine ⟨i, hi, rfl, List.mem_take_iff_getElem.2 ⟨j, ?_, rfl⟩⟩
  rcases Nat.lt_trichotomy j i with h1 | h1 | h1
  · omega
  · subst h1; omega
  · have := List.pairwise_iff_getElem.1 h.2 i j hi hj h1; omega
theorem mem_valO {ps : List AV} (ha : ascP ps) {n : Int} {v : Int × Int} : ∀ (t i : Nat), i + t = ps.length → (v ∈ valO ps n t i ↔ ∃ j, i ≤ j ∧ ∃ hj : j < ps.length, ∃ p ∈ ps.take j, isCh ps n p ps[j] v)
  | 0, i, hi => by
    simp only [valO, List.not_mem_nil, false_iff]
    rintro ⟨j, h1, h2, _⟩; omega
  | t + 1, i, hi => by
    have hlt : i < ps.length := by omega
    have e : ps.getD i (.int .i64 0) = ps[i] := by simp [hlt]
    rw [valO, e, List.mem_append, mem_valI, mem_valO ha t (i + 1) (by omega)]
    constructor
    · rintro (⟨p, hp, h⟩ | ⟨j, h1, h2, h3⟩)
      · exact ⟨i, Nat.le_refl _, hlt, p, hp, h⟩
      · exact ⟨j, by omega, h2, h3⟩
    · rintro ⟨j, h1, h2, h3⟩
      by_cases hj : j = i
      · subst hj; exact .inl h3
      · exact .inr ⟨j, by omega, h2, h3⟩
theorem mem_vals {ps : List AV} (ha : ascP ps) {n : Int} {v : Int × Int} : v ∈ valO ps n ps.length 0 ↔ ∃ p ∈ ps, ∃ q ∈ ps, pC p < pC q ∧ isCh ps n p q v := by
  rw [mem_valO ha _ _ (by omega)]
  constructor
  · rintro ⟨j, _, h2, p, hp, h⟩
    exact ⟨p, List.mem_of_mem_take hp, ps[j], by simp, (asc_take ha h2 p hp).2, h⟩
  · rintro ⟨p, hp, q, hq, hlt, h⟩
    obtain ⟨i, hi, rfl, hpi⟩ := asc_lt ha hp hq hlt
    exact ⟨i, by omega, hi, p, hpi, h⟩
def okR (r : R4) (x : AV) : Prop := ¬ cmpI (xN x) (xD x) r.1 r.2.1 < 0 ∧ ¬ 0 < cmpI (xN x) (xD x) r.2.2.1 r.2.2.2
instance (r : R4) (x : AV) : Decidable (okR r x) := by unfold okR; infer_instance
def valR (ps : List AV) (n : Int) (r : R4) : List AV → List (Int × Int)
  | [] => []
  | x :: l => (if okR r x then [(floorI (lhS (xN x) (xD x) n ps).1 (xD x), ceilI (lhS (xN x) (xD x) n ps).2 (xD x))] else []) ++ valR ps n r l
theorem runR_acc (ps : List AV) (n : Int) (r : R4) : ∀ (l : List AV) (s : T3), runR ps n r l s = (valR ps n r l).foldl accV s
  | [], s => rfl
  | x :: l, s => by
    rw [runR, runR_acc ps n r l, valR, List.foldl_append]
    congr 1
    unfold stpR
    by_cases h1 : cmpI (xN x) (xD x) r.1 r.2.1 < 0
    · rw [if_pos h1, if_neg (c := okR r x) (fun h => h.1 h1)]; rfl
    · by_cases h2 : 0 < cmpI (xN x) (xD x) r.2.2.1 r.2.2.2
      · rw [if_neg h1, if_pos h2, if_neg (c := okR r x) (fun h => h.2 h2)]; rfl
      · rw [if_neg h1, if_neg h2, if_pos (c := okR r x) ⟨h1, h2⟩]; rfl
theorem mem_valR {ps : List AV} {n : Int} {r : R4} {v : Int × Int} : ∀ {l : List AV}, v ∈ valR ps n r l ↔ ∃ x ∈ l, okR r x ∧ v = (floorI (lhS (xN x) (xD x) n ps).1 (xD x), ceilI (lhS (xN x) (xD x) n ps).2 (xD x))
  | [] => by simp [valR]
  | x :: l => by
    rw [valR, List.mem_append, mem_valR (l := l)]
    by_cases h : okR r x
    · rw [if_pos h]; simp [h]
    · rw [if_neg h]; simp [h]
theorem tmR_acc (ps : List AV) (n : Int) : tmR ps n = (valR ps n (rateP ps) (ratsR ps)).foldl accV (0, 0, false) := runR_acc ps n _ _ _
theorem mem_candI {q x : AV} : ∀ {l : List AV}, x ∈ candI q l ↔ ∃ p ∈ l, x = frA (lN (pL q - pL p) (pC q - pC p)) (lD (pL q - pL p) (pC q - pC p)) ∨ x = frA (lN (pH q - pH p) (pC q - pC p)) (lD (pH q - pH p) (pC q - pC p))
  | [] => by simp [candI]
  | p :: l => by
    simp only [candI, List.mem_cons, mem_candI (l := l), exists_eq_or_imp, or_assoc]
theorem mem_candO {ps : List AV} {x : AV} : ∀ (t i : Nat), i + t = ps.length → (x ∈ candO ps t i ↔ ∃ j, i ≤ j ∧ ∃ hj : j < ps.length, x ∈ candI ps[j] (ps.take j))
  | 0, i, hi => by
    simp only [candO, List.not_mem_nil, false_iff]
    rintro ⟨j, h1, h2, _⟩; omega
  | t + 1, i, hi => by
    have hlt : i < ps.length := by omega
    have e : ps.getD i (.int .i64 0) = ps[i] := by simp [hlt]
    rw [candO, e, List.mem_append, mem_candO t (i + 1) (by omega)]
    constructor
    · rintro (h | ⟨j, h1, h2, h3⟩)
      · exact ⟨i, Nat.le_refl _, hlt, h⟩
      · exact ⟨j, by omega, h2, h3⟩
    · rintro ⟨j, h1, h2, h3⟩
      by_cases hj : j = i
      · subst hj; exact .inl h3
      · exact .inr ⟨j, by omega, h2, h3⟩
end Go.Proofs.Ytjhdnpmojhkbjaa
