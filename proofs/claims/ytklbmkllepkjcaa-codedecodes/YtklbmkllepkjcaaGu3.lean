/- Paths of functions, printed by the explorer (Gx). No condition. -/
import Derived.Test.YtklbmkllepkjcaaGr
import Derived.KernelRfl
namespace Go.Proofs.Ytklbmkllepkjcaa
set_option maxRecDepth 100000
set_option linter.unusedVariables false
def ZIC(h:Int)(w e:List Int):AFrame:={ fn:=8,N:=148,env:=[(0,AV.int .i64 h),(1,AV.list (.ints .i64 w)),(2,AV.list (.ints .i64 e))],todo:=[.code a8.code],defs:=[],rnd:=none,ret:=false,res:=[ARes.tmp 6] }
def f8e(h:Int)(w e:List Int):List AFrame:=[(ZIC h w e)]
theorem ZEU(h:Int)(w e:List Int):Zau tab 8 [AV.int .i64 h,AV.list (.ints .i64 w),AV.list (.ints .i64 e)]=some (ZIC h w e):=rfl
def ZlB(h:Int)(w e:List Int)(n0 n1 n2 n3:Int):List AFrame:=[{ fn:=43,N:=62,env:=[(0,AV.int .i64 h),(1,AV.row 8040 0),(2,AV.row 8042 0),(9,AV.int .i64 n2),(30,AV.row 8042 0),(31,AV.int .i64 n0),(32,AV.int .i64 n3)],todo:=.code (ACode.gh [] Zy9)::ZCz,defs:=[],rnd:=none,ret:=false,res:=[ARes.tmp 6,ARes.tmp 7] },  { fn:=8,N:=148,env:=[(0,AV.int .i64 h),(1,AV.list (.ints .i64 w)),(2,AV.list (.ints .i64 e)),(7,AV.nils),(8,AV.int .i64 0),(9,AV.int .i64 n1),(37,AV.int .i64 h),(38,AV.list (.ints .i64 w)),(39,AV.row 8040 0),(40,AV.list (.ints .i64 e)),(41,AV.row 8042 0)],    todo:=      [AItem.inReg [oN 42 (OpK.icall 43 [Opd.t 37,Opd.t 39,Opd.t 41]),mV 36 42,oN 43 (OpK.ext 0 (Opd.t 36)),oN 44 (OpK.ext 1 (Opd.t 36)),mV 10 43,mV 11 44],        .code          (ACode.gh [Ghost.keep [0,1,2,7,8,9,10,11]]            (ACode.seq (ACode.reg none [mV 45 0,oN 46 (OpK.ncall true 0 23 [Opd.t 45]),mV 12 46])              (ACode.seq (ACode.seq (ACode.reg none [mV 47 12,oN 48 (OpK.bin Go.BinOp.eql (Opd.t 47) (cI 0))]) (ACode.cond (Opd.t 48) (ACode.reg none [mV 49 1,oN 50 (OpK.ncall true 0 24 [Opd.t 49]),mV 12 50]) ACode.skip))                (ACode.seq (ACode.seq (ACode.reg none [mV 51 12,oN 52 (OpK.bin Go.BinOp.neq (Opd.t 51) (cI 0))]) (ACode.cond (Opd.t 52) (ACode.seq (ACode.reg none [mV 53 9,mV 54 12,oN 55 (OpK.bin Go.BinOp.eql (Opd.t 53) (Opd.t 54)),mV 56 55,{ d:=some 57,g:=some (56,true),k:=OpK.mov (Opd.t 11) },{ d:=some 58,g:=some (56,true),k:=OpK.mov (Opd.t 12) },{ d:=some 59,g:=some (56,true),k:=OpK.bin Go.BinOp.eql (Opd.t 57) (Opd.t 58) },oN 60 (OpK.pick (Opd.t 56) (Opd.t 59) (Opd.c (AV.bool false))),mV 61 60,{ d:=some 62,g:=some (61,true),k:=OpK.mov (Opd.t 7) },{ d:=some 63,g:=some (61,true),k:=OpK.len (Opd.t 62) },{ d:=some 64,g:=some (61,true),k:=OpK.mov (Opd.t 10) },{ d:=some 65,g:=some (61,true),k:=OpK.len (Opd.t 64) },{ d:=some 66,g:=some (61,true),k:=OpK.bin Go.BinOp.add (Opd.t 63) (Opd.t 65) },{ d:=some 67,g:=some (61,true),k:=OpK.bin Go.BinOp.eql (Opd.t 66) (cI 0) },oN 68 (OpK.pick (Opd.t 61) (Opd.t 67) (Opd.c (AV.bool false))),mV 69 68,{ d:=some 70,g:=some (69,true),k:=OpK.mov (Opd.t 8) },{ d:=some 71,g:=some (69,true),k:=OpK.bin Go.BinOp.eql (Opd.t 70) (cI 0) },oN 72 (OpK.pick (Opd.t 69) (Opd.t 71) (Opd.c (AV.bool false))),mV 6 72]) (ACode.gh [Ghost.keep [6]] ACode.ret)) ACode.skip))                  (ACode.seq                    (ACode.seq (ACode.reg none [mV 74 0,mV 75 1,oN 76 (OpK.ncall true 8077 44 [Opd.t 74,Opd.t 75]),mV 73 76,oN 77 (OpK.ext 0 (Opd.t 73)),oN 78 (OpK.ext 1 (Opd.t 73)),oN 79 (OpK.ext 2 (Opd.t 73)),mV 13 77,mV 14 78,mV 15 79])                      (ACode.gh [Ghost.keep [0,1,2,7,8,9,10,11,13,14,15]]                        (ACode.seq                          (ACode.reg none                            (have y:=                              have y:=                                have y:=[{ d:=some 108,g:=some (107,false),k:=OpK.mov (Opd.t 8) },{ d:=some 109,g:=some (107,false),k:=OpK.bin Go.BinOp.neq (Opd.t 108) (cI 0) },{ d:=some 110,g:=some (99,true),k:=OpK.pick (Opd.t 107) (Opd.c (AV.bool true)) (Opd.t 109) },{ d:=some 111,g:=some (96,false),k:=OpK.pick (Opd.t 99) (Opd.t 110) (Opd.c (AV.bool false)) },oN 112 (OpK.pick (Opd.t 96) (Opd.c (AV.bool true)) (Opd.t 111))];                                { d:=some 104,g:=some (102,false),k:=OpK.len (Opd.t 103) } :: { d:=some 105,g:=some (102,false),k:=OpK.bin Go.BinOp.neq (Opd.t 104) (cI 0) } :: { d:=some 106,g:=some (99,true),k:=OpK.pick (Opd.t 102) (Opd.c (AV.bool true)) (Opd.t 105) } :: { d:=some 107,g:=some (99,true),k:=OpK.mov (Opd.t 106) } ::y;                              have y:={ d:=some 100,g:=some (99,true),k:=OpK.mov (Opd.t 9) } :: { d:=some 101,g:=some (99,true),k:=OpK.bin Go.BinOp.neq (Opd.t 100) (cI 27) } :: { d:=some 102,g:=some (99,true),k:=OpK.mov (Opd.t 101) } :: { d:=some 103,g:=some (102,false),k:=OpK.mov (Opd.t 7) } ::y;                              mV 96 95:: { d:=some 97,g:=some (96,false),k:=OpK.mov (Opd.t 15) } :: { d:=some 98,g:=some (96,false),k:=OpK.not (Opd.t 97) } :: { d:=some 99,g:=some (96,false),k:=OpK.mov (Opd.t 98) } ::y;                            have y:=                              have y:={ d:=some 92,g:=some (90,false),k:=OpK.mov (Opd.t 14) } :: { d:=some 93,g:=some (90,false),k:=OpK.bin Go.BinOp.neq (Opd.t 91) (Opd.t 92) } :: { d:=some 94,g:=some (81,true),k:=OpK.pick (Opd.t 90) (Opd.c (AV.bool true)) (Opd.t 93) } ::oN 95 (OpK.pick (Opd.t 81) (Opd.t 94) (Opd.c (AV.bool false)))::y;                              { d:=some 88,g:=some (84,false),k:=OpK.not (Opd.t 87) } :: { d:=some 89,g:=some (81,true),k:=OpK.pick (Opd.t 84) (Opd.c (AV.bool true)) (Opd.t 88) } :: { d:=some 90,g:=some (81,true),k:=OpK.mov (Opd.t 89) } :: { d:=some 91,g:=some (90,false),k:=OpK.mov (Opd.t 8) } ::y;                            have y:={ d:=some 84,g:=some (81,true),k:=OpK.mov (Opd.t 83) } :: { d:=some 85,g:=some (84,false),k:=OpK.mov (Opd.t 7) } :: { d:=some 86,g:=some (84,false),k:=OpK.mov (Opd.t 13) } :: { d:=some 87,g:=some (84,false),k:=OpK.ncall true 0 17 [Opd.t 85,Opd.t 86] } ::y;                            mV 80 15::mV 81 80:: { d:=some 82,g:=some (81,true),k:=OpK.mov (Opd.t 9) } :: { d:=some 83,g:=some (81,true),k:=OpK.bin Go.BinOp.neq (Opd.t 82) (cI 0) } ::y))                          (ACode.gh [Ghost.keep [0,1,2,10,11,112]] (ACode.cond (Opd.t 112) (ACode.seq (ACode.reg none [oN 6 (OpK.mov (Opd.c (AV.bool false)))]) ACode.ret) ACode.skip)))))                    (ACode.seq (ACode.seq (ACode.reg none [mV 113 0,mV 114 2,oN 115 (OpK.ncall true 0 45 [Opd.t 113,Opd.t 114]),mV 12 115]) (ACode.seq (ACode.reg none [mV 116 12,oN 117 (OpK.bin Go.BinOp.neq (Opd.t 116) (cI 0))]) (ACode.cond (Opd.t 117) (ACode.seq (ACode.reg none [mV 118 11,mV 119 12,oN 120 (OpK.bin Go.BinOp.eql (Opd.t 118) (Opd.t 119)),mV 121 120,{ d:=some 122,g:=some (121,true),k:=OpK.mov (Opd.t 10) },{ d:=some 123,g:=some (121,true),k:=OpK.len (Opd.t 122) },{ d:=some 124,g:=some (121,true),k:=OpK.bin Go.BinOp.eql (Opd.t 123) (cI 0) },oN 125 (OpK.pick (Opd.t 121) (Opd.t 124) (Opd.c (AV.bool false))),mV 6 125]) (ACode.gh [Ghost.keep [6]] ACode.ret)) ACode.skip))) (ACode.seq (ACode.seq (ACode.reg none [mV 127 0,mV 128 1,mV 129 2,oN 130 (OpK.ncall true 8131 46 [Opd.t 127,Opd.t 128,Opd.t 129]),mV 126 130,oN 131 (OpK.ext 0 (Opd.t 126)),oN 132 (OpK.ext 1 (Opd.t 126)),mV 16 131,mV 17 132]) (ACode.gh [Ghost.keep [10,11,16,17]] (ACode.seq (ACode.reg none [mV 133 17]) (ACode.cond (Opd.t 133) (ACode.seq (ACode.reg none [mV 134 11,oN 135 (OpK.bin Go.BinOp.eql (Opd.t 134) (cI 0)),mV 136 135,{ d:=some 137,g:=some (136,true),k:=OpK.mov (Opd.t 10) },{ d:=some 138,g:=some (136,true),k:=OpK.mov (Opd.t 16) },{ d:=some 139,g:=some (136,true),k:=OpK.ncall true 0 17 [Opd.t 137,Opd.t 138] },oN 140 (OpK.pick (Opd.t 136) (Opd.t 139) (Opd.c (AV.bool false))),mV 6 140]) (ACode.gh [Ghost.keep [6]] ACode.ret)) ACode.skip)))) (ACode.seq (ACode.reg none [mV 141 11,oN 142 (OpK.bin Go.BinOp.eql (Opd.t 141) (cI 27)),mV 143 142,{ d:=some 144,g:=some (143,true),k:=OpK.mov (Opd.t 10) },{ d:=some 145,g:=some (143,true),k:=OpK.len (Opd.t 144) },{ d:=some 146,g:=some (143,true),k:=OpK.bin Go.BinOp.eql (Opd.t 145) (cI 0) },oN 147 (OpK.pick (Opd.t 143) (Opd.t 146) (Opd.c (AV.bool false))),mV 6 147]) (ACode.gh [Ghost.keep [6]] ACode.ret)))))))))],    defs:=[],rnd:=none,ret:=false,res:=[ARes.tmp 6] }]
def Zh5(h:Int)(w e:List Int)(n0 n1 n2 n3:Int):Zaa:=[(8040,{ base:=0,blks:=[Blk.row 3 1 (.ints .i64 w)] }),(8042,{ base:=0,blks:=[Blk.row 3 1 (.ints .i64 e)] })]
abbrev Zik(h:Int)(w e:List Int)(n0 n1 n2 n3:Int):List AFrame×Zaa:=(ZlB h w e n0 n1 n2 n3,Zh5 h w e n0 n1 n2 n3)
def Zl0(h:Int)(w e:List Int)(n4 n5:Int)(l6:List Int)(n7 n8:Int):List AFrame:=[{ fn:=43,N:=62,env:=[(0,AV.int .i64 h),(1,AV.row 8040 0),(2,AV.row 8042 0),(9,AV.int .i64 n7),(30,AV.row 8042 0),(31,AV.int .i64 n4),(32,AV.int .i64 n8)],todo:=.code (ACode.gh [] Zy9)::ZCz,defs:=[],rnd:=none,ret:=false,res:=[ARes.tmp 6,ARes.tmp 7] },  { fn:=8,N:=148,env:=[(0,AV.int .i64 h),(1,AV.list (.ints .i64 w)),(2,AV.list (.ints .i64 e)),(7,AV.aslc 42009 0 0 0 15),(8,AV.int .i64 n5),(9,AV.int .i64 0),(37,AV.int .i64 h),(38,AV.list (.ints .i64 w)),(39,AV.row 8040 0),(40,AV.list (.ints .i64 e)),(41,AV.row 8042 0)],    todo:=      [AItem.inReg [oN 42 (OpK.icall 43 [Opd.t 37,Opd.t 39,Opd.t 41]),mV 36 42,oN 43 (OpK.ext 0 (Opd.t 36)),oN 44 (OpK.ext 1 (Opd.t 36)),mV 10 43,mV 11 44],        .code          (ACode.gh [Ghost.keep [0,1,2,7,8,9,10,11]]            (ACode.seq (ACode.reg none [mV 45 0,oN 46 (OpK.ncall true 0 23 [Opd.t 45]),mV 12 46])              (ACode.seq (ACode.seq (ACode.reg none [mV 47 12,oN 48 (OpK.bin Go.BinOp.eql (Opd.t 47) (cI 0))]) (ACode.cond (Opd.t 48) (ACode.reg none [mV 49 1,oN 50 (OpK.ncall true 0 24 [Opd.t 49]),mV 12 50]) ACode.skip))                (ACode.seq (ACode.seq (ACode.reg none [mV 51 12,oN 52 (OpK.bin Go.BinOp.neq (Opd.t 51) (cI 0))]) (ACode.cond (Opd.t 52) (ACode.seq (ACode.reg none [mV 53 9,mV 54 12,oN 55 (OpK.bin Go.BinOp.eql (Opd.t 53) (Opd.t 54)),mV 56 55,{ d:=some 57,g:=some (56,true),k:=OpK.mov (Opd.t 11) },{ d:=some 58,g:=some (56,true),k:=OpK.mov (Opd.t 12) },{ d:=some 59,g:=some (56,true),k:=OpK.bin Go.BinOp.eql (Opd.t 57) (Opd.t 58) },oN 60 (OpK.pick (Opd.t 56) (Opd.t 59) (Opd.c (AV.bool false))),mV 61 60,{ d:=some 62,g:=some (61,true),k:=OpK.mov (Opd.t 7) },{ d:=some 63,g:=some (61,true),k:=OpK.len (Opd.t 62) },{ d:=some 64,g:=some (61,true),k:=OpK.mov (Opd.t 10) },{ d:=some 65,g:=some (61,true),k:=OpK.len (Opd.t 64) },{ d:=some 66,g:=some (61,true),k:=OpK.bin Go.BinOp.add (Opd.t 63) (Opd.t 65) },{ d:=some 67,g:=some (61,true),k:=OpK.bin Go.BinOp.eql (Opd.t 66) (cI 0) },oN 68 (OpK.pick (Opd.t 61) (Opd.t 67) (Opd.c (AV.bool false))),mV 69 68,{ d:=some 70,g:=some (69,true),k:=OpK.mov (Opd.t 8) },{ d:=some 71,g:=some (69,true),k:=OpK.bin Go.BinOp.eql (Opd.t 70) (cI 0) },oN 72 (OpK.pick (Opd.t 69) (Opd.t 71) (Opd.c (AV.bool false))),mV 6 72]) (ACode.gh [Ghost.keep [6]] ACode.ret)) ACode.skip))                  (ACode.seq                    (ACode.seq (ACode.reg none [mV 74 0,mV 75 1,oN 76 (OpK.ncall true 8077 44 [Opd.t 74,Opd.t 75]),mV 73 76,oN 77 (OpK.ext 0 (Opd.t 73)),oN 78 (OpK.ext 1 (Opd.t 73)),oN 79 (OpK.ext 2 (Opd.t 73)),mV 13 77,mV 14 78,mV 15 79])                      (ACode.gh [Ghost.keep [0,1,2,7,8,9,10,11,13,14,15]]                        (ACode.seq                          (ACode.reg none                            (have y:=                              have y:=                                have y:=[{ d:=some 108,g:=some (107,false),k:=OpK.mov (Opd.t 8) },{ d:=some 109,g:=some (107,false),k:=OpK.bin Go.BinOp.neq (Opd.t 108) (cI 0) },{ d:=some 110,g:=some (99,true),k:=OpK.pick (Opd.t 107) (Opd.c (AV.bool true)) (Opd.t 109) },{ d:=some 111,g:=some (96,false),k:=OpK.pick (Opd.t 99) (Opd.t 110) (Opd.c (AV.bool false)) },oN 112 (OpK.pick (Opd.t 96) (Opd.c (AV.bool true)) (Opd.t 111))];                                { d:=some 104,g:=some (102,false),k:=OpK.len (Opd.t 103) } :: { d:=some 105,g:=some (102,false),k:=OpK.bin Go.BinOp.neq (Opd.t 104) (cI 0) } :: { d:=some 106,g:=some (99,true),k:=OpK.pick (Opd.t 102) (Opd.c (AV.bool true)) (Opd.t 105) } :: { d:=some 107,g:=some (99,true),k:=OpK.mov (Opd.t 106) } ::y;                              have y:={ d:=some 100,g:=some (99,true),k:=OpK.mov (Opd.t 9) } :: { d:=some 101,g:=some (99,true),k:=OpK.bin Go.BinOp.neq (Opd.t 100) (cI 27) } :: { d:=some 102,g:=some (99,true),k:=OpK.mov (Opd.t 101) } :: { d:=some 103,g:=some (102,false),k:=OpK.mov (Opd.t 7) } ::y;                              mV 96 95:: { d:=some 97,g:=some (96,false),k:=OpK.mov (Opd.t 15) } :: { d:=some 98,g:=some (96,false),k:=OpK.not (Opd.t 97) } :: { d:=some 99,g:=some (96,false),k:=OpK.mov (Opd.t 98) } ::y;                            have y:=                              have y:={ d:=some 92,g:=some (90,false),k:=OpK.mov (Opd.t 14) } :: { d:=some 93,g:=some (90,false),k:=OpK.bin Go.BinOp.neq (Opd.t 91) (Opd.t 92) } :: { d:=some 94,g:=some (81,true),k:=OpK.pick (Opd.t 90) (Opd.c (AV.bool true)) (Opd.t 93) } ::oN 95 (OpK.pick (Opd.t 81) (Opd.t 94) (Opd.c (AV.bool false)))::y;                              { d:=some 88,g:=some (84,false),k:=OpK.not (Opd.t 87) } :: { d:=some 89,g:=some (81,true),k:=OpK.pick (Opd.t 84) (Opd.c (AV.bool true)) (Opd.t 88) } :: { d:=some 90,g:=some (81,true),k:=OpK.mov (Opd.t 89) } :: { d:=some 91,g:=some (90,false),k:=OpK.mov (Opd.t 8) } ::y;                            have y:={ d:=some 84,g:=some (81,true),k:=OpK.mov (Opd.t 83) } :: { d:=some 85,g:=some (84,false),k:=OpK.mov (Opd.t 7) } :: { d:=some 86,g:=some (84,false),k:=OpK.mov (Opd.t 13) } :: { d:=some 87,g:=some (84,false),k:=OpK.ncall true 0 17 [Opd.t 85,Opd.t 86] } ::y;                            mV 80 15::mV 81 80:: { d:=some 82,g:=some (81,true),k:=OpK.mov (Opd.t 9) } :: { d:=some 83,g:=some (81,true),k:=OpK.bin Go.BinOp.neq (Opd.t 82) (cI 0) } ::y))                          (ACode.gh [Ghost.keep [0,1,2,10,11,112]] (ACode.cond (Opd.t 112) (ACode.seq (ACode.reg none [oN 6 (OpK.mov (Opd.c (AV.bool false)))]) ACode.ret) ACode.skip)))))                    (ACode.seq (ACode.seq (ACode.reg none [mV 113 0,mV 114 2,oN 115 (OpK.ncall true 0 45 [Opd.t 113,Opd.t 114]),mV 12 115]) (ACode.seq (ACode.reg none [mV 116 12,oN 117 (OpK.bin Go.BinOp.neq (Opd.t 116) (cI 0))]) (ACode.cond (Opd.t 117) (ACode.seq (ACode.reg none [mV 118 11,mV 119 12,oN 120 (OpK.bin Go.BinOp.eql (Opd.t 118) (Opd.t 119)),mV 121 120,{ d:=some 122,g:=some (121,true),k:=OpK.mov (Opd.t 10) },{ d:=some 123,g:=some (121,true),k:=OpK.len (Opd.t 122) },{ d:=some 124,g:=some (121,true),k:=OpK.bin Go.BinOp.eql (Opd.t 123) (cI 0) },oN 125 (OpK.pick (Opd.t 121) (Opd.t 124) (Opd.c (AV.bool false))),mV 6 125]) (ACode.gh [Ghost.keep [6]] ACode.ret)) ACode.skip))) (ACode.seq (ACode.seq (ACode.reg none [mV 127 0,mV 128 1,mV 129 2,oN 130 (OpK.ncall true 8131 46 [Opd.t 127,Opd.t 128,Opd.t 129]),mV 126 130,oN 131 (OpK.ext 0 (Opd.t 126)),oN 132 (OpK.ext 1 (Opd.t 126)),mV 16 131,mV 17 132]) (ACode.gh [Ghost.keep [10,11,16,17]] (ACode.seq (ACode.reg none [mV 133 17]) (ACode.cond (Opd.t 133) (ACode.seq (ACode.reg none [mV 134 11,oN 135 (OpK.bin Go.BinOp.eql (Opd.t 134) (cI 0)),mV 136 135,{ d:=some 137,g:=some (136,true),k:=OpK.mov (Opd.t 10) },{ d:=some 138,g:=some (136,true),k:=OpK.mov (Opd.t 16) },{ d:=some 139,g:=some (136,true),k:=OpK.ncall true 0 17 [Opd.t 137,Opd.t 138] },oN 140 (OpK.pick (Opd.t 136) (Opd.t 139) (Opd.c (AV.bool false))),mV 6 140]) (ACode.gh [Ghost.keep [6]] ACode.ret)) ACode.skip)))) (ACode.seq (ACode.reg none [mV 141 11,oN 142 (OpK.bin Go.BinOp.eql (Opd.t 141) (cI 27)),mV 143 142,{ d:=some 144,g:=some (143,true),k:=OpK.mov (Opd.t 10) },{ d:=some 145,g:=some (143,true),k:=OpK.len (Opd.t 144) },{ d:=some 146,g:=some (143,true),k:=OpK.bin Go.BinOp.eql (Opd.t 145) (cI 0) },oN 147 (OpK.pick (Opd.t 143) (Opd.t 146) (Opd.c (AV.bool false))),mV 6 147]) (ACode.gh [Ghost.keep [6]] ACode.ret)))))))))],    defs:=[],rnd:=none,ret:=false,res:=[ARes.tmp 6] }]
def ZiO(h:Int)(w e:List Int)(n4 n5:Int)(l6:List Int)(n7 n8:Int):Zaa:=[(8040,{ base:=0,blks:=[Blk.row 3 1 (.ints .i64 w)] }),(8042,{ base:=0,blks:=[Blk.row 3 1 (.ints .i64 e)] }),(42009,{ base:=0,blks:=[Blk.row 107 15 (Row.gen [.agg (.ints .i64 l6)])] })]
abbrev Zm1(h:Int)(w e:List Int)(n4 n5:Int)(l6:List Int)(n7 n8:Int):List AFrame×Zaa:=(Zl0 h w e n4 n5 l6 n7 n8,ZiO h w e n4 n5 l6 n7 n8)
def Zuc(h:Int)(w e:List Int)(n1:Int)(l9:List Int)(n10:Int)(l11:List Int)(n12:Int)(b13 b14 b15:Bool)(l16:List Int):List AFrame:=[{ fn:=17,N:=26,env:=[(0,AV.nils),(1,AV.list (.ints .i64 l9)),(5,AV.int .i64 0)],todo:=.code (ACode.gh [] Zwn)::ZxR,defs:=[],rnd:=none,ret:=false,res:=[ARes.tmp 4] },  { fn:=8,N:=148,env:=[(0,AV.int .i64 h),(1,AV.list (.ints .i64 w)),(2,AV.list (.ints .i64 e)),(7,AV.nils),(8,AV.int .i64 0),(9,AV.int .i64 n1),(10,AV.nils),(11,AV.int .i64 n10),(13,AV.list (.ints .i64 l11)),(14,AV.int .i64 n12),(15,AV.bool b13),(80,AV.bool b14),(81,AV.bool true),(82,AV.int .i64 n1),(83,AV.bool b15),(84,AV.bool false),(85,AV.nils),(86,AV.list (.ints .i64 l16))],    todo:=      [AItem.inReg          ({ d:=some 87,g:=some (84,false),k:=OpK.ncall true 0 17 [Opd.t 85,Opd.t 86] } ::            have y:=              { d:=some 92,g:=some (90,false),k:=OpK.mov (Opd.t 14) } ::                { d:=some 93,g:=some (90,false),k:=OpK.bin Go.BinOp.neq (Opd.t 91) (Opd.t 92) } ::                  { d:=some 94,g:=some (81,true),k:=OpK.pick (Opd.t 90) (Opd.c (AV.bool true)) (Opd.t 93) } ::                    oN 95 (OpK.pick (Opd.t 81) (Opd.t 94) (Opd.c (AV.bool false)))::                      have y:=                        have y:=[{ d:=some 108,g:=some (107,false),k:=OpK.mov (Opd.t 8) },{ d:=some 109,g:=some (107,false),k:=OpK.bin Go.BinOp.neq (Opd.t 108) (cI 0) },{ d:=some 110,g:=some (99,true),k:=OpK.pick (Opd.t 107) (Opd.c (AV.bool true)) (Opd.t 109) },{ d:=some 111,g:=some (96,false),k:=OpK.pick (Opd.t 99) (Opd.t 110) (Opd.c (AV.bool false)) },oN 112 (OpK.pick (Opd.t 96) (Opd.c (AV.bool true)) (Opd.t 111))];                        { d:=some 104,g:=some (102,false),k:=OpK.len (Opd.t 103) } :: { d:=some 105,g:=some (102,false),k:=OpK.bin Go.BinOp.neq (Opd.t 104) (cI 0) } :: { d:=some 106,g:=some (99,true),k:=OpK.pick (Opd.t 102) (Opd.c (AV.bool true)) (Opd.t 105) } :: { d:=some 107,g:=some (99,true),k:=OpK.mov (Opd.t 106) } ::y;                      have y:={ d:=some 100,g:=some (99,true),k:=OpK.mov (Opd.t 9) } :: { d:=some 101,g:=some (99,true),k:=OpK.bin Go.BinOp.neq (Opd.t 100) (cI 27) } :: { d:=some 102,g:=some (99,true),k:=OpK.mov (Opd.t 101) } :: { d:=some 103,g:=some (102,false),k:=OpK.mov (Opd.t 7) } ::y;                      mV 96 95:: { d:=some 97,g:=some (96,false),k:=OpK.mov (Opd.t 15) } :: { d:=some 98,g:=some (96,false),k:=OpK.not (Opd.t 97) } :: { d:=some 99,g:=some (96,false),k:=OpK.mov (Opd.t 98) } ::y;            { d:=some 88,g:=some (84,false),k:=OpK.not (Opd.t 87) } :: { d:=some 89,g:=some (81,true),k:=OpK.pick (Opd.t 84) (Opd.c (AV.bool true)) (Opd.t 88) } :: { d:=some 90,g:=some (81,true),k:=OpK.mov (Opd.t 89) } :: { d:=some 91,g:=some (90,false),k:=OpK.mov (Opd.t 8) } ::y),        .code (ACode.gh [Ghost.keep [0,1,2,10,11,112]] (ACode.cond (Opd.t 112) (ACode.seq (ACode.reg none [oN 6 (OpK.mov (Opd.c (AV.bool false)))]) ACode.ret) ACode.skip)), .code (ACode.seq (ACode.seq (ACode.reg none [mV 113 0,mV 114 2,oN 115 (OpK.ncall true 0 45 [Opd.t 113,Opd.t 114]),mV 12 115]) (ACode.seq (ACode.reg none [mV 116 12,oN 117 (OpK.bin Go.BinOp.neq (Opd.t 116) (cI 0))]) (ACode.cond (Opd.t 117) (ACode.seq (ACode.reg none [mV 118 11,mV 119 12,oN 120 (OpK.bin Go.BinOp.eql (Opd.t 118) (Opd.t 119)),mV 121 120,{ d:=some 122,g:=some (121,true),k:=OpK.mov (Opd.t 10) },{ d:=some 123,g:=some (121,true),k:=OpK.len (Opd.t 122) },{ d:=some 124,g:=some (121,true),k:=OpK.bin Go.BinOp.eql (Opd.t 123) (cI 0) },oN 125 (OpK.pick (Opd.t 121) (Opd.t 124) (Opd.c (AV.bool false))),mV 6 125]) (ACode.gh [Ghost.keep [6]] ACode.ret)) ACode.skip))) (ACode.seq (ACode.seq (ACode.reg none [mV 127 0,mV 128 1,mV 129 2,oN 130 (OpK.ncall true 8131 46 [Opd.t 127,Opd.t 128,Opd.t 129]),mV 126 130,oN 131 (OpK.ext 0 (Opd.t 126)),oN 132 (OpK.ext 1 (Opd.t 126)),mV 16 131,mV 17 132]) (ACode.gh [Ghost.keep [10,11,16,17]] (ACode.seq (ACode.reg none [mV 133 17]) (ACode.cond (Opd.t 133) (ACode.seq (ACode.reg none [mV 134 11,oN 135 (OpK.bin Go.BinOp.eql (Opd.t 134) (cI 0)),mV 136 135,{ d:=some 137,g:=some (136,true),k:=OpK.mov (Opd.t 10) },{ d:=some 138,g:=some (136,true),k:=OpK.mov (Opd.t 16) },{ d:=some 139,g:=some (136,true),k:=OpK.ncall true 0 17 [Opd.t 137,Opd.t 138] },oN 140 (OpK.pick (Opd.t 136) (Opd.t 139) (Opd.c (AV.bool false))),mV 6 140]) (ACode.gh [Ghost.keep [6]] ACode.ret)) ACode.skip)))) (ACode.seq (ACode.reg none [mV 141 11,oN 142 (OpK.bin Go.BinOp.eql (Opd.t 141) (cI 27)),mV 143 142,{ d:=some 144,g:=some (143,true),k:=OpK.mov (Opd.t 10) },{ d:=some 145,g:=some (143,true),k:=OpK.len (Opd.t 144) },{ d:=some 146,g:=some (143,true),k:=OpK.bin Go.BinOp.eql (Opd.t 145) (cI 0) },oN 147 (OpK.pick (Opd.t 143) (Opd.t 146) (Opd.c (AV.bool false))),mV 6 147]) (ACode.gh [Ghost.keep [6]] ACode.ret))))],    defs:=[],rnd:=none,ret:=false,res:=[ARes.tmp 6] }]
def ZrS(h:Int)(w e:List Int)(n1:Int)(l9:List Int)(n10:Int)(l11:List Int)(n12:Int)(b13 b14 b15:Bool)(l16:List Int):Zaa:=[]
abbrev ZmS(h:Int)(w e:List Int)(n1:Int)(l9:List Int)(n10:Int)(l11:List Int)(n12:Int)(b13 b14 b15:Bool)(l16:List Int):List AFrame×Zaa:=(Zuc h w e n1 l9 n10 l11 n12 b13 b14 b15 l16,ZrS h w e n1 l9 n10 l11 n12 b13 b14 b15 l16)
def ZvU(h:Int)(w e:List Int)(n1:Int)(l17 l18:List Int)(n19:Int)(b20 b21 b22:Bool)(l23 l24:List Int):List AFrame:=[{ fn:=17,N:=26,env:=[(0,AV.nils),(1,AV.list (.ints .i64 l17)),(5,AV.int .i64 0)],todo:=.code (ACode.gh [] Zwn)::ZxR,defs:=[],rnd:=none,ret:=false,res:=[ARes.tmp 4] },  { fn:=8,N:=148,env:=[(0,AV.int .i64 h),(1,AV.list (.ints .i64 w)),(2,AV.list (.ints .i64 e)),(7,AV.nils),(8,AV.int .i64 0),(9,AV.int .i64 n1),(10,AV.aslc 43014 0 0 0 15),(11,AV.int .i64 0),(13,AV.list (.ints .i64 l18)),(14,AV.int .i64 n19),(15,AV.bool b20),(80,AV.bool b21),(81,AV.bool true),(82,AV.int .i64 n1),(83,AV.bool b22),(84,AV.bool false),(85,AV.nils),(86,AV.list (.ints .i64 l23))],    todo:=      [AItem.inReg          ({ d:=some 87,g:=some (84,false),k:=OpK.ncall true 0 17 [Opd.t 85,Opd.t 86] } ::            have y:=              { d:=some 92,g:=some (90,false),k:=OpK.mov (Opd.t 14) } ::                { d:=some 93,g:=some (90,false),k:=OpK.bin Go.BinOp.neq (Opd.t 91) (Opd.t 92) } ::                  { d:=some 94,g:=some (81,true),k:=OpK.pick (Opd.t 90) (Opd.c (AV.bool true)) (Opd.t 93) } ::                    oN 95 (OpK.pick (Opd.t 81) (Opd.t 94) (Opd.c (AV.bool false)))::                      have y:=                        have y:=[{ d:=some 108,g:=some (107,false),k:=OpK.mov (Opd.t 8) },{ d:=some 109,g:=some (107,false),k:=OpK.bin Go.BinOp.neq (Opd.t 108) (cI 0) },{ d:=some 110,g:=some (99,true),k:=OpK.pick (Opd.t 107) (Opd.c (AV.bool true)) (Opd.t 109) },{ d:=some 111,g:=some (96,false),k:=OpK.pick (Opd.t 99) (Opd.t 110) (Opd.c (AV.bool false)) },oN 112 (OpK.pick (Opd.t 96) (Opd.c (AV.bool true)) (Opd.t 111))];                        { d:=some 104,g:=some (102,false),k:=OpK.len (Opd.t 103) } :: { d:=some 105,g:=some (102,false),k:=OpK.bin Go.BinOp.neq (Opd.t 104) (cI 0) } :: { d:=some 106,g:=some (99,true),k:=OpK.pick (Opd.t 102) (Opd.c (AV.bool true)) (Opd.t 105) } :: { d:=some 107,g:=some (99,true),k:=OpK.mov (Opd.t 106) } ::y;                      have y:={ d:=some 100,g:=some (99,true),k:=OpK.mov (Opd.t 9) } :: { d:=some 101,g:=some (99,true),k:=OpK.bin Go.BinOp.neq (Opd.t 100) (cI 27) } :: { d:=some 102,g:=some (99,true),k:=OpK.mov (Opd.t 101) } :: { d:=some 103,g:=some (102,false),k:=OpK.mov (Opd.t 7) } ::y;                      mV 96 95:: { d:=some 97,g:=some (96,false),k:=OpK.mov (Opd.t 15) } :: { d:=some 98,g:=some (96,false),k:=OpK.not (Opd.t 97) } :: { d:=some 99,g:=some (96,false),k:=OpK.mov (Opd.t 98) } ::y;            { d:=some 88,g:=some (84,false),k:=OpK.not (Opd.t 87) } :: { d:=some 89,g:=some (81,true),k:=OpK.pick (Opd.t 84) (Opd.c (AV.bool true)) (Opd.t 88) } :: { d:=some 90,g:=some (81,true),k:=OpK.mov (Opd.t 89) } :: { d:=some 91,g:=some (90,false),k:=OpK.mov (Opd.t 8) } ::y),        .code (ACode.gh [Ghost.keep [0,1,2,10,11,112]] (ACode.cond (Opd.t 112) (ACode.seq (ACode.reg none [oN 6 (OpK.mov (Opd.c (AV.bool false)))]) ACode.ret) ACode.skip)), .code (ACode.seq (ACode.seq (ACode.reg none [mV 113 0,mV 114 2,oN 115 (OpK.ncall true 0 45 [Opd.t 113,Opd.t 114]),mV 12 115]) (ACode.seq (ACode.reg none [mV 116 12,oN 117 (OpK.bin Go.BinOp.neq (Opd.t 116) (cI 0))]) (ACode.cond (Opd.t 117) (ACode.seq (ACode.reg none [mV 118 11,mV 119 12,oN 120 (OpK.bin Go.BinOp.eql (Opd.t 118) (Opd.t 119)),mV 121 120,{ d:=some 122,g:=some (121,true),k:=OpK.mov (Opd.t 10) },{ d:=some 123,g:=some (121,true),k:=OpK.len (Opd.t 122) },{ d:=some 124,g:=some (121,true),k:=OpK.bin Go.BinOp.eql (Opd.t 123) (cI 0) },oN 125 (OpK.pick (Opd.t 121) (Opd.t 124) (Opd.c (AV.bool false))),mV 6 125]) (ACode.gh [Ghost.keep [6]] ACode.ret)) ACode.skip))) (ACode.seq (ACode.seq (ACode.reg none [mV 127 0,mV 128 1,mV 129 2,oN 130 (OpK.ncall true 8131 46 [Opd.t 127,Opd.t 128,Opd.t 129]),mV 126 130,oN 131 (OpK.ext 0 (Opd.t 126)),oN 132 (OpK.ext 1 (Opd.t 126)),mV 16 131,mV 17 132]) (ACode.gh [Ghost.keep [10,11,16,17]] (ACode.seq (ACode.reg none [mV 133 17]) (ACode.cond (Opd.t 133) (ACode.seq (ACode.reg none [mV 134 11,oN 135 (OpK.bin Go.BinOp.eql (Opd.t 134) (cI 0)),mV 136 135,{ d:=some 137,g:=some (136,true),k:=OpK.mov (Opd.t 10) },{ d:=some 138,g:=some (136,true),k:=OpK.mov (Opd.t 16) },{ d:=some 139,g:=some (136,true),k:=OpK.ncall true 0 17 [Opd.t 137,Opd.t 138] },oN 140 (OpK.pick (Opd.t 136) (Opd.t 139) (Opd.c (AV.bool false))),mV 6 140]) (ACode.gh [Ghost.keep [6]] ACode.ret)) ACode.skip)))) (ACode.seq (ACode.reg none [mV 141 11,oN 142 (OpK.bin Go.BinOp.eql (Opd.t 141) (cI 27)),mV 143 142,{ d:=some 144,g:=some (143,true),k:=OpK.mov (Opd.t 10) },{ d:=some 145,g:=some (143,true),k:=OpK.len (Opd.t 144) },{ d:=some 146,g:=some (143,true),k:=OpK.bin Go.BinOp.eql (Opd.t 145) (cI 0) },oN 147 (OpK.pick (Opd.t 143) (Opd.t 146) (Opd.c (AV.bool false))),mV 6 147]) (ACode.gh [Ghost.keep [6]] ACode.ret))))],    defs:=[],rnd:=none,ret:=false,res:=[ARes.tmp 6] }]
def ZrH(h:Int)(w e:List Int)(n1:Int)(l17 l18:List Int)(n19:Int)(b20 b21 b22:Bool)(l23 l24:List Int):Zaa:=[(43014,{ base:=0,blks:=[Blk.row 107 15 (Row.gen [.agg (.ints .i64 l24)])] })]
abbrev Ztq(h:Int)(w e:List Int)(n1:Int)(l17 l18:List Int)(n19:Int)(b20 b21 b22:Bool)(l23 l24:List Int):List AFrame×Zaa:=(ZvU h w e n1 l17 l18 n19 b20 b21 b22 l23 l24,ZrH h w e n1 l17 l18 n19 b20 b21 b22 l23 l24)
def ZvM(A:Ar)(K:KT)(F:FT)(h:Int)(w e:List Int):Prop:=rB [!A.not true] (bB (A.lt 20 (A.int (A.len w))) (F (AV.bool true) (none)) (bB (A.lt 10 (A.int (A.len e))) (F (AV.bool true) (none)) (rB [decide (List.length [hfE h,elE w 15]≤1000000),List.all [AV.int .i64 (hfE h),AV.int .i64 (elE w 15)] fun x=>AV.bx x&&Nat.beq (Zag A x) 1,decide (List.length w≤1000000),decide (List.length w≤1000000)] (bB (A.not (A.eq (Zak [hfE h,elE w 15]) 0)) (rB [decide (List.length [hfE h,elE w 15,Zaf (A.le (A.int (A.len e)) (Go.IntKind.wrap .i64 (A.mul 2 h))) 8]≤1000000),List.all [AV.int .i64 (hfE h),AV.int .i64 (elE w 15),AV.int .i64 (Zaf (A.le (A.int (A.len e)) (Go.IntKind.wrap .i64 (A.mul 2 h))) 8)] fun x=>AV.bx x&&Nat.beq (Zag A x) 1,decide (List.length w≤1000000),decide (List.length e≤1000000),decide (List.length w≤1000000)] (bB (A.not (A.eq (Zak [hfE h,elE w 15,Zaf (A.le (A.int (A.len e)) (Go.IntKind.wrap .i64 (A.mul 2 h))) 8]) 0)) (bB (A.eq (hfE h) 0) (bB (A.not (A.eq (elE w 15) 0)) (bB (A.eq (Zak [hfE h,elE w 15]) (elE w 15)) (bB (A.eq (Zak [hfE h,elE w 15,Zaf (A.le (A.int (A.len e)) (Go.IntKind.wrap .i64 (A.mul 2 h))) 8]) (elE w 15)) (rB [A.inR .i64 (A.add (A.int 0) (A.int 0))] (rB [A.eq (A.add (A.int 0) (A.int 0)) 0] (F (AV.bool (A.eq 0 0)) (none)))) (False)) (False)) (rB [decide (hfB h=true∧okw w=true)] (bB (Option.isSome (rdO h w)) (rB [A.not (A.eq (Zak [hfE h,elE w 15]) 0)] (False)) (rB [A.not (Option.isSome (rdO h w))] (bB (A.not (A.eq (Zak [hfE h,elE w 15]) 27)) (False) (rB [!A.not (A.eq (A.int 0) 0)] (rB [!A.not (A.eq 0 0)] (rB [decide (hfB h=true)] (bB (A.not (A.eq (erE h e) 0)) (bB (A.eq (Zak [hfE h,elE w 15,Zaf (A.le (A.int (A.len e)) (Go.IntKind.wrap .i64 (A.mul 2 h))) 8]) (erE h e)) (F (AV.bool (A.eq (A.int 0) 0)) (none)) (False)) (rB [decide (fiG w h e=true)] (bB (isW h (fiW h w e)) (rB [!A.eq (Zak [hfE h,elE w 15,Zaf (A.le (A.int (A.len e)) (Go.IntKind.wrap .i64 (A.mul 2 h))) 8]) 0] (False)) (bB (A.eq (Zak [hfE h,elE w 15,Zaf (A.le (A.int (A.len e)) (Go.IntKind.wrap .i64 (A.mul 2 h))) 8]) 27) (F (AV.bool (A.eq (A.int 0) 0)) (none)) (False))))))))))))) (rB [A.not (A.eq (hfE h) 0)] (bB (A.eq (Zak [hfE h,elE w 15]) (hfE h)) (bB (A.eq (Zak [hfE h,elE w 15,Zaf (A.le (A.int (A.len e)) (Go.IntKind.wrap .i64 (A.mul 2 h))) 8]) (hfE h)) (rB [A.inR .i64 (A.add (A.int 0) (A.int 0))] (rB [A.eq (A.add (A.int 0) (A.int 0)) 0] (F (AV.bool (A.eq 0 0)) (none)))) (False)) (False)))) (K (Zik (h) (w) (e) (A.int (A.len e)) (Zak [hfE h,elE w 15]) (-1) (0))))) (rB [Nat.beq (A.len (deV h (A.sub3 w 0 15))) 15,Nat.blt 0 (A.len [0,0,0,0,0,0,0,0,0,0,0,0,0,0,0]),decide (okw (A.sub3 w 0 15)=true∧hfB h=true),Zad (Nat.ble 15 (A.len w)) true,Nat.ble 15 (A.len w)] (bB (A.not (Option.isSome (deO h (A.sub3 w 0 15)))) (rB [decide (List.length [hfE h,elE w 15,Zaf (A.le (A.int (A.len e)) (Go.IntKind.wrap .i64 (A.mul 2 h))) 8]≤1000000),List.all [AV.int .i64 (hfE h),AV.int .i64 (elE w 15),AV.int .i64 (Zaf (A.le (A.int (A.len e)) (Go.IntKind.wrap .i64 (A.mul 2 h))) 8)] fun x=>AV.bx x&&Nat.beq (Zag A x) 1,decide (List.length w≤1000000),decide (List.length e≤1000000),decide (List.length w≤1000000)] (bB (A.not (A.eq (Zak [hfE h,elE w 15,Zaf (A.le (A.int (A.len e)) (Go.IntKind.wrap .i64 (A.mul 2 h))) 8]) 0)) (bB (A.eq (hfE h) 0) (bB (A.not (A.eq (elE w 15) 0)) (bB (A.eq 27 (elE w 15)) (bB (A.eq (Zak [hfE h,elE w 15,Zaf (A.le (A.int (A.len e)) (Go.IntKind.wrap .i64 (A.mul 2 h))) 8]) (elE w 15)) (rB [A.inR .i64 (A.add (A.int 0) (A.int 0))] (rB [A.eq (A.add (A.int 0) (A.int 0)) 0] (F (AV.bool (A.eq 0 0)) (none)))) (False)) (False)) (rB [decide (hfB h=true∧okw w=true)] (bB (Option.isSome (rdO h w)) (rB [A.not (A.eq 27 0)] (False)) (rB [A.not (Option.isSome (rdO h w))] (rB [!A.not (A.eq 27 27)] (rB [!A.not (A.eq (A.int 0) 0)] (rB [!A.not (A.eq 0 0)] (rB [decide (hfB h=true)] (bB (A.not (A.eq (erE h e) 0)) (bB (A.eq (Zak [hfE h,elE w 15,Zaf (A.le (A.int (A.len e)) (Go.IntKind.wrap .i64 (A.mul 2 h))) 8]) (erE h e)) (F (AV.bool (A.eq (A.int 0) 0)) (none)) (False)) (rB [decide (fiG w h e=true)] (bB (isW h (fiW h w e)) (rB [!A.eq (Zak [hfE h,elE w 15,Zaf (A.le (A.int (A.len e)) (Go.IntKind.wrap .i64 (A.mul 2 h))) 8]) 0] (False)) (bB (A.eq (Zak [hfE h,elE w 15,Zaf (A.le (A.int (A.len e)) (Go.IntKind.wrap .i64 (A.mul 2 h))) 8]) 27) (F (AV.bool (A.eq (A.int 0) 0)) (none)) (False))))))))))))) (rB [A.not (A.eq (hfE h) 0)] (bB (A.eq 27 (hfE h)) (bB (A.eq (Zak [hfE h,elE w 15,Zaf (A.le (A.int (A.len e)) (Go.IntKind.wrap .i64 (A.mul 2 h))) 8]) (hfE h)) (rB [A.inR .i64 (A.add (A.int 0) (A.int 0))] (rB [A.eq (A.add (A.int 0) (A.int 0)) 0] (F (AV.bool (A.eq 0 0)) (none)))) (False)) (False)))) (K (Zik (h) (w) (e) (A.int (A.len e)) (27) (-1) (0))))) (rB [decide (List.length [hfE h,elE w 15,Zaf (A.le (A.int (A.len e)) (Go.IntKind.wrap .i64 (A.mul 2 h))) 8]≤1000000),List.all [AV.int .i64 (hfE h),AV.int .i64 (elE w 15),AV.int .i64 (Zaf (A.le (A.int (A.len e)) (Go.IntKind.wrap .i64 (A.mul 2 h))) 8)] fun x=>AV.bx x&&Nat.beq (Zag A x) 1,decide (List.length w≤1000000),decide (List.length e≤1000000),decide (List.length w≤1000000)] (bB (A.not (A.eq (Zak [hfE h,elE w 15,Zaf (A.le (A.int (A.len e)) (Go.IntKind.wrap .i64 (A.mul 2 h))) 8]) 0)) (bB (A.eq (hfE h) 0) (bB (A.not (A.eq (elE w 15) 0)) (bB (A.eq 0 (elE w 15)) (bB (A.eq (Zak [hfE h,elE w 15,Zaf (A.le (A.int (A.len e)) (Go.IntKind.wrap .i64 (A.mul 2 h))) 8]) (elE w 15)) (rB [Zad (Nat.ble 15 (A.len (deV h (A.sub3 w 0 15)))) true] (rB [A.inR .i64 (A.add (A.int (A.len (A.sub3 (deV h (A.sub3 w 0 15)) 0 15))) (A.int 0))] (bB (A.eq (A.add (A.int (A.len (A.sub3 (deV h (A.sub3 w 0 15)) 0 15))) (A.int 0)) 0) (F (AV.bool (A.eq (deN h (A.sub3 w 0 15)) 0)) (none)) (False)))) (False)) (False)) (rB [decide (hfB h=true∧okw w=true)] (bB (Option.isSome (rdO h w)) (rB [!A.not (A.eq 0 0)] (rB [Zad (Zad (Zad (Nat.ble 15 (A.len (deV h (A.sub3 w 0 15)))) true) true) (decide (List.length (A.sub3 (deV h (A.sub3 w 0 15)) 0 15)≤1000000))] (bB (A.not (decide (A.sub3 (deV h (A.sub3 w 0 15)) 0 15=rdV h w))) (False) (bB (A.not (A.eq (deN h (A.sub3 w 0 15)) (rdN h w))) (False) (rB [!A.not (Option.isSome (rdO h w))] (rB [decide (hfB h=true)] (bB (A.not (A.eq (erE h e) 0)) (bB (A.eq (Zak [hfE h,elE w 15,Zaf (A.le (A.int (A.len e)) (Go.IntKind.wrap .i64 (A.mul 2 h))) 8]) (erE h e)) (F (AV.bool (A.eq (A.int 0) 0)) (none)) (False)) (rB [decide (fiG w h e=true)] (bB (isW h (fiW h w e)) (rB [!A.eq (Zak [hfE h,elE w 15,Zaf (A.le (A.int (A.len e)) (Go.IntKind.wrap .i64 (A.mul 2 h))) 8]) 0] (False)) (bB (A.eq (Zak [hfE h,elE w 15,Zaf (A.le (A.int (A.len e)) (Go.IntKind.wrap .i64 (A.mul 2 h))) 8]) 27) (F (AV.bool (A.eq (A.int 0) 0)) (none)) (False))))))))))) (rB [A.not (Option.isSome (rdO h w))] (rB [A.not (A.eq 0 27)] (False)))))) (rB [A.not (A.eq (hfE h) 0)] (bB (A.eq 0 (hfE h)) (bB (A.eq (Zak [hfE h,elE w 15,Zaf (A.le (A.int (A.len e)) (Go.IntKind.wrap .i64 (A.mul 2 h))) 8]) (hfE h)) (rB [Zad (Nat.ble 15 (A.len (deV h (A.sub3 w 0 15)))) true] (rB [A.inR .i64 (A.add (A.int (A.len (A.sub3 (deV h (A.sub3 w 0 15)) 0 15))) (A.int 0))] (bB (A.eq (A.add (A.int (A.len (A.sub3 (deV h (A.sub3 w 0 15)) 0 15))) (A.int 0)) 0) (F (AV.bool (A.eq (deN h (A.sub3 w 0 15)) 0)) (none)) (False)))) (False)) (False)))) (K (Zm1 (h) (w) (e) (A.int (A.len e)) (deN h (A.sub3 w 0 15)) (deV h (A.sub3 w 0 15)) (-1) (0)))))))))))
theorem ZJs{A:Ar}{K:KT}{F:FT}{M:MT}{h:Int}{w e:List Int} :Zal A tab Km 8 K F M (.run 10 (.fy (.run 8 (.tf (.ty (.ty (.ty (.run 2 (.ty (.run 5 (.fn))))))) (.fy (.fy (.fy (.run 2 (.tf (.run 5 (.fn)) (.run 30 (.tf (.run 54 (.tf (.run 27 (.tf (.run 11 (.tf (.run 6 (.tf (.ty (.ty (.ty (.run 1 (.tf (.ty (.ty (.ty (.ty (.ty (.ty (.run 1 (.ty (.ty (.ty (.run 4 (.fn)))))))))))) (.fy (.fy (.fy (.fy (.fy (.fy (.run 1 (.fy (.fy (.fy (.run 4 (.no))))))))))))))))) (.fy (.fy (.fy (.run 1 (.fy (.fy (.fy (.fy (.fy (.fy (.fy (.run 1 (.fy (.fy (.fy (.run 4 (.no))))))))))))))))))) (.run 20 (.tf (.ty (.ty (.ty (.ty (.ty (.ty (.alt [true,true] (.ty (.ty (.ty (.ty (.alt [true,true] (.ty (.run 1 (.ty (.ty (.ty (.run 11 (.ty (.ty (.run 2 (.ty (.run 5 (.no)))))))))))) (.no)))))) (.no)))))))) (.fy (.fy (.run 4 (.fy (.fy (.run 3 (.fy (.fy (.run 1 (.fy (.fy (.fy (.ty (.ty (.ty (.tf (.ty (.ty (.alt [true,true] (.ty (.ty (.ty (.alt [true,true] (.alt [false,true] (.fy (.run 2 (.ty (.run 5 (.no))))) (.no)) (.no))))) (.no)))) (.fy (.fy (.alt [true,false] (.ty (.fy (.fy (.alt [true,false] (.alt [false,true] (.fy (.run 2 (.fy (.run 14 (.tf (.run 6 (.tf (.ty (.ty (.ty (.run 4 (.fn))))) (.fy (.fy (.fy (.run 4 (.no))))))) (.run 19 (.tf (.run 5 (.fy (.fy (.fy (.fy (.run 4 (.no))))))) (.run 6 (.tf (.ty (.ty (.ty (.run 4 (.fn))))) (.fy (.fy (.fy (.run 4 (.no)))))))))))))) (.no)) (.no))))) (.no)))))))))))))))))))))))) (.run 7 (.ty (.run 6 (.tf (.ty (.ty (.ty (.run 1 (.tf (.ty (.ty (.ty (.ty (.ty (.ty (.run 1 (.ty (.ty (.ty (.run 4 (.fn)))))))))))) (.fy (.fy (.fy (.fy (.fy (.fy (.run 1 (.fy (.fy (.fy (.run 4 (.no))))))))))))))))) (.fy (.fy (.fy (.run 1 (.fy (.fy (.fy (.fy (.fy (.fy (.fy (.run 1 (.fy (.fy (.fy (.run 4 (.no))))))))))))))))))))))) (.run 15 (.hd)))) (.run 24 (.tf (.run 53 (.tf (.run 27 (.tf (.run 11 (.tf (.run 6 (.tf (.ty (.ty (.ty (.run 1 (.tf (.ty (.ty (.ty (.ty (.ty (.ty (.run 1 (.ty (.ty (.ty (.run 4 (.fn)))))))))))) (.fy (.fy (.fy (.fy (.fy (.fy (.run 1 (.fy (.fy (.fy (.run 4 (.no))))))))))))))))) (.fy (.fy (.fy (.run 1 (.fy (.fy (.fy (.fy (.fy (.fy (.fy (.run 1 (.fy (.fy (.fy (.run 4 (.no))))))))))))))))))) (.run 20 (.tf (.ty (.ty (.ty (.ty (.ty (.ty (.alt [true,true] (.ty (.ty (.ty (.ty (.alt [true,true] (.ty (.run 1 (.ty (.ty (.ty (.run 11 (.ty (.ty (.run 2 (.ty (.run 5 (.no)))))))))))) (.no)))))) (.no)))))))) (.fy (.fy (.run 4 (.fy (.fy (.run 3 (.fy (.fy (.run 1 (.fy (.fy (.fy (.ty (.ty (.ty (.fy (.fy (.fy (.alt [true,false] (.ty (.fy (.fy (.alt [true,false] (.alt [false,true] (.fy (.run 2 (.fy (.run 14 (.tf (.run 6 (.tf (.ty (.ty (.ty (.run 4 (.fn))))) (.fy (.fy (.fy (.run 4 (.no))))))) (.run 19 (.tf (.run 5 (.fy (.fy (.fy (.fy (.run 4 (.no))))))) (.run 6 (.tf (.ty (.ty (.ty (.run 4 (.fn))))) (.fy (.fy (.fy (.run 4 (.no)))))))))))))) (.no)) (.no))))) (.no)))))))))))))))))))))))) (.run 7 (.ty (.run 6 (.tf (.ty (.ty (.ty (.run 1 (.tf (.ty (.ty (.ty (.ty (.ty (.ty (.run 1 (.ty (.ty (.ty (.run 4 (.fn)))))))))))) (.fy (.fy (.fy (.fy (.fy (.fy (.run 1 (.fy (.fy (.fy (.run 4 (.no))))))))))))))))) (.fy (.fy (.fy (.run 1 (.fy (.fy (.fy (.fy (.fy (.fy (.fy (.run 1 (.fy (.fy (.fy (.run 4 (.no))))))))))))))))))))))) (.run 15 (.hd)))) (.run 56 (.tf (.run 27 (.tf (.run 11 (.tf (.run 6 (.tf (.ty (.ty (.ty (.run 1 (.tf (.ty (.ty (.ty (.ty (.ty (.ty (.run 1 (.tf (.ty (.ty (.run 4 (.fn)))) (.fy (.fy (.run 4 (.no)))))))))))) (.fy (.fy (.fy (.fy (.fy (.fy (.run 1 (.fy (.fy (.fy (.run 4 (.no))))))))))))))))) (.fy (.fy (.fy (.run 1 (.fy (.fy (.fy (.fy (.fy (.fy (.fy (.run 1 (.fy (.fy (.fy (.run 4 (.no))))))))))))))))))) (.run 20 (.tf (.ty (.ty (.fy (.fy (.fy (.fy (.alt [true,false] (.ty (.tf (.ty (.ty (.alt [true,true] (.ty (.run 1 (.ty (.ty (.ty (.run 11 (.ty (.ty (.run 2 (.ty (.run 5 (.no)))))))))))) (.no)))) (.fy (.fy (.alt [true,false] (.ty (.run 1 (.tf (.ty (.ty (.run 11 (.ty (.ty (.run 2 (.ty (.run 5 (.no))))))))) (.fy (.fy (.fy (.fy (.fy (.run 3 (.fy (.fy (.run 2 (.fy (.alt [false,false] (.fy (.run 2 (.fy (.run 14 (.tf (.run 6 (.tf (.ty (.ty (.ty (.run 4 (.fn))))) (.fy (.fy (.fy (.run 4 (.no))))))) (.run 19 (.tf (.run 5 (.fy (.fy (.fy (.fy (.run 4 (.no))))))) (.run 6 (.tf (.ty (.ty (.ty (.run 4 (.fn))))) (.fy (.fy (.fy (.run 4 (.no)))))))))))))) (.no))))))))))))))) (.no)))))) (.no)))))))) (.fy (.fy (.run 4 (.fy (.fy (.run 3 (.fy (.fy (.run 1 (.fy (.fy (.fy (.ty (.ty (.ty (.ty (.ty (.ty (.alt [true,true] (.ty (.ty (.ty (.alt [true,true] (.alt [false,true] (.fy (.run 2 (.ty (.run 5 (.no))))) (.no)) (.no))))) (.no)))))))))))))))))))))))) (.run 7 (.ty (.run 6 (.tf (.ty (.ty (.ty (.run 1 (.tf (.ty (.ty (.ty (.ty (.ty (.ty (.run 1 (.tf (.ty (.ty (.run 4 (.fn)))) (.fy (.fy (.run 4 (.no)))))))))))) (.fy (.fy (.fy (.fy (.fy (.fy (.run 1 (.fy (.fy (.fy (.run 4 (.no))))))))))))))))) (.fy (.fy (.fy (.run 1 (.fy (.fy (.fy (.fy (.fy (.fy (.fy (.run 1 (.fy (.fy (.fy (.run 4 (.no))))))))))))))))))))))) (.run 15 (.hd))))))))))))))))) (f8e h w e) []=ZvM A K F h w e:=by kernel_rfl
def ZcW(A:Ar)(K:KT)(F:FT)(h:Int)(w e:List Int)(n0 n1 n2 n3:Int):Prop:=bB (A.lt n3 n0) (rB [decide (List.length [Zaf (Zao (A.nth e (A.nat n3)) 0 14) 6,Zaf (A.lt n2 (A.nth e (A.nat n3))) 9]≤1000000),List.all [AV.int .i64 (Zaf (Zao (A.nth e (A.nat n3)) 0 14) 6),AV.int .i64 (Zaf (A.lt n2 (A.nth e (A.nat n3))) 9)] fun x=>AV.bx x&&Nat.beq (Zag A x) 1,Zad (Nat.blt (A.nat n3) (A.len e)) true,Zad (A.le 0 n3) (Nat.blt (A.nat n3) (A.len e))] (bB (A.not (A.eq (Zak [Zaf (Zao (A.nth e (A.nat n3)) 0 14) 6,Zaf (A.lt n2 (A.nth e (A.nat n3))) 9]) 0)) (bB (A.eq (hfE h) 0) (bB (A.not (A.eq (elE w 15) 0)) (bB (A.eq n1 (elE w 15)) (bB (A.eq (Zak [Zaf (Zao (A.nth e (A.nat n3)) 0 14) 6,Zaf (A.lt n2 (A.nth e (A.nat n3))) 9]) (elE w 15)) (rB [A.inR .i64 (A.add (A.int 0) (A.int 0))] (rB [A.eq (A.add (A.int 0) (A.int 0)) 0] (F (AV.bool (A.eq 0 0)) (none)))) (False)) (False)) (rB [decide (hfB h=true∧okw w=true)] (bB (Option.isSome (rdO h w)) (bB (A.not (A.eq n1 0)) (False) (bB (A.not (A.eq (A.int 0) (A.int (A.len (rdV h w))))) (rB [A.not false] (False)) (K (ZmS (h) (w) (e) (n1) (rdV h w) (Zak [Zaf (Zao (A.nth e (A.nat n3)) 0 14) 6,Zaf (A.lt n2 (A.nth e (A.nat n3))) 9]) (rdV h w) (rdN h w) (Option.isSome (rdO h w)) (Option.isSome (rdO h w)) (A.not (A.eq n1 0)) (rdV h w))))) (rB [A.not (Option.isSome (rdO h w))] (bB (A.not (A.eq n1 27)) (False) (rB [!A.not (A.eq (A.int 0) 0)] (rB [!A.not (A.eq 0 0)] (rB [decide (hfB h=true)] (bB (A.not (A.eq (erE h e) 0)) (bB (A.eq (Zak [Zaf (Zao (A.nth e (A.nat n3)) 0 14) 6,Zaf (A.lt n2 (A.nth e (A.nat n3))) 9]) (erE h e)) (F (AV.bool (A.eq (A.int 0) 0)) (none)) (False)) (rB [decide (fiG w h e=true)] (bB (isW h (fiW h w e)) (rB [!A.eq (Zak [Zaf (Zao (A.nth e (A.nat n3)) 0 14) 6,Zaf (A.lt n2 (A.nth e (A.nat n3))) 9]) 0] (False)) (bB (A.eq (Zak [Zaf (Zao (A.nth e (A.nat n3)) 0 14) 6,Zaf (A.lt n2 (A.nth e (A.nat n3))) 9]) 27) (F (AV.bool (A.eq (A.int 0) 0)) (none)) (False))))))))))))) (rB [A.not (A.eq (hfE h) 0)] (bB (A.eq n1 (hfE h)) (bB (A.eq (Zak [Zaf (Zao (A.nth e (A.nat n3)) 0 14) 6,Zaf (A.lt n2 (A.nth e (A.nat n3))) 9]) (hfE h)) (rB [A.inR .i64 (A.add (A.int 0) (A.int 0))] (rB [A.eq (A.add (A.int 0) (A.int 0)) 0] (F (AV.bool (A.eq 0 0)) (none)))) (False)) (False)))) (rB [A.inR .i64 (A.add n3 1)] (K (Zik (h) (w) (e) (n0) (n1) (A.nth e (A.nat n3)) (A.add n3 1)))))) (rB [Nat.beq (A.len (fiV h (A.sub3 w 0 15) e)) 15,Nat.blt 0 (A.len [0,0,0,0,0,0,0,0,0,0,0,0,0,0,0]),decide (fiG (A.sub3 w 0 15) h e=true),Zad (Nat.ble 15 (A.len w)) true,Nat.ble 15 (A.len w)] (bB (A.not (fiO h (A.sub3 w 0 15) e)) (bB (A.eq (hfE h) 0) (bB (A.not (A.eq (elE w 15) 0)) (bB (A.eq n1 (elE w 15)) (bB (A.eq 27 (elE w 15)) (rB [A.inR .i64 (A.add (A.int 0) (A.int 0))] (rB [A.eq (A.add (A.int 0) (A.int 0)) 0] (F (AV.bool (A.eq 0 0)) (none)))) (False)) (False)) (rB [decide (hfB h=true∧okw w=true)] (bB (Option.isSome (rdO h w)) (bB (A.not (A.eq n1 0)) (False) (bB (A.not (A.eq (A.int 0) (A.int (A.len (rdV h w))))) (rB [A.not false] (False)) (K (ZmS (h) (w) (e) (n1) (rdV h w) (27) (rdV h w) (rdN h w) (Option.isSome (rdO h w)) (Option.isSome (rdO h w)) (A.not (A.eq n1 0)) (rdV h w))))) (rB [A.not (Option.isSome (rdO h w))] (bB (A.not (A.eq n1 27)) (False) (rB [!A.not (A.eq (A.int 0) 0)] (rB [!A.not (A.eq 0 0)] (rB [decide (hfB h=true)] (bB (A.not (A.eq (erE h e) 0)) (bB (A.eq 27 (erE h e)) (F (AV.bool (A.eq (A.int 0) 0)) (none)) (False)) (rB [decide (fiG w h e=true)] (bB (isW h (fiW h w e)) (rB [!A.eq 27 0] (False)) (rB [A.eq 27 27] (F (AV.bool (A.eq (A.int 0) 0)) (none)))))))))))))) (rB [A.not (A.eq (hfE h) 0)] (bB (A.eq n1 (hfE h)) (bB (A.eq 27 (hfE h)) (rB [A.inR .i64 (A.add (A.int 0) (A.int 0))] (rB [A.eq (A.add (A.int 0) (A.int 0)) 0] (F (AV.bool (A.eq 0 0)) (none)))) (False)) (False)))) (bB (A.eq (hfE h) 0) (bB (A.not (A.eq (elE w 15) 0)) (bB (A.eq n1 (elE w 15)) (bB (A.eq 0 (elE w 15)) (rB [Zad (Nat.ble 15 (A.len (fiV h (A.sub3 w 0 15) e))) true] (rB [A.inR .i64 (A.add (A.int 0) (A.int (A.len (A.sub3 (fiV h (A.sub3 w 0 15) e) 0 15))))] (bB (A.eq (A.add (A.int 0) (A.int (A.len (A.sub3 (fiV h (A.sub3 w 0 15) e) 0 15)))) 0) (F (AV.bool (A.eq 0 0)) (none)) (False)))) (False)) (False)) (rB [decide (hfB h=true∧okw w=true)] (bB (Option.isSome (rdO h w)) (bB (A.not (A.eq n1 0)) (False) (bB (A.not (A.eq (A.int 0) (A.int (A.len (rdV h w))))) (rB [A.not false] (False)) (K (Ztq (h) (w) (e) (n1) (rdV h w) (rdV h w) (rdN h w) (Option.isSome (rdO h w)) (Option.isSome (rdO h w)) (A.not (A.eq n1 0)) (rdV h w) (fiV h (A.sub3 w 0 15) e))))) (rB [A.not (Option.isSome (rdO h w))] (bB (A.not (A.eq n1 27)) (False) (rB [!A.not (A.eq (A.int 0) 0)] (rB [!A.not (A.eq 0 0)] (rB [decide (hfB h=true)] (bB (A.not (A.eq (erE h e) 0)) (bB (A.eq 0 (erE h e)) (rB [Zad (Nat.ble 15 (A.len (fiV h (A.sub3 w 0 15) e))) true] (F (AV.bool (A.eq (A.int (A.len (A.sub3 (fiV h (A.sub3 w 0 15) e) 0 15))) 0)) (none))) (False)) (rB [decide (fiG w h e=true)] (bB (isW h (fiW h w e)) (rB [A.eq 0 0] (rB [Zad (Zad (Zad (Nat.ble 15 (A.len (fiV h (A.sub3 w 0 15) e))) true) true) (decide (List.length (A.sub3 (fiV h (A.sub3 w 0 15) e) 0 15)≤1000000))] (F (AV.bool (decide (A.sub3 (fiV h (A.sub3 w 0 15) e) 0 15=fiW h w e))) (none)))) (rB [!A.eq 0 27] (False))))))))))))) (rB [A.not (A.eq (hfE h) 0)] (bB (A.eq n1 (hfE h)) (bB (A.eq 0 (hfE h)) (rB [Zad (Nat.ble 15 (A.len (fiV h (A.sub3 w 0 15) e))) true] (rB [A.inR .i64 (A.add (A.int 0) (A.int (A.len (A.sub3 (fiV h (A.sub3 w 0 15) e) 0 15))))] (bB (A.eq (A.add (A.int 0) (A.int (A.len (A.sub3 (fiV h (A.sub3 w 0 15) e) 0 15)))) 0) (F (AV.bool (A.eq 0 0)) (none)) (False)))) (False)) (False))))))
theorem ZmA{A:Ar}{K:KT}{F:FT}{M:MT}{h:Int}{w e:List Int}{n0 n1 n2 n3:Int} :Zal A tab Km 8 K F M (.run 6 (.tf (.run 29 (.tf (.run 27 (.tf (.run 11 (.tf (.run 6 (.tf (.ty (.ty (.ty (.run 1 (.tf (.ty (.ty (.ty (.ty (.ty (.ty (.run 1 (.ty (.ty (.ty (.run 4 (.fn)))))))))))) (.fy (.fy (.fy (.fy (.fy (.fy (.run 1 (.fy (.fy (.fy (.run 4 (.no))))))))))))))))) (.fy (.fy (.fy (.run 1 (.fy (.fy (.fy (.fy (.fy (.fy (.fy (.run 1 (.fy (.fy (.fy (.run 4 (.no))))))))))))))))))) (.run 20 (.tf (.ty (.ty (.tf (.ty (.ty (.ty (.alt [true,true] (.ty (.ty (.ty (.ty (.alt [true,true] (.ty (.run 1 (.ty (.ty (.ty (.run 11 (.ty (.ty (.run 2 (.ty (.run 5 (.no)))))))))))) (.no)))))) (.no))))) (.fy (.fy (.run 13 (.tf (.run 6 (.fy (.alt [true,false] (.ty (.ty (.ty (.ty (.alt [true,true] (.ty (.run 1 (.ty (.ty (.ty (.run 11 (.ty (.ty (.run 2 (.ty (.run 5 (.no)))))))))))) (.no)))))) (.no)))) (.run 9 (.hd))))))))) (.fy (.fy (.run 4 (.fy (.fy (.run 3 (.fy (.fy (.run 1 (.fy (.fy (.fy (.ty (.ty (.ty (.tf (.ty (.ty (.alt [true,true] (.ty (.ty (.ty (.alt [true,true] (.alt [false,true] (.fy (.run 2 (.ty (.run 5 (.no))))) (.no)) (.no))))) (.no)))) (.fy (.fy (.alt [true,false] (.ty (.fy (.fy (.alt [true,false] (.alt [false,true] (.fy (.run 2 (.fy (.run 14 (.tf (.run 6 (.tf (.ty (.ty (.ty (.run 4 (.fn))))) (.fy (.fy (.fy (.run 4 (.no))))))) (.run 19 (.tf (.run 5 (.fy (.fy (.fy (.fy (.run 4 (.no))))))) (.run 6 (.tf (.ty (.ty (.ty (.run 4 (.fn))))) (.fy (.fy (.fy (.run 4 (.no)))))))))))))) (.no)) (.no))))) (.no)))))))))))))))))))))))) (.run 7 (.ty (.run 6 (.tf (.ty (.ty (.ty (.run 1 (.tf (.ty (.ty (.ty (.ty (.ty (.ty (.run 1 (.ty (.ty (.ty (.run 4 (.fn)))))))))))) (.fy (.fy (.fy (.fy (.fy (.fy (.run 1 (.fy (.fy (.fy (.run 4 (.no))))))))))))))))) (.fy (.fy (.fy (.run 1 (.fy (.fy (.fy (.fy (.fy (.fy (.fy (.run 1 (.fy (.fy (.fy (.run 4 (.no))))))))))))))))))))))) (.run 12 (.hd)))) (.run 23 (.tf (.run 26 (.tf (.run 11 (.tf (.run 6 (.tf (.ty (.ty (.ty (.run 1 (.tf (.ty (.ty (.ty (.ty (.ty (.ty (.run 1 (.ty (.ty (.ty (.run 4 (.fn)))))))))))) (.fy (.fy (.fy (.fy (.fy (.fy (.run 1 (.fy (.fy (.fy (.run 4 (.no))))))))))))))))) (.fy (.fy (.fy (.run 1 (.fy (.fy (.fy (.fy (.fy (.fy (.fy (.run 1 (.fy (.fy (.fy (.run 4 (.no))))))))))))))))))) (.run 20 (.tf (.ty (.ty (.tf (.ty (.ty (.ty (.alt [true,true] (.ty (.ty (.ty (.ty (.alt [true,true] (.ty (.run 1 (.ty (.ty (.ty (.run 11 (.ty (.ty (.run 2 (.ty (.run 5 (.no)))))))))))) (.no)))))) (.no))))) (.fy (.fy (.run 13 (.tf (.run 6 (.fy (.alt [true,false] (.ty (.ty (.ty (.ty (.alt [true,true] (.ty (.run 1 (.ty (.ty (.ty (.run 11 (.ty (.ty (.run 2 (.ty (.run 5 (.no)))))))))))) (.no)))))) (.no)))) (.run 9 (.hd))))))))) (.fy (.fy (.run 4 (.fy (.fy (.run 3 (.fy (.fy (.run 1 (.fy (.fy (.fy (.ty (.ty (.ty (.tf (.ty (.ty (.alt [true,true] (.ty (.ty (.ty (.alt [true,true] (.alt [false,true] (.fy (.run 2 (.ty (.run 5 (.no))))) (.no)) (.no))))) (.no)))) (.fy (.fy (.alt [true,false] (.ty (.fy (.fy (.alt [true,false] (.alt [false,true] (.fy (.run 2 (.fy (.run 14 (.tf (.run 6 (.tf (.ty (.ty (.ty (.run 4 (.fn))))) (.fy (.fy (.fy (.run 4 (.no))))))) (.run 19 (.tf (.run 5 (.fy (.fy (.fy (.fy (.run 4 (.no))))))) (.run 6 (.ty (.ty (.ty (.ty (.run 4 (.fn)))))))))))))) (.no)) (.no))))) (.no)))))))))))))))))))))))) (.run 7 (.ty (.run 6 (.tf (.ty (.ty (.ty (.run 1 (.tf (.ty (.ty (.ty (.ty (.ty (.ty (.run 1 (.ty (.ty (.ty (.run 4 (.fn)))))))))))) (.fy (.fy (.fy (.fy (.fy (.fy (.run 1 (.fy (.fy (.fy (.run 4 (.no))))))))))))))))) (.fy (.fy (.fy (.run 1 (.fy (.fy (.fy (.fy (.fy (.fy (.fy (.run 1 (.fy (.fy (.fy (.run 4 (.no))))))))))))))))))))))) (.run 28 (.tf (.run 11 (.tf (.run 6 (.tf (.ty (.ty (.ty (.run 1 (.tf (.ty (.ty (.ty (.ty (.ty (.ty (.run 1 (.tf (.ty (.ty (.run 4 (.fn)))) (.fy (.fy (.run 4 (.no)))))))))))) (.fy (.fy (.fy (.fy (.fy (.fy (.run 1 (.fy (.fy (.fy (.run 4 (.no))))))))))))))))) (.fy (.fy (.fy (.run 1 (.fy (.fy (.fy (.fy (.fy (.fy (.fy (.run 1 (.fy (.fy (.fy (.run 4 (.no))))))))))))))))))) (.run 20 (.tf (.ty (.ty (.tf (.ty (.ty (.ty (.alt [true,true] (.ty (.ty (.ty (.ty (.alt [true,true] (.ty (.run 1 (.ty (.ty (.ty (.run 11 (.ty (.ty (.run 2 (.ty (.run 5 (.no)))))))))))) (.no)))))) (.no))))) (.fy (.fy (.run 13 (.tf (.run 6 (.fy (.alt [true,false] (.ty (.ty (.ty (.ty (.alt [true,true] (.ty (.run 1 (.ty (.ty (.ty (.run 11 (.ty (.ty (.run 2 (.ty (.run 5 (.no)))))))))))) (.no)))))) (.no)))) (.run 9 (.hd))))))))) (.fy (.fy (.run 4 (.fy (.fy (.run 3 (.fy (.fy (.run 1 (.fy (.fy (.fy (.ty (.ty (.ty (.tf (.ty (.ty (.alt [true,true] (.ty (.ty (.ty (.alt [true,true] (.alt [false,true] (.fy (.run 2 (.ty (.run 5 (.no))))) (.no)) (.no))))) (.no)))) (.fy (.fy (.alt [true,false] (.ty (.fy (.fy (.alt [true,false] (.alt [false,true] (.fy (.run 2 (.fy (.run 14 (.tf (.run 6 (.tf (.ty (.ty (.ty (.run 4 (.fn))))) (.fy (.fy (.fy (.run 4 (.no))))))) (.run 19 (.tf (.run 5 (.ty (.ty (.ty (.ty (.run 4 (.fn))))))) (.run 6 (.fy (.fy (.fy (.fy (.run 4 (.no)))))))))))))) (.no)) (.no))))) (.no)))))))))))))))))))))))) (.run 7 (.ty (.run 6 (.tf (.ty (.ty (.ty (.run 1 (.tf (.ty (.ty (.ty (.ty (.ty (.ty (.run 1 (.tf (.ty (.ty (.run 4 (.fn)))) (.fy (.fy (.run 4 (.no)))))))))))) (.fy (.fy (.fy (.fy (.fy (.fy (.run 1 (.fy (.fy (.fy (.run 4 (.no))))))))))))))))) (.fy (.fy (.fy (.run 1 (.fy (.fy (.fy (.fy (.fy (.fy (.fy (.run 1 (.fy (.fy (.fy (.run 4 (.no))))))))))))))))))))))))))) (ZlB h w e n0 n1 n2 n3) (Zh5 h w e n0 n1 n2 n3)=ZcW A K F h w e n0 n1 n2 n3:=by kernel_rfl
def ZcQ(A:Ar)(K:KT)(F:FT)(h:Int)(w e:List Int)(n4 n5:Int)(l6:List Int)(n7 n8:Int):Prop:=bB (A.lt n8 n4) (rB [decide (List.length [Zaf (Zao (A.nth e (A.nat n8)) 0 14) 6,Zaf (A.lt n7 (A.nth e (A.nat n8))) 9]≤1000000),List.all [AV.int .i64 (Zaf (Zao (A.nth e (A.nat n8)) 0 14) 6),AV.int .i64 (Zaf (A.lt n7 (A.nth e (A.nat n8))) 9)] fun x=>AV.bx x&&Nat.beq (Zag A x) 1,Zad (Nat.blt (A.nat n8) (A.len e)) true,Zad (A.le 0 n8) (Nat.blt (A.nat n8) (A.len e))] (bB (A.not (A.eq (Zak [Zaf (Zao (A.nth e (A.nat n8)) 0 14) 6,Zaf (A.lt n7 (A.nth e (A.nat n8))) 9]) 0)) (bB (A.eq (hfE h) 0) (bB (A.not (A.eq (elE w 15) 0)) (bB (A.eq 0 (elE w 15)) (bB (A.eq (Zak [Zaf (Zao (A.nth e (A.nat n8)) 0 14) 6,Zaf (A.lt n7 (A.nth e (A.nat n8))) 9]) (elE w 15)) (rB [Zad (Nat.ble 15 (A.len l6)) true] (rB [A.inR .i64 (A.add (A.int (A.len (A.sub3 l6 0 15))) (A.int 0))] (bB (A.eq (A.add (A.int (A.len (A.sub3 l6 0 15))) (A.int 0)) 0) (F (AV.bool (A.eq n5 0)) (none)) (False)))) (False)) (False)) (rB [decide (hfB h=true∧okw w=true)] (bB (Option.isSome (rdO h w)) (rB [!A.not (A.eq 0 0)] (rB [Zad (Zad (Zad (Nat.ble 15 (A.len l6)) true) true) (decide (List.length (A.sub3 l6 0 15)≤1000000))] (bB (A.not (decide (A.sub3 l6 0 15=rdV h w))) (False) (bB (A.not (A.eq n5 (rdN h w))) (False) (rB [!A.not (Option.isSome (rdO h w))] (rB [decide (hfB h=true)] (bB (A.not (A.eq (erE h e) 0)) (bB (A.eq (Zak [Zaf (Zao (A.nth e (A.nat n8)) 0 14) 6,Zaf (A.lt n7 (A.nth e (A.nat n8))) 9]) (erE h e)) (F (AV.bool (A.eq (A.int 0) 0)) (none)) (False)) (rB [decide (fiG w h e=true)] (bB (isW h (fiW h w e)) (rB [!A.eq (Zak [Zaf (Zao (A.nth e (A.nat n8)) 0 14) 6,Zaf (A.lt n7 (A.nth e (A.nat n8))) 9]) 0] (False)) (bB (A.eq (Zak [Zaf (Zao (A.nth e (A.nat n8)) 0 14) 6,Zaf (A.lt n7 (A.nth e (A.nat n8))) 9]) 27) (F (AV.bool (A.eq (A.int 0) 0)) (none)) (False))))))))))) (rB [A.not (Option.isSome (rdO h w))] (rB [A.not (A.eq 0 27)] (False)))))) (rB [A.not (A.eq (hfE h) 0)] (bB (A.eq 0 (hfE h)) (bB (A.eq (Zak [Zaf (Zao (A.nth e (A.nat n8)) 0 14) 6,Zaf (A.lt n7 (A.nth e (A.nat n8))) 9]) (hfE h)) (rB [Zad (Nat.ble 15 (A.len l6)) true] (rB [A.inR .i64 (A.add (A.int (A.len (A.sub3 l6 0 15))) (A.int 0))] (bB (A.eq (A.add (A.int (A.len (A.sub3 l6 0 15))) (A.int 0)) 0) (F (AV.bool (A.eq n5 0)) (none)) (False)))) (False)) (False)))) (rB [A.inR .i64 (A.add n8 1)] (K (Zm1 (h) (w) (e) (n4) (n5) (l6) (A.nth e (A.nat n8)) (A.add n8 1)))))) (rB [Nat.beq (A.len (fiV h (A.sub3 w 0 15) e)) 15,Nat.blt 0 (A.len [0,0,0,0,0,0,0,0,0,0,0,0,0,0,0]),decide (fiG (A.sub3 w 0 15) h e=true),Zad (Nat.ble 15 (A.len w)) true,Nat.ble 15 (A.len w)] (bB (A.not (fiO h (A.sub3 w 0 15) e)) (bB (A.eq (hfE h) 0) (bB (A.not (A.eq (elE w 15) 0)) (bB (A.eq 0 (elE w 15)) (bB (A.eq 27 (elE w 15)) (rB [Zad (Nat.ble 15 (A.len l6)) true] (rB [A.inR .i64 (A.add (A.int (A.len (A.sub3 l6 0 15))) (A.int 0))] (bB (A.eq (A.add (A.int (A.len (A.sub3 l6 0 15))) (A.int 0)) 0) (F (AV.bool (A.eq n5 0)) (none)) (False)))) (False)) (False)) (rB [decide (hfB h=true∧okw w=true)] (bB (Option.isSome (rdO h w)) (rB [!A.not (A.eq 0 0)] (rB [Zad (Zad (Zad (Nat.ble 15 (A.len l6)) true) true) (decide (List.length (A.sub3 l6 0 15)≤1000000))] (bB (A.not (decide (A.sub3 l6 0 15=rdV h w))) (False) (bB (A.not (A.eq n5 (rdN h w))) (False) (rB [!A.not (Option.isSome (rdO h w))] (rB [decide (hfB h=true)] (bB (A.not (A.eq (erE h e) 0)) (bB (A.eq 27 (erE h e)) (F (AV.bool (A.eq (A.int 0) 0)) (none)) (False)) (rB [decide (fiG w h e=true)] (bB (isW h (fiW h w e)) (rB [!A.eq 27 0] (False)) (rB [A.eq 27 27] (F (AV.bool (A.eq (A.int 0) 0)) (none)))))))))))) (rB [A.not (Option.isSome (rdO h w))] (rB [A.not (A.eq 0 27)] (False)))))) (rB [A.not (A.eq (hfE h) 0)] (bB (A.eq 0 (hfE h)) (bB (A.eq 27 (hfE h)) (rB [Zad (Nat.ble 15 (A.len l6)) true] (rB [A.inR .i64 (A.add (A.int (A.len (A.sub3 l6 0 15))) (A.int 0))] (bB (A.eq (A.add (A.int (A.len (A.sub3 l6 0 15))) (A.int 0)) 0) (F (AV.bool (A.eq n5 0)) (none)) (False)))) (False)) (False)))) (bB (A.eq (hfE h) 0) (bB (A.not (A.eq (elE w 15) 0)) (bB (A.eq 0 (elE w 15)) (rB [A.eq 0 (elE w 15)] (rB [Zad (Nat.ble 15 (A.len l6)) true] (rB [Zad (Nat.ble 15 (A.len (fiV h (A.sub3 w 0 15) e))) true] (rB [A.inR .i64 (A.add (A.int (A.len (A.sub3 l6 0 15))) (A.int (A.len (A.sub3 (fiV h (A.sub3 w 0 15) e) 0 15))))] (bB (A.eq (A.add (A.int (A.len (A.sub3 l6 0 15))) (A.int (A.len (A.sub3 (fiV h (A.sub3 w 0 15) e) 0 15)))) 0) (F (AV.bool (A.eq n5 0)) (none)) (False)))))) (False)) (rB [decide (hfB h=true∧okw w=true)] (bB (Option.isSome (rdO h w)) (rB [!A.not (A.eq 0 0)] (rB [Zad (Zad (Zad (Nat.ble 15 (A.len l6)) true) true) (decide (List.length (A.sub3 l6 0 15)≤1000000))] (bB (A.not (decide (A.sub3 l6 0 15=rdV h w))) (False) (bB (A.not (A.eq n5 (rdN h w))) (False) (rB [!A.not (Option.isSome (rdO h w))] (rB [decide (hfB h=true)] (bB (A.not (A.eq (erE h e) 0)) (bB (A.eq 0 (erE h e)) (rB [Zad (Nat.ble 15 (A.len (fiV h (A.sub3 w 0 15) e))) true] (F (AV.bool (A.eq (A.int (A.len (A.sub3 (fiV h (A.sub3 w 0 15) e) 0 15))) 0)) (none))) (False)) (rB [decide (fiG w h e=true)] (bB (isW h (fiW h w e)) (rB [A.eq 0 0] (rB [Zad (Zad (Zad (Nat.ble 15 (A.len (fiV h (A.sub3 w 0 15) e))) true) true) (decide (List.length (A.sub3 (fiV h (A.sub3 w 0 15) e) 0 15)≤1000000))] (F (AV.bool (decide (A.sub3 (fiV h (A.sub3 w 0 15) e) 0 15=fiW h w e))) (none)))) (rB [!A.eq 0 27] (False))))))))))) (rB [A.not (Option.isSome (rdO h w))] (rB [A.not (A.eq 0 27)] (False)))))) (rB [A.not (A.eq (hfE h) 0)] (bB (A.eq 0 (hfE h)) (rB [A.eq 0 (hfE h)] (rB [Zad (Nat.ble 15 (A.len l6)) true] (rB [Zad (Nat.ble 15 (A.len (fiV h (A.sub3 w 0 15) e))) true] (rB [A.inR .i64 (A.add (A.int (A.len (A.sub3 l6 0 15))) (A.int (A.len (A.sub3 (fiV h (A.sub3 w 0 15) e) 0 15))))] (bB (A.eq (A.add (A.int (A.len (A.sub3 l6 0 15))) (A.int (A.len (A.sub3 (fiV h (A.sub3 w 0 15) e) 0 15)))) 0) (F (AV.bool (A.eq n5 0)) (none)) (False)))))) (False))))))
theorem Zng{A:Ar}{K:KT}{F:FT}{M:MT}{h:Int}{w e:List Int}{n4 n5:Int}{l6:List Int}{n7 n8:Int} :Zal A tab Km 8 K F M (.run 6 (.tf (.run 29 (.tf (.run 27 (.tf (.run 11 (.tf (.run 6 (.tf (.ty (.ty (.ty (.run 1 (.tf (.ty (.ty (.ty (.ty (.ty (.ty (.run 1 (.tf (.ty (.ty (.run 4 (.fn)))) (.fy (.fy (.run 4 (.no)))))))))))) (.fy (.fy (.fy (.fy (.fy (.fy (.run 1 (.fy (.fy (.fy (.run 4 (.no))))))))))))))))) (.fy (.fy (.fy (.run 1 (.fy (.fy (.fy (.fy (.fy (.fy (.fy (.run 1 (.fy (.fy (.fy (.run 4 (.no))))))))))))))))))) (.run 20 (.tf (.ty (.ty (.fy (.fy (.fy (.fy (.alt [true,false] (.ty (.tf (.ty (.ty (.alt [true,true] (.ty (.run 1 (.ty (.ty (.ty (.run 11 (.ty (.ty (.run 2 (.ty (.run 5 (.no)))))))))))) (.no)))) (.fy (.fy (.alt [true,false] (.ty (.run 1 (.tf (.ty (.ty (.run 11 (.ty (.ty (.run 2 (.ty (.run 5 (.no))))))))) (.fy (.fy (.fy (.fy (.fy (.run 3 (.fy (.fy (.run 2 (.fy (.alt [false,false] (.fy (.run 2 (.fy (.run 14 (.tf (.run 6 (.tf (.ty (.ty (.ty (.run 4 (.fn))))) (.fy (.fy (.fy (.run 4 (.no))))))) (.run 19 (.tf (.run 5 (.fy (.fy (.fy (.fy (.run 4 (.no))))))) (.run 6 (.tf (.ty (.ty (.ty (.run 4 (.fn))))) (.fy (.fy (.fy (.run 4 (.no)))))))))))))) (.no))))))))))))))) (.no)))))) (.no)))))))) (.fy (.fy (.run 4 (.fy (.fy (.run 3 (.fy (.fy (.run 1 (.fy (.fy (.fy (.ty (.ty (.ty (.ty (.ty (.ty (.alt [true,true] (.ty (.ty (.ty (.alt [true,true] (.alt [false,true] (.fy (.run 2 (.ty (.run 5 (.no))))) (.no)) (.no))))) (.no)))))))))))))))))))))))) (.run 7 (.ty (.run 6 (.tf (.ty (.ty (.ty (.run 1 (.tf (.ty (.ty (.ty (.ty (.ty (.ty (.run 1 (.tf (.ty (.ty (.run 4 (.fn)))) (.fy (.fy (.run 4 (.no)))))))))))) (.fy (.fy (.fy (.fy (.fy (.fy (.run 1 (.fy (.fy (.fy (.run 4 (.no))))))))))))))))) (.fy (.fy (.fy (.run 1 (.fy (.fy (.fy (.fy (.fy (.fy (.fy (.run 1 (.fy (.fy (.fy (.run 4 (.no))))))))))))))))))))))) (.run 12 (.hd)))) (.run 23 (.tf (.run 26 (.tf (.run 11 (.tf (.run 6 (.tf (.ty (.ty (.ty (.run 1 (.tf (.ty (.ty (.ty (.ty (.ty (.ty (.run 1 (.tf (.ty (.ty (.run 4 (.fn)))) (.fy (.fy (.run 4 (.no)))))))))))) (.fy (.fy (.fy (.fy (.fy (.fy (.run 1 (.fy (.fy (.fy (.run 4 (.no))))))))))))))))) (.fy (.fy (.fy (.run 1 (.fy (.fy (.fy (.fy (.fy (.fy (.fy (.run 1 (.fy (.fy (.fy (.run 4 (.no))))))))))))))))))) (.run 20 (.tf (.ty (.ty (.fy (.fy (.fy (.fy (.alt [true,false] (.ty (.tf (.ty (.ty (.alt [true,true] (.ty (.run 1 (.ty (.ty (.ty (.run 11 (.ty (.ty (.run 2 (.ty (.run 5 (.no)))))))))))) (.no)))) (.fy (.fy (.alt [true,false] (.ty (.run 1 (.tf (.ty (.ty (.run 11 (.ty (.ty (.run 2 (.ty (.run 5 (.no))))))))) (.fy (.fy (.fy (.fy (.fy (.run 3 (.fy (.fy (.run 2 (.fy (.alt [false,false] (.fy (.run 2 (.fy (.run 14 (.tf (.run 6 (.tf (.ty (.ty (.ty (.run 4 (.fn))))) (.fy (.fy (.fy (.run 4 (.no))))))) (.run 19 (.tf (.run 5 (.fy (.fy (.fy (.fy (.run 4 (.no))))))) (.run 6 (.ty (.ty (.ty (.ty (.run 4 (.fn)))))))))))))) (.no))))))))))))))) (.no)))))) (.no)))))))) (.fy (.fy (.run 4 (.fy (.fy (.run 3 (.fy (.fy (.run 1 (.fy (.fy (.fy (.ty (.ty (.ty (.ty (.ty (.ty (.alt [true,true] (.ty (.ty (.ty (.alt [true,true] (.alt [false,true] (.fy (.run 2 (.ty (.run 5 (.no))))) (.no)) (.no))))) (.no)))))))))))))))))))))))) (.run 7 (.ty (.run 6 (.tf (.ty (.ty (.ty (.run 1 (.tf (.ty (.ty (.ty (.ty (.ty (.ty (.run 1 (.tf (.ty (.ty (.run 4 (.fn)))) (.fy (.fy (.run 4 (.no)))))))))))) (.fy (.fy (.fy (.fy (.fy (.fy (.run 1 (.fy (.fy (.fy (.run 4 (.no))))))))))))))))) (.fy (.fy (.fy (.run 1 (.fy (.fy (.fy (.fy (.fy (.fy (.fy (.run 1 (.fy (.fy (.fy (.run 4 (.no))))))))))))))))))))))) (.run 28 (.tf (.run 11 (.tf (.run 6 (.tf (.ty (.ty (.ty (.run 1 (.ty (.ty (.ty (.ty (.ty (.ty (.ty (.run 1 (.tf (.ty (.ty (.run 4 (.fn)))) (.fy (.fy (.run 4 (.no))))))))))))))))) (.fy (.fy (.fy (.run 1 (.fy (.fy (.fy (.fy (.fy (.fy (.fy (.run 1 (.fy (.fy (.fy (.run 4 (.no))))))))))))))))))) (.run 20 (.tf (.ty (.ty (.fy (.fy (.fy (.fy (.alt [true,false] (.ty (.tf (.ty (.ty (.alt [true,true] (.ty (.run 1 (.ty (.ty (.ty (.run 11 (.ty (.ty (.run 2 (.ty (.run 5 (.no)))))))))))) (.no)))) (.fy (.fy (.alt [true,false] (.ty (.run 1 (.tf (.ty (.ty (.run 11 (.ty (.ty (.run 2 (.ty (.run 5 (.no))))))))) (.fy (.fy (.fy (.fy (.fy (.run 3 (.fy (.fy (.run 2 (.fy (.alt [false,false] (.fy (.run 2 (.fy (.run 14 (.tf (.run 6 (.tf (.ty (.ty (.ty (.run 4 (.fn))))) (.fy (.fy (.fy (.run 4 (.no))))))) (.run 19 (.tf (.run 5 (.ty (.ty (.ty (.ty (.run 4 (.fn))))))) (.run 6 (.fy (.fy (.fy (.fy (.run 4 (.no)))))))))))))) (.no))))))))))))))) (.no)))))) (.no)))))))) (.fy (.fy (.run 4 (.fy (.fy (.run 3 (.fy (.fy (.run 1 (.fy (.fy (.fy (.ty (.ty (.ty (.ty (.ty (.ty (.alt [true,true] (.ty (.ty (.ty (.alt [true,true] (.alt [false,true] (.fy (.run 2 (.ty (.run 5 (.no))))) (.no)) (.no))))) (.no)))))))))))))))))))))))) (.run 7 (.ty (.run 6 (.tf (.ty (.ty (.ty (.run 1 (.ty (.ty (.ty (.ty (.ty (.ty (.ty (.run 1 (.tf (.ty (.ty (.run 4 (.fn)))) (.fy (.fy (.run 4 (.no))))))))))))))))) (.fy (.fy (.fy (.run 1 (.fy (.fy (.fy (.fy (.fy (.fy (.fy (.run 1 (.fy (.fy (.fy (.run 4 (.no))))))))))))))))))))))))))) (Zl0 h w e n4 n5 l6 n7 n8) (ZiO h w e n4 n5 l6 n7 n8)=ZcQ A K F h w e n4 n5 l6 n7 n8:=by kernel_rfl
end Go.Proofs.Ytklbmkllepkjcaa
/- Words of the code: what is filled, how far words are apart. No condition. -/
namespace Go.Proofs.Ytklbmkllepkjcaa
def Zno(j:Nat)(w:Nat→Nat):Nat:=dt w (fun i=>Zbe (j*(14-i))) 15
theorem ZfT(j:Nat):El (fun i=>Zbe (j*(14-i))):=fun _=>ZbD _
def wfn(w:List Int)(i:Nat):Nat:=(w.getD i 0).toNat
theorem Zds{w:List Int}(h:Zcs w 0 15=0):El (wfn w):=fun i=>by
 have:=of_decide_eq_true (Zot h i)
 unfold wfn;omega
theorem Zty(j:Nat){w:List Int}(hl:w.length=15):∀n,n≤15→dt (wfn w) (fun i=>Zbe (j*(14-i))) n ^^^ Znp j n ((wdN w).drop n)=Znp j 0 (wdN w)
 |0,_=>by rw[dt,List.drop_zero,Nat.zero_xor]
 |n+1,hn=>by
  rw[←Zty j hl n (by omega),Zov (show n<w.length by omega),Znp,dt,Nat.xor_assoc];rfl
theorem ZhZ{w:List Int}(hl:w.length=15)(j:Nat):syI w j=((Zno j (wfn w):Nat):Int):=by
 have h:=Zty j hl 15 (Nat.le_refl _)
 rw[List.drop_of_length_le (by rw[ZoY];omega),Znp,Nat.xor_zero]at h
 unfold syI Zno;rw[h]
theorem ZtL{h:Int}{w:List Int}(hl:w.length=15):isW h w=true↔∀j,j<2*h.toNat→Zno (j+1) (wfn w)=0:=by
 unfold isW syL
 rw[List.all_eq_true]
 constructor
 ·intro a j hj
  have:=a (syI w (j+1)) (List.mem_map.2 ⟨j,List.mem_range.2 hj,rfl⟩)
  rw[decide_eq_true_eq,ZhZ hl]at this
  omega
 ·intro a x hx
  obtain⟨j,hj,rfl⟩:=List.mem_map.1 hx
  rw[decide_eq_true_eq,ZhZ hl,a j (List.mem_range.1 hj)];rfl
def upd(w:Nat→Nat)(p v:Nat):Nat→Nat:=fun i=>if i=p then v else w i
theorem Zs8{w g:Nat→Nat}{p v:Nat}(h0:w p=0)(hw:El w)(hg:El g)(hv:v<16):∀n,dt (upd w p v) g n=dt w g n ^^^ (if p<n then Zar v (g p)else 0)
 |0=>by simp[dt]
 |n+1=>by
  rw[dt,dt,Zs8 h0 hw hg hv n]
  unfold upd
  by_cases hp:n=p
  ·subst hp
   rw[if_pos rfl,if_neg (Nat.lt_irrefl _),if_pos (by omega),h0,Zdu (hg n),Nat.xor_zero]
  ·rw[if_neg hp]
   by_cases hlt:p<n
   ·rw[if_pos hlt,if_pos (by omega),Nat.xor_assoc,Nat.xor_assoc,Nat.xor_comm (Zar v (g p))]
   ·rw[if_neg hlt,if_neg (by omega),Nat.xor_zero,Nat.xor_zero]
theorem ZpU{a b g:Nat→Nat}(ha:El a)(hb:El b)(hg:El g):∀n,dt (fun i=>a i ^^^ b i) g n=dt a g n ^^^ dt b g n
 |0=>by simp[dt]
 |n+1=>by rw[dt,dt,dt,ZpU ha hb hg n,ZcL (ha n) (hb n) (hg n),Zlg]
theorem Zl5:∀(g:Nat→Nat),El g→∀(qs:List Nat),(∀p∈qs,p<15)→qs.Nodup→∀(b:Nat→Nat),El b→(∀i,i<15→i∉qs→b i=0)→dt b g 15=dt (fun k=>b (qs.getD k 0)) (fun k=>g (qs.getD k 0)) qs.length:=by
 intro g hg qs
 induction qs with
 |nil=>
  intro _ _ b hb hz
  rw[List.length_nil,dt]
  exact Zlq hg 15 (fun j hj=>hz j hj (by simp))
 |cons p qs ih=>
  intro h1 h2 b hb hz
  have hpq:p∉qs:=(List.nodup_cons.1 h2).1
  have hbe:El (upd b p 0):=fun i=>by unfold upd;split;decide;exact hb i
  have e:dt b g 15=dt (upd b p 0) g 15 ^^^ Zar (b p) (g p):=by
   have u:=Zs8 (w:=upd b p 0) (g:=g) (p:=p) (v:=b p) (by simp[upd]) hbe hg (hb p) 15
   rw[if_pos (h1 p List.mem_cons_self)]at u
   rw[←u]
   refine ZaM _ (fun j _=>?_) (fun _ _=>rfl)
   unfold upd
   by_cases hj:j=p
   ·subst hj;rw[if_pos rfl]
   ·rw[if_neg hj,if_neg hj]
  rw[e,ih (fun q hq=>h1 q (List.mem_cons_of_mem _ hq)) (List.nodup_cons.1 h2).2 (upd b p 0) hbe (fun i hi hn=>by
   unfold upd
   by_cases hip:i=p
   ·rw[if_pos hip]
   ·rw[if_neg hip];exact hz i hi (by simp[hip,hn]))]
  have e2:∀n,dt (fun k=>b ((p::qs).getD k 0)) (fun k=>g ((p::qs).getD k 0)) (n+1)=Zar (b p) (g p) ^^^ dt (fun k=>b (qs.getD k 0)) (fun k=>g (qs.getD k 0)) n:=by
   intro n
   induction n with
   |zero=>rw[dt,dt,dt,Nat.zero_xor,Nat.xor_zero];rfl
   |succ n ih2=>rw[dt,ih2,dt,Nat.xor_assoc];rfl
  rw[List.length_cons,e2,Nat.xor_comm]
  congr 1
  refine ZaM _ (fun j hj=>?_) (fun _ _=>rfl)
  unfold upd
  rw[if_neg]
  intro hq
  exact hpq (hq▸ZbC hj)
theorem Zrt{m:Nat}{c:Nat→Nat}(hc:El c)(ps:List Nat)(hp:∀p∈ps,p<15)(hd:ps.Nodup)(hl:ps.length≤m)(hz:∀i,i<15→i∉ps→c i=0)(hs:∀j,j<m→Zno (j+1) c=0):∀i,i<15→c i=0:=by
 have hX:El (fun k=>Zbe (14-ps.getD k 0)):=fun _=>ZbD _
 have hC:El (fun k=>c (ps.getD k 0)):=fun _=>hc _
 have hv:=ZFC ps.length (fun k=>c (ps.getD k 0)) (fun k=>Zbe (14-ps.getD k 0)) 1 hC hX (fun _ _=>ZqB _) (fun i j hi hj he=>by
  have a:=hp _ (ZbC (d:=0) hi)
  have b:=hp _ (ZbC (d:=0) hj)
  have:=Zo7 (by omega) (by omega) he
  have he2:ps.getD i 0=ps.getD j 0:=by omega
  rw[List.getD_eq_getElem?_getD,List.getElem?_eq_getElem hi,List.getD_eq_getElem?_getD,List.getElem?_eq_getElem hj]at he2
  exact(List.getElem_inj hd).1 he2) (fun j hj=>by
  have s:=hs j (by omega)
  unfold Zno at s
  rw[Zl5 _ (ZfT (j+1)) ps hp hd c hc hz]at s
  refine Eq.trans ?_ s
  exact ZaM _ (fun _ _=>rfl) (fun k _=>by rw[Nat.add_comm 1 j,ZpB]))
 intro i hi
 by_cases hm:i∈ps
 ·obtain⟨k,hk,rfl⟩:=List.mem_iff_getElem.1 hm
  have:=hv k hk
  simpa[List.getD_eq_getElem?_getD,hk]using this
 ·exact hz i hi hm
end Go.Proofs.Ytklbmkllepkjcaa
/- What fills a word: the same word whoever fills it. No condition. -/
namespace Go.Proofs.Ytklbmkllepkjcaa
theorem ZrW(r y:Nat→Nat):∀n,dt r y (n+1)=Zar (r 0) (y 0) ^^^ dt (fun k=>r (k+1)) (fun k=>y (k+1)) n
 |0=>by rw[dt,dt,dt,Nat.zero_xor,Nat.xor_zero]
 |n+1=>by rw[dt,ZrW r y n,dt,Nat.xor_assoc]
theorem Zx9{w:List Int}(p:Nat)(v:Int)(hp:p<w.length):wfn (w.set p v)=upd (wfn w) p v.toNat:=by
 funext i
 unfold wfn upd
 rw[Zby]
 by_cases h:i=p
 ·subst h;rw[if_pos ⟨rfl,hp⟩,if_pos rfl]
 ·rw[if_neg (fun a=>h a.1.symm),if_neg h]
def ZAT(e:List Int):Prop:=∀x∈e,0≤x∧x≤14
theorem Zka{e:List Int}(h:ZAy e):ZAT e:=fun x hx=>by
 obtain⟨k,hk,rfl⟩:=List.mem_iff_getElem.1 hx
 have:=h k hk
 simpa[List.getD_eq_getElem?_getD,hk]using this
theorem Zm9{e:List Int}{p:Int}(h:erP p e=0):e.Nodup:=by
 refine List.pairwise_iff_getElem.2 fun i j hi hj hij=>?_
 have:=Zls h i j hij hj
 rw[List.getD_eq_getElem?_getD,List.getElem?_eq_getElem hi,List.getD_eq_getElem?_getD,List.getElem?_eq_getElem hj]at this
 exact Int.ne_of_lt this
theorem ZwL:∀(e vs w:List Int) (p:Nat),ZAT e→(∀x∈e,x≠(p:Int))→(wrL w e vs).getD p 0=w.getD p 0
 |[],_,_,_,_,_=>by unfold wrL;rfl
 |_::_,[],_,_,_,_=>by unfold wrL;rfl
 |x::e,v::vs,w,p,h1,h2=>by
  rw[wrL,ZwL e vs _ p (fun y hy=>h1 y (List.mem_cons_of_mem _ hy)) (fun y hy=>h2 y (List.mem_cons_of_mem _ hy)),Zby,if_neg]
  intro a
  have b:=h1 x List.mem_cons_self
  have c:=h2 x List.mem_cons_self
  omega
theorem Zna:∀(e w:List Int) (p:Nat),ZAT e→(zrL w e).getD p 0=if(p:Int)∈e then 0 else w.getD p 0
 |[],_,_,_=>by simp[zrL]
 |x::e,w,p,h1=>by
  have b:=h1 x List.mem_cons_self
  rw[zrL,Zna e _ p (fun y hy=>h1 y (List.mem_cons_of_mem _ hy)),Zby]
  by_cases hp:(p:Int)∈e
  ·rw[if_pos hp,if_pos (List.mem_cons_of_mem _ hp)]
  ·rw[if_neg hp]
   by_cases hx:x=(p:Int)
   ·subst hx
    rw[if_pos List.mem_cons_self]
    by_cases hl:p<w.length
    ·rw[if_pos ⟨by omega,hl⟩]
    ·rw[if_neg (fun a=>hl a.2),List.getD_eq_getElem?_getD,List.getElem?_eq_none (by omega)];rfl
   ·rw[if_neg (fun a=>hx (by omega)),if_neg (fun a=>(List.mem_cons.1 a).elim (fun a=>hx a.symm) hp)]
theorem Zxe(j:Nat):∀(e vs w:List Int),w.length=15→Zcs w 0 15=0→ZAT e→e.Nodup→vs.length=e.length→(∀i,elB (vs.getD i 0)=true)→(∀x∈e,w.getD x.toNat 0=0)→Zno j (wfn (wrL w e vs))=Zno j (wfn w) ^^^ dt (fun i=>Zbe (j*(14-(e.getD i 0).toNat))) (fun i=>(vs.getD i 0).toNat) e.length
 |[],vs,w,_,_,_,_,_,_,_=>by unfold wrL;rw[List.length_nil,dt,Nat.xor_zero]
 |x::e,[],_,_,_,_,_,h,_,_=>by cases h
 |x::e,v::vs,w,hl,hr,hp,hd,hv,he,hz=>by
  have b:=hp x List.mem_cons_self
  have v0:elB v=true:=he 0
  have v1:=of_decide_eq_true v0
  have hx:=(List.nodup_cons.1 hd).1
  rw[wrL,Zxe j e vs (w.set x.toNat v) (by rw[List.length_set,hl]) (Zop hr _ v0) (fun y hy=>hp y (List.mem_cons_of_mem _ hy)) (List.nodup_cons.1 hd).2 (by simpa using hv) (fun i=>he (i+1)) (fun y hy=>by
   have b2:=hp y (List.mem_cons_of_mem _ hy)
   rw[Zby,if_neg (fun a=>hx (by have e0:x=y:=(by omega);exact e0▸hy))]
   exact hz y (List.mem_cons_of_mem _ hy))]
  have w0:wfn w x.toNat=0:=by unfold wfn;rw[hz x List.mem_cons_self];rfl
  unfold Zno
  rw[Zx9 _ _ (by omega),Zs8 w0 (Zds hr) (ZfT j) (by omega),if_pos (show x.toNat<15 by omega),List.length_cons,ZrW _ _ e.length,Nat.xor_assoc]
  congr 2
  exact Za7 (a:=v.toNat) (show v.toNat<16 by omega) (ZbD _)
theorem ZEz:∀(e c:List Int),c.length=15→ZAT e→e.Nodup→∀w:List Int,w.length=15→(∀p:Nat,p<15→(p:Int)∉e→w.getD p 0=c.getD p 0)→wrL w e (e.map fun x=>c.getD x.toNat 0)=c
 |[],c,hc,_,_,w,hw,h=>by
  unfold wrL
  refine List.ext_getElem (by omega) fun i h1 h2=>?_
  have:=h i (by omega) (by simp)
  rwa[List.getD_eq_getElem?_getD,List.getElem?_eq_getElem h1,List.getD_eq_getElem?_getD,List.getElem?_eq_getElem h2]at this
 |x::e,c,hc,hp,hd,w,hw,h=>by
  have b:=hp x List.mem_cons_self
  rw[List.map_cons,wrL]
  refine ZEz e c hc (fun y hy=>hp y (List.mem_cons_of_mem _ hy)) (List.nodup_cons.1 hd).2 _ (by rw[List.length_set,hw]) fun p h1 h2=>?_
  rw[Zby]
  by_cases hx:x.toNat=p
  ·subst hx;rw[if_pos ⟨rfl,by omega⟩]
  ·rw[if_neg (fun a=>hx a.1)]
   exact h p h1 (fun a=>(List.mem_cons.1 a).elim (fun a=>by omega) h2)
theorem ZEr{l e:List Int}(hl:Zcs l 0 15=0)(h15:l.length=15)(j:Nat){y:Nat→Nat}(h1:y e.length=1):dt (fiM l e j) y (e.length+1)=dt (fun i=>Zbe ((j+1)*(14-(e.getD i 0).toNat))) y e.length ^^^ Zno (j+1) (wfn l):=by
 have e1:fiM l e j e.length=Zno (j+1) (wfn l):=by
  unfold fiM
  rw[if_neg (Nat.lt_irrefl _),if_pos rfl]
  have:=ZhZ h15 (j+1)
  unfold syI at this
  omega
 rw[dt,h1,e1,Zhf (show Zno (j+1) (wfn l)<16 from Zld (Zds hl) (ZfT _) 15)]
 congr 1
 refine ZaM _ (fun i hi=>?_) (fun _ _=>rfl)
 unfold fiM
 rw[if_pos hi]
theorem ZIN{h:Int}{w e vs:List Int}(hg:fiG w h e=true)(hv:vs.length=e.length)(he:∀i,elB (vs.getD i 0)=true):ZA (fiM (zrL w e) e) (2*h.toNat) e.length (fun j=>if j<e.length then(vs.getD j 0).toNat else 1)↔isW h (wrL (zrL w e) e vs)=true:=by
 obtain⟨g1,g2,g3,g4,g5⟩:=ZhA hg
 obtain⟨z2,z3⟩:=okw_iff.1 (ZiK e g1)
 rw[ZtL (by rw[Ziq,z2])]
 refine forall_congr' fun j=>imp_congr_right fun _=>?_
 rw[ZEr z3 z2 j (if_neg (Nat.lt_irrefl _)),Zxe (j+1) e vs _ z2 z3 (Zka g4) (Zm9 g5) hv he (fun x hx=>by
  have:=Zka g4 x hx
  rw[Zna e w x.toNat (Zka g4),if_pos]
  rwa[Int.toNat_of_nonneg this.1]),Nat.xor_comm,ZaM (s:=fun i=>Zbe ((j+1)*(14-(e.getD i 0).toNat))) e.length (fun _ _=>rfl) (fun i hi=>if_pos hi)]
theorem Zod{h:Int}{w e:List Int}(hg:fiG w h e=true):fiO h w e=isW h (fiW h w e):=by
 obtain⟨B,hB⟩:=ZlK hg
 obtain⟨b1,b2,b3,b4⟩:=Zp5 hg hB
 have q:=ZIN hg (ZcB B e.length e.length) (fun i=>Zos b1 _ _ i)
 have hy:El (fun j=>if j<e.length then(((Zcl B e.length e.length).getD j 0)).toNat else 1):=fun j=>by
  have:=of_decide_eq_true (Zos b1 e.length e.length j)
  show(if j<e.length then((Zcl B e.length e.length).getD j 0).toNat else 1)<16
  split<;>omega
 rw[←b4 _ hy,Zll b1 b2 b3 hy (if_neg (Nat.lt_irrefl _))]at q
 have s0:∀j,j<e.length→(if j<e.length then((Zcl B e.length e.length).getD j 0).toNat else 1)=B j e.length:=fun j hj=>by
  rw[if_pos hj]
  unfold Zcl
  rw[List.getD_eq_getElem?_getD,List.getElem?_map,List.getElem?_range hj];rfl
 have z:fiZ (2*h.toNat) e.length B=true↔∀i,e.length≤i→i<2*h.toNat→B i e.length=0:=by
  unfold fiZ
  rw[List.all_eq_true]
  constructor
  ·intro a i h1 h2
   have:=a i (List.mem_range.2 h2)
   rw[Bool.or_eq_true,decide_eq_true_eq,decide_eq_true_eq]at this
   rcases this with t |t
   ·omega
   ·exact t
  ·intro a i hi
   rw[Bool.or_eq_true,decide_eq_true_eq,decide_eq_true_eq]
   by_cases h1:i<e.length
   ·exact Or.inl h1
   ·exact Or.inr (a i (by omega) (List.mem_range.1 hi))
 unfold fiO fiW
 rw[hB]
 show fiZ _ _ B=isW h (wrL (zrL w e) e (Zcl B e.length e.length))
 rw[Bool.eq_iff_iff,z,←q]
 exact⟨fun a=>⟨s0,a⟩,fun a=>a.2⟩
theorem ZIO{h:Int}{w e:List Int}(ho:fiO h w e=true):fiV h w e=fiW h w e:=by
 unfold fiO at ho
 unfold fiV fiW
 cases hB:fiB h w e with
 |none=>rw[hB]at ho;cases ho
 |some B=>rw[hB]at ho;exact if_pos ho
theorem ZtG{h:Int}{w e c:List Int}(hg:fiG w h e=true)(hc:okw c=true)(hw:isW h c=true)(ha:∀p:Nat,p<15→(p:Int)∉e→w.getD p 0=c.getD p 0):fiW h w e=c:=by
 obtain⟨g1,g2,g3,g4,g5⟩:=ZhA hg
 obtain⟨z2,z3⟩:=okw_iff.1 (ZiK e g1)
 obtain⟨c2,c3⟩:=okw_iff.1 hc
 obtain⟨B,hB⟩:=ZlK hg
 obtain⟨b1,b2,b3,b4⟩:=Zp5 hg hB
 have hx:=ZEz e c c2 (Zka g4) (Zm9 g5) (zrL w e) z2 (fun p h1 h2=>by rw[Zna e w p (Zka g4),if_neg h2];exact ha p h1 h2)
 have hel:∀i,elB ((e.map fun x=>c.getD x.toNat 0).getD i 0)=true:=fun i=>by
  rw[List.getD_eq_getElem?_getD,List.getElem?_map]
  cases hi:e[i]? with
  |none=>rfl
  |some x=>exact Zot c3 x.toNat
 have q:=(ZIN hg (List.length_map _) hel).2 (by rw[hx];exact hw)
 have hy:El (fun j=>if j<e.length then((e.map fun x=>c.getD x.toNat 0).getD j 0).toNat else 1):=fun j=>by
  have:=of_decide_eq_true (hel j)
  show(if j<e.length then((e.map fun x=>c.getD x.toNat 0).getD j 0).toNat else 1)<16
  split<;>omega
 rw[←b4 _ hy,Zll b1 b2 b3 hy (if_neg (Nat.lt_irrefl _))]at q
 have hs:Zcl B e.length e.length=e.map fun x=>c.getD x.toNat 0:=by
  refine List.ext_getElem (by rw[ZcB,List.length_map]) fun i h1 h2=>?_
  have hi:i<e.length:=by rwa[List.length_map]at h2
  have a:=q.1 i hi
  rw[if_pos hi]at a
  have b:=of_decide_eq_true (hel i)
  rw[List.getD_eq_getElem?_getD,List.getElem?_eq_getElem h2]at a b
  have s:(Zcl B e.length e.length)[i]=((B i e.length:Nat):Int):=by simp[Zcl]
  rw[s,←a]
  exact Int.toNat_of_nonneg b.1
 unfold fiW
 rw[hB]
 show wrL (zrL w e) e (Zcl B e.length e.length)=c
 rw[hs,hx]
end Go.Proofs.Ytklbmkllepkjcaa
/- Roots of polynomials over the field of 16; sums of sums. No condition. -/
namespace Go.Proofs.Ytklbmkllepkjcaa
def hn(q:Nat→Nat)(x:Nat):Nat→Nat
 |0=>0
 |n+1=>Zar (hn q x n) x ^^^ q n
theorem Zjy{q:Nat→Nat}(hq:El q){x:Nat}(hx:x<16):∀n,hn q x n<16
 |0=>by rw[hn];decide
 |n+1=>ZbZ (Zbl (Zjy hq hx n) hx) (hq n)
theorem ZxJ{q:Nat→Nat}(hq:El q){x a:Nat}(hx:x<16)(ha:a<16):∀n,hn q x (n+1) ^^^ hn q a (n+1)=Zar (hn (fun i=>hn q a (i+1)) x n) (x ^^^ a)
 |0=>by rw[hn,hn,hn,hn,hn,Zdu hx,Zdu ha,Zdu (ZbZ hx ha),Nat.xor_self]
 |n+1=>by
  have ih:=ZxJ hq hx ha n
  have hq':El (fun i=>hn q a (i+1)):=fun i=>Zjy hq ha (i+1)
  have l1:=Zjy hq hx (n+1)
  have l2:=Zjy hq ha (n+1)
  have l3:=Zjy hq' hx n
  have e1:hn (fun i=>hn q a (i+1)) x (n+1)=Zar (hn (fun i=>hn q a (i+1)) x n) x ^^^ hn q a (n+1):=rfl
  have e2:hn q x (n+1)=hn q a (n+1) ^^^ Zar (hn (fun i=>hn q a (i+1)) x n) (x ^^^ a):=by
   rw[←ih,Nat.xor_comm (hn q x (n+1)),←Nat.xor_assoc,Nat.xor_self,Nat.zero_xor]
  have e3:∀k,hn q k (n+1+1)=Zar (hn q k (n+1)) k ^^^ q (n+1):=fun k=>rfl
  rw[e3,e3,e1,Zlg,Nat.xor_self,Nat.xor_zero,ZcL (Zbl l3 hx) l2 (ZbZ hx ha),e2]
  generalize hn (fun i=>hn q a (i+1)) x n=P at*
  clear e2 e3 e1 ih l1
  generalize hn q a (n+1)=Q at*
  rw[ZcL l2 (Zbl l3 (ZbZ hx ha)) hx,ZxY hx ha l2,ZaI l3 (ZbZ hx ha) hx,ZaI l3 hx (ZbZ hx ha),Za7 (ZbZ hx ha) hx]
  generalize Zar P _=PP
  rw[Nat.xor_assoc,Nat.xor_comm PP (Zar Q a),←Nat.xor_assoc,Nat.xor_comm]
theorem Zgw:∀(n:Nat) (q X:Nat→Nat),El q→El X→(∀i j,i<n→j<n→X i=X j→i=j)→(∀k,k<n→hn q (X k) n=0)→∀i,i<n→q i=0
 |0,_,_,_,_,_,_,i,hi=>by omega
 |n+1,q,X,hq,hX,hd,hz,i,hi=>by
  have z:=hz n (by omega)
  have ih:=Zgw n (fun i=>hn q (X n) (i+1)) X (fun i=>Zjy hq (hX n) (i+1)) hX (fun i j hi hj=>hd i j (by omega) (by omega)) (fun k hk=>by
   have s:=ZxJ hq (hX k) (hX n) n
   rw[z,hz k (by omega),Nat.xor_self]at s
   rcases ZbL (Zjy (q:=fun i=>hn q (X n) (i+1)) (fun i=>Zjy hq (hX n) (i+1)) (hX k) n) (ZbZ (hX k) (hX n)) s.symm with h |h
   ·exact h
   ·have:=hd k n (by omega) (by omega) (Zlo h);omega)
  have a:∀j,j≤n+1→hn q (X n) j=0:=fun j hj=>by
   cases j with
   |zero=>rfl
   |succ j=>
    by_cases h:j<n
    ·exact ih j h
    ·have:j=n:=by omega
     subst this;exact z
  have b:=a (i+1) (by omega)
  rw[hn,a i (by omega),Zdu (hX n),Nat.zero_xor]at b
  exact b
theorem ZrA{x:Nat}(hx:x<16)(a:Nat):∀b,pw x (a+b)=Zar (pw x a) (pw x b)
 |0=>by rw[Nat.add_zero,pw,Zhf (Zbm hx a)]
 |b+1=>by
  rw[←Nat.add_assoc,pw,ZrA hx a b,pw,ZaI (Zbm hx a) (Zbm hx b) hx]
theorem Ztv{E y:Nat→Nat}{f:Nat→Nat→Nat}(hE:El E)(hy:El y)(hf:∀k,El (f k))(t:Nat):∀n,dt (fun i=>dt E (fun k=>f k i) t) y n=dt E (fun k=>dt (f k) y n) t
 |0=>by
  rw[dt]
  exact(ZmT hE t (fun k _=>by rw[dt])).symm
 |n+1=>by
  rw[dt,Ztv hE hy hf t n]
  have hl:El (fun k=>dt (f k) y n):=fun k=>Zld (hf k) hy n
  have hr:El (fun k=>f k n):=fun k=>hf k n
  have hr2:El (fun k=>Zar (f k n) (y n)):=fun k=>Zbl (hf k n) (hy n)
  have s:=ZfH hr hE (hy n) t
  rw[Zis hE hl t,Zis hE hr t,←s,←ZpU hl hr2 hE t,Zis (fun k=>ZbZ (hl k) (hr2 k)) hE t]
  exact ZaM _ (fun _ _=>rfl) (fun k _=>by rw[dt])
end Go.Proofs.Ytklbmkllepkjcaa
/- The locator polynomial: its equations have one solution, its roots are the places of the errors. No condition. -/
namespace Go.Proofs.Ytklbmkllepkjcaa
theorem Ztg{a b c d:Nat→Nat} :∀n,(∀k,k<n→Zar (a k) (b k)=Zar (c k) (d k))→dt a b n=dt c d n
 |0,_=>rfl
 |n+1,h=>by rw[dt,dt,Ztg n (fun k hk=>h k (by omega)),h n (by omega)]
theorem ZBO{y:Nat→Nat}(hy:El y){x:Nat}(hx:x<16):∀n,dt (fun i=>pw x (n-1-i)) y n=hn y x n
 |0=>rfl
 |n+1=>by
  have ih:=ZBO hy hx n
  rw[dt,hn,←ih,←ZfH (fun i=>Zbm hx _) hy hx]
  have e:Zar (pw x (n+1-1-n)) (y n)=y n:=by rw[show n+1-1-n=0 by omega,pw,Zm8 (hy n)]
  rw[e]
  congr 1
  refine ZaM n (fun i hi=>?_) (fun _ _=>rfl)
  rw[show n+1-1-i=n-1-i+1 by omega,pw]
theorem Zpa{q:Nat→Nat}(hq:El q){x:Nat}(hx:x<16):∀n,hn q x (n+1)=Zar (pw x n) (q 0) ^^^ hn (fun i=>q (i+1)) x n
 |0=>by rw[hn,hn,hn,Zdu hx,pw,Zm8 (hq 0),Nat.zero_xor,Nat.xor_zero]
 |n+1=>by
  have hq':El fun i=>q (i+1):=fun i=>hq (i+1)
  rw[hn,Zpa hq hx n]
  show _=_ ^^^ (Zar (hn (fun i=>q (i+1)) x n) x ^^^ q (n+1))
  rw[ZcL (Zbl (Zbm hx n) (hq 0)) (Zjy hq' hx n) hx,pw,ZaI (Zbm hx n) (hq 0) hx,ZaI (Zbm hx n) hx (hq 0),Za7 (hq 0) hx,Nat.xor_assoc]
def gK(x u i:Nat):Nat:=if i<u then pw x (u-1-i)else pw x u
theorem Zvo{x:Nat}(hx:x<16)(u:Nat):El (gK x u):=fun i=>by unfold gK;split<;>exact Zbm hx _
def WK(x u:Nat)(y:Nat→Nat):Nat:=dt (gK x u) y (u+1)
theorem ZyH{y:Nat→Nat}(hy:El y){x:Nat}(hx:x<16)(u:Nat):WK x u y=hn y x u ^^^ Zar (pw x u) (y u):=by
 unfold WK
 rw[dt,←ZBO hy hx u]
 congr 1
 ·exact ZaM u (fun i hi=>by rw[gK,if_pos hi]) (fun _ _=>rfl)
 ·rw[gK,if_neg (Nat.lt_irrefl _)]
section
variable {E X:Nat→Nat}{t:Nat}{s:List Int}(hE:El E)(hX:El X)(h0:∀k,k<t→E k≠0)(hx0:∀k,k<t→X k≠0)(hd:∀i j,i<t→j<t→X i=X j→i=j)
 (hs:∀m,m<s.length→s.getD m 0=((dt E (fun k=>pw (X k) (m+1)) t:Nat):Int))
include hE hX hs
theorem ZsR(u:Nat){y:Nat→Nat}(hy:El y){j:Nat}(hj:j+u<s.length):dt (poM s u j) y (u+1)=dt (fun k=>Zar (E k) (WK (X k) u y)) (fun k=>pw (X k) (j+1)) t:=by
 have hf:∀k,El fun i=>Zar (gK (X k) u i) (pw (X k) (j+1)):=fun k i=>Zbl (Zvo (hX k) u i) (Zbm (hX k) _)
 have e1:dt (poM s u j) y (u+1)=dt (fun i=>dt E (fun k=>Zar (gK (X k) u i) (pw (X k) (j+1))) t) y (u+1):=by
  refine ZaM _ (fun i hi=>?_) (fun _ _=>rfl)
  unfold poM
  by_cases h:i<u
  ·rw[if_pos h,hs _ (by omega),Int.toNat_natCast]
   refine ZaM t (fun _ _=>rfl) (fun k _=>?_)
   rw[gK,if_pos h,←ZrA (hX k)]
   congr 1;omega
  ·rw[if_neg h,if_pos (by omega),hs _ (by omega),Int.toNat_natCast]
   refine ZaM t (fun _ _=>rfl) (fun k _=>?_)
   rw[gK,if_neg h,←ZrA (hX k)]
   congr 1;omega
 rw[e1,Ztv hE hy hf]
 refine Ztg t fun k _=>?_
 rw[ZfH (Zvo (hX k) u) hy (Zbm (hX k) _),←ZaI (hE k) (Zld (Zvo (hX k) u) hy _) (Zbm (hX k) _)]
 rfl
include h0 hx0 hd
theorem ZpL{y:Nat→Nat}(hy:El y)(h2:2*t≤s.length)(hz:∀j,j<t→dt (poM s t j) y (t+1)=0):∀k,k<t→WK (X k) t y=0:=fun k hk=>by
 have hW:El fun k=>WK (X k) t y:=fun k=>Zld (Zvo (hX k) t) hy _
 have:=ZFC t (fun k=>Zar (E k) (WK (X k) t y)) X 1 (fun k=>Zbl (hE k) (hW k)) hX hx0 hd (fun j hj=>by
  rw[←hz j hj,ZsR hE hX hs t hy (by omega),Nat.add_comm 1 j]) k hk
 rcases ZbL (hE k) (hW k) this with h |h
 ·exact absurd h (h0 k hk)
 ·exact h
theorem ZzT{y:Nat→Nat}(hy:El y)(h2:2*t≤s.length)(hz:∀j,j<t→dt (poM s t j) y (t+1)=0)(h1:y t=0):∀k,k<t→y k=0:=
 Zgw t y X hy hX hd fun k hk=>by
  have:=ZpL hE hX h0 hx0 hd hs hy h2 hz k hk
  rw[ZyH hy (hX k),h1,ZbK (Zbm (hX k) _),Nat.xor_zero]at this
  exact this
theorem ZFr(hel:s.all elB=true)(h2:2*t≤s.length):∃B,poC s t=some (cN B t)∧ElM B∧∀k,k<t→WK (X k) t (fun j=>if j<t then B j t else 1)=0:=by
 have hA:=Zpq hel t
 have none_no:∀R,t≤R→elA R t 0 (poM s t)≠none:=fun R hR hn=>by
  obtain⟨y,y1,y2,y3,j,j1,j2⟩:=Zn1 (u:=t) t 0 _ hA (Zcy _ _) (by omega) hn
  exact j2 (ZzT hE hX h0 hx0 hd hs y1 h2 (fun j hj=>y2 j (by omega)) y3 j j1)
 obtain⟨B,hB⟩:=Option.ne_none_iff_exists'.1 (none_no (s.length-t) (by omega))
 obtain⟨B',hB'⟩:=Option.ne_none_iff_exists'.1 (none_no t (Nat.le_refl _))
 obtain⟨b1,b2,b3,b4⟩:=Ze6 (u:=t) t 0 _ B hA (Zcy _ _) (by omega) (fun _=>Nat.zero_le _) hB
 obtain⟨c1,c2,c3,c4⟩:=Ze6 (u:=t) t 0 _ B' hA (Zcy _ _) (by omega) (fun _=>Nat.zero_le _) hB'
 have hy:El (fun j=>if j<t then B' j t else 1):=fun j=>by
  show(if j<t then B' j t else 1)<16
  split
  ·exact c1 j t
  ·decide
 have hW:=ZpL hE hX h0 hx0 hd hs hy h2 ((c4 _ hy).1 ((Zll c1 c2 c3 hy (if_neg (Nat.lt_irrefl _))).2 ⟨fun j hj=>if_pos hj,fun i h1 h2=>by omega⟩))
 have hZ:ZA (poM s t) (s.length-t) t (fun j=>if j<t then B' j t else 1):=fun j hj=>by
  rw[ZsR hE hX hs t hy (by omega)]
  exact Zlq (fun k=>Zbm (hX k) _) t (fun k hk=>by rw[hW k hk,ZbK (hE k)])
 obtain⟨q1,q2⟩:=(Zll b1 b2 b3 hy (if_neg (Nat.lt_irrefl _))).1 ((b4 _ hy).2 hZ)
 refine⟨B,?_,b1,?_⟩
 ·unfold poC poB
  rw[hB]
  refine if_pos ?_
  unfold fiZ
  rw[List.all_eq_true]
  intro i hi
  rw[Bool.or_eq_true,decide_eq_true_eq,decide_eq_true_eq]
  by_cases h1:i<t
  ·exact Or.inl h1
  ·exact Or.inr (q2 i (by omega) (List.mem_range.1 hi))
 ·have e:(fun j=>if j<t then B j t else 1)=fun j=>if j<t then B' j t else 1:=by
   funext j
   by_cases hj:j<t
   ·have:=q1 j hj
    rw[if_pos hj]at this
    rw[if_pos hj,if_pos hj,this]
   ·rw[if_neg hj,if_neg hj]
  rw[e];exact hW
end
end Go.Proofs.Ytklbmkllepkjcaa
