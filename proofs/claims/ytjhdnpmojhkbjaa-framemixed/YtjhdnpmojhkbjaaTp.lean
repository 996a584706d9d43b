/- The code of the program, for the machine, part 1. Printed by gen2.py. -/
import Derived.Test.YtjhdnpmojhkbjaaYc
namespace Go.Proofs.Ytjhdnpmojhkbjaa
def ZIQ:ACode:=
 .seq (
 .seq (
 .reg none [
 mV 185 12,
 oN 186 (.len (.t 185)),
 oN 187 (.bin .gtr (.t 186) (cI 40))]) (
 .cond (.t 187) (
 .seq (
 .reg none [
 oN 6 (.mov (.c (.bool true)))]) (
 .ret)) (
 .skip))) (
 .seq (
 .reg (some [(0,5),(1,5),(2,5),(3,5)]) [
 oN 189 (.load true 2 (.t 3)),
 oN 190 (.faddr 0 (.t 4)),
 oN 191 (.faddr 0 (.t 190)),
 oN 192 (.load false 1 (.t 191)),
 mV 193 7,
 oN 194 (.ncall true 10195 17 [(.t 193)]),
 oN 195 (.ncall true 10196 16 [(.t 189),(.t 192),(.t 194)]),
 mV 188 195,
 oN 196 (.ext 0 (.t 188)),
 oN 197 (.ext 1 (.t 188)),
 mV 15 196,
 mV 16 197]) (
 .gh [.keep [3,4,7,12,15,16]] (
 .seq (
 .gh [.frz 12] (
 .reg (some [(0,5),(1,5),(2,5),(3,5)]) [
 oN 199 (.load true 2 (.t 3)),
 oN 200 (.faddr 0 (.t 4)),
 oN 201 (.faddr 0 (.t 200)),
 oN 202 (.load false 1 (.t 201)),
 mV 203 12,
 oN 204 (.ncall true 10205 17 [(.t 203)]),
 oN 205 (.ncall true 10206 16 [(.t 199),(.t 202),(.t 204)]),
 mV 198 205,
 oN 206 (.ext 0 (.t 198)),
 oN 207 (.ext 1 (.t 198)),
 mV 17 206,
 mV 18 207])) (
 .gh [.keep [3,4,7,12,15,16,17,18]] (
 .seq (
 .reg (some [(0,5),(1,5),(2,5),(3,5)]) [
 oN 209 (.load true 2 (.t 3)),
 oN 210 (.faddr 0 (.t 4)),
 oN 211 (.faddr 0 (.t 210)),
 oN 212 (.load false 1 (.t 211)),
 mV 213 12,
 oN 214 (.ncall true 10215 17 [(.t 213)]),
 oN 215 (.ncall true 0 58 [(.t 209),(.t 212),(.t 214)]),
 mV 208 215,
 oN 216 (.ext 0 (.t 208)),
 oN 217 (.ext 1 (.t 208)),
 mV 19 216,
 mV 20 217]) (
 .gh [.keep [3,4,7,12,15,16,17,18,19,20]] (
 .seq (
 .reg (some [(0,5),(1,5),(2,5),(3,5)]) [
 oN 219 (.load true 2 (.t 3)),
 oN 220 (.faddr 0 (.t 4)),
 oN 221 (.faddr 0 (.t 220)),
 oN 222 (.load false 1 (.t 221)),
 mV 223 12,
 oN 224 (.ncall true 10225 17 [(.t 223)]),
 oN 225 (.ncall true 10226 59 [(.t 219),(.t 222),(.t 224)]),
 mV 218 225,
 oN 226 (.ext 0 (.t 218)),
 oN 227 (.ext 1 (.t 218)),
 mV 21 226,
 mV 22 227]) (
 .gh [.keep [7,15,16,17,18,19,20,21,22]] (
 .seq (
 .reg none [
 mV 228 16,
 oN 229 (.bin .eql (.t 228) (cI 0)),
 mV 230 229,
 ⟨some 231,(some (230,true)), .mov (.t 18)⟩,
 ⟨some 232,(some (230,true)), .bin .eql (.t 231) (cI 0)⟩,
 oN 233 (.pick (.t 230) (.t 232) (.c (.bool false))),
 mV 234 233,
 ⟨some 235,(some (234,true)), .mov (.t 15)⟩,
 ⟨some 236,(some (234,true)), .mov (.t 17)⟩,
 ⟨some 237,(some (234,true)), .ncall true 0 21 [(.t 235),(.t 236)]⟩,
 oN 238 (.pick (.t 234) (.t 237) (.c (.bool false))),
 mV 239 238,
 ⟨some 240,(some (239,true)), .mov (.t 20)⟩,
 ⟨some 241,(some (239,true)), .bin .eql (.t 240) (cI 0)⟩,
 oN 242 (.pick (.t 239) (.t 241) (.c (.bool false))),
 mV 243 242,
 ⟨some 244,(some (243,true)), .mov (.t 19)⟩,
 ⟨some 245,(some (243,true)), .bin .eql (.t 244) (cI 0)⟩,
 oN 246 (.pick (.t 243) (.t 245) (.c (.bool false))),
 mV 247 246,
 ⟨some 248,(some (247,true)), .mov (.t 22)⟩,
 ⟨some 249,(some (247,true)), .bin .eql (.t 248) (cI 0)⟩,
 oN 250 (.pick (.t 247) (.t 249) (.c (.bool false))),
 mV 251 250,
 ⟨some 252,(some (251,true)), .mov (.t 21)⟩,
 ⟨some 253,(some (251,true)), .mov (.t 7)⟩,
 ⟨some 254,(some (251,true)), .ncall true 0 38 [(.t 252),(.t 253)]⟩,
 oN 255 (.pick (.t 251) (.t 254) (.c (.bool false))),
 mV 6 255]) (
 .gh [.keep [6]] (
 .ret)))))))))))
def Zqo:ACode:=
 .seq (
 .seq (
 .reg none [
 mV 139 13,
 mV 140 9,
 oN 141 (.len (.t 140)),
 oN 142 (.bin .lss (.t 139) (.t 141))]) (
 .cond (.t 142) (
 .skip) (
 .exit 2))) (
 .seq (
 .block 3 (
 .seq (
 .reg none [
 mV 145 12,
 mV 146 9,
 mV 147 13,
 oN 148 (.iaddr 4 (.t 146) (.t 147)),
 oN 149 (.load true 4 (.t 148)),
 oN 150 (.bslice 10151 74 4 [(.t 149)]),
 oN 151 (.append 10152 74 4 (.t 145) (.t 150)),
 mV 12 151]) (
 .gh [.keep [2,3,4,7,9,12,13]] (
 .seq (
 .reg none [
 mV 152 13,
 mV 153 2,
 oN 154 (.len (.t 153)),
 oN 155 (.bin .lss (.t 152) (.t 154)),
 mV 156 155,
 ⟨some 157,(some (156,true)), .mov (.t 2)⟩,
 ⟨some 158,(some (156,true)), .mov (.t 13)⟩,
 ⟨some 159,(some (156,true)), .iaddr 1 (.t 157) (.t 158)⟩,
 ⟨some 160,(some (156,true)), .load false 1 (.t 159)⟩,
 ⟨some 161,(some (156,true)), .ncall true 0 53 [(.t 160),(cI 3)]⟩,
 ⟨some 162,(some (156,true)), .bin .eql (.t 161) (cI 0)⟩,
 oN 163 (.pick (.t 156) (.t 162) (.c (.bool false)))]) (
 .gh [.keep [2,3,4,7,9,12,13,163]] (
 .cond (.t 163) (
 .seq (
 .reg none [
 mV 164 9,
 mV 165 13,
 oN 166 (.iaddr 4 (.t 164) (.t 165)),
 oN 167 (.load true 4 (.t 166)),
 oN 168 (.ncall true 10169 40 [(.t 167)]),
 oN 14 (.alloc 10015 74 (.agg (.gen [(.int .i64 0),(.int .i64 0),(.int .i64 0), .nils]))),
 ⟨none,none, .store 4 (.t 14) (.t 168)⟩]) (
 .seq (
 .reg none [
 oN 169 (.faddr 0 (.t 14)),
 oN 170 (.load false 1 (.t 169)),
 oN 171 (.bin .add (.t 170) (cI 1)),
 oN 172 (.faddr 1 (.t 3)),
 oN 173 (.load false 1 (.t 172)),
 oN 174 (.ncall true 0 53 [(.t 171),(.t 173)]),
 oN 175 (.faddr 0 (.t 14)),
 ⟨none,none, .store 1 (.t 175) (.t 174)⟩]) (
 .gh [.keep [2,3,4,7,9,12,13,14]] (
 .reg (some [(0,6),(0,7),(1,6)]) [
 mV 176 12,
 oN 177 (.load true 4 (.t 14)),
 mV 178 9,
 mV 179 13,
 oN 180 (.iaddr 4 (.t 178) (.t 179)),
 oN 181 (.load true 4 (.t 180)),
 oN 182 (.ncall true 10183 40 [(.t 181)]),
 oN 183 (.bslice 10184 74 4 [(.t 177),(.t 182)]),
 oN 184 (.append 10185 74 4 (.t 176) (.t 183)),
 mV 12 184])))) (
 .skip))))))) (
 .reg none [
 mV 143 13,
 oN 144 (.bin .add (.t 143) (cI 1)),
 mV 13 144]))
def ZI7:ACode:=.gh [.keep [2,3,4,7,9,12,13]] (.gh [] Zqo)
def ZIx:ACode:=
 .seq (
 .reg none [
 oN 12 (.mov (.c .nils))]) (
 .seq (
 .seq (
 .reg none [
 oN 13 (.mov (cI 0))]) (
 .block 2 (
 .loop ZI7))) ZIQ)
def Zyi:ACode:=
 .seq (
 .seq (
 .reg none [
 mV 103 10,
 mV 104 2,
 oN 105 (.len (.t 104)),
 oN 106 (.bin .lss (.t 103) (.t 105)),
 mV 107 106,
 ⟨some 108,(some (107,true)), .mov (.t 9)⟩,
 ⟨some 109,(some (107,true)), .len (.t 108)⟩,
 ⟨some 110,(some (107,true)), .bin .gtr (.t 109) (cI 2)⟩,
 oN 111 (.pick (.t 107) (.t 110) (.c (.bool false)))]) (
 .gh [.keep [2,3,4,7,9,10,111]] (
 .cond (.t 111) (
 .skip) (
 .exit 0)))) (
 .seq (
 .block 1 (
 .seq (
 .reg none [
 mV 114 2,
 mV 115 10,
 oN 116 (.iaddr 1 (.t 114) (.t 115)),
 oN 117 (.load false 1 (.t 116)),
 mV 118 9,
 oN 119 (.len (.t 118)),
 oN 120 (.bin .sub (.t 119) (cI 2)),
 oN 121 (.ncall true 0 53 [(.t 117),(.t 120)]),
 oN 122 (.bin .add (cI 1) (.t 121)),
 mV 11 122]) (
 .gh [.keep [2,3,4,7,9,10,11]] (
 .reg (some [(2,15),(3,15),(4,15)]) [
 mV 123 9,
 mV 124 11,
 mV 125 9,
 mV 126 11,
 oN 127 (.bin .add (.t 126) (cI 1)),
 mV 128 9,
 mV 129 11,
 oN 130 (.bin .add (.t 129) (cI 1)),
 oN 131 (.iaddr 4 (.t 128) (.t 130)),
 oN 132 (.load true 4 (.t 131)),
 mV 133 9,
 mV 134 11,
 oN 135 (.iaddr 4 (.t 133) (.t 134)),
 oN 136 (.load true 4 (.t 135)),
 oN 137 (.iaddr 4 (.t 123) (.t 124)),
 ⟨none,none, .store 4 (.t 137) (.t 132)⟩,
 oN 138 (.iaddr 4 (.t 125) (.t 127)),
 ⟨none,none, .store 4 (.t 138) (.t 136)⟩])))) (
 .reg none [
 mV 112 10,
 oN 113 (.bin .add (.t 112) (cI 1)),
 mV 10 113]))
def ZFV:ACode:=.gh [.keep [2,3,4,7,9,10]] (.gh [] Zyi)
def Ztk:List AItem:=.inLoop ZI7::[.inBlock 2,
 .code ZIQ]
def ZFQ:List AItem:=.inLoop ZFV::[.inBlock 0,
 .code ZIx]
def c10:ACode:=
 .seq (
 .reg none [
 oN 3 (.box 10004 23 (.t 0)),
 oN 4 (.box 10005 72 (.t 1)),
 oN 6 (.mov (.c (.bool false)))]) (
 .seq (
 .seq (
 .reg none [
 oN 23 (.ncall true 0 14 []),
 oN 24 (.not (.t 23))]) (
 .cond (.t 24) (
 .seq (
 .reg none [
 oN 6 (.mov (.c (.bool false)))]) (
 .ret)) (
 .skip))) (
 .seq (
 .seq (
 .reg none [
 oN 25 (.faddr 2 (.t 4)),
 oN 26 (.load false 1 (.t 25)),
 oN 27 (.len (.t 26)),
 oN 28 (.bin .gtr (.t 27) (cI 12)),
 mV 29 28,
 ⟨some 30,(some (29,false)), .mov (.t 2)⟩,
 ⟨some 31,(some (29,false)), .len (.t 30)⟩,
 ⟨some 32,(some (29,false)), .bin .gtr (.t 31) (cI 16)⟩,
 oN 33 (.pick (.t 29) (.c (.bool true)) (.t 32)),
 mV 34 33,
 ⟨some 35,(some (34,false)), .faddr 2 (.t 4)⟩,
 ⟨some 36,(some (34,false)), .load false 1 (.t 35)⟩,
 ⟨some 37,(some (34,false)), .ncall true 0 29 [(.t 36)]⟩,
 ⟨some 38,(some (34,false)), .not (.t 37)⟩,
 oN 39 (.pick (.t 34) (.c (.bool true)) (.t 38)),
 mV 40 39,
 ⟨some 41,(some (40,false)), .load true 2 (.t 3)⟩,
 ⟨some 42,(some (40,false)), .ncall true 0 18 [(.t 41)]⟩,
 ⟨some 43,(some (40,false)), .bin .neq (.t 42) (cI 0)⟩,
 oN 44 (.pick (.t 40) (.c (.bool true)) (.t 43)),
 mV 45 44,
 ⟨some 46,(some (45,false)), .faddr 1 (.t 3)⟩,
 ⟨some 47,(some (45,false)), .load false 1 (.t 46)⟩,
 ⟨some 48,(some (45,false)), .bin .lss (.t 47) (cI 2)⟩,
 oN 49 (.pick (.t 45) (.c (.bool true)) (.t 48)),
 mV 50 49,
 ⟨some 51,(some (50,false)), .load true 2 (.t 3)⟩,
 ⟨some 52,(some (50,false)), .faddr 0 (.t 4)⟩,
 ⟨some 53,(some (50,false)), .faddr 0 (.t 52)⟩,
 ⟨some 54,(some (50,false)), .load false 1 (.t 53)⟩,
 ⟨some 55,(some (50,false)), .ncall true 0 19 [(.t 51),(.t 54)]⟩,
 ⟨some 56,(some (50,false)), .bin .neq (.t 55) (cI 0)⟩,
 oN 57 (.pick (.t 50) (.c (.bool true)) (.t 56)),
 mV 58 57,
 ⟨some 59,(some (58,false)), .faddr 0 (.t 4)⟩,
 ⟨some 60,(some (58,false)), .faddr 1 (.t 59)⟩,
 ⟨some 61,(some (58,false)), .load false 1 (.t 60)⟩,
 ⟨some 62,(some (58,false)), .ncall true 0 27 [(.t 61),(cI 0),(cI 63)]⟩,
 ⟨some 63,(some (58,false)), .not (.t 62)⟩,
 oN 64 (.pick (.t 58) (.c (.bool true)) (.t 63)),
 mV 65 64,
 ⟨some 66,(some (65,false)), .faddr 2 (.t 4)⟩,
 ⟨some 67,(some (65,false)), .load false 1 (.t 66)⟩,
 ⟨some 68,(some (65,false)), .ncall true 0 36 [(.t 67)]⟩,
 ⟨some 69,(some (65,false)), .bin .neq (.t 68) (cI 0)⟩,
 oN 70 (.pick (.t 65) (.c (.bool true)) (.t 69)),
 mV 71 70,
 ⟨some 72,(some (71,false)), .load true 2 (.t 3)⟩,
 ⟨some 73,(some (71,false)), .faddr 2 (.t 4)⟩,
 ⟨some 74,(some (71,false)), .load false 1 (.t 73)⟩,
 ⟨some 75,(some (71,false)), .ncall true 0 37 [(.t 72),(.t 74)]⟩,
 ⟨some 76,(some (71,false)), .bin .gtr (.t 75) (cI 16)⟩,
 oN 77 (.pick (.t 71) (.c (.bool true)) (.t 76))]) (
 .gh [.keep [2,3,4,77]] (
 .cond (.t 77) (
 .seq (
 .reg none [
 oN 6 (.mov (.c (.bool true)))]) (
 .ret)) (
 .skip)))) (
 .seq (
 .reg (some [(0,5),(1,5),(2,5)]) [
 oN 79 (.load true 2 (.t 3)),
 oN 80 (.faddr 0 (.t 4)),
 oN 81 (.load true 2 (.t 80)),
 oN 82 (.faddr 2 (.t 4)),
 oN 83 (.load false 1 (.t 82)),
 oN 84 (.ncall true 10085 34 [(.t 83)]),
 oN 85 (.ncall true 10086 35 [(.t 79),(.t 81),(.t 84)]),
 mV 78 85,
 oN 86 (.ext 0 (.t 78)),
 oN 87 (.ext 1 (.t 78)),
 mV 7 86,
 mV 8 87]) (
 .gh [.keep [2,3,4,7,8]] (
 .seq (
 .seq (
 .reg none [
 mV 88 8,
 oN 89 (.bin .neq (.t 88) (cI 0)),
 mV 90 89,
 ⟨some 91,(some (90,false)), .mov (.t 7)⟩,
 ⟨some 92,(some (90,false)), .len (.t 91)⟩,
 ⟨some 93,(some (90,false)), .bin .gtr (.t 92) (cI 16)⟩,
 oN 94 (.pick (.t 90) (.c (.bool true)) (.t 93)),
 mV 95 94,
 ⟨some 96,(some (95,false)), .load true 2 (.t 3)⟩,
 ⟨some 97,(some (95,false)), .mov (.t 7)⟩,
 ⟨some 98,(some (95,false)), .ncall true 0 20 [(.t 96),(.t 97)]⟩,
 ⟨some 99,(some (95,false)), .bin .neq (.t 98) (cI 0)⟩,
 oN 100 (.pick (.t 95) (.c (.bool true)) (.t 99))]) (
 .gh [.keep [2,3,4,7,100]] (
 .cond (.t 100) (
 .seq (
 .reg none [
 oN 6 (.mov (.c (.bool false)))]) (
 .ret)) (
 .skip)))) (
 .seq (
 .reg none [
 mV 101 7,
 oN 102 (.ncall true 10103 17 [(.t 101)]),
 mV 9 102]) (
 .seq (
 .seq (
 .reg none [
 oN 10 (.mov (cI 0))]) (
 .block 0 (
 .loop ZFV))) ZIx)))))))
def a10:AFunc:=⟨256,c10,[.tmp 6]⟩
def c14:ACode:=
 .seq (
 .reg none [
 oN 0 (.mov (.c (.bool false)))]) (
 .seq (
 .reg none [
 oN 12 (.bslice 14013 3 1 [(cI 1),(cI 5),(cI 0),(cI 7),(cI 0),(cI 0),(cI 255)]),
 oN 13 (.ncall true 0 60 [(.t 12)]),
 mV 11 13,
 oN 14 (.ext 0 (.t 11)),
 oN 15 (.ext 1 (.t 11)),
 mV 1 14,
 mV 2 15]) (
 .seq (
 .reg none [
 oN 17 (.ncall true 0 75 []),
 oN 18 (.build (.gen [(.int .i64 0),(.int .i64 0)]) []),
 oN 19 (.ncall true 14020 76 []),
 oN 20 (.ncall true 14021 35 [(.t 17),(.t 18),(.t 19)]),
 mV 16 20,
 oN 21 (.ext 0 (.t 16)),
 oN 22 (.ext 1 (.t 16)),
 mV 3 21,
 mV 4 22]) (
 .gh [.keep [1,2,3,4]] (
 .seq (
 .reg none [
 oN 24 (.ncall true 0 75 []),
 mV 25 3,
 oN 26 (.ncall true 14027 17 [(.t 25)]),
 oN 27 (.ncall true 14028 16 [(.t 24),(cI 0),(.t 26)]),
 mV 23 27,
 oN 28 (.ext 0 (.t 23)),
 oN 29 (.ext 1 (.t 23)),
 mV 5 28,
 mV 6 29]) (
 .gh [.keep [1,2,3,4,5,6]] (
 .seq (
 .reg none [
 oN 31 (.ncall true 14032 77 []),
 oN 32 (.ncall true 0 42 [(.t 31)]),
 mV 30 32,
 oN 33 (.ext 0 (.t 30)),
 oN 34 (.ext 1 (.t 30)),
 oN 7 (.alloc 14008 80 (.agg (.ints .i64 [0,0,0,0]))),
 ⟨none,none, .store 4 (.t 7) (.t 33)⟩,
 mV 8 34]) (
 .seq (
 .reg none [
 oN 36 (.ncall true 14037 77 []),
 oN 37 (.ncall true 0 23 [(.t 36),(cI 30)]),
 mV 35 37,
 oN 38 (.ext 0 (.t 35)),
 oN 39 (.ext 1 (.t 35)),
 oN 9 (.alloc 14010 40 (.agg (.gen [(.int .i64 0),(.int .i64 0)]))),
 ⟨none,none, .store 2 (.t 9) (.t 38)⟩,
 mV 10 39]) (
 .seq (
 .reg none [
 mV 40 2,
 oN 41 (.bin .eql (.t 40) (cI 0)),
 mV 42 41,
 ⟨some 43,(some (42,true)), .mov (.t 1)⟩,
 ⟨some 44,(some (42,true)), .bin .eql (.t 43) (cI 4684)⟩,
 oN 45 (.pick (.t 42) (.t 44) (.c (.bool false))),
 mV 46 45,
 ⟨some 47,(some (46,true)), .mov (.t 4)⟩,
 ⟨some 48,(some (46,true)), .bin .eql (.t 47) (cI 0)⟩,
 oN 49 (.pick (.t 46) (.t 48) (.c (.bool false))),
 mV 50 49,
 ⟨some 51,(some (50,true)), .mov (.t 3)⟩,
 ⟨some 52,(some (50,true)), .len (.t 51)⟩,
 ⟨some 53,(some (50,true)), .bin .eql (.t 52) (cI 3)⟩,
 oN 54 (.pick (.t 50) (.t 53) (.c (.bool false))),
 mV 55 54,
 ⟨some 56,(some (55,true)), .mov (.t 3)⟩,
 ⟨some 57,(some (55,true)), .iaddr 4 (.t 56) (cI 2)⟩,
 ⟨some 58,(some (55,true)), .faddr 3 (.t 57)⟩,
 ⟨some 59,(some (55,true)), .load false 1 (.t 58)⟩,
 ⟨some 60,(some (55,true)), .bslice 14061 3 1 [(cI 3),(cI 255),(cI 0),(cI 0)]⟩,
 ⟨some 61,(some (55,true)), .ncall true 0 67 [(.t 59),(.t 60)]⟩,
 oN 62 (.pick (.t 55) (.t 61) (.c (.bool false))),
 mV 63 62,
 ⟨some 64,(some (63,true)), .mov (.t 6)⟩,
 ⟨some 65,(some (63,true)), .bin .eql (.t 64) (cI 0)⟩,
 oN 66 (.pick (.t 63) (.t 65) (.c (.bool false))),
 mV 67 66,
 ⟨some 68,(some (67,true)), .mov (.t 5)⟩,
 ⟨some 69,(some (67,true)), .ncall true 14070 76 []⟩,
 ⟨some 70,(some (67,true)), .ncall true 0 21 [(.t 68),(.t 69)]⟩,
 oN 71 (.pick (.t 67) (.t 70) (.c (.bool false))),
 mV 72 71,
 ⟨some 73,(some (72,true)), .mov (.t 8)⟩,
 ⟨some 74,(some (72,true)), .bin .eql (.t 73) (cI 0)⟩,
 oN 75 (.pick (.t 72) (.t 74) (.c (.bool false))),
 mV 76 75,
 ⟨some 77,(some (76,true)), .load true 4 (.t 7)⟩,
 ⟨some 78,(some (76,true)), .build (.gen [(.int .i64 0),(.int .i64 0)]) [(0,1,(cI 19)),(1,1,(cI 10))]⟩,
 ⟨some 79,(some (76,true)), .build (.gen [(.int .i64 0),(.int .i64 0)]) [(0,1,(cI 41)),(1,1,(cI 20))]⟩,
 ⟨some 80,(some (76,true)), .build (.ints .i64 [0,0,0,0]) [(0,2,(.t 78)),(2,2,(.t 79))]⟩,
 ⟨some 81,(some (76,true)), .aeq false [.i, .i, .i, .i] (.t 77) (.t 80)⟩,
 oN 82 (.pick (.t 76) (.t 81) (.c (.bool false))),
 mV 83 82,
 ⟨some 84,(some (83,true)), .mov (.t 10)⟩,
 ⟨some 85,(some (83,true)), .bin .eql (.t 84) (cI 0)⟩,
 oN 86 (.pick (.t 83) (.t 85) (.c (.bool false))),
 mV 87 86,
 ⟨some 88,(some (87,true)), .load true 2 (.t 9)⟩,
 ⟨some 89,(some (87,true)), .build (.gen [(.int .i64 0),(.int .i64 0)]) [(0,1,(cI 69)),(1,1,(cI 72))]⟩,
 ⟨some 90,(some (87,true)), .aeq false [.i, .i] (.t 88) (.t 89)⟩,
 oN 91 (.pick (.t 87) (.t 90) (.c (.bool false))),
 mV 0 91]) (
 .gh [.keep [0]] (
 .ret))))))))))
def a14:AFunc:=⟨92,c14,[.tmp 0]⟩
def ZIb:ACode:=
 .seq (
 .reg none [
 oN 43 (.faddr 2 (.t 10)),
 oN 44 (.load false 1 (.t 43)),
 mV 6 44,
 oN 7 (.mov (cI 0))]) (
 .ret)
def ZqT:ACode:=
 .seq (
 .reg none [
 oN 29 (.bin .lss (.t 28) (.t 27))]) (
 .seq (
 .cond (.t 29) (
 .skip) (
 .exit 0)) (
 .seq (
 .block 1 (
 .seq (
 .reg none [
 oN 30 (.iaddr 5 (.t 26) (.t 28)),
 oN 31 (.load true 5 (.t 30)),
 oN 13 (.alloc 16014 140 (.agg (.gen [(.int .i64 0),(.int .i64 0),(.int .i64 0), .nils,(.int .i64 0)]))),
 ⟨none,none, .store 5 (.t 13) (.t 31)⟩]) (
 .seq (
 .reg none [
 oN 32 (.faddr 0 (.t 13)),
 oN 33 (.load true 4 (.t 32)),
 oN 34 (.faddr 4 (.t 13)),
 oN 35 (.load false 1 (.t 34)),
 mV 36 11,
 oN 37 (.bin .add (.t 36) (cI 1)),
 oN 38 (.bin .eql (.t 35) (.t 37)),
 oN 39 (.icall 80 [(.t 10),(.t 33),(.t 38)])]) (
 .gh [.keep [10,13,26,27,28]] (
 .reg none [
 oN 40 (.faddr 4 (.t 13)),
 oN 41 (.load false 1 (.t 40)),
 mV 11 41]))))) (
 .reg none [
 oN 42 (.bin .add (.t 28) (cI 1)),
 mV 28 42])))
def ZJj:ACode:=.gh [.keep [10,11,26,27,28]] (.gh [] ZqT)
def ZoM:List AItem:=.inLoop ZJj::[.inBlock 0,
 .code ZIb]
def c16:ACode:=
 .seq (
 .reg none [
 oN 3 (.box 16004 23 (.t 0)),
 oN 6 (.mov (.c .nils)),
 oN 7 (.mov (cI 0))]) (
 .seq (
 .seq (
 .reg none [
 oN 15 (.load true 2 (.t 3)),
 mV 16 1,
 mV 17 2,
 oN 18 (.ncall true 0 78 [(.t 15),(.t 16),(.t 17)]),
 mV 14 18,
 oN 19 (.ext 0 (.t 14)),
 oN 20 (.ext 1 (.t 14)),
 oN 8 (.alloc 16009 132 (.agg (.gen [(.int .i64 0),(.int .i64 0)]))),
 ⟨none,none, .store 2 (.t 8) (.t 19)⟩,
 mV 9 20]) (
 .gh [.keep [1,2,9]] (
 .seq (
 .reg none [
 mV 21 9,
 oN 22 (.bin .neq (.t 21) (cI 0))]) (
 .cond (.t 22) (
 .seq (
 .reg none [
 mV 23 9,
 oN 6 (.mov (.c .nils)),
 mV 7 23]) (
 .ret)) (
 .skip))))) (
 .seq (
 .reg none [
 oN 10 (.alloc 16011 136 (.agg (.gen [(.bool false), .nils, .nils])))]) (
 .seq (
 .reg none [
 oN 11 (.mov (cI 0))]) (
 .seq (
 .seq (
 .reg none [
 mV 24 1,
 mV 25 2,
 oN 26 (.ncall true 16027 79 [(.t 24),(.t 25)]),
 oN 27 (.len (.t 26)),
 oN 28 (.mov (cI 0))]) (
 .block 0 (
 .loop ZJj))) ZIb))))
def a16:AFunc:=⟨45,c16,[.tmp 6, .tmp 7]⟩
def ZFo:ACode:=
 .seq (
 .reg none [
 mV 19 3,
 mV 2 19]) (
 .ret)
def ZxF:ACode:=
 .seq (
 .seq (
 .reg none [
 mV 5 4,
 mV 6 0,
 oN 7 (.len (.t 6)),
 oN 8 (.bin .lss (.t 5) (.t 7))]) (
 .cond (.t 8) (
 .skip) (
 .exit 0))) (
 .seq (
 .block 1 (
 .reg none [
 mV 11 3,
 mV 12 0,
 mV 13 4,
 oN 14 (.iaddr 4 (.t 12) (.t 13)),
 oN 15 (.load true 4 (.t 14)),
 oN 16 (.ncall true 17017 40 [(.t 15)]),
 oN 17 (.bslice 17018 74 4 [(.t 16)]),
 oN 18 (.append 17019 74 4 (.t 11) (.t 17)),
 mV 3 18])) (
 .reg none [
 mV 9 4,
 oN 10 (.bin .add (.t 9) (cI 1)),
 mV 4 10]))
def ZI3:ACode:=.gh [.keep [0,3,4]] (.gh [] ZxF)
def ZIG:List AItem:=.inLoop ZI3::[.inBlock 0,
 .code ZFo]
def c17:ACode:=
 .seq (
 .reg none [
 oN 2 (.mov (.c .nils))]) (
 .seq (
 .reg none [
 oN 3 (.mov (.c .nils))]) (
 .seq (
 .seq (
 .reg none [
 oN 4 (.mov (cI 0))]) (
 .block 0 (
 .loop ZI3))) ZFo))
def a17:AFunc:=⟨20,c17,[.tmp 2]⟩
def c18:ACode:=
 .seq (
 .reg none [
 oN 1 (.box 18002 23 (.t 0)),
 oN 2 (.mov (cI 0))]) (
 .seq (
 .seq (
 .reg none [
 oN 3 (.faddr 0 (.t 1)),
 oN 4 (.load false 1 (.t 3)),
 oN 5 (.ncall true 0 27 [(.t 4),(cI 4),(cI 24)]),
 oN 6 (.not (.t 5)),
 mV 7 6,
 ⟨some 8,(some (7,false)), .faddr 1 (.t 1)⟩,
 ⟨some 9,(some (7,false)), .load false 1 (.t 8)⟩,
 ⟨some 10,(some (7,false)), .ncall true 0 27 [(.t 9),(cI 1),(cI 4)]⟩,
 ⟨some 11,(some (7,false)), .not (.t 10)⟩,
 oN 12 (.pick (.t 7) (.c (.bool true)) (.t 11))]) (
 .gh [.keep [12]] (
 .cond (.t 12) (
 .seq (
 .reg none [
 oN 2 (.mov (cI 2))]) (
 .ret)) (
 .skip)))) (
 .seq (
 .reg none [
 oN 2 (.mov (cI 0))]) (
 .ret)))
def a18:AFunc:=⟨13,c18,[.tmp 2]⟩
def c19:ACode:=
 .seq (
 .reg none [
 oN 2 (.box 19003 23 (.t 0)),
 oN 4 (.mov (cI 0))]) (
 .seq (
 .seq (
 .reg none [
 mV 5 1,
 oN 6 (.faddr 1 (.t 2)),
 oN 7 (.load false 1 (.t 6)),
 oN 8 (.bin .sub (.t 7) (cI 1)),
 oN 9 (.ncall true 0 27 [(.t 5),(cI 0),(.t 8)]),
 oN 10 (.not (.t 9))]) (
 .cond (.t 10) (
 .seq (
 .reg none [
 oN 4 (.mov (cI 6))]) (
 .ret)) (
 .skip))) (
 .seq (
 .reg none [
 oN 4 (.mov (cI 0))]) (
 .ret)))
def a19:AFunc:=⟨11,c19,[.tmp 4]⟩
def ZGa:ACode:=
 .seq (
 .seq (
 .reg none [
 mV 10 5,
 mV 11 1,
 oN 12 (.len (.t 11)),
 oN 13 (.bin .lss (.t 10) (.t 12))]) (
 .cond (.t 13) (
 .skip) (
 .exit 0))) (
 .seq (
 .block 1 (
 .seq (
 .reg (some []) [
 oN 16 (.load true 2 (.t 2)),
 mV 17 1,
 mV 18 5,
 oN 19 (.iaddr 4 (.t 17) (.t 18)),
 oN 20 (.load true 4 (.t 19)),
 oN 21 (.ncall true 0 64 [(.t 16),(.t 20)]),
 mV 6 21]) (
 .gh [.keep [1,2,5,6]] (
 .seq (
 .reg none [
 mV 22 6,
 oN 23 (.bin .neq (.t 22) (cI 0))]) (
 .cond (.t 23) (
 .seq (
 .reg none [
 mV 24 6,
 mV 4 24]) (
 .ret)) (
 .skip)))))) (
 .reg none [
 mV 14 5,
 oN 15 (.bin .add (.t 14) (cI 1)),
 mV 5 15]))
def ZDE:ACode:=.gh [.keep [1,2,5]] (.gh [] ZGa)
def ZLb:List AItem:=.inLoop ZDE::[.inBlock 0,
 .code (.seq (
 .reg none [
 oN 4 (.mov (cI 0))]) (
 .ret))]
def c20:ACode:=
 .seq (
 .reg none [
 oN 2 (.box 20003 23 (.t 0)),
 oN 4 (.mov (cI 0))]) (
 .seq (
 .seq (
 .reg none [
 mV 7 1,
 oN 8 (.len (.t 7)),
 oN 9 (.bin .gtr (.t 8) (cI 40))]) (
 .cond (.t 9) (
 .seq (
 .reg none [
 oN 4 (.mov (cI 8))]) (
 .ret)) (
 .skip))) (
 .seq (
 .seq (
 .reg none [
 oN 5 (.mov (cI 0))]) (
 .block 0 (
 .loop ZDE))) (
 .seq (
 .reg none [
 oN 4 (.mov (cI 0))]) (
 .ret))))
def a20:AFunc:=⟨25,c20,[.tmp 4]⟩
def ZC6:ACode:=
 .seq (
 .reg none [
 oN 4 (.mov (.c (.bool true)))]) (
 .ret)
def ZDh:ACode:=
 .seq (
 .seq (
 .reg none [
 mV 11 5,
 mV 12 0,
 oN 13 (.len (.t 12)),
 oN 14 (.bin .lss (.t 11) (.t 13))]) (
 .cond (.t 14) (
 .skip) (
 .exit 0))) (
 .seq (
 .block 1 (
 .seq (
 .reg (some []) [
 mV 17 0,
 mV 18 5,
 oN 19 (.iaddr 3 (.t 17) (.t 18)),
 oN 20 (.load true 3 (.t 19)),
 mV 21 1,
 mV 22 5,
 oN 23 (.iaddr 3 (.t 21) (.t 22)),
 oN 24 (.load true 3 (.t 23)),
 oN 25 (.ncall true 0 81 [(.t 20),(.t 24)]),
 oN 26 (.not (.t 25))]) (
 .gh [.keep [0,1,5,26]] (
 .cond (.t 26) (
 .seq (
 .reg none [
 oN 4 (.mov (.c (.bool false)))]) (
 .ret)) (
 .skip))))) (
 .reg none [
 mV 15 5,
 oN 16 (.bin .add (.t 15) (cI 1)),
 mV 5 16]))
def ZFF:ACode:=.gh [.keep [0,1,5]] (.gh [] ZDh)
def ZKw:List AItem:=.inLoop ZFF::[.inBlock 0,
 .code ZC6]
def c21:ACode:=
 .seq (
 .reg none [
 oN 4 (.mov (.c (.bool false)))]) (
 .seq (
 .seq (
 .reg none [
 mV 6 0,
 oN 7 (.len (.t 6)),
 mV 8 1,
 oN 9 (.len (.t 8)),
 oN 10 (.bin .neq (.t 7) (.t 9))]) (
 .cond (.t 10) (
 .seq (
 .reg none [
 oN 4 (.mov (.c (.bool false)))]) (
 .ret)) (
 .skip))) (
 .seq (
 .seq (
 .reg none [
 oN 5 (.mov (cI 0))]) (
 .block 0 (
 .loop ZFF))) ZC6))
def a21:AFunc:=⟨27,c21,[.tmp 4]⟩
def c23:ACode:=
 .seq (
 .reg none [
 oN 3 (.box 23004 3 (.t 1)),
 oN 4 (.alloc 23005 40 (.agg (.gen [(.int .i64 0),(.int .i64 0)]))),
 oN 5 (.mov (cI 0))]) (
 .seq (
 .seq (
 .reg (some []) [
 mV 12 0,
 oN 13 (.ncall true 0 85 [(.t 12)]),
 oN 14 (.load false 1 (.t 3)),
 oN 15 (.ncall true 0 87 [(.t 14),(cI 0),(cI 1000000)]),
 oN 16 (.ncall true 0 86 [(.t 15),(cI 2)]),
 oN 17 (.bslice 23018 28 1 [(.t 13),(.t 16)]),
 oN 18 (.ncall true 0 84 [(.t 17)]),
 mV 6 18]) (
 .gh [.keep [0,3,4,5,6]] (
 .seq (
 .reg none [
 mV 19 6,
 oN 20 (.bin .neq (.t 19) (cI 0))]) (
 .cond (.t 20) (
 .seq (
 .reg none [
 oN 21 (.build (.gen [(.int .i64 0),(.int .i64 0)]) []),
 mV 22 6,
 ⟨none,none, .store 2 (.t 4) (.t 21)⟩,
 mV 5 22]) (
 .ret)) (
 .skip))))) (
 .seq (
 .reg none [
 oN 7 (.alloc 23008 40 (.agg (.gen [(.int .i64 0),(.int .i64 0)])))]) (
 .seq (
 .reg none [
 oN 8 (.alloc 23009 4 (.bool false)),
 ⟨none,none, .store 1 (.t 8) (.c (.bool false))⟩]) (
 .seq (
 .seq (
 .reg none [
 mV 23 0,
 oN 24 (.ncall true 0 88 [(.t 23)])]) (
 .block 0 (
 .rf 23901 (.t 24) [25] (
 .reg none [
 oN 9 (.alloc 23010 152 (.agg (.gen [(.int .i64 0),(.int .i64 0),(.int .i64 0),(.int .i64 0)]))),
 ⟨none,none, .store 4 (.t 9) (.t 25)⟩]) (
 .block 1 (
 .seq (
 .reg none [
 oN 26 (.load true 4 (.t 9)),
 oN 27 (.load false 1 (.t 3)),
 oN 28 (.ncall true 0 89 [(.t 26),(.t 27)]),
 mV 10 28]) (
 .seq (
 .reg (some [(0,11),(1,11),(2,11),(3,11),(4,11),(5,11),(6,11),(7,11),(8,11),(9,11),(10,11)]) [
 mV 29 10,
 oN 30 (.load true 4 (.t 9)),
 oN 31 (.ncall true 0 91 [(.t 30)]),
 oN 32 (.ncall true 0 90 [(.t 29),(.t 31)]),
 mV 33 10,
 oN 34 (.neg (.t 33)),
 oN 35 (.load true 4 (.t 9)),
 oN 36 (.ncall true 0 91 [(.t 35)]),
 oN 37 (.ncall true 0 90 [(.t 34),(.t 36)]),
 oN 38 (.neg (.t 37)),
 oN 39 (.build (.gen [(.int .i64 0),(.int .i64 0)]) [(0,1,(.t 32)),(1,1,(.t 38))]),
 oN 11 (.alloc 23012 40 (.agg (.gen [(.int .i64 0),(.int .i64 0)]))),
 ⟨none,none, .store 2 (.t 11) (.t 39)⟩]) (
 .gh [.keep [3,4,5,7,8,11]] (
 .seq (
 .seq (
 .reg none [
 oN 40 (.load false 1 (.t 8)),
 oN 41 (.not (.t 40))]) (
 .cond (.t 41) (
 .reg none [
 oN 42 (.load true 2 (.t 11)),
 ⟨none,none, .store 2 (.t 7) (.t 42)⟩,
 ⟨none,none, .store 1 (.t 8) (.c (.bool true))⟩]) (
 .skip))) (
 .reg none [
 oN 43 (.faddr 0 (.t 7)),
 oN 44 (.load false 1 (.t 43)),
 oN 45 (.faddr 0 (.t 11)),
 oN 46 (.load false 1 (.t 45)),
 oN 47 (.mm false (.t 44) (.t 46)),
 oN 48 (.faddr 1 (.t 7)),
 oN 49 (.load false 1 (.t 48)),
 oN 50 (.faddr 1 (.t 11)),
 oN 51 (.load false 1 (.t 50)),
 oN 52 (.mm true (.t 49) (.t 51)),
 oN 53 (.build (.gen [(.int .i64 0),(.int .i64 0)]) [(0,1,(.t 47)),(1,1,(.t 52))]),
 ⟨none,none, .store 2 (.t 7) (.t 53)⟩]))))))))) (
 .seq (
 .reg none [
 oN 54 (.load true 2 (.t 7)),
 ⟨none,none, .store 2 (.t 4) (.t 54)⟩,
 oN 5 (.mov (cI 0))]) (
 .ret))))))
def a23:AFunc:=⟨55,c23,[.cell 4 true 2, .tmp 5]⟩
def c27:ACode:=
 .seq (
 .reg none [
 oN 6 (.mov (.c (.bool false)))]) (
 .seq (
 .reg none [
 mV 7 1,
 mV 8 0,
 oN 9 (.bin .leq (.t 7) (.t 8)),
 mV 10 9,
 ⟨some 11,(some (10,true)), .mov (.t 0)⟩,
 ⟨some 12,(some (10,true)), .mov (.t 2)⟩,
 ⟨some 13,(some (10,true)), .bin .leq (.t 11) (.t 12)⟩,
 oN 14 (.pick (.t 10) (.t 13) (.c (.bool false))),
 mV 6 14]) (
 .gh [.keep [6]] (
 .ret)))
def a27:AFunc:=⟨15,c27,[.tmp 6]⟩
def ZGz:ACode:=
 .seq (
 .reg none [
 oN 2 (.mov (.c (.bool true)))]) (
 .ret)
def ZEq:ACode:=
 .seq (
 .seq (
 .reg none [
 mV 7 3,
 mV 8 0,
 oN 9 (.len (.t 8)),
 oN 10 (.bin .lss (.t 7) (.t 9))]) (
 .cond (.t 10) (
 .skip) (
 .exit 0))) (
 .seq (
 .block 1 (
 .seq (
 .reg none [
 mV 13 0,
 mV 14 3,
 oN 15 (.iaddr 3 (.t 13) (.t 14)),
 oN 16 (.faddr 2 (.t 15)),
 oN 17 (.load false 1 (.t 16)),
 oN 18 (.len (.t 17)),
 oN 19 (.bin .gtr (.t 18) (cI 42))]) (
 .gh [.keep [0,3,19]] (
 .cond (.t 19) (
 .seq (
 .reg none [
 oN 2 (.mov (.c (.bool false)))]) (
 .ret)) (
 .skip))))) (
 .reg none [
 mV 11 3,
 oN 12 (.bin .add (.t 11) (cI 1)),
 mV 3 12]))
def ZDe:ACode:=.gh [.keep [0,3]] (.gh [] ZEq)
def ZKc:List AItem:=.inLoop ZDe::[.inBlock 0,
 .code ZGz]
def c29:ACode:=
 .seq (
 .reg none [
 oN 2 (.mov (.c (.bool false)))]) (
 .seq (
 .seq (
 .reg none [
 mV 4 0,
 oN 5 (.len (.t 4)),
 oN 6 (.bin .gtr (.t 5) (cI 22))]) (
 .cond (.t 6) (
 .seq (
 .reg none [
 oN 2 (.mov (.c (.bool false)))]) (
 .ret)) (
 .skip))) (
 .seq (
 .seq (
 .reg none [
 oN 3 (.mov (cI 0))]) (
 .block 0 (
 .loop ZDe))) ZGz))
def a29:AFunc:=⟨20,c29,[.tmp 2]⟩
def c30:ACode:=
 .seq (
 .reg none [
 oN 1 (.box 30002 57 (.t 0)),
 oN 2 (.mov (cI 0))]) (
 .seq (
 .reg (some []) [
 oN 3 (.faddr 0 (.t 1)),
 oN 4 (.load false 1 (.t 3)),
 oN 5 (.ncall true 0 93 [(.t 4)]),
 mV 6 5,
 ⟨some 7,(some (6,true)), .faddr 1 (.t 1)⟩,
 ⟨some 8,(some (6,true)), .load false 1 (.t 7)⟩,
 ⟨some 9,(some (6,true)), .ncall true 0 93 [(.t 8)]⟩,
 oN 10 (.pick (.t 6) (.t 9) (.c (.bool false))),
 oN 11 (.ncall true 0 86 [(.t 10),(cI 2)]),
 oN 12 (.faddr 2 (.t 1)),
 oN 13 (.load false 1 (.t 12)),
 oN 14 (.len (.t 13)),
 oN 15 (.bin .leq (.t 14) (cI 40)),
 oN 16 (.ncall true 0 86 [(.t 15),(cI 8)]),
 oN 17 (.faddr 2 (.t 1)),
 oN 18 (.load false 1 (.t 17)),
 oN 19 (.ncall true 0 94 [(.t 18)]),
 oN 20 (.bslice 30021 28 1 [(.t 11),(.t 16),(.t 19)]),
 oN 21 (.ncall true 0 84 [(.t 20)]),
 mV 2 21]) (
 .gh [.keep [2]] (
 .ret)))
def a30:AFunc:=⟨22,c30,[.tmp 2]⟩
def c31:ACode:=
 .seq (
 .reg none [
 oN 1 (.box 31002 57 (.t 0)),
 oN 2 (.alloc 31003 57 (.agg (.gen [(.int .i64 0),(.int .i64 0), .nils])))]) (
 .seq (
 .reg none [
 oN 3 (.faddr 2 (.t 1)),
 oN 4 (.load false 1 (.t 3)),
 oN 5 (.ncall true 31006 55 [(.t 4)]),
 oN 6 (.faddr 2 (.t 1)),
 ⟨none,none, .store 1 (.t 6) (.t 5)⟩]) (
 .seq (
 .reg none [
 oN 7 (.load true 3 (.t 1)),
 ⟨none,none, .store 3 (.t 2) (.t 7)⟩]) (
 .ret)))
def a31:AFunc:=⟨8,c31,[.cell 2 true 3]⟩
def c32:ACode:=
 .seq (
 .reg none [
 oN 1 (.box 32002 57 (.t 0)),
 oN 2 (.mov (cI 0))]) (
 .seq (
 .seq (
 .reg none [
 oN 3 (.faddr 0 (.t 1)),
 oN 4 (.load false 1 (.t 3)),
 oN 5 (.ncall true 0 27 [(.t 4),(cI 0),(cI 255)]),
 oN 6 (.not (.t 5)),
 mV 7 6,
 ⟨some 8,(some (7,false)), .faddr 1 (.t 1)⟩,
 ⟨some 9,(some (7,false)), .load false 1 (.t 8)⟩,
 ⟨some 10,(some (7,false)), .ncall true 0 27 [(.t 9),(cI 0),(cI 255)]⟩,
 ⟨some 11,(some (7,false)), .not (.t 10)⟩,
 oN 12 (.pick (.t 7) (.c (.bool true)) (.t 11))]) (
 .gh [.keep [1,12]] (
 .cond (.t 12) (
 .seq (
 .reg none [
 oN 2 (.mov (cI 2))]) (
 .ret)) (
 .skip)))) (
 .seq (
 .seq (
 .reg none [
 oN 13 (.faddr 2 (.t 1)),
 oN 14 (.load false 1 (.t 13)),
 oN 15 (.len (.t 14)),
 oN 16 (.bin .gtr (.t 15) (cI 40))]) (
 .cond (.t 16) (
 .seq (
 .reg none [
 oN 2 (.mov (cI 8))]) (
 .ret)) (
 .skip))) (
 .seq (
 .reg none [
 oN 17 (.faddr 2 (.t 1)),
 oN 18 (.load false 1 (.t 17)),
 oN 19 (.ncall true 0 69 [(.t 18)]),
 mV 2 19]) (
 .ret))))
def a32:AFunc:=⟨20,c32,[.tmp 2]⟩
def ZGT:ACode:=
 .seq (
 .reg none [
 mV 19 3,
 mV 2 19]) (
 .ret)
def ZAq:ACode:=
 .seq (
 .seq (
 .reg none [
 mV 5 4,
 mV 6 0,
 oN 7 (.len (.t 6)),
 oN 8 (.bin .lss (.t 5) (.t 7))]) (
 .cond (.t 8) (
 .skip) (
 .exit 0))) (
 .seq (
 .block 1 (
 .reg none [
 mV 11 3,
 mV 12 0,
 mV 13 4,
 oN 14 (.iaddr 3 (.t 12) (.t 13)),
 oN 15 (.load true 3 (.t 14)),
 oN 16 (.ncall true 34017 31 [(.t 15)]),
 oN 17 (.bslice 34018 57 3 [(.t 16)]),
 oN 18 (.append 34019 57 3 (.t 11) (.t 17)),
 mV 3 18])) (
 .reg none [
 mV 9 4,
 oN 10 (.bin .add (.t 9) (cI 1)),
 mV 4 10]))
def ZGi:ACode:=.gh [.keep [0,3,4]] (.gh [] ZAq)
def ZDU:List AItem:=.inLoop ZGi::[.inBlock 0,
 .code ZGT]
def c34:ACode:=
 .seq (
 .reg none [
 oN 2 (.mov (.c .nils))]) (
 .seq (
 .reg none [
 oN 3 (.mov (.c .nils))]) (
 .seq (
 .seq (
 .reg none [
 oN 4 (.mov (cI 0))]) (
 .block 0 (
 .loop ZGi))) ZGT))
def a34:AFunc:=⟨20,c34,[.tmp 2]⟩
def c35:ACode:=
 .seq (
 .reg none [
 oN 3 (.box 35004 23 (.t 0)),
 oN 4 (.box 35005 52 (.t 1)),
 oN 6 (.mov (.c .nils)),
 oN 7 (.mov (cI 0))]) (
 .seq (
 .reg none [
 oN 19 (.load true 2 (.t 3)),
 oN 20 (.faddr 0 (.t 4)),
 oN 21 (.load false 1 (.t 20)),
 oN 22 (.ncall true 0 99 [(.t 19),(.t 21)]),
 mV 18 22,
 oN 23 (.ext 0 (.t 18)),
 oN 24 (.ext 1 (.t 18)),
 oN 8 (.alloc 35009 132 (.agg (.gen [(.int .i64 0),(.int .i64 0)]))),
 ⟨none,none, .store 2 (.t 8) (.t 23)⟩,
 mV 9 24]) (
 .gh [.keep [2,4,6,7,8,9]] (
 .seq (
 .seq (
 .reg none [
 mV 25 9,
 oN 26 (.faddr 1 (.t 4)),
 oN 27 (.load false 1 (.t 26)),
 oN 28 (.ncall true 0 100 [(.t 27)]),
 oN 29 (.ncall true 0 86 [(.t 28),(cI 2)]),
 mV 30 2,
 oN 31 (.ncall true 0 96 [(.t 30)]),
 oN 32 (.bslice 35033 28 1 [(.t 25),(.t 29),(.t 31)]),
 oN 33 (.ncall true 0 84 [(.t 32)]),
 mV 9 33]) (
 .gh [.keep [2,4,6,7,8,9]] (
 .seq (
 .reg none [
 mV 34 9,
 oN 35 (.bin .neq (.t 34) (cI 0))]) (
 .cond (.t 35) (
 .seq (
 .reg none [
 mV 36 9,
 oN 6 (.mov (.c .nils)),
 mV 7 36]) (
 .ret)) (
 .skip))))) (
 .seq (
 .reg none [
 oN 38 (.load true 2 (.t 8)),
 mV 39 2,
 oN 40 (.ncall true 35041 98 [(.t 38),(.t 39)]),
 oN 41 (.ncall true 35042 97 [(.t 40)]),
 mV 37 41,
 oN 42 (.ext 0 (.t 37)),
 oN 43 (.ext 1 (.t 37)),
 oN 11 (.alloc 35012 55 .nils),
 mV 10 42,
 ⟨none,none, .store 1 (.t 11) (.t 43)⟩]) (
 .gh [.keep [4,6,7,8,10,11]] (
 .seq (
 .seq (
 .reg none [
 mV 44 10,
 oN 45 (.len (.t 44)),
 oN 46 (.faddr 0 (.t 8)),
 oN 47 (.faddr 0 (.t 46)),
 oN 48 (.load false 1 (.t 47)),
 oN 49 (.bin .quo (.t 45) (.t 48)),
 oN 50 (.bin .gtr (.t 49) (cI 40))]) (
 .gh [.keep [4,6,7,8,10,11,50]] (
 .cond (.t 50) (
 .seq (
 .reg none [
 oN 6 (.mov (.c .nils)),
 oN 7 (.mov (cI 8))]) (
 .ret)) (
 .skip)))) (
 .seq (
 .reg none [
 oN 12 (.alloc 35013 24 .nils)]) (
 .seq (
 .seq (
 .reg none [
 mV 51 10,
 oN 52 (.faddr 0 (.t 8)),
 oN 53 (.faddr 0 (.t 52)),
 oN 54 (.load false 1 (.t 53)),
 oN 55 (.ncall true 0 101 [(.t 51),(.t 54)])]) (
 .block 0 (
 .rf 35901 (.t 55) [56] (
 .reg none [
 mV 13 56]) (
 .block 1 (
 .seq (
 .reg none [
 oN 57 (.load false 1 (.t 12)),
 oN 58 (.len (.t 57)),
 oN 59 (.faddr 0 (.t 8)),
 oN 60 (.faddr 0 (.t 59)),
 oN 61 (.load false 1 (.t 60)),
 oN 62 (.bin .mul (.t 58) (.t 61)),
 mV 14 62]) (
 .gh [.keep [4,6,7,8,11,12,13,14]] (
 .seq (
 .reg (some [(0,9),(0,11),(1,9),(1,11),(2,9),(2,11),(3,9),(3,11),(4,9),(4,11),(5,9),(5,11),(6,9),(6,11),(7,9),(7,11),(8,11),(9,11),(10,11)]) [
 oN 63 (.faddr 0 (.t 4)),
 oN 64 (.load false 1 (.t 63)),
 oN 65 (.faddr 1 (.t 4)),
 oN 66 (.load false 1 (.t 65)),
 oN 67 (.load false 1 (.t 12)),
 oN 68 (.len (.t 67)),
 oN 69 (.bin .add (.t 66) (.t 68)),
 oN 70 (.bin .rem (.t 69) (cI 64)),
 mV 71 13,
 oN 72 (.ncall true 35073 102 [(.t 71)]),
 oN 73 (.build (.gen [(.int .i64 0),(.int .i64 0),(.int .i64 0), .nils]) [(0,1,(.t 64)),(1,1,(.t 70)),(2,1,(cI 255)),(3,1,(.t 72))]),
 oN 15 (.alloc 35016 74 (.agg (.gen [(.int .i64 0),(.int .i64 0),(.int .i64 0), .nils]))),
 ⟨none,none, .store 4 (.t 15) (.t 73)⟩]) (
 .gh [.keep [4,6,7,8,11,12,14,15]] (
 .seq (
 .seq (
 .reg none [
 oN 75 (.load false 1 (.t 11)),
 mV 76 14,
 oN 77 (.ncall true 0 103 [(.t 75),(.t 76)]),
 mV 74 77,
 oN 78 (.ext 0 (.t 74)),
 oN 79 (.ext 1 (.t 74)),
 mV 16 78,
 mV 17 79]) (
 .gh [.keep [4,6,7,8,11,12,14,15,16]] (
 .seq (
 .reg (some []) [
 mV 80 16,
 oN 81 (.load false 1 (.t 11)),
 oN 82 (.len (.t 81)),
 oN 83 (.bin .lss (.t 80) (.t 82)),
 mV 84 83,
 ⟨some 85,(some (84,true)), .load false 1 (.t 11)⟩,
 ⟨some 86,(some (84,true)), .mov (.t 16)⟩,
 ⟨some 87,(some (84,true)), .iaddr 1 (.t 85) (.t 86)⟩,
 ⟨some 88,(some (84,true)), .load false 1 (.t 87)⟩,
 ⟨some 89,(some (84,true)), .mov (.t 14)⟩,
 ⟨some 90,(some (84,true)), .faddr 0 (.t 8)⟩,
 ⟨some 91,(some (84,true)), .faddr 0 (.t 90)⟩,
 ⟨some 92,(some (84,true)), .load false 1 (.t 91)⟩,
 ⟨some 93,(some (84,true)), .bin .add (.t 89) (.t 92)⟩,
 ⟨some 94,(some (84,true)), .bin .lss (.t 88) (.t 93)⟩,
 oN 95 (.pick (.t 84) (.t 94) (.c (.bool false)))]) (
 .gh [.keep [4,6,7,8,11,12,14,15,16,95]] (
 .cond (.t 95) (
 .reg none [
 oN 96 (.load false 1 (.t 11)),
 mV 97 16,
 oN 98 (.iaddr 1 (.t 96) (.t 97)),
 oN 99 (.load false 1 (.t 98)),
 mV 100 14,
 oN 101 (.bin .sub (.t 99) (.t 100)),
 oN 102 (.faddr 2 (.t 15)),
 ⟨none,none, .store 1 (.t 102) (.t 101)⟩]) (
 .skip)))))) (
 .reg none [
 oN 103 (.load false 1 (.t 12)),
 oN 104 (.load true 4 (.t 15)),
 oN 105 (.bslice 35106 74 4 [(.t 104)]),
 oN 106 (.append 35107 74 4 (.t 103) (.t 105)),
 ⟨none,none, .store 1 (.t 12) (.t 106)⟩])))))))))) (
 .seq (
 .reg none [
 oN 107 (.load false 1 (.t 12)),
 mV 6 107,
 oN 7 (.mov (cI 0))]) (
 .ret))))))))))
def a35:AFunc:=⟨108,c35,[.tmp 6, .tmp 7]⟩
def ZEh:ACode:=
 .seq (
 .seq (
 .reg none [
 mV 8 3,
 mV 9 0,
 oN 10 (.len (.t 9)),
 oN 11 (.bin .lss (.t 8) (.t 10))]) (
 .cond (.t 11) (
 .skip) (
 .exit 0))) (
 .seq (
 .block 1 (
 .seq (
 .reg none [
 mV 14 0,
 mV 15 3,
 oN 16 (.iaddr 3 (.t 14) (.t 15)),
 oN 17 (.load true 3 (.t 16)),
 oN 18 (.ncall true 0 32 [(.t 17)]),
 mV 4 18]) (
 .seq (
 .reg none [
 mV 19 4,
 oN 20 (.bin .neq (.t 19) (cI 0))]) (
 .cond (.t 20) (
 .seq (
 .reg none [
 mV 21 4,
 mV 2 21]) (
 .ret)) (
 .skip))))) (
 .reg none [
 mV 12 3,
 oN 13 (.bin .add (.t 12) (cI 1)),
 mV 3 13]))
def ZCP:ACode:=.gh [.keep [0,3]] (.gh [] ZEh)
def ZMM:List AItem:=.inLoop ZCP::[.inBlock 0,
 .code (.seq (
 .reg none [
 oN 2 (.mov (cI 0))]) (
 .ret))]
def c36:ACode:=
 .seq (
 .reg none [
 oN 2 (.mov (cI 0))]) (
 .seq (
 .seq (
 .reg none [
 mV 5 0,
 oN 6 (.len (.t 5)),
 oN 7 (.bin .gtr (.t 6) (cI 20))]) (
 .cond (.t 7) (
 .seq (
 .reg none [
 oN 2 (.mov (cI 8))]) (
 .ret)) (
 .skip))) (
 .seq (
 .seq (
 .reg none [
 oN 3 (.mov (cI 0))]) (
 .block 0 (
 .loop ZCP))) (
 .seq (
 .reg none [
 oN 2 (.mov (cI 0))]) (
 .ret))))
def a36:AFunc:=⟨22,c36,[.tmp 2]⟩
def c37:ACode:=
 .seq (
 .reg none [
 oN 2 (.box 37003 23 (.t 0)),
 oN 4 (.mov (cI 0))]) (
 .seq (
 .reg none [
 oN 8 (.load true 2 (.t 2)),
 mV 9 1,
 oN 10 (.ncall true 37011 104 [(.t 8),(.t 9)]),
 mV 7 10,
 oN 11 (.ext 0 (.t 7)),
 oN 12 (.ext 1 (.t 7)),
 mV 5 11,
 mV 6 12]) (
 .gh [.keep [2,5]] (
 .seq (
 .reg none [
 mV 13 5,
 oN 14 (.len (.t 13)),
 oN 15 (.faddr 0 (.t 2)),
 oN 16 (.load false 1 (.t 15)),
 oN 17 (.bin .quo (.t 14) (.t 16)),
 mV 4 17]) (
 .ret))))
def a37:AFunc:=⟨18,c37,[.tmp 4]⟩
def ZCk:ACode:=
 .seq (
 .reg none [
 oN 4 (.mov (.c (.bool true)))]) (
 .ret)
def ZGt:ACode:=
 .seq (
 .seq (
 .reg none [
 mV 11 5,
 mV 12 0,
 oN 13 (.len (.t 12)),
 oN 14 (.bin .lss (.t 11) (.t 13))]) (
 .cond (.t 14) (
 .skip) (
 .exit 0))) (
 .seq (
 .block 1 (
 .seq (
 .reg (some []) [
 mV 17 0,
 mV 18 5,
 oN 19 (.iaddr 4 (.t 17) (.t 18)),
 oN 20 (.load true 4 (.t 19)),
 mV 21 1,
 mV 22 5,
 oN 23 (.iaddr 4 (.t 21) (.t 22)),
 oN 24 (.load true 4 (.t 23)),
 oN 25 (.ncall true 0 57 [(.t 20),(.t 24)]),
 oN 26 (.not (.t 25))]) (
 .gh [.keep [0,1,5,26]] (
 .cond (.t 26) (
 .seq (
 .reg none [
 oN 4 (.mov (.c (.bool false)))]) (
 .ret)) (
 .skip))))) (
 .reg none [
 mV 15 5,
 oN 16 (.bin .add (.t 15) (cI 1)),
 mV 5 16]))
def ZG5:ACode:=.gh [.keep [0,1,5]] (.gh [] ZGt)
def ZK0:List AItem:=.inLoop ZG5::[.inBlock 0,
 .code ZCk]
def c38:ACode:=
 .seq (
 .reg none [
 oN 4 (.mov (.c (.bool false)))]) (
 .seq (
 .seq (
 .reg none [
 mV 6 0,
 oN 7 (.len (.t 6)),
 mV 8 1,
 oN 9 (.len (.t 8)),
 oN 10 (.bin .neq (.t 7) (.t 9))]) (
 .cond (.t 10) (
 .seq (
 .reg none [
 oN 4 (.mov (.c (.bool false)))]) (
 .ret)) (
 .skip))) (
 .seq (
 .seq (
 .reg none [
 oN 5 (.mov (cI 0))]) (
 .block 0 (
 .loop ZG5))) ZCk))
def a38:AFunc:=⟨27,c38,[.tmp 4]⟩
def c40:ACode:=
 .seq (
 .reg none [
 oN 1 (.box 40002 74 (.t 0)),
 oN 2 (.alloc 40003 74 (.agg (.gen [(.int .i64 0),(.int .i64 0),(.int .i64 0), .nils])))]) (
 .seq (
 .reg none [
 oN 3 (.faddr 3 (.t 1)),
 oN 4 (.load false 1 (.t 3)),
 oN 5 (.ncall true 40006 55 [(.t 4)]),
 oN 6 (.faddr 3 (.t 1)),
 ⟨none,none, .store 1 (.t 6) (.t 5)⟩]) (
 .seq (
 .reg none [
 oN 7 (.load true 4 (.t 1)),
 ⟨none,none, .store 4 (.t 2) (.t 7)⟩]) (
 .ret)))
def a40:AFunc:=⟨8,c40,[.cell 2 true 4]⟩
def ZKm:ACode:=
 .seq (
 .reg none [
 oN 2 (.mov (cI 0)),
 oN 3 (.mov (cI 0))]) (
 .ret)
def ZK4:ACode:=
 .seq (
 .reg none [
 oN 27 (.bin .lss (.t 26) (.t 25))]) (
 .seq (
 .cond (.t 27) (
 .skip) (
 .exit 0)) (
 .seq (
 .block 1 (
 .seq (
 .reg none [
 mV 28 26,
 oN 29 (.iaddr 3 (.t 24) (.t 26)),
 oN 30 (.load true 3 (.t 29)),
 oN 8 (.alloc 41009 49 (.agg (.gen [(.int .i64 0),(.int .i64 0),(.int .i64 0)]))),
 mV 7 28,
 ⟨none,none, .store 3 (.t 8) (.t 30)⟩]) (
 .seq (
 .reg none [
 oN 31 (.faddr 0 (.t 8)),
 oN 32 (.load false 1 (.t 31)),
 oN 33 (.ncall true 0 87 [(.t 32),(cI 0),(cI 1000000)]),
 mV 34 33,
 ⟨some 35,(some (34,true)), .mov (.t 5)⟩,
 ⟨some 36,(some (34,true)), .faddr 1 (.t 8)⟩,
 ⟨some 37,(some (34,true)), .faddr 0 (.t 36)⟩,
 ⟨some 38,(some (34,true)), .load false 1 (.t 37)⟩,
 ⟨some 39,(some (34,true)), .ncallv true 0 (.t 35) [(.t 38)]⟩,
 oN 40 (.pick (.t 34) (.t 39) (.c (.bool false))),
 mV 41 40,
 ⟨some 42,(some (41,true)), .mov (.t 5)⟩,
 ⟨some 43,(some (41,true)), .faddr 1 (.t 8)⟩,
 ⟨some 44,(some (41,true)), .faddr 1 (.t 43)⟩,
 ⟨some 45,(some (41,true)), .load false 1 (.t 44)⟩,
 ⟨some 46,(some (41,true)), .ncallv true 0 (.t 42) [(.t 45)]⟩,
 oN 47 (.pick (.t 41) (.t 46) (.c (.bool false))),
 mV 9 47]) (
 .gh [.keep [5,6,7,8,9,24,25,26]] (
 .seq (
 .seq (
 .reg (some []) [
 mV 48 9,
 oN 49 (.ncall true 0 86 [(.t 48),(cI 2)]),
 oN 50 (.faddr 1 (.t 8)),
 oN 51 (.faddr 0 (.t 50)),
 oN 52 (.load false 1 (.t 51)),
 oN 53 (.faddr 1 (.t 8)),
 oN 54 (.faddr 1 (.t 53)),
 oN 55 (.load false 1 (.t 54)),
 oN 56 (.bin .leq (.t 52) (.t 55)),
 mV 57 56,
 ⟨some 58,(some (57,true)), .faddr 0 (.t 8)⟩,
 ⟨some 59,(some (57,true)), .load false 1 (.t 58)⟩,
 ⟨some 60,(some (57,true)), .mov (.t 6)⟩,
 ⟨some 61,(some (57,true)), .bin .gtr (.t 59) (.t 60)⟩,
 oN 62 (.pick (.t 57) (.t 61) (.c (.bool false))),
 oN 63 (.ncall true 0 86 [(.t 62),(cI 9)]),
 oN 64 (.bslice 41065 28 1 [(.t 49),(.t 63)]),
 oN 65 (.ncall true 0 84 [(.t 64)]),
 mV 10 65]) (
 .gh [.keep [5,7,8,10,24,25,26]] (
 .seq (
 .reg none [
 mV 66 10,
 oN 67 (.bin .neq (.t 66) (cI 0))]) (
 .cond (.t 67) (
 .seq (
 .reg none [
 mV 68 7,
 mV 69 10,
 mV 2 68,
 mV 3 69]) (
 .ret)) (
 .skip))))) (
 .reg none [
 oN 70 (.faddr 0 (.t 8)),
 oN 71 (.load false 1 (.t 70)),
 mV 6 71])))))) (
 .reg none [
 oN 72 (.bin .add (.t 26) (cI 1)),
 mV 26 72])))
def ZMd:ACode:=.gh [.keep [5,6,24,25,26]] (.gh [] ZK4)
def c41:ACode:=
 .seq (
 .reg none [
 oN 2 (.mov (cI 0)),
 oN 3 (.mov (cI 0))]) (
 .seq (
 .seq (
 .reg none [
 mV 11 0,
 oN 12 (.len (.t 11)),
 oN 13 (.bin .gtr (.t 12) (cI 0)),
 oN 14 (.ncall true 0 86 [(.t 13),(cI 10)]),
 mV 15 0,
 oN 16 (.len (.t 15)),
 oN 17 (.bin .leq (.t 16) (cI 20)),
 oN 18 (.ncall true 0 86 [(.t 17),(cI 8)]),
 oN 19 (.bslice 41020 28 1 [(.t 14),(.t 18)]),
 oN 20 (.ncall true 0 84 [(.t 19)]),
 mV 4 20]) (
 .gh [.keep [0,4]] (
 .seq (
 .reg none [
 mV 21 4,
 oN 22 (.bin .neq (.t 21) (cI 0))]) (
 .cond (.t 22) (
 .seq (
 .reg none [
 mV 23 4,
 oN 2 (.mov (cI 0)),
 mV 3 23]) (
 .ret)) (
 .skip))))) (
 .seq (
 .reg none [
 oN 5 (.mov (.c (.fn 105 [])))]) (
 .seq (
 .reg none [
 oN 6 (.mov (cI (-1)))]) (
 .seq (
 .seq (
 .reg none [
 mV 24 0,
 oN 25 (.len (.t 24)),
 oN 26 (.mov (cI 0))]) (
 .block 0 (
 .loop ZMd))) ZKm))))
def a41:AFunc:=⟨73,c41,[.tmp 2, .tmp 3]⟩
def ZNp:ACode:=
 .seq (
 .reg none [
 oN 26 (.load true 4 (.t 5)),
 ⟨none,none, .store 4 (.t 2) (.t 26)⟩,
 oN 3 (.mov (cI 0))]) (
 .ret)
def ZLF:ACode:=
 .seq (
 .reg none [
 oN 18 (.bin .lss (.t 17) (cI 2))]) (
 .seq (
 .cond (.t 18) (
 .skip) (
 .exit 0)) (
 .seq (
 .block 1 (
 .seq (
 .reg none [
 oN 19 (.idxa 2 2 (.t 16) (.t 17)),
 oN 7 (.alloc 42008 79 (.agg (.gen [(.int .i64 0),(.int .i64 0)]))),
 ⟨none,none, .store 2 (.t 7) (.t 19)⟩]) (
 .seq (
 .reg none [
 oN 20 (.faddr 0 (.t 7)),
 oN 21 (.load false 1 (.t 20)),
 oN 22 (.ncall true 0 87 [(.t 21),(cI (-1000000000)),(cI 1000000000)]),
 oN 23 (.not (.t 22))]) (
 .cond (.t 23) (
 .seq (
 .reg none [
 oN 24 (.build (.ints .i64 [0,0,0,0]) []),
 ⟨none,none, .store 4 (.t 2) (.t 24)⟩,
 oN 3 (.mov (cI 8))]) (
 .ret)) (
 .skip))))) (
 .reg none [
 oN 25 (.bin .add (.t 17) (cI 1)),
 mV 17 25])))
def ZNk:ACode:=.gh [.keep [2,5,16,17]] (.gh [] ZLF)
def c42:ACode:=
 .seq (
 .reg none [
 oN 2 (.alloc 42003 80 (.agg (.ints .i64 [0,0,0,0]))),
 oN 3 (.mov (cI 0))]) (
 .seq (
 .seq (
 .reg none [
 mV 8 0,
 oN 9 (.ncall true 0 85 [(.t 8)]),
 mV 4 9]) (
 .seq (
 .reg none [
 mV 10 4,
 oN 11 (.bin .neq (.t 10) (cI 0))]) (
 .cond (.t 11) (
 .seq (
 .reg none [
 oN 12 (.build (.ints .i64 [0,0,0,0]) []),
 mV 13 4,
 ⟨none,none, .store 4 (.t 2) (.t 12)⟩,
 mV 3 13]) (
 .ret)) (
 .skip)))) (
 .seq (
 .reg none [
 mV 14 0,
 oN 15 (.ncall true 0 106 [(.t 14)]),
 oN 5 (.alloc 42006 80 (.agg (.ints .i64 [0,0,0,0]))),
 ⟨none,none, .store 4 (.t 5) (.t 15)⟩]) (
 .seq (
 .seq (
 .reg none [
 oN 16 (.load true 4 (.t 5)),
 oN 17 (.mov (cI 0))]) (
 .block 0 (
 .loop ZNk))) ZNp)))
def a42:AFunc:=⟨27,c42,[.cell 2 true 4, .tmp 3]⟩
def c53:ACode:=
 .seq (
 .reg none [
 oN 4 (.mov (cI 0))]) (
 .seq (
 .reg none [
 mV 5 0,
 mV 6 1,
 oN 7 (.bin .rem (.t 5) (.t 6)),
 mV 0 7]) (
 .seq (
 .seq (
 .reg none [
 mV 8 0,
 oN 9 (.bin .lss (.t 8) (cI 0))]) (
 .cond (.t 9) (
 .reg none [
 mV 10 0,
 mV 11 1,
 oN 12 (.bin .add (.t 10) (.t 11)),
 mV 0 12]) (
 .skip))) (
 .seq (
 .reg none [
 mV 13 0,
 mV 4 13]) (
 .ret))))
def a53:AFunc:=⟨14,c53,[.tmp 4]⟩
def c55:ACode:=
 .seq (
 .reg none [
 oN 2 (.mov (.c .nils))]) (
 .seq (
 .reg none [
 oN 3 (.bslice 55004 3 1 []),
 mV 4 0,
 oN 5 (.append 55006 3 1 (.t 3) (.t 4)),
 mV 2 5]) (
 .ret))
def a55:AFunc:=⟨6,c55,[.tmp 2]⟩
def c57:ACode:=
 .seq (
 .reg none [
 oN 2 (.box 57003 74 (.t 0)),
 oN 3 (.box 57004 74 (.t 1)),
 oN 4 (.mov (.c (.bool false)))]) (
 .seq (
 .reg none [
 oN 5 (.faddr 0 (.t 2)),
 oN 6 (.load false 1 (.t 5)),
 oN 7 (.faddr 0 (.t 3)),
 oN 8 (.load false 1 (.t 7)),
 oN 9 (.bin .eql (.t 6) (.t 8)),
 mV 10 9,
 ⟨some 11,(some (10,true)), .faddr 1 (.t 2)⟩,
 ⟨some 12,(some (10,true)), .load false 1 (.t 11)⟩,
 ⟨some 13,(some (10,true)), .faddr 1 (.t 3)⟩,
 ⟨some 14,(some (10,true)), .load false 1 (.t 13)⟩,
 ⟨some 15,(some (10,true)), .bin .eql (.t 12) (.t 14)⟩,
 oN 16 (.pick (.t 10) (.t 15) (.c (.bool false))),
 mV 17 16,
 ⟨some 18,(some (17,true)), .faddr 2 (.t 2)⟩,
 ⟨some 19,(some (17,true)), .load false 1 (.t 18)⟩,
 ⟨some 20,(some (17,true)), .faddr 2 (.t 3)⟩,
 ⟨some 21,(some (17,true)), .load false 1 (.t 20)⟩,
 ⟨some 22,(some (17,true)), .bin .eql (.t 19) (.t 21)⟩,
 oN 23 (.pick (.t 17) (.t 22) (.c (.bool false))),
 mV 24 23,
 ⟨some 25,(some (24,true)), .faddr 3 (.t 2)⟩,
 ⟨some 26,(some (24,true)), .load false 1 (.t 25)⟩,
 ⟨some 27,(some (24,true)), .faddr 3 (.t 3)⟩,
 ⟨some 28,(some (24,true)), .load false 1 (.t 27)⟩,
 ⟨some 29,(some (24,true)), .ncall true 0 67 [(.t 26),(.t 28)]⟩,
 oN 30 (.pick (.t 24) (.t 29) (.c (.bool false))),
 mV 4 30]) (
 .gh [.keep [4]] (
 .ret)))
def a57:AFunc:=⟨31,c57,[.tmp 4]⟩
def c58:ACode:=
 .seq (
 .reg none [
 oN 3 (.box 58004 23 (.t 0)),
 oN 6 (.mov (cI 0)),
 oN 7 (.mov (cI 0))]) (
 .seq (
 .seq (
 .reg none [
 oN 12 (.load true 2 (.t 3)),
 mV 13 1,
 mV 14 2,
 oN 15 (.ncall true 0 78 [(.t 12),(.t 13),(.t 14)]),
 mV 11 15,
 oN 16 (.ext 0 (.t 11)),
 oN 17 (.ext 1 (.t 11)),
 oN 8 (.alloc 58009 132 (.agg (.gen [(.int .i64 0),(.int .i64 0)]))),
 ⟨none,none, .store 2 (.t 8) (.t 16)⟩,
 mV 9 17]) (
 .gh [.keep [1,2,9]] (
 .seq (
 .reg none [
 mV 18 9,
 oN 19 (.bin .neq (.t 18) (cI 0))]) (
 .cond (.t 19) (
 .seq (
 .reg none [
 mV 20 9,
 oN 6 (.mov (cI 0)),
 mV 7 20]) (
 .ret)) (
 .skip))))) (
 .seq (
 .reg none [
 mV 21 1,
 mV 22 2,
 oN 23 (.ncall true 58024 79 [(.t 21),(.t 22)]),
 mV 10 23]) (
 .seq (
 .reg none [
 mV 24 10,
 oN 25 (.ncall true 0 112 [(.t 24)]),
 mV 26 10,
 oN 27 (.len (.t 26)),
 oN 28 (.bin .sub (.t 25) (.t 27)),
 mV 6 28,
 oN 7 (.mov (cI 0))]) (
 .ret))))
def a58:AFunc:=⟨29,c58,[.tmp 6, .tmp 7]⟩
def ZGD:ACode:=
 .seq (
 .reg none [
 mV 43 10,
 mV 6 43,
 oN 7 (.mov (cI 0))]) (
 .ret)
def ZA3:ACode:=
 .seq (
 .reg none [
 oN 29 (.bin .lss (.t 28) (.t 27))]) (
 .seq (
 .cond (.t 29) (
 .skip) (
 .exit 0)) (
 .seq (
 .block 1 (
 .seq (
 .reg none [
 oN 30 (.iaddr 5 (.t 26) (.t 28)),
 oN 31 (.load true 5 (.t 30)),
 oN 12 (.alloc 59013 140 (.agg (.gen [(.int .i64 0),(.int .i64 0),(.int .i64 0), .nils,(.int .i64 0)]))),
 ⟨none,none, .store 5 (.t 12) (.t 31)⟩]) (
 .seq (
 .reg none [
 oN 32 (.faddr 0 (.t 12)),
 oN 33 (.load true 4 (.t 32)),
 oN 13 (.alloc 59014 74 (.agg (.gen [(.int .i64 0),(.int .i64 0),(.int .i64 0), .nils]))),
 ⟨none,none, .store 4 (.t 13) (.t 33)⟩]) (
 .seq (
 .reg none [
 oN 34 (.faddr 3 (.t 13)),
 oN 35 (.load false 1 (.t 34)),
 oN 36 (.ncall true 59037 102 [(.t 35)]),
 oN 37 (.faddr 3 (.t 13)),
 ⟨none,none, .store 1 (.t 37) (.t 36)⟩]) (
 .reg none [
 mV 38 10,
 oN 39 (.load true 4 (.t 13)),
 oN 40 (.bslice 59041 74 4 [(.t 39)]),
 oN 41 (.append 59042 74 4 (.t 38) (.t 40)),
 mV 10 41]))))) (
 .reg none [
 oN 42 (.bin .add (.t 28) (cI 1)),
 mV 28 42])))
def ZG9:ACode:=.gh [.keep [10,26,27,28]] (.gh [] ZA3)
def ZCf:List AItem:=.inLoop ZG9::[.inBlock 0,
 .code ZGD]
def c59:ACode:=
 .seq (
 .reg none [
 oN 3 (.box 59004 23 (.t 0)),
 oN 6 (.mov (.c .nils)),
 oN 7 (.mov (cI 0))]) (
 .seq (
 .seq (
 .reg none [
 oN 15 (.load true 2 (.t 3)),
 mV 16 1,
 mV 17 2,
 oN 18 (.ncall true 0 78 [(.t 15),(.t 16),(.t 17)]),
 mV 14 18,
 oN 19 (.ext 0 (.t 14)),
 oN 20 (.ext 1 (.t 14)),
 oN 8 (.alloc 59009 132 (.agg (.gen [(.int .i64 0),(.int .i64 0)]))),
 ⟨none,none, .store 2 (.t 8) (.t 19)⟩,
 mV 9 20]) (
 .gh [.keep [1,2,9]] (
 .seq (
 .reg none [
 mV 21 9,
 oN 22 (.bin .neq (.t 21) (cI 0))]) (
 .cond (.t 22) (
 .seq (
 .reg none [
 mV 23 9,
 oN 6 (.mov (.c .nils)),
 mV 7 23]) (
 .ret)) (
 .skip))))) (
 .seq (
 .reg none [
 oN 10 (.mov (.c .nils))]) (
 .seq (
 .seq (
 .reg none [
 mV 24 1,
 mV 25 2,
 oN 26 (.ncall true 59027 79 [(.t 24),(.t 25)]),
 oN 27 (.len (.t 26)),
 oN 28 (.mov (cI 0))]) (
 .block 0 (
 .loop ZG9))) ZGD)))
def a59:AFunc:=⟨44,c59,[.tmp 6, .tmp 7]⟩
def c60:ACode:=
 .seq (
 .reg none [
 oN 2 (.mov (cI 0)),
 oN 3 (.mov (cI 0))]) (
 .seq (
 .seq (
 .reg none [
 mV 6 0,
 oN 7 (.len (.t 6)),
 oN 8 (.bin .gtr (.t 7) (cI 0)),
 oN 9 (.ncall true 0 86 [(.t 8),(cI 10)]),
 mV 10 0,
 oN 11 (.len (.t 10)),
 oN 12 (.bin .leq (.t 11) (cI 29)),
 oN 13 (.ncall true 0 86 [(.t 12),(cI 8)]),
 mV 14 0,
 oN 15 (.ncall true 0 94 [(.t 14)]),
 oN 16 (.bslice 60017 28 1 [(.t 9),(.t 13),(.t 15)]),
 oN 17 (.ncall true 0 84 [(.t 16)]),
 mV 4 17]) (
 .gh [.keep [0,4]] (
 .seq (
 .reg none [
 mV 18 4,
 oN 19 (.bin .neq (.t 18) (cI 0))]) (
 .cond (.t 19) (
 .seq (
 .reg none [
 mV 20 4,
 oN 2 (.mov (cI 0)),
 mV 3 20]) (
 .ret)) (
 .skip))))) (
 .seq (
 .reg none [
 mV 21 0,
 oN 22 (.ncall true 0 109 [(.t 21)]),
 oN 5 (.alloc 60006 118 (.agg (.ints .i64 [0,0]))),
 ⟨none,none, .store 2 (.t 5) (.t 22)⟩]) (
 .seq (
 .reg none [
 oN 23 (.aaddr 2 1 (.t 5) (cI 0)),
 oN 24 (.load false 1 (.t 23)),
 oN 25 (.bin .mul (cI 256) (.t 24)),
 oN 26 (.aaddr 2 1 (.t 5) (cI 1)),
 oN 27 (.load false 1 (.t 26)),
 oN 28 (.bin .add (.t 25) (.t 27)),
 mV 2 28,
 oN 3 (.mov (cI 0))]) (
 .gh [.keep [2,3]] (
 .ret)))))
def a60:AFunc:=⟨29,c60,[.tmp 2, .tmp 3]⟩
def c63:ACode:=
 .seq (
 .reg none [
 oN 1 (.box 63002 23 (.t 0)),
 oN 2 (.mov (cI 0))]) (
 .seq (
 .reg none [
 oN 3 (.faddr 0 (.t 1)),
 oN 4 (.load false 1 (.t 3)),
 oN 5 (.ncall true 0 87 [(.t 4),(cI 4),(cI 24)]),
 mV 6 5,
 ⟨some 7,(some (6,true)), .faddr 1 (.t 1)⟩,
 ⟨some 8,(some (6,true)), .load false 1 (.t 7)⟩,
 ⟨some 9,(some (6,true)), .ncall true 0 87 [(.t 8),(cI 1),(cI 4)]⟩,
 oN 10 (.pick (.t 6) (.t 9) (.c (.bool false))),
 oN 11 (.ncall true 0 86 [(.t 10),(cI 2)]),
 mV 2 11]) (
 .gh [.keep [2]] (
 .ret)))
def a63:AFunc:=⟨12,c63,[.tmp 2]⟩
def c64:ACode:=
 .seq (
 .reg none [
 oN 2 (.box 64003 23 (.t 0)),
 oN 3 (.box 64004 74 (.t 1)),
 oN 4 (.mov (cI 0))]) (
 .seq (
 .seq (
 .reg none [
 oN 6 (.load true 2 (.t 2)),
 oN 7 (.faddr 0 (.t 3)),
 oN 8 (.load false 1 (.t 7)),
 oN 9 (.ncall true 0 19 [(.t 6),(.t 8)]),
 mV 5 9]) (
 .seq (
 .reg none [
 mV 10 5,
 oN 11 (.bin .neq (.t 10) (cI 0))]) (
 .cond (.t 11) (
 .seq (
 .reg none [
 mV 12 5,
 mV 4 12]) (
 .ret)) (
 .skip)))) (
 .seq (
 .seq (
 .reg none [
 oN 13 (.faddr 1 (.t 3)),
 oN 14 (.load false 1 (.t 13)),
 oN 15 (.ncall true 0 27 [(.t 14),(cI 0),(cI 63)]),
 oN 16 (.not (.t 15)),
 mV 17 16,
 ⟨some 18,(some (17,false)), .faddr 2 (.t 3)⟩,
 ⟨some 19,(some (17,false)), .load false 1 (.t 18)⟩,
 ⟨some 20,(some (17,false)), .faddr 0 (.t 2)⟩,
 ⟨some 21,(some (17,false)), .load false 1 (.t 20)⟩,
 ⟨some 22,(some (17,false)), .bin .sub (.t 21) (cI 1)⟩,
 ⟨some 23,(some (17,false)), .ncall true 0 27 [(.t 19),(cI 0),(.t 22)]⟩,
 ⟨some 24,(some (17,false)), .not (.t 23)⟩,
 ⟨some 25,(some (17,false)), .mov (.t 24)⟩,
 ⟨some 26,(some (25,true)), .faddr 2 (.t 3)⟩,
 ⟨some 27,(some (25,true)), .load false 1 (.t 26)⟩,
 ⟨some 28,(some (25,true)), .bin .neq (.t 27) (cI 255)⟩,
 ⟨some 29,(some (17,false)), .pick (.t 25) (.t 28) (.c (.bool false))⟩,
 oN 30 (.pick (.t 17) (.c (.bool true)) (.t 29))]) (
 .gh [.keep [2,3,30]] (
 .cond (.t 30) (
 .seq (
 .reg none [
 oN 4 (.mov (cI 2))]) (
 .ret)) (
 .skip)))) (
 .seq (
 .seq (
 .reg none [
 oN 31 (.faddr 3 (.t 3)),
 oN 32 (.load false 1 (.t 31)),
 oN 33 (.len (.t 32)),
 oN 34 (.faddr 0 (.t 2)),
 oN 35 (.load false 1 (.t 34)),
 oN 36 (.bin .neq (.t 33) (.t 35))]) (
 .cond (.t 36) (
 .seq (
 .reg none [
 oN 4 (.mov (cI 10))]) (
 .ret)) (
 .skip))) (
 .seq (
 .reg none [
 oN 37 (.faddr 3 (.t 3)),
 oN 38 (.load false 1 (.t 37)),
 oN 39 (.ncall true 0 69 [(.t 38)]),
 mV 4 39]) (
 .ret)))))
def a64:AFunc:=⟨40,c64,[.tmp 4]⟩
def ZGx:ACode:=
 .seq (
 .reg none [
 oN 4 (.mov (.c (.bool true)))]) (
 .ret)
def ZHn:ACode:=
 .seq (
 .seq (
 .reg none [
 mV 11 5,
 mV 12 0,
 oN 13 (.len (.t 12)),
 oN 14 (.bin .lss (.t 11) (.t 13))]) (
 .cond (.t 14) (
 .skip) (
 .exit 0))) (
 .seq (
 .block 1 (
 .seq (
 .reg (some []) [
 mV 17 0,
 mV 18 5,
 oN 19 (.iaddr 1 (.t 17) (.t 18)),
 oN 20 (.load false 1 (.t 19)),
 mV 21 1,
 mV 22 5,
 oN 23 (.iaddr 1 (.t 21) (.t 22)),
 oN 24 (.load false 1 (.t 23)),
 oN 25 (.bin .neq (.t 20) (.t 24))]) (
 .gh [.keep [0,1,5,25]] (
 .cond (.t 25) (
 .seq (
 .reg none [
 oN 4 (.mov (.c (.bool false)))]) (
 .ret)) (
 .skip))))) (
 .reg none [
 mV 15 5,
 oN 16 (.bin .add (.t 15) (cI 1)),
 mV 5 16]))
def ZFG:ACode:=.gh [.keep [0,1,5]] (.gh [] ZHn)
def ZJU:List AItem:=.inLoop ZFG::[.inBlock 0,
 .code ZGx]
def c67:ACode:=
 .seq (
 .reg none [
 oN 4 (.mov (.c (.bool false)))]) (
 .seq (
 .seq (
 .reg none [
 mV 6 0,
 oN 7 (.len (.t 6)),
 mV 8 1,
 oN 9 (.len (.t 8)),
 oN 10 (.bin .neq (.t 7) (.t 9))]) (
 .cond (.t 10) (
 .seq (
 .reg none [
 oN 4 (.mov (.c (.bool false)))]) (
 .ret)) (
 .skip))) (
 .seq (
 .seq (
 .reg none [
 oN 5 (.mov (cI 0))]) (
 .block 0 (
 .loop ZFG))) ZGx))
def a67:AFunc:=⟨26,c67,[.tmp 4]⟩
def ZC1:ACode:=
 .seq (
 .seq (
 .reg none [
 mV 4 3,
 mV 5 0,
 oN 6 (.len (.t 5)),
 oN 7 (.bin .lss (.t 4) (.t 6))]) (
 .cond (.t 7) (
 .skip) (
 .exit 0))) (
 .seq (
 .block 1 (
 .seq (
 .reg none [
 mV 10 0,
 mV 11 3,
 oN 12 (.iaddr 1 (.t 10) (.t 11)),
 oN 13 (.load false 1 (.t 12)),
 oN 14 (.ncall true 0 27 [(.t 13),(cI 0),(cI 255)]),
 oN 15 (.not (.t 14))]) (
 .cond (.t 15) (
 .seq (
 .reg none [
 oN 2 (.mov (cI 2))]) (
 .ret)) (
 .skip)))) (
 .reg none [
 mV 8 3,
 oN 9 (.bin .add (.t 8) (cI 1)),
 mV 3 9]))
def ZFy:ACode:=.gh [.keep [0,3]] (.gh [] ZC1)
def ZLL:List AItem:=.inLoop ZFy::[.inBlock 0,
 .code (.seq (
 .reg none [
 oN 2 (.mov (cI 0))]) (
 .ret))]
def c69:ACode:=
 .seq (
 .reg none [
 oN 2 (.mov (cI 0))]) (
 .seq (
 .seq (
 .reg none [
 oN 3 (.mov (cI 0))]) (
 .block 0 (
 .loop ZFy))) (
 .seq (
 .reg none [
 oN 2 (.mov (cI 0))]) (
 .ret)))
def a69:AFunc:=⟨16,c69,[.tmp 2]⟩
def c75:ACode:=
 .seq (
 .reg none [
 oN 0 (.alloc 75001 23 (.agg (.gen [(.int .i64 0),(.int .i64 0)])))]) (
 .seq (
 .reg none [
 oN 1 (.build (.gen [(.int .i64 0),(.int .i64 0)]) [(0,1,(cI 4)),(1,1,(cI 2))]),
 ⟨none,none, .store 2 (.t 0) (.t 1)⟩]) (
 .ret))
def a75:AFunc:=⟨2,c75,[.cell 0 true 2]⟩
def c76:ACode:=
 .seq (
 .reg none [
 oN 0 (.mov (.c .nils))]) (
 .seq (
 .reg none [
 oN 1 (.bslice 76002 3 1 [(cI 1),(cI 2)]),
 oN 2 (.build (.gen [(.int .i64 0),(.int .i64 0), .nils]) [(0,1,(cI 9)),(2,1,(.t 1))]),
 oN 3 (.bslice 76004 3 1 [(cI 3)]),
 oN 4 (.build (.gen [(.int .i64 0),(.int .i64 0), .nils]) [(0,1,(cI 9)),(1,1,(cI 1)),(2,1,(.t 3))]),
 oN 5 (.bslice 76006 57 3 [(.t 2),(.t 4)]),
 mV 0 5]) (
 .ret))
def a76:AFunc:=⟨6,c76,[.tmp 0]⟩
def c77:ACode:=
 .seq (
 .reg none [
 oN 0 (.mov (.c .nils))]) (
 .seq (
 .reg none [
 oN 1 (.build (.gen [(.int .i64 0),(.int .i64 0)]) [(0,1,(cI 10)),(1,1,(cI 12))]),
 oN 2 (.build (.gen [(.int .i64 0),(.int .i64 0),(.int .i64 0)]) [(0,1,(cI 0)),(1,2,(.t 1))]),
 oN 3 (.build (.gen [(.int .i64 0),(.int .i64 0)]) [(0,1,(cI 30)),(1,1,(cI 32))]),
 oN 4 (.build (.gen [(.int .i64 0),(.int .i64 0),(.int .i64 0)]) [(0,1,(cI 10)),(1,2,(.t 3))]),
 oN 5 (.build (.gen [(.int .i64 0),(.int .i64 0)]) [(0,1,(cI 50)),(1,1,(cI 51))]),
 oN 6 (.build (.gen [(.int .i64 0),(.int .i64 0),(.int .i64 0)]) [(0,1,(cI 20)),(1,2,(.t 5))]),
 oN 7 (.bslice 77008 49 3 [(.t 2),(.t 4),(.t 6)]),
 mV 0 7]) (
 .gh [.keep [0]] (
 .ret)))
def a77:AFunc:=⟨8,c77,[.tmp 0]⟩
def c78:ACode:=
 .seq (
 .reg none [
 oN 3 (.box 78004 23 (.t 0)),
 oN 6 (.alloc 78007 132 (.agg (.gen [(.int .i64 0),(.int .i64 0)]))),
 oN 7 (.mov (cI 0))]) (
 .seq (
 .reg none [
 oN 11 (.load true 2 (.t 3)),
 mV 12 1,
 oN 13 (.ncall true 0 99 [(.t 11),(.t 12)]),
 mV 10 13,
 oN 14 (.ext 0 (.t 10)),
 oN 15 (.ext 1 (.t 10)),
 oN 8 (.alloc 78009 132 (.agg (.gen [(.int .i64 0),(.int .i64 0)]))),
 ⟨none,none, .store 2 (.t 8) (.t 14)⟩,
 mV 9 15]) (
 .gh [.keep [2,6,8,9]] (
 .seq (
 .reg (some [(0,10)]) [
 oN 16 (.load true 2 (.t 8)),
 mV 17 9,
 mV 18 2,
 oN 19 (.len (.t 18)),
 oN 20 (.bin .leq (.t 19) (cI 40)),
 oN 21 (.ncall true 0 86 [(.t 20),(cI 8)]),
 mV 22 2,
 oN 23 (.load true 2 (.t 8)),
 oN 24 (.mkmth 110 (.t 23)),
 oN 25 (.ncall true 0 117 [(.t 22),(.t 24)]),
 oN 26 (.bslice 78027 28 1 [(.t 17),(.t 21),(.t 25)]),
 oN 27 (.ncall true 0 84 [(.t 26)]),
 ⟨none,none, .store 2 (.t 6) (.t 16)⟩,
 mV 7 27]) (
 .gh [.keep [6,7]] (
 .ret)))))
def a78:AFunc:=⟨28,c78,[.cell 6 true 2, .tmp 7]⟩
def ZEU:ACode:=
 .seq (
 .reg none [
 mV 56 5,
 oN 57 (.ncall true 0 118 [(.t 56),(.c (.fn 119 []))])]) (
 .seq (
 .reg none [
 mV 58 5,
 oN 59 (.ncall true 79060 121 [(.t 58),(.c (.fn 122 []))]),
 mV 4 59]) (
 .ret))
def ZAh:ACode:=
 .seq (
 .reg none [
 oN 14 (.bin .lss (.t 13) (.t 12))]) (
 .seq (
 .cond (.t 14) (
 .skip) (
 .exit 0)) (
 .seq (
 .block 1 (
 .seq (
 .reg none [
 oN 15 (.iaddr 4 (.t 11) (.t 13)),
 oN 16 (.load true 4 (.t 15)),
 oN 7 (.alloc 79008 74 (.agg (.gen [(.int .i64 0),(.int .i64 0),(.int .i64 0), .nils]))),
 ⟨none,none, .store 4 (.t 7) (.t 16)⟩]) (
 .seq (
 .seq (
 .reg none [
 oN 17 (.faddr 0 (.t 7)),
 oN 18 (.load false 1 (.t 17)),
 mV 19 0,
 oN 20 (.bin .neq (.t 18) (.t 19))]) (
 .cond (.t 20) (
 .exit 1) (
 .skip))) (
 .seq (
 .reg none [
 oN 21 (.load true 4 (.t 7)),
 oN 22 (.faddr 1 (.t 7)),
 oN 23 (.load false 1 (.t 22)),
 oN 24 (.bin .add (.t 23) (cI 64)),
 oN 25 (.build (.gen [(.int .i64 0),(.int .i64 0),(.int .i64 0), .nils,(.int .i64 0)]) [(0,4,(.t 21)),(4,1,(.t 24))]),
 oN 8 (.alloc 79009 140 (.agg (.gen [(.int .i64 0),(.int .i64 0),(.int .i64 0), .nils,(.int .i64 0)]))),
 ⟨none,none, .store 5 (.t 8) (.t 25)⟩]) (
 .seq (
 .seq (
 .reg none [
 mV 26 5,
 oN 27 (.len (.t 26)),
 oN 28 (.bin .gtr (.t 27) (cI 0))]) (
 .cond (.t 28) (
 .seq (
 .reg none [
 mV 29 5,
 mV 30 5,
 oN 31 (.len (.t 30)),
 oN 32 (.bin .sub (.t 31) (cI 1)),
 oN 33 (.iaddr 5 (.t 29) (.t 32)),
 oN 34 (.faddr 4 (.t 33)),
 oN 35 (.load false 1 (.t 34)),
 mV 9 35]) (
 .gh [.keep [0,5,7,8,9,11,12,13]] (
 .seq (
 .reg none [
 oN 36 (.faddr 1 (.t 7)),
 oN 37 (.load false 1 (.t 36)),
 mV 38 9,
 oN 39 (.bin .sub (.t 37) (.t 38)),
 oN 40 (.bin .rem (.t 39) (cI 64)),
 oN 41 (.bin .add (.t 40) (cI 64)),
 oN 42 (.bin .rem (.t 41) (cI 64)),
 mV 10 42]) (
 .gh [.keep [0,5,8,9,10,11,12,13]] (
 .seq (
 .seq (
 .reg none [
 mV 43 10,
 oN 44 (.bin .gtr (.t 43) (cI 32))]) (
 .cond (.t 44) (
 .reg none [
 mV 45 10,
 oN 46 (.bin .sub (.t 45) (cI 64)),
 mV 10 46]) (
 .skip))) (
 .reg none [
 mV 47 9,
 mV 48 10,
 oN 49 (.bin .add (.t 47) (.t 48)),
 oN 50 (.faddr 4 (.t 8)),
 ⟨none,none, .store 1 (.t 50) (.t 49)⟩])))))) (
 .skip))) (
 .reg none [
 mV 51 5,
 oN 52 (.load true 5 (.t 8)),
 oN 53 (.bslice 79054 140 5 [(.t 52)]),
 oN 54 (.append 79055 140 5 (.t 51) (.t 53)),
 mV 5 54])))))) (
 .reg none [
 oN 55 (.bin .add (.t 13) (cI 1)),
 mV 13 55])))
def ZDr:ACode:=.gh [.keep [0,5,11,12,13]] (.gh [] ZAh)
def ZD8:List AItem:=.inLoop ZDr::[.inBlock 0,
 .code ZEU]
def c79:ACode:=
 .seq (
 .reg none [
 oN 4 (.mov (.c .nils))]) (
 .seq (
 .reg none [
 oN 5 (.mov (.c .nils))]) (
 .seq (
 .seq (
 .reg none [
 mV 11 1,
 oN 12 (.len (.t 11)),
 oN 13 (.mov (cI 0))]) (
 .block 0 (
 .loop ZDr))) ZEU))
def a79:AFunc:=⟨60,c79,[.tmp 4]⟩
def Zxo:ACode:=
 .seq (
 .seq (
 .reg none [
 mV 54 0,
 oN 55 (.nilck (.t 54)),
 oN 56 (.faddr 1 (.t 55)),
 oN 57 (.load false 1 (.t 56)),
 oN 58 (.len (.t 57)),
 oN 59 (.bin .geq (.t 58) (cI 3))]) (
 .cond (.t 59) (
 .skip) (
 .exit 0))) (
 .block 1 (
 .seq (
 .reg none [
 mV 60 0,
 oN 61 (.nilck (.t 60)),
 oN 62 (.faddr 1 (.t 61)),
 oN 63 (.load false 1 (.t 62)),
 oN 64 (.iaddr 1 (.t 63) (cI 2)),
 oN 65 (.load false 1 (.t 64)),
 oN 66 (.bin .add (cI 3) (.t 65)),
 mV 7 66]) (
 .gh [.keep [0,7]] (
 .seq (
 .seq (
 .reg none [
 mV 67 7,
 mV 68 0,
 oN 69 (.nilck (.t 68)),
 oN 70 (.faddr 1 (.t 69)),
 oN 71 (.load false 1 (.t 70)),
 oN 72 (.len (.t 71)),
 oN 73 (.bin .gtr (.t 67) (.t 72))]) (
 .gh [.keep [0,7,73]] (
 .cond (.t 73) (
 .ret) (
 .skip)))) (
 .seq (
 .seq (
 .reg (some [(0,18),(0,20),(1,18),(1,20),(2,18),(2,20),(3,18),(3,20),(4,18),(4,20),(5,18),(5,20),(6,18),(6,20),(7,18),(7,20),(8,18),(8,20),(9,18),(9,20),(10,18),(10,20),(11,18),(11,20),(12,20),(13,20),(14,20),(15,20),(16,20),(17,20),(18,20),(19,20)]) [
 mV 74 0,
 oN 75 (.nilck (.t 74)),
 oN 76 (.faddr 1 (.t 75)),
 oN 77 (.load false 1 (.t 76)),
 oN 78 (.iaddr 1 (.t 77) (cI 0)),
 oN 79 (.load false 1 (.t 78)),
 mV 80 0,
 oN 81 (.nilck (.t 80)),
 oN 82 (.faddr 1 (.t 81)),
 oN 83 (.load false 1 (.t 82)),
 oN 84 (.iaddr 1 (.t 83) (cI 1)),
 oN 85 (.load false 1 (.t 84)),
 mV 86 0,
 oN 87 (.nilck (.t 86)),
 oN 88 (.faddr 1 (.t 87)),
 oN 89 (.load false 1 (.t 88)),
 mV 90 7,
 oN 91 (.slc 1 (.t 89) (some (cI 3)) (some (.t 90)) none),
 oN 92 (.ncall true 80093 102 [(.t 91)]),
 oN 93 (.build (.gen [(.int .i64 0),(.int .i64 0), .nils]) [(0,1,(.t 79)),(1,1,(.t 85)),(2,1,(.t 92))]),
 oN 8 (.alloc 80009 57 (.agg (.gen [(.int .i64 0),(.int .i64 0), .nils]))),
 ⟨none,none, .store 3 (.t 8) (.t 93)⟩]) (
 .gh [.keep [0,7,8]] (
 .seq (
 .reg none [
 oN 94 (.faddr 0 (.t 8)),
 oN 95 (.load false 1 (.t 94)),
 oN 96 (.bin .neq (.t 95) (cI 255))]) (
 .cond (.t 96) (
 .reg (some [(0,6),(0,7),(1,6),(2,6),(3,6),(4,6)]) [
 mV 97 0,
 mV 98 0,
 oN 99 (.nilck (.t 98)),
 oN 100 (.faddr 2 (.t 99)),
 oN 101 (.load false 1 (.t 100)),
 oN 102 (.load true 3 (.t 8)),
 oN 103 (.bslice 80104 57 3 [(.t 102)]),
 oN 104 (.append 80105 57 3 (.t 101) (.t 103)),
 oN 105 (.nilck (.t 97)),
 oN 106 (.faddr 2 (.t 105)),
 ⟨none,none, .store 1 (.t 106) (.t 104)⟩]) (
 .skip))))) (
 .reg none [
 mV 107 0,
 mV 108 0,
 oN 109 (.nilck (.t 108)),
 oN 110 (.faddr 1 (.t 109)),
 oN 111 (.load false 1 (.t 110)),
 mV 112 7,
 oN 113 (.slc 1 (.t 111) (some (.t 112)) none none),
 oN 114 (.nilck (.t 107)),
 oN 115 (.faddr 1 (.t 114)),
 ⟨none,none, .store 1 (.t 115) (.t 113)⟩]))))))
def ZC9:ACode:=.gh [.keep [0]] (.gh [] Zxo)
def ZGA:List AItem:=.inLoop ZC9::[.inBlock 0]
def c80:ACode:=
 .seq (
 .reg none [
 oN 4 (.box 80005 74 (.t 1))]) (
 .seq (
 .seq (
 .reg (some []) [
 mV 9 0,
 oN 10 (.nilck (.t 9)),
 oN 11 (.faddr 0 (.t 10)),
 oN 12 (.load false 1 (.t 11)),
 mV 13 12,
 ⟨some 14,(some (13,true)), .mov (.t 2)⟩,
 ⟨some 15,(some (13,true)), .not (.t 14)⟩,
 ⟨some 16,(some (13,true)), .mov (.t 15)⟩,
 ⟨some 17,(some (16,false)), .faddr 2 (.t 4)⟩,
 ⟨some 18,(some (16,false)), .load false 1 (.t 17)⟩,
 ⟨some 19,(some (16,false)), .mov (.t 0)⟩,
 ⟨some 20,(some (16,false)), .load true 4 (.t 4)⟩,
 ⟨some 21,(some (16,false)), .ncall true 0 123 [(.t 19),(.t 20)]⟩,
 ⟨some 22,(some (16,false)), .bin .neq (.t 18) (.t 21)⟩,
 ⟨some 23,(some (13,true)), .pick (.t 16) (.c (.bool true)) (.t 22)⟩,
 oN 24 (.pick (.t 13) (.t 23) (.c (.bool false)))]) (
 .gh [.keep [0,4,24]] (
 .cond (.t 24) (
 .reg none [
 mV 25 0,
 oN 26 (.icall 124 [(.t 25)])]) (
 .skip)))) (
 .seq (
 .reg none [
 oN 27 (.faddr 3 (.t 4)),
 oN 28 (.load false 1 (.t 27)),
 mV 6 28]) (
 .seq (
 .seq (
 .reg none [
 mV 29 0,
 oN 30 (.nilck (.t 29)),
 oN 31 (.faddr 0 (.t 30)),
 oN 32 (.load false 1 (.t 31)),
 oN 33 (.not (.t 32))]) (
 .cond (.t 33) (
 .seq (
 .seq (
 .reg none [
 oN 34 (.faddr 2 (.t 4)),
 oN 35 (.load false 1 (.t 34)),
 oN 36 (.bin .eql (.t 35) (cI 255))]) (
 .cond (.t 36) (
 .ret) (
 .skip))) (
 .reg (some [(1,7),(2,7),(3,7),(4,7)]) [
 mV 37 0,
 mV 38 6,
 oN 39 (.faddr 2 (.t 4)),
 oN 40 (.load false 1 (.t 39)),
 oN 41 (.slc 1 (.t 38) (some (.t 40)) none none),
 oN 42 (.nilck (.t 37)),
 oN 43 (.faddr 0 (.t 42)),
 ⟨none,none, .store 1 (.t 43) (.c (.bool true))⟩,
 mV 6 41])) (
 .skip))) (
 .seq (
 .reg none [
 mV 44 0,
 mV 45 0,
 oN 46 (.nilck (.t 45)),
 oN 47 (.faddr 1 (.t 46)),
 oN 48 (.load false 1 (.t 47)),
 mV 49 6,
 oN 50 (.bslice 80051 55 1 [(.t 48),(.t 49)]),
 oN 51 (.ncall true 80052 113 [(.t 50)]),
 oN 52 (.nilck (.t 44)),
 oN 53 (.faddr 1 (.t 52)),
 ⟨none,none, .store 1 (.t 53) (.t 51)⟩]) (
 .gh [.keep [0]] (
 .block 0 (
 .loop ZC9)))))))
def a80:AFunc:=⟨116,c80,[]⟩
def c81:ACode:=
 .seq (
 .reg none [
 oN 2 (.box 81003 57 (.t 0)),
 oN 3 (.box 81004 57 (.t 1)),
 oN 4 (.mov (.c (.bool false)))]) (
 .seq (
 .reg none [
 oN 5 (.faddr 0 (.t 2)),
 oN 6 (.load false 1 (.t 5)),
 oN 7 (.faddr 0 (.t 3)),
 oN 8 (.load false 1 (.t 7)),
 oN 9 (.bin .eql (.t 6) (.t 8)),
 mV 10 9,
 ⟨some 11,(some (10,true)), .faddr 1 (.t 2)⟩,
 ⟨some 12,(some (10,true)), .load false 1 (.t 11)⟩,
 ⟨some 13,(some (10,true)), .faddr 1 (.t 3)⟩,
 ⟨some 14,(some (10,true)), .load false 1 (.t 13)⟩,
 ⟨some 15,(some (10,true)), .bin .eql (.t 12) (.t 14)⟩,
 oN 16 (.pick (.t 10) (.t 15) (.c (.bool false))),
 mV 17 16,
 ⟨some 18,(some (17,true)), .faddr 2 (.t 2)⟩,
 ⟨some 19,(some (17,true)), .load false 1 (.t 18)⟩,
 ⟨some 20,(some (17,true)), .faddr 2 (.t 3)⟩,
 ⟨some 21,(some (17,true)), .load false 1 (.t 20)⟩,
 ⟨some 22,(some (17,true)), .ncall true 0 67 [(.t 19),(.t 21)]⟩,
 oN 23 (.pick (.t 17) (.t 22) (.c (.bool false))),
 mV 4 23]) (
 .gh [.keep [4]] (
 .ret)))
def a81:AFunc:=⟨24,c81,[.tmp 4]⟩
def ZGR:ACode:=
 .seq (
 .reg none [
 oN 8 (.bin .lss (.t 7) (.t 6))]) (
 .seq (
 .cond (.t 8) (
 .skip) (
 .exit 0)) (
 .seq (
 .block 1 (
 .seq (
 .reg none [
 oN 9 (.iaddr 1 (.t 5) (.t 7)),
 oN 10 (.load false 1 (.t 9)),
 mV 4 10]) (
 .seq (
 .reg none [
 mV 11 4,
 oN 12 (.bin .neq (.t 11) (cI 0))]) (
 .cond (.t 12) (
 .seq (
 .reg none [
 mV 13 4,
 mV 2 13]) (
 .ret)) (
 .skip))))) (
 .reg none [
 oN 14 (.bin .add (.t 7) (cI 1)),
 mV 7 14])))
def ZEz:ACode:=.gh [.keep [5,6,7]] (.gh [] ZGR)
def ZLE:List AItem:=.inLoop ZEz::[.inBlock 0,
 .code (.seq (
 .reg none [
 oN 2 (.mov (cI 0))]) (
 .ret))]
def c84:ACode:=
 .seq (
 .reg none [
 oN 2 (.mov (cI 0))]) (
 .seq (
 .seq (
 .reg none [
 mV 5 0,
 oN 6 (.len (.t 5)),
 oN 7 (.mov (cI 0))]) (
 .block 0 (
 .loop ZEz))) (
 .seq (
 .reg none [
 oN 2 (.mov (cI 0))]) (
 .ret)))
def a84:AFunc:=⟨15,c84,[.tmp 2]⟩
def c85:ACode:=
 .seq (
 .reg none [
 oN 2 (.mov (cI 0))]) (
 .seq (
 .seq (
 .reg none [
 mV 6 0,
 oN 7 (.ncall true 0 41 [(.t 6)]),
 mV 5 7,
 oN 8 (.ext 0 (.t 5)),
 oN 9 (.ext 1 (.t 5)),
 mV 3 8,
 mV 4 9]) (
 .gh [.keep [0,4]] (
 .seq (
 .reg none [
 mV 10 4,
 oN 11 (.bin .neq (.t 10) (cI 0))]) (
 .cond (.t 11) (
 .seq (
 .reg none [
 mV 12 4,
 mV 2 12]) (
 .ret)) (
 .skip))))) (
 .seq (
 .reg none [
 mV 13 0,
 oN 14 (.len (.t 13)),
 oN 15 (.bin .gtr (.t 14) (cI 1)),
 oN 16 (.ncall true 0 86 [(.t 15),(cI 10)]),
 mV 17 0,
 oN 18 (.ncall true 0 107 [(.t 17)]),
 oN 19 (.ncall true 0 86 [(.t 18),(cI 13)]),
 oN 20 (.bslice 85021 28 1 [(.t 16),(.t 19)]),
 oN 21 (.ncall true 0 84 [(.t 20)]),
 mV 2 21]) (
 .gh [.keep [2]] (
 .ret))))
def a85:AFunc:=⟨22,c85,[.tmp 2]⟩
def c86:ACode:=
 .seq (
 .reg none [
 oN 4 (.mov (cI 0))]) (
 .seq (
 .seq (
 .reg none [
 mV 5 0]) (
 .cond (.t 5) (
 .seq (
 .reg none [
 oN 4 (.mov (cI 0))]) (
 .ret)) (
 .skip))) (
 .seq (
 .reg none [
 mV 6 1,
 mV 4 6]) (
 .ret)))
def a86:AFunc:=⟨7,c86,[.tmp 4]⟩
def c87:ACode:=
 .seq (
 .reg none [
 oN 6 (.mov (.c (.bool false)))]) (
 .seq (
 .reg none [
 mV 7 1,
 mV 8 0,
 oN 9 (.bin .leq (.t 7) (.t 8)),
 mV 10 9,
 ⟨some 11,(some (10,true)), .mov (.t 0)⟩,
 ⟨some 12,(some (10,true)), .mov (.t 2)⟩,
 ⟨some 13,(some (10,true)), .bin .leq (.t 11) (.t 12)⟩,
 oN 14 (.pick (.t 10) (.t 13) (.c (.bool false))),
 mV 6 14]) (
 .gh [.keep [6]] (
 .ret)))
def a87:AFunc:=⟨15,c87,[.tmp 6]⟩
def c88:ACode:=
 .seq (
 .reg none [
 oN 1 (.box 88002 38 (.t 0)),
 oN 2 (.mov (.c (.val .nilFunc)))]) (
 .seq (
 .reg none [
 oN 3 (.mkfn 125 [(.t 1)]),
 mV 2 3]) (
 .ret))
def a88:AFunc:=⟨4,c88,[.tmp 2]⟩
def c89:ACode:=
 .seq (
 .reg none [
 oN 2 (.box 89003 152 (.t 0)),
 oN 4 (.mov (cI 0))]) (
 .seq (
 .reg (some []) [
 oN 5 (.faddr 0 (.t 2)),
 oN 6 (.faddr 1 (.t 5)),
 oN 7 (.load false 1 (.t 6)),
 oN 8 (.load true 4 (.t 2)),
 oN 9 (.ncall true 0 91 [(.t 8)]),
 oN 10 (.bin .mul (.t 7) (.t 9)),
 oN 11 (.faddr 2 (.t 2)),
 oN 12 (.faddr 1 (.t 11)),
 oN 13 (.load false 1 (.t 12)),
 oN 14 (.faddr 0 (.t 2)),
 oN 15 (.faddr 1 (.t 14)),
 oN 16 (.load false 1 (.t 15)),
 oN 17 (.bin .sub (.t 13) (.t 16)),
 mV 18 1,
 oN 19 (.faddr 0 (.t 2)),
 oN 20 (.faddr 0 (.t 19)),
 oN 21 (.load false 1 (.t 20)),
 oN 22 (.bin .sub (.t 18) (.t 21)),
 oN 23 (.bin .mul (.t 17) (.t 22)),
 oN 24 (.bin .add (.t 10) (.t 23)),
 mV 4 24]) (
 .gh [.keep [4]] (
 .ret)))
def a89:AFunc:=⟨25,c89,[.tmp 4]⟩
def c90:ACode:=
 .seq (
 .reg none [
 oN 4 (.mov (cI 0))]) (
 .seq (
 .reg none [
 mV 6 0,
 mV 7 1,
 oN 8 (.bin .quo (.t 6) (.t 7)),
 mV 5 8]) (
 .seq (
 .seq (
 .reg none [
 mV 9 0,
 mV 10 1,
 oN 11 (.bin .rem (.t 9) (.t 10)),
 oN 12 (.bin .lss (.t 11) (cI 0))]) (
 .cond (.t 12) (
 .reg none [
 mV 13 5,
 oN 14 (.bin .sub (.t 13) (cI 1)),
 mV 5 14]) (
 .skip))) (
 .seq (
 .reg none [
 mV 15 5,
 mV 4 15]) (
 .ret))))
def a90:AFunc:=⟨16,c90,[.tmp 4]⟩
def c91:ACode:=
 .seq (
 .reg none [
 oN 1 (.box 91002 152 (.t 0)),
 oN 2 (.mov (cI 0))]) (
 .seq (
 .reg none [
 oN 3 (.faddr 2 (.t 1)),
 oN 4 (.faddr 0 (.t 3)),
 oN 5 (.load false 1 (.t 4)),
 oN 6 (.faddr 0 (.t 1)),
 oN 7 (.faddr 0 (.t 6)),
 oN 8 (.load false 1 (.t 7)),
 oN 9 (.bin .sub (.t 5) (.t 8)),
 mV 2 9]) (
 .gh [.keep [2]] (
 .ret)))
def a91:AFunc:=⟨10,c91,[.tmp 2]⟩
def c93:ACode:=
 .seq (
 .reg none [
 oN 2 (.mov (.c (.bool false)))]) (
 .seq (
 .reg none [
 mV 3 0,
 oN 4 (.ncall true 0 87 [(.t 3),(cI 0),(cI 255)]),
 mV 2 4]) (
 .ret))
def a93:AFunc:=⟨5,c93,[.tmp 2]⟩
def c94:ACode:=
 .seq (
 .reg none [
 oN 2 (.mov (cI 0))]) (
 .seq (
 .reg none [
 mV 3 0,
 oN 4 (.ncall true 0 127 [(.t 3),(.c (.fn 128 []))]),
 mV 2 4]) (
 .ret))
def a94:AFunc:=⟨5,c94,[.tmp 2]⟩
def c95:ACode:=
 .seq (
 .reg none [
 oN 1 (.box 95002 23 (.t 0)),
 oN 2 (.alloc 95003 132 (.agg (.gen [(.int .i64 0),(.int .i64 0)]))),
 oN 3 (.mov (cI 0))]) (
 .seq (
 .reg (some []) [
 oN 4 (.load true 2 (.t 1)),
 oN 5 (.build (.gen [(.int .i64 0),(.int .i64 0)]) [(0,2,(.t 4))]),
 oN 6 (.load true 2 (.t 1)),
 oN 7 (.ncall true 0 63 [(.t 6)]),
 ⟨none,none, .store 2 (.t 2) (.t 5)⟩,
 mV 3 7]) (
 .ret))
def a95:AFunc:=⟨8,c95,[.cell 2 true 2, .tmp 3]⟩
def c96:ACode:=
 .seq (
 .reg none [
 oN 2 (.mov (cI 0))]) (
 .seq (
 .reg none [
 mV 3 0,
 oN 4 (.len (.t 3)),
 oN 5 (.bin .leq (.t 4) (cI 20)),
 oN 6 (.ncall true 0 86 [(.t 5),(cI 8)]),
 mV 7 0,
 oN 8 (.ncall true 0 129 [(.t 7),(.c (.fn 30 []))]),
 oN 9 (.bslice 96010 28 1 [(.t 6),(.t 8)]),
 oN 10 (.ncall true 0 84 [(.t 9)]),
 mV 2 10]) (
 .gh [.keep [2]] (
 .ret)))
def a96:AFunc:=⟨11,c96,[.tmp 2]⟩
def ZCn:ACode:=
 .seq (
 .reg none [
 mV 32 2,
 mV 33 3,
 mV 2 32,
 mV 3 33]) (
 .ret)
def Zxe:ACode:=
 .seq (
 .reg none [
 oN 9 (.bin .lss (.t 8) (.t 7))]) (
 .seq (
 .cond (.t 9) (
 .skip) (
 .exit 0)) (
 .seq (
 .block 1 (
 .seq (
 .reg none [
 oN 10 (.iaddr 3 (.t 6) (.t 8)),
 oN 11 (.load true 3 (.t 10)),
 oN 5 (.alloc 97006 57 (.agg (.gen [(.int .i64 0),(.int .i64 0), .nils]))),
 ⟨none,none, .store 3 (.t 5) (.t 11)⟩]) (
 .seq (
 .reg none [
 mV 12 3,
 mV 13 2,
 oN 14 (.len (.t 13)),
 oN 15 (.bslice 97016 3 1 [(.t 14)]),
 oN 16 (.append 97017 3 1 (.t 12) (.t 15)),
 mV 3 16]) (
 .seq (
 .reg none [
 mV 17 2,
 oN 18 (.faddr 0 (.t 5)),
 oN 19 (.load false 1 (.t 18)),
 oN 20 (.faddr 1 (.t 5)),
 oN 21 (.load false 1 (.t 20)),
 oN 22 (.faddr 2 (.t 5)),
 oN 23 (.load false 1 (.t 22)),
 oN 24 (.len (.t 23)),
 oN 25 (.bslice 97026 3 1 [(.t 19),(.t 21),(.t 24)]),
 oN 26 (.append 97027 3 1 (.t 17) (.t 25)),
 mV 2 26]) (
 .gh [.keep [2,3,5,6,7,8]] (
 .reg none [
 mV 27 2,
 oN 28 (.faddr 2 (.t 5)),
 oN 29 (.load false 1 (.t 28)),
 oN 30 (.append 97031 3 1 (.t 27) (.t 29)),
 mV 2 30])))))) (
 .reg none [
 oN 31 (.bin .add (.t 8) (cI 1)),
 mV 8 31])))
def ZDQ:ACode:=.gh [.keep [2,3,6,7,8]] (.gh [] Zxe)
def ZEp:List AItem:=.inLoop ZDQ::[.inBlock 0,
 .code ZCn]
def c97:ACode:=
 .seq (
 .reg none [
 oN 2 (.mov (.c .nils)),
 oN 3 (.mov (.c .nils))]) (
 .seq (
 .seq (
 .reg none [
 mV 6 0,
 oN 7 (.len (.t 6)),
 oN 8 (.mov (cI 0))]) (
 .block 0 (
 .loop ZDQ))) ZCn)
def a97:AFunc:=⟨34,c97,[.tmp 2, .tmp 3]⟩
def ZIV:ACode:=
 .seq (
 .reg none [
 mV 23 5,
 oN 24 (.faddr 0 (.t 2)),
 oN 25 (.faddr 0 (.t 24)),
 oN 26 (.load false 1 (.t 25)),
 oN 27 (.bin .rem (.t 23) (.t 26)),
 mV 8 27]) (
 .seq (
 .seq (
 .reg none [
 mV 28 8,
 oN 29 (.bin .eql (.t 28) (cI 0))]) (
 .cond (.t 29) (
 .seq (
 .reg none [
 mV 30 1,
 mV 4 30]) (
 .ret)) (
 .skip))) (
 .seq (
 .reg none [
 oN 31 (.faddr 0 (.t 2)),
 oN 32 (.faddr 0 (.t 31)),
 oN 33 (.load false 1 (.t 32)),
 mV 34 8,
 oN 35 (.bin .sub (.t 33) (.t 34)),
 mV 9 35]) (
 .seq (
 .seq (
 .reg none [
 mV 36 9,
 oN 37 (.bin .lss (.t 36) (cI 3))]) (
 .cond (.t 37) (
 .reg none [
 mV 38 9,
 oN 39 (.faddr 0 (.t 2)),
 oN 40 (.faddr 0 (.t 39)),
 oN 41 (.load false 1 (.t 40)),
 oN 42 (.bin .add (.t 38) (.t 41)),
 mV 9 42]) (
 .skip))) (
 .seq (
 .reg (some [(0,4),(0,6),(1,2),(1,3),(1,4),(1,5),(1,6)]) [
 mV 43 1,
 oN 44 (.ncall true 98045 130 [(.t 43)]),
 mV 45 9,
 oN 46 (.bin .sub (.t 45) (cI 3)),
 oN 47 (.mklst 98048 3 1 (.int .i64 0) (.t 46)),
 oN 48 (.build (.gen [(.int .i64 0),(.int .i64 0), .nils]) [(0,1,(cI 255)),(2,1,(.t 47))]),
 oN 49 (.bslice 98050 57 3 [(.t 48)]),
 oN 50 (.append 98051 57 3 (.t 44) (.t 49)),
 mV 4 50]) (
 .gh [.keep [4]] (
 .ret))))))
def ZG3:ACode:=
 .seq (
 .reg none [
 oN 13 (.bin .lss (.t 12) (.t 11))]) (
 .seq (
 .cond (.t 13) (
 .skip) (
 .exit 0)) (
 .seq (
 .block 1 (
 .seq (
 .reg none [
 oN 14 (.iaddr 3 (.t 10) (.t 12)),
 oN 15 (.load true 3 (.t 14)),
 oN 7 (.alloc 98008 57 (.agg (.gen [(.int .i64 0),(.int .i64 0), .nils]))),
 ⟨none,none, .store 3 (.t 7) (.t 15)⟩]) (
 .reg none [
 mV 16 5,
 oN 17 (.faddr 2 (.t 7)),
 oN 18 (.load false 1 (.t 17)),
 oN 19 (.len (.t 18)),
 oN 20 (.bin .add (cI 3) (.t 19)),
 oN 21 (.bin .add (.t 16) (.t 20)),
 mV 5 21]))) (
 .reg none [
 oN 22 (.bin .add (.t 12) (cI 1)),
 mV 12 22])))
def ZIM:ACode:=.gh [.keep [1,2,5,10,11,12]] (.gh [] ZG3)
def ZMC:List AItem:=.inLoop ZIM::[.inBlock 0,
 .code ZIV]
def c98:ACode:=
 .seq (
 .reg none [
 oN 2 (.box 98003 132 (.t 0)),
 oN 4 (.mov (.c .nils))]) (
 .seq (
 .reg none [
 oN 5 (.mov (cI 0))]) (
 .seq (
 .seq (
 .reg none [
 mV 10 1,
 oN 11 (.len (.t 10)),
 oN 12 (.mov (cI 0))]) (
 .block 0 (
 .loop ZIM))) ZIV))
def a98:AFunc:=⟨51,c98,[.tmp 4]⟩
def c99:ACode:=
 .seq (
 .reg none [
 oN 2 (.box 99003 23 (.t 0)),
 oN 4 (.alloc 99005 132 (.agg (.gen [(.int .i64 0),(.int .i64 0)]))),
 oN 5 (.mov (cI 0))]) (
 .seq (
 .reg none [
 oN 9 (.load true 2 (.t 2)),
 oN 10 (.ncall true 0 95 [(.t 9)]),
 mV 8 10,
 oN 11 (.ext 0 (.t 8)),
 oN 12 (.ext 1 (.t 8)),
 oN 6 (.alloc 99007 132 (.agg (.gen [(.int .i64 0),(.int .i64 0)]))),
 ⟨none,none, .store 2 (.t 6) (.t 11)⟩,
 mV 7 12]) (
 .seq (
 .reg (some [(0,5)]) [
 oN 13 (.load true 2 (.t 6)),
 mV 14 7,
 oN 15 (.load true 2 (.t 6)),
 mV 16 1,
 oN 17 (.ncall true 0 131 [(.t 15),(.t 16)]),
 oN 18 (.bslice 99019 28 1 [(.t 14),(.t 17)]),
 oN 19 (.ncall true 0 84 [(.t 18)]),
 ⟨none,none, .store 2 (.t 4) (.t 13)⟩,
 mV 5 19]) (
 .gh [.keep [4,5]] (
 .ret))))
def a99:AFunc:=⟨20,c99,[.cell 4 true 2, .tmp 5]⟩
def ZOM:ACode:=
 .seq (
 .reg none [
 oN 2 (.mov (.c (.bool false)))]) (
 .seq (
 .reg none [
 mV 3 0,
 oN 4 (.ncall true 0 87 [(.t 3),(cI 0),(cI 63)]),
 mV 2 4]) (
 .ret))
def a100:AFunc:=⟨5,ZOM,[.tmp 2]⟩
def ZQf:ACode:=
 .seq (
 .reg none [
 oN 2 (.box 101003 55 (.t 0)),
 oN 3 (.box 101004 3 (.t 1)),
 oN 4 (.mov (.c (.val .nilFunc)))]) (
 .seq (
 .seq (
 .reg none [
 oN 5 (.load false 1 (.t 3)),
 oN 6 (.bin .lss (.t 5) (cI 1))]) (
 .cond (.t 6) (
 .junk /- op makeInterface -/) (
 .skip))) (
 .seq (
 .reg none [
 oN 8 (.mkfn 132 [(.t 2),(.t 3)]),
 mV 4 8]) (
 .ret)))
def ZN8:AFunc:=⟨9,ZQf,[.tmp 4]⟩
def ZP8:ACode:=
 .seq (
 .reg none [
 oN 2 (.mov (.c .nils))]) (
 .seq (
 .seq (
 .reg none [
 mV 3 0,
 oN 4 (.isnil false (.t 3))]) (
 .cond (.t 4) (
 .seq (
 .reg none [
 oN 2 (.mov (.c .nils))]) (
 .ret)) (
 .skip))) (
 .seq (
 .reg none [
 oN 5 (.bslice 102006 3 1 []),
 mV 6 0,
 oN 7 (.append 102008 3 1 (.t 5) (.t 6)),
 mV 2 7]) (
 .ret)))
def a102:AFunc:=⟨8,ZP8,[.tmp 2]⟩
def ZwC:ACode:=
 .seq (
 .reg none [
 mV 31 7,
 mV 32 7,
 mV 33 6,
 oN 34 (.bin .lss (.t 32) (.t 33)),
 mV 35 34,
 ⟨some 36,(some (35,true)), .mov (.t 0)⟩,
 ⟨some 37,(some (35,true)), .mov (.t 7)⟩,
 ⟨some 38,(some (35,true)), .iaddr 1 (.t 36) (.t 37)⟩,
 ⟨some 39,(some (35,true)), .load false 1 (.t 38)⟩,
 ⟨some 40,(some (35,true)), .mov (.t 1)⟩,
 ⟨some 41,(some (35,true)), .bin .eql (.t 39) (.t 40)⟩,
 ⟨some 42,(some (35,true)), .mov (.t 41)⟩,
 ⟨some 43,(some (42,false)), .mov (.t 0)⟩,
 ⟨some 44,(some (42,false)), .mov (.t 7)⟩,
 ⟨some 45,(some (42,false)), .iaddr 1 (.t 43) (.t 44)⟩,
 ⟨some 46,(some (42,false)), .load false 1 (.t 45)⟩,
 ⟨some 47,(some (42,false)), .ncall true 0 134 [(.t 46)]⟩,
 ⟨some 48,(some (42,false)), .mov (.t 47)⟩,
 ⟨some 49,(some (48,true)), .mov (.t 1)⟩,
 ⟨some 50,(some (48,true)), .ncall true 0 134 [(.t 49)]⟩,
 ⟨some 51,(some (42,false)), .pick (.t 48) (.t 50) (.c (.bool false))⟩,
 ⟨some 52,(some (35,true)), .pick (.t 42) (.c (.bool true)) (.t 51)⟩,
 oN 53 (.pick (.t 35) (.t 52) (.c (.bool false))),
 mV 4 31,
 mV 5 53]) (
 .gh [.keep [4,5]] (
 .ret))
def ZwJ:ACode:=
 .seq (
 .seq (
 .reg none [
 mV 13 7,
 mV 14 8,
 oN 15 (.bin .lss (.t 13) (.t 14))]) (
 .cond (.t 15) (
 .skip) (
 .exit 0))) (
 .block 1 (
 .seq (
 .reg none [
 mV 16 7,
 mV 17 8,
 oN 18 (.bin .add (.t 16) (.t 17)),
 oN 19 (.conv .u64 (.t 18)),
 oN 20 (.bin .shr (.t 19) (.c (.int .u64 1))),
 oN 21 (.conv .i64 (.t 20)),
 mV 9 21]) (
 .gh [.keep [0,1,6,7,8,9]] (
 .seq (
 .reg none [
 mV 22 0,
 mV 23 9,
 oN 24 (.iaddr 1 (.t 22) (.t 23)),
 oN 25 (.load false 1 (.t 24)),
 mV 26 1,
 oN 27 (.ncall true 0 133 [(.t 25),(.t 26)])]) (
 .cond (.t 27) (
 .reg none [
 mV 28 9,
 oN 29 (.bin .add (.t 28) (cI 1)),
 mV 7 29]) (
 .reg none [
 mV 30 9,
 mV 8 30]))))))
def ZvA:ACode:=.gh [.keep [0,1,6,7,8]] (.gh [] ZwJ)
def ZCj:List AItem:=.inLoop ZvA::[.inBlock 0,
 .code ZwC]
def ZPL:ACode:=
 .seq (
 .reg none [
 oN 4 (.mov (cI 0)),
 oN 5 (.mov (.c (.bool false)))]) (
 .seq (
 .reg none [
 mV 10 0,
 oN 11 (.len (.t 10)),
 mV 6 11]) (
 .seq (
 .reg none [
 mV 12 6,
 oN 7 (.mov (cI 0)),
 mV 8 12]) (
 .seq (
 .block 0 (
 .loop ZvA)) ZwC)))
def a103:AFunc:=⟨54,ZPL,[.tmp 4, .tmp 5]⟩
def Zqu:ACode:=
 .seq (
 .reg none [
 mV 93 6,
 mV 94 7,
 mV 4 93,
 mV 5 94]) (
 .ret)
def ZwT:ACode:=
 .reg none [
 mV 58 12,
 oN 59 (.bin .add (.t 58) (cI 1)),
 mV 12 59]
def ZlC:ACode:=
 .seq (
 .seq (
 .reg none [
 mV 75 15,
 mV 76 14,
 oN 77 (.len (.t 76)),
 oN 78 (.bin .lss (.t 75) (.t 77))]) (
 .cond (.t 78) (
 .skip) (
 .exit 4))) (
 .seq (
 .block 5 (
 .reg none [
 mV 81 6,
 mV 82 14,
 mV 83 15,
 oN 84 (.iaddr 1 (.t 82) (.t 83)),
 oN 85 (.load false 1 (.t 84)),
 oN 86 (.bslice 104087 3 1 [(.t 85)]),
 oN 87 (.append 104088 3 1 (.t 81) (.t 86)),
 mV 88 7,
 mV 89 15,
 oN 90 (.bin .eql (.t 89) (cI 0)),
 oN 91 (.bslice 104092 4 1 [(.t 90)]),
 oN 92 (.append 104093 4 1 (.t 88) (.t 91)),
 mV 6 87,
 mV 7 92])) (
 .reg none [
 mV 79 15,
 oN 80 (.bin .add (.t 79) (cI 1)),
 mV 15 80]))
def Zu6:ACode:=.gh [.keep [6,7,8,12,14,15]] (.gh [] ZlC)
def Zlg:ACode:=
 .seq (
 .seq (
 .reg none [
 mV 54 12,
 mV 55 8,
 oN 56 (.len (.t 55)),
 oN 57 (.bin .lss (.t 54) (.t 56))]) (
 .cond (.t 57) (
 .skip) (
 .exit 2))) (
 .seq (
 .block 3 (
 .seq (
 .reg none [
 mV 60 8,
 mV 61 12,
 oN 62 (.iaddr 3 (.t 60) (.t 61)),
 oN 63 (.load true 3 (.t 62)),
 oN 13 (.alloc 104014 57 (.agg (.gen [(.int .i64 0),(.int .i64 0), .nils]))),
 ⟨none,none, .store 3 (.t 13) (.t 63)⟩]) (
 .seq (
 .reg none [
 oN 64 (.faddr 0 (.t 13)),
 oN 65 (.load false 1 (.t 64)),
 oN 66 (.faddr 1 (.t 13)),
 oN 67 (.load false 1 (.t 66)),
 oN 68 (.faddr 2 (.t 13)),
 oN 69 (.load false 1 (.t 68)),
 oN 70 (.len (.t 69)),
 oN 71 (.bslice 104072 3 1 [(.t 65),(.t 67),(.t 70)]),
 oN 72 (.faddr 2 (.t 13)),
 oN 73 (.load false 1 (.t 72)),
 oN 74 (.append 104075 3 1 (.t 71) (.t 73)),
 mV 14 74]) (
 .gh [.keep [6,7,8,12,14]] (
 .seq (
 .reg none [
 oN 15 (.mov (cI 0))]) (
 .block 4 (
 .loop Zu6))))))) ZwT)
def Zq0:ACode:=.gh [.keep [6,7,8,12]] (.gh [] Zlg)
def Zvk:ACode:=
 .seq (
 .seq (
 .reg none [
 mV 34 9,
 oN 35 (.neg (.t 34)),
 oN 36 (.faddr 0 (.t 2)),
 oN 37 (.load false 1 (.t 36)),
 oN 38 (.ncall true 0 53 [(.t 35),(.t 37)]),
 mV 11 38]) (
 .seq (
 .reg none [
 mV 39 11,
 oN 40 (.bin .gtr (.t 39) (cI 0))]) (
 .cond (.t 40) (
 .seq (
 .seq (
 .reg none [
 mV 41 11,
 oN 42 (.bin .lss (.t 41) (cI 3))]) (
 .cond (.t 42) (
 .reg none [
 mV 43 11,
 oN 44 (.faddr 0 (.t 2)),
 oN 45 (.load false 1 (.t 44)),
 oN 46 (.bin .add (.t 43) (.t 45)),
 mV 11 46]) (
 .skip))) (
 .reg none [
 mV 47 8,
 mV 48 11,
 oN 49 (.bin .sub (.t 48) (cI 3)),
 oN 50 (.mklst 104051 3 1 (.int .i64 0) (.t 49)),
 oN 51 (.build (.gen [(.int .i64 0),(.int .i64 0), .nils]) [(0,1,(cI 255)),(2,1,(.t 50))]),
 oN 52 (.bslice 104053 57 3 [(.t 51)]),
 oN 53 (.append 104054 57 3 (.t 47) (.t 52)),
 mV 8 53])) (
 .skip)))) (
 .seq (
 .seq (
 .reg none [
 oN 12 (.mov (cI 0))]) (
 .block 2 (
 .loop Zq0))) Zqu)
def Zv3:ACode:=
 .seq (
 .seq (
 .reg none [
 mV 19 10,
 mV 20 1,
 oN 21 (.len (.t 20)),
 oN 22 (.bin .lss (.t 19) (.t 21))]) (
 .cond (.t 22) (
 .skip) (
 .exit 0))) (
 .seq (
 .block 1 (
 .reg none [
 mV 25 9,
 oN 26 (.bin .add (.t 25) (cI 3)),
 mV 27 1,
 mV 28 10,
 oN 29 (.iaddr 3 (.t 27) (.t 28)),
 oN 30 (.faddr 2 (.t 29)),
 oN 31 (.load false 1 (.t 30)),
 oN 32 (.len (.t 31)),
 oN 33 (.bin .add (.t 26) (.t 32)),
 mV 9 33])) (
 .reg none [
 mV 23 10,
 oN 24 (.bin .add (.t 23) (cI 1)),
 mV 10 24]))
def Zwi:ACode:=.gh [.keep [1,2,6,7,8,9,10]] (.gh [] Zv3)
def ZnN:List AItem:=.inLoop Zu6::[.inBlock 4,
 .inBlock 3,
 .code ZwT,
 .inLoop Zq0,
 .inBlock 2,
 .code Zqu]
def ZnU:List AItem:=.inLoop Zq0::[.inBlock 2,
 .code Zqu]
def ZH5:List AItem:=.inLoop Zwi::[.inBlock 0,
 .code Zvk]
def ZPd:ACode:=
 .seq (
 .reg none [
 oN 2 (.box 104003 23 (.t 0)),
 oN 4 (.mov (.c .nils)),
 oN 5 (.mov (.c .nils))]) (
 .seq (
 .reg none [
 oN 6 (.mov (.c .nils))]) (
 .seq (
 .reg none [
 oN 7 (.mov (.c .nils))]) (
 .seq (
 .reg none [
 oN 16 (.bslice 104017 57 3 []),
 mV 17 1,
 oN 18 (.append 104019 57 3 (.t 16) (.t 17)),
 mV 8 18]) (
 .seq (
 .reg none [
 oN 9 (.mov (cI 0))]) (
 .seq (
 .seq (
 .reg none [
 oN 10 (.mov (cI 0))]) (
 .block 0 (
 .loop Zwi))) Zvk)))))
def a104:AFunc:=⟨95,ZPd,[.tmp 4, .tmp 5]⟩
def ZPn:ACode:=
 .seq (
 .reg none [
 oN 2 (.mov (.c (.bool false)))]) (
 .seq (
 .reg none [
 mV 3 0,
 oN 4 (.ncall true 0 87 [(.t 3),(cI 0),(cI 1000000000000)]),
 mV 2 4]) (
 .ret))
def ZOh:AFunc:=⟨5,ZPn,[.tmp 2]⟩
def ZDt:ACode:=
 .seq (
 .reg none [
 oN 72 (.load true 4 (.t 3)),
 ⟨none,none, .store 4 (.t 2) (.t 72)⟩]) (
 .ret)
def ZH4:ACode:=
 .reg none [
 oN 71 (.bin .add (.t 14) (cI 1)),
 mV 14 71]
def ZG2:ACode:=
 .seq (
 .reg none [
 oN 24 (.bin .lss (.t 23) (.t 22))]) (
 .seq (
 .cond (.t 24) (
 .skip) (
 .exit 2)) (
 .seq (
 .block 3 (
 .seq (
 .reg none [
 oN 25 (.iaddr 3 (.t 21) (.t 23)),
 oN 26 (.load true 3 (.t 25)),
 oN 8 (.alloc 106009 49 (.agg (.gen [(.int .i64 0),(.int .i64 0),(.int .i64 0)]))),
 ⟨none,none, .store 3 (.t 8) (.t 26)⟩]) (
 .seq (
 .reg none [
 oN 27 (.faddr 0 (.t 6)),
 oN 28 (.load false 1 (.t 27)),
 oN 29 (.faddr 0 (.t 8)),
 oN 30 (.load false 1 (.t 29)),
 oN 31 (.bin .sub (.t 28) (.t 30)),
 mV 9 31]) (
 .seq (
 .reg (some [(0,18),(0,19),(1,18),(1,19),(2,18),(2,19),(3,18),(3,19),(4,18),(4,19),(5,18),(5,19),(6,18),(6,19),(7,18),(7,19),(8,18),(8,19),(9,18),(9,19),(10,18),(10,19),(11,18),(11,19),(12,18),(12,19),(13,18),(13,19),(14,18),(14,19),(15,18),(15,19),(16,18),(16,19),(17,18),(17,19),(18,19)]) [
 oN 32 (.faddr 1 (.t 6)),
 oN 33 (.faddr 0 (.t 32)),
 oN 34 (.load false 1 (.t 33)),
 oN 35 (.faddr 1 (.t 8)),
 oN 36 (.faddr 1 (.t 35)),
 oN 37 (.load false 1 (.t 36)),
 oN 38 (.bin .sub (.t 34) (.t 37)),
 mV 39 9,
 oN 40 (.ncall true 0 114 [(.t 38),(.t 39)]),
 oN 41 (.faddr 1 (.t 6)),
 oN 42 (.faddr 1 (.t 41)),
 oN 43 (.load false 1 (.t 42)),
 oN 44 (.faddr 1 (.t 8)),
 oN 45 (.faddr 0 (.t 44)),
 oN 46 (.load false 1 (.t 45)),
 oN 47 (.bin .sub (.t 43) (.t 46)),
 mV 48 9,
 oN 49 (.ncall true 0 114 [(.t 47),(.t 48)]),
 oN 10 (.alloc 106011 79 (.agg (.gen [(.int .i64 0),(.int .i64 0)]))),
 oN 11 (.alloc 106012 79 (.agg (.gen [(.int .i64 0),(.int .i64 0)]))),
 ⟨none,none, .store 2 (.t 10) (.t 40)⟩,
 ⟨none,none, .store 2 (.t 11) (.t 49)⟩]) (
 .gh [.keep [0,2,3,4,6,10,11,12,13,14,21,22,23]] (
 .seq (
 .seq (
 .reg none [
 mV 50 4,
 oN 51 (.not (.t 50)),
 mV 52 51,
 ⟨some 53,(some (52,false)), .aaddr 2 2 (.t 3) (cI 0)⟩,
 ⟨some 54,(some (52,false)), .load true 2 (.t 53)⟩,
 ⟨some 55,(some (52,false)), .load true 2 (.t 10)⟩,
 ⟨some 56,(some (52,false)), .ncall true 0 135 [(.t 54),(.t 55)]⟩,
 oN 57 (.pick (.t 52) (.c (.bool true)) (.t 56))]) (
 .gh [.keep [0,2,3,4,6,10,11,12,13,14,21,22,23,57]] (
 .cond (.t 57) (
 .reg none [
 oN 58 (.load true 2 (.t 10)),
 oN 59 (.aaddr 2 2 (.t 3) (cI 0)),
 ⟨none,none, .store 2 (.t 59) (.t 58)⟩]) (
 .skip)))) (
 .seq (
 .seq (
 .reg none [
 mV 60 4,
 oN 61 (.not (.t 60)),
 mV 62 61,
 ⟨some 63,(some (62,false)), .load true 2 (.t 11)⟩,
 ⟨some 64,(some (62,false)), .aaddr 2 2 (.t 3) (cI 1)⟩,
 ⟨some 65,(some (62,false)), .load true 2 (.t 64)⟩,
 ⟨some 66,(some (62,false)), .ncall true 0 135 [(.t 63),(.t 65)]⟩,
 oN 67 (.pick (.t 62) (.c (.bool true)) (.t 66))]) (
 .gh [.keep [0,2,3,6,11,12,13,14,21,22,23,67]] (
 .cond (.t 67) (
 .reg none [
 oN 68 (.load true 2 (.t 11)),
 oN 69 (.aaddr 2 2 (.t 3) (cI 1)),
 ⟨none,none, .store 2 (.t 69) (.t 68)⟩]) (
 .skip)))) (
 .reg none [
 oN 4 (.mov (.c (.bool true)))])))))))) (
 .reg none [
 oN 70 (.bin .add (.t 23) (cI 1)),
 mV 23 70])))
def ZIe:ACode:=.gh [.keep [0,2,3,4,6,12,13,14,21,22,23]] (.gh [] ZG2)
def ZDX:ACode:=
 .seq (
 .reg none [
 oN 15 (.bin .lss (.t 14) (.t 13))]) (
 .seq (
 .cond (.t 15) (
 .skip) (
 .exit 0)) (
 .seq (
 .block 1 (
 .seq (
 .reg none [
 mV 16 14,
 oN 17 (.iaddr 3 (.t 12) (.t 14)),
 oN 18 (.load true 3 (.t 17)),
 oN 6 (.alloc 106007 49 (.agg (.gen [(.int .i64 0),(.int .i64 0),(.int .i64 0)]))),
 mV 5 16,
 ⟨none,none, .store 3 (.t 6) (.t 18)⟩]) (
 .seq (
 .reg none [
 mV 19 0,
 mV 20 5,
 oN 21 (.slc 3 (.t 19) none (some (.t 20)) none),
 oN 22 (.len (.t 21)),
 oN 23 (.mov (cI 0))]) (
 .block 2 (
 .loop ZIe))))) ZH4))
def ZCX:ACode:=.gh [.keep [0,2,3,4,12,13,14]] (.gh [] ZDX)
def ZOQ:ACode:=
 .seq (
 .reg none [
 oN 2 (.alloc 106003 80 (.agg (.ints .i64 [0,0,0,0])))]) (
 .seq (
 .reg none [
 oN 3 (.alloc 106004 80 (.agg (.ints .i64 [0,0,0,0])))]) (
 .seq (
 .reg none [
 oN 4 (.mov (.c (.bool false)))]) (
 .seq (
 .seq (
 .reg none [
 mV 12 0,
 oN 13 (.len (.t 12)),
 oN 14 (.mov (cI 0))]) (
 .block 0 (
 .loop ZCX))) ZDt)))
def ZNT:AFunc:=⟨73,ZOQ,[.cell 2 true 4]⟩
def ZPt:ACode:=
 .seq (
 .reg none [
 oN 2 (.mov (.c (.bool false)))]) (
 .seq (
 .seq (
 .reg none [
 mV 4 0,
 oN 5 (.len (.t 4)),
 oN 6 (.bin .lss (.t 5) (cI 2))]) (
 .cond (.t 6) (
 .seq (
 .reg none [
 oN 2 (.mov (.c (.bool true)))]) (
 .ret)) (
 .skip))) (
 .seq (
 .reg none [
 mV 7 0,
 oN 8 (.ncall true 0 106 [(.t 7)]),
 oN 3 (.alloc 107004 80 (.agg (.ints .i64 [0,0,0,0]))),
 ⟨none,none, .store 4 (.t 3) (.t 8)⟩]) (
 .seq (
 .reg none [
 oN 9 (.aaddr 2 2 (.t 3) (cI 1)),
 oN 10 (.load true 2 (.t 9)),
 oN 11 (.aaddr 2 2 (.t 3) (cI 0)),
 oN 12 (.load true 2 (.t 11)),
 oN 13 (.ncall true 0 135 [(.t 10),(.t 12)]),
 oN 14 (.not (.t 13)),
 mV 2 14]) (
 .gh [.keep [2]] (
 .ret)))))
def ZN9:AFunc:=⟨15,ZPt,[.tmp 2]⟩
def ZHh:ACode:=
 .seq (
 .reg none [
 oN 27 (.load true 2 (.t 3)),
 ⟨none,none, .store 2 (.t 2) (.t 27)⟩]) (
 .ret)
def ZDO:ACode:=
 .seq (
 .reg none [
 oN 10 (.bin .lss (.t 9) (.t 8))]) (
 .seq (
 .cond (.t 10) (
 .skip) (
 .exit 0)) (
 .seq (
 .block 1 (
 .seq (
 .reg none [
 oN 11 (.iaddr 1 (.t 7) (.t 9)),
 oN 12 (.load false 1 (.t 11)),
 mV 5 12]) (
 .seq (
 .reg none [
 oN 13 (.aaddr 2 1 (.t 3) (cI 0)),
 oN 14 (.load false 1 (.t 13)),
 mV 15 5,
 oN 16 (.bin .add (.t 14) (.t 15)),
 oN 17 (.bin .rem (.t 16) (cI 251)),
 oN 18 (.aaddr 2 1 (.t 3) (cI 0)),
 ⟨none,none, .store 1 (.t 18) (.t 17)⟩]) (
 .gh [.keep [2,3,7,8,9]] (
 .reg none [
 oN 19 (.aaddr 2 1 (.t 3) (cI 1)),
 oN 20 (.load false 1 (.t 19)),
 oN 21 (.aaddr 2 1 (.t 3) (cI 0)),
 oN 22 (.load false 1 (.t 21)),
 oN 23 (.bin .add (.t 20) (.t 22)),
 oN 24 (.bin .rem (.t 23) (cI 251)),
 oN 25 (.aaddr 2 1 (.t 3) (cI 1)),
 ⟨none,none, .store 1 (.t 25) (.t 24)⟩]))))) (
 .reg none [
 oN 26 (.bin .add (.t 9) (cI 1)),
 mV 9 26])))
def ZEa:ACode:=.gh [.keep [2,3,7,8,9]] (.gh [] ZDO)
def ZPS:ACode:=
 .seq (
 .reg none [
 oN 2 (.alloc 109003 118 (.agg (.ints .i64 [0,0])))]) (
 .seq (
 .reg none [
 oN 6 (.build (.ints .i64 [0,0]) [(0,1,(cI 1)),(1,1,(cI 0))]),
 oN 3 (.alloc 109004 118 (.agg (.ints .i64 [0,0]))),
 ⟨none,none, .store 2 (.t 3) (.t 6)⟩]) (
 .seq (
 .seq (
 .reg none [
 mV 7 0,
 oN 8 (.len (.t 7)),
 oN 9 (.mov (cI 0))]) (
 .block 0 (
 .loop ZEa))) ZHh))
def ZN2:AFunc:=⟨28,ZPS,[.cell 2 true 2]⟩
def ZO0:ACode:=
 .seq (
 .reg none [
 oN 2 (.box 110003 132 (.t 0)),
 oN 3 (.box 110004 74 (.t 1)),
 oN 4 (.mov (cI 0))]) (
 .seq (
 .reg (some []) [
 oN 5 (.load true 2 (.t 2)),
 oN 6 (.faddr 0 (.t 3)),
 oN 7 (.load false 1 (.t 6)),
 oN 8 (.ncall true 0 131 [(.t 5),(.t 7)]),
 oN 9 (.faddr 1 (.t 3)),
 oN 10 (.load false 1 (.t 9)),
 oN 11 (.ncall true 0 100 [(.t 10)]),
 mV 12 11,
 ⟨some 13,(some (12,true)), .faddr 2 (.t 3)⟩,
 ⟨some 14,(some (12,true)), .load false 1 (.t 13)⟩,
 ⟨some 15,(some (12,true)), .faddr 0 (.t 2)⟩,
 ⟨some 16,(some (12,true)), .faddr 0 (.t 15)⟩,
 ⟨some 17,(some (12,true)), .load false 1 (.t 16)⟩,
 ⟨some 18,(some (12,true)), .binw .sub (.t 17) (cI 1)⟩,
 ⟨some 19,(some (12,true)), .ncall true 0 87 [(.t 14),(cI 0),(.t 18)]⟩,
 ⟨some 20,(some (12,true)), .mov (.t 19)⟩,
 ⟨some 21,(some (20,false)), .faddr 2 (.t 3)⟩,
 ⟨some 22,(some (20,false)), .load false 1 (.t 21)⟩,
 ⟨some 23,(some (20,false)), .bin .eql (.t 22) (cI 255)⟩,
 ⟨some 24,(some (12,true)), .pick (.t 20) (.c (.bool true)) (.t 23)⟩,
 oN 25 (.pick (.t 12) (.t 24) (.c (.bool false))),
 oN 26 (.ncall true 0 86 [(.t 25),(cI 2)]),
 oN 27 (.faddr 3 (.t 3)),
 oN 28 (.load false 1 (.t 27)),
 oN 29 (.len (.t 28)),
 oN 30 (.faddr 0 (.t 2)),
 oN 31 (.faddr 0 (.t 30)),
 oN 32 (.load false 1 (.t 31)),
 oN 33 (.bin .eql (.t 29) (.t 32)),
 oN 34 (.ncall true 0 86 [(.t 33),(cI 10)]),
 oN 35 (.faddr 3 (.t 3)),
 oN 36 (.load false 1 (.t 35)),
 oN 37 (.ncall true 0 94 [(.t 36)]),
 oN 38 (.bslice 110039 28 1 [(.t 8),(.t 26),(.t 34),(.t 37)]),
 oN 39 (.ncall true 0 84 [(.t 38)]),
 mV 4 39]) (
 .gh [.keep [4]] (
 .ret)))
def a110:AFunc:=⟨40,ZO0,[.tmp 4]⟩
def ZP0:ACode:=
 .seq (
 .reg none [
 oN 2 (.mov (cI 0))]) (
 .seq (
 .seq (
 .reg none [
 mV 3 0,
 oN 4 (.len (.t 3)),
 oN 5 (.bin .eql (.t 4) (cI 0))]) (
 .cond (.t 5) (
 .seq (
 .reg none [
 oN 2 (.mov (cI 0))]) (
 .ret)) (
 .skip))) (
 .seq (
 .reg (some []) [
 mV 6 0,
 mV 7 0,
 oN 8 (.len (.t 7)),
 oN 9 (.bin .sub (.t 8) (cI 1)),
 oN 10 (.iaddr 5 (.t 6) (.t 9)),
 oN 11 (.faddr 4 (.t 10)),
 oN 12 (.load false 1 (.t 11)),
 mV 13 0,
 oN 14 (.iaddr 5 (.t 13) (cI 0)),
 oN 15 (.faddr 4 (.t 14)),
 oN 16 (.load false 1 (.t 15)),
 oN 17 (.bin .sub (.t 12) (.t 16)),
 oN 18 (.bin .add (.t 17) (cI 1)),
 mV 2 18]) (
 .gh [.keep [2]] (
 .ret))))
def a112:AFunc:=⟨19,ZP0,[.tmp 2]⟩
def Zwz:ACode:=
 .seq (
 .reg none [
 mV 35 6,
 mV 2 35]) (
 .ret)
def Zv4:ACode:=
 .seq (
 .reg none [
 oN 28 (.bin .lss (.t 27) (.t 26))]) (
 .seq (
 .cond (.t 28) (
 .skip) (
 .exit 2)) (
 .seq (
 .block 3 (
 .seq (
 .reg none [
 oN 29 (.iaddr 1 (.t 25) (.t 27)),
 oN 30 (.load false 1 (.t 29)),
 mV 8 30]) (
 .reg none [
 mV 31 6,
 mV 32 8,
 oN 33 (.append 113034 3 1 (.t 31) (.t 32)),
 mV 6 33]))) (
 .reg none [
 oN 34 (.bin .add (.t 27) (cI 1)),
 mV 27 34])))
def Zw4:ACode:=.gh [.keep [6,25,26,27]] (.gh [] Zv4)
def Zwd:ACode:=
 .seq (
 .reg none [
 mV 23 3,
 oN 24 (.ncall true 113025 136 [(.c .nils),(.t 23)]),
 mV 6 24]) (
 .seq (
 .seq (
 .reg none [
 mV 25 0,
 oN 26 (.len (.t 25)),
 oN 27 (.mov (cI 0))]) (
 .block 2 (
 .loop Zw4))) Zwz)
def Zu3:ACode:=
 .seq (
 .reg none [
 oN 12 (.bin .lss (.t 11) (.t 10))]) (
 .seq (
 .cond (.t 12) (
 .skip) (
 .exit 0)) (
 .seq (
 .block 1 (
 .seq (
 .reg none [
 oN 13 (.iaddr 1 (.t 9) (.t 11)),
 oN 14 (.load false 1 (.t 13)),
 mV 5 14]) (
 .seq (
 .reg none [
 mV 15 3,
 mV 16 5,
 oN 17 (.len (.t 16)),
 oN 18 (.bin .add (.t 15) (.t 17)),
 mV 3 18]) (
 .seq (
 .reg none [
 mV 19 3,
 oN 20 (.bin .lss (.t 19) (cI 0))]) (
 .cond (.t 20) (
 .junk /- op makeInterface -/) (
 .skip)))))) (
 .reg none [
 oN 22 (.bin .add (.t 11) (cI 1)),
 mV 11 22])))
def ZwV:ACode:=.gh [.keep [0,3,9,10,11]] (.gh [] Zu3)
def ZHZ:List AItem:=.inLoop Zw4::[.inBlock 2,
 .code Zwz]
def ZCE:List AItem:=.inLoop ZwV::[.inBlock 0,
 .code Zwd]
def ZQi:ACode:=
 .seq (
 .reg none [
 oN 2 (.mov (.c .nils))]) (
 .seq (
 .reg none [
 oN 3 (.mov (cI 0))]) (
 .seq (
 .seq (
 .reg none [
 mV 9 0,
 oN 10 (.len (.t 9)),
 oN 11 (.mov (cI 0))]) (
 .block 0 (
 .loop ZwV))) Zwd))
def a113:AFunc:=⟨36,ZQi,[.tmp 2]⟩
def ZIW:ACode:=
 .seq (
 .reg (some []) [
 mV 18 0,
 mV 19 5,
 oN 20 (.bin .quo (.t 18) (.t 19)),
 mV 21 1,
 mV 22 5,
 oN 23 (.bin .quo (.t 21) (.t 22)),
 oN 24 (.build (.gen [(.int .i64 0),(.int .i64 0)]) [(0,1,(.t 20)),(1,1,(.t 23))]),
 ⟨none,none, .store 2 (.t 4) (.t 24)⟩]) (
 .gh [.keep [4]] (
 .ret))
def ZEj:ACode:=
 .seq (
 .seq (
 .reg none [
 mV 12 6,
 oN 13 (.bin .neq (.t 12) (cI 0))]) (
 .cond (.t 13) (
 .skip) (
 .exit 0))) (
 .block 1 (
 .reg (some []) [
 mV 14 6,
 mV 15 5,
 mV 16 6,
 oN 17 (.bin .rem (.t 15) (.t 16)),
 mV 5 14,
 mV 6 17]))
def ZGI:ACode:=.gh [.keep [0,1,4,5,6]] (.gh [] ZEj)
def ZOq:ACode:=
 .seq (
 .reg none [
 oN 4 (.alloc 114005 79 (.agg (.gen [(.int .i64 0),(.int .i64 0)])))]) (
 .seq (
 .reg none [
 mV 7 1,
 mV 8 0,
 mV 9 0,
 oN 10 (.neg (.t 9)),
 oN 11 (.mm true (.t 8) (.t 10)),
 mV 5 7,
 mV 6 11]) (
 .seq (
 .block 0 (
 .loop ZGI)) ZIW))
def ZN1:AFunc:=⟨25,ZOq,[.cell 4 true 2]⟩
def Zvq:ACode:=
 .seq (
 .reg none [
 oN 11 (.bin .lss (.t 10) (.t 9))]) (
 .seq (
 .cond (.t 11) (
 .skip) (
 .exit 0)) (
 .seq (
 .block 1 (
 .seq (
 .reg none [
 oN 12 (.iaddr 4 (.t 8) (.t 10)),
 oN 13 (.load true 4 (.t 12)),
 oN 6 (.alloc 117007 74 (.agg (.gen [(.int .i64 0),(.int .i64 0),(.int .i64 0), .nils]))),
 ⟨none,none, .store 4 (.t 6) (.t 13)⟩]) (
 .seq (
 .reg none [
 mV 14 1,
 oN 15 (.load true 4 (.t 6)),
 oN 16 (.ncallv true 0 (.t 14) [(.t 15)]),
 mV 7 16]) (
 .seq (
 .reg none [
 mV 17 7,
 oN 18 (.bin .neq (.t 17) (cI 0))]) (
 .cond (.t 18) (
 .seq (
 .reg none [
 mV 19 7,
 mV 4 19]) (
 .ret)) (
 .skip)))))) (
 .reg none [
 oN 20 (.bin .add (.t 10) (cI 1)),
 mV 10 20])))
def Zw6:ACode:=.gh [.keep [1,8,9,10]] (.gh [] Zvq)
def ZC8:List AItem:=.inLoop Zw6::[.inBlock 0,
 .code (.seq (
 .reg none [
 oN 4 (.mov (cI 0))]) (
 .ret))]
def ZPH:ACode:=
 .seq (
 .reg none [
 oN 4 (.mov (cI 0))]) (
 .seq (
 .seq (
 .reg none [
 mV 8 0,
 oN 9 (.len (.t 8)),
 oN 10 (.mov (cI 0))]) (
 .block 0 (
 .loop Zw6))) (
 .seq (
 .reg none [
 oN 4 (.mov (cI 0))]) (
 .ret)))
def a117:AFunc:=⟨21,ZPH,[.tmp 4]⟩
def ZO8:ACode:=
 .reg none [
 mV 4 0,
 mV 5 0,
 oN 6 (.len (.t 5)),
 mV 7 1,
 oN 8 (.ncall true 0 137 [(.t 4),(.t 6),(.t 7)])]
def a118:AFunc:=⟨9,ZO8,[]⟩
def ZO9:ACode:=
 .seq (
 .reg none [
 oN 2 (.box 119003 140 (.t 0)),
 oN 3 (.box 119004 140 (.t 1)),
 oN 4 (.mov (cI 0))]) (
 .seq (
 .reg none [
 oN 5 (.faddr 4 (.t 2)),
 oN 6 (.load false 1 (.t 5)),
 oN 7 (.faddr 4 (.t 3)),
 oN 8 (.load false 1 (.t 7)),
 oN 9 (.ncall true 0 120 [(.t 6),(.t 8)]),
 mV 4 9]) (
 .ret))
def a119:AFunc:=⟨10,ZO9,[.tmp 4]⟩
def ZP9:ACode:=
 .seq (
 .reg none [
 oN 4 (.mov (cI 0))]) (
 .seq (
 .reg none [
 mV 7 0,
 oN 8 (.ncall true 0 138 [(.t 7)]),
 mV 5 8]) (
 .seq (
 .reg none [
 mV 9 1,
 oN 10 (.ncall true 0 138 [(.t 9)]),
 mV 6 10]) (
 .seq (
 .seq (
 .reg none [
 mV 11 5]) (
 .cond (.t 11) (
 .seq (
 .seq (
 .reg none [
 mV 12 6]) (
 .cond (.t 12) (
 .seq (
 .reg none [
 oN 4 (.mov (cI 0))]) (
 .ret)) (
 .skip))) (
 .seq (
 .reg none [
 oN 4 (.mov (cI (-1)))]) (
 .ret))) (
 .skip))) (
 .seq (
 .seq (
 .reg none [
 mV 13 6]) (
 .cond (.t 13) (
 .seq (
 .reg none [
 oN 4 (.mov (cI 1))]) (
 .ret)) (
 .skip))) (
 .seq (
 .seq (
 .reg none [
 mV 14 0,
 mV 15 1,
 oN 16 (.bin .lss (.t 14) (.t 15))]) (
 .cond (.t 16) (
 .seq (
 .reg none [
 oN 4 (.mov (cI (-1)))]) (
 .ret)) (
 .skip))) (
 .seq (
 .seq (
 .reg none [
 mV 17 0,
 mV 18 1,
 oN 19 (.bin .gtr (.t 17) (.t 18))]) (
 .cond (.t 19) (
 .seq (
 .reg none [
 oN 4 (.mov (cI 1))]) (
 .ret)) (
 .skip))) (
 .seq (
 .reg none [
 oN 4 (.mov (cI 0))]) (
 .ret))))))))
def a120:AFunc:=⟨20,ZP9,[.tmp 4]⟩
def Zsy:ACode:=
 .seq (
 .reg none [
 mV 65 0,
 mV 4 65]) (
 .ret)
def ZvU:ACode:=
 .reg none [
 mV 16 5,
 oN 17 (.bin .add (.t 16) (cI 1)),
 mV 5 17]
def Zvd:ACode:=
 .seq (
 .reg none [
 mV 59 0,
 mV 60 5,
 oN 61 (.slc 5 (.t 59) (some (.t 60)) none none),
 ⟨none,none, .clr 140 5 (.agg (.gen [(.int .i64 0),(.int .i64 0),(.int .i64 0), .nils,(.int .i64 0)])) (.t 61)⟩]) (
 .seq (
 .reg none [
 mV 62 0,
 mV 63 5,
 oN 64 (.slc 5 (.t 62) none (some (.t 63)) none),
 mV 4 64]) (
 .ret))
def Zvj:ACode:=
 .seq (
 .seq (
 .reg none [
 mV 32 7,
 mV 33 6,
 oN 34 (.len (.t 33)),
 oN 35 (.bin .lss (.t 32) (.t 34))]) (
 .cond (.t 35) (
 .skip) (
 .exit 2))) (
 .seq (
 .block 3 (
 .seq (
 .reg (some []) [
 mV 38 1,
 mV 39 6,
 mV 40 7,
 oN 41 (.iaddr 5 (.t 39) (.t 40)),
 oN 42 (.load true 5 (.t 41)),
 mV 43 6,
 mV 44 7,
 oN 45 (.bin .sub (.t 44) (cI 1)),
 oN 46 (.iaddr 5 (.t 43) (.t 45)),
 oN 47 (.load true 5 (.t 46)),
 oN 48 (.ncallv true 0 (.t 38) [(.t 42),(.t 47)]),
 oN 49 (.not (.t 48))]) (
 .gh [.keep [0,1,5,6,7,49]] (
 .cond (.t 49) (
 .seq (
 .reg none [
 mV 50 0,
 mV 51 5,
 mV 52 6,
 mV 53 7,
 oN 54 (.iaddr 5 (.t 52) (.t 53)),
 oN 55 (.load true 5 (.t 54)),
 oN 56 (.iaddr 5 (.t 50) (.t 51)),
 ⟨none,none, .store 5 (.t 56) (.t 55)⟩]) (
 .gh [.keep [0,1,5,6,7]] (
 .reg none [
 mV 57 5,
 oN 58 (.bin .add (.t 57) (cI 1)),
 mV 5 58]))) (
 .skip))))) (
 .reg none [
 mV 36 7,
 oN 37 (.bin .add (.t 36) (cI 1)),
 mV 7 37]))
def Zwb:ACode:=.gh [.keep [0,1,5,6,7]] (.gh [] Zvj)
def ZvI:ACode:=
 .seq (
 .seq (
 .reg none [
 mV 12 5,
 mV 13 0,
 oN 14 (.len (.t 13)),
 oN 15 (.bin .lss (.t 12) (.t 14))]) (
 .cond (.t 15) (
 .skip) (
 .exit 0))) (
 .seq (
 .block 1 (
 .seq (
 .reg (some []) [
 mV 18 1,
 mV 19 0,
 mV 20 5,
 oN 21 (.iaddr 5 (.t 19) (.t 20)),
 oN 22 (.load true 5 (.t 21)),
 mV 23 0,
 mV 24 5,
 oN 25 (.bin .sub (.t 24) (cI 1)),
 oN 26 (.iaddr 5 (.t 23) (.t 25)),
 oN 27 (.load true 5 (.t 26)),
 oN 28 (.ncallv true 0 (.t 18) [(.t 22),(.t 27)])]) (
 .gh [.keep [0,1,5,28]] (
 .cond (.t 28) (
 .seq (
 .reg none [
 mV 29 0,
 mV 30 5,
 oN 31 (.slc 5 (.t 29) (some (.t 30)) none none),
 mV 6 31]) (
 .seq (
 .seq (
 .reg none [
 oN 7 (.mov (cI 1))]) (
 .block 2 (
 .loop Zwb))) Zvd)) (
 .skip))))) ZvU)
def Zsq:ACode:=.gh [.keep [0,1,5]] (.gh [] ZvI)
def ZGs:List AItem:=.inLoop Zwb::[.inBlock 2,
 .code Zvd,
 .inBlock 1,
 .code ZvU,
 .inLoop Zsq,
 .inBlock 0,
 .code Zsy]
def ZGp:List AItem:=.inLoop Zsq::[.inBlock 0,
 .code Zsy]
def ZOp:ACode:=
 .seq (
 .reg none [
 oN 4 (.mov (.c .nils))]) (
 .seq (
 .seq (
 .reg none [
 mV 8 0,
 oN 9 (.len (.t 8)),
 oN 10 (.bin .lss (.t 9) (cI 2))]) (
 .cond (.t 10) (
 .seq (
 .reg none [
 mV 11 0,
 mV 4 11]) (
 .ret)) (
 .skip))) (
 .seq (
 .seq (
 .reg none [
 oN 5 (.mov (cI 1))]) (
 .block 0 (
 .loop Zsq))) Zsy))
def a121:AFunc:=⟨66,ZOp,[.tmp 4]⟩
def ZOz:ACode:=
 .seq (
 .reg none [
 oN 2 (.box 122003 140 (.t 0)),
 oN 3 (.box 122004 140 (.t 1)),
 oN 4 (.mov (.c (.bool false)))]) (
 .seq (
 .reg none [
 oN 5 (.faddr 4 (.t 2)),
 oN 6 (.load false 1 (.t 5)),
 oN 7 (.faddr 4 (.t 3)),
 oN 8 (.load false 1 (.t 7)),
 oN 9 (.bin .eql (.t 6) (.t 8)),
 mV 4 9]) (
 .ret))
def a122:AFunc:=⟨10,ZOz,[.tmp 4]⟩
def ZOy:ACode:=
 .seq (
 .reg none [
 oN 3 (.box 123004 74 (.t 1)),
 oN 4 (.mov (cI 0))]) (
 .seq (
 .seq (
 .reg none [
 mV 7 0,
 oN 8 (.nilck (.t 7)),
 oN 9 (.faddr 1 (.t 8)),
 oN 10 (.load false 1 (.t 9)),
 oN 11 (.len (.t 10)),
 oN 12 (.bin .eql (.t 11) (cI 0))]) (
 .cond (.t 12) (
 .seq (
 .reg none [
 oN 4 (.mov (cI 0))]) (
 .ret)) (
 .skip))) (
 .seq (
 .reg (some []) [
 mV 13 0,
 oN 14 (.nilck (.t 13)),
 oN 15 (.faddr 1 (.t 14)),
 oN 16 (.load false 1 (.t 15)),
 oN 17 (.faddr 3 (.t 3)),
 oN 18 (.load false 1 (.t 17)),
 oN 19 (.bslice 123020 55 1 [(.t 16),(.t 18)]),
 oN 20 (.ncall true 123021 113 [(.t 19)]),
 mV 5 20]) (
 .gh [.keep [0,3,5]] (
 .seq (
 .seq (
 .reg (some []) [
 mV 21 5,
 oN 22 (.iaddr 1 (.t 21) (cI 2)),
 oN 23 (.load false 1 (.t 22)),
 oN 24 (.bin .add (cI 3) (.t 23)),
 mV 25 0,
 oN 26 (.nilck (.t 25)),
 oN 27 (.faddr 1 (.t 26)),
 oN 28 (.load false 1 (.t 27)),
 oN 29 (.len (.t 28)),
 oN 30 (.bin .sub (.t 24) (.t 29)),
 mV 6 30]) (
 .gh [.keep [3,6]] (
 .seq (
 .reg none [
 mV 31 6,
 oN 32 (.faddr 3 (.t 3)),
 oN 33 (.load false 1 (.t 32)),
 oN 34 (.len (.t 33)),
 oN 35 (.bin .lss (.t 31) (.t 34))]) (
 .cond (.t 35) (
 .seq (
 .reg none [
 mV 36 6,
 mV 4 36]) (
 .ret)) (
 .skip))))) (
 .seq (
 .reg none [
 oN 4 (.mov (cI 255))]) (
 .ret))))))
def a123:AFunc:=⟨37,ZOy,[.tmp 4]⟩
def ZOP:ACode:=
 .reg none [
 mV 2 0,
 mV 3 0,
 oN 4 (.nilck (.t 2)),
 oN 5 (.faddr 0 (.t 4)),
 ⟨none,none, .store 1 (.t 5) (.c (.bool false))⟩,
 oN 6 (.nilck (.t 3)),
 oN 7 (.faddr 1 (.t 6)),
 ⟨none,none, .store 1 (.t 7) (.c .nils)⟩]
def ZOa:AFunc:=⟨8,ZOP,[]⟩
def ZEJ:ACode:=
 .reg none [
 oN 68 (.bin .add (.t 14) (cI 1)),
 mV 14 68]
def ZDq:ACode:=
 .reg none [
 oN 67 (.bin .add (.t 23) (cI 1)),
 mV 23 67]
def ZJb:ACode:=
 .reg none [
 oN 66 (.bin .add (.t 34) (cI 1)),
 mV 34 66]
def ZEI:ACode:=
 .seq (
 .reg none [
 oN 45 (.bin .lss (.t 44) (cI 2))]) (
 .seq (
 .cond (.t 45) (
 .skip) (
 .exit 6)) (
 .seq (
 .block 7 (
 .seq (
 .reg none [
 oN 46 (.idx 2 (.t 43) (.t 44)),
 mV 10 46]) (
 .seq (
 .reg none [
 oN 47 (.faddr 0 (.t 6)),
 oN 48 (.load false 1 (.t 47)),
 mV 49 8,
 oN 50 (.build (.gen [(.int .i64 0),(.int .i64 0)]) [(0,1,(.t 48)),(1,1,(.t 49))]),
 oN 51 (.faddr 0 (.t 4)),
 oN 52 (.load false 1 (.t 51)),
 mV 53 10,
 oN 54 (.build (.gen [(.int .i64 0),(.int .i64 0)]) [(0,1,(.t 52)),(1,1,(.t 53))]),
 oN 55 (.build (.gen [(.int .i64 0),(.int .i64 0),(.int .i64 0),(.int .i64 0)]) [(0,2,(.t 50)),(2,2,(.t 54))]),
 oN 11 (.alloc 125012 152 (.agg (.gen [(.int .i64 0),(.int .i64 0),(.int .i64 0),(.int .i64 0)]))),
 ⟨none,none, .store 4 (.t 11) (.t 55)⟩]) (
 .gh [.keep [0,1,4,6,8,11,12,13,14,21,22,23,33,34,43,44]] (
 .seq (
 .reg none [
 oN 56 (.load true 4 (.t 11)),
 oN 57 (.load false 1 (.t 1)),
 oN 58 (.ncall true 0 126 [(.t 56),(.t 57)]),
 mV 59 58,
 ⟨some 60,(some (59,true)), .mov (.t 0)⟩,
 ⟨some 61,(some (59,true)), .load true 4 (.t 11)⟩,
 ⟨some 62,(some (59,true)), .icallv (.t 60) [(.t 61)]⟩,
 ⟨some 63,(some (59,true)), .not (.t 62)⟩,
 oN 64 (.pick (.t 59) (.t 63) (.c (.bool false)))]) (
 .gh [.keep [0,1,4,6,8,12,13,14,21,22,23,33,34,43,44,64]] (
 .cond (.t 64) (
 .ret) (
 .skip)))))))) (
 .reg none [
 oN 65 (.bin .add (.t 44) (cI 1)),
 mV 44 65])))
def ZDG:ACode:=.gh [.keep [0,1,4,6,8,12,13,14,21,22,23,33,34,43,44]] (.gh [] ZEI)
def ZEi:ACode:=
 .seq (
 .reg none [
 oN 35 (.bin .lss (.t 34) (cI 2))]) (
 .seq (
 .cond (.t 35) (
 .skip) (
 .exit 4)) (
 .seq (
 .block 5 (
 .seq (
 .reg none [
 oN 36 (.idx 2 (.t 33) (.t 34)),
 mV 8 36]) (
 .seq (
 .reg none [
 oN 37 (.faddr 1 (.t 4)),
 oN 38 (.faddr 0 (.t 37)),
 oN 39 (.load false 1 (.t 38)),
 oN 40 (.faddr 1 (.t 4)),
 oN 41 (.faddr 1 (.t 40)),
 oN 42 (.load false 1 (.t 41)),
 oN 43 (.build (.ints .i64 [0,0]) [(0,1,(.t 39)),(1,1,(.t 42))]),
 oN 44 (.mov (cI 0))]) (
 .gh [.keep [0,1,4,6,8,12,13,14,21,22,23,33,34,43,44]] (
 .block 6 (
 .loop ZDG)))))) ZJb))
def ZGw:ACode:=.gh [.keep [0,1,4,6,12,13,14,21,22,23,33,34]] (.gh [] ZEi)
def ZIn:ACode:=
 .seq (
 .reg none [
 oN 24 (.bin .lss (.t 23) (.t 22))]) (
 .seq (
 .cond (.t 24) (
 .skip) (
 .exit 2)) (
 .seq (
 .block 3 (
 .seq (
 .reg none [
 oN 25 (.iaddr 3 (.t 21) (.t 23)),
 oN 26 (.load true 3 (.t 25)),
 oN 6 (.alloc 125007 49 (.agg (.gen [(.int .i64 0),(.int .i64 0),(.int .i64 0)]))),
 ⟨none,none, .store 3 (.t 6) (.t 26)⟩]) (
 .seq (
 .reg none [
 oN 27 (.faddr 1 (.t 6)),
 oN 28 (.faddr 0 (.t 27)),
 oN 29 (.load false 1 (.t 28)),
 oN 30 (.faddr 1 (.t 6)),
 oN 31 (.faddr 1 (.t 30)),
 oN 32 (.load false 1 (.t 31)),
 oN 33 (.build (.ints .i64 [0,0]) [(0,1,(.t 29)),(1,1,(.t 32))]),
 oN 34 (.mov (cI 0))]) (
 .gh [.keep [0,1,4,6,12,13,14,21,22,23,33,34]] (
 .block 4 (
 .loop ZGw)))))) ZDq))
def ZHq:ACode:=.gh [.keep [0,1,4,12,13,14,21,22,23]] (.gh [] ZIn)
def ZGY:ACode:=
 .seq (
 .reg none [
 oN 15 (.bin .lss (.t 14) (.t 13))]) (
 .seq (
 .cond (.t 15) (
 .skip) (
 .exit 0)) (
 .seq (
 .block 1 (
 .seq (
 .reg none [
 mV 16 14,
 oN 17 (.iaddr 3 (.t 12) (.t 14)),
 oN 18 (.load true 3 (.t 17)),
 oN 4 (.alloc 125005 49 (.agg (.gen [(.int .i64 0),(.int .i64 0),(.int .i64 0)]))),
 mV 3 16,
 ⟨none,none, .store 3 (.t 4) (.t 18)⟩]) (
 .seq (
 .reg none [
 oN 19 (.load false 1 (.t 1)),
 mV 20 3,
 oN 21 (.slc 3 (.t 19) none (some (.t 20)) none),
 oN 22 (.len (.t 21)),
 oN 23 (.mov (cI 0))]) (
 .block 2 (
 .loop ZHq))))) ZEJ))
def ZHE:ACode:=.gh [.keep [0,1,12,13,14]] (.gh [] ZGY)
def ZPy:ACode:=
 .seq (
 .reg none [
 oN 12 (.load false 1 (.t 1)),
 oN 13 (.len (.t 12)),
 oN 14 (.mov (cI 0))]) (
 .block 0 (
 .loop ZHE))
def ZNR:AFunc:=⟨69,ZPy,[]⟩
def ZG7:ACode:=
 .seq (
 .reg none [
 oN 4 (.mov (.c (.bool true)))]) (
 .ret)
def ZEF:ACode:=
 .seq (
 .reg none [
 oN 10 (.bin .lss (.t 9) (.t 8))]) (
 .seq (
 .cond (.t 10) (
 .skip) (
 .exit 0)) (
 .seq (
 .block 1 (
 .seq (
 .reg none [
 oN 11 (.iaddr 3 (.t 7) (.t 9)),
 oN 12 (.load true 3 (.t 11)),
 oN 6 (.alloc 126007 49 (.agg (.gen [(.int .i64 0),(.int .i64 0),(.int .i64 0)]))),
 ⟨none,none, .store 3 (.t 6) (.t 12)⟩]) (
 .seq (
 .reg (some []) [
 oN 13 (.load true 4 (.t 2)),
 oN 14 (.faddr 0 (.t 6)),
 oN 15 (.load false 1 (.t 14)),
 oN 16 (.ncall true 0 89 [(.t 13),(.t 15)]),
 oN 17 (.faddr 1 (.t 6)),
 oN 18 (.faddr 0 (.t 17)),
 oN 19 (.load false 1 (.t 18)),
 oN 20 (.load true 4 (.t 2)),
 oN 21 (.ncall true 0 91 [(.t 20)]),
 oN 22 (.bin .mul (.t 19) (.t 21)),
 oN 23 (.faddr 1 (.t 6)),
 oN 24 (.faddr 1 (.t 23)),
 oN 25 (.load false 1 (.t 24)),
 oN 26 (.load true 4 (.t 2)),
 oN 27 (.ncall true 0 91 [(.t 26)]),
 oN 28 (.bin .mul (.t 25) (.t 27)),
 oN 29 (.ncall true 0 87 [(.t 16),(.t 22),(.t 28)]),
 oN 30 (.not (.t 29))]) (
 .gh [.keep [2,7,8,9,30]] (
 .cond (.t 30) (
 .seq (
 .reg none [
 oN 4 (.mov (.c (.bool false)))]) (
 .ret)) (
 .skip)))))) (
 .reg none [
 oN 31 (.bin .add (.t 9) (cI 1)),
 mV 9 31])))
def ZGL:ACode:=.gh [.keep [2,7,8,9]] (.gh [] ZEF)
def ZPI:ACode:=
 .seq (
 .reg none [
 oN 2 (.box 126003 152 (.t 0)),
 oN 4 (.mov (.c (.bool false)))]) (
 .seq (
 .seq (
 .reg none [
 mV 7 1,
 oN 8 (.len (.t 7)),
 oN 9 (.mov (cI 0))]) (
 .block 0 (
 .loop ZGL))) ZG7)
def ZN4:AFunc:=⟨32,ZPI,[.tmp 4]⟩
def Zva:ACode:=
 .seq (
 .reg none [
 oN 11 (.bin .lss (.t 10) (.t 9))]) (
 .seq (
 .cond (.t 11) (
 .skip) (
 .exit 0)) (
 .seq (
 .block 1 (
 .seq (
 .reg none [
 oN 12 (.iaddr 1 (.t 8) (.t 10)),
 oN 13 (.load false 1 (.t 12)),
 mV 6 13]) (
 .seq (
 .reg none [
 mV 14 1,
 mV 15 6,
 oN 16 (.ncallv true 0 (.t 14) [(.t 15)]),
 mV 7 16]) (
 .seq (
 .reg none [
 mV 17 7,
 oN 18 (.bin .neq (.t 17) (cI 0))]) (
 .cond (.t 18) (
 .seq (
 .reg none [
 mV 19 7,
 mV 4 19]) (
 .ret)) (
 .skip)))))) (
 .reg none [
 oN 20 (.bin .add (.t 10) (cI 1)),
 mV 10 20])))
def ZwF:ACode:=.gh [.keep [1,8,9,10]] (.gh [] Zva)
def ZCD:List AItem:=.inLoop ZwF::[.inBlock 0,
 .code (.seq (
 .reg none [
 oN 4 (.mov (cI 0))]) (
 .ret))]
def ZPe:ACode:=
 .seq (
 .reg none [
 oN 4 (.mov (cI 0))]) (
 .seq (
 .seq (
 .reg none [
 mV 8 0,
 oN 9 (.len (.t 8)),
 oN 10 (.mov (cI 0))]) (
 .block 0 (
 .loop ZwF))) (
 .seq (
 .reg none [
 oN 4 (.mov (cI 0))]) (
 .ret)))
def a127:AFunc:=⟨21,ZPe,[.tmp 4]⟩
def ZPV:ACode:=
 .seq (
 .reg none [
 oN 2 (.mov (cI 0))]) (
 .seq (
 .reg none [
 mV 3 0,
 oN 4 (.ncall true 0 93 [(.t 3)]),
 oN 5 (.ncall true 0 86 [(.t 4),(cI 2)]),
 mV 2 5]) (
 .ret))
def ZOe:AFunc:=⟨6,ZPV,[.tmp 2]⟩
def Zwx:ACode:=
 .seq (
 .reg none [
 oN 11 (.bin .lss (.t 10) (.t 9))]) (
 .seq (
 .cond (.t 11) (
 .skip) (
 .exit 0)) (
 .seq (
 .block 1 (
 .seq (
 .reg none [
 oN 12 (.iaddr 3 (.t 8) (.t 10)),
 oN 13 (.load true 3 (.t 12)),
 oN 6 (.alloc 129007 57 (.agg (.gen [(.int .i64 0),(.int .i64 0), .nils]))),
 ⟨none,none, .store 3 (.t 6) (.t 13)⟩]) (
 .seq (
 .reg none [
 mV 14 1,
 oN 15 (.load true 3 (.t 6)),
 oN 16 (.ncallv true 0 (.t 14) [(.t 15)]),
 mV 7 16]) (
 .seq (
 .reg none [
 mV 17 7,
 oN 18 (.bin .neq (.t 17) (cI 0))]) (
 .cond (.t 18) (
 .seq (
 .reg none [
 mV 19 7,
 mV 4 19]) (
 .ret)) (
 .skip)))))) (
 .reg none [
 oN 20 (.bin .add (.t 10) (cI 1)),
 mV 10 20])))
def Zvz:ACode:=.gh [.keep [1,8,9,10]] (.gh [] Zwx)
def ZFI:List AItem:=.inLoop Zvz::[.inBlock 0,
 .code (.seq (
 .reg none [
 oN 4 (.mov (cI 0))]) (
 .ret))]
def ZPN:ACode:=
 .seq (
 .reg none [
 oN 4 (.mov (cI 0))]) (
 .seq (
 .seq (
 .reg none [
 mV 8 0,
 oN 9 (.len (.t 8)),
 oN 10 (.mov (cI 0))]) (
 .block 0 (
 .loop Zvz))) (
 .seq (
 .reg none [
 oN 4 (.mov (cI 0))]) (
 .ret)))
def a129:AFunc:=⟨21,ZPN,[.tmp 4]⟩
def ZPX:ACode:=
 .seq (
 .reg none [
 oN 2 (.mov (.c .nils))]) (
 .seq (
 .seq (
 .reg none [
 mV 3 0,
 oN 4 (.isnil false (.t 3))]) (
 .cond (.t 4) (
 .seq (
 .reg none [
 oN 2 (.mov (.c .nils))]) (
 .ret)) (
 .skip))) (
 .seq (
 .reg none [
 oN 5 (.bslice 130006 57 3 []),
 mV 6 0,
 oN 7 (.append 130008 57 3 (.t 5) (.t 6)),
 mV 2 7]) (
 .ret)))
def a130:AFunc:=⟨8,ZPX,[.tmp 2]⟩
def ZPK:ACode:=
 .seq (
 .reg none [
 oN 2 (.box 131003 132 (.t 0)),
 oN 4 (.mov (cI 0))]) (
 .seq (
 .reg none [
 mV 5 1,
 oN 6 (.faddr 0 (.t 2)),
 oN 7 (.faddr 1 (.t 6)),
 oN 8 (.load false 1 (.t 7)),
 oN 9 (.binw .sub (.t 8) (cI 1)),
 oN 10 (.ncall true 0 87 [(.t 5),(cI 0),(.t 9)]),
 oN 11 (.ncall true 0 86 [(.t 10),(cI 6)]),
 mV 4 11]) (
 .gh [.keep [4]] (
 .ret)))
def a131:AFunc:=⟨12,ZPK,[.tmp 4]⟩
def Zrs:ACode:=
 .seq (
 .seq (
 .reg none [
 mV 6 4,
 oN 7 (.load false 1 (.t 1)),
 oN 8 (.len (.t 7)),
 oN 9 (.bin .lss (.t 6) (.t 8))]) (
 .cond (.t 9) (
 .skip) (
 .exit 0))) (
 .seq (
 .block 1 (
 .seq (
 .reg (some []) [
 oN 13 (.load false 1 (.t 2)),
 oN 14 (.load false 1 (.t 1)),
 mV 15 4,
 oN 16 (.slc 1 (.t 14) (some (.t 15)) none none),
 oN 17 (.len (.t 16)),
 oN 18 (.mm false (.t 13) (.t 17)),
 mV 5 18]) (
 .gh [.keep [0,1,2,4,5]] (
 .seq (
 .reg none [
 mV 19 0,
 oN 20 (.load false 1 (.t 1)),
 mV 21 4,
 mV 22 4,
 mV 23 5,
 oN 24 (.bin .add (.t 22) (.t 23)),
 mV 25 4,
 mV 26 5,
 oN 27 (.bin .add (.t 25) (.t 26)),
 oN 28 (.slc 1 (.t 20) (some (.t 21)) (some (.t 24)) (some (.t 27))),
 oN 29 (.icallv (.t 19) [(.t 28)]),
 oN 30 (.not (.t 29))]) (
 .gh [.keep [0,1,2,4,30]] (
 .cond (.t 30) (
 .ret) (
 .skip))))))) (
 .reg none [
 mV 10 4,
 oN 11 (.load false 1 (.t 2)),
 oN 12 (.bin .add (.t 10) (.t 11)),
 mV 4 12]))
def ZuY:ACode:=.gh [.keep [0,1,2,4]] (.gh [] Zrs)
def Zwf:List AItem:=.inLoop ZuY::[.inBlock 0]
def ZOY:ACode:=
 .seq (
 .reg none [
 oN 4 (.mov (cI 0))]) (
 .block 0 (
 .loop ZuY))
def ZOf:AFunc:=⟨31,ZOY,[]⟩
def ZOT:ACode:=
 .seq (
 .reg none [
 oN 4 (.mov (.c (.bool false)))]) (
 .seq (
 .reg none [
 mV 5 0,
 oN 6 (.ncall true 0 138 [(.t 5)]),
 mV 7 6,
 ⟨some 8,(some (7,true)), .mov (.t 1)⟩,
 ⟨some 9,(some (7,true)), .ncall true 0 138 [(.t 8)]⟩,
 ⟨some 10,(some (7,true)), .not (.t 9)⟩,
 oN 11 (.pick (.t 7) (.t 10) (.c (.bool false))),
 mV 12 11,
 ⟨some 13,(some (12,false)), .mov (.t 0)⟩,
 ⟨some 14,(some (12,false)), .mov (.t 1)⟩,
 ⟨some 15,(some (12,false)), .bin .lss (.t 13) (.t 14)⟩,
 oN 16 (.pick (.t 12) (.c (.bool true)) (.t 15)),
 mV 4 16]) (
 .gh [.keep [4]] (
 .ret)))
def ZOl:AFunc:=⟨17,ZOT,[.tmp 4]⟩
def ZQb:ACode:=
 .seq (
 .reg none [
 oN 2 (.mov (.c (.bool false)))]) (
 .seq (
 .reg none [
 mV 3 0,
 mV 4 0,
 oN 5 (.bin .neq (.t 3) (.t 4)),
 mV 2 5]) (
 .ret))
def ZNH:AFunc:=⟨6,ZQb,[.tmp 2]⟩
def ZP5:ACode:=
 .seq (
 .reg none [
 oN 2 (.box 135003 79 (.t 0)),
 oN 3 (.box 135004 79 (.t 1)),
 oN 4 (.mov (.c (.bool false)))]) (
 .seq (
 .reg none [
 oN 5 (.faddr 0 (.t 2)),
 oN 6 (.load false 1 (.t 5)),
 oN 7 (.faddr 1 (.t 3)),
 oN 8 (.load false 1 (.t 7)),
 oN 9 (.bin .mul (.t 6) (.t 8)),
 oN 10 (.faddr 0 (.t 3)),
 oN 11 (.load false 1 (.t 10)),
 oN 12 (.faddr 1 (.t 2)),
 oN 13 (.load false 1 (.t 12)),
 oN 14 (.bin .mul (.t 11) (.t 13)),
 oN 15 (.bin .lss (.t 9) (.t 14)),
 mV 4 15]) (
 .gh [.keep [4]] (
 .ret)))
def ZNI:AFunc:=⟨16,ZP5,[.tmp 4]⟩
def ZPb:ACode:=
 .seq (
 .reg none [
 oN 4 (.mov (.c .nils))]) (
 .seq (
 .seq (
 .reg none [
 mV 5 1,
 oN 6 (.bin .lss (.t 5) (cI 0))]) (
 .cond (.t 6) (
 .junk /- op makeInterface -/) (
 .skip))) (
 .seq (
 .seq (
 .reg none [
 mV 8 1,
 mV 9 0,
 oN 10 (.capl (.t 9)),
 mV 11 0,
 oN 12 (.len (.t 11)),
 oN 13 (.bin .sub (.t 10) (.t 12)),
 oN 14 (.bin .sub (.t 8) (.t 13)),
 mV 1 14]) (
 .gh [.keep [0,1]] (
 .seq (
 .reg none [
 mV 15 1,
 oN 16 (.bin .gtr (.t 15) (cI 0))]) (
 .cond (.t 16) (
 .reg none [
 mV 17 0,
 mV 18 0,
 oN 19 (.capl (.t 18)),
 oN 20 (.slc 1 (.t 17) none (some (.t 19)) none),
 mV 21 1,
 oN 22 (.appz 136023 3 1 (.int .i64 0) (.t 20) (.t 21)),
 mV 23 0,
 oN 24 (.len (.t 23)),
 oN 25 (.slc 1 (.t 22) none (some (.t 24)) none),
 mV 0 25]) (
 .skip))))) (
 .seq (
 .reg none [
 mV 26 0,
 mV 4 26]) (
 .ret))))
def ZOc:AFunc:=⟨27,ZPb,[.tmp 4]⟩
def Zwm:ACode:=
 .seq (
 .seq (
 .reg none [
 mV 49 7,
 mV 50 6,
 oN 51 (.bin .add (.t 49) (.t 50)),
 mV 9 51]) (
 .seq (
 .reg none [
 mV 52 9,
 mV 53 1,
 oN 54 (.bin .lss (.t 52) (.t 53))]) (
 .cond (.t 54) (
 .reg none [
 mV 55 0,
 mV 56 7,
 mV 57 9,
 mV 58 1,
 mV 59 2,
 oN 60 (.ncall true 0 140 [(.t 55),(.t 56),(.t 57),(.t 58),(.t 59)])]) (
 .skip)))) (
 .reg none [
 mV 61 6,
 oN 62 (.bin .mul (.t 61) (cI 2)),
 mV 6 62])
def ZwU:ACode:=
 .seq (
 .seq (
 .reg none [
 mV 33 8,
 mV 34 1,
 oN 35 (.bin .leq (.t 33) (.t 34))]) (
 .cond (.t 35) (
 .skip) (
 .exit 4))) (
 .block 5 (
 .seq (
 .reg none [
 mV 36 0,
 mV 37 7,
 mV 38 7,
 mV 39 6,
 oN 40 (.bin .add (.t 38) (.t 39)),
 mV 41 8,
 mV 42 2,
 oN 43 (.ncall true 0 140 [(.t 36),(.t 37),(.t 40),(.t 41),(.t 42)])]) (
 .gh [.keep [0,1,2,6,8]] (
 .seq (
 .reg none [
 mV 44 8,
 mV 7 44]) (
 .reg none [
 mV 45 8,
 mV 46 6,
 oN 47 (.bin .mul (cI 2) (.t 46)),
 oN 48 (.bin .add (.t 45) (.t 47)),
 mV 8 48])))))
def ZwD:ACode:=.gh [.keep [0,1,2,6,7,8]] (.gh [] ZwU)
def Zr1:ACode:=
 .seq (
 .seq (
 .reg none [
 mV 28 6,
 mV 29 1,
 oN 30 (.bin .lss (.t 28) (.t 29))]) (
 .cond (.t 30) (
 .skip) (
 .exit 2))) (
 .block 3 (
 .seq (
 .reg none [
 mV 31 6,
 oN 32 (.bin .mul (cI 2) (.t 31)),
 oN 7 (.mov (cI 0)),
 mV 8 32]) (
 .seq (
 .block 4 (
 .loop ZwD)) Zwm)))
def Zsk:ACode:=.gh [.keep [0,1,2,6]] (.gh [] Zr1)
def Zu2:ACode:=
 .seq (
 .reg none [
 mV 23 0,
 mV 24 7,
 mV 25 1,
 mV 26 2,
 oN 27 (.ncall true 0 139 [(.t 23),(.t 24),(.t 25),(.t 26)])]) (
 .block 2 (
 .loop Zsk))
def Zr2:ACode:=
 .seq (
 .seq (
 .reg none [
 mV 11 8,
 mV 12 1,
 oN 13 (.bin .leq (.t 11) (.t 12))]) (
 .cond (.t 13) (
 .skip) (
 .exit 0))) (
 .block 1 (
 .seq (
 .reg none [
 mV 14 0,
 mV 15 7,
 mV 16 8,
 mV 17 2,
 oN 18 (.ncall true 0 139 [(.t 14),(.t 15),(.t 16),(.t 17)])]) (
 .seq (
 .reg none [
 mV 19 8,
 mV 7 19]) (
 .reg none [
 mV 20 8,
 mV 21 6,
 oN 22 (.bin .add (.t 20) (.t 21)),
 mV 8 22]))))
def ZvN:ACode:=.gh [.keep [0,1,2,6,7,8]] (.gh [] Zr2)
def ZDC:List AItem:=.inLoop ZwD::[.inBlock 4,
 .code Zwm,
 .inBlock 3,
 .inLoop Zsk,
 .inBlock 2]
def Zxd:List AItem:=.inLoop Zsk::[.inBlock 2]
def Zvc:List AItem:=.inLoop ZvN::[.inBlock 0,
 .code Zu2]
def ZPh:ACode:=
 .seq (
 .reg none [
 oN 6 (.mov (cI 20))]) (
 .seq (
 .reg none [
 mV 10 6,
 oN 7 (.mov (cI 0)),
 mV 8 10]) (
 .seq (
 .block 0 (
 .loop ZvN)) Zu2))
def a137:AFunc:=⟨63,ZPh,[]⟩
def ZQh:ACode:=
 .seq (
 .reg none [
 oN 2 (.mov (.c (.bool false)))]) (
 .seq (
 .reg none [
 mV 3 0,
 mV 4 0,
 oN 5 (.bin .neq (.t 3) (.t 4)),
 mV 2 5]) (
 .ret))
def ZNJ:AFunc:=⟨6,ZQh,[.tmp 2]⟩
def Zwv:ACode:=
 .reg none [
 mV 15 8,
 oN 16 (.bin .add (.t 15) (cI 1)),
 mV 8 16]
def ZvK:ACode:=
 .seq (
 .seq (
 .reg (some []) [
 mV 18 9,
 mV 19 1,
 oN 20 (.bin .gtr (.t 18) (.t 19)),
 mV 21 20,
 ⟨some 22,(some (21,true)), .mov (.t 3)⟩,
 ⟨some 23,(some (21,true)), .mov (.t 0)⟩,
 ⟨some 24,(some (21,true)), .mov (.t 9)⟩,
 ⟨some 25,(some (21,true)), .iaddr 5 (.t 23) (.t 24)⟩,
 ⟨some 26,(some (21,true)), .load true 5 (.t 25)⟩,
 ⟨some 27,(some (21,true)), .mov (.t 0)⟩,
 ⟨some 28,(some (21,true)), .mov (.t 9)⟩,
 ⟨some 29,(some (21,true)), .bin .sub (.t 28) (cI 1)⟩,
 ⟨some 30,(some (21,true)), .iaddr 5 (.t 27) (.t 29)⟩,
 ⟨some 31,(some (21,true)), .load true 5 (.t 30)⟩,
 ⟨some 32,(some (21,true)), .ncallv true 0 (.t 22) [(.t 26),(.t 31)]⟩,
 ⟨some 33,(some (21,true)), .bin .lss (.t 32) (cI 0)⟩,
 oN 34 (.pick (.t 21) (.t 33) (.c (.bool false)))]) (
 .gh [.keep [0,1,2,3,8,9,34]] (
 .cond (.t 34) (
 .skip) (
 .exit 2)))) (
 .seq (
 .block 3 (
 .reg (some [(2,15),(3,15),(4,15)]) [
 mV 37 0,
 mV 38 9,
 mV 39 0,
 mV 40 9,
 oN 41 (.bin .sub (.t 40) (cI 1)),
 mV 42 0,
 mV 43 9,
 oN 44 (.bin .sub (.t 43) (cI 1)),
 oN 45 (.iaddr 5 (.t 42) (.t 44)),
 oN 46 (.load true 5 (.t 45)),
 mV 47 0,
 mV 48 9,
 oN 49 (.iaddr 5 (.t 47) (.t 48)),
 oN 50 (.load true 5 (.t 49)),
 oN 51 (.iaddr 5 (.t 37) (.t 38)),
 ⟨none,none, .store 5 (.t 51) (.t 46)⟩,
 oN 52 (.iaddr 5 (.t 39) (.t 41)),
 ⟨none,none, .store 5 (.t 52) (.t 50)⟩])) (
 .reg none [
 mV 35 9,
 oN 36 (.bin .sub (.t 35) (cI 1)),
 mV 9 36]))
def Zvr:ACode:=.gh [.keep [0,1,2,3,8,9]] (.gh [] ZvK)
def ZqA:ACode:=
 .seq (
 .seq (
 .reg none [
 mV 12 8,
 mV 13 2,
 oN 14 (.bin .lss (.t 12) (.t 13))]) (
 .cond (.t 14) (
 .skip) (
 .exit 0))) (
 .seq (
 .block 1 (
 .seq (
 .reg none [
 mV 17 8,
 mV 9 17]) (
 .block 2 (
 .loop Zvr)))) Zwv)
def Zqg:ACode:=.gh [.keep [0,1,2,3,8]] (.gh [] ZqA)
def ZGJ:List AItem:=.inLoop Zvr::[.inBlock 2,
 .inBlock 1,
 .code Zwv,
 .inLoop Zqg,
 .inBlock 0]
def Zvi:List AItem:=.inLoop Zqg::[.inBlock 0]
def ZPF:ACode:=
 .seq (
 .reg none [
 mV 10 1,
 oN 11 (.bin .add (.t 10) (cI 1)),
 mV 8 11]) (
 .block 0 (
 .loop Zqg))
def a139:AFunc:=⟨53,ZPF,[]⟩
def ZvD:ACode:=
 .seq (
 .reg none [
 mV 175 19,
 mV 176 20,
 oN 177 (.bin .sub (.t 175) (.t 176)),
 mV 24 177]) (
 .seq (
 .seq (
 .reg none [
 mV 178 20,
 mV 179 2,
 oN 180 (.bin .lss (.t 178) (.t 179)),
 mV 181 180,
 ⟨some 182,(some (181,true)), .mov (.t 2)⟩,
 ⟨some 183,(some (181,true)), .mov (.t 24)⟩,
 ⟨some 184,(some (181,true)), .bin .lss (.t 182) (.t 183)⟩,
 oN 185 (.pick (.t 181) (.t 184) (.c (.bool false)))]) (
 .gh [.keep [0,1,2,3,4,18,20,24,185]] (
 .cond (.t 185) (
 .reg none [
 mV 186 0,
 mV 187 20,
 mV 188 2,
 mV 189 24,
 mV 190 4,
 oN 191 (.ncall true 0 141 [(.t 186),(.t 187),(.t 188),(.t 189),(.t 190)])]) (
 .skip)))) (
 .seq (
 .seq (
 .reg none [
 mV 192 1,
 mV 193 20,
 oN 194 (.bin .lss (.t 192) (.t 193)),
 mV 195 194,
 ⟨some 196,(some (195,true)), .mov (.t 20)⟩,
 ⟨some 197,(some (195,true)), .mov (.t 18)⟩,
 ⟨some 198,(some (195,true)), .bin .lss (.t 196) (.t 197)⟩,
 oN 199 (.pick (.t 195) (.t 198) (.c (.bool false)))]) (
 .gh [.keep [0,1,3,4,18,20,24,199]] (
 .cond (.t 199) (
 .reg none [
 mV 200 0,
 mV 201 1,
 mV 202 20,
 mV 203 18,
 mV 204 4,
 oN 205 (.ncall true 0 140 [(.t 200),(.t 201),(.t 202),(.t 203),(.t 204)])]) (
 .skip)))) (
 .seq (
 .reg none [
 mV 206 18,
 mV 207 24,
 oN 208 (.bin .lss (.t 206) (.t 207)),
 mV 209 208,
 ⟨some 210,(some (209,true)), .mov (.t 24)⟩,
 ⟨some 211,(some (209,true)), .mov (.t 3)⟩,
 ⟨some 212,(some (209,true)), .bin .lss (.t 210) (.t 211)⟩,
 oN 213 (.pick (.t 209) (.t 212) (.c (.bool false)))]) (
 .gh [.keep [0,3,4,18,24,213]] (
 .cond (.t 213) (
 .reg none [
 mV 214 0,
 mV 215 18,
 mV 216 24,
 mV 217 3,
 mV 218 4,
 oN 219 (.ncall true 0 140 [(.t 214),(.t 215),(.t 216),(.t 217),(.t 218)])]) (
 .skip))))))
def Zxc:ACode:=
 .seq (
 .seq (
 .reg none [
 mV 149 20,
 mV 150 21,
 oN 151 (.bin .lss (.t 149) (.t 150))]) (
 .cond (.t 151) (
 .skip) (
 .exit 8))) (
 .block 9 (
 .seq (
 .reg none [
 mV 152 20,
 mV 153 21,
 oN 154 (.bin .add (.t 152) (.t 153)),
 oN 155 (.conv .u64 (.t 154)),
 oN 156 (.bin .shr (.t 155) (.c (.int .u64 1))),
 oN 157 (.conv .i64 (.t 156)),
 mV 23 157]) (
 .gh [.keep [0,1,2,3,4,18,19,20,21,22,23]] (
 .seq (
 .reg (some []) [
 mV 158 4,
 mV 159 0,
 mV 160 22,
 mV 161 23,
 oN 162 (.bin .sub (.t 160) (.t 161)),
 oN 163 (.iaddr 5 (.t 159) (.t 162)),
 oN 164 (.load true 5 (.t 163)),
 mV 165 0,
 mV 166 23,
 oN 167 (.iaddr 5 (.t 165) (.t 166)),
 oN 168 (.load true 5 (.t 167)),
 oN 169 (.ncallv true 0 (.t 158) [(.t 164),(.t 168)]),
 oN 170 (.bin .lss (.t 169) (cI 0)),
 oN 171 (.not (.t 170))]) (
 .gh [.keep [0,1,2,3,4,18,19,20,21,22,23,171]] (
 .cond (.t 171) (
 .reg none [
 mV 172 23,
 oN 173 (.bin .add (.t 172) (cI 1)),
 mV 20 173]) (
 .reg none [
 mV 174 23,
 mV 21 174])))))))
def ZvG:ACode:=.gh [.keep [0,1,2,3,4,18,19,20,21,22]] (.gh [] Zxc)
def ZrU:ACode:=
 .seq (
 .reg none [
 mV 129 1,
 mV 130 3,
 oN 131 (.bin .add (.t 129) (.t 130)),
 oN 132 (.conv .u64 (.t 131)),
 oN 133 (.bin .shr (.t 132) (.c (.int .u64 1))),
 oN 134 (.conv .i64 (.t 133)),
 mV 18 134]) (
 .gh [.keep [0,1,2,3,4,18]] (
 .seq (
 .reg none [
 mV 135 18,
 mV 136 2,
 oN 137 (.bin .add (.t 135) (.t 136)),
 mV 19 137]) (
 .seq (
 .reg none [
 oN 20 (.mov (cI 0)),
 oN 21 (.mov (cI 0))]) (
 .seq (
 .seq (
 .reg none [
 mV 138 2,
 mV 139 18,
 oN 140 (.bin .gtr (.t 138) (.t 139))]) (
 .cond (.t 140) (
 .seq (
 .reg none [
 mV 141 19,
 mV 142 3,
 oN 143 (.bin .sub (.t 141) (.t 142)),
 mV 20 143]) (
 .reg none [
 mV 144 18,
 mV 21 144])) (
 .seq (
 .reg none [
 mV 145 1,
 mV 20 145]) (
 .reg none [
 mV 146 2,
 mV 21 146])))) (
 .seq (
 .reg none [
 mV 147 19,
 oN 148 (.bin .sub (.t 147) (cI 1)),
 mV 22 148]) (
 .seq (
 .block 8 (
 .loop ZvG)) ZvD))))))
def ZvE:ACode:=
 .seq (
 .seq (
 .reg none [
 mV 108 17,
 mV 109 14,
 oN 110 (.bin .gtr (.t 108) (.t 109))]) (
 .cond (.t 110) (
 .skip) (
 .exit 6))) (
 .seq (
 .block 7 (
 .reg (some [(2,15),(3,15),(4,15)]) [
 mV 113 0,
 mV 114 17,
 mV 115 0,
 mV 116 17,
 oN 117 (.bin .sub (.t 116) (cI 1)),
 mV 118 0,
 mV 119 17,
 oN 120 (.bin .sub (.t 119) (cI 1)),
 oN 121 (.iaddr 5 (.t 118) (.t 120)),
 oN 122 (.load true 5 (.t 121)),
 mV 123 0,
 mV 124 17,
 oN 125 (.iaddr 5 (.t 123) (.t 124)),
 oN 126 (.load true 5 (.t 125)),
 oN 127 (.iaddr 5 (.t 113) (.t 114)),
 ⟨none,none, .store 5 (.t 127) (.t 122)⟩,
 oN 128 (.iaddr 5 (.t 115) (.t 117)),
 ⟨none,none, .store 5 (.t 128) (.t 126)⟩])) (
 .reg none [
 mV 111 17,
 oN 112 (.bin .sub (.t 111) (cI 1)),
 mV 17 112]))
def Zvl:ACode:=.gh [.keep [0,14,17]] (.gh [] ZvE)
def ZvR:ACode:=
 .seq (
 .seq (
 .reg none [
 mV 107 2,
 mV 17 107]) (
 .block 6 (
 .loop Zvl))) (
 .ret)
def Zu4:ACode:=
 .seq (
 .seq (
 .reg none [
 mV 83 14,
 mV 84 15,
 oN 85 (.bin .lss (.t 83) (.t 84))]) (
 .cond (.t 85) (
 .skip) (
 .exit 4))) (
 .block 5 (
 .seq (
 .reg none [
 mV 86 14,
 mV 87 15,
 oN 88 (.bin .add (.t 86) (.t 87)),
 oN 89 (.conv .u64 (.t 88)),
 oN 90 (.bin .shr (.t 89) (.c (.int .u64 1))),
 oN 91 (.conv .i64 (.t 90)),
 mV 16 91]) (
 .gh [.keep [0,2,4,14,15,16]] (
 .seq (
 .reg (some []) [
 mV 92 4,
 mV 93 0,
 mV 94 2,
 oN 95 (.iaddr 5 (.t 93) (.t 94)),
 oN 96 (.load true 5 (.t 95)),
 mV 97 0,
 mV 98 16,
 oN 99 (.iaddr 5 (.t 97) (.t 98)),
 oN 100 (.load true 5 (.t 99)),
 oN 101 (.ncallv true 0 (.t 92) [(.t 96),(.t 100)]),
 oN 102 (.bin .lss (.t 101) (cI 0)),
 oN 103 (.not (.t 102))]) (
 .gh [.keep [0,2,4,14,15,16,103]] (
 .cond (.t 103) (
 .reg none [
 mV 104 16,
 oN 105 (.bin .add (.t 104) (cI 1)),
 mV 14 105]) (
 .reg none [
 mV 106 16,
 mV 15 106])))))))
def Zvg:ACode:=.gh [.keep [0,2,4,14,15]] (.gh [] Zu4)
def ZrF:ACode:=
 .seq (
 .seq (
 .reg none [
 mV 77 3,
 mV 78 2,
 oN 79 (.bin .sub (.t 77) (.t 78)),
 oN 80 (.bin .eql (.t 79) (cI 1))]) (
 .cond (.t 80) (
 .seq (
 .reg none [
 mV 81 1,
 mV 14 81]) (
 .seq (
 .reg none [
 mV 82 2,
 mV 15 82]) (
 .seq (
 .block 4 (
 .loop Zvg)) ZvR))) (
 .skip))) ZrU
def ZwP:ACode:=
 .seq (
 .seq (
 .reg none [
 mV 55 13,
 mV 56 10,
 oN 57 (.bin .sub (.t 56) (cI 1)),
 oN 58 (.bin .lss (.t 55) (.t 57))]) (
 .cond (.t 58) (
 .skip) (
 .exit 2))) (
 .seq (
 .block 3 (
 .reg (some [(2,15),(3,15),(4,15)]) [
 mV 61 0,
 mV 62 13,
 mV 63 0,
 mV 64 13,
 oN 65 (.bin .add (.t 64) (cI 1)),
 mV 66 0,
 mV 67 13,
 oN 68 (.bin .add (.t 67) (cI 1)),
 oN 69 (.iaddr 5 (.t 66) (.t 68)),
 oN 70 (.load true 5 (.t 69)),
 mV 71 0,
 mV 72 13,
 oN 73 (.iaddr 5 (.t 71) (.t 72)),
 oN 74 (.load true 5 (.t 73)),
 oN 75 (.iaddr 5 (.t 61) (.t 62)),
 ⟨none,none, .store 5 (.t 75) (.t 70)⟩,
 oN 76 (.iaddr 5 (.t 63) (.t 65)),
 ⟨none,none, .store 5 (.t 76) (.t 74)⟩])) (
 .reg none [
 mV 59 13,
 oN 60 (.bin .add (.t 59) (cI 1)),
 mV 13 60]))
def Zww:ACode:=.gh [.keep [0,10,13]] (.gh [] ZwP)
def ZvV:ACode:=
 .seq (
 .seq (
 .reg none [
 mV 54 1,
 mV 13 54]) (
 .block 2 (
 .loop Zww))) (
 .ret)
def ZwH:ACode:=
 .seq (
 .seq (
 .reg none [
 mV 31 10,
 mV 32 11,
 oN 33 (.bin .lss (.t 31) (.t 32))]) (
 .cond (.t 33) (
 .skip) (
 .exit 0))) (
 .block 1 (
 .seq (
 .reg none [
 mV 34 10,
 mV 35 11,
 oN 36 (.bin .add (.t 34) (.t 35)),
 oN 37 (.conv .u64 (.t 36)),
 oN 38 (.bin .shr (.t 37) (.c (.int .u64 1))),
 oN 39 (.conv .i64 (.t 38)),
 mV 12 39]) (
 .gh [.keep [0,1,4,10,11,12]] (
 .seq (
 .reg (some []) [
 mV 40 4,
 mV 41 0,
 mV 42 12,
 oN 43 (.iaddr 5 (.t 41) (.t 42)),
 oN 44 (.load true 5 (.t 43)),
 mV 45 0,
 mV 46 1,
 oN 47 (.iaddr 5 (.t 45) (.t 46)),
 oN 48 (.load true 5 (.t 47)),
 oN 49 (.ncallv true 0 (.t 40) [(.t 44),(.t 48)]),
 oN 50 (.bin .lss (.t 49) (cI 0))]) (
 .gh [.keep [0,1,4,10,11,12,50]] (
 .cond (.t 50) (
 .reg none [
 mV 51 12,
 oN 52 (.bin .add (.t 51) (cI 1)),
 mV 10 52]) (
 .reg none [
 mV 53 12,
 mV 11 53])))))))
def ZwS:ACode:=.gh [.keep [0,1,4,10,11]] (.gh [] ZwH)
def ZJm:List AItem:=.inLoop ZvG::[.inBlock 8,
 .code ZvD]
def ZJv:List AItem:=.inLoop Zvl::[.inBlock 6,
 .code (.ret),
 .code ZrU]
def ZF4:List AItem:=.inLoop Zvg::[.inBlock 4,
 .code ZvR,
 .code ZrU]
def ZFH:List AItem:=.inLoop Zww::[.inBlock 2,
 .code (.ret),
 .code ZrF]
def ZFf:List AItem:=.inLoop ZwS::[.inBlock 0,
 .code ZvV,
 .code ZrF]
def ZPY:ACode:=
 .seq (
 .seq (
 .reg none [
 mV 25 2,
 mV 26 1,
 oN 27 (.bin .sub (.t 25) (.t 26)),
 oN 28 (.bin .eql (.t 27) (cI 1))]) (
 .cond (.t 28) (
 .seq (
 .reg none [
 mV 29 2,
 mV 10 29]) (
 .seq (
 .reg none [
 mV 30 3,
 mV 11 30]) (
 .seq (
 .block 0 (
 .loop ZwS)) ZvV))) (
 .skip))) ZrF
def a140:AFunc:=⟨220,ZPY,[]⟩
def Zv6:ACode:=
 .reg none [
 mV 50 0,
 mV 51 2,
 mV 52 10,
 oN 53 (.bin .sub (.t 51) (.t 52)),
 mV 54 2,
 mV 55 10,
 mV 56 4,
 oN 57 (.ncall true 0 142 [(.t 50),(.t 53),(.t 54),(.t 55),(.t 56)])]
def Zvs:ACode:=
 .seq (
 .seq (
 .reg none [
 mV 18 10,
 mV 19 11,
 oN 20 (.bin .neq (.t 18) (.t 19))]) (
 .cond (.t 20) (
 .skip) (
 .exit 0))) (
 .block 1 (
 .seq (
 .reg none [
 mV 21 10,
 mV 22 11,
 oN 23 (.bin .gtr (.t 21) (.t 22))]) (
 .cond (.t 23) (
 .seq (
 .reg none [
 mV 24 0,
 mV 25 2,
 mV 26 10,
 oN 27 (.bin .sub (.t 25) (.t 26)),
 mV 28 2,
 mV 29 11,
 mV 30 4,
 oN 31 (.ncall true 0 142 [(.t 24),(.t 27),(.t 28),(.t 29),(.t 30)])]) (
 .gh [.keep [0,2,4,10,11]] (
 .reg none [
 mV 32 10,
 mV 33 11,
 oN 34 (.bin .sub (.t 32) (.t 33)),
 mV 10 34]))) (
 .seq (
 .reg none [
 mV 35 0,
 mV 36 2,
 mV 37 10,
 oN 38 (.bin .sub (.t 36) (.t 37)),
 mV 39 2,
 mV 40 11,
 oN 41 (.bin .add (.t 39) (.t 40)),
 mV 42 10,
 oN 43 (.bin .sub (.t 41) (.t 42)),
 mV 44 10,
 mV 45 4,
 oN 46 (.ncall true 0 142 [(.t 35),(.t 38),(.t 43),(.t 44),(.t 45)])]) (
 .gh [.keep [0,2,4,10,11]] (
 .reg none [
 mV 47 11,
 mV 48 10,
 oN 49 (.bin .sub (.t 47) (.t 48)),
 mV 11 49]))))))
def Zwy:ACode:=.gh [.keep [0,2,4,10,11]] (.gh [] Zvs)
def ZE5:List AItem:=.inLoop Zwy::[.inBlock 0,
 .code Zv6]
def ZPk:ACode:=
 .seq (
 .reg none [
 mV 12 2,
 mV 13 1,
 oN 14 (.bin .sub (.t 12) (.t 13)),
 mV 10 14]) (
 .seq (
 .reg none [
 mV 15 3,
 mV 16 2,
 oN 17 (.bin .sub (.t 15) (.t 16)),
 mV 11 17]) (
 .seq (
 .block 0 (
 .loop Zwy)) Zv6))
def a141:AFunc:=⟨58,ZPk,[]⟩
def Zwu:ACode:=
 .seq (
 .seq (
 .reg none [
 mV 11 10,
 mV 12 3,
 oN 13 (.bin .lss (.t 11) (.t 12))]) (
 .cond (.t 13) (
 .skip) (
 .exit 0))) (
 .seq (
 .block 1 (
 .reg (some [(4,21),(5,21),(6,21),(7,21)]) [
 mV 16 0,
 mV 17 1,
 mV 18 10,
 oN 19 (.bin .add (.t 17) (.t 18)),
 mV 20 0,
 mV 21 2,
 mV 22 10,
 oN 23 (.bin .add (.t 21) (.t 22)),
 mV 24 0,
 mV 25 2,
 mV 26 10,
 oN 27 (.bin .add (.t 25) (.t 26)),
 oN 28 (.iaddr 5 (.t 24) (.t 27)),
 oN 29 (.load true 5 (.t 28)),
 mV 30 0,
 mV 31 1,
 mV 32 10,
 oN 33 (.bin .add (.t 31) (.t 32)),
 oN 34 (.iaddr 5 (.t 30) (.t 33)),
 oN 35 (.load true 5 (.t 34)),
 oN 36 (.iaddr 5 (.t 16) (.t 19)),
 ⟨none,none, .store 5 (.t 36) (.t 29)⟩,
 oN 37 (.iaddr 5 (.t 20) (.t 23)),
 ⟨none,none, .store 5 (.t 37) (.t 35)⟩])) (
 .reg none [
 mV 14 10,
 oN 15 (.bin .add (.t 14) (cI 1)),
 mV 10 15]))
def ZvQ:ACode:=.gh [.keep [0,1,2,3,10]] (.gh [] Zwu)
def ZHm:List AItem:=.inLoop ZvQ::[.inBlock 0]
def ZOA:ACode:=
 .seq (
 .reg none [
 oN 10 (.mov (cI 0))]) (
 .block 0 (
 .loop ZvQ))
def a142:AFunc:=⟨38,ZOA,[]⟩
end Go.Proofs.Ytjhdnpmojhkbjaa
