/- The code of the program, for the machine, part 1. Printed by gen2.py. -/
import Derived.Test.YtkeoeooghhjibaaGreatDoorYd
namespace Go.Proofs.YtkeoeooghhjibaaGreatDoor
def c5:ACode:=
 .seq (
 .reg none [
 oN 3 (.box 5004 29 (.t 0)),
 oN 4 (.box 5005 37 (.t 1)),
 oN 5 (.box 5006 63 (.t 2)),
 oN 6 (.mov (.c (.bool false)))]) (
 .seq (
 .seq (
 .reg none [
 oN 11 (.ncall true 0 13 []),
 oN 12 (.not (.t 11))]) (
 .cond (.t 12) (
 .seq (
 .reg none [
 oN 6 (.mov (.c (.bool false)))]) (
 .ret)) (
 .skip))) (
 .seq (
 .seq (
 .reg none [
 oN 13 (.load true 6 (.t 3)),
 oN 14 (.ncall true 0 14 [(.t 13)]),
 oN 15 (.not (.t 14)),
 mV 16 15,
 ⟨some 17,(some (16,false)), .load true 8 (.t 4)⟩,
 ⟨some 18,(some (16,false)), .ncall true 0 32 [(.t 17)]⟩,
 ⟨some 19,(some (16,false)), .not (.t 18)⟩,
 oN 20 (.pick (.t 16) (.c (.bool true)) (.t 19))]) (
 .gh [.keep [3,4,5,20]] (
 .cond (.t 20) (
 .seq (
 .reg none [
 oN 6 (.mov (.c (.bool true)))]) (
 .ret)) (
 .skip)))) (
 .seq (
 .reg none [
 oN 22 (.load true 6 (.t 3)),
 oN 23 (.ncall true 5024 16 [(.t 22)]),
 oN 24 (.ncall true 5025 33 [(.t 23)]),
 mV 21 24,
 oN 25 (.ext 0 (.t 21)),
 oN 26 (.ext 1 (.t 21)),
 oN 7 (.alloc 5008 37 (.agg (.gen [(.int .i64 0),(.int .i64 0), .nils,(.bool false),(.int .i64 0),(.bool false), .nils, .nils]))),
 ⟨none,none, .store 8 (.t 7) (.t 25)⟩,
 mV 8 26]) (
 .gh [.keep [3,4,5,7,8]] (
 .seq (
 .reg (some [(1,2)]) [
 oN 27 (.load true 6 (.t 3)),
 oN 28 (.ncall true 5029 16 [(.t 27)]),
 oN 29 (.load true 8 (.t 4)),
 oN 30 (.ncall true 5031 35 [(.t 29)]),
 oN 31 (.ncall true 0 34 [(.t 28),(.t 30)]),
 mV 9 31]) (
 .seq (
 .reg none [
 oN 32 (.load true 6 (.t 3)),
 oN 33 (.ncall true 0 19 [(.t 32)]),
 mV 10 33]) (
 .seq (
 .seq (
 .reg (some [(1,3),(1,6),(1,8),(1,13),(1,14)]) [
 oN 34 (.load true 6 (.t 3)),
 oN 35 (.ncall true 5036 16 [(.t 34)]),
 oN 36 (.ncall true 0 36 [(.t 35)]),
 mV 37 10,
 oN 38 (.bin .neq (.t 36) (.t 37)),
 mV 39 38,
 ⟨some 40,(some (39,false)), .load true 2 (.t 5)⟩,
 ⟨some 41,(some (39,false)), .ncall true 0 37 [(.t 40)]⟩,
 ⟨some 42,(some (39,false)), .load true 2 (.t 5)⟩,
 ⟨some 43,(some (39,false)), .ncall true 0 38 [(.t 42)]⟩,
 ⟨some 44,(some (39,false)), .bin .neq (.t 41) (.t 43)⟩,
 oN 45 (.pick (.t 39) (.c (.bool true)) (.t 44)),
 mV 46 45,
 ⟨some 47,(some (46,false)), .load true 8 (.t 7)⟩,
 ⟨some 48,(some (46,false)), .build (.gen [(.int .i64 0),(.int .i64 0), .nils,(.bool false),(.int .i64 0),(.bool false), .nils, .nils]) []⟩,
 ⟨some 49,(some (46,false)), .ncall true 0 21 [(.t 47),(.t 48)]⟩,
 ⟨some 50,(some (46,false)), .not (.t 49)⟩,
 oN 51 (.pick (.t 46) (.c (.bool true)) (.t 50))]) (
 .gh [.keep [3,4,8,9,10,51]] (
 .cond (.t 51) (
 .seq (
 .reg none [
 oN 6 (.mov (.c (.bool false)))]) (
 .ret)) (
 .skip)))) (
 .seq (
 .seq (
 .reg none [
 mV 52 10,
 oN 53 (.bin .neq (.t 52) (cI 0))]) (
 .cond (.t 53) (
 .seq (
 .reg none [
 mV 54 8,
 mV 55 10,
 oN 56 (.bin .eql (.t 54) (.t 55)),
 mV 57 56,
 ⟨some 58,(some (57,true)), .mov (.t 9)⟩,
 ⟨some 59,(some (57,true)), .mov (.t 10)⟩,
 ⟨some 60,(some (57,true)), .bin .eql (.t 58) (.t 59)⟩,
 oN 61 (.pick (.t 57) (.t 60) (.c (.bool false))),
 mV 6 61]) (
 .gh [.keep [6]] (
 .ret))) (
 .skip))) (
 .seq (
 .reg none [
 mV 62 8,
 oN 63 (.bin .eql (.t 62) (cI 0)),
 mV 64 63,
 ⟨some 65,(some (64,true)), .mov (.t 9)⟩,
 ⟨some 66,(some (64,true)), .load true 6 (.t 3)⟩,
 ⟨some 67,(some (64,true)), .load true 8 (.t 4)⟩,
 ⟨some 68,(some (64,true)), .ncall true 0 39 [(.t 66),(.t 67)]⟩,
 ⟨some 69,(some (64,true)), .bin .eql (.t 65) (.t 68)⟩,
 oN 70 (.pick (.t 64) (.t 69) (.c (.bool false))),
 mV 6 70]) (
 .gh [.keep [6]] (
 .ret)))))))))))
def a5:AFunc:=⟨71,c5,[.tmp 6]⟩
def c13:ACode:=
 .seq (
 .reg none [
 oN 0 (.mov (.c (.bool false)))]) (
 .seq (
 .reg none [
 oN 9 (.ncall true 13010 66 []),
 oN 1 (.alloc 13002 29 (.agg (.gen [.nils, .nils, .nils, .nils,(.int .i64 0),(.int .i64 0)]))),
 ⟨none,none, .store 6 (.t 1) (.t 9)⟩]) (
 .seq (
 .reg none [
 oN 11 (.faddr 0 (.t 1)),
 oN 12 (.load true 3 (.t 11)),
 oN 13 (.faddr 3 (.t 1)),
 oN 14 (.load false 1 (.t 13)),
 oN 15 (.ncall true 13016 24 [(.t 12),(.t 14)]),
 mV 10 15,
 oN 16 (.ext 0 (.t 10)),
 oN 17 (.ext 1 (.t 10)),
 mV 2 16,
 mV 3 17]) (
 .gh [.keep [1,2,3]] (
 .seq (
 .reg none [
 oN 19 (.faddr 0 (.t 1)),
 oN 20 (.load true 3 (.t 19)),
 oN 21 (.bslice 13022 3 1 [(cI (-1)),(cI (-1)),(cI (-1)),(cI (-1))]),
 oN 22 (.build (.gen [(.int .i64 0),(.int .i64 0), .nils]) [(2,1,(.t 21))]),
 oN 23 (.ncall true 0 42 [(.t 20),(.t 22),(cI 1)]),
 mV 18 23,
 oN 24 (.ext 0 (.t 18)),
 oN 25 (.ext 1 (.t 18)),
 mV 4 24,
 mV 5 25]) (
 .gh [.keep [1,2,3,4,5]] (
 .seq (
 .reg none [
 oN 27 (.load true 6 (.t 1)),
 oN 28 (.build (.gen [(.int .i64 0),(.int .i64 0)]) [(0,1,(cI 1))]),
 oN 29 (.build (.gen [(.int .i64 0),(.int .i64 0)]) [(0,1,(cI 2))]),
 oN 30 (.build (.gen [(.int .i64 0),(.int .i64 0)]) [(0,1,(cI 5))]),
 oN 31 (.build (.gen [(.int .i64 0),(.int .i64 0)]) [(0,1,(cI 1))]),
 oN 32 (.build (.gen [(.int .i64 0),(.int .i64 0)]) [(0,1,(cI 2))]),
 oN 33 (.build (.gen [(.int .i64 0),(.int .i64 0)]) [(0,1,(cI 3))]),
 oN 34 (.bslice 13035 63 2 [(.t 28),(.t 29),(.t 30),(.t 31),(.t 32),(.t 33)]),
 oN 35 (.ncall true 13036 15 [(.t 27),(.t 34)]),
 mV 26 35,
 oN 36 (.ext 0 (.t 26)),
 oN 37 (.ext 1 (.t 26)),
 oN 38 (.ext 2 (.t 26)),
 oN 6 (.alloc 13007 37 (.agg (.gen [(.int .i64 0),(.int .i64 0), .nils,(.bool false),(.int .i64 0),(.bool false), .nils, .nils]))),
 ⟨none,none, .store 8 (.t 6) (.t 36)⟩,
 mV 7 37,
 mV 8 38]) (
 .gh [.keep [2,3,4,5,6,7,8]] (
 .seq (
 .reg none [
 mV 39 3,
 oN 40 (.bin .eql (.t 39) (cI 0)),
 mV 41 40,
 ⟨some 42,(some (41,true)), .mov (.t 2)⟩,
 ⟨some 43,(some (41,true)), .bslice 13044 3 1 [(cI 0),(cI 20),(cI 30),(cI 80)]⟩,
 ⟨some 44,(some (41,true)), .ncall true 0 29 [(.t 42),(.t 43)]⟩,
 oN 45 (.pick (.t 41) (.t 44) (.c (.bool false))),
 mV 46 45,
 ⟨some 47,(some (46,true)), .mov (.t 5)⟩,
 ⟨some 48,(some (46,true)), .bin .eql (.t 47) (cI 0)⟩,
 oN 49 (.pick (.t 46) (.t 48) (.c (.bool false))),
 mV 50 49,
 ⟨some 51,(some (50,true)), .mov (.t 4)⟩,
 ⟨some 52,(some (50,true)), .bin .eql (.t 51) (.c (.str [99,111,108,100]))⟩,
 oN 53 (.pick (.t 50) (.t 52) (.c (.bool false))),
 mV 54 53,
 ⟨some 55,(some (54,true)), .mov (.t 8)⟩,
 ⟨some 56,(some (54,true)), .bin .eql (.t 55) (cI 0)⟩,
 oN 57 (.pick (.t 54) (.t 56) (.c (.bool false))),
 mV 58 57,
 ⟨some 59,(some (58,true)), .mov (.t 7)⟩,
 ⟨some 60,(some (58,true)), .bin .eql (.t 59) (cI 0)⟩,
 oN 61 (.pick (.t 58) (.t 60) (.c (.bool false))),
 mV 62 61,
 ⟨some 63,(some (62,true)), .faddr 4 (.t 6)⟩,
 ⟨some 64,(some (62,true)), .load false 1 (.t 63)⟩,
 ⟨some 65,(some (62,true)), .bin .eql (.t 64) (cI 1)⟩,
 oN 66 (.pick (.t 62) (.t 65) (.c (.bool false))),
 mV 67 66,
 ⟨some 68,(some (67,true)), .faddr 2 (.t 6)⟩,
 ⟨some 69,(some (67,true)), .load false 1 (.t 68)⟩,
 ⟨some 70,(some (67,true)), .build (.gen [(.int .i64 0),(.int .i64 0)]) []⟩,
 ⟨some 71,(some (67,true)), .bslice 13072 78 2 [(.t 70)]⟩,
 ⟨some 72,(some (67,true)), .ncall true 0 22 [(.t 69),(.t 71)]⟩,
 oN 73 (.pick (.t 67) (.t 72) (.c (.bool false))),
 mV 74 73,
 ⟨some 75,(some (74,true)), .faddr 1 (.t 6)⟩,
 ⟨some 76,(some (74,true)), .load false 1 (.t 75)⟩,
 ⟨some 77,(some (74,true)), .bin .eql (.t 76) (cI 1)⟩,
 oN 78 (.pick (.t 74) (.t 77) (.c (.bool false))),
 mV 79 78,
 ⟨some 80,(some (79,true)), .build (.gen [(.int .i64 0),(.int .i64 0)]) [(0,1,(cI 0)),(1,1,(cI 20))]⟩,
 ⟨some 81,(some (79,true)), .ncall true 0 53 [(.t 80)]⟩,
 ⟨some 82,(some (79,true)), .bin .eql (.t 81) (.c (.str [112,97,115,115,32,50,48]))⟩,
 oN 83 (.pick (.t 79) (.t 82) (.c (.bool false))),
 mV 0 83]) (
 .gh [.keep [0]] (
 .ret))))))))))
def a13:AFunc:=⟨84,c13,[.tmp 0]⟩
def c14:ACode:=
 .seq (
 .reg none [
 oN 1 (.box 14002 29 (.t 0)),
 oN 2 (.mov (.c (.bool false)))]) (
 .seq (
 .reg none [
 oN 3 (.faddr 0 (.t 1)),
 oN 4 (.load true 3 (.t 3)),
 oN 5 (.ncall true 0 23 [(.t 4)]),
 mV 6 5,
 ⟨some 7,(some (6,true)), .faddr 3 (.t 1)⟩,
 ⟨some 8,(some (6,true)), .load false 1 (.t 7)⟩,
 ⟨some 9,(some (6,true)), .len (.t 8)⟩,
 ⟨some 10,(some (6,true)), .bin .leq (.t 9) (cI 14)⟩,
 oN 11 (.pick (.t 6) (.t 10) (.c (.bool false))),
 mV 2 11]) (
 .gh [.keep [2]] (
 .ret)))
def a14:AFunc:=⟨12,c14,[.tmp 2]⟩
def ZCx:ACode:=
 .seq (
 .reg none [
 mV 46 8,
 oN 47 (.nilck (.t 46)),
 oN 48 (.faddr 6 (.t 47)),
 oN 49 (.load true 8 (.t 48)),
 ⟨none,none, .store 8 (.t 4) (.t 49)⟩,
 oN 5 (.mov (cI 0)),
 oN 6 (.mov (cI 0))]) (
 .ret)
def ZEn:ACode:=
 .seq (
 .reg none [
 oN 29 (.bin .lss (.t 28) (.t 27))]) (
 .seq (
 .cond (.t 29) (
 .skip) (
 .exit 0)) (
 .seq (
 .block 1 (
 .seq (
 .reg none [
 mV 30 28,
 oN 31 (.iaddr 2 (.t 26) (.t 28)),
 oN 32 (.load true 2 (.t 31)),
 oN 10 (.alloc 15011 63 (.agg (.gen [(.int .i64 0),(.int .i64 0)]))),
 mV 9 30,
 ⟨none,none, .store 2 (.t 10) (.t 32)⟩]) (
 .seq (
 .reg none [
 oN 33 (.load true 2 (.t 10)),
 oN 34 (.ncall true 0 37 [(.t 33)]),
 mV 11 34]) (
 .seq (
 .seq (
 .reg none [
 mV 35 11,
 oN 36 (.bin .eql (.t 35) (cI 0))]) (
 .cond (.t 36) (
 .reg none [
 mV 37 8,
 oN 38 (.load true 2 (.t 10)),
 oN 39 (.icall 70 [(.t 37),(.t 38)]),
 mV 11 39]) (
 .skip))) (
 .seq (
 .reg none [
 mV 40 11,
 oN 41 (.bin .neq (.t 40) (cI 0))]) (
 .cond (.t 41) (
 .seq (
 .reg none [
 oN 42 (.build (.gen [(.int .i64 0),(.int .i64 0), .nils,(.bool false),(.int .i64 0),(.bool false), .nils, .nils]) []),
 mV 43 9,
 mV 44 11,
 ⟨none,none, .store 8 (.t 4) (.t 42)⟩,
 mV 5 43,
 mV 6 44]) (
 .ret)) (
 .skip))))))) (
 .reg none [
 oN 45 (.bin .add (.t 28) (cI 1)),
 mV 28 45])))
def ZCm:ACode:=.gh [.keep [4,8,26,27,28]] (.gh [] ZEn)
def c15:ACode:=
 .seq (
 .reg none [
 oN 2 (.box 15003 29 (.t 0)),
 oN 4 (.alloc 15005 37 (.agg (.gen [(.int .i64 0),(.int .i64 0), .nils,(.bool false),(.int .i64 0),(.bool false), .nils, .nils]))),
 oN 5 (.mov (cI 0)),
 oN 6 (.mov (cI 0))]) (
 .seq (
 .seq (
 .reg none [
 oN 12 (.load true 6 (.t 2)),
 oN 13 (.ncall true 0 36 [(.t 12)]),
 mV 14 1,
 oN 15 (.len (.t 14)),
 oN 16 (.bin .leq (.t 15) (cI 200)),
 oN 17 (.ncall true 0 68 [(.t 16),(cI 8)]),
 oN 18 (.bslice 15019 38 1 [(.t 13),(.t 17)]),
 oN 19 (.ncall true 0 67 [(.t 18)]),
 mV 7 19]) (
 .gh [.keep [1,2,4,7]] (
 .seq (
 .reg none [
 mV 20 7,
 oN 21 (.bin .neq (.t 20) (cI 0))]) (
 .cond (.t 21) (
 .seq (
 .reg none [
 oN 22 (.build (.gen [(.int .i64 0),(.int .i64 0), .nils,(.bool false),(.int .i64 0),(.bool false), .nils, .nils]) []),
 mV 23 7,
 ⟨none,none, .store 8 (.t 4) (.t 22)⟩,
 oN 5 (.mov (cI 0)),
 mV 6 23]) (
 .ret)) (
 .skip))))) (
 .seq (
 .reg none [
 oN 24 (.load true 6 (.t 2)),
 oN 25 (.icall 69 [(.t 24)]),
 mV 8 25]) (
 .seq (
 .seq (
 .reg none [
 mV 26 1,
 oN 27 (.len (.t 26)),
 oN 28 (.mov (cI 0))]) (
 .block 0 (
 .loop ZCm))) ZCx)))
def a15:AFunc:=⟨50,c15,[.cell 4 true 8, .tmp 5, .tmp 6]⟩
def c16:ACode:=
 .seq (
 .reg none [
 oN 1 (.box 16002 29 (.t 0)),
 oN 2 (.alloc 16003 29 (.agg (.gen [.nils, .nils, .nils, .nils,(.int .i64 0),(.int .i64 0)])))]) (
 .seq (
 .reg (some [(2,3),(2,4),(5,6)]) [
 oN 3 (.faddr 0 (.t 1)),
 oN 4 (.load true 3 (.t 3)),
 oN 5 (.ncall true 16006 25 [(.t 4)]),
 oN 6 (.faddr 3 (.t 1)),
 oN 7 (.load false 1 (.t 6)),
 oN 8 (.ncall true 16009 26 [(.t 7)]),
 oN 9 (.faddr 0 (.t 1)),
 ⟨none,none, .store 3 (.t 9) (.t 5)⟩,
 oN 10 (.faddr 3 (.t 1)),
 ⟨none,none, .store 1 (.t 10) (.t 8)⟩]) (
 .gh [.keep [1,2]] (
 .seq (
 .reg none [
 oN 11 (.load true 6 (.t 1)),
 ⟨none,none, .store 6 (.t 2) (.t 11)⟩]) (
 .ret))))
def a16:AFunc:=⟨12,c16,[.cell 2 true 6]⟩
def c19:ACode:=
 .seq (
 .reg none [
 oN 1 (.box 19002 29 (.t 0)),
 oN 2 (.mov (cI 0))]) (
 .seq (
 .seq (
 .reg none [
 oN 4 (.faddr 0 (.t 1)),
 oN 5 (.load true 3 (.t 4)),
 oN 6 (.faddr 3 (.t 1)),
 oN 7 (.load false 1 (.t 6)),
 oN 8 (.ncall true 0 28 [(.t 5),(.t 7)]),
 mV 3 8]) (
 .seq (
 .reg none [
 mV 9 3,
 oN 10 (.bin .neq (.t 9) (cI 0))]) (
 .cond (.t 10) (
 .seq (
 .reg none [
 mV 11 3,
 mV 2 11]) (
 .ret)) (
 .skip)))) (
 .seq (
 .seq (
 .reg none [
 oN 12 (.faddr 4 (.t 1)),
 oN 13 (.load false 1 (.t 12)),
 oN 14 (.ncall true 0 41 [(.t 13),(cI 1),(cI 6)]),
 oN 15 (.not (.t 14)),
 mV 16 15,
 ⟨some 17,(some (16,false)), .faddr 5 (.t 1)⟩,
 ⟨some 18,(some (16,false)), .load false 1 (.t 17)⟩,
 ⟨some 19,(some (16,false)), .ncall true 0 41 [(.t 18),(cI 1),(cI 6)]⟩,
 ⟨some 20,(some (16,false)), .not (.t 19)⟩,
 oN 21 (.pick (.t 16) (.c (.bool true)) (.t 20))]) (
 .gh [.keep [21]] (
 .cond (.t 21) (
 .seq (
 .reg none [
 oN 2 (.mov (cI 2))]) (
 .ret)) (
 .skip)))) (
 .seq (
 .reg none [
 oN 2 (.mov (cI 0))]) (
 .ret))))
def a19:AFunc:=⟨22,c19,[.tmp 2]⟩
def Zzc:ACode:=
 .seq (
 .reg none [
 oN 4 (.mov (.c (.bool true)))]) (
 .ret)
def ZxS:ACode:=
 .seq (
 .seq (
 .reg none [
 mV 64 5,
 oN 65 (.faddr 7 (.t 2)),
 oN 66 (.load false 1 (.t 65)),
 oN 67 (.len (.t 66)),
 oN 68 (.bin .lss (.t 64) (.t 67))]) (
 .cond (.t 68) (
 .skip) (
 .exit 0))) (
 .seq (
 .block 1 (
 .seq (
 .reg (some []) [
 oN 71 (.faddr 7 (.t 2)),
 oN 72 (.load false 1 (.t 71)),
 mV 73 5,
 oN 74 (.iaddr 2 (.t 72) (.t 73)),
 oN 75 (.load true 2 (.t 74)),
 oN 76 (.faddr 7 (.t 3)),
 oN 77 (.load false 1 (.t 76)),
 mV 78 5,
 oN 79 (.iaddr 2 (.t 77) (.t 78)),
 oN 80 (.load true 2 (.t 79)),
 oN 81 (.aeq true [.i, .b] (.t 75) (.t 80))]) (
 .gh [.keep [2,3,5,81]] (
 .cond (.t 81) (
 .seq (
 .reg none [
 oN 4 (.mov (.c (.bool false)))]) (
 .ret)) (
 .skip))))) (
 .reg none [
 mV 69 5,
 oN 70 (.bin .add (.t 69) (cI 1)),
 mV 5 70]))
def ZxH:ACode:=.gh [.keep [2,3,5]] (.gh [] ZxS)
def ZDc:List AItem:=.inLoop ZxH::[.inBlock 0,
 .code Zzc]
def c21:ACode:=
 .seq (
 .reg none [
 oN 2 (.box 21003 37 (.t 0)),
 oN 3 (.box 21004 37 (.t 1)),
 oN 4 (.mov (.c (.bool false)))]) (
 .seq (
 .seq (
 .reg none [
 oN 6 (.faddr 0 (.t 2)),
 oN 7 (.load false 1 (.t 6)),
 oN 8 (.faddr 0 (.t 3)),
 oN 9 (.load false 1 (.t 8)),
 oN 10 (.bin .neq (.t 7) (.t 9)),
 mV 11 10,
 ⟨some 12,(some (11,false)), .faddr 1 (.t 2)⟩,
 ⟨some 13,(some (11,false)), .load false 1 (.t 12)⟩,
 ⟨some 14,(some (11,false)), .faddr 1 (.t 3)⟩,
 ⟨some 15,(some (11,false)), .load false 1 (.t 14)⟩,
 ⟨some 16,(some (11,false)), .bin .neq (.t 13) (.t 15)⟩,
 oN 17 (.pick (.t 11) (.c (.bool true)) (.t 16)),
 mV 18 17,
 ⟨some 19,(some (18,false)), .faddr 2 (.t 2)⟩,
 ⟨some 20,(some (18,false)), .load false 1 (.t 19)⟩,
 ⟨some 21,(some (18,false)), .faddr 2 (.t 3)⟩,
 ⟨some 22,(some (18,false)), .load false 1 (.t 21)⟩,
 ⟨some 23,(some (18,false)), .ncall true 0 22 [(.t 20),(.t 22)]⟩,
 ⟨some 24,(some (18,false)), .not (.t 23)⟩,
 oN 25 (.pick (.t 18) (.c (.bool true)) (.t 24)),
 mV 26 25,
 ⟨some 27,(some (26,false)), .faddr 3 (.t 2)⟩,
 ⟨some 28,(some (26,false)), .load false 1 (.t 27)⟩,
 ⟨some 29,(some (26,false)), .faddr 3 (.t 3)⟩,
 ⟨some 30,(some (26,false)), .load false 1 (.t 29)⟩,
 ⟨some 31,(some (26,false)), .beq true (.t 28) (.t 30)⟩,
 oN 32 (.pick (.t 26) (.c (.bool true)) (.t 31)),
 mV 33 32,
 ⟨some 34,(some (33,false)), .faddr 4 (.t 2)⟩,
 ⟨some 35,(some (33,false)), .load false 1 (.t 34)⟩,
 ⟨some 36,(some (33,false)), .faddr 4 (.t 3)⟩,
 ⟨some 37,(some (33,false)), .load false 1 (.t 36)⟩,
 ⟨some 38,(some (33,false)), .bin .neq (.t 35) (.t 37)⟩,
 oN 39 (.pick (.t 33) (.c (.bool true)) (.t 38)),
 mV 40 39,
 ⟨some 41,(some (40,false)), .faddr 5 (.t 2)⟩,
 ⟨some 42,(some (40,false)), .load false 1 (.t 41)⟩,
 ⟨some 43,(some (40,false)), .faddr 5 (.t 3)⟩,
 ⟨some 44,(some (40,false)), .load false 1 (.t 43)⟩,
 ⟨some 45,(some (40,false)), .beq true (.t 42) (.t 44)⟩,
 oN 46 (.pick (.t 40) (.c (.bool true)) (.t 45)),
 mV 47 46,
 ⟨some 48,(some (47,false)), .faddr 6 (.t 2)⟩,
 ⟨some 49,(some (47,false)), .load false 1 (.t 48)⟩,
 ⟨some 50,(some (47,false)), .faddr 6 (.t 3)⟩,
 ⟨some 51,(some (47,false)), .load false 1 (.t 50)⟩,
 ⟨some 52,(some (47,false)), .ncall true 0 29 [(.t 49),(.t 51)]⟩,
 ⟨some 53,(some (47,false)), .not (.t 52)⟩,
 oN 54 (.pick (.t 47) (.c (.bool true)) (.t 53)),
 mV 55 54,
 ⟨some 56,(some (55,false)), .faddr 7 (.t 2)⟩,
 ⟨some 57,(some (55,false)), .load false 1 (.t 56)⟩,
 ⟨some 58,(some (55,false)), .len (.t 57)⟩,
 ⟨some 59,(some (55,false)), .faddr 7 (.t 3)⟩,
 ⟨some 60,(some (55,false)), .load false 1 (.t 59)⟩,
 ⟨some 61,(some (55,false)), .len (.t 60)⟩,
 ⟨some 62,(some (55,false)), .bin .neq (.t 58) (.t 61)⟩,
 oN 63 (.pick (.t 55) (.c (.bool true)) (.t 62))]) (
 .gh [.keep [2,3,63]] (
 .cond (.t 63) (
 .seq (
 .reg none [
 oN 4 (.mov (.c (.bool false)))]) (
 .ret)) (
 .skip)))) (
 .seq (
 .seq (
 .reg none [
 oN 5 (.mov (cI 0))]) (
 .block 0 (
 .loop ZxH))) Zzc))
def a21:AFunc:=⟨82,c21,[.tmp 4]⟩
def ZxD:ACode:=
 .seq (
 .reg none [
 oN 4 (.mov (.c (.bool true)))]) (
 .ret)
def Zy5:ACode:=
 .seq (
 .seq (
 .reg none [
 mV 11 5,
 mV 12 0,
 oN 13 (.len (.t 12)),
 oN 14 (.bin .lss (.t 11) (.t 13))]) (
 .cond (.t 14) (
 .skip) (
 .exit 0))) (
 .seq (
 .block 1 (
 .seq (
 .reg (some []) [
 mV 17 0,
 mV 18 5,
 oN 19 (.iaddr 2 (.t 17) (.t 18)),
 oN 20 (.load true 2 (.t 19)),
 mV 21 1,
 mV 22 5,
 oN 23 (.iaddr 2 (.t 21) (.t 22)),
 oN 24 (.load true 2 (.t 23)),
 oN 25 (.aeq true [.i, .i] (.t 20) (.t 24))]) (
 .gh [.keep [0,1,5,25]] (
 .cond (.t 25) (
 .seq (
 .reg none [
 oN 4 (.mov (.c (.bool false)))]) (
 .ret)) (
 .skip))))) (
 .reg none [
 mV 15 5,
 oN 16 (.bin .add (.t 15) (cI 1)),
 mV 5 16]))
def Zx7:ACode:=.gh [.keep [0,1,5]] (.gh [] Zy5)
def ZDU:List AItem:=.inLoop Zx7::[.inBlock 0,
 .code ZxD]
def c22:ACode:=
 .seq (
 .reg none [
 oN 4 (.mov (.c (.bool false)))]) (
 .seq (
 .seq (
 .reg none [
 mV 6 0,
 oN 7 (.len (.t 6)),
 mV 8 1,
 oN 9 (.len (.t 8)),
 oN 10 (.bin .neq (.t 7) (.t 9))]) (
 .cond (.t 10) (
 .seq (
 .reg none [
 oN 4 (.mov (.c (.bool false)))]) (
 .ret)) (
 .skip))) (
 .seq (
 .seq (
 .reg none [
 oN 5 (.mov (cI 0))]) (
 .block 0 (
 .loop Zx7))) ZxD))
def a22:AFunc:=⟨26,c22,[.tmp 4]⟩
def ZAw:ACode:=
 .seq (
 .reg none [
 oN 2 (.mov (.c (.bool true)))]) (
 .ret)
def Zxo:ACode:=
 .seq (
 .seq (
 .reg none [
 mV 51 5,
 oN 52 (.faddr 2 (.t 1)),
 oN 53 (.load false 1 (.t 52)),
 oN 54 (.len (.t 53)),
 oN 55 (.bin .lss (.t 51) (.t 54))]) (
 .cond (.t 55) (
 .skip) (
 .exit 4))) (
 .seq (
 .block 5 (
 .seq (
 .reg none [
 oN 58 (.faddr 2 (.t 1)),
 oN 59 (.load false 1 (.t 58)),
 mV 60 5,
 oN 61 (.iaddr 5 (.t 59) (.t 60)),
 oN 62 (.faddr 0 (.t 61)),
 oN 63 (.load false 1 (.t 62)),
 oN 64 (.slen (.t 63)),
 oN 65 (.bin .gtr (.t 64) (cI 20))]) (
 .gh [.keep [1,5,65]] (
 .cond (.t 65) (
 .seq (
 .reg none [
 oN 2 (.mov (.c (.bool false)))]) (
 .ret)) (
 .skip))))) (
 .reg none [
 mV 56 5,
 oN 57 (.bin .add (.t 56) (cI 1)),
 mV 5 57]))
def Zyi:ACode:=.gh [.keep [1,5]] (.gh [] Zxo)
def Zzp:ACode:=
 .seq (
 .seq (
 .reg none [
 oN 5 (.mov (cI 0))]) (
 .block 4 (
 .loop Zyi))) ZAw
def ZAg:ACode:=
 .seq (
 .seq (
 .reg none [
 mV 36 4,
 oN 37 (.faddr 1 (.t 1)),
 oN 38 (.load false 1 (.t 37)),
 oN 39 (.len (.t 38)),
 oN 40 (.bin .lss (.t 36) (.t 39))]) (
 .cond (.t 40) (
 .skip) (
 .exit 2))) (
 .seq (
 .block 3 (
 .seq (
 .reg none [
 oN 43 (.faddr 1 (.t 1)),
 oN 44 (.load false 1 (.t 43)),
 mV 45 4,
 oN 46 (.iaddr 2 (.t 44) (.t 45)),
 oN 47 (.faddr 0 (.t 46)),
 oN 48 (.load false 1 (.t 47)),
 oN 49 (.slen (.t 48)),
 oN 50 (.bin .gtr (.t 49) (cI 20))]) (
 .gh [.keep [1,4,50]] (
 .cond (.t 50) (
 .seq (
 .reg none [
 oN 2 (.mov (.c (.bool false)))]) (
 .ret)) (
 .skip))))) (
 .reg none [
 mV 41 4,
 oN 42 (.bin .add (.t 41) (cI 1)),
 mV 4 42]))
def Zym:ACode:=.gh [.keep [1,4]] (.gh [] ZAg)
def ZBW:ACode:=
 .seq (
 .seq (
 .reg none [
 oN 4 (.mov (cI 0))]) (
 .block 2 (
 .loop Zym))) Zzp
def ZAh:ACode:=
 .seq (
 .seq (
 .reg none [
 mV 22 3,
 oN 23 (.faddr 0 (.t 1)),
 oN 24 (.load false 1 (.t 23)),
 oN 25 (.len (.t 24)),
 oN 26 (.bin .lss (.t 22) (.t 25))]) (
 .cond (.t 26) (
 .skip) (
 .exit 0))) (
 .seq (
 .block 1 (
 .seq (
 .reg none [
 oN 29 (.faddr 0 (.t 1)),
 oN 30 (.load false 1 (.t 29)),
 mV 31 3,
 oN 32 (.iaddr 1 (.t 30) (.t 31)),
 oN 33 (.load false 1 (.t 32)),
 oN 34 (.slen (.t 33)),
 oN 35 (.bin .gtr (.t 34) (cI 20))]) (
 .gh [.keep [1,3,35]] (
 .cond (.t 35) (
 .seq (
 .reg none [
 oN 2 (.mov (.c (.bool false)))]) (
 .ret)) (
 .skip))))) (
 .reg none [
 mV 27 3,
 oN 28 (.bin .add (.t 27) (cI 1)),
 mV 3 28]))
def Zxm:ACode:=.gh [.keep [1,3]] (.gh [] ZAh)
def ZCw:List AItem:=.inLoop Zyi::[.inBlock 4,
 .code ZAw]
def ZEA:List AItem:=.inLoop Zym::[.inBlock 2,
 .code Zzp]
def ZCv:List AItem:=.inLoop Zxm::[.inBlock 0,
 .code ZBW]
def c23:ACode:=
 .seq (
 .reg none [
 oN 1 (.box 23002 26 (.t 0)),
 oN 2 (.mov (.c (.bool false)))]) (
 .seq (
 .seq (
 .reg none [
 oN 6 (.faddr 0 (.t 1)),
 oN 7 (.load false 1 (.t 6)),
 oN 8 (.len (.t 7)),
 oN 9 (.bin .gtr (.t 8) (cI 8)),
 mV 10 9,
 ⟨some 11,(some (10,false)), .faddr 1 (.t 1)⟩,
 ⟨some 12,(some (10,false)), .load false 1 (.t 11)⟩,
 ⟨some 13,(some (10,false)), .len (.t 12)⟩,
 ⟨some 14,(some (10,false)), .bin .gtr (.t 13) (cI 10)⟩,
 oN 15 (.pick (.t 10) (.c (.bool true)) (.t 14)),
 mV 16 15,
 ⟨some 17,(some (16,false)), .faddr 2 (.t 1)⟩,
 ⟨some 18,(some (16,false)), .load false 1 (.t 17)⟩,
 ⟨some 19,(some (16,false)), .len (.t 18)⟩,
 ⟨some 20,(some (16,false)), .bin .gtr (.t 19) (cI 12)⟩,
 oN 21 (.pick (.t 16) (.c (.bool true)) (.t 20))]) (
 .gh [.keep [1,21]] (
 .cond (.t 21) (
 .seq (
 .reg none [
 oN 2 (.mov (.c (.bool false)))]) (
 .ret)) (
 .skip)))) (
 .seq (
 .seq (
 .reg none [
 oN 3 (.mov (cI 0))]) (
 .block 0 (
 .loop Zxm))) ZBW))
def a23:AFunc:=⟨66,c23,[.tmp 2]⟩
def ZDH:ACode:=
 .seq (
 .reg none [
 mV 45 9,
 mV 4 45,
 oN 5 (.mov (cI 0))]) (
 .ret)
def ZEs:ACode:=
 .seq (
 .reg none [
 oN 26 (.bin .lss (.t 25) (.t 24))]) (
 .seq (
 .cond (.t 26) (
 .skip) (
 .exit 0)) (
 .seq (
 .block 1 (
 .seq (
 .reg none [
 oN 27 (.iaddr 3 (.t 23) (.t 25)),
 oN 28 (.load true 3 (.t 27)),
 oN 11 (.alloc 24012 82 (.agg (.gen [(.int .i64 0),(.int .i64 0),(.int .i64 0)]))),
 ⟨none,none, .store 3 (.t 11) (.t 28)⟩]) (
 .seq (
 .seq (
 .reg none [
 mV 29 8,
 oN 30 (.load true 3 (.t 11)),
 oN 31 (.icall 73 [(.t 29),(.t 30)]),
 oN 32 (.not (.t 31))]) (
 .cond (.t 32) (
 .seq (
 .reg none [
 oN 4 (.mov (.c .nils)),
 oN 5 (.mov (cI 12))]) (
 .ret)) (
 .skip))) (
 .seq (
 .reg none [
 mV 33 8,
 oN 34 (.load true 3 (.t 11)),
 oN 35 (.icall 74 [(.t 33),(.t 34)])]) (
 .reg none [
 mV 36 9,
 mV 37 8,
 oN 38 (.nilck (.t 37)),
 oN 39 (.faddr 3 (.t 38)),
 oN 40 (.faddr 1 (.t 39)),
 oN 41 (.load false 1 (.t 40)),
 oN 42 (.bslice 24043 3 1 [(.t 41)]),
 oN 43 (.append 24044 3 1 (.t 36) (.t 42)),
 mV 9 43]))))) (
 .reg none [
 oN 44 (.bin .add (.t 25) (cI 1)),
 mV 25 44])))
def ZC6:ACode:=.gh [.keep [8,9,23,24,25]] (.gh [] ZEs)
def c24:ACode:=
 .seq (
 .reg none [
 oN 2 (.box 24003 26 (.t 0)),
 oN 4 (.mov (.c .nils)),
 oN 5 (.mov (cI 0))]) (
 .seq (
 .seq (
 .reg none [
 oN 13 (.load true 3 (.t 2)),
 mV 14 1,
 oN 15 (.ncall true 0 71 [(.t 13),(.t 14)]),
 mV 12 15,
 oN 16 (.ext 0 (.t 12)),
 oN 17 (.ext 1 (.t 12)),
 mV 6 16,
 mV 7 17]) (
 .gh [.keep [1,2,7]] (
 .seq (
 .reg none [
 mV 18 7,
 oN 19 (.bin .neq (.t 18) (cI 0))]) (
 .cond (.t 19) (
 .seq (
 .reg none [
 mV 20 7,
 oN 4 (.mov (.c .nils)),
 mV 5 20]) (
 .ret)) (
 .skip))))) (
 .seq (
 .reg none [
 oN 21 (.load true 3 (.t 2)),
 oN 22 (.icall 72 [(.t 21)]),
 mV 8 22]) (
 .seq (
 .reg none [
 oN 9 (.mov (.c .nils))]) (
 .seq (
 .seq (
 .reg none [
 mV 23 1,
 oN 24 (.len (.t 23)),
 oN 25 (.mov (cI 0))]) (
 .block 0 (
 .loop ZC6))) ZDH))))
def a24:AFunc:=⟨46,c24,[.tmp 4, .tmp 5]⟩
def c25:ACode:=
 .seq (
 .reg none [
 oN 1 (.box 25002 26 (.t 0)),
 oN 2 (.alloc 25003 26 (.agg (.gen [.nils, .nils, .nils])))]) (
 .seq (
 .reg (some [(2,3),(2,4),(2,5),(2,7),(2,8),(2,9)]) [
 oN 3 (.faddr 0 (.t 1)),
 oN 4 (.load false 1 (.t 3)),
 oN 5 (.ncall true 25006 75 [(.t 4)]),
 oN 6 (.emptyl),
 oN 7 (.faddr 1 (.t 1)),
 oN 8 (.load false 1 (.t 7)),
 oN 9 (.app0 2 (.t 6) (.t 8)),
 oN 10 (.emptyl),
 oN 11 (.faddr 2 (.t 1)),
 oN 12 (.load false 1 (.t 11)),
 oN 13 (.app0 5 (.t 10) (.t 12)),
 oN 14 (.build (.gen [.nils, .nils, .nils]) [(0,1,(.t 5)),(1,1,(.t 9)),(2,1,(.t 13))]),
 ⟨none,none, .store 3 (.t 2) (.t 14)⟩]) (
 .gh [.keep [2]] (
 .ret)))
def a25:AFunc:=⟨15,c25,[.cell 2 true 3]⟩
def c26:ACode:=
 .seq (
 .reg none [
 oN 2 (.mov (.c .nils))]) (
 .seq (
 .reg none [
 oN 3 (.emptyl),
 mV 4 0,
 oN 5 (.app0 3 (.t 3) (.t 4)),
 mV 2 5]) (
 .ret))
def a26:AFunc:=⟨6,c26,[.tmp 2]⟩
def c28:ACode:=
 .seq (
 .reg none [
 oN 2 (.box 28003 26 (.t 0)),
 oN 4 (.mov (cI 0))]) (
 .seq (
 .seq (
 .reg none [
 oN 8 (.load true 3 (.t 2)),
 oN 9 (.ncall true 0 65 [(.t 8)]),
 mV 5 9]) (
 .seq (
 .reg none [
 mV 10 5,
 oN 11 (.bin .neq (.t 10) (cI 0))]) (
 .cond (.t 11) (
 .seq (
 .reg none [
 mV 12 5,
 mV 4 12]) (
 .ret)) (
 .skip)))) (
 .seq (
 .reg none [
 oN 14 (.load true 3 (.t 2)),
 mV 15 1,
 oN 16 (.ncall true 0 76 [(.t 14),(.t 15)]),
 mV 13 16,
 oN 17 (.ext 0 (.t 13)),
 oN 18 (.ext 1 (.t 13)),
 mV 6 17,
 mV 7 18]) (
 .gh [.keep [7]] (
 .seq (
 .reg none [
 mV 19 7,
 mV 4 19]) (
 .ret)))))
def a28:AFunc:=⟨20,c28,[.tmp 4]⟩
def ZAK:ACode:=
 .seq (
 .reg none [
 oN 4 (.mov (.c (.bool true)))]) (
 .ret)
def Zx3:ACode:=
 .seq (
 .seq (
 .reg none [
 mV 11 5,
 mV 12 0,
 oN 13 (.len (.t 12)),
 oN 14 (.bin .lss (.t 11) (.t 13))]) (
 .cond (.t 14) (
 .skip) (
 .exit 0))) (
 .seq (
 .block 1 (
 .seq (
 .reg (some []) [
 mV 17 0,
 mV 18 5,
 oN 19 (.iaddr 1 (.t 17) (.t 18)),
 oN 20 (.load false 1 (.t 19)),
 mV 21 1,
 mV 22 5,
 oN 23 (.iaddr 1 (.t 21) (.t 22)),
 oN 24 (.load false 1 (.t 23)),
 oN 25 (.bin .neq (.t 20) (.t 24))]) (
 .gh [.keep [0,1,5,25]] (
 .cond (.t 25) (
 .seq (
 .reg none [
 oN 4 (.mov (.c (.bool false)))]) (
 .ret)) (
 .skip))))) (
 .reg none [
 mV 15 5,
 oN 16 (.bin .add (.t 15) (cI 1)),
 mV 5 16]))
def ZzK:ACode:=.gh [.keep [0,1,5]] (.gh [] Zx3)
def ZDj:List AItem:=.inLoop ZzK::[.inBlock 0,
 .code ZAK]
def c29:ACode:=
 .seq (
 .reg none [
 oN 4 (.mov (.c (.bool false)))]) (
 .seq (
 .seq (
 .reg none [
 mV 6 0,
 oN 7 (.len (.t 6)),
 mV 8 1,
 oN 9 (.len (.t 8)),
 oN 10 (.bin .neq (.t 7) (.t 9))]) (
 .cond (.t 10) (
 .seq (
 .reg none [
 oN 4 (.mov (.c (.bool false)))]) (
 .ret)) (
 .skip))) (
 .seq (
 .seq (
 .reg none [
 oN 5 (.mov (cI 0))]) (
 .block 0 (
 .loop ZzK))) ZAK))
def a29:AFunc:=⟨26,c29,[.tmp 4]⟩
def c32:ACode:=
 .seq (
 .reg none [
 oN 1 (.box 32002 37 (.t 0)),
 oN 2 (.mov (.c (.bool false)))]) (
 .seq (
 .reg none [
 oN 3 (.faddr 2 (.t 1)),
 oN 4 (.load false 1 (.t 3)),
 oN 5 (.len (.t 4)),
 oN 6 (.bin .leq (.t 5) (cI 14)),
 mV 7 6,
 ⟨some 8,(some (7,true)), .faddr 6 (.t 1)⟩,
 ⟨some 9,(some (7,true)), .load false 1 (.t 8)⟩,
 ⟨some 10,(some (7,true)), .len (.t 9)⟩,
 ⟨some 11,(some (7,true)), .bin .leq (.t 10) (cI 8)⟩,
 oN 12 (.pick (.t 7) (.t 11) (.c (.bool false))),
 mV 13 12,
 ⟨some 14,(some (13,true)), .faddr 7 (.t 1)⟩,
 ⟨some 15,(some (13,true)), .load false 1 (.t 14)⟩,
 ⟨some 16,(some (13,true)), .len (.t 15)⟩,
 ⟨some 17,(some (13,true)), .bin .leq (.t 16) (cI 8)⟩,
 oN 18 (.pick (.t 13) (.t 17) (.c (.bool false))),
 mV 2 18]) (
 .gh [.keep [2]] (
 .ret)))
def a32:AFunc:=⟨19,c32,[.tmp 2]⟩
def c33:ACode:=
 .seq (
 .reg none [
 oN 1 (.box 33002 29 (.t 0)),
 oN 2 (.alloc 33003 37 (.agg (.gen [(.int .i64 0),(.int .i64 0), .nils,(.bool false),(.int .i64 0),(.bool false), .nils, .nils]))),
 oN 3 (.mov (cI 0))]) (
 .seq (
 .reg none [
 oN 4 (.build (.gen [(.int .i64 0),(.int .i64 0), .nils,(.bool false),(.int .i64 0),(.bool false), .nils, .nils]) []),
 oN 5 (.load true 6 (.t 1)),
 oN 6 (.ncall true 0 36 [(.t 5)]),
 ⟨none,none, .store 8 (.t 2) (.t 4)⟩,
 mV 3 6]) (
 .ret))
def a33:AFunc:=⟨7,c33,[.cell 2 true 8, .tmp 3]⟩
def c34:ACode:=
 .seq (
 .reg none [
 oN 2 (.box 34003 29 (.t 0)),
 oN 3 (.box 34004 37 (.t 1)),
 oN 4 (.mov (cI 0))]) (
 .seq (
 .reg none [
 oN 8 (.load true 6 (.t 2)),
 oN 9 (.load true 8 (.t 3)),
 oN 10 (.icall 80 [(.t 8),(.t 9)]),
 mV 7 10,
 oN 11 (.ext 0 (.t 7)),
 oN 12 (.ext 1 (.t 7)),
 mV 5 11,
 mV 6 12]) (
 .gh [.keep [6]] (
 .seq (
 .reg none [
 mV 13 6,
 mV 4 13]) (
 .ret))))
def a34:AFunc:=⟨14,c34,[.tmp 4]⟩
def c35:ACode:=
 .seq (
 .reg none [
 oN 1 (.box 35002 37 (.t 0)),
 oN 2 (.alloc 35003 37 (.agg (.gen [(.int .i64 0),(.int .i64 0), .nils,(.bool false),(.int .i64 0),(.bool false), .nils, .nils])))]) (
 .seq (
 .reg none [
 oN 3 (.bslice 35004 78 2 []),
 oN 4 (.faddr 2 (.t 1)),
 oN 5 (.load false 1 (.t 4)),
 oN 6 (.append 35007 78 2 (.t 3) (.t 5)),
 oN 7 (.faddr 2 (.t 1)),
 ⟨none,none, .store 1 (.t 7) (.t 6)⟩]) (
 .seq (
 .reg none [
 oN 8 (.faddr 6 (.t 1)),
 oN 9 (.load false 1 (.t 8)),
 oN 10 (.ncall true 35011 81 [(.t 9)]),
 oN 11 (.faddr 6 (.t 1)),
 ⟨none,none, .store 1 (.t 11) (.t 10)⟩]) (
 .seq (
 .reg none [
 oN 12 (.bslice 35013 129 2 []),
 oN 13 (.faddr 7 (.t 1)),
 oN 14 (.load false 1 (.t 13)),
 oN 15 (.append 35016 129 2 (.t 12) (.t 14)),
 oN 16 (.faddr 7 (.t 1)),
 ⟨none,none, .store 1 (.t 16) (.t 15)⟩]) (
 .seq (
 .reg none [
 oN 17 (.load true 8 (.t 1)),
 ⟨none,none, .store 8 (.t 2) (.t 17)⟩]) (
 .ret)))))
def a35:AFunc:=⟨18,c35,[.cell 2 true 8]⟩
def c36:ACode:=
 .seq (
 .reg none [
 oN 1 (.box 36002 29 (.t 0)),
 oN 2 (.mov (cI 0))]) (
 .seq (
 .reg none [
 oN 6 (.faddr 0 (.t 1)),
 oN 7 (.load true 3 (.t 6)),
 oN 8 (.faddr 3 (.t 1)),
 oN 9 (.load false 1 (.t 8)),
 oN 10 (.ncall true 0 71 [(.t 7),(.t 9)]),
 mV 5 10,
 oN 11 (.ext 0 (.t 5)),
 oN 12 (.ext 1 (.t 5)),
 mV 3 11,
 mV 4 12]) (
 .gh [.keep [1,4]] (
 .seq (
 .reg none [
 mV 13 4,
 oN 14 (.faddr 4 (.t 1)),
 oN 15 (.load false 1 (.t 14)),
 oN 16 (.ncall true 0 82 [(.t 15),(cI 1),(cI 6)]),
 mV 17 16,
 ⟨some 18,(some (17,true)), .faddr 5 (.t 1)⟩,
 ⟨some 19,(some (17,true)), .load false 1 (.t 18)⟩,
 ⟨some 20,(some (17,true)), .ncall true 0 82 [(.t 19),(cI 1),(cI 6)]⟩,
 oN 21 (.pick (.t 17) (.t 20) (.c (.bool false))),
 oN 22 (.ncall true 0 68 [(.t 21),(cI 2)]),
 oN 23 (.bslice 36024 38 1 [(.t 13),(.t 22)]),
 oN 24 (.ncall true 0 67 [(.t 23)]),
 mV 2 24]) (
 .gh [.keep [2]] (
 .ret)))))
def a36:AFunc:=⟨25,c36,[.tmp 2]⟩
def c37:ACode:=
 .seq (
 .reg none [
 oN 1 (.box 37002 63 (.t 0)),
 oN 2 (.mov (cI 0))]) (
 .seq (
 .reg none [
 oN 5 (.ncall true 0 83 []),
 oN 3 (.alloc 37004 150 (.agg (.gen [(.str []),(.int .i64 0),(.int .i64 0),(.val .nilFunc),(.str []),(.int .i64 0),(.int .i64 0),(.val .nilFunc),(.str []),(.int .i64 0),(.int .i64 0),(.val .nilFunc),(.str []),(.int .i64 0),(.int .i64 0),(.val .nilFunc),(.str []),(.int .i64 0),(.int .i64 0),(.val .nilFunc),(.str []),(.int .i64 0),(.int .i64 0),(.val .nilFunc),(.str []),(.int .i64 0),(.int .i64 0),(.val .nilFunc),(.str []),(.int .i64 0),(.int .i64 0),(.val .nilFunc),(.str []),(.int .i64 0),(.int .i64 0),(.val .nilFunc)]))),
 ⟨none,none, .store 36 (.t 3) (.t 5)⟩]) (
 .seq (
 .seq (
 .reg none [
 oN 6 (.faddr 0 (.t 1)),
 oN 7 (.load false 1 (.t 6)),
 oN 8 (.ncall true 0 82 [(.t 7),(cI 0),(cI 8)]),
 oN 9 (.not (.t 8))]) (
 .cond (.t 9) (
 .seq (
 .reg none [
 oN 2 (.mov (cI 15))]) (
 .ret)) (
 .skip))) (
 .seq (
 .reg none [
 oN 10 (.faddr 0 (.t 1)),
 oN 11 (.load false 1 (.t 10)),
 oN 12 (.aaddr 9 4 (.t 3) (.s 11)),
 oN 13 (.load true 4 (.t 12)),
 oN 4 (.alloc 37005 149 (.agg (.gen [(.str []),(.int .i64 0),(.int .i64 0),(.val .nilFunc)]))),
 ⟨none,none, .store 4 (.t 4) (.t 13)⟩]) (
 .seq (
 .seq (
 .reg none [
 oN 14 (.faddr 2 (.t 4)),
 oN 15 (.load false 1 (.t 14)),
 oN 16 (.bin .eql (.t 15) (cI 0))]) (
 .cond (.t 16) (
 .seq (
 .reg none [
 oN 17 (.faddr 1 (.t 1)),
 oN 18 (.load false 1 (.t 17)),
 oN 19 (.bin .eql (.t 18) (cI 0)),
 oN 20 (.ncall true 0 68 [(.t 19),(cI 3)]),
 mV 2 20]) (
 .ret)) (
 .skip))) (
 .seq (
 .reg none [
 oN 21 (.faddr 1 (.t 1)),
 oN 22 (.load false 1 (.t 21)),
 oN 23 (.faddr 1 (.t 4)),
 oN 24 (.load false 1 (.t 23)),
 oN 25 (.faddr 2 (.t 4)),
 oN 26 (.load false 1 (.t 25)),
 oN 27 (.ncall true 0 82 [(.t 22),(.t 24),(.t 26)]),
 oN 28 (.ncall true 0 68 [(.t 27),(cI 2)]),
 mV 2 28]) (
 .gh [.keep [2]] (
 .ret)))))))
def a37:AFunc:=⟨29,c37,[.tmp 2]⟩
def c38:ACode:=
 .seq (
 .reg none [
 oN 1 (.box 38002 63 (.t 0)),
 oN 2 (.mov (cI 0))]) (
 .seq (
 .seq (
 .reg none [
 oN 5 (.faddr 0 (.t 1)),
 oN 6 (.load false 1 (.t 5)),
 oN 7 (.ncall true 0 41 [(.t 6),(cI 0),(cI 8)]),
 oN 8 (.not (.t 7))]) (
 .cond (.t 8) (
 .seq (
 .reg none [
 oN 2 (.mov (cI 15))]) (
 .ret)) (
 .skip))) (
 .seq (
 .reg none [
 oN 3 (.mov (cI 0)),
 oN 4 (.mov (cI 5))]) (
 .seq (
 .seq (
 .reg none [
 oN 9 (.faddr 0 (.t 1)),
 oN 10 (.load false 1 (.t 9)),
 oN 11 (.bin .eql (.t 10) (cI 0))]) (
 .cond (.t 11) (
 .reg none [
 oN 3 (.mov (cI 1)),
 oN 4 (.mov (cI 1000000000000))]) (
 .skip))) (
 .seq (
 .seq (
 .reg none [
 oN 12 (.faddr 0 (.t 1)),
 oN 13 (.load false 1 (.t 12)),
 oN 14 (.bin .eql (.t 13) (cI 1))]) (
 .cond (.t 14) (
 .reg none [
 oN 4 (.mov (cI 11))]) (
 .skip))) (
 .seq (
 .seq (
 .reg none [
 oN 15 (.faddr 0 (.t 1)),
 oN 16 (.load false 1 (.t 15)),
 oN 17 (.ncall true 0 84 [(.t 16)]),
 mV 18 17,
 ⟨some 19,(some (18,true)), .faddr 1 (.t 1)⟩,
 ⟨some 20,(some (18,true)), .load false 1 (.t 19)⟩,
 ⟨some 21,(some (18,true)), .mov (.t 3)⟩,
 ⟨some 22,(some (18,true)), .mov (.t 4)⟩,
 ⟨some 23,(some (18,true)), .ncall true 0 41 [(.t 20),(.t 21),(.t 22)]⟩,
 ⟨some 24,(some (18,true)), .not (.t 23)⟩,
 oN 25 (.pick (.t 18) (.t 24) (.c (.bool false)))]) (
 .gh [.keep [1,25]] (
 .cond (.t 25) (
 .seq (
 .reg none [
 oN 2 (.mov (cI 2))]) (
 .ret)) (
 .skip)))) (
 .seq (
 .seq (
 .reg none [
 oN 26 (.faddr 0 (.t 1)),
 oN 27 (.load false 1 (.t 26)),
 oN 28 (.ncall true 0 84 [(.t 27)]),
 oN 29 (.not (.t 28)),
 mV 30 29,
 ⟨some 31,(some (30,true)), .faddr 1 (.t 1)⟩,
 ⟨some 32,(some (30,true)), .load false 1 (.t 31)⟩,
 ⟨some 33,(some (30,true)), .bin .neq (.t 32) (cI 0)⟩,
 oN 34 (.pick (.t 30) (.t 33) (.c (.bool false)))]) (
 .gh [.keep [34]] (
 .cond (.t 34) (
 .seq (
 .reg none [
 oN 2 (.mov (cI 3))]) (
 .ret)) (
 .skip)))) (
 .seq (
 .reg none [
 oN 2 (.mov (cI 0))]) (
 .ret))))))))
def a38:AFunc:=⟨35,c38,[.tmp 2]⟩
def Zy3:ACode:=
 .seq (
 .reg none [
 oN 4 (.mov (cI 0))]) (
 .ret)
def ZyH:ACode:=
 .seq (
 .seq (
 .reg none [
 mV 173 10,
 oN 174 (.faddr 7 (.t 3)),
 oN 175 (.load false 1 (.t 174)),
 oN 176 (.len (.t 175)),
 oN 177 (.bin .lss (.t 173) (.t 176))]) (
 .cond (.t 177) (
 .skip) (
 .exit 4))) (
 .seq (
 .block 5 (
 .seq (
 .seq (
 .reg none [
 oN 180 (.faddr 7 (.t 3)),
 oN 181 (.load false 1 (.t 180)),
 mV 182 10,
 oN 183 (.iaddr 2 (.t 181) (.t 182)),
 oN 184 (.faddr 0 (.t 183)),
 oN 185 (.load false 1 (.t 184)),
 mV 186 8,
 oN 187 (.ncall true 0 41 [(.t 185),(cI 0),(.t 186)]),
 oN 188 (.not (.t 187))]) (
 .gh [.keep [3,8,10,188]] (
 .cond (.t 188) (
 .seq (
 .reg none [
 oN 4 (.mov (cI 2))]) (
 .ret)) (
 .skip)))) (
 .seq (
 .reg none [
 oN 189 (.faddr 7 (.t 3)),
 oN 190 (.load false 1 (.t 189)),
 mV 191 10,
 oN 192 (.iaddr 2 (.t 190) (.t 191)),
 oN 193 (.faddr 1 (.t 192)),
 oN 194 (.load false 1 (.t 193)),
 mV 195 194,
 ⟨some 196,(some (195,true)), .faddr 3 (.t 3)⟩,
 ⟨some 197,(some (195,true)), .load false 1 (.t 196)⟩,
 ⟨some 198,(some (195,true)), .not (.t 197)⟩,
 ⟨some 199,(some (195,true)), .mov (.t 198)⟩,
 ⟨some 200,(some (199,false)), .faddr 7 (.t 3)⟩,
 ⟨some 201,(some (199,false)), .load false 1 (.t 200)⟩,
 ⟨some 202,(some (199,false)), .mov (.t 10)⟩,
 ⟨some 203,(some (199,false)), .iaddr 2 (.t 201) (.t 202)⟩,
 ⟨some 204,(some (199,false)), .faddr 0 (.t 203)⟩,
 ⟨some 205,(some (199,false)), .load false 1 (.t 204)⟩,
 ⟨some 206,(some (199,false)), .mov (.t 8)⟩,
 ⟨some 207,(some (199,false)), .bin .neq (.t 205) (.t 206)⟩,
 ⟨some 208,(some (195,true)), .pick (.t 199) (.c (.bool true)) (.t 207)⟩,
 oN 209 (.pick (.t 195) (.t 208) (.c (.bool false)))]) (
 .gh [.keep [3,8,10,209]] (
 .cond (.t 209) (
 .seq (
 .reg none [
 oN 4 (.mov (cI 3))]) (
 .ret)) (
 .skip)))))) (
 .reg none [
 mV 178 10,
 oN 179 (.bin .add (.t 178) (cI 1)),
 mV 10 179]))
def ZyV:ACode:=.gh [.keep [3,8,10]] (.gh [] ZyH)
def ZzO:ACode:=
 .seq (
 .seq (
 .reg none [
 oN 10 (.mov (cI 0))]) (
 .block 4 (
 .loop ZyV))) Zy3
def Zyr:ACode:=
 .seq (
 .seq (
 .reg none [
 mV 155 9,
 oN 156 (.faddr 6 (.t 3)),
 oN 157 (.load false 1 (.t 156)),
 oN 158 (.len (.t 157)),
 oN 159 (.bin .lss (.t 155) (.t 158))]) (
 .cond (.t 159) (
 .skip) (
 .exit 2))) (
 .seq (
 .block 3 (
 .seq (
 .reg (some []) [
 oN 162 (.faddr 6 (.t 3)),
 oN 163 (.load false 1 (.t 162)),
 mV 164 9,
 oN 165 (.iaddr 1 (.t 163) (.t 164)),
 oN 166 (.load false 1 (.t 165)),
 oN 167 (.faddr 3 (.t 2)),
 oN 168 (.load false 1 (.t 167)),
 oN 169 (.len (.t 168)),
 oN 170 (.bin .sub (.t 169) (cI 1)),
 oN 171 (.ncall true 0 41 [(.t 166),(cI 0),(.t 170)]),
 oN 172 (.not (.t 171))]) (
 .gh [.keep [2,3,8,9,172]] (
 .cond (.t 172) (
 .seq (
 .reg none [
 oN 4 (.mov (cI 6))]) (
 .ret)) (
 .skip))))) (
 .reg none [
 mV 160 9,
 oN 161 (.bin .add (.t 160) (cI 1)),
 mV 9 161]))
def ZxM:ACode:=.gh [.keep [2,3,8,9]] (.gh [] Zyr)
def Zy6:ACode:=
 .seq (
 .reg none [
 oN 117 (.faddr 2 (.t 3)),
 oN 118 (.load false 1 (.t 117)),
 oN 119 (.len (.t 118)),
 mV 8 119]) (
 .seq (
 .seq (
 .reg (some [(0,5),(1,5)]) [
 oN 120 (.faddr 1 (.t 3)),
 oN 121 (.load false 1 (.t 120)),
 oN 122 (.load true 6 (.t 2)),
 oN 123 (.faddr 2 (.t 3)),
 oN 124 (.load false 1 (.t 123)),
 oN 125 (.ncall true 39126 85 [(.t 122),(.t 124)]),
 oN 126 (.fld false 0 1 (.t 125)),
 oN 127 (.bin .neq (.t 121) (.t 126))]) (
 .gh [.keep [2,3,8,127]] (
 .cond (.t 127) (
 .seq (
 .reg none [
 oN 4 (.mov (cI 3))]) (
 .ret)) (
 .skip)))) (
 .seq (
 .seq (
 .reg none [
 oN 128 (.faddr 3 (.t 3)),
 oN 129 (.load false 1 (.t 128)),
 mV 130 129,
 ⟨some 131,(some (130,true)), .mov (.t 8)⟩,
 ⟨some 132,(some (130,true)), .faddr 3 (.t 2)⟩,
 ⟨some 133,(some (130,true)), .load false 1 (.t 132)⟩,
 ⟨some 134,(some (130,true)), .len (.t 133)⟩,
 ⟨some 135,(some (130,true)), .bin .eql (.t 131) (.t 134)⟩,
 oN 136 (.pick (.t 130) (.t 135) (.c (.bool false)))]) (
 .gh [.keep [2,3,8,136]] (
 .cond (.t 136) (
 .seq (
 .reg none [
 oN 4 (.mov (cI 21))]) (
 .ret)) (
 .skip)))) (
 .seq (
 .seq (
 .reg none [
 oN 137 (.faddr 4 (.t 3)),
 oN 138 (.load false 1 (.t 137)),
 mV 139 8,
 oN 140 (.ncall true 0 41 [(.t 138),(cI 0),(.t 139)]),
 oN 141 (.not (.t 140))]) (
 .cond (.t 141) (
 .seq (
 .reg none [
 oN 4 (.mov (cI 2))]) (
 .ret)) (
 .skip))) (
 .seq (
 .seq (
 .reg none [
 oN 142 (.faddr 5 (.t 3)),
 oN 143 (.load false 1 (.t 142)),
 mV 144 143,
 ⟨some 145,(some (144,true)), .faddr 3 (.t 3)⟩,
 ⟨some 146,(some (144,true)), .load false 1 (.t 145)⟩,
 ⟨some 147,(some (144,true)), .not (.t 146)⟩,
 ⟨some 148,(some (144,true)), .mov (.t 147)⟩,
 ⟨some 149,(some (148,false)), .faddr 4 (.t 3)⟩,
 ⟨some 150,(some (148,false)), .load false 1 (.t 149)⟩,
 ⟨some 151,(some (148,false)), .mov (.t 8)⟩,
 ⟨some 152,(some (148,false)), .bin .neq (.t 150) (.t 151)⟩,
 ⟨some 153,(some (144,true)), .pick (.t 148) (.c (.bool true)) (.t 152)⟩,
 oN 154 (.pick (.t 144) (.t 153) (.c (.bool false)))]) (
 .gh [.keep [2,3,8,154]] (
 .cond (.t 154) (
 .seq (
 .reg none [
 oN 4 (.mov (cI 3))]) (
 .ret)) (
 .skip)))) (
 .seq (
 .seq (
 .reg none [
 oN 9 (.mov (cI 0))]) (
 .block 2 (
 .loop ZxM))) ZzO)))))
def ZBD:ACode:=
 .seq (
 .seq (
 .reg none [
 mV 38 5,
 oN 39 (.faddr 2 (.t 3)),
 oN 40 (.load false 1 (.t 39)),
 oN 41 (.len (.t 40)),
 oN 42 (.bin .lss (.t 38) (.t 41))]) (
 .cond (.t 42) (
 .skip) (
 .exit 0))) (
 .seq (
 .block 1 (
 .seq (
 .reg none [
 oN 45 (.faddr 2 (.t 3)),
 oN 46 (.load false 1 (.t 45)),
 mV 47 5,
 oN 48 (.iaddr 2 (.t 46) (.t 47)),
 oN 49 (.load true 2 (.t 48)),
 oN 6 (.alloc 39007 78 (.agg (.gen [(.int .i64 0),(.int .i64 0)]))),
 ⟨none,none, .store 2 (.t 6) (.t 49)⟩]) (
 .seq (
 .seq (
 .reg (some []) [
 oN 50 (.faddr 0 (.t 6)),
 oN 51 (.load false 1 (.t 50)),
 mV 52 5,
 oN 53 (.bin .neq (.t 51) (.t 52)),
 mV 54 53,
 ⟨some 55,(some (54,false)), .faddr 1 (.t 6)⟩,
 ⟨some 56,(some (54,false)), .load false 1 (.t 55)⟩,
 ⟨some 57,(some (54,false)), .faddr 0 (.t 3)⟩,
 ⟨some 58,(some (54,false)), .load false 1 (.t 57)⟩,
 ⟨some 59,(some (54,false)), .bin .gtr (.t 56) (.t 58)⟩,
 oN 60 (.pick (.t 54) (.c (.bool true)) (.t 59)),
 mV 61 60,
 ⟨some 62,(some (61,false)), .mov (.t 5)⟩,
 ⟨some 63,(some (61,false)), .bin .gtr (.t 62) (cI 0)⟩,
 ⟨some 64,(some (61,false)), .mov (.t 63)⟩,
 ⟨some 65,(some (64,true)), .faddr 1 (.t 6)⟩,
 ⟨some 66,(some (64,true)), .load false 1 (.t 65)⟩,
 ⟨some 67,(some (64,true)), .faddr 2 (.t 3)⟩,
 ⟨some 68,(some (64,true)), .load false 1 (.t 67)⟩,
 ⟨some 69,(some (64,true)), .mov (.t 5)⟩,
 ⟨some 70,(some (64,true)), .bin .sub (.t 69) (cI 1)⟩,
 ⟨some 71,(some (64,true)), .iaddr 2 (.t 68) (.t 70)⟩,
 ⟨some 72,(some (64,true)), .faddr 1 (.t 71)⟩,
 ⟨some 73,(some (64,true)), .load false 1 (.t 72)⟩,
 ⟨some 74,(some (64,true)), .bin .lss (.t 66) (.t 73)⟩,
 ⟨some 75,(some (61,false)), .pick (.t 64) (.t 74) (.c (.bool false))⟩,
 oN 76 (.pick (.t 61) (.c (.bool true)) (.t 75))]) (
 .gh [.keep [2,3,5,6,76]] (
 .cond (.t 76) (
 .seq (
 .reg none [
 oN 4 (.mov (cI 9))]) (
 .ret)) (
 .skip)))) (
 .seq (
 .reg (some [(0,6),(1,6),(2,6),(3,6),(4,6),(5,6)]) [
 oN 77 (.load true 6 (.t 2)),
 oN 78 (.faddr 2 (.t 3)),
 oN 79 (.load false 1 (.t 78)),
 mV 80 5,
 oN 81 (.slc 2 (.t 79) none (some (.t 80)) none),
 oN 82 (.ncall true 39083 85 [(.t 77),(.t 81)]),
 oN 7 (.alloc 39008 76 (.agg (.gen [(.int .i64 0),(.int .i64 0), .nils]))),
 ⟨none,none, .store 3 (.t 7) (.t 82)⟩]) (
 .gh [.keep [2,3,5,6,7]] (
 .seq (
 .reg none [
 oN 83 (.faddr 1 (.t 6)),
 oN 84 (.load false 1 (.t 83)),
 oN 85 (.faddr 1 (.t 7)),
 ⟨none,none, .store 1 (.t 85) (.t 84)⟩]) (
 .seq (
 .reg (some []) [
 oN 86 (.faddr 1 (.t 6)),
 oN 87 (.load false 1 (.t 86)),
 oN 88 (.faddr 3 (.t 2)),
 oN 89 (.load false 1 (.t 88)),
 mV 90 5,
 oN 91 (.iaddr 3 (.t 89) (.t 90)),
 oN 92 (.faddr 1 (.t 91)),
 oN 93 (.faddr 0 (.t 92)),
 oN 94 (.load false 1 (.t 93)),
 oN 95 (.faddr 3 (.t 2)),
 oN 96 (.load false 1 (.t 95)),
 mV 97 5,
 oN 98 (.iaddr 3 (.t 96) (.t 97)),
 oN 99 (.faddr 1 (.t 98)),
 oN 100 (.faddr 1 (.t 99)),
 oN 101 (.load false 1 (.t 100)),
 oN 102 (.ncall true 0 41 [(.t 87),(.t 94),(.t 101)]),
 oN 103 (.not (.t 102)),
 mV 104 103,
 ⟨some 105,(some (104,false)), .faddr 0 (.t 2)⟩,
 ⟨some 106,(some (104,false)), .load true 3 (.t 105)⟩,
 ⟨some 107,(some (104,false)), .load true 3 (.t 7)⟩,
 ⟨some 108,(some (104,false)), .faddr 3 (.t 2)⟩,
 ⟨some 109,(some (104,false)), .load false 1 (.t 108)⟩,
 ⟨some 110,(some (104,false)), .mov (.t 5)⟩,
 ⟨some 111,(some (104,false)), .iaddr 3 (.t 109) (.t 110)⟩,
 ⟨some 112,(some (104,false)), .faddr 0 (.t 111)⟩,
 ⟨some 113,(some (104,false)), .load false 1 (.t 112)⟩,
 ⟨some 114,(some (104,false)), .ncall true 0 86 [(.t 106),(.t 107),(.t 113)]⟩,
 ⟨some 115,(some (104,false)), .bin .neq (.t 114) (.c (.str []))⟩,
 oN 116 (.pick (.t 104) (.c (.bool true)) (.t 115))]) (
 .gh [.keep [2,3,5,116]] (
 .cond (.t 116) (
 .seq (
 .reg none [
 oN 4 (.mov (cI 26))]) (
 .ret)) (
 .skip)))))))))) (
 .reg none [
 mV 43 5,
 oN 44 (.bin .add (.t 43) (cI 1)),
 mV 5 44]))
def Zz9:ACode:=.gh [.keep [2,3,5]] (.gh [] ZBD)
def ZEv:List AItem:=.inLoop ZyV::[.inBlock 4,
 .code Zy3]
def ZCl:List AItem:=.inLoop ZxM::[.inBlock 2,
 .code ZzO]
def ZCE:List AItem:=.inLoop Zz9::[.inBlock 0,
 .code Zy6]
def c39:ACode:=
 .seq (
 .reg none [
 oN 2 (.box 39003 29 (.t 0)),
 oN 3 (.box 39004 37 (.t 1)),
 oN 4 (.mov (cI 0))]) (
 .seq (
 .seq (
 .reg none [
 oN 11 (.faddr 0 (.t 3)),
 oN 12 (.load false 1 (.t 11)),
 oN 13 (.ncall true 0 41 [(.t 12),(cI 0),(cI 1000000000000)]),
 oN 14 (.not (.t 13))]) (
 .cond (.t 14) (
 .seq (
 .reg none [
 oN 4 (.mov (cI 2))]) (
 .ret)) (
 .skip))) (
 .seq (
 .seq (
 .reg none [
 oN 15 (.faddr 2 (.t 3)),
 oN 16 (.load false 1 (.t 15)),
 oN 17 (.len (.t 16)),
 oN 18 (.faddr 3 (.t 2)),
 oN 19 (.load false 1 (.t 18)),
 oN 20 (.len (.t 19)),
 oN 21 (.bin .gtr (.t 17) (.t 20)),
 mV 22 21,
 ⟨some 23,(some (22,false)), .faddr 6 (.t 3)⟩,
 ⟨some 24,(some (22,false)), .load false 1 (.t 23)⟩,
 ⟨some 25,(some (22,false)), .len (.t 24)⟩,
 ⟨some 26,(some (22,false)), .faddr 5 (.t 2)⟩,
 ⟨some 27,(some (22,false)), .load false 1 (.t 26)⟩,
 ⟨some 28,(some (22,false)), .bin .gtr (.t 25) (.t 27)⟩,
 oN 29 (.pick (.t 22) (.c (.bool true)) (.t 28)),
 mV 30 29,
 ⟨some 31,(some (30,false)), .faddr 7 (.t 3)⟩,
 ⟨some 32,(some (30,false)), .load false 1 (.t 31)⟩,
 ⟨some 33,(some (30,false)), .len (.t 32)⟩,
 ⟨some 34,(some (30,false)), .faddr 5 (.t 2)⟩,
 ⟨some 35,(some (30,false)), .load false 1 (.t 34)⟩,
 ⟨some 36,(some (30,false)), .bin .gtr (.t 33) (.t 35)⟩,
 oN 37 (.pick (.t 30) (.c (.bool true)) (.t 36))]) (
 .gh [.keep [2,3,37]] (
 .cond (.t 37) (
 .seq (
 .reg none [
 oN 4 (.mov (cI 8))]) (
 .ret)) (
 .skip)))) (
 .seq (
 .seq (
 .reg none [
 oN 5 (.mov (cI 0))]) (
 .block 0 (
 .loop Zz9))) Zy6)))
def a39:AFunc:=⟨210,c39,[.tmp 4]⟩
def c41:ACode:=
 .seq (
 .reg none [
 oN 6 (.mov (.c (.bool false)))]) (
 .seq (
 .reg none [
 mV 7 1,
 mV 8 0,
 oN 9 (.bin .leq (.t 7) (.t 8)),
 mV 10 9,
 ⟨some 11,(some (10,true)), .mov (.t 0)⟩,
 ⟨some 12,(some (10,true)), .mov (.t 2)⟩,
 ⟨some 13,(some (10,true)), .bin .leq (.t 11) (.t 12)⟩,
 oN 14 (.pick (.t 10) (.t 13) (.c (.bool false))),
 mV 6 14]) (
 .gh [.keep [6]] (
 .ret)))
def a41:AFunc:=⟨15,c41,[.tmp 6]⟩
def c42:ACode:=
 .seq (
 .reg none [
 oN 3 (.box 42004 26 (.t 0)),
 oN 4 (.box 42005 76 (.t 1)),
 oN 6 (.mov (.c (.str []))),
 oN 7 (.mov (cI 0))]) (
 .seq (
 .reg none [
 oN 12 (.mkfn 87 [(.t 4)]),
 mV 8 12]) (
 .seq (
 .reg (some []) [
 oN 13 (.load true 3 (.t 3)),
 oN 14 (.ncall true 0 88 [(.t 13)]),
 oN 15 (.faddr 0 (.t 4)),
 oN 16 (.load false 1 (.t 15)),
 oN 17 (.faddr 0 (.t 3)),
 oN 18 (.load false 1 (.t 17)),
 oN 19 (.len (.t 18)),
 oN 20 (.bin .sub (.t 19) (cI 1)),
 oN 21 (.ncall true 0 82 [(.t 16),(cI 0),(.t 20)]),
 oN 22 (.ncall true 0 68 [(.t 21),(cI 6)]),
 oN 23 (.faddr 1 (.t 4)),
 oN 24 (.load false 1 (.t 23)),
 oN 25 (.ncall true 0 89 [(.t 24)]),
 oN 26 (.ncall true 0 68 [(.t 25),(cI 2)]),
 oN 27 (.faddr 2 (.t 4)),
 oN 28 (.load false 1 (.t 27)),
 oN 29 (.len (.t 28)),
 oN 30 (.faddr 1 (.t 3)),
 oN 31 (.load false 1 (.t 30)),
 oN 32 (.len (.t 31)),
 oN 33 (.bin .eql (.t 29) (.t 32)),
 oN 34 (.ncall true 0 68 [(.t 33),(cI 10)]),
 oN 35 (.faddr 2 (.t 4)),
 oN 36 (.load false 1 (.t 35)),
 mV 37 8,
 oN 38 (.ncall true 0 90 [(.t 36),(.t 37)]),
 oN 39 (.not (.t 38)),
 oN 40 (.ncall true 0 68 [(.t 39),(cI 2)]),
 mV 41 2,
 oN 42 (.faddr 1 (.t 3)),
 oN 43 (.load false 1 (.t 42)),
 oN 44 (.len (.t 43)),
 oN 45 (.bin .sub (.t 44) (cI 1)),
 oN 46 (.ncall true 0 82 [(.t 41),(cI 0),(.t 45)]),
 oN 47 (.ncall true 0 68 [(.t 46),(cI 15)]),
 oN 48 (.bslice 42049 38 1 [(.t 14),(.t 22),(.t 26),(.t 34),(.t 40),(.t 47)]),
 oN 49 (.ncall true 0 67 [(.t 48)]),
 mV 9 49]) (
 .gh [.keep [2,3,4,9]] (
 .seq (
 .seq (
 .reg none [
 mV 50 9,
 oN 51 (.bin .neq (.t 50) (cI 0))]) (
 .cond (.t 51) (
 .seq (
 .reg none [
 mV 52 9,
 oN 6 (.mov (.c (.str []))),
 mV 7 52]) (
 .ret)) (
 .skip))) (
 .seq (
 .reg none [
 oN 53 (.load true 3 (.t 3)),
 oN 54 (.load true 3 (.t 4)),
 oN 55 (.build (.gen [.nils, .nils, .nils,(.int .i64 0),(.int .i64 0), .nils]) [(0,3,(.t 53)),(3,3,(.t 54))]),
 oN 10 (.alloc 42011 137 (.agg (.gen [.nils, .nils, .nils,(.int .i64 0),(.int .i64 0), .nils]))),
 ⟨none,none, .store 6 (.t 10) (.t 55)⟩]) (
 .seq (
 .seq (
 .reg none [
 mV 56 2,
 oN 57 (.icall 91 [(.t 10),(.t 56)]),
 mV 11 57]) (
 .seq (
 .reg none [
 mV 58 11,
 oN 59 (.pnil true (.t 58))]) (
 .cond (.t 59) (
 .seq (
 .reg none [
 mV 60 11,
 oN 61 (.nilck (.t 60)),
 oN 62 (.faddr 0 (.t 61)),
 oN 63 (.load false 1 (.t 62)),
 mV 6 63,
 oN 7 (.mov (cI 0))]) (
 .ret)) (
 .skip)))) (
 .seq (
 .reg none [
 oN 6 (.mov (.c (.str []))),
 oN 7 (.mov (cI 0))]) (
 .ret))))))))
def a42:AFunc:=⟨64,c42,[.tmp 6, .tmp 7]⟩
def c53:ACode:=
 .seq (
 .reg none [
 oN 1 (.box 53002 63 (.t 0)),
 oN 2 (.mov (.c (.str [])))]) (
 .seq (
 .reg none [
 oN 4 (.ncall true 0 83 []),
 oN 3 (.alloc 53004 150 (.agg (.gen [(.str []),(.int .i64 0),(.int .i64 0),(.val .nilFunc),(.str []),(.int .i64 0),(.int .i64 0),(.val .nilFunc),(.str []),(.int .i64 0),(.int .i64 0),(.val .nilFunc),(.str []),(.int .i64 0),(.int .i64 0),(.val .nilFunc),(.str []),(.int .i64 0),(.int .i64 0),(.val .nilFunc),(.str []),(.int .i64 0),(.int .i64 0),(.val .nilFunc),(.str []),(.int .i64 0),(.int .i64 0),(.val .nilFunc),(.str []),(.int .i64 0),(.int .i64 0),(.val .nilFunc),(.str []),(.int .i64 0),(.int .i64 0),(.val .nilFunc)]))),
 ⟨none,none, .store 36 (.t 3) (.t 4)⟩]) (
 .seq (
 .seq (
 .reg none [
 oN 5 (.faddr 0 (.t 1)),
 oN 6 (.load false 1 (.t 5)),
 oN 7 (.ncall true 0 82 [(.t 6),(cI 0),(cI 8)]),
 oN 8 (.not (.t 7))]) (
 .cond (.t 8) (
 .seq (
 .reg none [
 oN 2 (.mov (.c (.str [])))]) (
 .ret)) (
 .skip))) (
 .seq (
 .seq (
 .reg none [
 oN 9 (.faddr 0 (.t 1)),
 oN 10 (.load false 1 (.t 9)),
 oN 11 (.aaddr 9 4 (.t 3) (.t 10)),
 oN 12 (.faddr 2 (.t 11)),
 oN 13 (.load false 1 (.t 12)),
 oN 14 (.bin .eql (.t 13) (cI 0))]) (
 .cond (.t 14) (
 .seq (
 .reg none [
 oN 15 (.faddr 0 (.t 1)),
 oN 16 (.load false 1 (.t 15)),
 oN 17 (.aaddr 9 4 (.t 3) (.t 16)),
 oN 18 (.faddr 0 (.t 17)),
 oN 19 (.load false 1 (.t 18)),
 mV 2 19]) (
 .ret)) (
 .skip))) (
 .seq (
 .reg (some [(0,8),(1,8),(2,8),(3,8),(4,8),(5,8)]) [
 oN 20 (.faddr 0 (.t 1)),
 oN 21 (.load false 1 (.t 20)),
 oN 22 (.aaddr 9 4 (.t 3) (.t 21)),
 oN 23 (.faddr 0 (.t 22)),
 oN 24 (.load false 1 (.t 23)),
 oN 25 (.bin .add (.t 24) (.c (.str [32]))),
 oN 26 (.faddr 1 (.t 1)),
 oN 27 (.load false 1 (.t 26)),
 oN 28 (.bslice 53029 3 1 [(.t 27)]),
 oN 29 (.ncall true 0 105 [(.t 28)]),
 oN 30 (.bin .add (.t 25) (.t 29)),
 mV 2 30]) (
 .gh [.keep [2]] (
 .ret))))))
def a53:AFunc:=⟨31,c53,[.tmp 2]⟩
def c65:ACode:=
 .seq (
 .reg none [
 oN 1 (.box 65002 26 (.t 0)),
 oN 2 (.mov (cI 0))]) (
 .seq (
 .reg none [
 oN 6 (.load true 3 (.t 1)),
 oN 7 (.ncall true 0 119 [(.t 6)]),
 mV 5 7,
 oN 8 (.ext 0 (.t 5)),
 oN 9 (.ext 1 (.t 5)),
 oN 3 (.alloc 65004 195 (.agg (.gen [(.int .i64 0),(.int .i64 0)]))),
 ⟨none,none, .store 2 (.t 3) (.t 8)⟩,
 mV 4 9]) (
 .gh [.keep [4]] (
 .seq (
 .reg none [
 mV 10 4,
 mV 2 10]) (
 .ret))))
def a65:AFunc:=⟨11,c65,[.tmp 2]⟩
def c66:ACode:=
 .seq (
 .reg none [
 oN 0 (.alloc 66001 29 (.agg (.gen [.nils, .nils, .nils, .nils,(.int .i64 0),(.int .i64 0)])))]) (
 .seq (
 .reg none [
 oN 1 (.bslice 66002 9 1 [(.c (.str [115,97,102,101])),(.c (.str [99,114,117,105,115,101])),(.c (.str [98,117,114,110]))]),
 oN 2 (.build (.gen [(.str []),(.int .i64 0)]) [(0,1,(.c (.str [119,97,107,101]))),(1,1,(cI 1))]),
 oN 3 (.build (.gen [(.str []),(.int .i64 0)]) [(0,1,(.c (.str [102,105,114,101]))),(1,1,(cI 2))]),
 oN 4 (.build (.gen [(.str []),(.int .i64 0)]) [(0,1,(.c (.str [115,116,111,112]))),(1,1,(cI 1))]),
 oN 5 (.build (.gen [(.str []),(.int .i64 0)]) [(0,1,(.c (.str [112,105,110,103]))),(1,1,(cI (-1)))]),
 oN 6 (.bslice 66007 88 2 [(.t 2),(.t 3),(.t 4),(.t 5)]),
 oN 7 (.build (.gen [(.str []),(.int .i64 0),(.int .i64 0),(.int .i64 0),(.int .i64 0)]) [(0,1,(.c (.str [99,111,108,100]))),(1,1,(cI 1)),(2,1,(cI 0)),(3,1,(cI (-1))),(4,1,(cI 1))]),
 oN 8 (.build (.gen [(.str []),(.int .i64 0),(.int .i64 0),(.int .i64 0),(.int .i64 0)]) [(0,1,(.c (.str [104,101,97,116]))),(1,1,(cI 1)),(2,1,(cI (-1))),(3,1,(cI 2)),(4,1,(cI 50))]),
 oN 9 (.bslice 66010 131 5 [(.t 7),(.t 8)]),
 oN 10 (.build (.gen [.nils, .nils, .nils]) [(0,1,(.t 1)),(1,1,(.t 6)),(2,1,(.t 9))]),
 oN 11 (.build (.gen [(.int .i64 0),(.int .i64 0)]) [(1,1,(cI 100))]),
 oN 12 (.build (.gen [(.int .i64 0),(.int .i64 0),(.int .i64 0)]) [(0,1,(cI 0)),(1,2,(.t 11))]),
 oN 13 (.build (.gen [(.int .i64 0),(.int .i64 0)]) [(0,1,(cI 20)),(1,1,(cI 200))]),
 oN 14 (.build (.gen [(.int .i64 0),(.int .i64 0),(.int .i64 0)]) [(0,1,(cI 1)),(1,2,(.t 13))]),
 oN 15 (.build (.gen [(.int .i64 0),(.int .i64 0)]) [(0,1,(cI 30)),(1,1,(cI 300))]),
 oN 16 (.build (.gen [(.int .i64 0),(.int .i64 0),(.int .i64 0)]) [(0,1,(cI 2)),(1,2,(.t 15))]),
 oN 17 (.build (.gen [(.int .i64 0),(.int .i64 0)]) [(0,1,(cI 40)),(1,1,(cI 400))]),
 oN 18 (.build (.gen [(.int .i64 0),(.int .i64 0),(.int .i64 0)]) [(0,1,(cI 1)),(1,2,(.t 17))]),
 oN 19 (.bslice 66020 82 3 [(.t 12),(.t 14),(.t 16),(.t 18)]),
 oN 20 (.build (.gen [.nils, .nils, .nils, .nils,(.int .i64 0),(.int .i64 0)]) [(0,3,(.t 10)),(3,1,(.t 19)),(4,1,(cI 2)),(5,1,(cI 2))]),
 ⟨none,none, .store 6 (.t 0) (.t 20)⟩]) (
 .gh [.keep [0]] (
 .ret)))
def a66:AFunc:=⟨21,c66,[.cell 0 true 6]⟩
def Zyl:ACode:=
 .seq (
 .reg none [
 oN 8 (.bin .lss (.t 7) (.t 6))]) (
 .seq (
 .cond (.t 8) (
 .skip) (
 .exit 0)) (
 .seq (
 .block 1 (
 .seq (
 .reg none [
 oN 9 (.iaddr 1 (.t 5) (.t 7)),
 oN 10 (.load false 1 (.t 9)),
 mV 4 10]) (
 .seq (
 .reg none [
 mV 11 4,
 oN 12 (.bin .neq (.t 11) (cI 0))]) (
 .cond (.t 12) (
 .seq (
 .reg none [
 mV 13 4,
 mV 2 13]) (
 .ret)) (
 .skip))))) (
 .reg none [
 oN 14 (.bin .add (.t 7) (cI 1)),
 mV 7 14])))
def ZyJ:ACode:=.gh [.keep [5,6,7]] (.gh [] Zyl)
def ZEz:List AItem:=.inLoop ZyJ::[.inBlock 0,
 .code (.seq (
 .reg none [
 oN 2 (.mov (cI 0))]) (
 .ret))]
def c67:ACode:=
 .seq (
 .reg none [
 oN 2 (.mov (cI 0))]) (
 .seq (
 .seq (
 .reg none [
 mV 5 0,
 oN 6 (.len (.t 5)),
 oN 7 (.mov (cI 0))]) (
 .block 0 (
 .loop ZyJ))) (
 .seq (
 .reg none [
 oN 2 (.mov (cI 0))]) (
 .ret)))
def a67:AFunc:=⟨15,c67,[.tmp 2]⟩
def c68:ACode:=
 .seq (
 .reg none [
 oN 4 (.mov (cI 0))]) (
 .seq (
 .seq (
 .reg none [
 mV 5 0]) (
 .cond (.t 5) (
 .seq (
 .reg none [
 oN 4 (.mov (cI 0))]) (
 .ret)) (
 .skip))) (
 .seq (
 .reg none [
 mV 6 1,
 mV 4 6]) (
 .ret)))
def a68:AFunc:=⟨7,c68,[.tmp 4]⟩
def c69:ACode:=
 .seq (
 .reg none [
 oN 1 (.box 69002 29 (.t 0)),
 oN 2 (.mov (.c (.val (.pointer none))))]) (
 .seq (
 .reg (some [(7,7),(0,4),(0,6),(1,2),(1,6),(2,3),(2,6),(3,4),(3,6),(4,5),(4,6),(5,6)]) [
 oN 3 (.load true 6 (.t 1)),
 oN 4 (.faddr 0 (.t 1)),
 oN 5 (.load true 3 (.t 4)),
 oN 6 (.icall 72 [(.t 5)]),
 oN 7 (.build (.gen [.nils, .nils, .nils, .nils,(.int .i64 0),(.int .i64 0),(.int .i64 0),(.int .i64 0), .nils,(.bool false),(.int .i64 0),(.bool false), .nils, .nils,(.val (.pointer none))]) [(0,6,(.t 3)),(14,1,(.t 6))]),
 oN 8 (.box 69009 127 (.t 7)),
 mV 2 8]) (
 .gh [.keep [2], .ownb 2 8 69708 78 2 (.big (.agg [.int .i64, .int .i64]) []), .ownb 2 12 69712 3 1 (.ints .i64 []), .ownb 2 13 69713 129 2 (.big (.agg [.int .i64, .bool]) [])] (
 .ret)))
def a69:AFunc:=⟨9,c69,[.tmp 2]⟩
def c70:ACode:=
 .seq (
 .reg none [
 oN 3 (.box 70004 63 (.t 1)),
 oN 4 (.mov (cI 0))]) (
 .seq (
 .reg (some []) [
 oN 5 (.ncall true 0 83 []),
 oN 6 (.faddr 0 (.t 3)),
 oN 7 (.load false 1 (.t 6)),
 oN 8 (.idxa 9 4 (.t 5) (.s 7)),
 oN 9 (.fld false 3 1 (.t 8)),
 mV 10 0,
 oN 11 (.faddr 1 (.t 3)),
 oN 12 (.load false 1 (.t 11)),
 oN 13 (.icallv (.t 9) [(.t 10),(.t 12)]),
 mV 4 13]) (
 .gh [.keep [4]] (
 .ret)))
def a70:AFunc:=⟨14,c70,[.tmp 4]⟩
def Zzb:ACode:=
 .seq (
 .reg none [
 oN 4 (.mov (cI 0)),
 oN 5 (.mov (cI 0))]) (
 .ret)
def ZwZ:ACode:=
 .seq (
 .reg none [
 oN 28 (.bin .lss (.t 27) (.t 26))]) (
 .seq (
 .cond (.t 28) (
 .skip) (
 .exit 0)) (
 .seq (
 .block 1 (
 .seq (
 .reg none [
 mV 29 27,
 oN 30 (.iaddr 3 (.t 25) (.t 27)),
 oN 31 (.load true 3 (.t 30)),
 oN 8 (.alloc 71009 82 (.agg (.gen [(.int .i64 0),(.int .i64 0),(.int .i64 0)]))),
 mV 7 29,
 ⟨none,none, .store 3 (.t 8) (.t 31)⟩]) (
 .seq (
 .reg none [
 oN 32 (.load true 3 (.t 2)),
 oN 33 (.load true 3 (.t 8)),
 oN 34 (.ncall true 0 120 [(.t 32),(.t 33)]),
 mV 9 34]) (
 .seq (
 .reg none [
 mV 35 9,
 oN 36 (.bin .neq (.t 35) (cI 0))]) (
 .cond (.t 36) (
 .seq (
 .reg none [
 mV 37 7,
 mV 38 9,
 mV 4 37,
 mV 5 38]) (
 .ret)) (
 .skip)))))) (
 .reg none [
 oN 39 (.bin .add (.t 27) (cI 1)),
 mV 27 39])))
def ZA4:ACode:=.gh [.keep [2,25,26,27]] (.gh [] ZwZ)
def ZDE:List AItem:=.inLoop ZA4::[.inBlock 0,
 .code Zzb]
def c71:ACode:=
 .seq (
 .reg none [
 oN 2 (.box 71003 26 (.t 0)),
 oN 4 (.mov (cI 0)),
 oN 5 (.mov (cI 0))]) (
 .seq (
 .seq (
 .reg none [
 oN 10 (.load true 3 (.t 2)),
 oN 11 (.ncall true 0 88 [(.t 10)]),
 mV 12 1,
 oN 13 (.len (.t 12)),
 oN 14 (.bin .gtr (.t 13) (cI 0)),
 oN 15 (.ncall true 0 68 [(.t 14),(cI 10)]),
 mV 16 1,
 oN 17 (.len (.t 16)),
 oN 18 (.bin .leq (.t 17) (cI 12)),
 oN 19 (.ncall true 0 68 [(.t 18),(cI 8)]),
 oN 20 (.bslice 71021 38 1 [(.t 11),(.t 15),(.t 19)]),
 oN 21 (.ncall true 0 67 [(.t 20)]),
 mV 6 21]) (
 .gh [.keep [1,2,6]] (
 .seq (
 .reg none [
 mV 22 6,
 oN 23 (.bin .neq (.t 22) (cI 0))]) (
 .cond (.t 23) (
 .seq (
 .reg none [
 mV 24 6,
 oN 4 (.mov (cI 0)),
 mV 5 24]) (
 .ret)) (
 .skip))))) (
 .seq (
 .seq (
 .reg none [
 mV 25 1,
 oN 26 (.len (.t 25)),
 oN 27 (.mov (cI 0))]) (
 .block 0 (
 .loop ZA4))) Zzb))
def a71:AFunc:=⟨40,c71,[.tmp 4, .tmp 5]⟩
def c72:ACode:=
 .seq (
 .reg none [
 oN 1 (.box 72002 26 (.t 0)),
 oN 2 (.mov (.c (.val (.pointer none))))]) (
 .seq (
 .reg (some [(0,1),(0,5),(1,2),(1,3),(1,4)]) [
 oN 3 (.load true 3 (.t 1)),
 oN 4 (.bslice 72005 3 1 [(cI (-1))]),
 oN 5 (.faddr 1 (.t 1)),
 oN 6 (.load false 1 (.t 5)),
 oN 7 (.len (.t 6)),
 oN 8 (.ncall true 72009 121 [(.t 4),(.t 7)]),
 oN 9 (.build (.gen [(.int .i64 0),(.int .i64 0), .nils]) [(2,1,(.t 8))]),
 oN 10 (.build (.gen [.nils, .nils, .nils,(.int .i64 0),(.int .i64 0), .nils]) [(0,3,(.t 3)),(3,3,(.t 9))]),
 oN 11 (.box 72012 137 (.t 10)),
 mV 2 11]) (
 .gh [.keep [2]] (
 .ret)))
def a72:AFunc:=⟨12,c72,[.tmp 2]⟩
def ZDL:ACode:=
 .seq (
 .reg none [
 mV 75 0,
 oN 76 (.load true 3 (.t 3)),
 oN 77 (.ncall true 0 123 [(.t 75),(.t 76)]),
 mV 4 77]) (
 .ret)
def ZDg:ACode:=
 .seq (
 .reg none [
 oN 27 (.bin .lss (.t 26) (.t 25))]) (
 .seq (
 .cond (.t 27) (
 .skip) (
 .exit 0)) (
 .seq (
 .block 1 (
 .seq (
 .reg none [
 oN 28 (.iaddr 5 (.t 24) (.t 26)),
 oN 29 (.load true 5 (.t 28)),
 oN 6 (.alloc 73007 131 (.agg (.gen [(.str []),(.int .i64 0),(.int .i64 0),(.int .i64 0),(.int .i64 0)]))),
 ⟨none,none, .store 5 (.t 6) (.t 29)⟩]) (
 .seq (
 .reg (some []) [
 oN 30 (.faddr 3 (.t 6)),
 oN 31 (.load false 1 (.t 30)),
 oN 32 (.bin .neq (.t 31) (cI (-1))),
 mV 33 32,
 ⟨some 34,(some (33,true)), .mov (.t 0)⟩,
 ⟨some 35,(some (33,true)), .load true 5 (.t 6)⟩,
 ⟨some 36,(some (33,true)), .faddr 0 (.t 3)⟩,
 ⟨some 37,(some (33,true)), .load false 1 (.t 36)⟩,
 ⟨some 38,(some (33,true)), .ncall true 0 122 [(.t 34),(.t 35),(.t 37)]⟩,
 oN 39 (.pick (.t 33) (.t 38) (.c (.bool false))),
 mV 40 39,
 ⟨some 41,(some (40,true)), .mov (.t 0)⟩,
 ⟨some 42,(some (40,true)), .nilck (.t 41)⟩,
 ⟨some 43,(some (40,true)), .faddr 3 (.t 42)⟩,
 ⟨some 44,(some (40,true)), .faddr 2 (.t 43)⟩,
 ⟨some 45,(some (40,true)), .load false 1 (.t 44)⟩,
 ⟨some 46,(some (40,true)), .faddr 3 (.t 6)⟩,
 ⟨some 47,(some (40,true)), .load false 1 (.t 46)⟩,
 ⟨some 48,(some (40,true)), .iaddr 1 (.t 45) (.t 47)⟩,
 ⟨some 49,(some (40,true)), .load false 1 (.t 48)⟩,
 ⟨some 50,(some (40,true)), .bin .neq (.t 49) (cI (-1))⟩,
 oN 51 (.pick (.t 40) (.t 50) (.c (.bool false)))]) (
 .gh [.keep [0,3,6,24,25,26,51]] (
 .cond (.t 51) (
 .reg (some []) [
 mV 52 0,
 mV 53 0,
 oN 54 (.nilck (.t 53)),
 oN 55 (.faddr 3 (.t 54)),
 oN 56 (.faddr 1 (.t 55)),
 oN 57 (.load false 1 (.t 56)),
 mV 58 0,
 oN 59 (.nilck (.t 58)),
 oN 60 (.faddr 3 (.t 59)),
 oN 61 (.faddr 2 (.t 60)),
 oN 62 (.load false 1 (.t 61)),
 oN 63 (.faddr 3 (.t 6)),
 oN 64 (.load false 1 (.t 63)),
 oN 65 (.iaddr 1 (.t 62) (.t 64)),
 oN 66 (.load false 1 (.t 65)),
 oN 67 (.faddr 4 (.t 6)),
 oN 68 (.load false 1 (.t 67)),
 oN 69 (.bin .add (.t 66) (.t 68)),
 oN 70 (.mm true (.t 57) (.t 69)),
 oN 71 (.nilck (.t 52)),
 oN 72 (.faddr 3 (.t 71)),
 oN 73 (.faddr 1 (.t 72)),
 ⟨none,none, .store 1 (.t 73) (.t 70)⟩]) (
 .skip)))))) (
 .reg none [
 oN 74 (.bin .add (.t 26) (cI 1)),
 mV 26 74])))
def ZCX:ACode:=.gh [.keep [0,3,24,25,26]] (.gh [] ZDg)
def c73:ACode:=
 .seq (
 .reg none [
 oN 3 (.box 73004 82 (.t 1)),
 oN 4 (.mov (.c (.bool false)))]) (
 .seq (
 .reg (some []) [
 mV 7 0,
 mV 8 0,
 oN 9 (.nilck (.t 8)),
 oN 10 (.faddr 3 (.t 9)),
 oN 11 (.faddr 1 (.t 10)),
 oN 12 (.load false 1 (.t 11)),
 oN 13 (.faddr 1 (.t 3)),
 oN 14 (.faddr 0 (.t 13)),
 oN 15 (.load false 1 (.t 14)),
 oN 16 (.mm true (.t 12) (.t 15)),
 oN 17 (.nilck (.t 7)),
 oN 18 (.faddr 3 (.t 17)),
 oN 19 (.faddr 1 (.t 18)),
 ⟨none,none, .store 1 (.t 19) (.t 16)⟩]) (
 .gh [.keep [0,3]] (
 .seq (
 .seq (
 .reg none [
 mV 20 0,
 oN 21 (.nilck (.t 20)),
 oN 22 (.faddr 0 (.t 21)),
 oN 23 (.faddr 2 (.t 22)),
 oN 24 (.load false 1 (.t 23)),
 oN 25 (.len (.t 24)),
 oN 26 (.mov (cI 0))]) (
 .block 0 (
 .loop ZCX))) ZDL)))
def a73:AFunc:=⟨78,c73,[.tmp 4]⟩
def c74:ACode:=
 .seq (
 .reg none [
 oN 3 (.box 74004 82 (.t 1))]) (
 .seq (
 .reg (some []) [
 mV 5 0,
 oN 6 (.nilck (.t 5)),
 oN 7 (.faddr 3 (.t 6)),
 oN 8 (.faddr 2 (.t 7)),
 oN 9 (.load false 1 (.t 8)),
 oN 10 (.faddr 0 (.t 3)),
 oN 11 (.load false 1 (.t 10)),
 mV 12 0,
 oN 13 (.nilck (.t 12)),
 oN 14 (.faddr 3 (.t 13)),
 oN 15 (.faddr 1 (.t 14)),
 oN 16 (.load false 1 (.t 15)),
 oN 17 (.iaddr 1 (.t 9) (.t 11)),
 ⟨none,none, .store 1 (.t 17) (.t 16)⟩]) (
 .gh [.keep [0,3]] (
 .seq (
 .reg (some []) [
 mV 18 0,
 oN 19 (.nilck (.t 18)),
 oN 20 (.faddr 0 (.t 19)),
 oN 21 (.faddr 1 (.t 20)),
 oN 22 (.load false 1 (.t 21)),
 oN 23 (.faddr 0 (.t 3)),
 oN 24 (.load false 1 (.t 23)),
 oN 25 (.iaddr 2 (.t 22) (.t 24)),
 oN 26 (.faddr 1 (.t 25)),
 oN 27 (.load false 1 (.t 26)),
 mV 4 27]) (
 .gh [.keep [0,4]] (
 .seq (
 .reg none [
 mV 28 4,
 oN 29 (.bin .neq (.t 28) (cI (-1)))]) (
 .cond (.t 29) (
 .reg none [
 mV 30 0,
 mV 31 4,
 oN 32 (.nilck (.t 30)),
 oN 33 (.faddr 3 (.t 32)),
 oN 34 (.faddr 0 (.t 33)),
 ⟨none,none, .store 1 (.t 34) (.t 31)⟩]) (
 .skip)))))))
def a74:AFunc:=⟨35,c74,[]⟩
def c75:ACode:=
 .seq (
 .reg none [
 oN 2 (.mov (.c .nils))]) (
 .seq (
 .reg none [
 oN 3 (.emptyl),
 mV 4 0,
 oN 5 (.app0 1 (.t 3) (.t 4)),
 mV 2 5]) (
 .ret))
def a75:AFunc:=⟨6,c75,[.tmp 2]⟩
def Zzq:ACode:=
 .seq (
 .reg none [
 oN 4 (.mov (cI 0)),
 oN 5 (.mov (cI 0))]) (
 .ret)
def ZBR:ACode:=
 .seq (
 .seq (
 .reg none [
 mV 13 6,
 mV 14 1,
 oN 15 (.len (.t 14)),
 oN 16 (.bin .lss (.t 13) (.t 15))]) (
 .cond (.t 16) (
 .skip) (
 .exit 0))) (
 .seq (
 .block 1 (
 .seq (
 .seq (
 .reg (some []) [
 mV 19 1,
 mV 20 6,
 oN 21 (.iaddr 3 (.t 19) (.t 20)),
 oN 22 (.faddr 0 (.t 21)),
 oN 23 (.load false 1 (.t 22)),
 oN 24 (.faddr 1 (.t 2)),
 oN 25 (.load false 1 (.t 24)),
 oN 26 (.len (.t 25)),
 oN 27 (.bin .sub (.t 26) (cI 1)),
 oN 28 (.ncall true 0 41 [(.t 23),(cI 0),(.t 27)]),
 oN 29 (.not (.t 28))]) (
 .gh [.keep [1,2,6,29]] (
 .cond (.t 29) (
 .seq (
 .reg none [
 mV 30 6,
 mV 4 30,
 oN 5 (.mov (cI 15))]) (
 .ret)) (
 .skip)))) (
 .seq (
 .seq (
 .reg none [
 mV 31 1,
 mV 32 6,
 oN 33 (.iaddr 3 (.t 31) (.t 32)),
 oN 34 (.faddr 1 (.t 33)),
 oN 35 (.faddr 0 (.t 34)),
 oN 36 (.load false 1 (.t 35)),
 oN 37 (.ncall true 0 41 [(.t 36),(cI 0),(cI 1000000000000)]),
 oN 38 (.not (.t 37)),
 mV 39 38,
 ⟨some 40,(some (39,false)), .mov (.t 1)⟩,
 ⟨some 41,(some (39,false)), .mov (.t 6)⟩,
 ⟨some 42,(some (39,false)), .iaddr 3 (.t 40) (.t 41)⟩,
 ⟨some 43,(some (39,false)), .faddr 1 (.t 42)⟩,
 ⟨some 44,(some (39,false)), .faddr 1 (.t 43)⟩,
 ⟨some 45,(some (39,false)), .load false 1 (.t 44)⟩,
 ⟨some 46,(some (39,false)), .ncall true 0 41 [(.t 45),(cI 0),(cI 1000000000000)]⟩,
 ⟨some 47,(some (39,false)), .not (.t 46)⟩,
 oN 48 (.pick (.t 39) (.c (.bool true)) (.t 47))]) (
 .gh [.keep [1,2,6,48]] (
 .cond (.t 48) (
 .seq (
 .reg none [
 mV 49 6,
 mV 4 49,
 oN 5 (.mov (cI 2))]) (
 .ret)) (
 .skip)))) (
 .seq (
 .reg (some []) [
 mV 50 1,
 mV 51 6,
 oN 52 (.iaddr 3 (.t 50) (.t 51)),
 oN 53 (.faddr 1 (.t 52)),
 oN 54 (.faddr 0 (.t 53)),
 oN 55 (.load false 1 (.t 54)),
 mV 56 1,
 mV 57 6,
 oN 58 (.iaddr 3 (.t 56) (.t 57)),
 oN 59 (.faddr 1 (.t 58)),
 oN 60 (.faddr 1 (.t 59)),
 oN 61 (.load false 1 (.t 60)),
 oN 62 (.bin .gtr (.t 55) (.t 61))]) (
 .gh [.keep [1,2,6,62]] (
 .cond (.t 62) (
 .seq (
 .reg none [
 mV 63 6,
 mV 4 63,
 oN 5 (.mov (cI 9))]) (
 .ret)) (
 .skip))))))) (
 .reg none [
 mV 17 6,
 oN 18 (.bin .add (.t 17) (cI 1)),
 mV 6 18]))
def ZxG:ACode:=.gh [.keep [1,2,6]] (.gh [] ZBR)
def ZEB:List AItem:=.inLoop ZxG::[.inBlock 0,
 .code Zzq]
def c76:ACode:=
 .seq (
 .reg none [
 oN 2 (.box 76003 26 (.t 0)),
 oN 4 (.mov (cI 0)),
 oN 5 (.mov (cI 0))]) (
 .seq (
 .seq (
 .reg none [
 mV 7 1,
 oN 8 (.len (.t 7)),
 oN 9 (.bin .eql (.t 8) (cI 0))]) (
 .cond (.t 9) (
 .seq (
 .reg none [
 oN 4 (.mov (cI 0)),
 oN 5 (.mov (cI 10))]) (
 .ret)) (
 .skip))) (
 .seq (
 .seq (
 .reg none [
 mV 10 1,
 oN 11 (.len (.t 10)),
 oN 12 (.bin .gtr (.t 11) (cI 12))]) (
 .cond (.t 12) (
 .seq (
 .reg none [
 oN 4 (.mov (cI 0)),
 oN 5 (.mov (cI 8))]) (
 .ret)) (
 .skip))) (
 .seq (
 .seq (
 .reg none [
 oN 6 (.mov (cI 0))]) (
 .block 0 (
 .loop ZxG))) Zzq)))
def a76:AFunc:=⟨64,c76,[.tmp 4, .tmp 5]⟩
def Zx0:ACode:=
 .seq (
 .reg none [
 oN 18 (.load true 3 (.t 3)),
 ⟨none,none, .store 3 (.t 2) (.t 18)⟩]) (
 .ret)
def Zug:ACode:=
 .seq (
 .seq (
 .reg none [
 mV 6 4,
 oN 7 (.faddr 1 (.t 1)),
 oN 8 (.load false 1 (.t 7)),
 oN 9 (.len (.t 8)),
 oN 10 (.bin .lss (.t 6) (.t 9))]) (
 .cond (.t 10) (
 .skip) (
 .exit 0))) (
 .seq (
 .block 1 (
 .reg none [
 oN 13 (.faddr 2 (.t 3)),
 oN 14 (.load false 1 (.t 13)),
 oN 15 (.bslice 77016 3 1 [(cI (-1))]),
 oN 16 (.append 77017 3 1 (.t 14) (.t 15)),
 oN 17 (.faddr 2 (.t 3)),
 ⟨none,none, .store 1 (.t 17) (.t 16)⟩])) (
 .reg none [
 mV 11 4,
 oN 12 (.bin .add (.t 11) (cI 1)),
 mV 4 12]))
def Zy9:ACode:=.gh [.keep [1,2,3,4]] (.gh [] Zug)
def ZAo:List AItem:=.inLoop Zy9::[.inBlock 0,
 .code Zx0]
def c77:ACode:=
 .seq (
 .reg none [
 oN 1 (.box 77002 26 (.t 0)),
 oN 2 (.alloc 77003 76 (.agg (.gen [(.int .i64 0),(.int .i64 0), .nils])))]) (
 .seq (
 .reg none [
 oN 5 (.build (.gen [(.int .i64 0),(.int .i64 0), .nils]) []),
 oN 3 (.alloc 77004 76 (.agg (.gen [(.int .i64 0),(.int .i64 0), .nils]))),
 ⟨none,none, .store 3 (.t 3) (.t 5)⟩]) (
 .seq (
 .seq (
 .reg none [
 oN 4 (.mov (cI 0))]) (
 .block 0 (
 .loop Zy9))) Zx0))
def a77:AFunc:=⟨19,c77,[.cell 2 true 3]⟩
def c78:ACode:=
 .seq (
 .reg none [
 oN 4 (.box 78005 26 (.t 0)),
 oN 5 (.box 78006 76 (.t 1)),
 oN 8 (.alloc 78009 76 (.agg (.gen [(.int .i64 0),(.int .i64 0), .nils])))]) (
 .seq (
 .reg (some [(0,5),(0,7),(1,5),(1,7),(2,5),(2,7),(3,7),(4,7),(5,7),(6,7)]) [
 oN 11 (.faddr 0 (.t 5)),
 oN 12 (.load false 1 (.t 11)),
 mV 13 3,
 oN 14 (.faddr 2 (.t 5)),
 oN 15 (.load false 1 (.t 14)),
 oN 16 (.ncall true 78017 81 [(.t 15)]),
 oN 17 (.build (.gen [(.int .i64 0),(.int .i64 0), .nils]) [(0,1,(.t 12)),(1,1,(.t 13)),(2,1,(.t 16))]),
 oN 9 (.alloc 78010 76 (.agg (.gen [(.int .i64 0),(.int .i64 0), .nils]))),
 ⟨none,none, .store 3 (.t 9) (.t 17)⟩]) (
 .gh [.keep [2,3,4,8,9]] (
 .seq (
 .reg none [
 oN 18 (.faddr 2 (.t 9)),
 oN 19 (.load false 1 (.t 18)),
 mV 20 2,
 mV 21 3,
 oN 22 (.iaddr 1 (.t 19) (.t 20)),
 ⟨none,none, .store 1 (.t 22) (.t 21)⟩]) (
 .seq (
 .seq (
 .reg none [
 oN 23 (.faddr 1 (.t 4)),
 oN 24 (.load false 1 (.t 23)),
 mV 25 2,
 oN 26 (.iaddr 2 (.t 24) (.t 25)),
 oN 27 (.faddr 1 (.t 26)),
 oN 28 (.load false 1 (.t 27)),
 mV 10 28]) (
 .gh [.keep [8,9,10]] (
 .seq (
 .reg none [
 mV 29 10,
 oN 30 (.bin .neq (.t 29) (cI (-1)))]) (
 .cond (.t 30) (
 .reg none [
 mV 31 10,
 oN 32 (.faddr 0 (.t 9)),
 ⟨none,none, .store 1 (.t 32) (.t 31)⟩]) (
 .skip))))) (
 .seq (
 .reg none [
 oN 33 (.load true 3 (.t 9)),
 ⟨none,none, .store 3 (.t 8) (.t 33)⟩]) (
 .ret))))))
def a78:AFunc:=⟨34,c78,[.cell 8 true 3]⟩
def ZuU:ACode:=
 .seq (
 .reg none [
 mV 226 7,
 mV 227 8,
 mV 4 226,
 mV 5 227]) (
 .ret)
def Zyc:ACode:=
 .seq (
 .reg none [
 oN 200 (.bin .lss (.t 199) (.t 198))]) (
 .seq (
 .cond (.t 200) (
 .skip) (
 .exit 2)) (
 .seq (
 .block 3 (
 .seq (
 .reg none [
 oN 201 (.iaddr 2 (.t 197) (.t 199)),
 oN 202 (.load true 2 (.t 201)),
 oN 15 (.alloc 80016 129 (.agg (.gen [(.int .i64 0),(.bool false)]))),
 ⟨none,none, .store 2 (.t 15) (.t 202)⟩]) (
 .reg (some []) [
 mV 203 8,
 oN 204 (.faddr 0 (.t 15)),
 oN 205 (.load false 1 (.t 204)),
 mV 206 12,
 oN 207 (.ncall true 0 82 [(.t 205),(cI 0),(.t 206)]),
 oN 208 (.ncall true 0 68 [(.t 207),(cI 2)]),
 oN 209 (.faddr 1 (.t 15)),
 oN 210 (.load false 1 (.t 209)),
 oN 211 (.not (.t 210)),
 mV 212 211,
 ⟨some 213,(some (212,false)), .faddr 3 (.t 3)⟩,
 ⟨some 214,(some (212,false)), .load false 1 (.t 213)⟩,
 ⟨some 215,(some (212,false)), .mov (.t 214)⟩,
 ⟨some 216,(some (215,true)), .faddr 0 (.t 15)⟩,
 ⟨some 217,(some (215,true)), .load false 1 (.t 216)⟩,
 ⟨some 218,(some (215,true)), .mov (.t 12)⟩,
 ⟨some 219,(some (215,true)), .bin .eql (.t 217) (.t 218)⟩,
 ⟨some 220,(some (212,false)), .pick (.t 215) (.t 219) (.c (.bool false))⟩,
 oN 221 (.pick (.t 212) (.c (.bool true)) (.t 220)),
 oN 222 (.ncall true 0 68 [(.t 221),(cI 3)]),
 oN 223 (.bslice 80224 38 1 [(.t 203),(.t 208),(.t 222)]),
 oN 224 (.ncall true 0 67 [(.t 223)]),
 mV 8 224]))) (
 .reg none [
 oN 225 (.bin .add (.t 199) (cI 1)),
 mV 199 225])))
def ZvW:ACode:=.gh [.keep [3,7,8,12,197,198,199]] (.gh [] Zyc)
def Zxr:ACode:=
 .seq (
 .reg (some []) [
 mV 133 7,
 oN 134 (.nilck (.t 133)),
 oN 135 (.faddr 14 (.t 134)),
 oN 136 (.load false 1 (.t 135)),
 oN 137 (.faddr 0 (.t 3)),
 oN 138 (.load false 1 (.t 137)),
 oN 139 (.nilck (.t 136)),
 oN 140 (.faddr 3 (.t 139)),
 oN 141 (.faddr 1 (.t 140)),
 ⟨none,none, .store 1 (.t 141) (.t 138)⟩]) (
 .gh [.keep [2,3,7]] (
 .seq (
 .reg none [
 oN 142 (.faddr 2 (.t 3)),
 oN 143 (.load false 1 (.t 142)),
 oN 144 (.len (.t 143)),
 mV 12 144]) (
 .seq (
 .reg none [
 oN 145 (.faddr 6 (.t 3)),
 oN 146 (.load false 1 (.t 145)),
 oN 147 (.mkfn 126 [(.t 2)]),
 oN 148 (.ncall true 0 90 [(.t 146),(.t 147)]),
 mV 13 148]) (
 .seq (
 .reg (some []) [
 oN 149 (.faddr 1 (.t 3)),
 oN 150 (.load false 1 (.t 149)),
 mV 151 7,
 oN 152 (.nilck (.t 151)),
 oN 153 (.faddr 14 (.t 152)),
 oN 154 (.load false 1 (.t 153)),
 oN 155 (.nilck (.t 154)),
 oN 156 (.faddr 3 (.t 155)),
 oN 157 (.faddr 0 (.t 156)),
 oN 158 (.load false 1 (.t 157)),
 oN 159 (.bin .eql (.t 150) (.t 158)),
 oN 160 (.ncall true 0 68 [(.t 159),(cI 3)]),
 oN 161 (.faddr 3 (.t 3)),
 oN 162 (.load false 1 (.t 161)),
 oN 163 (.not (.t 162)),
 mV 164 163,
 ⟨some 165,(some (164,false)), .mov (.t 12)⟩,
 ⟨some 166,(some (164,false)), .faddr 3 (.t 2)⟩,
 ⟨some 167,(some (164,false)), .load false 1 (.t 166)⟩,
 ⟨some 168,(some (164,false)), .len (.t 167)⟩,
 ⟨some 169,(some (164,false)), .bin .lss (.t 165) (.t 168)⟩,
 oN 170 (.pick (.t 164) (.c (.bool true)) (.t 169)),
 oN 171 (.ncall true 0 68 [(.t 170),(cI 21)]),
 oN 172 (.faddr 4 (.t 3)),
 oN 173 (.load false 1 (.t 172)),
 mV 174 12,
 oN 175 (.ncall true 0 82 [(.t 173),(cI 0),(.t 174)]),
 oN 176 (.ncall true 0 68 [(.t 175),(cI 2)]),
 oN 177 (.faddr 5 (.t 3)),
 oN 178 (.load false 1 (.t 177)),
 oN 179 (.not (.t 178)),
 mV 180 179,
 ⟨some 181,(some (180,false)), .faddr 3 (.t 3)⟩,
 ⟨some 182,(some (180,false)), .load false 1 (.t 181)⟩,
 ⟨some 183,(some (180,false)), .mov (.t 182)⟩,
 ⟨some 184,(some (183,true)), .faddr 4 (.t 3)⟩,
 ⟨some 185,(some (183,true)), .load false 1 (.t 184)⟩,
 ⟨some 186,(some (183,true)), .mov (.t 12)⟩,
 ⟨some 187,(some (183,true)), .bin .eql (.t 185) (.t 186)⟩,
 ⟨some 188,(some (180,false)), .pick (.t 183) (.t 187) (.c (.bool false))⟩,
 oN 189 (.pick (.t 180) (.c (.bool true)) (.t 188)),
 oN 190 (.ncall true 0 68 [(.t 189),(cI 3)]),
 mV 191 13,
 oN 192 (.not (.t 191)),
 oN 193 (.ncall true 0 68 [(.t 192),(cI 6)]),
 oN 194 (.bslice 80195 38 1 [(.t 160),(.t 171),(.t 176),(.t 190),(.t 193)]),
 oN 195 (.ncall true 0 67 [(.t 194)]),
 mV 8 195]) (
 .gh [.keep [3,7,8,12]] (
 .seq (
 .seq (
 .reg none [
 oN 196 (.faddr 7 (.t 3)),
 oN 197 (.load false 1 (.t 196)),
 oN 198 (.len (.t 197)),
 oN 199 (.mov (cI 0))]) (
 .block 2 (
 .loop ZvW))) ZuU))))))
def ZyS:ACode:=
 .seq (
 .reg none [
 oN 69 (.bin .lss (.t 68) (.t 67))]) (
 .seq (
 .cond (.t 69) (
 .skip) (
 .exit 0)) (
 .seq (
 .block 1 (
 .seq (
 .reg none [
 mV 70 68,
 oN 71 (.iaddr 2 (.t 66) (.t 68)),
 oN 72 (.load true 2 (.t 71)),
 oN 10 (.alloc 80011 78 (.agg (.gen [(.int .i64 0),(.int .i64 0)]))),
 mV 9 70,
 ⟨none,none, .store 2 (.t 10) (.t 72)⟩]) (
 .seq (
 .reg (some []) [
 oN 73 (.faddr 0 (.t 10)),
 oN 74 (.load false 1 (.t 73)),
 mV 75 9,
 oN 76 (.bin .eql (.t 74) (.t 75)),
 mV 77 76,
 ⟨some 78,(some (77,true)), .faddr 1 (.t 10)⟩,
 ⟨some 79,(some (77,true)), .load false 1 (.t 78)⟩,
 ⟨some 80,(some (77,true)), .faddr 0 (.t 3)⟩,
 ⟨some 81,(some (77,true)), .load false 1 (.t 80)⟩,
 ⟨some 82,(some (77,true)), .bin .leq (.t 79) (.t 81)⟩,
 oN 83 (.pick (.t 77) (.t 82) (.c (.bool false))),
 mV 84 83,
 ⟨some 85,(some (84,true)), .mov (.t 9)⟩,
 ⟨some 86,(some (84,true)), .bin .eql (.t 85) (cI 0)⟩,
 ⟨some 87,(some (84,true)), .mov (.t 86)⟩,
 ⟨some 88,(some (87,false)), .faddr 1 (.t 10)⟩,
 ⟨some 89,(some (87,false)), .load false 1 (.t 88)⟩,
 ⟨some 90,(some (87,false)), .faddr 2 (.t 3)⟩,
 ⟨some 91,(some (87,false)), .load false 1 (.t 90)⟩,
 ⟨some 92,(some (87,false)), .mov (.t 9)⟩,
 ⟨some 93,(some (87,false)), .bin .sub (.t 92) (cI 1)⟩,
 ⟨some 94,(some (87,false)), .iaddr 2 (.t 91) (.t 93)⟩,
 ⟨some 95,(some (87,false)), .faddr 1 (.t 94)⟩,
 ⟨some 96,(some (87,false)), .load false 1 (.t 95)⟩,
 ⟨some 97,(some (87,false)), .bin .geq (.t 89) (.t 96)⟩,
 ⟨some 98,(some (84,true)), .pick (.t 87) (.c (.bool true)) (.t 97)⟩,
 oN 99 (.pick (.t 84) (.t 98) (.c (.bool false))),
 mV 11 99]) (
 .gh [.keep [2,3,7,9,10,11,66,67,68]] (
 .seq (
 .seq (
 .reg none [
 mV 100 11,
 oN 101 (.not (.t 100))]) (
 .cond (.t 101) (
 .seq (
 .reg none [
 oN 4 (.mov (.c (.val (.pointer none)))),
 oN 5 (.mov (cI 9))]) (
 .ret)) (
 .skip))) (
 .seq (
 .seq (
 .reg (some []) [
 mV 102 7,
 oN 103 (.nilck (.t 102)),
 oN 104 (.faddr 14 (.t 103)),
 oN 105 (.load false 1 (.t 104)),
 oN 106 (.faddr 1 (.t 10)),
 oN 107 (.load false 1 (.t 106)),
 oN 108 (.nilck (.t 105)),
 oN 109 (.faddr 3 (.t 108)),
 oN 110 (.faddr 1 (.t 109)),
 ⟨none,none, .store 1 (.t 110) (.t 107)⟩]) (
 .gh [.keep [2,3,7,9,66,67,68]] (
 .seq (
 .reg (some []) [
 mV 111 7,
 oN 112 (.nilck (.t 111)),
 oN 113 (.faddr 14 (.t 112)),
 oN 114 (.load false 1 (.t 113)),
 oN 115 (.faddr 3 (.t 2)),
 oN 116 (.load false 1 (.t 115)),
 mV 117 9,
 oN 118 (.iaddr 3 (.t 116) (.t 117)),
 oN 119 (.load true 3 (.t 118)),
 oN 120 (.ncall true 0 123 [(.t 114),(.t 119)]),
 oN 121 (.not (.t 120))]) (
 .gh [.keep [2,3,7,9,66,67,68,121]] (
 .cond (.t 121) (
 .seq (
 .reg none [
 oN 4 (.mov (.c (.val (.pointer none)))),
 oN 5 (.mov (cI 26))]) (
 .ret)) (
 .skip)))))) (
 .reg (some []) [
 mV 122 7,
 oN 123 (.nilck (.t 122)),
 oN 124 (.faddr 14 (.t 123)),
 oN 125 (.load false 1 (.t 124)),
 oN 126 (.faddr 3 (.t 2)),
 oN 127 (.load false 1 (.t 126)),
 mV 128 9,
 oN 129 (.iaddr 3 (.t 127) (.t 128)),
 oN 130 (.load true 3 (.t 129)),
 oN 131 (.icall 74 [(.t 125),(.t 130)])]))))))) (
 .reg none [
 oN 132 (.bin .add (.t 68) (cI 1)),
 mV 68 132])))
def Zy4:ACode:=.gh [.keep [2,3,7,66,67,68]] (.gh [] ZyS)
def ZDC:List AItem:=.inLoop ZvW::[.inBlock 2,
 .code ZuU]
def ZDF:List AItem:=.inLoop Zy4::[.inBlock 0,
 .code Zxr]
def c80:ACode:=
 .seq (
 .reg none [
 oN 2 (.box 80003 29 (.t 0)),
 oN 3 (.box 80004 37 (.t 1)),
 oN 4 (.mov (.c (.val (.pointer none)))),
 oN 5 (.mov (cI 0))]) (
 .seq (
 .seq (
 .reg none [
 oN 16 (.load true 6 (.t 2)),
 oN 17 (.ncall true 0 36 [(.t 16)]),
 mV 6 17]) (
 .seq (
 .reg none [
 mV 18 6,
 oN 19 (.bin .neq (.t 18) (cI 0))]) (
 .cond (.t 19) (
 .seq (
 .reg none [
 mV 20 6,
 oN 4 (.mov (.c (.val (.pointer none)))),
 mV 5 20]) (
 .ret)) (
 .skip)))) (
 .seq (
 .reg none [
 oN 21 (.load true 6 (.t 2)),
 oN 22 (.icall 69 [(.t 21)]),
 mV 7 22]) (
 .seq (
 .reg none [
 mV 23 7,
 oN 24 (.load true 8 (.t 3)),
 oN 25 (.nilck (.t 23)),
 oN 26 (.faddr 6 (.t 25)),
 ⟨none,none, .store 8 (.t 26) (.t 24)⟩]) (
 .seq (
 .reg none [
 mV 27 7,
 mV 28 7,
 oN 29 (.icall 125 [(.t 28)]),
 oN 30 (.nilck (.t 27)),
 oN 31 (.faddr 6 (.t 30)),
 ⟨none,none, .store 8 (.t 31) (.t 29)⟩]) (
 .seq (
 .reg (some []) [
 oN 32 (.faddr 0 (.t 3)),
 oN 33 (.load false 1 (.t 32)),
 oN 34 (.ncall true 0 89 [(.t 33)]),
 oN 35 (.ncall true 0 68 [(.t 34),(cI 2)]),
 oN 36 (.faddr 2 (.t 3)),
 oN 37 (.load false 1 (.t 36)),
 oN 38 (.len (.t 37)),
 oN 39 (.faddr 3 (.t 2)),
 oN 40 (.load false 1 (.t 39)),
 oN 41 (.len (.t 40)),
 oN 42 (.bin .leq (.t 38) (.t 41)),
 mV 43 42,
 ⟨some 44,(some (43,true)), .faddr 6 (.t 3)⟩,
 ⟨some 45,(some (43,true)), .load false 1 (.t 44)⟩,
 ⟨some 46,(some (43,true)), .len (.t 45)⟩,
 ⟨some 47,(some (43,true)), .faddr 5 (.t 2)⟩,
 ⟨some 48,(some (43,true)), .load false 1 (.t 47)⟩,
 ⟨some 49,(some (43,true)), .bin .leq (.t 46) (.t 48)⟩,
 oN 50 (.pick (.t 43) (.t 49) (.c (.bool false))),
 mV 51 50,
 ⟨some 52,(some (51,true)), .faddr 7 (.t 3)⟩,
 ⟨some 53,(some (51,true)), .load false 1 (.t 52)⟩,
 ⟨some 54,(some (51,true)), .len (.t 53)⟩,
 ⟨some 55,(some (51,true)), .faddr 5 (.t 2)⟩,
 ⟨some 56,(some (51,true)), .load false 1 (.t 55)⟩,
 ⟨some 57,(some (51,true)), .bin .leq (.t 54) (.t 56)⟩,
 oN 58 (.pick (.t 51) (.t 57) (.c (.bool false))),
 oN 59 (.ncall true 0 68 [(.t 58),(cI 8)]),
 oN 60 (.bslice 80061 38 1 [(.t 35),(.t 59)]),
 oN 61 (.ncall true 0 67 [(.t 60)]),
 mV 8 61]) (
 .gh [.keep [2,3,7,8]] (
 .seq (
 .seq (
 .reg none [
 mV 62 8,
 oN 63 (.bin .neq (.t 62) (cI 0))]) (
 .cond (.t 63) (
 .seq (
 .reg none [
 mV 64 8,
 oN 4 (.mov (.c (.val (.pointer none)))),
 mV 5 64]) (
 .ret)) (
 .skip))) (
 .seq (
 .seq (
 .reg none [
 oN 65 (.faddr 2 (.t 3)),
 oN 66 (.load false 1 (.t 65)),
 oN 67 (.len (.t 66)),
 oN 68 (.mov (cI 0))]) (
 .block 0 (
 .loop Zy4))) Zxr))))))))
def a80:AFunc:=⟨228,c80,[.tmp 4, .tmp 5]⟩
def c81:ACode:=
 .seq (
 .reg none [
 oN 2 (.mov (.c .nils))]) (
 .seq (
 .reg none [
 oN 3 (.bslice 81004 3 1 []),
 mV 4 0,
 oN 5 (.append 81006 3 1 (.t 3) (.t 4)),
 mV 2 5]) (
 .ret))
def a81:AFunc:=⟨6,c81,[.tmp 2]⟩
def c82:ACode:=
 .seq (
 .reg none [
 oN 6 (.mov (.c (.bool false)))]) (
 .seq (
 .reg none [
 mV 7 1,
 mV 8 0,
 oN 9 (.bin .leq (.t 7) (.t 8)),
 mV 10 9,
 ⟨some 11,(some (10,true)), .mov (.t 0)⟩,
 ⟨some 12,(some (10,true)), .mov (.t 2)⟩,
 ⟨some 13,(some (10,true)), .bin .leq (.t 11) (.t 12)⟩,
 oN 14 (.pick (.t 10) (.t 13) (.c (.bool false))),
 mV 6 14]) (
 .gh [.keep [6]] (
 .ret)))
def a82:AFunc:=⟨15,c82,[.tmp 6]⟩
def c83:ACode:=
 .seq (
 .reg none [
 oN 0 (.alloc 83001 150 (.agg (.gen [(.str []),(.int .i64 0),(.int .i64 0),(.val .nilFunc),(.str []),(.int .i64 0),(.int .i64 0),(.val .nilFunc),(.str []),(.int .i64 0),(.int .i64 0),(.val .nilFunc),(.str []),(.int .i64 0),(.int .i64 0),(.val .nilFunc),(.str []),(.int .i64 0),(.int .i64 0),(.val .nilFunc),(.str []),(.int .i64 0),(.int .i64 0),(.val .nilFunc),(.str []),(.int .i64 0),(.int .i64 0),(.val .nilFunc),(.str []),(.int .i64 0),(.int .i64 0),(.val .nilFunc),(.str []),(.int .i64 0),(.int .i64 0),(.val .nilFunc)])))]) (
 .seq (
 .reg none [
 oN 1 (.build (.gen [(.str []),(.int .i64 0),(.int .i64 0),(.val .nilFunc)]) [(0,1,(.c (.str [112,97,115,115]))),(1,1,(cI 1)),(2,1,(cI 1000000000000)),(3,1,(.c (.fn 127 [])))]),
 oN 2 (.build (.gen [(.str []),(.int .i64 0),(.int .i64 0),(.val .nilFunc)]) [(0,1,(.c (.str [115,101,110,100]))),(1,1,(cI 0)),(2,1,(cI 11)),(3,1,(.c (.fn 128 [])))]),
 oN 3 (.build (.gen [(.str []),(.int .i64 0),(.int .i64 0),(.val .nilFunc)]) [(0,1,(.c (.str [97,114,114,105,118,101]))),(1,1,(cI 0)),(2,1,(cI 5)),(3,1,(.c (.fn 129 [])))]),
 oN 4 (.build (.gen [(.str []),(.int .i64 0),(.int .i64 0),(.val .nilFunc)]) [(0,1,(.c (.str [104,101,97,114]))),(1,1,(cI 0)),(2,1,(cI 5)),(3,1,(.c (.fn 130 [])))]),
 oN 5 (.build (.gen [(.str []),(.int .i64 0),(.int .i64 0),(.val .nilFunc)]) [(0,1,(.c (.str [108,111,115,101]))),(1,1,(cI 0)),(2,1,(cI 5)),(3,1,(.c (.fn 131 [])))]),
 oN 6 (.build (.gen [(.str []),(.int .i64 0),(.int .i64 0),(.val .nilFunc)]) [(0,1,(.c (.str [100,114,111,112]))),(1,1,(cI 0)),(2,1,(cI 5)),(3,1,(.c (.fn 132 [])))]),
 oN 7 (.build (.gen [(.str []),(.int .i64 0),(.int .i64 0),(.val .nilFunc)]) [(0,1,(.c (.str [114,101,112,101,97,116]))),(1,1,(cI 0)),(2,1,(cI 5)),(3,1,(.c (.fn 133 [])))]),
 oN 8 (.build (.gen [(.str []),(.int .i64 0),(.int .i64 0),(.val .nilFunc)]) [(0,1,(.c (.str [114,101,115,116,97,114,116]))),(1,1,(cI 0)),(2,1,(cI 0)),(3,1,(.c (.fn 134 [])))]),
 oN 9 (.build (.gen [(.str []),(.int .i64 0),(.int .i64 0),(.val .nilFunc)]) [(0,1,(.c (.str [114,101,98,111,111,116]))),(1,1,(cI 0)),(2,1,(cI 0)),(3,1,(.c (.fn 135 [])))]),
 oN 10 (.build (.gen [(.str []),(.int .i64 0),(.int .i64 0),(.val .nilFunc),(.str []),(.int .i64 0),(.int .i64 0),(.val .nilFunc),(.str []),(.int .i64 0),(.int .i64 0),(.val .nilFunc),(.str []),(.int .i64 0),(.int .i64 0),(.val .nilFunc),(.str []),(.int .i64 0),(.int .i64 0),(.val .nilFunc),(.str []),(.int .i64 0),(.int .i64 0),(.val .nilFunc),(.str []),(.int .i64 0),(.int .i64 0),(.val .nilFunc),(.str []),(.int .i64 0),(.int .i64 0),(.val .nilFunc),(.str []),(.int .i64 0),(.int .i64 0),(.val .nilFunc)]) [(0,4,(.t 1)),(4,4,(.t 2)),(8,4,(.t 3)),(12,4,(.t 4)),(16,4,(.t 5)),(20,4,(.t 6)),(24,4,(.t 7)),(28,4,(.t 8)),(32,4,(.t 9))]),
 ⟨none,none, .store 36 (.t 0) (.t 10)⟩]) (
 .gh [.keep [0]] (
 .ret)))
def a83:AFunc:=⟨11,c83,[.cell 0 true 36]⟩
def c84:ACode:=
 .seq (
 .reg none [
 oN 2 (.mov (.c (.bool false)))]) (
 .seq (
 .reg none [
 mV 3 0,
 oN 4 (.bin .eql (.t 3) (cI 0)),
 mV 5 4,
 ⟨some 6,(some (5,false)), .mov (.t 0)⟩,
 ⟨some 7,(some (5,false)), .bin .eql (.t 6) (cI 1)⟩,
 oN 8 (.pick (.t 5) (.c (.bool true)) (.t 7)),
 mV 9 8,
 ⟨some 10,(some (9,false)), .mov (.t 0)⟩,
 ⟨some 11,(some (9,false)), .ncall true 0 97 [(.t 10)]⟩,
 oN 12 (.pick (.t 9) (.c (.bool true)) (.t 11)),
 mV 2 12]) (
 .gh [.keep [2]] (
 .ret)))
def a84:AFunc:=⟨13,c84,[.tmp 2]⟩
def ZBM:ACode:=
 .seq (
 .reg none [
 oN 31 (.load true 3 (.t 5)),
 ⟨none,none, .store 3 (.t 4) (.t 31)⟩]) (
 .ret)
def Zyx:ACode:=
 .seq (
 .seq (
 .reg none [
 mV 10 6,
 mV 11 1,
 oN 12 (.len (.t 11)),
 oN 13 (.bin .lss (.t 10) (.t 12))]) (
 .cond (.t 13) (
 .skip) (
 .exit 0))) (
 .seq (
 .block 1 (
 .reg (some []) [
 oN 16 (.faddr 0 (.t 2)),
 oN 17 (.load true 3 (.t 16)),
 oN 18 (.load true 3 (.t 5)),
 oN 19 (.faddr 3 (.t 2)),
 oN 20 (.load false 1 (.t 19)),
 mV 21 6,
 oN 22 (.iaddr 3 (.t 20) (.t 21)),
 oN 23 (.faddr 0 (.t 22)),
 oN 24 (.load false 1 (.t 23)),
 mV 25 1,
 mV 26 6,
 oN 27 (.iaddr 2 (.t 25) (.t 26)),
 oN 28 (.faddr 1 (.t 27)),
 oN 29 (.load false 1 (.t 28)),
 oN 30 (.ncall true 85031 78 [(.t 17),(.t 18),(.t 24),(.t 29)]),
 ⟨none,none, .store 3 (.t 5) (.t 30)⟩])) (
 .reg none [
 mV 14 6,
 oN 15 (.bin .add (.t 14) (cI 1)),
 mV 6 15]))
def Zxh:ACode:=.gh [.keep [1,2,4,5,6]] (.gh [] Zyx)
def ZEE:List AItem:=.inLoop Zxh::[.inBlock 0,
 .code ZBM]
def c85:ACode:=
 .seq (
 .reg none [
 oN 2 (.box 85003 29 (.t 0)),
 oN 4 (.alloc 85005 76 (.agg (.gen [(.int .i64 0),(.int .i64 0), .nils])))]) (
 .seq (
 .reg none [
 oN 7 (.faddr 0 (.t 2)),
 oN 8 (.load true 3 (.t 7)),
 oN 9 (.ncall true 85010 77 [(.t 8)]),
 oN 5 (.alloc 85006 76 (.agg (.gen [(.int .i64 0),(.int .i64 0), .nils]))),
 ⟨none,none, .store 3 (.t 5) (.t 9)⟩]) (
 .seq (
 .seq (
 .reg none [
 oN 6 (.mov (cI 0))]) (
 .block 0 (
 .loop Zxh))) ZBM))
def a85:AFunc:=⟨32,c85,[.cell 4 true 3]⟩
def Zz4:ACode:=
 .seq (
 .reg none [
 oN 6 (.mov (.c (.str [])))]) (
 .ret)
def ZyK:ACode:=
 .seq (
 .seq (
 .reg none [
 mV 9 7,
 oN 10 (.faddr 2 (.t 3)),
 oN 11 (.load false 1 (.t 10)),
 oN 12 (.len (.t 11)),
 oN 13 (.bin .lss (.t 9) (.t 12))]) (
 .cond (.t 13) (
 .skip) (
 .exit 0))) (
 .seq (
 .block 1 (
 .seq (
 .reg none [
 oN 16 (.faddr 2 (.t 3)),
 oN 17 (.load false 1 (.t 16)),
 mV 18 7,
 oN 19 (.iaddr 5 (.t 17) (.t 18)),
 oN 20 (.load true 5 (.t 19)),
 oN 8 (.alloc 86009 131 (.agg (.gen [(.str []),(.int .i64 0),(.int .i64 0),(.int .i64 0),(.int .i64 0)]))),
 ⟨none,none, .store 5 (.t 8) (.t 20)⟩]) (
 .seq (
 .seq (
 .reg none [
 oN 21 (.faddr 1 (.t 8)),
 oN 22 (.load false 1 (.t 21)),
 mV 23 2,
 oN 24 (.bin .neq (.t 22) (.t 23)),
 mV 25 24,
 ⟨some 26,(some (25,false)), .faddr 2 (.t 8)⟩,
 ⟨some 27,(some (25,false)), .load false 1 (.t 26)⟩,
 ⟨some 28,(some (25,false)), .bin .neq (.t 27) (cI (-1))⟩,
 ⟨some 29,(some (25,false)), .mov (.t 28)⟩,
 ⟨some 30,(some (29,true)), .faddr 2 (.t 8)⟩,
 ⟨some 31,(some (29,true)), .load false 1 (.t 30)⟩,
 ⟨some 32,(some (29,true)), .faddr 0 (.t 4)⟩,
 ⟨some 33,(some (29,true)), .load false 1 (.t 32)⟩,
 ⟨some 34,(some (29,true)), .bin .neq (.t 31) (.t 33)⟩,
 ⟨some 35,(some (25,false)), .pick (.t 29) (.t 34) (.c (.bool false))⟩,
 oN 36 (.pick (.t 25) (.c (.bool true)) (.t 35))]) (
 .gh [.keep [2,3,4,7,8,36]] (
 .cond (.t 36) (
 .exit 1) (
 .skip)))) (
 .seq (
 .reg (some []) [
 oN 37 (.faddr 3 (.t 8)),
 oN 38 (.load false 1 (.t 37)),
 oN 39 (.bin .eql (.t 38) (cI (-1))),
 mV 40 39,
 ⟨some 41,(some (40,false)), .faddr 2 (.t 4)⟩,
 ⟨some 42,(some (40,false)), .load false 1 (.t 41)⟩,
 ⟨some 43,(some (40,false)), .faddr 3 (.t 8)⟩,
 ⟨some 44,(some (40,false)), .load false 1 (.t 43)⟩,
 ⟨some 45,(some (40,false)), .iaddr 1 (.t 42) (.t 44)⟩,
 ⟨some 46,(some (40,false)), .load false 1 (.t 45)⟩,
 ⟨some 47,(some (40,false)), .bin .neq (.t 46) (cI (-1))⟩,
 ⟨some 48,(some (40,false)), .mov (.t 47)⟩,
 ⟨some 49,(some (48,true)), .faddr 1 (.t 4)⟩,
 ⟨some 50,(some (48,true)), .load false 1 (.t 49)⟩,
 ⟨some 51,(some (48,true)), .faddr 2 (.t 4)⟩,
 ⟨some 52,(some (48,true)), .load false 1 (.t 51)⟩,
 ⟨some 53,(some (48,true)), .faddr 3 (.t 8)⟩,
 ⟨some 54,(some (48,true)), .load false 1 (.t 53)⟩,
 ⟨some 55,(some (48,true)), .iaddr 1 (.t 52) (.t 54)⟩,
 ⟨some 56,(some (48,true)), .load false 1 (.t 55)⟩,
 ⟨some 57,(some (48,true)), .bin .sub (.t 50) (.t 56)⟩,
 ⟨some 58,(some (48,true)), .faddr 4 (.t 8)⟩,
 ⟨some 59,(some (48,true)), .load false 1 (.t 58)⟩,
 ⟨some 60,(some (48,true)), .bin .lss (.t 57) (.t 59)⟩,
 ⟨some 61,(some (40,false)), .pick (.t 48) (.t 60) (.c (.bool false))⟩,
 oN 62 (.pick (.t 40) (.c (.bool true)) (.t 61))]) (
 .gh [.keep [2,3,4,7,8,62]] (
 .cond (.t 62) (
 .seq (
 .reg none [
 oN 63 (.faddr 0 (.t 8)),
 oN 64 (.load false 1 (.t 63)),
 mV 6 64]) (
 .ret)) (
 .skip))))))) (
 .reg none [
 mV 14 7,
 oN 15 (.bin .add (.t 14) (cI 1)),
 mV 7 15]))
def ZAE:ACode:=.gh [.keep [2,3,4,7]] (.gh [] ZyK)
def ZEt:List AItem:=.inLoop ZAE::[.inBlock 0,
 .code Zz4]
def c86:ACode:=
 .seq (
 .reg none [
 oN 3 (.box 86004 26 (.t 0)),
 oN 4 (.box 86005 76 (.t 1)),
 oN 6 (.mov (.c (.str [])))]) (
 .seq (
 .seq (
 .reg none [
 oN 7 (.mov (cI 0))]) (
 .block 0 (
 .loop ZAE))) Zz4)
def a86:AFunc:=⟨65,c86,[.tmp 6]⟩
def c87:ACode:=
 .seq (
 .reg none [
 oN 3 (.mov (.c (.bool false)))]) (
 .seq (
 .reg none [
 mV 4 0,
 oN 5 (.bin .neq (.t 4) (cI (-1))),
 mV 6 5,
 ⟨some 7,(some (6,true)), .mov (.t 0)⟩,
 ⟨some 8,(some (6,true)), .faddr 1 (.t 1)⟩,
 ⟨some 9,(some (6,true)), .load false 1 (.t 8)⟩,
 ⟨some 10,(some (6,true)), .ncall true 0 82 [(.t 7),(cI 0),(.t 9)]⟩,
 ⟨some 11,(some (6,true)), .not (.t 10)⟩,
 oN 12 (.pick (.t 6) (.t 11) (.c (.bool false))),
 mV 3 12]) (
 .gh [.keep [3]] (
 .ret)))
def a87:AFunc:=⟨13,c87,[.tmp 3]⟩
def c88:ACode:=
 .seq (
 .reg none [
 oN 1 (.box 88002 26 (.t 0)),
 oN 2 (.mov (cI 0))]) (
 .seq (
 .reg none [
 oN 6 (.load true 3 (.t 1)),
 oN 7 (.ncall true 0 136 [(.t 6)]),
 mV 5 7,
 oN 8 (.ext 0 (.t 5)),
 oN 9 (.ext 1 (.t 5)),
 oN 3 (.alloc 88004 195 (.agg (.gen [(.int .i64 0),(.int .i64 0)]))),
 ⟨none,none, .store 2 (.t 3) (.t 8)⟩,
 mV 4 9]) (
 .gh [.keep [4]] (
 .seq (
 .reg none [
 mV 10 4,
 mV 2 10]) (
 .ret))))
def a88:AFunc:=⟨11,c88,[.tmp 2]⟩
def c89:ACode:=
 .seq (
 .reg none [
 oN 2 (.mov (.c (.bool false)))]) (
 .seq (
 .reg none [
 mV 3 0,
 oN 4 (.ncall true 0 82 [(.t 3),(cI 0),(cI 1000000000000)]),
 mV 2 4]) (
 .ret))
def a89:AFunc:=⟨5,c89,[.tmp 2]⟩
def c90:ACode:=
 .seq (
 .reg none [
 oN 4 (.mov (.c (.bool false)))]) (
 .seq (
 .reg none [
 mV 5 0,
 mV 6 1,
 oN 7 (.ncall true 0 137 [(.t 5),(.t 6)]),
 oN 8 (.bin .geq (.t 7) (cI 0)),
 mV 4 8]) (
 .ret))
def a90:AFunc:=⟨9,c90,[.tmp 4]⟩
def ZzT:ACode:=
 .seq (
 .reg none [
 oN 4 (.mov (.c (.val (.pointer none))))]) (
 .ret)
def ZAO:ACode:=
 .seq (
 .reg none [
 oN 14 (.bin .lss (.t 13) (.t 12))]) (
 .seq (
 .cond (.t 14) (
 .skip) (
 .exit 0)) (
 .seq (
 .block 1 (
 .seq (
 .reg none [
 mV 15 13,
 oN 16 (.iaddr 5 (.t 11) (.t 13)),
 oN 17 (.load true 5 (.t 16)),
 oN 6 (.alloc 91007 131 (.agg (.gen [(.str []),(.int .i64 0),(.int .i64 0),(.int .i64 0),(.int .i64 0)]))),
 mV 5 15,
 ⟨none,none, .store 5 (.t 6) (.t 17)⟩]) (
 .seq (
 .seq (
 .reg none [
 mV 18 0,
 oN 19 (.load true 5 (.t 6)),
 mV 20 1,
 oN 21 (.icall 122 [(.t 18),(.t 19),(.t 20)]),
 oN 22 (.not (.t 21))]) (
 .cond (.t 22) (
 .exit 1) (
 .skip))) (
 .seq (
 .reg (some []) [
 oN 23 (.faddr 3 (.t 6)),
 oN 24 (.load false 1 (.t 23)),
 oN 25 (.bin .eql (.t 24) (cI (-1))),
 mV 26 25,
 ⟨some 27,(some (26,false)), .mov (.t 0)⟩,
 ⟨some 28,(some (26,false)), .nilck (.t 27)⟩,
 ⟨some 29,(some (26,false)), .faddr 3 (.t 28)⟩,
 ⟨some 30,(some (26,false)), .faddr 2 (.t 29)⟩,
 ⟨some 31,(some (26,false)), .load false 1 (.t 30)⟩,
 ⟨some 32,(some (26,false)), .faddr 3 (.t 6)⟩,
 ⟨some 33,(some (26,false)), .load false 1 (.t 32)⟩,
 ⟨some 34,(some (26,false)), .iaddr 1 (.t 31) (.t 33)⟩,
 ⟨some 35,(some (26,false)), .load false 1 (.t 34)⟩,
 ⟨some 36,(some (26,false)), .bin .neq (.t 35) (cI (-1))⟩,
 ⟨some 37,(some (26,false)), .mov (.t 36)⟩,
 ⟨some 38,(some (37,true)), .mov (.t 0)⟩,
 ⟨some 39,(some (37,true)), .nilck (.t 38)⟩,
 ⟨some 40,(some (37,true)), .faddr 3 (.t 39)⟩,
 ⟨some 41,(some (37,true)), .faddr 1 (.t 40)⟩,
 ⟨some 42,(some (37,true)), .load false 1 (.t 41)⟩,
 ⟨some 43,(some (37,true)), .mov (.t 0)⟩,
 ⟨some 44,(some (37,true)), .nilck (.t 43)⟩,
 ⟨some 45,(some (37,true)), .faddr 3 (.t 44)⟩,
 ⟨some 46,(some (37,true)), .faddr 2 (.t 45)⟩,
 ⟨some 47,(some (37,true)), .load false 1 (.t 46)⟩,
 ⟨some 48,(some (37,true)), .faddr 3 (.t 6)⟩,
 ⟨some 49,(some (37,true)), .load false 1 (.t 48)⟩,
 ⟨some 50,(some (37,true)), .iaddr 1 (.t 47) (.t 49)⟩,
 ⟨some 51,(some (37,true)), .load false 1 (.t 50)⟩,
 ⟨some 52,(some (37,true)), .bin .sub (.t 42) (.t 51)⟩,
 ⟨some 53,(some (37,true)), .faddr 4 (.t 6)⟩,
 ⟨some 54,(some (37,true)), .load false 1 (.t 53)⟩,
 ⟨some 55,(some (37,true)), .bin .lss (.t 52) (.t 54)⟩,
 ⟨some 56,(some (26,false)), .pick (.t 37) (.t 55) (.c (.bool false))⟩,
 oN 57 (.pick (.t 26) (.c (.bool true)) (.t 56))]) (
 .gh [.keep [0,1,5,11,12,13,57]] (
 .cond (.t 57) (
 .seq (
 .reg none [
 mV 58 0,
 oN 59 (.nilck (.t 58)),
 oN 60 (.faddr 0 (.t 59)),
 oN 61 (.faddr 2 (.t 60)),
 oN 62 (.load false 1 (.t 61)),
 mV 63 5,
 oN 64 (.iaddr 5 (.t 62) (.t 63)),
 mV 4 64]) (
 .gh [.keep [4]] (
 .ret))) (
 .skip))))))) (
 .reg none [
 oN 65 (.bin .add (.t 13) (cI 1)),
 mV 13 65])))
def ZAj:ACode:=.gh [.keep [0,1,11,12,13]] (.gh [] ZAO)
def ZCi:List AItem:=.inLoop ZAj::[.inBlock 0,
 .code ZzT]
def c91:ACode:=
 .seq (
 .reg none [
 oN 4 (.mov (.c (.val (.pointer none))))]) (
 .seq (
 .seq (
 .reg none [
 mV 7 0,
 oN 8 (.nilck (.t 7)),
 oN 9 (.faddr 0 (.t 8)),
 oN 10 (.faddr 2 (.t 9)),
 oN 11 (.load false 1 (.t 10)),
 oN 12 (.len (.t 11)),
 oN 13 (.mov (cI 0))]) (
 .block 0 (
 .loop ZAj))) ZzT)
def a91:AFunc:=⟨66,c91,[.tmp 4]⟩
def c97:ACode:=
 .seq (
 .reg none [
 oN 2 (.mov (.c (.bool false)))]) (
 .seq (
 .reg none [
 mV 3 0,
 oN 4 (.ncall true 0 41 [(.t 3),(cI 2),(cI 6)]),
 mV 2 4]) (
 .ret))
def a97:AFunc:=⟨5,c97,[.tmp 2]⟩
def Zw6:ACode:=
 .seq (
 .reg none [
 mV 18 3,
 oN 19 (.ncall true 0 113 [(.t 18),(.c (.str [32]))]),
 mV 2 19]) (
 .ret)
def Zyp:ACode:=
 .seq (
 .reg none [
 oN 9 (.bin .lss (.t 8) (.t 7))]) (
 .seq (
 .cond (.t 9) (
 .skip) (
 .exit 0)) (
 .seq (
 .block 1 (
 .seq (
 .reg none [
 oN 10 (.iaddr 1 (.t 6) (.t 8)),
 oN 11 (.load false 1 (.t 10)),
 mV 5 11]) (
 .reg none [
 mV 12 3,
 mV 13 5,
 oN 14 (.ncall true 0 138 [(.t 13)]),
 oN 15 (.bslice 105016 9 1 [(.t 14)]),
 oN 16 (.append 105017 9 1 (.t 12) (.t 15)),
 mV 3 16]))) (
 .reg none [
 oN 17 (.bin .add (.t 8) (cI 1)),
 mV 8 17])))
def ZAn:ACode:=.gh [.keep [3,6,7,8]] (.gh [] Zyp)
def ZFW:ACode:=
 .seq (
 .reg none [
 oN 2 (.mov (.c (.str [])))]) (
 .seq (
 .reg none [
 oN 3 (.mov (.c .nils))]) (
 .seq (
 .seq (
 .reg none [
 mV 6 0,
 oN 7 (.len (.t 6)),
 oN 8 (.mov (cI 0))]) (
 .block 0 (
 .loop ZAn))) Zw6))
def ZFz:AFunc:=⟨20,ZFW,[.tmp 2]⟩
def ZyX:ACode:=
 .seq (
 .reg none [
 oN 74 (.ncall true 0 147 [(.t 8)]),
 mV 4 74]) (
 .ret)
def Zxv:ACode:=
 .seq (
 .reg none [
 oN 66 (.bin .lss (.t 65) (.t 64))]) (
 .seq (
 .cond (.t 66) (
 .skip) (
 .exit 3)) (
 .seq (
 .block 4 (
 .seq (
 .reg none [
 oN 67 (.iaddr 1 (.t 63) (.t 65)),
 oN 68 (.load false 1 (.t 67)),
 mV 10 68]) (
 .seq (
 .reg none [
 mV 69 1,
 oN 70 (.ncall true 113071 146 [(.t 8),(.t 69)])]) (
 .reg none [
 mV 71 10,
 oN 72 (.ncall true 113073 146 [(.t 8),(.t 71)])])))) (
 .reg none [
 oN 73 (.bin .add (.t 65) (cI 1)),
 mV 65 73])))
def ZyZ:ACode:=.gh [.keep [1,8,63,64,65]] (.gh [] Zxv)
def ZyE:ACode:=
 .seq (
 .reg none [
 oN 8 (.alloc 113009 219 (.agg (.gen [(.val (.pointer none)), .nils])))]) (
 .seq (
 .reg none [
 mV 56 5,
 oN 57 (.ncall true 0 145 [(.t 8),(.t 56)])]) (
 .seq (
 .reg none [
 mV 58 0,
 oN 59 (.iaddr 1 (.t 58) (cI 0)),
 oN 60 (.load false 1 (.t 59)),
 oN 61 (.ncall true 113062 146 [(.t 8),(.t 60)])]) (
 .seq (
 .seq (
 .reg none [
 mV 62 0,
 oN 63 (.slc 1 (.t 62) (some (cI 1)) none none),
 oN 64 (.len (.t 63)),
 oN 65 (.mov (cI 0))]) (
 .block 3 (
 .loop ZyZ))) ZyX)))
def ZBL:ACode:=
 .seq (
 .reg none [
 oN 42 (.bin .lss (.t 41) (.t 40))]) (
 .seq (
 .cond (.t 42) (
 .skip) (
 .exit 1)) (
 .seq (
 .block 2 (
 .seq (
 .reg none [
 oN 43 (.iaddr 1 (.t 39) (.t 41)),
 oN 44 (.load false 1 (.t 43)),
 mV 7 44]) (
 .seq (
 .seq (
 .reg none [
 mV 45 7,
 oN 46 (.slen (.t 45)),
 mV 47 5,
 oN 48 (.bin .sub (cI 9223372036854775807) (.t 47)),
 oN 49 (.bin .gtr (.t 46) (.t 48))]) (
 .cond (.t 49) (
 .junk /- op makeInterface -/) (
 .skip))) (
 .reg none [
 mV 51 5,
 mV 52 7,
 oN 53 (.slen (.t 52)),
 oN 54 (.bin .add (.t 51) (.t 53)),
 mV 5 54])))) (
 .reg none [
 oN 55 (.bin .add (.t 41) (cI 1)),
 mV 41 55])))
def ZzR:ACode:=.gh [.keep [0,1,5,39,40,41]] (.gh [] ZBL)
def ZHG:ACode:=
 .seq (
 .reg none [
 oN 4 (.mov (.c (.str [])))]) (
 .seq (
 .seq (
 .reg none [
 mV 11 0,
 oN 12 (.len (.t 11))]) (
 .block 0 (
 .seq (
 .reg none [
 oN 14 (.bin .eql (.t 12) (cI 0)),
 mV 13 14]) (
 .cond (.t 13) (
 .seq (
 .reg none [
 oN 4 (.mov (.c (.str [])))]) (
 .ret)) (
 .seq (
 .reg none [
 oN 16 (.bin .eql (.t 12) (cI 1)),
 mV 15 16]) (
 .cond (.t 15) (
 .seq (
 .reg none [
 mV 17 0,
 oN 18 (.iaddr 1 (.t 17) (cI 0)),
 oN 19 (.load false 1 (.t 18)),
 mV 4 19]) (
 .ret)) (
 .skip))))))) (
 .seq (
 .reg none [
 oN 5 (.mov (cI 0))]) (
 .seq (
 .seq (
 .reg none [
 mV 20 1,
 oN 21 (.slen (.t 20)),
 oN 22 (.bin .gtr (.t 21) (cI 0))]) (
 .cond (.t 22) (
 .seq (
 .seq (
 .reg none [
 mV 23 1,
 oN 24 (.slen (.t 23)),
 mV 25 0,
 oN 26 (.len (.t 25)),
 oN 27 (.bin .sub (.t 26) (cI 1)),
 oN 28 (.bin .quo (cI 9223372036854775807) (.t 27)),
 oN 29 (.bin .geq (.t 24) (.t 28))]) (
 .gh [.keep [0,1,5,29]] (
 .cond (.t 29) (
 .junk /- op makeInterface -/) (
 .skip)))) (
 .reg none [
 mV 31 5,
 mV 32 1,
 oN 33 (.slen (.t 32)),
 mV 34 0,
 oN 35 (.len (.t 34)),
 oN 36 (.bin .sub (.t 35) (cI 1)),
 oN 37 (.bin .mul (.t 33) (.t 36)),
 oN 38 (.bin .add (.t 31) (.t 37)),
 mV 5 38])) (
 .skip))) (
 .seq (
 .seq (
 .reg none [
 mV 39 0,
 oN 40 (.len (.t 39)),
 oN 41 (.mov (cI 0))]) (
 .block 1 (
 .loop ZzR))) ZyE))))
def ZEK:AFunc:=⟨75,ZHG,[.tmp 4]⟩
def ZrN:ACode:=
 .seq (
 .reg none [
 oN 187 (.build (.gen [(.int .i64 0),(.int .i64 0)]) []),
 ⟨none,none, .store 2 (.t 2) (.t 187)⟩,
 oN 3 (.mov (cI 0))]) (
 .ret)
def ZoK:ACode:=
 .seq (
 .seq (
 .reg none [
 mV 112 7,
 oN 113 (.faddr 2 (.t 1)),
 oN 114 (.load false 1 (.t 113)),
 oN 115 (.len (.t 114)),
 oN 116 (.bin .lss (.t 112) (.t 115))]) (
 .cond (.t 116) (
 .skip) (
 .exit 4))) (
 .seq (
 .block 5 (
 .seq (
 .reg none [
 oN 119 (.faddr 2 (.t 1)),
 oN 120 (.load false 1 (.t 119)),
 mV 121 7,
 oN 122 (.iaddr 5 (.t 120) (.t 121)),
 oN 123 (.load true 5 (.t 122)),
 oN 8 (.alloc 119009 131 (.agg (.gen [(.str []),(.int .i64 0),(.int .i64 0),(.int .i64 0),(.int .i64 0)]))),
 ⟨none,none, .store 5 (.t 8) (.t 123)⟩]) (
 .seq (
 .seq (
 .reg none [
 oN 124 (.faddr 0 (.t 8)),
 oN 125 (.load false 1 (.t 124)),
 oN 126 (.ncall true 0 150 [(.t 125)]),
 oN 127 (.not (.t 126))]) (
 .cond (.t 127) (
 .seq (
 .reg none [
 mV 128 7,
 oN 129 (.ncall true 0 149 [(cI 3),(.t 128)]),
 ⟨none,none, .store 2 (.t 2) (.t 129)⟩,
 oN 3 (.mov (cI 4))]) (
 .ret)) (
 .skip))) (
 .seq (
 .seq (
 .reg none [
 mV 130 5,
 oN 131 (.faddr 0 (.t 8)),
 oN 132 (.load false 1 (.t 131)),
 oN 133 (.ncall true 0 151 [(.t 130),(.t 132)])]) (
 .cond (.t 133) (
 .seq (
 .reg none [
 mV 134 7,
 oN 135 (.ncall true 0 149 [(cI 3),(.t 134)]),
 ⟨none,none, .store 2 (.t 2) (.t 135)⟩,
 oN 3 (.mov (cI 5))]) (
 .ret)) (
 .skip))) (
 .seq (
 .reg none [
 mV 136 5,
 oN 137 (.faddr 0 (.t 8)),
 oN 138 (.load false 1 (.t 137)),
 oN 139 (.bslice 119140 9 1 [(.t 138)]),
 oN 140 (.append 119141 9 1 (.t 136) (.t 139)),
 mV 5 140]) (
 .seq (
 .seq (
 .reg none [
 oN 141 (.faddr 1 (.t 8)),
 oN 142 (.load false 1 (.t 141)),
 oN 143 (.faddr 1 (.t 1)),
 oN 144 (.load false 1 (.t 143)),
 oN 145 (.len (.t 144)),
 oN 146 (.bin .sub (.t 145) (cI 1)),
 oN 147 (.ncall true 0 41 [(.t 142),(cI 0),(.t 146)]),
 oN 148 (.not (.t 147)),
 mV 149 148,
 ⟨some 150,(some (149,false)), .faddr 2 (.t 8)⟩,
 ⟨some 151,(some (149,false)), .load false 1 (.t 150)⟩,
 ⟨some 152,(some (149,false)), .faddr 0 (.t 1)⟩,
 ⟨some 153,(some (149,false)), .load false 1 (.t 152)⟩,
 ⟨some 154,(some (149,false)), .len (.t 153)⟩,
 ⟨some 155,(some (149,false)), .bin .sub (.t 154) (cI 1)⟩,
 ⟨some 156,(some (149,false)), .ncall true 0 41 [(.t 151),(cI (-1)),(.t 155)]⟩,
 ⟨some 157,(some (149,false)), .not (.t 156)⟩,
 oN 158 (.pick (.t 149) (.c (.bool true)) (.t 157)),
 mV 159 158,
 ⟨some 160,(some (159,false)), .faddr 3 (.t 8)⟩,
 ⟨some 161,(some (159,false)), .load false 1 (.t 160)⟩,
 ⟨some 162,(some (159,false)), .faddr 1 (.t 1)⟩,
 ⟨some 163,(some (159,false)), .load false 1 (.t 162)⟩,
 ⟨some 164,(some (159,false)), .len (.t 163)⟩,
 ⟨some 165,(some (159,false)), .bin .sub (.t 164) (cI 1)⟩,
 ⟨some 166,(some (159,false)), .ncall true 0 41 [(.t 161),(cI (-1)),(.t 165)]⟩,
 ⟨some 167,(some (159,false)), .not (.t 166)⟩,
 oN 168 (.pick (.t 159) (.c (.bool true)) (.t 167))]) (
 .gh [.keep [1,2,5,7,8,168]] (
 .cond (.t 168) (
 .seq (
 .reg none [
 mV 169 7,
 oN 170 (.ncall true 0 149 [(cI 3),(.t 169)]),
 ⟨none,none, .store 2 (.t 2) (.t 170)⟩,
 oN 3 (.mov (cI 6))]) (
 .ret)) (
 .skip)))) (
 .seq (
 .seq (
 .reg none [
 oN 171 (.faddr 4 (.t 8)),
 oN 172 (.load false 1 (.t 171)),
 oN 173 (.ncall true 0 41 [(.t 172),(cI 1),(cI 1000000)]),
 oN 174 (.not (.t 173))]) (
 .cond (.t 174) (
 .seq (
 .reg none [
 mV 175 7,
 oN 176 (.ncall true 0 149 [(cI 3),(.t 175)]),
 ⟨none,none, .store 2 (.t 2) (.t 176)⟩,
 oN 3 (.mov (cI 2))]) (
 .ret)) (
 .skip))) (
 .seq (
 .reg none [
 oN 177 (.faddr 3 (.t 8)),
 oN 178 (.load false 1 (.t 177)),
 oN 179 (.bin .eql (.t 178) (cI (-1))),
 mV 180 179,
 ⟨some 181,(some (180,true)), .faddr 4 (.t 8)⟩,
 ⟨some 182,(some (180,true)), .load false 1 (.t 181)⟩,
 ⟨some 183,(some (180,true)), .bin .neq (.t 182) (cI 1)⟩,
 oN 184 (.pick (.t 180) (.t 183) (.c (.bool false)))]) (
 .gh [.keep [1,2,5,7,184]] (
 .cond (.t 184) (
 .seq (
 .reg none [
 mV 185 7,
 oN 186 (.ncall true 0 149 [(cI 3),(.t 185)]),
 ⟨none,none, .store 2 (.t 2) (.t 186)⟩,
 oN 3 (.mov (cI 3))]) (
 .ret)) (
 .skip))))))))))) (
 .reg none [
 mV 117 7,
 oN 118 (.bin .add (.t 117) (cI 1)),
 mV 7 118]))
def ZrY:ACode:=.gh [.keep [1,2,5,7]] (.gh [] ZoK)
def Zsr:ACode:=
 .seq (
 .seq (
 .reg none [
 oN 107 (.faddr 2 (.t 1)),
 oN 108 (.load false 1 (.t 107)),
 oN 109 (.len (.t 108)),
 oN 110 (.bin .gtr (.t 109) (cI 10))]) (
 .cond (.t 110) (
 .seq (
 .reg none [
 oN 111 (.ncall true 0 149 [(cI 3),(cI 0)]),
 ⟨none,none, .store 2 (.t 2) (.t 111)⟩,
 oN 3 (.mov (cI 8))]) (
 .ret)) (
 .skip))) (
 .seq (
 .reg none [
 oN 5 (.mov (.c .nils))]) (
 .seq (
 .seq (
 .reg none [
 oN 7 (.mov (cI 0))]) (
 .block 4 (
 .loop ZrY))) ZrN))
def Zog:ACode:=
 .seq (
 .seq (
 .reg none [
 mV 57 6,
 oN 58 (.faddr 1 (.t 1)),
 oN 59 (.load false 1 (.t 58)),
 oN 60 (.len (.t 59)),
 oN 61 (.bin .lss (.t 57) (.t 60))]) (
 .cond (.t 61) (
 .skip) (
 .exit 2))) (
 .seq (
 .block 3 (
 .seq (
 .seq (
 .reg none [
 oN 64 (.faddr 1 (.t 1)),
 oN 65 (.load false 1 (.t 64)),
 mV 66 6,
 oN 67 (.iaddr 2 (.t 65) (.t 66)),
 oN 68 (.faddr 0 (.t 67)),
 oN 69 (.load false 1 (.t 68)),
 oN 70 (.ncall true 0 150 [(.t 69)]),
 oN 71 (.not (.t 70))]) (
 .gh [.keep [1,2,5,6,71]] (
 .cond (.t 71) (
 .seq (
 .reg none [
 mV 72 6,
 oN 73 (.ncall true 0 149 [(cI 2),(.t 72)]),
 ⟨none,none, .store 2 (.t 2) (.t 73)⟩,
 oN 3 (.mov (cI 4))]) (
 .ret)) (
 .skip)))) (
 .seq (
 .seq (
 .reg none [
 mV 74 5,
 oN 75 (.faddr 1 (.t 1)),
 oN 76 (.load false 1 (.t 75)),
 mV 77 6,
 oN 78 (.iaddr 2 (.t 76) (.t 77)),
 oN 79 (.faddr 0 (.t 78)),
 oN 80 (.load false 1 (.t 79)),
 oN 81 (.ncall true 0 151 [(.t 74),(.t 80)])]) (
 .gh [.keep [1,2,5,6,81]] (
 .cond (.t 81) (
 .seq (
 .reg none [
 mV 82 6,
 oN 83 (.ncall true 0 149 [(cI 2),(.t 82)]),
 ⟨none,none, .store 2 (.t 2) (.t 83)⟩,
 oN 3 (.mov (cI 5))]) (
 .ret)) (
 .skip)))) (
 .seq (
 .reg none [
 mV 84 5,
 oN 85 (.faddr 1 (.t 1)),
 oN 86 (.load false 1 (.t 85)),
 mV 87 6,
 oN 88 (.iaddr 2 (.t 86) (.t 87)),
 oN 89 (.faddr 0 (.t 88)),
 oN 90 (.load false 1 (.t 89)),
 oN 91 (.bslice 119092 9 1 [(.t 90)]),
 oN 92 (.append 119093 9 1 (.t 84) (.t 91)),
 mV 5 92]) (
 .gh [.keep [1,2,5,6]] (
 .seq (
 .reg (some []) [
 oN 93 (.faddr 1 (.t 1)),
 oN 94 (.load false 1 (.t 93)),
 mV 95 6,
 oN 96 (.iaddr 2 (.t 94) (.t 95)),
 oN 97 (.faddr 1 (.t 96)),
 oN 98 (.load false 1 (.t 97)),
 oN 99 (.faddr 0 (.t 1)),
 oN 100 (.load false 1 (.t 99)),
 oN 101 (.len (.t 100)),
 oN 102 (.bin .sub (.t 101) (cI 1)),
 oN 103 (.ncall true 0 41 [(.t 98),(cI (-1)),(.t 102)]),
 oN 104 (.not (.t 103))]) (
 .gh [.keep [1,2,5,6,104]] (
 .cond (.t 104) (
 .seq (
 .reg none [
 mV 105 6,
 oN 106 (.ncall true 0 149 [(cI 2),(.t 105)]),
 ⟨none,none, .store 2 (.t 2) (.t 106)⟩,
 oN 3 (.mov (cI 6))]) (
 .ret)) (
 .skip))))))))) (
 .reg none [
 mV 62 6,
 oN 63 (.bin .add (.t 62) (cI 1)),
 mV 6 63]))
def Zsf:ACode:=.gh [.keep [1,2,5,6]] (.gh [] Zog)
def ZrG:ACode:=
 .seq (
 .seq (
 .reg none [
 oN 47 (.faddr 1 (.t 1)),
 oN 48 (.load false 1 (.t 47)),
 oN 49 (.len (.t 48)),
 oN 50 (.bin .eql (.t 49) (cI 0))]) (
 .cond (.t 50) (
 .seq (
 .reg none [
 oN 51 (.ncall true 0 149 [(cI 2),(cI 0)]),
 ⟨none,none, .store 2 (.t 2) (.t 51)⟩,
 oN 3 (.mov (cI 10))]) (
 .ret)) (
 .skip))) (
 .seq (
 .seq (
 .reg none [
 oN 52 (.faddr 1 (.t 1)),
 oN 53 (.load false 1 (.t 52)),
 oN 54 (.len (.t 53)),
 oN 55 (.bin .gtr (.t 54) (cI 8))]) (
 .cond (.t 55) (
 .seq (
 .reg none [
 oN 56 (.ncall true 0 149 [(cI 2),(cI 0)]),
 ⟨none,none, .store 2 (.t 2) (.t 56)⟩,
 oN 3 (.mov (cI 8))]) (
 .ret)) (
 .skip))) (
 .seq (
 .reg none [
 oN 5 (.mov (.c .nils))]) (
 .seq (
 .seq (
 .reg none [
 oN 6 (.mov (cI 0))]) (
 .block 2 (
 .loop Zsf))) Zsr)))
def Zsm:ACode:=
 .seq (
 .seq (
 .reg none [
 mV 19 4,
 oN 20 (.faddr 0 (.t 1)),
 oN 21 (.load false 1 (.t 20)),
 oN 22 (.len (.t 21)),
 oN 23 (.bin .lss (.t 19) (.t 22))]) (
 .cond (.t 23) (
 .skip) (
 .exit 0))) (
 .seq (
 .block 1 (
 .seq (
 .seq (
 .reg none [
 oN 26 (.faddr 0 (.t 1)),
 oN 27 (.load false 1 (.t 26)),
 mV 28 4,
 oN 29 (.iaddr 1 (.t 27) (.t 28)),
 oN 30 (.load false 1 (.t 29)),
 oN 31 (.ncall true 0 150 [(.t 30)]),
 oN 32 (.not (.t 31))]) (
 .gh [.keep [1,2,4,32]] (
 .cond (.t 32) (
 .seq (
 .reg none [
 mV 33 4,
 oN 34 (.ncall true 0 149 [(cI 1),(.t 33)]),
 ⟨none,none, .store 2 (.t 2) (.t 34)⟩,
 oN 3 (.mov (cI 4))]) (
 .ret)) (
 .skip)))) (
 .seq (
 .reg (some []) [
 oN 35 (.faddr 0 (.t 1)),
 oN 36 (.load false 1 (.t 35)),
 mV 37 4,
 oN 38 (.slc 1 (.t 36) none (some (.t 37)) none),
 oN 39 (.faddr 0 (.t 1)),
 oN 40 (.load false 1 (.t 39)),
 mV 41 4,
 oN 42 (.iaddr 1 (.t 40) (.t 41)),
 oN 43 (.load false 1 (.t 42)),
 oN 44 (.ncall true 0 151 [(.t 38),(.t 43)])]) (
 .gh [.keep [1,2,4,44]] (
 .cond (.t 44) (
 .seq (
 .reg none [
 mV 45 4,
 oN 46 (.ncall true 0 149 [(cI 1),(.t 45)]),
 ⟨none,none, .store 2 (.t 2) (.t 46)⟩,
 oN 3 (.mov (cI 5))]) (
 .ret)) (
 .skip)))))) (
 .reg none [
 mV 24 4,
 oN 25 (.bin .add (.t 24) (cI 1)),
 mV 4 25]))
def Zsx:ACode:=.gh [.keep [1,2,4]] (.gh [] Zsm)
def Zr3:List AItem:=.inLoop ZrY::[.inBlock 4,
 .code ZrN]
def ZrK:List AItem:=.inLoop Zsf::[.inBlock 2,
 .code Zsr]
def Zzy:List AItem:=.inLoop Zsx::[.inBlock 0,
 .code ZrG]
def ZGN:ACode:=
 .seq (
 .reg none [
 oN 1 (.box 119002 26 (.t 0)),
 oN 2 (.alloc 119003 195 (.agg (.gen [(.int .i64 0),(.int .i64 0)]))),
 oN 3 (.mov (cI 0))]) (
 .seq (
 .seq (
 .reg none [
 oN 9 (.faddr 0 (.t 1)),
 oN 10 (.load false 1 (.t 9)),
 oN 11 (.len (.t 10)),
 oN 12 (.bin .eql (.t 11) (cI 0))]) (
 .cond (.t 12) (
 .seq (
 .reg none [
 oN 13 (.ncall true 0 149 [(cI 1),(cI 0)]),
 ⟨none,none, .store 2 (.t 2) (.t 13)⟩,
 oN 3 (.mov (cI 10))]) (
 .ret)) (
 .skip))) (
 .seq (
 .seq (
 .reg none [
 oN 14 (.faddr 0 (.t 1)),
 oN 15 (.load false 1 (.t 14)),
 oN 16 (.len (.t 15)),
 oN 17 (.bin .gtr (.t 16) (cI 6))]) (
 .cond (.t 17) (
 .seq (
 .reg none [
 oN 18 (.ncall true 0 149 [(cI 1),(cI 0)]),
 ⟨none,none, .store 2 (.t 2) (.t 18)⟩,
 oN 3 (.mov (cI 8))]) (
 .ret)) (
 .skip))) (
 .seq (
 .seq (
 .reg none [
 oN 4 (.mov (cI 0))]) (
 .block 0 (
 .loop Zsx))) ZrG)))
def a119:AFunc:=⟨188,ZGN,[.cell 2 true 2, .tmp 3]⟩
def ZG4:ACode:=
 .seq (
 .reg none [
 oN 2 (.box 120003 26 (.t 0)),
 oN 3 (.box 120004 82 (.t 1)),
 oN 4 (.mov (cI 0))]) (
 .seq (
 .reg (some []) [
 oN 5 (.faddr 0 (.t 3)),
 oN 6 (.load false 1 (.t 5)),
 oN 7 (.faddr 1 (.t 2)),
 oN 8 (.load false 1 (.t 7)),
 oN 9 (.len (.t 8)),
 oN 10 (.bin .sub (.t 9) (cI 1)),
 oN 11 (.ncall true 0 82 [(.t 6),(cI 0),(.t 10)]),
 oN 12 (.ncall true 0 68 [(.t 11),(cI 15)]),
 oN 13 (.faddr 1 (.t 3)),
 oN 14 (.faddr 0 (.t 13)),
 oN 15 (.load false 1 (.t 14)),
 oN 16 (.ncall true 0 89 [(.t 15)]),
 mV 17 16,
 ⟨some 18,(some (17,true)), .faddr 1 (.t 3)⟩,
 ⟨some 19,(some (17,true)), .faddr 1 (.t 18)⟩,
 ⟨some 20,(some (17,true)), .load false 1 (.t 19)⟩,
 ⟨some 21,(some (17,true)), .ncall true 0 89 [(.t 20)]⟩,
 oN 22 (.pick (.t 17) (.t 21) (.c (.bool false))),
 oN 23 (.ncall true 0 68 [(.t 22),(cI 2)]),
 oN 24 (.faddr 1 (.t 3)),
 oN 25 (.faddr 0 (.t 24)),
 oN 26 (.load false 1 (.t 25)),
 oN 27 (.faddr 1 (.t 3)),
 oN 28 (.faddr 1 (.t 27)),
 oN 29 (.load false 1 (.t 28)),
 oN 30 (.bin .leq (.t 26) (.t 29)),
 oN 31 (.ncall true 0 68 [(.t 30),(cI 9)]),
 oN 32 (.bslice 120033 38 1 [(.t 12),(.t 23),(.t 31)]),
 oN 33 (.ncall true 0 67 [(.t 32)]),
 mV 4 33]) (
 .gh [.keep [4]] (
 .ret)))
def a120:AFunc:=⟨34,ZG4,[.tmp 4]⟩
def ZyT:ACode:=
 .seq (
 .reg none [
 mV 47 7,
 mV 4 47]) (
 .ret)
def Zxf:ACode:=
 .seq (
 .seq (
 .reg none [
 mV 34 8,
 mV 35 7,
 oN 36 (.len (.t 35)),
 oN 37 (.bin .lss (.t 34) (.t 36))]) (
 .cond (.t 37) (
 .skip) (
 .exit 0))) (
 .block 1 (
 .reg (some [(0,7)]) [
 mV 38 8,
 mV 39 7,
 mV 40 8,
 oN 41 (.slc 1 (.t 39) (some (.t 40)) none none),
 mV 42 7,
 mV 43 8,
 oN 44 (.slc 1 (.t 42) none (some (.t 43)) none),
 oN 45 (.copy 1 (.t 41) (.t 44)),
 oN 46 (.bin .add (.t 38) (.t 45)),
 mV 8 46]))
def ZzN:ACode:=.gh [.keep [7,8]] (.gh [] Zxf)
def ZGe:ACode:=
 .seq (
 .reg none [
 oN 4 (.mov (.c .nils))]) (
 .seq (
 .seq (
 .reg none [
 mV 9 1,
 oN 10 (.bin .lss (.t 9) (cI 0))]) (
 .cond (.t 10) (
 .junk /- op makeInterface -/) (
 .skip))) (
 .seq (
 .reg none [
 mV 13 0,
 oN 14 (.len (.t 13)),
 oN 15 (.conv .u64 (.t 14)),
 mV 16 1,
 oN 17 (.conv .u64 (.t 16)),
 oN 18 (.ncall true 0 152 [(.t 15),(.t 17)]),
 mV 12 18,
 oN 19 (.ext 0 (.t 12)),
 oN 20 (.ext 1 (.t 12)),
 mV 5 19,
 mV 6 20]) (
 .gh [.keep [0,5,6]] (
 .seq (
 .seq (
 .reg none [
 mV 21 5,
 oN 22 (.bin .gtr (.t 21) (.c (.int .u64 0))),
 mV 23 22,
 ⟨some 24,(some (23,false)), .mov (.t 6)⟩,
 ⟨some 25,(some (23,false)), .bin .gtr (.t 24) (.c (.int .u64 9223372036854775807))⟩,
 oN 26 (.pick (.t 23) (.c (.bool true)) (.t 25))]) (
 .cond (.t 26) (
 .junk /- op makeInterface -/) (
 .skip))) (
 .seq (
 .reg none [
 mV 28 6,
 oN 29 (.conv .i64 (.t 28)),
 oN 30 (.mkslice 121031 3 1 (.int .i64 0) (.t 29)),
 mV 7 30]) (
 .seq (
 .reg none [
 mV 31 7,
 mV 32 0,
 oN 33 (.copy 1 (.t 31) (.t 32)),
 mV 8 33]) (
 .seq (
 .block 0 (
 .loop ZzN)) ZyT)))))))
def ZFc:AFunc:=⟨48,ZGe,[.tmp 4]⟩
def ZIp:ACode:=
 .seq (
 .reg none [
 oN 4 (.box 122005 131 (.t 1)),
 oN 6 (.mov (.c (.bool false)))]) (
 .seq (
 .reg (some []) [
 oN 7 (.faddr 1 (.t 4)),
 oN 8 (.load false 1 (.t 7)),
 mV 9 2,
 oN 10 (.bin .eql (.t 8) (.t 9)),
 mV 11 10,
 ⟨some 12,(some (11,true)), .faddr 2 (.t 4)⟩,
 ⟨some 13,(some (11,true)), .load false 1 (.t 12)⟩,
 ⟨some 14,(some (11,true)), .bin .eql (.t 13) (cI (-1))⟩,
 ⟨some 15,(some (11,true)), .mov (.t 14)⟩,
 ⟨some 16,(some (15,false)), .faddr 2 (.t 4)⟩,
 ⟨some 17,(some (15,false)), .load false 1 (.t 16)⟩,
 ⟨some 18,(some (15,false)), .mov (.t 0)⟩,
 ⟨some 19,(some (15,false)), .nilck (.t 18)⟩,
 ⟨some 20,(some (15,false)), .faddr 3 (.t 19)⟩,
 ⟨some 21,(some (15,false)), .faddr 0 (.t 20)⟩,
 ⟨some 22,(some (15,false)), .load false 1 (.t 21)⟩,
 ⟨some 23,(some (15,false)), .bin .eql (.t 17) (.t 22)⟩,
 ⟨some 24,(some (11,true)), .pick (.t 15) (.c (.bool true)) (.t 23)⟩,
 oN 25 (.pick (.t 11) (.t 24) (.c (.bool false))),
 mV 6 25]) (
 .gh [.keep [6]] (
 .ret)))
def a122:AFunc:=⟨26,ZIp,[.tmp 6]⟩
def ZG3:ACode:=
 .seq (
 .reg none [
 oN 3 (.box 123004 82 (.t 1)),
 oN 4 (.mov (.c (.bool false)))]) (
 .seq (
 .reg (some []) [
 mV 5 0,
 oN 6 (.nilck (.t 5)),
 oN 7 (.faddr 3 (.t 6)),
 oN 8 (.faddr 1 (.t 7)),
 oN 9 (.load false 1 (.t 8)),
 oN 10 (.faddr 1 (.t 3)),
 oN 11 (.faddr 0 (.t 10)),
 oN 12 (.load false 1 (.t 11)),
 oN 13 (.faddr 1 (.t 3)),
 oN 14 (.faddr 1 (.t 13)),
 oN 15 (.load false 1 (.t 14)),
 oN 16 (.ncall true 0 82 [(.t 9),(.t 12),(.t 15)]),
 mV 17 16,
 ⟨some 18,(some (17,true)), .mov (.t 0)⟩,
 ⟨some 19,(some (17,true)), .faddr 0 (.t 3)⟩,
 ⟨some 20,(some (17,true)), .load false 1 (.t 19)⟩,
 ⟨some 21,(some (17,true)), .ncall true 123022 91 [(.t 18),(.t 20)]⟩,
 ⟨some 22,(some (17,true)), .pnil false (.t 21)⟩,
 oN 23 (.pick (.t 17) (.t 22) (.c (.bool false))),
 mV 4 23]) (
 .gh [.keep [4]] (
 .ret)))
def a123:AFunc:=⟨24,ZG3,[.tmp 4]⟩
def ZH2:ACode:=
 .seq (
 .reg none [
 oN 2 (.alloc 125003 37 (.agg (.gen [(.int .i64 0),(.int .i64 0), .nils,(.bool false),(.int .i64 0),(.bool false), .nils, .nils])))]) (
 .seq (
 .reg none [
 mV 4 0,
 oN 5 (.nilck (.t 4)),
 oN 6 (.faddr 6 (.t 5)),
 oN 7 (.load true 8 (.t 6)),
 oN 3 (.alloc 125004 37 (.agg (.gen [(.int .i64 0),(.int .i64 0), .nils,(.bool false),(.int .i64 0),(.bool false), .nils, .nils]))),
 ⟨none,none, .store 8 (.t 3) (.t 7)⟩]) (
 .seq (
 .reg (some [(2,3),(2,4),(2,6),(2,7),(5,6),(5,7),(5,9),(8,9)]) [
 oN 8 (.faddr 2 (.t 3)),
 oN 9 (.load false 1 (.t 8)),
 oN 10 (.ncall true 125011 153 [(.t 9)]),
 oN 11 (.faddr 6 (.t 3)),
 oN 12 (.load false 1 (.t 11)),
 oN 13 (.ncall true 125014 140 [(.t 12)]),
 oN 14 (.faddr 7 (.t 3)),
 oN 15 (.load false 1 (.t 14)),
 oN 16 (.ncall true 125017 154 [(.t 15)]),
 oN 17 (.faddr 2 (.t 3)),
 ⟨none,none, .store 1 (.t 17) (.t 10)⟩,
 oN 18 (.faddr 6 (.t 3)),
 ⟨none,none, .store 1 (.t 18) (.t 13)⟩,
 oN 19 (.faddr 7 (.t 3)),
 ⟨none,none, .store 1 (.t 19) (.t 16)⟩]) (
 .gh [.keep [2,3]] (
 .seq (
 .reg none [
 oN 20 (.load true 8 (.t 3)),
 ⟨none,none, .store 8 (.t 2) (.t 20)⟩]) (
 .ret)))))
def ZFn:AFunc:=⟨21,ZH2,[.cell 2 true 8]⟩
def ZGT:ACode:=
 .seq (
 .reg none [
 oN 3 (.mov (.c (.bool false)))]) (
 .seq (
 .reg none [
 mV 4 0,
 oN 5 (.faddr 3 (.t 1)),
 oN 6 (.load false 1 (.t 5)),
 oN 7 (.len (.t 6)),
 oN 8 (.bin .sub (.t 7) (cI 1)),
 oN 9 (.ncall true 0 82 [(.t 4),(cI 0),(.t 8)]),
 oN 10 (.not (.t 9)),
 mV 3 10]) (
 .gh [.keep [3]] (
 .ret)))
def ZEL:AFunc:=⟨11,ZGT,[.tmp 3]⟩
def ZHX:ACode:=
 .seq (
 .reg none [
 oN 4 (.mov (cI 0))]) (
 .seq (
 .seq (
 .reg none [
 mV 5 0,
 oN 6 (.nilck (.t 5)),
 oN 7 (.faddr 6 (.t 6)),
 oN 8 (.faddr 0 (.t 7)),
 oN 9 (.load false 1 (.t 8)),
 mV 10 1,
 oN 11 (.bin .add (.t 9) (.t 10)),
 oN 12 (.bin .gtr (.t 11) (cI 1000000000000))]) (
 .gh [.keep [0,1,12]] (
 .cond (.t 12) (
 .seq (
 .reg none [
 oN 4 (.mov (cI 2))]) (
 .ret)) (
 .skip)))) (
 .seq (
 .reg none [
 mV 13 0,
 oN 14 (.nilck (.t 13)),
 oN 15 (.faddr 6 (.t 14)),
 oN 16 (.faddr 0 (.t 15)),
 oN 17 (.load false 1 (.t 16)),
 mV 18 1,
 oN 19 (.bin .add (.t 17) (.t 18)),
 oN 20 (.nilck (.t 13)),
 oN 21 (.faddr 6 (.t 20)),
 oN 22 (.faddr 0 (.t 21)),
 ⟨none,none, .store 1 (.t 22) (.t 19)⟩]) (
 .gh [.keep [0]] (
 .seq (
 .reg (some []) [
 mV 23 0,
 oN 24 (.nilck (.t 23)),
 oN 25 (.faddr 14 (.t 24)),
 oN 26 (.load false 1 (.t 25)),
 mV 27 0,
 oN 28 (.nilck (.t 27)),
 oN 29 (.faddr 6 (.t 28)),
 oN 30 (.faddr 0 (.t 29)),
 oN 31 (.load false 1 (.t 30)),
 oN 32 (.nilck (.t 26)),
 oN 33 (.faddr 3 (.t 32)),
 oN 34 (.faddr 1 (.t 33)),
 ⟨none,none, .store 1 (.t 34) (.t 31)⟩]) (
 .gh [.keep []] (
 .seq (
 .reg none [
 oN 4 (.mov (cI 0))]) (
 .ret)))))))
def ZFA:AFunc:=⟨35,ZHX,[.tmp 4]⟩
def ZIv:ACode:=
 .seq (
 .reg none [
 oN 4 (.mov (cI 0))]) (
 .seq (
 .reg (some []) [
 mV 6 1,
 mV 7 0,
 oN 8 (.nilck (.t 7)),
 oN 9 (.faddr 0 (.t 8)),
 oN 10 (.faddr 3 (.t 9)),
 oN 11 (.load false 1 (.t 10)),
 oN 12 (.len (.t 11)),
 oN 13 (.bin .lss (.t 6) (.t 12)),
 oN 14 (.ncall true 0 68 [(.t 13),(cI 6)]),
 mV 15 0,
 oN 16 (.nilck (.t 15)),
 oN 17 (.faddr 6 (.t 16)),
 oN 18 (.faddr 5 (.t 17)),
 oN 19 (.load false 1 (.t 18)),
 oN 20 (.not (.t 19)),
 oN 21 (.ncall true 0 68 [(.t 20),(cI 21)]),
 mV 22 1,
 mV 23 0,
 oN 24 (.nilck (.t 23)),
 oN 25 (.faddr 6 (.t 24)),
 oN 26 (.faddr 4 (.t 25)),
 oN 27 (.load false 1 (.t 26)),
 mV 28 0,
 oN 29 (.nilck (.t 28)),
 oN 30 (.faddr 6 (.t 29)),
 oN 31 (.faddr 4 (.t 30)),
 oN 32 (.load false 1 (.t 31)),
 mV 33 0,
 oN 34 (.nilck (.t 33)),
 oN 35 (.faddr 0 (.t 34)),
 oN 36 (.faddr 4 (.t 35)),
 oN 37 (.load false 1 (.t 36)),
 oN 38 (.bin .add (.t 32) (.t 37)),
 oN 39 (.bin .sub (.t 38) (cI 1)),
 oN 40 (.ncall true 0 82 [(.t 22),(.t 27),(.t 39)]),
 oN 41 (.ncall true 0 68 [(.t 40),(cI 26)]),
 mV 42 0,
 oN 43 (.nilck (.t 42)),
 oN 44 (.faddr 6 (.t 43)),
 oN 45 (.faddr 6 (.t 44)),
 oN 46 (.load false 1 (.t 45)),
 oN 47 (.len (.t 46)),
 mV 48 0,
 oN 49 (.nilck (.t 48)),
 oN 50 (.faddr 0 (.t 49)),
 oN 51 (.faddr 5 (.t 50)),
 oN 52 (.load false 1 (.t 51)),
 oN 53 (.bin .lss (.t 47) (.t 52)),
 oN 54 (.ncall true 0 68 [(.t 53),(cI 16)]),
 oN 55 (.bslice 128056 38 1 [(.t 14),(.t 21),(.t 41),(.t 54)]),
 oN 56 (.ncall true 0 67 [(.t 55)]),
 mV 5 56]) (
 .gh [.keep [0,1,5]] (
 .seq (
 .seq (
 .reg none [
 mV 57 5,
 oN 58 (.bin .eql (.t 57) (cI 0))]) (
 .cond (.t 58) (
 .reg none [
 mV 59 0,
 mV 60 0,
 oN 61 (.nilck (.t 60)),
 oN 62 (.faddr 6 (.t 61)),
 oN 63 (.faddr 6 (.t 62)),
 oN 64 (.load false 1 (.t 63)),
 mV 65 1,
 oN 66 (.bslice 128067 3 1 [(.t 65)]),
 oN 67 (.append 128068 3 1 (.t 64) (.t 66)),
 oN 68 (.nilck (.t 59)),
 oN 69 (.faddr 6 (.t 68)),
 oN 70 (.faddr 6 (.t 69)),
 ⟨none,none, .store 1 (.t 70) (.t 67)⟩]) (
 .skip))) (
 .seq (
 .reg none [
 mV 71 5,
 mV 4 71]) (
 .ret)))))
def ZFE:AFunc:=⟨72,ZIv,[.tmp 4]⟩
def ZHJ:ACode:=
 .seq (
 .reg none [
 oN 4 (.mov (cI 0))]) (
 .seq (
 .reg none [
 mV 9 0,
 oN 10 (.nilck (.t 9)),
 oN 11 (.faddr 6 (.t 10)),
 oN 12 (.faddr 6 (.t 11)),
 mV 13 1,
 oN 14 (.icall 155 [(.t 12),(.t 13)]),
 mV 8 14,
 oN 15 (.ext 0 (.t 8)),
 oN 16 (.ext 1 (.t 8)),
 mV 5 15,
 mV 6 16]) (
 .gh [.keep [0,5,6]] (
 .seq (
 .seq (
 .reg none [
 mV 17 6,
 oN 18 (.not (.t 17))]) (
 .cond (.t 18) (
 .seq (
 .reg none [
 oN 4 (.mov (cI 6))]) (
 .ret)) (
 .skip))) (
 .seq (
 .seq (
 .reg none [
 mV 19 0,
 oN 20 (.nilck (.t 19)),
 oN 21 (.faddr 6 (.t 20)),
 oN 22 (.faddr 3 (.t 21)),
 oN 23 (.load false 1 (.t 22)),
 oN 24 (.not (.t 23)),
 mV 25 24,
 ⟨some 26,(some (25,true)), .mov (.t 5)⟩,
 ⟨some 27,(some (25,true)), .mov (.t 0)⟩,
 ⟨some 28,(some (25,true)), .nilck (.t 27)⟩,
 ⟨some 29,(some (25,true)), .faddr 6 (.t 28)⟩,
 ⟨some 30,(some (25,true)), .faddr 2 (.t 29)⟩,
 ⟨some 31,(some (25,true)), .load false 1 (.t 30)⟩,
 ⟨some 32,(some (25,true)), .len (.t 31)⟩,
 ⟨some 33,(some (25,true)), .bin .eql (.t 26) (.t 32)⟩,
 oN 34 (.pick (.t 25) (.t 33) (.c (.bool false)))]) (
 .gh [.keep [0,5,34]] (
 .cond (.t 34) (
 .seq (
 .reg none [
 mV 35 0,
 oN 36 (.nilck (.t 35)),
 oN 37 (.faddr 0 (.t 36)),
 oN 38 (.faddr 3 (.t 37)),
 oN 39 (.load false 1 (.t 38)),
 mV 40 5,
 oN 41 (.iaddr 3 (.t 39) (.t 40)),
 oN 42 (.load true 3 (.t 41)),
 oN 7 (.alloc 129008 82 (.agg (.gen [(.int .i64 0),(.int .i64 0),(.int .i64 0)]))),
 ⟨none,none, .store 3 (.t 7) (.t 42)⟩]) (
 .gh [.keep [0,5,7]] (
 .seq (
 .reg (some []) [
 mV 43 0,
 oN 44 (.nilck (.t 43)),
 oN 45 (.faddr 14 (.t 44)),
 oN 46 (.load false 1 (.t 45)),
 oN 47 (.load true 3 (.t 7)),
 oN 48 (.ncall true 0 123 [(.t 46),(.t 47)])]) (
 .cond (.t 48) (
 .seq (
 .reg (some []) [
 mV 49 0,
 oN 50 (.nilck (.t 49)),
 oN 51 (.faddr 14 (.t 50)),
 oN 52 (.load false 1 (.t 51)),
 oN 53 (.load true 3 (.t 7)),
 oN 54 (.icall 74 [(.t 52),(.t 53)])]) (
 .gh [.keep [0,5]] (
 .seq (
 .reg none [
 mV 55 0,
 mV 56 0,
 oN 57 (.nilck (.t 56)),
 oN 58 (.faddr 14 (.t 57)),
 oN 59 (.load false 1 (.t 58)),
 oN 60 (.nilck (.t 59)),
 oN 61 (.faddr 3 (.t 60)),
 oN 62 (.faddr 0 (.t 61)),
 oN 63 (.load false 1 (.t 62)),
 oN 64 (.nilck (.t 55)),
 oN 65 (.faddr 6 (.t 64)),
 oN 66 (.faddr 1 (.t 65)),
 ⟨none,none, .store 1 (.t 66) (.t 63)⟩]) (
 .gh [.keep [0,5]] (
 .reg (some [(0,13),(0,14),(1,13),(2,13),(3,13),(4,13),(5,13)]) [
 mV 67 0,
 mV 68 0,
 oN 69 (.nilck (.t 68)),
 oN 70 (.faddr 6 (.t 69)),
 oN 71 (.faddr 2 (.t 70)),
 oN 72 (.load false 1 (.t 71)),
 mV 73 5,
 mV 74 0,
 oN 75 (.nilck (.t 74)),
 oN 76 (.faddr 6 (.t 75)),
 oN 77 (.faddr 0 (.t 76)),
 oN 78 (.load false 1 (.t 77)),
 oN 79 (.build (.gen [(.int .i64 0),(.int .i64 0)]) [(0,1,(.t 73)),(1,1,(.t 78))]),
 oN 80 (.bslice 129081 78 2 [(.t 79)]),
 oN 81 (.append 129082 78 2 (.t 72) (.t 80)),
 oN 82 (.nilck (.t 67)),
 oN 83 (.faddr 6 (.t 82)),
 oN 84 (.faddr 2 (.t 83)),
 ⟨none,none, .store 1 (.t 84) (.t 81)⟩]))))) (
 .reg none [
 mV 85 0,
 oN 86 (.nilck (.t 85)),
 oN 87 (.faddr 6 (.t 86)),
 oN 88 (.faddr 3 (.t 87)),
 ⟨none,none, .store 1 (.t 88) (.c (.bool true))⟩]))))) (
 .skip)))) (
 .seq (
 .reg none [
 mV 89 0,
 oN 90 (.icall 156 [(.t 89)])]) (
 .seq (
 .reg none [
 oN 4 (.mov (cI 0))]) (
 .ret)))))))
def ZEZ:AFunc:=⟨91,ZHJ,[.tmp 4]⟩
def ZID:ACode:=
 .seq (
 .reg none [
 oN 4 (.mov (cI 0))]) (
 .seq (
 .reg none [
 mV 8 0,
 oN 9 (.nilck (.t 8)),
 oN 10 (.faddr 6 (.t 9)),
 oN 11 (.faddr 7 (.t 10)),
 mV 12 1,
 oN 13 (.icall 157 [(.t 11),(.t 12)]),
 mV 7 13,
 oN 14 (.ext 0 (.t 7)),
 oN 15 (.ext 1 (.t 7)),
 oN 5 (.alloc 130006 129 (.agg (.gen [(.int .i64 0),(.bool false)]))),
 ⟨none,none, .store 2 (.t 5) (.t 14)⟩,
 mV 6 15]) (
 .gh [.keep [0,5,6]] (
 .seq (
 .seq (
 .reg none [
 mV 16 6,
 oN 17 (.not (.t 16))]) (
 .cond (.t 17) (
 .seq (
 .reg none [
 oN 4 (.mov (cI 6))]) (
 .ret)) (
 .skip))) (
 .seq (
 .reg (some []) [
 mV 18 0,
 mV 19 0,
 oN 20 (.nilck (.t 19)),
 oN 21 (.faddr 6 (.t 20)),
 oN 22 (.faddr 4 (.t 21)),
 oN 23 (.load false 1 (.t 22)),
 oN 24 (.faddr 0 (.t 5)),
 oN 25 (.load false 1 (.t 24)),
 oN 26 (.mm true (.t 23) (.t 25)),
 oN 27 (.nilck (.t 18)),
 oN 28 (.faddr 6 (.t 27)),
 oN 29 (.faddr 4 (.t 28)),
 ⟨none,none, .store 1 (.t 29) (.t 26)⟩]) (
 .gh [.keep [0,5]] (
 .seq (
 .reg none [
 mV 30 0,
 mV 31 0,
 oN 32 (.nilck (.t 31)),
 oN 33 (.faddr 6 (.t 32)),
 oN 34 (.faddr 5 (.t 33)),
 oN 35 (.load false 1 (.t 34)),
 mV 36 35,
 ⟨some 37,(some (36,false)), .faddr 1 (.t 5)⟩,
 ⟨some 38,(some (36,false)), .load false 1 (.t 37)⟩,
 oN 39 (.pick (.t 36) (.c (.bool true)) (.t 38)),
 oN 40 (.nilck (.t 30)),
 oN 41 (.faddr 6 (.t 40)),
 oN 42 (.faddr 5 (.t 41)),
 ⟨none,none, .store 1 (.t 42) (.t 39)⟩]) (
 .gh [.keep []] (
 .seq (
 .reg none [
 oN 4 (.mov (cI 0))]) (
 .ret)))))))))
def ZFy:AFunc:=⟨43,ZID,[.tmp 4]⟩
def ZFY:ACode:=
 .seq (
 .reg none [
 oN 4 (.mov (cI 0))]) (
 .seq (
 .reg none [
 mV 8 0,
 oN 9 (.nilck (.t 8)),
 oN 10 (.faddr 6 (.t 9)),
 oN 11 (.faddr 6 (.t 10)),
 mV 12 1,
 oN 13 (.icall 155 [(.t 11),(.t 12)]),
 mV 7 13,
 oN 14 (.ext 0 (.t 7)),
 oN 15 (.ext 1 (.t 7)),
 mV 5 14,
 mV 6 15]) (
 .gh [.keep [6]] (
 .seq (
 .reg none [
 mV 16 6,
 oN 17 (.ncall true 0 68 [(.t 16),(cI 6)]),
 mV 4 17]) (
 .ret))))
def ZFu:AFunc:=⟨18,ZFY,[.tmp 4]⟩
def ZH1:ACode:=
 .seq (
 .reg none [
 oN 4 (.mov (cI 0))]) (
 .seq (
 .reg none [
 mV 8 0,
 oN 9 (.nilck (.t 8)),
 oN 10 (.faddr 6 (.t 9)),
 oN 11 (.faddr 7 (.t 10)),
 mV 12 1,
 oN 13 (.icall 157 [(.t 11),(.t 12)]),
 mV 7 13,
 oN 14 (.ext 0 (.t 7)),
 oN 15 (.ext 1 (.t 7)),
 oN 5 (.alloc 132006 129 (.agg (.gen [(.int .i64 0),(.bool false)]))),
 ⟨none,none, .store 2 (.t 5) (.t 14)⟩,
 mV 6 15]) (
 .gh [.keep [6]] (
 .seq (
 .reg none [
 mV 16 6,
 oN 17 (.ncall true 0 68 [(.t 16),(cI 6)]),
 mV 4 17]) (
 .ret))))
def ZEV:AFunc:=⟨18,ZH1,[.tmp 4]⟩
def ZIa:ACode:=
 .seq (
 .reg none [
 oN 4 (.mov (cI 0))]) (
 .seq (
 .reg (some []) [
 mV 7 1,
 mV 8 0,
 oN 9 (.nilck (.t 8)),
 oN 10 (.faddr 6 (.t 9)),
 oN 11 (.faddr 6 (.t 10)),
 oN 12 (.load false 1 (.t 11)),
 oN 13 (.len (.t 12)),
 oN 14 (.bin .lss (.t 7) (.t 13)),
 oN 15 (.ncall true 0 68 [(.t 14),(cI 6)]),
 mV 16 0,
 oN 17 (.nilck (.t 16)),
 oN 18 (.faddr 6 (.t 17)),
 oN 19 (.faddr 6 (.t 18)),
 oN 20 (.load false 1 (.t 19)),
 oN 21 (.len (.t 20)),
 mV 22 0,
 oN 23 (.nilck (.t 22)),
 oN 24 (.faddr 0 (.t 23)),
 oN 25 (.faddr 5 (.t 24)),
 oN 26 (.load false 1 (.t 25)),
 oN 27 (.bin .lss (.t 21) (.t 26)),
 oN 28 (.ncall true 0 68 [(.t 27),(cI 16)]),
 oN 29 (.bslice 133030 38 1 [(.t 15),(.t 28)]),
 oN 30 (.ncall true 0 67 [(.t 29)]),
 mV 5 30]) (
 .gh [.keep [0,1,5]] (
 .seq (
 .seq (
 .reg none [
 mV 31 5,
 oN 32 (.bin .eql (.t 31) (cI 0))]) (
 .cond (.t 32) (
 .seq (
 .reg none [
 mV 33 0,
 oN 34 (.nilck (.t 33)),
 oN 35 (.faddr 6 (.t 34)),
 oN 36 (.faddr 6 (.t 35)),
 oN 37 (.load false 1 (.t 36)),
 mV 38 1,
 oN 39 (.iaddr 1 (.t 37) (.t 38)),
 oN 40 (.load false 1 (.t 39)),
 mV 6 40]) (
 .gh [.keep [0,5,6]] (
 .reg none [
 mV 41 0,
 mV 42 0,
 oN 43 (.nilck (.t 42)),
 oN 44 (.faddr 6 (.t 43)),
 oN 45 (.faddr 6 (.t 44)),
 oN 46 (.load false 1 (.t 45)),
 mV 47 6,
 oN 48 (.bslice 133049 3 1 [(.t 47)]),
 oN 49 (.append 133050 3 1 (.t 46) (.t 48)),
 oN 50 (.nilck (.t 41)),
 oN 51 (.faddr 6 (.t 50)),
 oN 52 (.faddr 6 (.t 51)),
 ⟨none,none, .store 1 (.t 52) (.t 49)⟩]))) (
 .skip))) (
 .seq (
 .reg none [
 mV 53 5,
 mV 4 53]) (
 .ret)))))
def ZFm:AFunc:=⟨54,ZIa,[.tmp 4]⟩
def ZGM:ACode:=
 .seq (
 .reg none [
 oN 4 (.mov (cI 0))]) (
 .seq (
 .reg none [
 mV 5 0,
 mV 6 0,
 oN 7 (.nilck (.t 5)),
 oN 8 (.faddr 6 (.t 7)),
 oN 9 (.faddr 4 (.t 8)),
 ⟨none,none, .store 1 (.t 9) (cI 0)⟩,
 oN 10 (.nilck (.t 6)),
 oN 11 (.faddr 6 (.t 10)),
 oN 12 (.faddr 5 (.t 11)),
 ⟨none,none, .store 1 (.t 12) (.c (.bool false))⟩]) (
 .gh [.keep []] (
 .seq (
 .reg none [
 oN 4 (.mov (cI 0))]) (
 .ret))))
def ZFo:AFunc:=⟨13,ZGM,[.tmp 4]⟩
def ZHM:ACode:=
 .seq (
 .reg none [
 oN 4 (.mov (cI 0))]) (
 .seq (
 .reg none [
 mV 5 0,
 oN 6 (.icall 156 [(.t 5)])]) (
 .seq (
 .reg none [
 oN 4 (.mov (cI 0))]) (
 .ret)))
def ZFN:AFunc:=⟨7,ZHM,[.tmp 4]⟩
def ZGk:ACode:=
 .seq (
 .reg none [
 oN 1 (.box 136002 26 (.t 0)),
 oN 2 (.alloc 136003 195 (.agg (.gen [(.int .i64 0),(.int .i64 0)]))),
 oN 3 (.mov (cI 0))]) (
 .seq (
 .reg none [
 oN 4 (.alloc 136005 236 (.agg (.gen [(.int .i64 0),(.int .i64 0),(.int .i64 0)])))]) (
 .seq (
 .reg none [
 oN 5 (.alloc 136006 237 (.val .nilFunc)),
 ⟨none,none, .store 1 (.t 5) (.c (.fn 158 []))⟩]) (
 .seq (
 .reg (some [(0,6),(0,7),(1,6),(1,7),(2,6),(2,7),(3,6),(3,7),(3,8),(4,6),(4,7),(4,8),(5,6),(5,7),(5,8),(6,7)]) [
 oN 8 (.faddr 0 (.t 1)),
 oN 9 (.load false 1 (.t 8)),
 oN 10 (.len (.t 9)),
 oN 11 (.faddr 1 (.t 1)),
 oN 12 (.load false 1 (.t 11)),
 oN 13 (.len (.t 12)),
 oN 6 (.alloc 136007 3 (.int .i64 0)),
 oN 7 (.alloc 136008 3 (.int .i64 0)),
 ⟨none,none, .store 1 (.t 6) (.t 10)⟩,
 ⟨none,none, .store 1 (.t 7) (.t 13)⟩]) (
 .gh [.keep [1,2,4,5,6,7]] (
 .seq (
 .reg none [
 oN 14 (.load false 1 (.t 6)),
 oN 15 (.mkfn 160 [(.t 1)]),
 oN 16 (.icall 159 [(.t 4),(cI 1),(.t 14),(cI 1),(cI 6),(.t 15),(.c (.fn 161 []))])]) (
 .seq (
 .reg none [
 oN 17 (.load false 1 (.t 7)),
 oN 18 (.mkfn 162 [(.t 1)]),
 oN 19 (.mkfn 163 [(.t 5),(.t 1),(.t 6)]),
 oN 20 (.icall 159 [(.t 4),(cI 2),(.t 17),(cI 1),(cI 8),(.t 18),(.t 19)])]) (
 .seq (
 .reg none [
 oN 21 (.faddr 2 (.t 1)),
 oN 22 (.load false 1 (.t 21)),
 oN 23 (.len (.t 22)),
 oN 24 (.mkfn 164 [(.t 1)]),
 oN 25 (.mkfn 165 [(.t 1),(.t 7),(.t 5),(.t 6)]),
 oN 26 (.icall 159 [(.t 4),(cI 3),(.t 23),(cI 0),(cI 10),(.t 24),(.t 25)])]) (
 .gh [.keep [2,4]] (
 .seq (
 .reg (some [(2,4),(3,4)]) [
 oN 27 (.faddr 0 (.t 4)),
 oN 28 (.load true 2 (.t 27)),
 oN 29 (.faddr 2 (.t 4)),
 oN 30 (.load false 1 (.t 29)),
 ⟨none,none, .store 2 (.t 2) (.t 28)⟩,
 mV 3 30]) (
 .ret))))))))))
def a136:AFunc:=⟨31,ZGk,[.cell 2 true 2, .tmp 3]⟩
def Zoq:ACode:=
 .seq (
 .reg none [
 oN 9 (.bin .lss (.t 8) (.t 7))]) (
 .seq (
 .cond (.t 9) (
 .skip) (
 .exit 0)) (
 .seq (
 .block 1 (
 .seq (
 .reg none [
 mV 10 8,
 mV 5 10]) (
 .seq (
 .reg none [
 mV 11 1,
 mV 12 0,
 mV 13 5,
 oN 14 (.iaddr 1 (.t 12) (.t 13)),
 oN 15 (.load false 1 (.t 14)),
 oN 16 (.ncallv true 0 (.t 11) [(.t 15)])]) (
 .cond (.t 16) (
 .seq (
 .reg none [
 mV 17 5,
 mV 4 17]) (
 .ret)) (
 .skip))))) (
 .reg none [
 oN 18 (.bin .add (.t 8) (cI 1)),
 mV 8 18])))
def Zr0:ACode:=.gh [.keep [0,1,7,8]] (.gh [] Zoq)
def Zso:List AItem:=.inLoop Zr0::[.inBlock 0,
 .code (.seq (
 .reg none [
 oN 4 (.mov (cI (-1)))]) (
 .ret))]
def ZGp:ACode:=
 .seq (
 .reg none [
 oN 4 (.mov (cI 0))]) (
 .seq (
 .seq (
 .reg none [
 mV 6 0,
 oN 7 (.len (.t 6)),
 oN 8 (.mov (cI 0))]) (
 .block 0 (
 .loop Zr0))) (
 .seq (
 .reg none [
 oN 4 (.mov (cI (-1)))]) (
 .ret)))
def ZFp:AFunc:=⟨19,ZGp,[.tmp 4]⟩
def ZIg:ACode:=
 .seq (
 .reg none [
 oN 2 (.mov (.c (.str [])))]) (
 .seq (
 .reg none [
 mV 3 0,
 oN 4 (.ncall true 0 166 [(.t 3)]),
 mV 2 4]) (
 .ret))
def ZFO:AFunc:=⟨5,ZIg,[.tmp 2]⟩
def ZHB:ACode:=
 .seq (
 .reg none [
 oN 2 (.mov (.c .nils))]) (
 .seq (
 .seq (
 .reg none [
 mV 3 0,
 oN 4 (.isnil false (.t 3))]) (
 .cond (.t 4) (
 .seq (
 .reg none [
 oN 2 (.mov (.c .nils))]) (
 .ret)) (
 .skip))) (
 .seq (
 .reg none [
 oN 5 (.bslice 140006 3 1 []),
 mV 6 0,
 oN 7 (.append 140008 3 1 (.t 5) (.t 6)),
 mV 2 7]) (
 .ret)))
def a140:AFunc:=⟨8,ZHB,[.tmp 2]⟩
def ZIq:ACode:=
 .seq (
 .reg none [
 mV 4 0,
 oN 5 (.ncall true 0 174 [(.t 4)])]) (
 .seq (
 .seq (
 .reg none [
 mV 6 1,
 oN 7 (.bin .lss (.t 6) (cI 0))]) (
 .cond (.t 7) (
 .junk /- op makeInterface -/) (
 .skip))) (
 .seq (
 .reg (some []) [
 mV 9 0,
 oN 10 (.nilck (.t 9)),
 oN 11 (.faddr 1 (.t 10)),
 oN 12 (.load false 1 (.t 11)),
 oN 13 (.capl (.t 12)),
 mV 14 0,
 oN 15 (.nilck (.t 14)),
 oN 16 (.faddr 1 (.t 15)),
 oN 17 (.load false 1 (.t 16)),
 oN 18 (.len (.t 17)),
 oN 19 (.bin .sub (.t 13) (.t 18)),
 mV 20 1,
 oN 21 (.bin .lss (.t 19) (.t 20))]) (
 .gh [.keep [0,1,21]] (
 .cond (.t 21) (
 .reg none [
 mV 22 0,
 mV 23 1,
 oN 24 (.ncall true 0 175 [(.t 22),(.t 23)])]) (
 .skip)))))
def ZFs:AFunc:=⟨25,ZIq,[]⟩
def ZHf:ACode:=
 .seq (
 .reg none [
 oN 2 (.mov (.c (.str [])))]) (
 .seq (
 .junk /- builtin unsafeSliceData -/) (
 .gh [.keep [2]] (
 .ret)))
def ZFx:AFunc:=⟨14,ZHf,[.tmp 2]⟩
def ZGy:ACode:=
 .seq (
 .reg none [
 oN 4 (.alloc 149005 195 (.agg (.gen [(.int .i64 0),(.int .i64 0)])))]) (
 .seq (
 .reg none [
 mV 5 0,
 mV 6 1,
 oN 7 (.build (.gen [(.int .i64 0),(.int .i64 0)]) [(0,1,(.t 5)),(1,1,(.t 6))]),
 ⟨none,none, .store 2 (.t 4) (.t 7)⟩]) (
 .ret))
def ZET:AFunc:=⟨8,ZGy,[.cell 4 true 2]⟩
def Zss:ACode:=
 .seq (
 .reg none [
 oN 2 (.mov (.c (.bool true)))]) (
 .ret)
def ZrJ:ACode:=
 .seq (
 .seq (
 .reg none [
 mV 14 3,
 mV 15 0,
 oN 16 (.slen (.t 15)),
 oN 17 (.bin .lss (.t 14) (.t 16))]) (
 .cond (.t 17) (
 .skip) (
 .exit 0))) (
 .seq (
 .block 1 (
 .seq (
 .reg none [
 mV 20 0,
 mV 21 3,
 oN 22 (.sidx (.t 20) (.t 21)),
 mV 4 22]) (
 .seq (
 .reg none [
 mV 23 4,
 oN 24 (.bin .geq (.t 23) (.c (.int .u8 97))),
 mV 25 24,
 ⟨some 26,(some (25,true)), .mov (.t 4)⟩,
 ⟨some 27,(some (25,true)), .bin .leq (.t 26) (.c (.int .u8 122))⟩,
 oN 28 (.pick (.t 25) (.t 27) (.c (.bool false))),
 mV 29 28,
 ⟨some 30,(some (29,false)), .mov (.t 4)⟩,
 ⟨some 31,(some (29,false)), .bin .geq (.t 30) (.c (.int .u8 65))⟩,
 ⟨some 32,(some (29,false)), .mov (.t 31)⟩,
 ⟨some 33,(some (32,true)), .mov (.t 4)⟩,
 ⟨some 34,(some (32,true)), .bin .leq (.t 33) (.c (.int .u8 90))⟩,
 ⟨some 35,(some (29,false)), .pick (.t 32) (.t 34) (.c (.bool false))⟩,
 oN 36 (.pick (.t 29) (.c (.bool true)) (.t 35)),
 mV 5 36]) (
 .gh [.keep [0,3,4,5]] (
 .seq (
 .reg none [
 mV 37 5,
 oN 38 (.not (.t 37)),
 mV 39 38,
 ⟨some 40,(some (39,true)), .mov (.t 3)⟩,
 ⟨some 41,(some (39,true)), .bin .eql (.t 40) (cI 0)⟩,
 ⟨some 42,(some (39,true)), .mov (.t 41)⟩,
 ⟨some 43,(some (42,false)), .mov (.t 4)⟩,
 ⟨some 44,(some (42,false)), .bin .neq (.t 43) (.c (.int .u8 45))⟩,
 ⟨some 45,(some (42,false)), .mov (.t 44)⟩,
 ⟨some 46,(some (45,true)), .mov (.t 4)⟩,
 ⟨some 47,(some (45,true)), .bin .lss (.t 46) (.c (.int .u8 48))⟩,
 ⟨some 48,(some (45,true)), .mov (.t 47)⟩,
 ⟨some 49,(some (48,false)), .mov (.t 4)⟩,
 ⟨some 50,(some (48,false)), .bin .gtr (.t 49) (.c (.int .u8 57))⟩,
 ⟨some 51,(some (45,true)), .pick (.t 48) (.c (.bool true)) (.t 50)⟩,
 ⟨some 52,(some (42,false)), .pick (.t 45) (.t 51) (.c (.bool false))⟩,
 ⟨some 53,(some (39,true)), .pick (.t 42) (.c (.bool true)) (.t 52)⟩,
 oN 54 (.pick (.t 39) (.t 53) (.c (.bool false)))]) (
 .gh [.keep [0,3,54]] (
 .cond (.t 54) (
 .seq (
 .reg none [
 oN 2 (.mov (.c (.bool false)))]) (
 .ret)) (
 .skip)))))))) (
 .reg none [
 mV 18 3,
 oN 19 (.bin .add (.t 18) (cI 1)),
 mV 3 19]))
def ZrO:ACode:=.gh [.keep [0,3]] (.gh [] ZrJ)
def ZAf:List AItem:=.inLoop ZrO::[.inBlock 0,
 .code Zss]
def ZG6:ACode:=
 .seq (
 .reg none [
 oN 2 (.mov (.c (.bool false)))]) (
 .seq (
 .seq (
 .reg none [
 mV 6 0,
 oN 7 (.slen (.t 6)),
 oN 8 (.bin .lss (.t 7) (cI 1)),
 mV 9 8,
 ⟨some 10,(some (9,false)), .mov (.t 0)⟩,
 ⟨some 11,(some (9,false)), .slen (.t 10)⟩,
 ⟨some 12,(some (9,false)), .bin .gtr (.t 11) (cI 12)⟩,
 oN 13 (.pick (.t 9) (.c (.bool true)) (.t 12))]) (
 .gh [.keep [0,13]] (
 .cond (.t 13) (
 .seq (
 .reg none [
 oN 2 (.mov (.c (.bool false)))]) (
 .ret)) (
 .skip)))) (
 .seq (
 .seq (
 .reg none [
 oN 3 (.mov (cI 0))]) (
 .block 0 (
 .loop ZrO))) Zss))
def a150:AFunc:=⟨55,ZG6,[.tmp 2]⟩
def Zsj:ACode:=
 .seq (
 .reg none [
 oN 4 (.mov (.c (.bool false)))]) (
 .ret)
def ZnH:ACode:=
 .seq (
 .seq (
 .reg none [
 mV 6 5,
 mV 7 0,
 oN 8 (.len (.t 7)),
 oN 9 (.bin .lss (.t 6) (.t 8))]) (
 .cond (.t 9) (
 .skip) (
 .exit 0))) (
 .seq (
 .block 1 (
 .seq (
 .reg none [
 mV 12 0,
 mV 13 5,
 oN 14 (.iaddr 1 (.t 12) (.t 13)),
 oN 15 (.load false 1 (.t 14)),
 mV 16 1,
 oN 17 (.bin .eql (.t 15) (.t 16))]) (
 .cond (.t 17) (
 .seq (
 .reg none [
 oN 4 (.mov (.c (.bool true)))]) (
 .ret)) (
 .skip)))) (
 .reg none [
 mV 10 5,
 oN 11 (.bin .add (.t 10) (cI 1)),
 mV 5 11]))
def ZsA:ACode:=.gh [.keep [0,1,5]] (.gh [] ZnH)
def Zsb:List AItem:=.inLoop ZsA::[.inBlock 0,
 .code Zsj]
def ZGX:ACode:=
 .seq (
 .reg none [
 oN 4 (.mov (.c (.bool false)))]) (
 .seq (
 .seq (
 .reg none [
 oN 5 (.mov (cI 0))]) (
 .block 0 (
 .loop ZsA))) Zsj)
def a151:AFunc:=⟨18,ZGX,[.tmp 4]⟩
def ZGD:ACode:=
 .seq (
 .reg none [
 oN 4 (.mov (.c (.int .u64 0))),
 oN 5 (.mov (.c (.int .u64 0)))]) (
 .seq (
 .cond (.c (.bool false)) (
 .seq (
 .reg none [
 mV 11 0,
 oN 12 (.conv .u32 (.t 11)),
 mV 13 1,
 oN 14 (.conv .u32 (.t 13)),
 oN 15 (.ncall true 0 178 [(.t 12),(.t 14)]),
 mV 10 15,
 oN 16 (.ext 0 (.t 10)),
 oN 17 (.ext 1 (.t 10)),
 mV 6 16,
 mV 7 17]) (
 .gh [.keep [6,7]] (
 .seq (
 .reg none [
 mV 18 6,
 oN 19 (.conv .u64 (.t 18)),
 mV 20 7,
 oN 21 (.conv .u64 (.t 20)),
 mV 4 19,
 mV 5 21]) (
 .ret)))) (
 .skip)) (
 .seq (
 .reg none [
 mV 23 0,
 mV 24 1,
 oN 25 (.ncall true 0 179 [(.t 23),(.t 24)]),
 mV 22 25,
 oN 26 (.ext 0 (.t 22)),
 oN 27 (.ext 1 (.t 22)),
 mV 8 26,
 mV 9 27]) (
 .gh [.keep [8,9]] (
 .seq (
 .reg none [
 mV 28 8,
 mV 29 9,
 mV 4 28,
 mV 5 29]) (
 .ret)))))
def ZE2:AFunc:=⟨30,ZGD,[.tmp 4, .tmp 5]⟩
def ZGr:ACode:=
 .seq (
 .reg none [
 oN 2 (.mov (.c .nils))]) (
 .seq (
 .seq (
 .reg none [
 mV 3 0,
 oN 4 (.isnil false (.t 3))]) (
 .cond (.t 4) (
 .seq (
 .reg none [
 oN 2 (.mov (.c .nils))]) (
 .ret)) (
 .skip))) (
 .seq (
 .reg none [
 oN 5 (.bslice 153006 78 2 []),
 mV 6 0,
 oN 7 (.append 153008 78 2 (.t 5) (.t 6)),
 mV 2 7]) (
 .ret)))
def a153:AFunc:=⟨8,ZGr,[.tmp 2]⟩
def ZHU:ACode:=
 .seq (
 .reg none [
 oN 2 (.mov (.c .nils))]) (
 .seq (
 .seq (
 .reg none [
 mV 3 0,
 oN 4 (.isnil false (.t 3))]) (
 .cond (.t 4) (
 .seq (
 .reg none [
 oN 2 (.mov (.c .nils))]) (
 .ret)) (
 .skip))) (
 .seq (
 .reg none [
 oN 5 (.bslice 154006 129 2 []),
 mV 6 0,
 oN 7 (.append 154008 129 2 (.t 5) (.t 6)),
 mV 2 7]) (
 .ret)))
def a154:AFunc:=⟨8,ZHU,[.tmp 2]⟩
def ZHw:ACode:=
 .seq (
 .reg none [
 oN 4 (.mov (cI 0)),
 oN 5 (.mov (.c (.bool false)))]) (
 .seq (
 .reg none [
 oN 6 (.mov (cI 0))]) (
 .seq (
 .seq (
 .reg none [
 mV 7 1,
 mV 8 0,
 oN 9 (.nilck (.t 8)),
 oN 10 (.load false 1 (.t 9)),
 oN 11 (.len (.t 10)),
 oN 12 (.bin .geq (.t 7) (.t 11))]) (
 .cond (.t 12) (
 .seq (
 .reg none [
 mV 13 6,
 mV 4 13,
 oN 5 (.mov (.c (.bool false)))]) (
 .ret)) (
 .skip))) (
 .seq (
 .reg none [
 mV 14 0,
 oN 15 (.nilck (.t 14)),
 oN 16 (.load false 1 (.t 15)),
 mV 17 1,
 oN 18 (.iaddr 1 (.t 16) (.t 17)),
 oN 19 (.load false 1 (.t 18)),
 mV 6 19]) (
 .gh [.keep [0,1,6]] (
 .seq (
 .reg none [
 mV 20 0,
 mV 21 0,
 oN 22 (.nilck (.t 21)),
 oN 23 (.load false 1 (.t 22)),
 mV 24 1,
 mV 25 1,
 oN 26 (.bin .add (.t 25) (cI 1)),
 oN 27 (.icall 180 [(.t 23),(.t 24),(.t 26)]),
 oN 28 (.nilck (.t 20)),
 ⟨none,none, .stores 1 (.t 28) (.t 27)⟩]) (
 .gh [.keep [6]] (
 .seq (
 .reg none [
 mV 29 6,
 mV 4 29,
 oN 5 (.mov (.c (.bool true)))]) (
 .ret))))))))
def ZEU:AFunc:=⟨30,ZHw,[.tmp 4, .tmp 5]⟩
def ZHA:ACode:=
 .seq (
 .reg (some []) [
 mV 2 0,
 oN 3 (.nilck (.t 2)),
 oN 4 (.faddr 6 (.t 3)),
 oN 5 (.faddr 7 (.t 4)),
 oN 6 (.load false 1 (.t 5)),
 oN 7 (.len (.t 6)),
 mV 8 0,
 oN 9 (.nilck (.t 8)),
 oN 10 (.faddr 0 (.t 9)),
 oN 11 (.faddr 5 (.t 10)),
 oN 12 (.load false 1 (.t 11)),
 oN 13 (.bin .lss (.t 7) (.t 12))]) (
 .gh [.keep [0,13]] (
 .cond (.t 13) (
 .reg (some [(0,18),(0,19),(1,18),(2,18),(3,18),(4,18),(5,18)]) [
 mV 14 0,
 mV 15 0,
 oN 16 (.nilck (.t 15)),
 oN 17 (.faddr 6 (.t 16)),
 oN 18 (.faddr 7 (.t 17)),
 oN 19 (.load false 1 (.t 18)),
 mV 20 0,
 oN 21 (.nilck (.t 20)),
 oN 22 (.faddr 6 (.t 21)),
 oN 23 (.faddr 2 (.t 22)),
 oN 24 (.load false 1 (.t 23)),
 oN 25 (.len (.t 24)),
 mV 26 0,
 oN 27 (.nilck (.t 26)),
 oN 28 (.faddr 6 (.t 27)),
 oN 29 (.faddr 3 (.t 28)),
 oN 30 (.load false 1 (.t 29)),
 oN 31 (.build (.gen [(.int .i64 0),(.bool false)]) [(0,1,(.t 25)),(1,1,(.t 30))]),
 oN 32 (.bslice 156033 129 2 [(.t 31)]),
 oN 33 (.append 156034 129 2 (.t 19) (.t 32)),
 oN 34 (.nilck (.t 14)),
 oN 35 (.faddr 6 (.t 34)),
 oN 36 (.faddr 7 (.t 35)),
 ⟨none,none, .store 1 (.t 36) (.t 33)⟩]) (
 .skip)))
def ZFr:AFunc:=⟨37,ZHA,[]⟩
def ZGV:ACode:=
 .seq (
 .reg none [
 oN 4 (.alloc 157005 129 (.agg (.gen [(.int .i64 0),(.bool false)]))),
 oN 5 (.mov (.c (.bool false)))]) (
 .seq (
 .reg none [
 oN 6 (.alloc 157007 129 (.agg (.gen [(.int .i64 0),(.bool false)])))]) (
 .seq (
 .seq (
 .reg none [
 mV 7 1,
 mV 8 0,
 oN 9 (.nilck (.t 8)),
 oN 10 (.load false 1 (.t 9)),
 oN 11 (.len (.t 10)),
 oN 12 (.bin .geq (.t 7) (.t 11))]) (
 .cond (.t 12) (
 .seq (
 .reg none [
 oN 13 (.load true 2 (.t 6)),
 ⟨none,none, .store 2 (.t 4) (.t 13)⟩,
 oN 5 (.mov (.c (.bool false)))]) (
 .ret)) (
 .skip))) (
 .seq (
 .reg none [
 mV 14 0,
 oN 15 (.nilck (.t 14)),
 oN 16 (.load false 1 (.t 15)),
 mV 17 1,
 oN 18 (.iaddr 2 (.t 16) (.t 17)),
 oN 19 (.load true 2 (.t 18)),
 ⟨none,none, .store 2 (.t 6) (.t 19)⟩]) (
 .gh [.keep [0,1,4,6]] (
 .seq (
 .reg none [
 mV 20 0,
 mV 21 0,
 oN 22 (.nilck (.t 21)),
 oN 23 (.load false 1 (.t 22)),
 mV 24 1,
 mV 25 1,
 oN 26 (.bin .add (.t 25) (cI 1)),
 oN 27 (.icall 181 [(.t 23),(.t 24),(.t 26)]),
 oN 28 (.nilck (.t 20)),
 ⟨none,none, .stores 1 (.t 28) (.t 27)⟩]) (
 .gh [.keep [4,6]] (
 .seq (
 .reg none [
 oN 29 (.load true 2 (.t 6)),
 ⟨none,none, .store 2 (.t 4) (.t 29)⟩,
 oN 5 (.mov (.c (.bool true)))]) (
 .ret))))))))
def ZFG:AFunc:=⟨30,ZGV,[.cell 4 true 2, .tmp 5]⟩
def ZGZ:ACode:=
 .seq (
 .reg none [
 oN 4 (.mov (.c (.bool false)))]) (
 .seq (
 .reg none [
 mV 5 0,
 oN 6 (.bin .eql (.t 5) (cI (-1))),
 mV 7 6,
 ⟨some 8,(some (7,false)), .mov (.t 0)⟩,
 ⟨some 9,(some (7,false)), .mov (.t 1)⟩,
 ⟨some 10,(some (7,false)), .bin .sub (.t 9) (cI 1)⟩,
 ⟨some 11,(some (7,false)), .ncall true 0 82 [(.t 8),(cI 0),(.t 10)]⟩,
 oN 12 (.pick (.t 7) (.c (.bool true)) (.t 11)),
 mV 4 12]) (
 .gh [.keep [4]] (
 .ret)))
def a158:AFunc:=⟨13,ZGZ,[.tmp 4]⟩
def Zmj:ACode:=
 .seq (
 .reg none [
 oN 47 (.bin .lss (.t 46) (.t 45))]) (
 .seq (
 .cond (.t 47) (
 .skip) (
 .exit 0)) (
 .seq (
 .block 1 (
 .seq (
 .reg none [
 mV 48 46,
 mV 16 48]) (
 .seq (
 .seq (
 .reg none [
 mV 49 5,
 mV 50 16,
 oN 51 (.ncallv true 0 (.t 49) [(.t 50)]),
 oN 52 (.ncall true 0 182 [(.t 51)]),
 oN 53 (.ncall true 0 68 [(.t 52),(cI 4)]),
 mV 54 15,
 mV 55 5,
 mV 56 16,
 oN 57 (.ncallv true 0 (.t 55) [(.t 56)]),
 oN 58 (.mlook (.t 54) (.t 57)),
 oN 59 (.not (.t 58)),
 oN 60 (.ncall true 0 68 [(.t 59),(cI 5)]),
 mV 61 6,
 mV 62 16,
 oN 63 (.ncallv true 0 (.t 61) [(.t 62)]),
 oN 64 (.bslice 159065 38 1 [(.t 53),(.t 60),(.t 63)]),
 oN 65 (.ncall true 0 67 [(.t 64)]),
 mV 17 65]) (
 .gh [.keep [0,1,5,6,15,16,17,45,46]] (
 .seq (
 .reg none [
 mV 66 17,
 oN 67 (.bin .neq (.t 66) (cI 0))]) (
 .cond (.t 67) (
 .seq (
 .reg none [
 mV 68 0,
 mV 69 0,
 mV 70 1,
 mV 71 16,
 oN 72 (.build (.gen [(.int .i64 0),(.int .i64 0)]) [(0,1,(.t 70)),(1,1,(.t 71))]),
 mV 73 17,
 oN 74 (.nilck (.t 68)),
 oN 75 (.faddr 0 (.t 74)),
 ⟨none,none, .store 2 (.t 75) (.t 72)⟩,
 oN 76 (.nilck (.t 69)),
 oN 77 (.faddr 2 (.t 76)),
 ⟨none,none, .store 1 (.t 77) (.t 73)⟩]) (
 .gh [.keep []] (
 .ret))) (
 .skip))))) (
 .reg none [
 mV 78 15,
 mV 79 5,
 mV 80 16,
 oN 81 (.ncallv true 0 (.t 79) [(.t 80)]),
 ⟨none,none, .mupd (.t 78) (.t 81)⟩])))) (
 .reg none [
 oN 82 (.bin .add (.t 46) (cI 1)),
 mV 46 82])))
def ZrE:ACode:=.gh [.keep [0,1,5,6,15,45,46]] (.gh [] Zmj)
def ZnE:List AItem:=.inLoop ZrE::[.inBlock 0]
def ZIO:ACode:=
 .seq (
 .seq (
 .reg none [
 mV 18 0,
 oN 19 (.nilck (.t 18)),
 oN 20 (.faddr 2 (.t 19)),
 oN 21 (.load false 1 (.t 20)),
 oN 22 (.bin .neq (.t 21) (cI 0))]) (
 .cond (.t 22) (
 .ret) (
 .skip))) (
 .seq (
 .seq (
 .reg none [
 mV 23 2,
 mV 24 3,
 oN 25 (.bin .geq (.t 23) (.t 24)),
 oN 26 (.ncall true 0 68 [(.t 25),(cI 10)]),
 mV 27 2,
 mV 28 4,
 oN 29 (.bin .leq (.t 27) (.t 28)),
 oN 30 (.ncall true 0 68 [(.t 29),(cI 8)]),
 oN 31 (.bslice 159032 38 1 [(.t 26),(.t 30)]),
 oN 32 (.ncall true 0 67 [(.t 31)]),
 mV 14 32]) (
 .gh [.keep [0,1,2,5,6,14]] (
 .seq (
 .reg none [
 mV 33 14,
 oN 34 (.bin .neq (.t 33) (cI 0))]) (
 .cond (.t 34) (
 .seq (
 .reg none [
 mV 35 0,
 mV 36 0,
 mV 37 1,
 oN 38 (.build (.gen [(.int .i64 0),(.int .i64 0)]) [(0,1,(.t 37))]),
 mV 39 14,
 oN 40 (.nilck (.t 35)),
 oN 41 (.faddr 0 (.t 40)),
 ⟨none,none, .store 2 (.t 41) (.t 38)⟩,
 oN 42 (.nilck (.t 36)),
 oN 43 (.faddr 2 (.t 42)),
 ⟨none,none, .store 1 (.t 43) (.t 39)⟩]) (
 .gh [.keep []] (
 .ret))) (
 .skip))))) (
 .seq (
 .reg none [
 oN 44 (.mkmap 159045),
 mV 15 44]) (
 .seq (
 .reg none [
 mV 45 2,
 oN 46 (.mov (cI 0))]) (
 .block 0 (
 .loop ZrE)))))
def ZEG:AFunc:=⟨83,ZIO,[]⟩
def ZH5:ACode:=
 .seq (
 .reg none [
 oN 3 (.mov (.c (.str [])))]) (
 .seq (
 .reg none [
 oN 4 (.faddr 0 (.t 1)),
 oN 5 (.load false 1 (.t 4)),
 mV 6 0,
 oN 7 (.iaddr 1 (.t 5) (.t 6)),
 oN 8 (.load false 1 (.t 7)),
 mV 3 8]) (
 .ret))
def a160:AFunc:=⟨9,ZH5,[.tmp 3]⟩
def ZHr:ACode:=
 .seq (
 .reg none [
 oN 2 (.mov (cI 0))]) (
 .seq (
 .reg none [
 oN 2 (.mov (cI 0))]) (
 .ret))
def a161:AFunc:=⟨3,ZHr,[.tmp 2]⟩
def ZHC:ACode:=
 .seq (
 .reg none [
 oN 3 (.mov (.c (.str [])))]) (
 .seq (
 .reg none [
 oN 4 (.faddr 1 (.t 1)),
 oN 5 (.load false 1 (.t 4)),
 mV 6 0,
 oN 7 (.iaddr 2 (.t 5) (.t 6)),
 oN 8 (.faddr 0 (.t 7)),
 oN 9 (.load false 1 (.t 8)),
 mV 3 9]) (
 .gh [.keep [3]] (
 .ret)))
def a162:AFunc:=⟨10,ZHC,[.tmp 3]⟩
def ZIH:ACode:=
 .seq (
 .reg none [
 oN 5 (.mov (cI 0))]) (
 .seq (
 .reg (some []) [
 oN 6 (.load false 1 (.t 1)),
 oN 7 (.faddr 1 (.t 2)),
 oN 8 (.load false 1 (.t 7)),
 mV 9 0,
 oN 10 (.iaddr 2 (.t 8) (.t 9)),
 oN 11 (.faddr 1 (.t 10)),
 oN 12 (.load false 1 (.t 11)),
 oN 13 (.load false 1 (.t 3)),
 oN 14 (.ncallv true 0 (.t 6) [(.t 12),(.t 13)]),
 oN 15 (.ncall true 0 68 [(.t 14),(cI 6)]),
 mV 5 15]) (
 .gh [.keep [5]] (
 .ret)))
def a163:AFunc:=⟨16,ZIH,[.tmp 5]⟩
def ZF7:ACode:=
 .seq (
 .reg none [
 oN 3 (.mov (.c (.str [])))]) (
 .seq (
 .reg none [
 oN 4 (.faddr 2 (.t 1)),
 oN 5 (.load false 1 (.t 4)),
 mV 6 0,
 oN 7 (.iaddr 5 (.t 5) (.t 6)),
 oN 8 (.faddr 0 (.t 7)),
 oN 9 (.load false 1 (.t 8)),
 mV 3 9]) (
 .gh [.keep [3]] (
 .ret)))
def a164:AFunc:=⟨10,ZF7,[.tmp 3]⟩
def ZGo:ACode:=
 .seq (
 .reg none [
 oN 6 (.mov (cI 0))]) (
 .seq (
 .reg none [
 oN 8 (.faddr 2 (.t 1)),
 oN 9 (.load false 1 (.t 8)),
 mV 10 0,
 oN 11 (.iaddr 5 (.t 9) (.t 10)),
 oN 12 (.load true 5 (.t 11)),
 oN 7 (.alloc 165008 131 (.agg (.gen [(.str []),(.int .i64 0),(.int .i64 0),(.int .i64 0),(.int .i64 0)]))),
 ⟨none,none, .store 5 (.t 7) (.t 12)⟩]) (
 .seq (
 .reg (some []) [
 oN 13 (.faddr 1 (.t 7)),
 oN 14 (.load false 1 (.t 13)),
 oN 15 (.load false 1 (.t 2)),
 oN 16 (.bin .sub (.t 15) (cI 1)),
 oN 17 (.ncall true 0 82 [(.t 14),(cI 0),(.t 16)]),
 mV 18 17,
 ⟨some 19,(some (18,true)), .load false 1 (.t 3)⟩,
 ⟨some 20,(some (18,true)), .faddr 2 (.t 7)⟩,
 ⟨some 21,(some (18,true)), .load false 1 (.t 20)⟩,
 ⟨some 22,(some (18,true)), .load false 1 (.t 4)⟩,
 ⟨some 23,(some (18,true)), .ncallv true 0 (.t 19) [(.t 21),(.t 22)]⟩,
 oN 24 (.pick (.t 18) (.t 23) (.c (.bool false))),
 mV 25 24,
 ⟨some 26,(some (25,true)), .load false 1 (.t 3)⟩,
 ⟨some 27,(some (25,true)), .faddr 3 (.t 7)⟩,
 ⟨some 28,(some (25,true)), .load false 1 (.t 27)⟩,
 ⟨some 29,(some (25,true)), .load false 1 (.t 2)⟩,
 ⟨some 30,(some (25,true)), .ncallv true 0 (.t 26) [(.t 28),(.t 29)]⟩,
 oN 31 (.pick (.t 25) (.t 30) (.c (.bool false))),
 oN 32 (.ncall true 0 68 [(.t 31),(cI 6)]),
 oN 33 (.faddr 4 (.t 7)),
 oN 34 (.load false 1 (.t 33)),
 oN 35 (.ncall true 0 82 [(.t 34),(cI 1),(cI 1000000)]),
 oN 36 (.ncall true 0 68 [(.t 35),(cI 2)]),
 oN 37 (.faddr 3 (.t 7)),
 oN 38 (.load false 1 (.t 37)),
 oN 39 (.bin .neq (.t 38) (cI (-1))),
 mV 40 39,
 ⟨some 41,(some (40,false)), .faddr 4 (.t 7)⟩,
 ⟨some 42,(some (40,false)), .load false 1 (.t 41)⟩,
 ⟨some 43,(some (40,false)), .bin .eql (.t 42) (cI 1)⟩,
 oN 44 (.pick (.t 40) (.c (.bool true)) (.t 43)),
 oN 45 (.ncall true 0 68 [(.t 44),(cI 3)]),
 oN 46 (.bslice 165047 38 1 [(.t 32),(.t 36),(.t 45)]),
 oN 47 (.ncall true 0 67 [(.t 46)]),
 mV 6 47]) (
 .gh [.keep [6]] (
 .ret))))
def a165:AFunc:=⟨48,ZGo,[.tmp 6]⟩
def ZHD:ACode:=
 .seq (
 .reg none [
 oN 2 (.mov (.c (.str [])))]) (
 .seq (
 .reg none [
 mV 3 0,
 oN 4 (.ncall true 0 183 [(.t 3),(cI 10)]),
 mV 2 4]) (
 .ret))
def ZEW:AFunc:=⟨5,ZHD,[.tmp 2]⟩
def ZF5:ACode:=
 .seq (
 .reg none [
 mV 2 0,
 oN 3 (.nilck (.t 2)),
 oN 4 (.faddr 0 (.t 3)),
 oN 5 (.load false 1 (.t 4)),
 oN 6 (.pnil false (.t 5))]) (
 .cond (.t 6) (
 .junk /- convert pointer unsafePointer -/) (
 .seq (
 .reg none [
 mV 14 0,
 oN 15 (.nilck (.t 14)),
 oN 16 (.faddr 0 (.t 15)),
 oN 17 (.load false 1 (.t 16)),
 mV 18 0,
 oN 19 (.bin .neq (.t 17) (.t 18))]) (
 .cond (.t 19) (
 .junk) (
 .skip))))
def ZFL:AFunc:=⟨20,ZF5,[]⟩
def ZHp:ACode:=
 .seq (
 .reg none [
 oN 4 (.mov (.c (.int .u32 0))),
 oN 5 (.mov (.c (.int .u32 0)))]) (
 .seq (
 .reg none [
 mV 7 0,
 oN 8 (.conv .u64 (.t 7)),
 mV 9 1,
 oN 10 (.conv .u64 (.t 9)),
 oN 11 (.bin .mul (.t 8) (.t 10)),
 mV 6 11]) (
 .seq (
 .reg none [
 mV 12 6,
 oN 13 (.bin .shr (.t 12) (.c (.int .u64 32))),
 oN 14 (.conv .u32 (.t 13)),
 mV 15 6,
 oN 16 (.conv .u32 (.t 15)),
 mV 4 14,
 mV 5 16]) (
 .ret)))
def ZFq:AFunc:=⟨17,ZHp,[.tmp 4, .tmp 5]⟩
def ZG0:ACode:=
 .seq (
 .reg none [
 oN 4 (.mov (.c (.int .u64 0))),
 oN 5 (.mov (.c (.int .u64 0)))]) (
 .seq (
 .reg none [
 mV 14 0,
 oN 15 (.bin .and (.t 14) (.c (.int .u64 4294967295))),
 mV 6 15]) (
 .seq (
 .reg none [
 mV 16 0,
 oN 17 (.bin .shr (.t 16) (.c (.int .u64 32))),
 mV 7 17]) (
 .seq (
 .reg none [
 mV 18 1,
 oN 19 (.bin .and (.t 18) (.c (.int .u64 4294967295))),
 mV 8 19]) (
 .seq (
 .reg none [
 mV 20 1,
 oN 21 (.bin .shr (.t 20) (.c (.int .u64 32))),
 mV 9 21]) (
 .seq (
 .reg none [
 mV 22 6,
 mV 23 8,
 oN 24 (.bin .mul (.t 22) (.t 23)),
 mV 10 24]) (
 .seq (
 .reg none [
 mV 25 7,
 mV 26 8,
 oN 27 (.bin .mul (.t 25) (.t 26)),
 mV 28 10,
 oN 29 (.bin .shr (.t 28) (.c (.int .u64 32))),
 oN 30 (.bin .add (.t 27) (.t 29)),
 mV 11 30]) (
 .gh [.keep [0,1,6,7,9,11]] (
 .seq (
 .reg none [
 mV 31 11,
 oN 32 (.bin .and (.t 31) (.c (.int .u64 4294967295))),
 mV 12 32]) (
 .seq (
 .reg none [
 mV 33 11,
 oN 34 (.bin .shr (.t 33) (.c (.int .u64 32))),
 mV 13 34]) (
 .seq (
 .reg none [
 mV 35 12,
 mV 36 6,
 mV 37 9,
 oN 38 (.bin .mul (.t 36) (.t 37)),
 oN 39 (.bin .add (.t 35) (.t 38)),
 mV 12 39]) (
 .seq (
 .reg none [
 mV 40 7,
 mV 41 9,
 oN 42 (.bin .mul (.t 40) (.t 41)),
 mV 43 13,
 oN 44 (.bin .add (.t 42) (.t 43)),
 mV 45 12,
 oN 46 (.bin .shr (.t 45) (.c (.int .u64 32))),
 oN 47 (.bin .add (.t 44) (.t 46)),
 mV 4 47]) (
 .gh [.keep [0,1,4]] (
 .seq (
 .reg none [
 mV 48 0,
 mV 49 1,
 oN 50 (.bin .mul (.t 48) (.t 49)),
 mV 5 50]) (
 .ret))))))))))))))
def ZE1:AFunc:=⟨51,ZG0,[.tmp 4, .tmp 5]⟩
def ZHk:ACode:=
 .seq (
 .reg none [
 oN 6 (.mov (.c .nils))]) (
 .seq (
 .reg none [
 mV 8 0,
 mV 9 1,
 mV 10 2,
 mV 11 0,
 oN 12 (.len (.t 11)),
 oN 13 (.slc 1 (.t 8) (some (.t 9)) (some (.t 10)) (some (.t 12)))]) (
 .gh [.keep [0,1,2]] (
 .seq (
 .seq (
 .reg none [
 mV 14 1,
 mV 15 2,
 oN 16 (.bin .eql (.t 14) (.t 15))]) (
 .cond (.t 16) (
 .seq (
 .reg none [
 mV 17 0,
 mV 6 17]) (
 .ret)) (
 .skip))) (
 .seq (
 .reg none [
 mV 18 0,
 oN 19 (.len (.t 18)),
 mV 7 19]) (
 .seq (
 .reg (some []) [
 mV 20 0,
 mV 21 1,
 oN 22 (.slc 1 (.t 20) none (some (.t 21)) none),
 mV 23 0,
 mV 24 2,
 oN 25 (.slc 1 (.t 23) (some (.t 24)) none none),
 oN 26 (.append 180027 3 1 (.t 22) (.t 25)),
 mV 0 26]) (
 .gh [.keep [0,7]] (
 .seq (
 .reg none [
 mV 27 0,
 mV 28 0,
 oN 29 (.len (.t 28)),
 mV 30 7,
 oN 31 (.slc 1 (.t 27) (some (.t 29)) (some (.t 30)) none),
 ⟨none,none, .clr 3 1 (.int .i64 0) (.t 31)⟩]) (
 .seq (
 .reg none [
 mV 32 0,
 mV 6 32]) (
 .ret)))))))))
def ZFK:AFunc:=⟨33,ZHk,[.tmp 6]⟩
def ZHL:ACode:=
 .seq (
 .reg none [
 oN 6 (.mov (.c .nils))]) (
 .seq (
 .reg none [
 mV 8 0,
 mV 9 1,
 mV 10 2,
 mV 11 0,
 oN 12 (.len (.t 11)),
 oN 13 (.slc 2 (.t 8) (some (.t 9)) (some (.t 10)) (some (.t 12)))]) (
 .gh [.keep [0,1,2]] (
 .seq (
 .seq (
 .reg none [
 mV 14 1,
 mV 15 2,
 oN 16 (.bin .eql (.t 14) (.t 15))]) (
 .cond (.t 16) (
 .seq (
 .reg none [
 mV 17 0,
 mV 6 17]) (
 .ret)) (
 .skip))) (
 .seq (
 .reg none [
 mV 18 0,
 oN 19 (.len (.t 18)),
 mV 7 19]) (
 .seq (
 .reg (some []) [
 mV 20 0,
 mV 21 1,
 oN 22 (.slc 2 (.t 20) none (some (.t 21)) none),
 mV 23 0,
 mV 24 2,
 oN 25 (.slc 2 (.t 23) (some (.t 24)) none none),
 oN 26 (.append 181027 129 2 (.t 22) (.t 25)),
 mV 0 26]) (
 .gh [.keep [0,7]] (
 .seq (
 .reg none [
 mV 27 0,
 mV 28 0,
 oN 29 (.len (.t 28)),
 mV 30 7,
 oN 31 (.slc 2 (.t 27) (some (.t 29)) (some (.t 30)) none),
 ⟨none,none, .clr 129 2 (.agg (.gen [(.int .i64 0),(.bool false)])) (.t 31)⟩]) (
 .seq (
 .reg none [
 mV 32 0,
 mV 6 32]) (
 .ret)))))))))
def ZE3:AFunc:=⟨33,ZHL,[.tmp 6]⟩
def ZrL:ACode:=
 .seq (
 .reg none [
 mV 47 0,
 oN 48 (.bin .neq (.t 47) (.c (.str []))),
 mV 49 48,
 ⟨some 50,(some (49,true)), .mov (.t 0)⟩,
 ⟨some 51,(some (49,true)), .slen (.t 50)⟩,
 ⟨some 52,(some (49,true)), .bin .leq (.t 51) (cI 12)⟩,
 oN 53 (.pick (.t 49) (.t 52) (.c (.bool false))),
 mV 2 53]) (
 .gh [.keep [2]] (
 .ret))
def Zse:ACode:=
 .seq (
 .reg none [
 oN 10 (.bin .lss (.t 9) (.t 8))]) (
 .seq (
 .cond (.t 10) (
 .skip) (
 .exit 0)) (
 .seq (
 .block 1 (
 .seq (
 .reg none [
 mV 11 9,
 oN 12 (.iaddr 1 (.t 7) (.t 9)),
 oN 13 (.load false 1 (.t 12)),
 mV 3 11,
 mV 4 13]) (
 .seq (
 .reg none [
 mV 14 4,
 oN 15 (.bin .geq (.t 14) (.c (.int .u8 97))),
 mV 16 15,
 ⟨some 17,(some (16,true)), .mov (.t 4)⟩,
 ⟨some 18,(some (16,true)), .bin .leq (.t 17) (.c (.int .u8 122))⟩,
 oN 19 (.pick (.t 16) (.t 18) (.c (.bool false))),
 mV 20 19,
 ⟨some 21,(some (20,false)), .mov (.t 4)⟩,
 ⟨some 22,(some (20,false)), .bin .geq (.t 21) (.c (.int .u8 65))⟩,
 ⟨some 23,(some (20,false)), .mov (.t 22)⟩,
 ⟨some 24,(some (23,true)), .mov (.t 4)⟩,
 ⟨some 25,(some (23,true)), .bin .leq (.t 24) (.c (.int .u8 90))⟩,
 ⟨some 26,(some (20,false)), .pick (.t 23) (.t 25) (.c (.bool false))⟩,
 oN 27 (.pick (.t 20) (.c (.bool true)) (.t 26)),
 mV 5 27]) (
 .gh [.keep [0,3,4,5,7,8,9]] (
 .seq (
 .reg none [
 mV 28 5,
 oN 29 (.not (.t 28)),
 mV 30 29,
 ⟨some 31,(some (30,true)), .mov (.t 3)⟩,
 ⟨some 32,(some (30,true)), .bin .eql (.t 31) (cI 0)⟩,
 ⟨some 33,(some (30,true)), .mov (.t 32)⟩,
 ⟨some 34,(some (33,false)), .mov (.t 4)⟩,
 ⟨some 35,(some (33,false)), .bin .neq (.t 34) (.c (.int .u8 45))⟩,
 ⟨some 36,(some (33,false)), .mov (.t 35)⟩,
 ⟨some 37,(some (36,true)), .mov (.t 4)⟩,
 ⟨some 38,(some (36,true)), .bin .lss (.t 37) (.c (.int .u8 48))⟩,
 ⟨some 39,(some (36,true)), .mov (.t 38)⟩,
 ⟨some 40,(some (39,false)), .mov (.t 4)⟩,
 ⟨some 41,(some (39,false)), .bin .gtr (.t 40) (.c (.int .u8 57))⟩,
 ⟨some 42,(some (36,true)), .pick (.t 39) (.c (.bool true)) (.t 41)⟩,
 ⟨some 43,(some (33,false)), .pick (.t 36) (.t 42) (.c (.bool false))⟩,
 ⟨some 44,(some (30,true)), .pick (.t 33) (.c (.bool true)) (.t 43)⟩,
 oN 45 (.pick (.t 30) (.t 44) (.c (.bool false)))]) (
 .gh [.keep [0,7,8,9,45]] (
 .cond (.t 45) (
 .seq (
 .reg none [
 oN 2 (.mov (.c (.bool false)))]) (
 .ret)) (
 .skip)))))))) (
 .reg none [
 oN 46 (.bin .add (.t 9) (cI 1)),
 mV 9 46])))
def ZrW:ACode:=.gh [.keep [0,7,8,9]] (.gh [] Zse)
def Zxa:List AItem:=.inLoop ZrW::[.inBlock 0,
 .code ZrL]
def ZGn:ACode:=
 .seq (
 .reg none [
 oN 2 (.mov (.c (.bool false)))]) (
 .seq (
 .seq (
 .reg none [
 mV 6 0,
 oN 7 (.s2b (.t 6)),
 oN 8 (.len (.t 7)),
 oN 9 (.mov (cI 0))]) (
 .block 0 (
 .loop ZrW))) ZrL)
def a182:AFunc:=⟨54,ZGn,[.tmp 2]⟩
def ZF1:ACode:=
 .seq (
 .reg none [
 oN 4 (.mov (.c (.str [])))]) (
 .seq (
 .seq (
 .reg none [
 mV 10 1,
 oN 11 (.bin .eql (.t 10) (cI 10))]) (
 .cond (.t 11) (
 .seq (
 .seq (
 .reg none [
 mV 12 0,
 oN 13 (.bin .leq (cI 0) (.t 12)),
 mV 14 13,
 ⟨some 15,(some (14,true)), .mov (.t 0)⟩,
 ⟨some 16,(some (14,true)), .bin .lss (.t 15) (cI 100)⟩,
 oN 17 (.pick (.t 14) (.t 16) (.c (.bool false)))]) (
 .cond (.t 17) (
 .seq (
 .reg none [
 mV 18 0,
 oN 19 (.ncall true 0 198 [(.t 18)]),
 mV 4 19]) (
 .ret)) (
 .skip))) (
 .seq (
 .reg none [
 oN 5 (.alloc 183006 266 (.agg (.ints .u8 [0,0,0,0,0,0,0,0,0,0,0,0,0,0,0,0,0,0,0,0,0,0,0,0])))]) (
 .seq (
 .reg none [
 mV 20 0,
 oN 21 (.conv .u64 (.t 20)),
 mV 6 21]) (
 .seq (
 .seq (
 .reg none [
 mV 22 0,
 oN 23 (.bin .lss (.t 22) (cI 0))]) (
 .cond (.t 23) (
 .reg none [
 mV 24 6,
 oN 25 (.neg (.t 24)),
 mV 6 25]) (
 .skip))) (
 .seq (
 .reg none [
 mV 26 6,
 oN 27 (.ncall true 0 199 [(.t 26)]),
 mV 7 27]) (
 .seq (
 .reg none [
 mV 28 7,
 oN 29 (.bin .add (cI 1) (.t 28)),
 oN 30 (.asl 24 (.t 5) (some (cI 1)) (some (.t 29))),
 mV 31 6,
 oN 32 (.ncall true 0 200 [(.t 30),(.t 31)])]) (
 .seq (
 .seq (
 .reg none [
 mV 33 0,
 oN 34 (.bin .lss (.t 33) (cI 0))]) (
 .cond (.t 34) (
 .seq (
 .reg none [
 oN 35 (.aaddr 24 1 (.t 5) (cI 0)),
 ⟨none,none, .store 1 (.t 35) (.c (.int .u8 45))⟩]) (
 .seq (
 .junk /- convert slice string -/) (
 .ret))) (
 .skip))) (
 .seq (
 .junk /- convert slice string -/) (
 .ret))))))))) (
 .skip))) (
 .seq (
 .reg none [
 mV 45 0,
 oN 46 (.conv .u64 (.t 45)),
 mV 47 1,
 mV 48 0,
 oN 49 (.bin .lss (.t 48) (cI 0)),
 oN 50 (.ncall true 183051 201 [(.c .nils),(.t 46),(.t 47),(.t 49),(.c (.bool false))]),
 mV 44 50,
 oN 51 (.ext 0 (.t 44)),
 oN 52 (.ext 1 (.t 44)),
 mV 8 51,
 mV 9 52]) (
 .gh [.keep [9]] (
 .seq (
 .reg none [
 mV 53 9,
 mV 4 53]) (
 .ret)))))
def ZFb:AFunc:=⟨54,ZF1,[.tmp 4]⟩
def ZHE:ACode:=
 .seq (
 .reg none [
 oN 2 (.mov (.c (.str [])))]) (
 .seq (
 .seq (
 .reg none [
 mV 3 0,
 oN 4 (.bin .lss (.t 3) (cI 10))]) (
 .cond (.t 4) (
 .seq (
 .reg none [
 mV 5 0,
 mV 6 0,
 oN 7 (.bin .add (.t 6) (cI 1)),
 oN 8 (.sslc (.c (.str [48,49,50,51,52,53,54,55,56,57,97,98,99,100,101,102,103,104,105,106,107,108,109,110,111,112,113,114,115,116,117,118,119,120,121,122])) (some (.t 5)) (some (.t 7))),
 mV 2 8]) (
 .ret)) (
 .skip))) (
 .seq (
 .reg none [
 mV 9 0,
 oN 10 (.bin .mul (.t 9) (cI 2)),
 mV 11 0,
 oN 12 (.bin .mul (.t 11) (cI 2)),
 oN 13 (.bin .add (.t 12) (cI 2)),
 oN 14 (.sslc (.c (.str [48,48,48,49,48,50,48,51,48,52,48,53,48,54,48,55,48,56,48,57,49,48,49,49,49,50,49,51,49,52,49,53,49,54,49,55,49,56,49,57,50,48,50,49,50,50,50,51,50,52,50,53,50,54,50,55,50,56,50,57,51,48,51,49,51,50,51,51,51,52,51,53,51,54,51,55,51,56,51,57,52,48,52,49,52,50,52,51,52,52,52,53,52,54,52,55,52,56,52,57,53,48,53,49,53,50,53,51,53,52,53,53,53,54,53,55,53,56,53,57,54,48,54,49,54,50,54,51,54,52,54,53,54,54,54,55,54,56,54,57,55,48,55,49,55,50,55,51,55,52,55,53,55,54,55,55,55,56,55,57,56,48,56,49,56,50,56,51,56,52,56,53,56,54,56,55,56,56,56,57,57,48,57,49,57,50,57,51,57,52,57,53,57,54,57,55,57,56,57,57])) (some (.t 10)) (some (.t 13))),
 mV 2 14]) (
 .gh [.keep [2]] (
 .ret))))
def ZFP:AFunc:=⟨15,ZHE,[.tmp 2]⟩
def ZGH:ACode:=
 .seq (
 .reg none [
 oN 2 (.mov (cI 0))]) (
 .seq (
 .reg none [
 mV 4 0,
 oN 5 (.ncall true 0 208 [(.t 4)]),
 oN 6 (.ncall true 0 207 [(.t 5)]),
 mV 3 6]) (
 .seq (
 .junk /- opd ['Go.Operand.global', '5'] -/) (
 .gh [.keep [2]] (
 .ret))))
def ZFH:AFunc:=⟨15,ZGH,[.tmp 2]⟩
def ZBO:ACode:=
 .seq (
 .reg none [
 mV 96 1,
 oN 97 (.conv .u32 (.t 96)),
 mV 12 97]) (
 .seq (
 .seq (
 .reg none [
 mV 98 4,
 oN 99 (.bin .geq (.t 98) (cI 4))]) (
 .cond (.t 99) (
 .seq (
 .reg none [
 mV 100 12,
 oN 101 (.bin .rem (.t 100) (.c (.int .u32 10000))),
 mV 13 101]) (
 .seq (
 .reg none [
 mV 102 12,
 oN 103 (.bin .quo (.t 102) (.c (.int .u32 10000))),
 mV 12 103]) (
 .seq (
 .reg none [
 mV 104 13,
 oN 105 (.bin .quo (.t 104) (.c (.int .u32 100))),
 oN 106 (.bin .mul (.t 105) (.c (.int .u32 2))),
 mV 107 13,
 oN 108 (.bin .rem (.t 107) (.c (.int .u32 100))),
 oN 109 (.bin .mul (.t 108) (.c (.int .u32 2))),
 mV 14 106,
 mV 15 109]) (
 .gh [.keep [0,4,12,14,15]] (
 .seq (
 .reg (some [(3,12),(4,12),(5,12),(9,12),(10,12)]) [
 mV 110 0,
 mV 111 4,
 oN 112 (.bin .sub (.t 111) (cI 1)),
 mV 113 0,
 mV 114 4,
 oN 115 (.bin .sub (.t 114) (cI 2)),
 mV 116 15,
 oN 117 (.bin .add (.t 116) (.c (.int .u32 1))),
 oN 118 (.sidx (.c (.str [48,48,48,49,48,50,48,51,48,52,48,53,48,54,48,55,48,56,48,57,49,48,49,49,49,50,49,51,49,52,49,53,49,54,49,55,49,56,49,57,50,48,50,49,50,50,50,51,50,52,50,53,50,54,50,55,50,56,50,57,51,48,51,49,51,50,51,51,51,52,51,53,51,54,51,55,51,56,51,57,52,48,52,49,52,50,52,51,52,52,52,53,52,54,52,55,52,56,52,57,53,48,53,49,53,50,53,51,53,52,53,53,53,54,53,55,53,56,53,57,54,48,54,49,54,50,54,51,54,52,54,53,54,54,54,55,54,56,54,57,55,48,55,49,55,50,55,51,55,52,55,53,55,54,55,55,55,56,55,57,56,48,56,49,56,50,56,51,56,52,56,53,56,54,56,55,56,56,56,57,57,48,57,49,57,50,57,51,57,52,57,53,57,54,57,55,57,56,57,57])) (.t 117)),
 mV 119 15,
 oN 120 (.sidx (.c (.str [48,48,48,49,48,50,48,51,48,52,48,53,48,54,48,55,48,56,48,57,49,48,49,49,49,50,49,51,49,52,49,53,49,54,49,55,49,56,49,57,50,48,50,49,50,50,50,51,50,52,50,53,50,54,50,55,50,56,50,57,51,48,51,49,51,50,51,51,51,52,51,53,51,54,51,55,51,56,51,57,52,48,52,49,52,50,52,51,52,52,52,53,52,54,52,55,52,56,52,57,53,48,53,49,53,50,53,51,53,52,53,53,53,54,53,55,53,56,53,57,54,48,54,49,54,50,54,51,54,52,54,53,54,54,54,55,54,56,54,57,55,48,55,49,55,50,55,51,55,52,55,53,55,54,55,55,55,56,55,57,56,48,56,49,56,50,56,51,56,52,56,53,56,54,56,55,56,56,56,57,57,48,57,49,57,50,57,51,57,52,57,53,57,54,57,55,57,56,57,57])) (.t 119)),
 oN 121 (.iaddr 1 (.t 110) (.t 112)),
 ⟨none,none, .store 1 (.t 121) (.t 118)⟩,
 oN 122 (.iaddr 1 (.t 113) (.t 115)),
 ⟨none,none, .store 1 (.t 122) (.t 120)⟩]) (
 .gh [.keep [0,4,12,14]] (
 .seq (
 .reg (some [(3,12),(4,12),(5,12),(9,12),(10,12)]) [
 mV 123 0,
 mV 124 4,
 oN 125 (.bin .sub (.t 124) (cI 3)),
 mV 126 0,
 mV 127 4,
 oN 128 (.bin .sub (.t 127) (cI 4)),
 mV 129 14,
 oN 130 (.bin .add (.t 129) (.c (.int .u32 1))),
 oN 131 (.sidx (.c (.str [48,48,48,49,48,50,48,51,48,52,48,53,48,54,48,55,48,56,48,57,49,48,49,49,49,50,49,51,49,52,49,53,49,54,49,55,49,56,49,57,50,48,50,49,50,50,50,51,50,52,50,53,50,54,50,55,50,56,50,57,51,48,51,49,51,50,51,51,51,52,51,53,51,54,51,55,51,56,51,57,52,48,52,49,52,50,52,51,52,52,52,53,52,54,52,55,52,56,52,57,53,48,53,49,53,50,53,51,53,52,53,53,53,54,53,55,53,56,53,57,54,48,54,49,54,50,54,51,54,52,54,53,54,54,54,55,54,56,54,57,55,48,55,49,55,50,55,51,55,52,55,53,55,54,55,55,55,56,55,57,56,48,56,49,56,50,56,51,56,52,56,53,56,54,56,55,56,56,56,57,57,48,57,49,57,50,57,51,57,52,57,53,57,54,57,55,57,56,57,57])) (.t 130)),
 mV 132 14,
 oN 133 (.sidx (.c (.str [48,48,48,49,48,50,48,51,48,52,48,53,48,54,48,55,48,56,48,57,49,48,49,49,49,50,49,51,49,52,49,53,49,54,49,55,49,56,49,57,50,48,50,49,50,50,50,51,50,52,50,53,50,54,50,55,50,56,50,57,51,48,51,49,51,50,51,51,51,52,51,53,51,54,51,55,51,56,51,57,52,48,52,49,52,50,52,51,52,52,52,53,52,54,52,55,52,56,52,57,53,48,53,49,53,50,53,51,53,52,53,53,53,54,53,55,53,56,53,57,54,48,54,49,54,50,54,51,54,52,54,53,54,54,54,55,54,56,54,57,55,48,55,49,55,50,55,51,55,52,55,53,55,54,55,55,55,56,55,57,56,48,56,49,56,50,56,51,56,52,56,53,56,54,56,55,56,56,56,57,57,48,57,49,57,50,57,51,57,52,57,53,57,54,57,55,57,56,57,57])) (.t 132)),
 oN 134 (.iaddr 1 (.t 123) (.t 125)),
 ⟨none,none, .store 1 (.t 134) (.t 131)⟩,
 oN 135 (.iaddr 1 (.t 126) (.t 128)),
 ⟨none,none, .store 1 (.t 135) (.t 133)⟩]) (
 .gh [.keep [0,4,12]] (
 .reg none [
 mV 136 4,
 oN 137 (.bin .sub (.t 136) (cI 4)),
 mV 4 137]))))))))) (
 .skip))) (
 .seq (
 .seq (
 .reg none [
 mV 138 4,
 oN 139 (.bin .geq (.t 138) (cI 2))]) (
 .cond (.t 139) (
 .seq (
 .reg none [
 mV 140 12,
 oN 141 (.bin .rem (.t 140) (.c (.int .u32 100))),
 oN 142 (.bin .mul (.t 141) (.c (.int .u32 2))),
 mV 16 142]) (
 .seq (
 .reg none [
 mV 143 12,
 oN 144 (.bin .quo (.t 143) (.c (.int .u32 100))),
 mV 12 144]) (
 .seq (
 .reg (some [(3,12),(4,12),(5,12),(9,12),(10,12)]) [
 mV 145 0,
 mV 146 4,
 oN 147 (.bin .sub (.t 146) (cI 1)),
 mV 148 0,
 mV 149 4,
 oN 150 (.bin .sub (.t 149) (cI 2)),
 mV 151 16,
 oN 152 (.bin .add (.t 151) (.c (.int .u32 1))),
 oN 153 (.sidx (.c (.str [48,48,48,49,48,50,48,51,48,52,48,53,48,54,48,55,48,56,48,57,49,48,49,49,49,50,49,51,49,52,49,53,49,54,49,55,49,56,49,57,50,48,50,49,50,50,50,51,50,52,50,53,50,54,50,55,50,56,50,57,51,48,51,49,51,50,51,51,51,52,51,53,51,54,51,55,51,56,51,57,52,48,52,49,52,50,52,51,52,52,52,53,52,54,52,55,52,56,52,57,53,48,53,49,53,50,53,51,53,52,53,53,53,54,53,55,53,56,53,57,54,48,54,49,54,50,54,51,54,52,54,53,54,54,54,55,54,56,54,57,55,48,55,49,55,50,55,51,55,52,55,53,55,54,55,55,55,56,55,57,56,48,56,49,56,50,56,51,56,52,56,53,56,54,56,55,56,56,56,57,57,48,57,49,57,50,57,51,57,52,57,53,57,54,57,55,57,56,57,57])) (.t 152)),
 mV 154 16,
 oN 155 (.sidx (.c (.str [48,48,48,49,48,50,48,51,48,52,48,53,48,54,48,55,48,56,48,57,49,48,49,49,49,50,49,51,49,52,49,53,49,54,49,55,49,56,49,57,50,48,50,49,50,50,50,51,50,52,50,53,50,54,50,55,50,56,50,57,51,48,51,49,51,50,51,51,51,52,51,53,51,54,51,55,51,56,51,57,52,48,52,49,52,50,52,51,52,52,52,53,52,54,52,55,52,56,52,57,53,48,53,49,53,50,53,51,53,52,53,53,53,54,53,55,53,56,53,57,54,48,54,49,54,50,54,51,54,52,54,53,54,54,54,55,54,56,54,57,55,48,55,49,55,50,55,51,55,52,55,53,55,54,55,55,55,56,55,57,56,48,56,49,56,50,56,51,56,52,56,53,56,54,56,55,56,56,56,57,57,48,57,49,57,50,57,51,57,52,57,53,57,54,57,55,57,56,57,57])) (.t 154)),
 oN 156 (.iaddr 1 (.t 145) (.t 147)),
 ⟨none,none, .store 1 (.t 156) (.t 153)⟩,
 oN 157 (.iaddr 1 (.t 148) (.t 150)),
 ⟨none,none, .store 1 (.t 157) (.t 155)⟩]) (
 .gh [.keep [0,4,12]] (
 .reg none [
 mV 158 4,
 oN 159 (.bin .sub (.t 158) (cI 2)),
 mV 4 159]))))) (
 .skip))) (
 .seq (
 .reg none [
 mV 160 4,
 oN 161 (.bin .gtr (.t 160) (cI 0))]) (
 .cond (.t 161) (
 .reg none [
 mV 162 0,
 mV 163 12,
 oN 164 (.bin .add (.c (.int .u32 48)) (.t 163)),
 oN 165 (.conv .u8 (.t 164)),
 oN 166 (.iaddr 1 (.t 162) (cI 0)),
 ⟨none,none, .store 1 (.t 166) (.t 165)⟩]) (
 .skip)))))
def Zxi:ACode:=
 .seq (
 .seq (
 .reg none [
 mV 19 4,
 oN 20 (.bin .geq (.t 19) (cI 8))]) (
 .cond (.t 20) (
 .skip) (
 .exit 0))) (
 .block 1 (
 .seq (
 .reg none [
 mV 21 1,
 oN 22 (.bin .rem (.t 21) (.c (.int .u64 100000000))),
 oN 23 (.conv .u32 (.t 22)),
 mV 5 23]) (
 .seq (
 .reg none [
 mV 24 1,
 oN 25 (.bin .quo (.t 24) (.c (.int .u64 100000000))),
 mV 1 25]) (
 .seq (
 .reg none [
 mV 26 5,
 oN 27 (.bin .quo (.t 26) (.c (.int .u32 10000))),
 mV 28 5,
 oN 29 (.bin .rem (.t 28) (.c (.int .u32 10000))),
 mV 6 27,
 mV 7 29]) (
 .seq (
 .reg none [
 mV 30 7,
 oN 31 (.bin .quo (.t 30) (.c (.int .u32 100))),
 oN 32 (.bin .mul (.t 31) (.c (.int .u32 2))),
 mV 33 7,
 oN 34 (.bin .rem (.t 33) (.c (.int .u32 100))),
 oN 35 (.bin .mul (.t 34) (.c (.int .u32 2))),
 mV 8 32,
 mV 9 35]) (
 .gh [.keep [0,1,4,6,8,9]] (
 .seq (
 .reg none [
 mV 36 6,
 oN 37 (.bin .quo (.t 36) (.c (.int .u32 100))),
 oN 38 (.bin .mul (.t 37) (.c (.int .u32 2))),
 mV 39 6,
 oN 40 (.bin .rem (.t 39) (.c (.int .u32 100))),
 oN 41 (.bin .mul (.t 40) (.c (.int .u32 2))),
 mV 10 38,
 mV 11 41]) (
 .gh [.keep [0,1,4,8,9,10,11]] (
 .seq (
 .reg (some [(3,12),(4,12),(5,12),(9,12),(10,12)]) [
 mV 42 0,
 mV 43 4,
 oN 44 (.bin .sub (.t 43) (cI 1)),
 mV 45 0,
 mV 46 4,
 oN 47 (.bin .sub (.t 46) (cI 2)),
 mV 48 9,
 oN 49 (.bin .add (.t 48) (.c (.int .u32 1))),
 oN 50 (.sidx (.c (.str [48,48,48,49,48,50,48,51,48,52,48,53,48,54,48,55,48,56,48,57,49,48,49,49,49,50,49,51,49,52,49,53,49,54,49,55,49,56,49,57,50,48,50,49,50,50,50,51,50,52,50,53,50,54,50,55,50,56,50,57,51,48,51,49,51,50,51,51,51,52,51,53,51,54,51,55,51,56,51,57,52,48,52,49,52,50,52,51,52,52,52,53,52,54,52,55,52,56,52,57,53,48,53,49,53,50,53,51,53,52,53,53,53,54,53,55,53,56,53,57,54,48,54,49,54,50,54,51,54,52,54,53,54,54,54,55,54,56,54,57,55,48,55,49,55,50,55,51,55,52,55,53,55,54,55,55,55,56,55,57,56,48,56,49,56,50,56,51,56,52,56,53,56,54,56,55,56,56,56,57,57,48,57,49,57,50,57,51,57,52,57,53,57,54,57,55,57,56,57,57])) (.t 49)),
 mV 51 9,
 oN 52 (.sidx (.c (.str [48,48,48,49,48,50,48,51,48,52,48,53,48,54,48,55,48,56,48,57,49,48,49,49,49,50,49,51,49,52,49,53,49,54,49,55,49,56,49,57,50,48,50,49,50,50,50,51,50,52,50,53,50,54,50,55,50,56,50,57,51,48,51,49,51,50,51,51,51,52,51,53,51,54,51,55,51,56,51,57,52,48,52,49,52,50,52,51,52,52,52,53,52,54,52,55,52,56,52,57,53,48,53,49,53,50,53,51,53,52,53,53,53,54,53,55,53,56,53,57,54,48,54,49,54,50,54,51,54,52,54,53,54,54,54,55,54,56,54,57,55,48,55,49,55,50,55,51,55,52,55,53,55,54,55,55,55,56,55,57,56,48,56,49,56,50,56,51,56,52,56,53,56,54,56,55,56,56,56,57,57,48,57,49,57,50,57,51,57,52,57,53,57,54,57,55,57,56,57,57])) (.t 51)),
 oN 53 (.iaddr 1 (.t 42) (.t 44)),
 ⟨none,none, .store 1 (.t 53) (.t 50)⟩,
 oN 54 (.iaddr 1 (.t 45) (.t 47)),
 ⟨none,none, .store 1 (.t 54) (.t 52)⟩]) (
 .gh [.keep [0,1,4,8,10,11]] (
 .seq (
 .reg (some [(3,12),(4,12),(5,12),(9,12),(10,12)]) [
 mV 55 0,
 mV 56 4,
 oN 57 (.bin .sub (.t 56) (cI 3)),
 mV 58 0,
 mV 59 4,
 oN 60 (.bin .sub (.t 59) (cI 4)),
 mV 61 8,
 oN 62 (.bin .add (.t 61) (.c (.int .u32 1))),
 oN 63 (.sidx (.c (.str [48,48,48,49,48,50,48,51,48,52,48,53,48,54,48,55,48,56,48,57,49,48,49,49,49,50,49,51,49,52,49,53,49,54,49,55,49,56,49,57,50,48,50,49,50,50,50,51,50,52,50,53,50,54,50,55,50,56,50,57,51,48,51,49,51,50,51,51,51,52,51,53,51,54,51,55,51,56,51,57,52,48,52,49,52,50,52,51,52,52,52,53,52,54,52,55,52,56,52,57,53,48,53,49,53,50,53,51,53,52,53,53,53,54,53,55,53,56,53,57,54,48,54,49,54,50,54,51,54,52,54,53,54,54,54,55,54,56,54,57,55,48,55,49,55,50,55,51,55,52,55,53,55,54,55,55,55,56,55,57,56,48,56,49,56,50,56,51,56,52,56,53,56,54,56,55,56,56,56,57,57,48,57,49,57,50,57,51,57,52,57,53,57,54,57,55,57,56,57,57])) (.t 62)),
 mV 64 8,
 oN 65 (.sidx (.c (.str [48,48,48,49,48,50,48,51,48,52,48,53,48,54,48,55,48,56,48,57,49,48,49,49,49,50,49,51,49,52,49,53,49,54,49,55,49,56,49,57,50,48,50,49,50,50,50,51,50,52,50,53,50,54,50,55,50,56,50,57,51,48,51,49,51,50,51,51,51,52,51,53,51,54,51,55,51,56,51,57,52,48,52,49,52,50,52,51,52,52,52,53,52,54,52,55,52,56,52,57,53,48,53,49,53,50,53,51,53,52,53,53,53,54,53,55,53,56,53,57,54,48,54,49,54,50,54,51,54,52,54,53,54,54,54,55,54,56,54,57,55,48,55,49,55,50,55,51,55,52,55,53,55,54,55,55,55,56,55,57,56,48,56,49,56,50,56,51,56,52,56,53,56,54,56,55,56,56,56,57,57,48,57,49,57,50,57,51,57,52,57,53,57,54,57,55,57,56,57,57])) (.t 64)),
 oN 66 (.iaddr 1 (.t 55) (.t 57)),
 ⟨none,none, .store 1 (.t 66) (.t 63)⟩,
 oN 67 (.iaddr 1 (.t 58) (.t 60)),
 ⟨none,none, .store 1 (.t 67) (.t 65)⟩]) (
 .gh [.keep [0,1,4,10,11]] (
 .seq (
 .reg (some [(3,12),(4,12),(5,12),(9,12),(10,12)]) [
 mV 68 0,
 mV 69 4,
 oN 70 (.bin .sub (.t 69) (cI 5)),
 mV 71 0,
 mV 72 4,
 oN 73 (.bin .sub (.t 72) (cI 6)),
 mV 74 11,
 oN 75 (.bin .add (.t 74) (.c (.int .u32 1))),
 oN 76 (.sidx (.c (.str [48,48,48,49,48,50,48,51,48,52,48,53,48,54,48,55,48,56,48,57,49,48,49,49,49,50,49,51,49,52,49,53,49,54,49,55,49,56,49,57,50,48,50,49,50,50,50,51,50,52,50,53,50,54,50,55,50,56,50,57,51,48,51,49,51,50,51,51,51,52,51,53,51,54,51,55,51,56,51,57,52,48,52,49,52,50,52,51,52,52,52,53,52,54,52,55,52,56,52,57,53,48,53,49,53,50,53,51,53,52,53,53,53,54,53,55,53,56,53,57,54,48,54,49,54,50,54,51,54,52,54,53,54,54,54,55,54,56,54,57,55,48,55,49,55,50,55,51,55,52,55,53,55,54,55,55,55,56,55,57,56,48,56,49,56,50,56,51,56,52,56,53,56,54,56,55,56,56,56,57,57,48,57,49,57,50,57,51,57,52,57,53,57,54,57,55,57,56,57,57])) (.t 75)),
 mV 77 11,
 oN 78 (.sidx (.c (.str [48,48,48,49,48,50,48,51,48,52,48,53,48,54,48,55,48,56,48,57,49,48,49,49,49,50,49,51,49,52,49,53,49,54,49,55,49,56,49,57,50,48,50,49,50,50,50,51,50,52,50,53,50,54,50,55,50,56,50,57,51,48,51,49,51,50,51,51,51,52,51,53,51,54,51,55,51,56,51,57,52,48,52,49,52,50,52,51,52,52,52,53,52,54,52,55,52,56,52,57,53,48,53,49,53,50,53,51,53,52,53,53,53,54,53,55,53,56,53,57,54,48,54,49,54,50,54,51,54,52,54,53,54,54,54,55,54,56,54,57,55,48,55,49,55,50,55,51,55,52,55,53,55,54,55,55,55,56,55,57,56,48,56,49,56,50,56,51,56,52,56,53,56,54,56,55,56,56,56,57,57,48,57,49,57,50,57,51,57,52,57,53,57,54,57,55,57,56,57,57])) (.t 77)),
 oN 79 (.iaddr 1 (.t 68) (.t 70)),
 ⟨none,none, .store 1 (.t 79) (.t 76)⟩,
 oN 80 (.iaddr 1 (.t 71) (.t 73)),
 ⟨none,none, .store 1 (.t 80) (.t 78)⟩]) (
 .gh [.keep [0,1,4,10]] (
 .seq (
 .reg (some [(3,12),(4,12),(5,12),(9,12),(10,12)]) [
 mV 81 0,
 mV 82 4,
 oN 83 (.bin .sub (.t 82) (cI 7)),
 mV 84 0,
 mV 85 4,
 oN 86 (.bin .sub (.t 85) (cI 8)),
 mV 87 10,
 oN 88 (.bin .add (.t 87) (.c (.int .u32 1))),
 oN 89 (.sidx (.c (.str [48,48,48,49,48,50,48,51,48,52,48,53,48,54,48,55,48,56,48,57,49,48,49,49,49,50,49,51,49,52,49,53,49,54,49,55,49,56,49,57,50,48,50,49,50,50,50,51,50,52,50,53,50,54,50,55,50,56,50,57,51,48,51,49,51,50,51,51,51,52,51,53,51,54,51,55,51,56,51,57,52,48,52,49,52,50,52,51,52,52,52,53,52,54,52,55,52,56,52,57,53,48,53,49,53,50,53,51,53,52,53,53,53,54,53,55,53,56,53,57,54,48,54,49,54,50,54,51,54,52,54,53,54,54,54,55,54,56,54,57,55,48,55,49,55,50,55,51,55,52,55,53,55,54,55,55,55,56,55,57,56,48,56,49,56,50,56,51,56,52,56,53,56,54,56,55,56,56,56,57,57,48,57,49,57,50,57,51,57,52,57,53,57,54,57,55,57,56,57,57])) (.t 88)),
 mV 90 10,
 oN 91 (.sidx (.c (.str [48,48,48,49,48,50,48,51,48,52,48,53,48,54,48,55,48,56,48,57,49,48,49,49,49,50,49,51,49,52,49,53,49,54,49,55,49,56,49,57,50,48,50,49,50,50,50,51,50,52,50,53,50,54,50,55,50,56,50,57,51,48,51,49,51,50,51,51,51,52,51,53,51,54,51,55,51,56,51,57,52,48,52,49,52,50,52,51,52,52,52,53,52,54,52,55,52,56,52,57,53,48,53,49,53,50,53,51,53,52,53,53,53,54,53,55,53,56,53,57,54,48,54,49,54,50,54,51,54,52,54,53,54,54,54,55,54,56,54,57,55,48,55,49,55,50,55,51,55,52,55,53,55,54,55,55,55,56,55,57,56,48,56,49,56,50,56,51,56,52,56,53,56,54,56,55,56,56,56,57,57,48,57,49,57,50,57,51,57,52,57,53,57,54,57,55,57,56,57,57])) (.t 90)),
 oN 92 (.iaddr 1 (.t 81) (.t 83)),
 ⟨none,none, .store 1 (.t 92) (.t 89)⟩,
 oN 93 (.iaddr 1 (.t 84) (.t 86)),
 ⟨none,none, .store 1 (.t 93) (.t 91)⟩]) (
 .gh [.keep [0,1,4]] (
 .reg none [
 mV 94 4,
 oN 95 (.bin .sub (.t 94) (cI 8)),
 mV 4 95])))))))))))))))))
def ZBq:ACode:=.gh [.keep [0,1,4]] (.gh [] Zxi)
def ZHI:ACode:=
 .seq (
 .reg none [
 mV 17 0,
 oN 18 (.len (.t 17)),
 mV 4 18]) (
 .seq (
 .block 0 (
 .loop ZBq)) ZBO)
def ZFQ:AFunc:=⟨167,ZHI,[]⟩
def ZH9:ACode:=
 .seq (
 .reg none [
 oN 2 (.mov (cI 0))]) (
 .seq (
 .reg none [
 mV 3 0,
 oN 4 (.bin .mul (.t 3) (cI 78913)),
 oN 5 (.bin .shr (.t 4) (.c (.int .u64 18))),
 mV 2 5]) (
 .ret))
def ZFd:AFunc:=⟨6,ZH9,[.tmp 2]⟩
def ZIh:ACode:=
 .seq (
 .reg none [
 oN 2 (.mov (cI 0))]) (
 .seq (
 .seq (
 .reg none [
 mV 3 0,
 oN 4 (.bin .geq (.t 3) (.c (.int .u64 4294967296)))]) (
 .cond (.t 4) (
 .seq (
 .reg none [
 mV 5 0,
 oN 6 (.bin .shr (.t 5) (.c (.int .u64 32))),
 mV 0 6]) (
 .reg none [
 oN 2 (.mov (cI 32))])) (
 .skip))) (
 .seq (
 .seq (
 .reg none [
 mV 7 0,
 oN 8 (.bin .geq (.t 7) (.c (.int .u64 65536)))]) (
 .cond (.t 8) (
 .seq (
 .reg none [
 mV 9 0,
 oN 10 (.bin .shr (.t 9) (.c (.int .u64 16))),
 mV 0 10]) (
 .reg none [
 mV 11 2,
 oN 12 (.bin .add (.t 11) (cI 16)),
 mV 2 12])) (
 .skip))) (
 .seq (
 .seq (
 .reg none [
 mV 13 0,
 oN 14 (.bin .geq (.t 13) (.c (.int .u64 256)))]) (
 .cond (.t 14) (
 .seq (
 .reg none [
 mV 15 0,
 oN 16 (.bin .shr (.t 15) (.c (.int .u64 8))),
 mV 0 16]) (
 .reg none [
 mV 17 2,
 oN 18 (.bin .add (.t 17) (cI 8)),
 mV 2 18])) (
 .skip))) (
 .seq (
 .reg none [
 mV 19 2,
 mV 20 0,
 oN 21 (.conv .u8 (.t 20)),
 oN 22 (.sidx (.c (.str [0,1,2,2,3,3,3,3,4,4,4,4,4,4,4,4,5,5,5,5,5,5,5,5,5,5,5,5,5,5,5,5,6,6,6,6,6,6,6,6,6,6,6,6,6,6,6,6,6,6,6,6,6,6,6,6,6,6,6,6,6,6,6,6,7,7,7,7,7,7,7,7,7,7,7,7,7,7,7,7,7,7,7,7,7,7,7,7,7,7,7,7,7,7,7,7,7,7,7,7,7,7,7,7,7,7,7,7,7,7,7,7,7,7,7,7,7,7,7,7,7,7,7,7,7,7,7,7,8,8,8,8,8,8,8,8,8,8,8,8,8,8,8,8,8,8,8,8,8,8,8,8,8,8,8,8,8,8,8,8,8,8,8,8,8,8,8,8,8,8,8,8,8,8,8,8,8,8,8,8,8,8,8,8,8,8,8,8,8,8,8,8,8,8,8,8,8,8,8,8,8,8,8,8,8,8,8,8,8,8,8,8,8,8,8,8,8,8,8,8,8,8,8,8,8,8,8,8,8,8,8,8,8,8,8,8,8,8,8,8,8,8,8,8,8,8,8,8,8,8,8,8,8,8,8,8])) (.t 21)),
 oN 23 (.conv .i64 (.t 22)),
 oN 24 (.bin .add (.t 19) (.t 23)),
 mV 2 24]) (
 .gh [.keep [2]] (
 .ret))))))
def ZER:AFunc:=⟨25,ZIh,[.tmp 2]⟩
def ZG2:ACode:=
 .seq (
 .reg none [
 oN 2 (.mov (cI 0))]) (
 .seq (
 .seq (
 .reg none [
 mV 3 0]) (
 .cond (.t 3) (
 .seq (
 .reg none [
 oN 2 (.mov (cI 1))]) (
 .ret)) (
 .skip))) (
 .seq (
 .reg none [
 oN 2 (.mov (cI 0))]) (
 .ret)))
def ZFF:AFunc:=⟨4,ZG2,[.tmp 2]⟩
def ZHb:ACode:=
 .seq (
 .reg none [
 oN 2 (.mov (.c (.bool false)))]) (
 .seq (
 .reg none [
 mV 3 0,
 mV 4 0,
 oN 5 (.bin .sub (.t 4) (cI 1)),
 oN 6 (.bin .and (.t 3) (.t 5)),
 oN 7 (.bin .eql (.t 6) (cI 0)),
 mV 2 7]) (
 .ret))
def ZE5:AFunc:=⟨8,ZHb,[.tmp 2]⟩
def ZIc:ACode:=
 .seq (
 .reg none [
 oN 2 (.mov (cI 0))]) (
 .seq (
 .cond (.c (.bool false)) (
 .seq (
 .reg none [
 mV 3 0,
 oN 4 (.conv .u32 (.t 3)),
 oN 5 (.ncall true 0 214 [(.t 4)]),
 mV 2 5]) (
 .ret)) (
 .skip)) (
 .seq (
 .reg none [
 mV 6 0,
 oN 7 (.ncall true 0 215 [(.t 6)]),
 mV 2 7]) (
 .ret)))
def ZFD:AFunc:=⟨8,ZIc,[.tmp 2]⟩
def ZIA:ACode:=
 .seq (
 .reg none [
 oN 2 (.mov (cI 0))]) (
 .seq (
 .seq (
 .reg none [
 mV 3 0,
 oN 4 (.bin .eql (.t 3) (.c (.int .u32 0)))]) (
 .cond (.t 4) (
 .seq (
 .reg none [
 oN 2 (.mov (cI 32))]) (
 .ret)) (
 .skip))) (
 .seq (
 .junk /- opd ['Go.Operand.global', '6'] -/) (
 .gh [.keep [2]] (
 .ret))))
def ZFC:AFunc:=⟨14,ZIA,[.tmp 2]⟩
def ZHm:ACode:=
 .seq (
 .reg none [
 oN 2 (.mov (cI 0))]) (
 .seq (
 .seq (
 .reg none [
 mV 3 0,
 oN 4 (.bin .eql (.t 3) (.c (.int .u64 0)))]) (
 .cond (.t 4) (
 .seq (
 .reg none [
 oN 2 (.mov (cI 64))]) (
 .ret)) (
 .skip))) (
 .seq (
 .junk /- opd ['Go.Operand.global', '7'] -/) (
 .gh [.keep [2]] (
 .ret))))
def ZEM:AFunc:=⟨14,ZHm,[.tmp 2]⟩
end Go.Proofs.YtkeoeooghhjibaaGreatDoor
