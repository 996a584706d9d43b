/- slices.Delete of one element, as the explorer prints it: in short. No condition. -/
import Derived.Test.YtkeoeooghhjibaaGreatDoorDr
import Derived.KernelRfl
namespace Go.Proofs.YtkeoeooghhjibaaGreatDoor
def dT(A:Ar)(dw:List Int)(en:Int):List Int:=(A.sub3 dw (A.nat (A.add en 1)) (A.len dw-A.nat (A.add en 1)))
def dW(A:Ar)(dw:List Int)(en:Int):List Int:=(A.app (A.app (A.sub3 dw 0 (A.nat en-0)) (dT A dw en)) (A.sub3 dw (A.nat en-0+A.len (dT A dw en)) (A.len dw)))
def dV(A:Ar)(dw:List Int)(en:Int):List Int:=(A.sub3 (dW A dw en) 0 (A.nat en-0+A.len (dT A dw en)))
def dR(A:Ar)(dw:List Int)(en:Int):List Int:=(A.rep (A.nat (A.int (A.len dw))-A.nat (A.int (A.len (dV A dw en)))) 0)
def dY(A:Ar)(dw:List Int)(en:Int):List Int:=(A.app (A.app (A.sub3 (dW A dw en) 0 (0+A.nat (A.int (A.len (dV A dw en))))) (dR A dw en)) (A.sub3 (dW A dw en) (0+A.nat (A.int (A.len (dV A dw en)))+A.len (dR A dw en)) (A.len (dW A dw en))))
def dX(A:Ar)(dw:List Int)(en:Int):List Int:=(A.sub3 (dY A dw en) 0 (A.nat en-0+A.len (dT A dw en)))
def dM(A:Ar)(dw:List Int)(en:Int):Nat:=max (A.nat en-0+A.len (dT A dw en)) (Row.len A (.ints .i64 (dW A dw en)))
def dJ(A:Ar)(dw:List Int)(en:Int):List Bool:=[Zag (Zag (A.le 0 en) (A.le 0 (A.add en 1))) (Zag (Zag (Nat.ble (A.nat en) (A.nat (A.add en 1))) (Nat.ble (A.nat (A.add en 1)) (A.len dw))) (Zag (A.le 0 (A.int (A.len dw))) (Zag (Nat.ble (A.nat (A.add en 1)) (A.nat (A.int (A.len dw)))) (Nat.ble (A.nat (A.int (A.len dw))) (A.len dw))))),A.inR .i64 (A.add en 1),Zag (Nat.blt (A.nat en) (A.len dw)) true,Zag (A.le 0 en) (Nat.blt (A.nat en) (A.len dw))]
def dK(A:Ar)(dw:List Int)(en:Int):List Bool:=[Zag (Nat.ble (A.nat en-0+A.len (dT A dw en)) (A.len (dY A dw en))) true,Nat.ble (0+A.nat (A.int (A.len (dV A dw en)))+(A.nat (A.int (A.len dw))-A.nat (A.int (A.len (dV A dw en))))) (A.len (dW A dw en)),Zag (Zag (A.le 0 (A.int (A.len (dV A dw en)))) (A.le 0 (A.int (A.len dw)))) (Zag (Zag (Nat.ble (A.nat (A.int (A.len (dV A dw en)))) (A.nat (A.int (A.len dw)))) (Nat.ble (A.nat (A.int (A.len dw))) (dM A dw en))) true),Nat.ble (0+(A.nat en-0+A.len (dT A dw en))) (A.len (dW A dw en)),Zag (Zag (Nat.ble (A.nat (A.add en 1)+(A.len dw-A.nat (A.add en 1))) (A.len dw)) true) (Zag (Nat.ble (A.nat en-0+A.len (dT A dw en)) (A.len dw)) (Nat.blt 0 (A.len dw))),Zag (Zag (A.le 0 (A.add en 1)) true) (Zag (Zag (Nat.ble (A.nat (A.add en 1)) (A.len dw)) (Nat.ble (A.len dw) (A.len dw))) true),Zag (A.le 0 en) (Zag (Zag (Nat.ble 0 (A.nat en)) (Nat.ble (A.nat en) (A.len dw))) true)]
def eT(A:Ar)(up:List AV)(en:Int):List AV:=(A.subA up (A.nat (A.add en 1)) (A.lenA up-A.nat (A.add en 1)))
def eW(A:Ar)(up:List AV)(en:Int):List AV:=(A.appA (A.appA (A.subA up 0 (A.nat en-0)) (eT A up en)) (A.subA up (A.nat en-0+A.lenA (eT A up en)) (A.lenA up)))
def eV(A:Ar)(up:List AV)(en:Int):List AV:=(A.subA (eW A up en) 0 (A.nat en-0+A.lenA (eT A up en)))
def eR(A:Ar)(up:List AV)(en:Int):List AV:=(A.repA (A.nat (A.int (A.lenA up))-A.nat (A.int (A.lenA (eV A up en)))) (AV.agg (Row.gen [AV.int .i64 0,AV.bool false])))
def eY(A:Ar)(up:List AV)(en:Int):List AV:=(A.appA (A.appA (A.subA (eW A up en) 0 (0+A.nat (A.int (A.lenA (eV A up en))))) (eR A up en)) (A.subA (eW A up en) (0+A.nat (A.int (A.lenA (eV A up en)))+A.lenA (eR A up en)) (A.lenA (eW A up en))))
def eX(A:Ar)(up:List AV)(en:Int):List AV:=(A.subA (eY A up en) 0 (A.nat en-0+A.lenA (eT A up en)))
def eM(A:Ar)(up:List AV)(en:Int):Nat:=max (A.nat en-0+A.lenA (eT A up en)) (Row.len A (Row.big (Sh.agg [Sh.int .i64,Sh.bool]) (eW A up en)))
def eJ(A:Ar)(up:List AV)(en:Int):List Bool:=[Zag (Zag (A.le 0 en) (A.le 0 (A.add en 1))) (Zag (Zag (Nat.ble (A.nat en) (A.nat (A.add en 1))) (Nat.ble (A.nat (A.add en 1)) (A.lenA up))) (Zag (A.le 0 (A.int (A.lenA up))) (Zag (Nat.ble (A.nat (A.add en 1)) (A.nat (A.int (A.lenA up)))) (Nat.ble (A.nat (A.int (A.lenA up))) (A.lenA up))))),A.inR .i64 (A.add en 1),Zag (Nat.blt (A.nat en) (A.lenA up)) true,Zag (A.le 0 en) (Nat.blt (A.nat en) (A.lenA up))]
def eK(A:Ar)(up:List AV)(en:Int):List Bool:=[Zag (Nat.ble (A.nat en-0+A.lenA (eT A up en)) (A.lenA (eY A up en))) true,Nat.ble (0+A.nat (A.int (A.lenA (eV A up en)))+(A.nat (A.int (A.lenA up))-A.nat (A.int (A.lenA (eV A up en))))) (A.lenA (eW A up en)),Zag (Zag (A.le 0 (A.int (A.lenA (eV A up en)))) (A.le 0 (A.int (A.lenA up)))) (Zag (Zag (Nat.ble (A.nat (A.int (A.lenA (eV A up en)))) (A.nat (A.int (A.lenA up)))) (Nat.ble (A.nat (A.int (A.lenA up))) (eM A up en))) true),Nat.ble (0+(A.nat en-0+A.lenA (eT A up en))) (A.lenA (eW A up en)),Zag (Zag (Nat.ble (A.nat (A.add en 1)+(A.lenA up-A.nat (A.add en 1))) (A.lenA up)) true) (Zag (Nat.ble (A.nat en-0+A.lenA (eT A up en)) (A.lenA up)) (Nat.blt 0 (A.lenA up))),Zag (Zag (A.le 0 (A.add en 1)) true) (Zag (Zag (Nat.ble (A.nat (A.add en 1)) (A.lenA up)) (Nat.ble (A.lenA up) (A.lenA up))) true),Zag (A.le 0 en) (Zag (Zag (Nat.ble 0 (A.nat en)) (Nat.ble (A.nat en) (A.lenA up))) true)]
theorem Zpi{dw:List Int}{i:Nat} :dT std dw i=dw.drop (i+1):=by
 have e:((i:Int)+1).toNat=i+1:=by omega
 simp only[dT,Zkt,Zpd,ZhH,ZA4,e]
 exact List.take_of_length_le (by simp)
section
variable {dw:List Int}{i:Nat}(h:i<dw.length)
include h
theorem Zuk:dW std dw i=Zbm dw i++dw.drop (dw.length-1):=by
 have e2:i-0+(dw.length-(i+1))=dw.length-1:=by omega
 simp only[dW,Zpi,ZBS,Zkt,Zpd,ZhH,Int.toNat_natCast,List.length_drop,List.drop_zero,e2,Zbm]
 rw[List.take_of_length_le (l:=dw.drop (dw.length-1)) (by simp)];rfl
theorem Ze1:(Zbm dw (i:Int)).length=dw.length-1:=by simp[Zbm];omega
theorem Zmm:(dW std dw i).length=dw.length:=by rw[Zuk h,List.length_append,Ze1 h,List.length_drop];omega
theorem Zri:dV std dw i=Zbm dw i:=by
 have e2:i-0+(dw.length-(i+1))=dw.length-1:=by omega
 simp only[dV,Zpi,Zuk h,Zkt,Zpd,ZhH,Int.toNat_natCast,List.length_drop,List.drop_zero,e2]
 rw[←Ze1 h];exact List.take_left
theorem Zsm:(dR std dw i).length=1:=by
 simp[dR,Zri h,Ze1 h];omega
theorem ZBT:∃zs,dY std dw i=Zbm dw i++zs∧zs.length=1:=by
 have e:List.take (dw.length-1) (Zbm dw (i:Int)++dw.drop (dw.length-1))=Zbm dw i:=by rw[←Ze1 h];exact List.take_left
 refine⟨dR std dw i++((dW std dw i).drop (0+std.nat (std.int (std.len (dV std dw i)))+std.len (dR std dw i))).take (std.len (dW std dw i)),?_,?_⟩
 ·simp only[dY,ZBS,Zkt]
  rw[←List.append_assoc]
  congr 2
  simp[Zri h,Ze1 h,Zuk h,e]
 ·have:=Zmm h
  have:=Zsm h
  simp[Zri h,Ze1 h,Zmm h,Zsm h]
  omega
theorem ZBZ:(dY std dw i).length=dw.length:=by
 obtain⟨zs,e,hz⟩:=ZBT h
 rw[e,List.length_append,Ze1 h];omega
theorem ZB9:dX std dw i=Zbm dw i:=by
 obtain⟨zs,e,hz⟩:=ZBT h
 have e2:i-0+(dw.length-(i+1))=dw.length-1:=by omega
 simp only[dX,Zpi,Zkt,Zpd,ZhH,Int.toNat_natCast,List.length_drop,List.drop_zero,e2,e]
 rw[←Ze1 h];exact List.take_left
theorem ZDl:dM std dw i=dw.length:=by
 have:Row.len std (.ints .i64 (dW std dw i))=dw.length:=Zmm h
 simp only[dM,this,Zpi,Zpd,ZhH,Int.toNat_natCast,List.length_drop]
 omega
theorem ZCK(hl:dw.length≤1000000)(t:Prop):rB (dJ std dw i) t=t:=by
 have e:((i:Int)+1).toNat=i+1:=by omega
 simp[dJ,e]
 intro _;omega
theorem Zza(hl:dw.length≤1000000)(t:Prop):rB (dK std dw i) t=t:=by
 have e:((i:Int)+1).toNat=i+1:=by omega
 simp[dK,e,ZDl h,Zpi,Zmm h,Zri h,Ze1 h,ZBZ h]
 intro _;omega
end
theorem ZgC{dw:List Int}{en:Int}(h0:0≤en)(h:en<dw.length):dX std dw en=Zbm dw en:=by
 obtain⟨i,rfl⟩:∃i:Nat,en=i:=⟨en.toNat,by omega⟩
 exact ZB9 (by omega)
theorem ZFT{dw:List Int}{en:Int}(h0:0≤en)(h:en<dw.length)(hl:dw.length≤1000000)(t:Prop):rB (dJ std dw en) t=t:=by
 obtain⟨i,rfl⟩:∃i:Nat,en=i:=⟨en.toNat,by omega⟩
 exact ZCK (by omega) hl t
theorem ZFO{dw:List Int}{en:Int}(h0:0≤en)(h:en<dw.length)(hl:dw.length≤1000000)(t:Prop):rB (dK std dw en) t=t:=by
 obtain⟨i,rfl⟩:∃i:Nat,en=i:=⟨en.toNat,by omega⟩
 exact Zza (by omega) hl t
theorem Zdy{dw:List Int}{en:Int}(h0:0≤en)(h:en<dw.length)(hl:dw.length≤1000000):AllT (dJ std dw en):=by
 have:=ZFT h0 h hl True
 rw[Zrb]at this
 exact(of_eq_true this).1
theorem ZdM{dw:List Int}{en:Int}(h0:0≤en)(h:en<dw.length)(hl:dw.length≤1000000):AllT (dK std dw en):=by
 have:=ZFO h0 h hl True
 rw[Zrb]at this
 exact(of_eq_true this).1
theorem ZoW{up:List AV}{i:Nat} :eT std up i=up.drop (i+1):=by
 have e:((i:Int)+1).toNat=i+1:=by omega
 simp only[eT,ZjU,ZcR,ZhH,ZA4,e]
 exact List.take_of_length_le (by simp)
section
variable {up:List AV}{i:Nat}(h:i<up.length)
include h
theorem ZuY:eW std up i=Zbm up i++up.drop (up.length-1):=by
 have e2:i-0+(up.length-(i+1))=up.length-1:=by omega
 simp only[eW,ZoW,ZsJ,ZjU,ZcR,ZhH,Int.toNat_natCast,List.length_drop,List.drop_zero,e2,Zbm]
 rw[List.take_of_length_le (l:=up.drop (up.length-1)) (by simp)];rfl
theorem ZeT:(Zbm up (i:Int)).length=up.length-1:=by simp[Zbm];omega
theorem ZmD:(eW std up i).length=up.length:=by rw[ZuY h,List.length_append,ZeT h,List.length_drop];omega
theorem Zse:eV std up i=Zbm up i:=by
 have e2:i-0+(up.length-(i+1))=up.length-1:=by omega
 simp only[eV,ZoW,ZuY h,ZjU,ZcR,ZhH,Int.toNat_natCast,List.length_drop,List.drop_zero,e2]
 rw[←ZeT h];exact List.take_left
theorem ZsT:(eR std up i).length=1:=by
 simp[eR,Zse h,ZeT h];omega
theorem ZzF:∃zs,eY std up i=Zbm up i++zs∧zs.length=1:=by
 have e:List.take (up.length-1) (Zbm up (i:Int)++up.drop (up.length-1))=Zbm up i:=by rw[←ZeT h];exact List.take_left
 refine⟨eR std up i++((eW std up i).drop (0+std.nat (std.int (std.lenA (eV std up i)))+std.lenA (eR std up i))).take (std.lenA (eW std up i)),?_,?_⟩
 ·simp only[eY,ZsJ,ZjU]
  rw[←List.append_assoc]
  congr 2
  simp[Zse h,ZeT h,ZuY h,e]
 ·have:=ZmD h
  have:=ZsT h
  simp[Zse h,ZeT h,ZmD h,ZsT h]
  omega
theorem ZBg:(eY std up i).length=up.length:=by
 obtain⟨zs,e,hz⟩:=ZzF h
 rw[e,List.length_append,ZeT h];omega
theorem ZCb:eX std up i=Zbm up i:=by
 obtain⟨zs,e,hz⟩:=ZzF h
 have e2:i-0+(up.length-(i+1))=up.length-1:=by omega
 simp only[eX,ZoW,ZjU,ZcR,ZhH,Int.toNat_natCast,List.length_drop,List.drop_zero,e2,e]
 rw[←ZeT h];exact List.take_left
theorem ZEM:eM std up i=up.length:=by
 have:Row.len std (.big (.agg [.int .i64, .bool]) (eW std up i))=up.length:=ZmD h
 simp only[eM,this,ZoW,ZcR,ZhH,Int.toNat_natCast,List.length_drop]
 omega
theorem ZxL(hl:up.length≤1000000)(t:Prop):rB (eJ std up i) t=t:=by
 have e:((i:Int)+1).toNat=i+1:=by omega
 simp[eJ,e]
 intro _;omega
theorem ZyD(hl:up.length≤1000000)(t:Prop):rB (eK std up i) t=t:=by
 have e:((i:Int)+1).toNat=i+1:=by omega
 simp[eK,e,ZEM h,ZoW,ZmD h,Zse h,ZeT h,ZBg h]
 intro _;omega
end
theorem ZwZ{up:List AV}{en:Int}(h0:0≤en)(h:en<up.length):eX std up en=Zbm up en:=by
 obtain⟨i,rfl⟩:∃i:Nat,en=i:=⟨en.toNat,by omega⟩
 exact ZCb (by omega)
theorem ZD7{up:List AV}{en:Int}(h0:0≤en)(h:en<up.length)(hl:up.length≤1000000)(t:Prop):rB (eJ std up en) t=t:=by
 obtain⟨i,rfl⟩:∃i:Nat,en=i:=⟨en.toNat,by omega⟩
 exact ZxL (by omega) hl t
theorem ZDu{up:List AV}{en:Int}(h0:0≤en)(h:en<up.length)(hl:up.length≤1000000)(t:Prop):rB (eK std up en) t=t:=by
 obtain⟨i,rfl⟩:∃i:Nat,en=i:=⟨en.toNat,by omega⟩
 exact ZyD (by omega) hl t
theorem Zpj{up:List AV}{en:Int}(h0:0≤en)(h:en<up.length)(hl:up.length≤1000000):AllT (eJ std up en):=by
 have:=ZD7 h0 h hl True
 rw[Zrb]at this
 exact(of_eq_true this).1
theorem Zo3{up:List AV}{en:Int}(h0:0≤en)(h:en<up.length)(hl:up.length≤1000000):AllT (eK std up en):=by
 have:=ZDu h0 h hl True
 rw[Zrb]at this
 exact(of_eq_true this).1
end Go.Proofs.YtkeoeooghhjibaaGreatDoor
/- Paths of functions, printed by the explorer (Gx). No condition. -/
namespace Go.Proofs.YtkeoeooghhjibaaGreatDoor
set_option maxRecDepth 100000
set_option linter.unusedVariables false
def ekV(A:Ar)(vs:List AV)(n:Int):Int:=AV.toI (AV.cellAt (A.nthA vs (A.nat n)) 0)
def enV(A:Ar)(vs:List AV)(n:Int):Int:=AV.toI (AV.cellAt (A.nthA vs (A.nat n)) 1)
def ZxZ(ms ks rs l:List AV)(wn fl:Int)(vs:List AV):AFrame:={ fn:=15,N:=50,env:=[(0,AV.agg (Row.gen [.list (Row.big .str ms), .list (Row.big (.agg [.str, .int .i64]) ks), .list (Row.big (.agg [.str, .int .i64, .int .i64, .int .i64, .int .i64]) rs), .list (Row.big (.agg [.int .i64, .int .i64, .int .i64]) l), .int .i64 wn, .int .i64 fl])),(1,AV.list (Row.big (.agg [.int .i64, .int .i64]) vs))],todo:=[.code a15.code],defs:=[],rnd:=none,ret:=false,res:=[ARes.cell 4 true 8,ARes.tmp 5,ARes.tmp 6] }
def ZJe(ms ks rs l:List AV)(wn fl:Int)(vs:List AV):List AFrame:=[(ZxZ ms ks rs l wn fl vs)]
theorem Zun(ms ks rs l:List AV)(wn fl:Int)(vs:List AV):Zar tab 15 [AV.agg (Row.gen [.list (Row.big .str ms), .list (Row.big (.agg [.str, .int .i64]) ks), .list (Row.big (.agg [.str, .int .i64, .int .i64, .int .i64, .int .i64]) rs), .list (Row.big (.agg [.int .i64, .int .i64, .int .i64]) l), .int .i64 wn, .int .i64 fl]),AV.list (Row.big (.agg [.int .i64, .int .i64]) vs)]=some (ZxZ ms ks rs l wn fl vs):=rfl
def ZaE(ms ks rs l:List AV)(wn fl:Int)(vs:List AV)(n0 n1 n2 n3:Int)(b4:Bool)(n5:Int)(b6:Bool)(n7 n8:Int)(b9:Bool)(n10:Int)(b11:Bool)(x12:List AV)(l13:List Int)(x14:List AV)(l15:List Int)(n16 n17:Int):List AFrame:=[{ fn:=15,N:=50,env:=[(4,AV.ptr 15005 0 0 0),(8,AV.ptr 69009 0 0 0),(26,AV.list (Row.big (.agg [.int .i64, .int .i64]) vs)),(27,AV.int .i64 n0),(28,AV.int .i64 n1)],todo:=.code (ACode.gh [] ZBk)::ZDy,defs:=[],rnd:=none,ret:=false,res:=[ARes.cell 4 true 8,ARes.tmp 5,ARes.tmp 6] }]
def Zaz(ms ks rs l:List AV)(wn fl:Int)(vs:List AV)(n0 n1 n2 n3:Int)(b4:Bool)(n5:Int)(b6:Bool)(n7 n8:Int)(b9:Bool)(n10:Int)(b11:Bool)(x12:List AV)(l13:List Int)(x14:List AV)(l15:List Int)(n16 n17:Int):Zac:=[(15005,{ base:=0,blks:=[Blk.row 37 8 (Row.gen [AV.agg (Row.gen [AV.int .i64 n2,AV.int .i64 n3,AV.nils,AV.bool b4,AV.int .i64 n5,AV.bool b6,AV.nils,AV.nils])])] }),(69009,{ base:=0,blks:=[Blk.row 127 15 (Row.gen [AV.agg (Row.gen [AV.list (Row.big .str ms),AV.list (Row.big (.agg [.str, .int .i64]) ks),AV.list (Row.big (.agg [.str, .int .i64, .int .i64, .int .i64, .int .i64]) rs),AV.list (Row.big (.agg [.int .i64, .int .i64, .int .i64]) l),AV.int .i64 wn,AV.int .i64 fl,AV.int .i64 n7,AV.int .i64 n8,AV.row 69708 0,AV.bool b9,AV.int .i64 n10,AV.bool b11,AV.row 69712 0,AV.row 69713 0,AV.ptr 72012 0 0 0])])] }),(69708,{ base:=0,blks:=[Blk.row 78 2 (Row.big (.agg [.int .i64, .int .i64]) x12)] }),(69712,{ base:=0,blks:=[Blk.row 3 1 (.ints .i64 l13)] }),(69713,{ base:=0,blks:=[Blk.row 129 2 (Row.big (.agg [.int .i64, .bool]) x14)] }),(72009,{ base:=0,blks:=[Blk.row 3 1 (.ints .i64 l15)] }),(72012,{ base:=0,blks:=[Blk.row 137 6 (Row.gen [AV.agg (Row.gen [AV.list (Row.big .str ms),AV.list (Row.big (.agg [.str, .int .i64]) ks),AV.list (Row.big (.agg [.str, .int .i64, .int .i64, .int .i64, .int .i64]) rs),AV.int .i64 n16,AV.int .i64 n17,AV.row 72009 0])])] })]
abbrev Zam(ms ks rs l:List AV)(wn fl:Int)(vs:List AV)(n0 n1 n2 n3:Int)(b4:Bool)(n5:Int)(b6:Bool)(n7 n8:Int)(b9:Bool)(n10:Int)(b11:Bool)(x12:List AV)(l13:List Int)(x14:List AV)(l15:List Int)(n16 n17:Int):List AFrame×Zac:=(ZaE ms ks rs l wn fl vs n0 n1 n2 n3 b4 n5 b6 n7 n8 b9 n10 b11 x12 l13 x14 l15 n16 n17,Zaz ms ks rs l wn fl vs n0 n1 n2 n3 b4 n5 b6 n7 n8 b9 n10 b11 x12 l13 x14 l15 n16 n17)
def Zr5(A:Ar)(K:KT)(F:FT)(ms ks rs l:List AV)(wn fl:Int)(vs:List AV):Prop:=rB [decide (List.length [upE ms ks rs l wn fl,Zaa (A.le (A.int (A.lenA vs)) 200) 8]≤1000000),List.all [AV.int .i64 (upE ms ks rs l wn fl),AV.int .i64 (Zaa (A.le (A.int (A.lenA vs)) 200) 8)] fun x=>AV.bx x&&Nat.beq (Zae A x) 1,decide (ZaA ms ks rs=true∧List.length l≤1000000)] (bB (A.not (A.eq (Zai [upE ms ks rs l wn fl,Zaa (A.le (A.int (A.lenA vs)) 200) 8]) 0)) (F (AV.tup [AV.agg (Row.gen [.int .i64 0, .int .i64 0,AV.nils, .bool false, .int .i64 0, .bool false,AV.nils,AV.nils]),AV.int .i64 0,AV.int .i64 (Zai [upE ms ks rs l wn fl,Zaa (A.le (A.int (A.lenA vs)) 200) 8])]) (none)) (Zxy 4 (rB [decide ([-1]=[-1]∧0≤A.int (A.lenA ks)∧A.int (A.lenA ks)≤8),List.all [AV.int .i64 (-1)] fun x=>AV.bx x&&Nat.beq (Zae A x) 1] (K (Zam (ms) (ks) (rs) (l) (wn) (fl) (vs) (A.int (A.lenA vs)) (0) (0) (0) (false) (0) (false) (0) (0) (false) (0) (false) ([]) ([]) ([]) (List.replicate (Int.toNat (A.int (A.lenA ks))) (-1)) (0) (0))))))
theorem ZFQ{A:Ar}{K:KT}{F:FT}{M:MT}{ms ks rs l:List AV}{wn fl:Int}{vs:List AV} :ZaH A tab Bn 15 K F M (.run 26 (.tf (.run 9 (.fn)) (.run 11 (.any (.run 33 (.hd)))))) (ZJe ms ks rs l wn fl vs) []=Zr5 A K F ms ks rs l wn fl vs:=by kernel_rfl
def Zap(A:Ar)(K:KT)(F:FT)(ms ks rs l:List AV)(wn fl:Int)(vs:List AV)(n0 n1 n2 n3:Int)(b4:Bool)(n5:Int)(b6:Bool)(n7 n8:Int)(b9:Bool)(n10:Int)(b11:Bool)(x12:List AV)(l13:List Int)(x14:List AV)(l15:List Int)(n16 n17:Int):Prop:=bB (A.lt n1 n0) (rB [Zag (Zag (A.le 0 n1) (Nat.blt (A.nat n1) (A.lenA vs))) true] (bB (A.eq (evE (ekV A vs n1) (enV A vs n1)) 0) (qB [A.eq (ekV A vs n1) 0] (rB [A.inR .i64 (A.add n7 (enV A vs n1))] (bB (A.lt 1000000000000 (A.add n7 (enV A vs n1))) (rB [A.not (A.eq 2 0)] (F (AV.tup [AV.agg (Row.gen [.int .i64 0, .int .i64 0,AV.nils, .bool false, .int .i64 0, .bool false,AV.nils,AV.nils]),AV.int .i64 n1,AV.int .i64 2]) (none))) (rB [A.inR .i64 (A.add n7 (enV A vs n1))] (rB [!A.not (A.eq 0 0)] (rB [A.inR .i64 (A.add n1 1)] (K (Zam (ms) (ks) (rs) (l) (wn) (fl) (vs) (n0) (A.add n1 1) (n2) (n3) (b4) (n5) (b6) (A.add n7 (enV A vs n1)) (n8) (b9) (n10) (b11) (x12) (l13) (x14) (l15) (n16) (A.add n7 (enV A vs n1))))))))) (qB [A.eq (ekV A vs n1) (Int.ofNat 1)] (rB [decide (List.length [Zaa (A.lt (enV A vs n1) (A.int (A.lenA l))) 6,Zaa (A.not b11) 21,Zaa (Zab (enV A vs n1) n10 (A.sub (A.add n10 wn) 1)) 26,Zaa (A.lt (A.int (A.len l13)) fl) 16]≤1000000),List.all [AV.int .i64 (Zaa (A.lt (enV A vs n1) (A.int (A.lenA l))) 6),AV.int .i64 (Zaa (A.not b11) 21),AV.int .i64 (Zaa (Zab (enV A vs n1) n10 (A.sub (A.add n10 wn) 1)) 26),AV.int .i64 (Zaa (A.lt (A.int (A.len l13)) fl) 16)] fun x=>AV.bx x&&Nat.beq (Zae A x) 1,A.inR .i64 (A.sub (A.add n10 wn) 1),A.inR .i64 (A.add n10 wn)] (bB (A.eq (Zai [Zaa (A.lt (enV A vs n1) (A.int (A.lenA l))) 6,Zaa (A.not b11) 21,Zaa (Zab (enV A vs n1) n10 (A.sub (A.add n10 wn) 1)) 26,Zaa (A.lt (A.int (A.len l13)) fl) 16]) 0) (rB [Nat.ble (A.len l13+A.len [(enV A vs n1)]) 4294967296,List.all [AV.int .i64 (enV A vs n1)] fun x=>AV.bx x&&Nat.beq (Zae A x) 1] (rB [!A.not (A.eq (Zai [Zaa (A.lt (enV A vs n1) (A.int (A.lenA l))) 6,Zaa (A.not b11) 21,Zaa (Zab (enV A vs n1) n10 (A.sub (A.add n10 wn) 1)) 26,Zaa (A.lt (A.int (A.len l13)) fl) 16]) 0)] (rB [A.inR .i64 (A.add n1 1)] (K (Zam (ms) (ks) (rs) (l) (wn) (fl) (vs) (n0) (A.add n1 1) (n2) (n3) (b4) (n5) (b6) (n7) (n8) (b9) (n10) (b11) (x12) (A.app l13 [(enV A vs n1)]) (x14) (l15) (n16) (n17)))))) (rB [A.not (A.eq (Zai [Zaa (A.lt (enV A vs n1) (A.int (A.lenA l))) 6,Zaa (A.not b11) 21,Zaa (Zab (enV A vs n1) n10 (A.sub (A.add n10 wn) 1)) 26,Zaa (A.lt (A.int (A.len l13)) fl) 16]) 0)] (F (AV.tup [AV.agg (Row.gen [.int .i64 0, .int .i64 0,AV.nils, .bool false, .int .i64 0, .bool false,AV.nils,AV.nils]),AV.int .i64 n1,AV.int .i64 (Zai [Zaa (A.lt (enV A vs n1) (A.int (A.lenA l))) 6,Zaa (A.not b11) 21,Zaa (Zab (enV A vs n1) n10 (A.sub (A.add n10 wn) 1)) 26,Zaa (A.lt (A.int (A.len l13)) fl) 16])]) (none))))) (qB [A.eq (ekV A vs n1) (Int.ofNat 2)] (bB (A.le (A.int (A.len l13)) (enV A vs n1)) (rB [A.not false] (rB [A.not (A.eq 6 0)] (F (AV.tup [AV.agg (Row.gen [.int .i64 0, .int .i64 0,AV.nils, .bool false, .int .i64 0, .bool false,AV.nils,AV.nils]),AV.int .i64 n1,AV.int .i64 6]) (none)))) (rB (dJ A l13 (enV A vs n1)) (bB (A.eq (enV A vs n1) (A.add (enV A vs n1) 1)) (rB [!A.not true] (bB (A.not b9) (bB (A.eq (A.nth l13 (A.nat (enV A vs n1))) (A.int (A.lenA x12))) (rB [decide (Zab n17 ((A.nthA l (A.nat (A.nth l13 (A.nat (enV A vs n1))))).cellAt 1).toI ((A.nthA l (A.nat (A.nth l13 (A.nat (enV A vs n1))))).cellAt 2).toI=false∨ZbX rs n17 l15=true),Zag (Zag (A.le 0 (A.nth l13 (A.nat (enV A vs n1)))) (Nat.blt (A.nat (A.nth l13 (A.nat (enV A vs n1)))) (A.lenA l))) true] (bB (Zog rs n16 n17 l15 ((A.nthA l (A.nat (A.nth l13 (A.nat (enV A vs n1))))).cellAt 0).toI ((A.nthA l (A.nat (A.nth l13 (A.nat (enV A vs n1))))).cellAt 1).toI ((A.nthA l (A.nat (A.nth l13 (A.nat (enV A vs n1))))).cellAt 2).toI) (rB [Zag (Zag (A.le 0 ((A.nthA l (A.nat (A.nth l13 (A.nat (enV A vs n1))))).cellAt 0).toI) (Nat.blt (A.nat ((A.nthA l (A.nat (A.nth l13 (A.nat (enV A vs n1))))).cellAt 0).toI) (A.lenA ks))) true,Zag (Nat.blt (A.nat ((A.nthA l (A.nat (A.nth l13 (A.nat (enV A vs n1))))).cellAt 0).toI) (A.len l15)) true,Zag (A.le 0 ((A.nthA l (A.nat (A.nth l13 (A.nat (enV A vs n1))))).cellAt 0).toI) (Nat.blt (A.nat ((A.nthA l (A.nat (A.nth l13 (A.nat (enV A vs n1))))).cellAt 0).toI) (A.len l15))] (bB (A.not (A.eq ((A.nthA ks (A.nat ((A.nthA l (A.nat (A.nth l13 (A.nat (enV A vs n1))))).cellAt 0).toI)).cellAt 1).toI (-1))) (rB [Nat.ble (A.lenA x12+A.lenA [AV.agg (Row.gen [.int .i64 (A.nth l13 (A.nat (enV A vs n1))), .int .i64 n7])]) 4294967296,List.all [AV.agg (Row.gen [.int .i64 (A.nth l13 (A.nat (enV A vs n1))), .int .i64 n7])] fun x=>AV.bx x&&Nat.beq (Zae A x) 2] (bB (A.lt (A.int (A.lenA x14)) fl) (rB [Nat.ble (A.lenA x14+A.lenA [AV.agg (Row.gen [AV.int .i64 (A.int (A.lenA (A.appA x12 [AV.agg (Row.gen [AV.int .i64 (A.nth l13 (A.nat (enV A vs n1))),AV.int .i64 n7])]))),AV.bool b9])]) 4294967296,List.all [AV.agg (Row.gen [AV.int .i64 (A.int (A.lenA (A.appA x12 [AV.agg (Row.gen [AV.int .i64 (A.nth l13 (A.nat (enV A vs n1))),AV.int .i64 n7])]))),AV.bool b9])] fun x=>AV.bx x&&Nat.beq (Zae A x) 2] (rB [!A.not (A.eq 0 0)] (rB [A.inR .i64 (A.add n1 1)] (K (Zam (ms) (ks) (rs) (l) (wn) (fl) (vs) (n0) (A.add n1 1) (n2) (n3) (b4) (n5) (b6) (n7) ((A.nthA ks (A.nat ((A.nthA l (A.nat (A.nth l13 (A.nat (enV A vs n1))))).cellAt 0).toI)).cellAt 1).toI (b9) (n10) (b11) (A.appA x12 [AV.agg (Row.gen [.int .i64 (A.nth l13 (A.nat (enV A vs n1))), .int .i64 n7])]) (l13) (A.appA x14 [AV.agg (Row.gen [AV.int .i64 (A.int (A.lenA (A.appA x12 [AV.agg (Row.gen [AV.int .i64 (A.nth l13 (A.nat (enV A vs n1))),AV.int .i64 n7])]))),AV.bool b9])]) (A.set l15 (A.nat ((A.nthA l (A.nat (A.nth l13 (A.nat (enV A vs n1))))).cellAt 0).toI) n17) ((A.nthA ks (A.nat ((A.nthA l (A.nat (A.nth l13 (A.nat (enV A vs n1))))).cellAt 0).toI)).cellAt 1).toI (n17)))))) (rB [!A.not (A.eq 0 0)] (rB [A.inR .i64 (A.add n1 1)] (K (Zam (ms) (ks) (rs) (l) (wn) (fl) (vs) (n0) (A.add n1 1) (n2) (n3) (b4) (n5) (b6) (n7) ((A.nthA ks (A.nat ((A.nthA l (A.nat (A.nth l13 (A.nat (enV A vs n1))))).cellAt 0).toI)).cellAt 1).toI (b9) (n10) (b11) (A.appA x12 [AV.agg (Row.gen [.int .i64 (A.nth l13 (A.nat (enV A vs n1))), .int .i64 n7])]) (l13) (x14) (A.set l15 (A.nat ((A.nthA l (A.nat (A.nth l13 (A.nat (enV A vs n1))))).cellAt 0).toI) n17) ((A.nthA ks (A.nat ((A.nthA l (A.nat (A.nth l13 (A.nat (enV A vs n1))))).cellAt 0).toI)).cellAt 1).toI (n17))))))) (rB [Nat.ble (A.lenA x12+A.lenA [AV.agg (Row.gen [.int .i64 (A.nth l13 (A.nat (enV A vs n1))), .int .i64 n7])]) 4294967296,List.all [AV.agg (Row.gen [.int .i64 (A.nth l13 (A.nat (enV A vs n1))), .int .i64 n7])] fun x=>AV.bx x&&Nat.beq (Zae A x) 2] (bB (A.lt (A.int (A.lenA x14)) fl) (rB [Nat.ble (A.lenA x14+A.lenA [AV.agg (Row.gen [AV.int .i64 (A.int (A.lenA (A.appA x12 [AV.agg (Row.gen [AV.int .i64 (A.nth l13 (A.nat (enV A vs n1))),AV.int .i64 n7])]))),AV.bool b9])]) 4294967296,List.all [AV.agg (Row.gen [AV.int .i64 (A.int (A.lenA (A.appA x12 [AV.agg (Row.gen [AV.int .i64 (A.nth l13 (A.nat (enV A vs n1))),AV.int .i64 n7])]))),AV.bool b9])] fun x=>AV.bx x&&Nat.beq (Zae A x) 2] (rB [!A.not (A.eq 0 0)] (rB [A.inR .i64 (A.add n1 1)] (K (Zam (ms) (ks) (rs) (l) (wn) (fl) (vs) (n0) (A.add n1 1) (n2) (n3) (b4) (n5) (b6) (n7) (n16) (b9) (n10) (b11) (A.appA x12 [AV.agg (Row.gen [.int .i64 (A.nth l13 (A.nat (enV A vs n1))), .int .i64 n7])]) (l13) (A.appA x14 [AV.agg (Row.gen [AV.int .i64 (A.int (A.lenA (A.appA x12 [AV.agg (Row.gen [AV.int .i64 (A.nth l13 (A.nat (enV A vs n1))),AV.int .i64 n7])]))),AV.bool b9])]) (A.set l15 (A.nat ((A.nthA l (A.nat (A.nth l13 (A.nat (enV A vs n1))))).cellAt 0).toI) n17) (n16) (n17)))))) (rB [!A.not (A.eq 0 0)] (rB [A.inR .i64 (A.add n1 1)] (K (Zam (ms) (ks) (rs) (l) (wn) (fl) (vs) (n0) (A.add n1 1) (n2) (n3) (b4) (n5) (b6) (n7) (n16) (b9) (n10) (b11) (A.appA x12 [AV.agg (Row.gen [.int .i64 (A.nth l13 (A.nat (enV A vs n1))), .int .i64 n7])]) (l13) (x14) (A.set l15 (A.nat ((A.nthA l (A.nat (A.nth l13 (A.nat (enV A vs n1))))).cellAt 0).toI) n17) (n16) (n17))))))))) (bB (A.lt (A.int (A.lenA x14)) fl) (rB [Nat.ble (A.lenA x14+A.lenA [AV.agg (Row.gen [.int .i64 (A.int (A.lenA x12)), .bool true])]) 4294967296,List.all [AV.agg (Row.gen [.int .i64 (A.int (A.lenA x12)), .bool true])] fun x=>AV.bx x&&Nat.beq (Zae A x) 2] (rB [!A.not (A.eq 0 0)] (rB [A.inR .i64 (A.add n1 1)] (K (Zam (ms) (ks) (rs) (l) (wn) (fl) (vs) (n0) (A.add n1 1) (n2) (n3) (b4) (n5) (b6) (n7) (n8) (true) (n10) (b11) (x12) (l13) (A.appA x14 [AV.agg (Row.gen [.int .i64 (A.int (A.lenA x12)), .bool true])]) (l15) (n16) (n17)))))) (rB [!A.not (A.eq 0 0)] (rB [A.inR .i64 (A.add n1 1)] (K (Zam (ms) (ks) (rs) (l) (wn) (fl) (vs) (n0) (A.add n1 1) (n2) (n3) (b4) (n5) (b6) (n7) (n8) (true) (n10) (b11) (x12) (l13) (x14) (l15) (n16) (n17)))))))) (bB (A.lt (A.int (A.lenA x14)) fl) (rB [Nat.ble (A.lenA x14+A.lenA [AV.agg (Row.gen [.int .i64 (A.int (A.lenA x12)), .bool b9])]) 4294967296,List.all [AV.agg (Row.gen [.int .i64 (A.int (A.lenA x12)), .bool b9])] fun x=>AV.bx x&&Nat.beq (Zae A x) 2] (rB [!A.not (A.eq 0 0)] (rB [A.inR .i64 (A.add n1 1)] (K (Zam (ms) (ks) (rs) (l) (wn) (fl) (vs) (n0) (A.add n1 1) (n2) (n3) (b4) (n5) (b6) (n7) (n8) (b9) (n10) (b11) (x12) (l13) (A.appA x14 [AV.agg (Row.gen [.int .i64 (A.int (A.lenA x12)), .bool b9])]) (l15) (n16) (n17)))))) (rB [!A.not (A.eq 0 0)] (rB [A.inR .i64 (A.add n1 1)] (K (Zam (ms) (ks) (rs) (l) (wn) (fl) (vs) (n0) (A.add n1 1) (n2) (n3) (b4) (n5) (b6) (n7) (n8) (b9) (n10) (b11) (x12) (l13) (x14) (l15) (n16) (n17))))))) (bB (A.lt (A.int (A.lenA x14)) fl) (rB [Nat.ble (A.lenA x14+A.lenA [AV.agg (Row.gen [.int .i64 (A.int (A.lenA x12)), .bool b9])]) 4294967296,List.all [AV.agg (Row.gen [.int .i64 (A.int (A.lenA x12)), .bool b9])] fun x=>AV.bx x&&Nat.beq (Zae A x) 2] (rB [!A.not (A.eq 0 0)] (rB [A.inR .i64 (A.add n1 1)] (K (Zam (ms) (ks) (rs) (l) (wn) (fl) (vs) (n0) (A.add n1 1) (n2) (n3) (b4) (n5) (b6) (n7) (n8) (b9) (n10) (b11) (x12) (l13) (A.appA x14 [AV.agg (Row.gen [.int .i64 (A.int (A.lenA x12)), .bool b9])]) (l15) (n16) (n17)))))) (rB [!A.not (A.eq 0 0)] (rB [A.inR .i64 (A.add n1 1)] (K (Zam (ms) (ks) (rs) (l) (wn) (fl) (vs) (n0) (A.add n1 1) (n2) (n3) (b4) (n5) (b6) (n7) (n8) (b9) (n10) (b11) (x12) (l13) (x14) (l15) (n16) (n17)))))))) (rB (dK A l13 (enV A vs n1)) (rB [!A.not true] (bB (A.not b9) (bB (A.eq (A.nth l13 (A.nat (enV A vs n1))) (A.int (A.lenA x12))) (rB [decide (Zab n17 ((A.nthA l (A.nat (A.nth l13 (A.nat (enV A vs n1))))).cellAt 1).toI ((A.nthA l (A.nat (A.nth l13 (A.nat (enV A vs n1))))).cellAt 2).toI=false∨ZbX rs n17 l15=true),Zag (Zag (A.le 0 (A.nth l13 (A.nat (enV A vs n1)))) (Nat.blt (A.nat (A.nth l13 (A.nat (enV A vs n1)))) (A.lenA l))) true] (bB (Zog rs n16 n17 l15 ((A.nthA l (A.nat (A.nth l13 (A.nat (enV A vs n1))))).cellAt 0).toI ((A.nthA l (A.nat (A.nth l13 (A.nat (enV A vs n1))))).cellAt 1).toI ((A.nthA l (A.nat (A.nth l13 (A.nat (enV A vs n1))))).cellAt 2).toI) (rB [Zag (Zag (A.le 0 ((A.nthA l (A.nat (A.nth l13 (A.nat (enV A vs n1))))).cellAt 0).toI) (Nat.blt (A.nat ((A.nthA l (A.nat (A.nth l13 (A.nat (enV A vs n1))))).cellAt 0).toI) (A.lenA ks))) true,Zag (Nat.blt (A.nat ((A.nthA l (A.nat (A.nth l13 (A.nat (enV A vs n1))))).cellAt 0).toI) (A.len l15)) true,Zag (A.le 0 ((A.nthA l (A.nat (A.nth l13 (A.nat (enV A vs n1))))).cellAt 0).toI) (Nat.blt (A.nat ((A.nthA l (A.nat (A.nth l13 (A.nat (enV A vs n1))))).cellAt 0).toI) (A.len l15))] (bB (A.not (A.eq ((A.nthA ks (A.nat ((A.nthA l (A.nat (A.nth l13 (A.nat (enV A vs n1))))).cellAt 0).toI)).cellAt 1).toI (-1))) (rB [Nat.ble (A.lenA x12+A.lenA [AV.agg (Row.gen [.int .i64 (A.nth l13 (A.nat (enV A vs n1))), .int .i64 n7])]) 4294967296,List.all [AV.agg (Row.gen [.int .i64 (A.nth l13 (A.nat (enV A vs n1))), .int .i64 n7])] fun x=>AV.bx x&&Nat.beq (Zae A x) 2] (bB (A.lt (A.int (A.lenA x14)) fl) (rB [Nat.ble (A.lenA x14+A.lenA [AV.agg (Row.gen [AV.int .i64 (A.int (A.lenA (A.appA x12 [AV.agg (Row.gen [AV.int .i64 (A.nth l13 (A.nat (enV A vs n1))),AV.int .i64 n7])]))),AV.bool b9])]) 4294967296,List.all [AV.agg (Row.gen [AV.int .i64 (A.int (A.lenA (A.appA x12 [AV.agg (Row.gen [AV.int .i64 (A.nth l13 (A.nat (enV A vs n1))),AV.int .i64 n7])]))),AV.bool b9])] fun x=>AV.bx x&&Nat.beq (Zae A x) 2] (rB [!A.not (A.eq 0 0)] (rB [A.inR .i64 (A.add n1 1)] (K (Zam (ms) (ks) (rs) (l) (wn) (fl) (vs) (n0) (A.add n1 1) (n2) (n3) (b4) (n5) (b6) (n7) ((A.nthA ks (A.nat ((A.nthA l (A.nat (A.nth l13 (A.nat (enV A vs n1))))).cellAt 0).toI)).cellAt 1).toI (b9) (n10) (b11) (A.appA x12 [AV.agg (Row.gen [.int .i64 (A.nth l13 (A.nat (enV A vs n1))), .int .i64 n7])]) (dX A l13 (enV A vs n1)) (A.appA x14 [AV.agg (Row.gen [AV.int .i64 (A.int (A.lenA (A.appA x12 [AV.agg (Row.gen [AV.int .i64 (A.nth l13 (A.nat (enV A vs n1))),AV.int .i64 n7])]))),AV.bool b9])]) (A.set l15 (A.nat ((A.nthA l (A.nat (A.nth l13 (A.nat (enV A vs n1))))).cellAt 0).toI) n17) ((A.nthA ks (A.nat ((A.nthA l (A.nat (A.nth l13 (A.nat (enV A vs n1))))).cellAt 0).toI)).cellAt 1).toI (n17)))))) (rB [!A.not (A.eq 0 0)] (rB [A.inR .i64 (A.add n1 1)] (K (Zam (ms) (ks) (rs) (l) (wn) (fl) (vs) (n0) (A.add n1 1) (n2) (n3) (b4) (n5) (b6) (n7) ((A.nthA ks (A.nat ((A.nthA l (A.nat (A.nth l13 (A.nat (enV A vs n1))))).cellAt 0).toI)).cellAt 1).toI (b9) (n10) (b11) (A.appA x12 [AV.agg (Row.gen [.int .i64 (A.nth l13 (A.nat (enV A vs n1))), .int .i64 n7])]) (dX A l13 (enV A vs n1)) (x14) (A.set l15 (A.nat ((A.nthA l (A.nat (A.nth l13 (A.nat (enV A vs n1))))).cellAt 0).toI) n17) ((A.nthA ks (A.nat ((A.nthA l (A.nat (A.nth l13 (A.nat (enV A vs n1))))).cellAt 0).toI)).cellAt 1).toI (n17))))))) (rB [Nat.ble (A.lenA x12+A.lenA [AV.agg (Row.gen [.int .i64 (A.nth l13 (A.nat (enV A vs n1))), .int .i64 n7])]) 4294967296,List.all [AV.agg (Row.gen [.int .i64 (A.nth l13 (A.nat (enV A vs n1))), .int .i64 n7])] fun x=>AV.bx x&&Nat.beq (Zae A x) 2] (bB (A.lt (A.int (A.lenA x14)) fl) (rB [Nat.ble (A.lenA x14+A.lenA [AV.agg (Row.gen [AV.int .i64 (A.int (A.lenA (A.appA x12 [AV.agg (Row.gen [AV.int .i64 (A.nth l13 (A.nat (enV A vs n1))),AV.int .i64 n7])]))),AV.bool b9])]) 4294967296,List.all [AV.agg (Row.gen [AV.int .i64 (A.int (A.lenA (A.appA x12 [AV.agg (Row.gen [AV.int .i64 (A.nth l13 (A.nat (enV A vs n1))),AV.int .i64 n7])]))),AV.bool b9])] fun x=>AV.bx x&&Nat.beq (Zae A x) 2] (rB [!A.not (A.eq 0 0)] (rB [A.inR .i64 (A.add n1 1)] (K (Zam (ms) (ks) (rs) (l) (wn) (fl) (vs) (n0) (A.add n1 1) (n2) (n3) (b4) (n5) (b6) (n7) (n16) (b9) (n10) (b11) (A.appA x12 [AV.agg (Row.gen [.int .i64 (A.nth l13 (A.nat (enV A vs n1))), .int .i64 n7])]) (dX A l13 (enV A vs n1)) (A.appA x14 [AV.agg (Row.gen [AV.int .i64 (A.int (A.lenA (A.appA x12 [AV.agg (Row.gen [AV.int .i64 (A.nth l13 (A.nat (enV A vs n1))),AV.int .i64 n7])]))),AV.bool b9])]) (A.set l15 (A.nat ((A.nthA l (A.nat (A.nth l13 (A.nat (enV A vs n1))))).cellAt 0).toI) n17) (n16) (n17)))))) (rB [!A.not (A.eq 0 0)] (rB [A.inR .i64 (A.add n1 1)] (K (Zam (ms) (ks) (rs) (l) (wn) (fl) (vs) (n0) (A.add n1 1) (n2) (n3) (b4) (n5) (b6) (n7) (n16) (b9) (n10) (b11) (A.appA x12 [AV.agg (Row.gen [.int .i64 (A.nth l13 (A.nat (enV A vs n1))), .int .i64 n7])]) (dX A l13 (enV A vs n1)) (x14) (A.set l15 (A.nat ((A.nthA l (A.nat (A.nth l13 (A.nat (enV A vs n1))))).cellAt 0).toI) n17) (n16) (n17))))))))) (bB (A.lt (A.int (A.lenA x14)) fl) (rB [Nat.ble (A.lenA x14+A.lenA [AV.agg (Row.gen [.int .i64 (A.int (A.lenA x12)), .bool true])]) 4294967296,List.all [AV.agg (Row.gen [.int .i64 (A.int (A.lenA x12)), .bool true])] fun x=>AV.bx x&&Nat.beq (Zae A x) 2] (rB [!A.not (A.eq 0 0)] (rB [A.inR .i64 (A.add n1 1)] (K (Zam (ms) (ks) (rs) (l) (wn) (fl) (vs) (n0) (A.add n1 1) (n2) (n3) (b4) (n5) (b6) (n7) (n8) (true) (n10) (b11) (x12) (dX A l13 (enV A vs n1)) (A.appA x14 [AV.agg (Row.gen [.int .i64 (A.int (A.lenA x12)), .bool true])]) (l15) (n16) (n17)))))) (rB [!A.not (A.eq 0 0)] (rB [A.inR .i64 (A.add n1 1)] (K (Zam (ms) (ks) (rs) (l) (wn) (fl) (vs) (n0) (A.add n1 1) (n2) (n3) (b4) (n5) (b6) (n7) (n8) (true) (n10) (b11) (x12) (dX A l13 (enV A vs n1)) (x14) (l15) (n16) (n17)))))))) (bB (A.lt (A.int (A.lenA x14)) fl) (rB [Nat.ble (A.lenA x14+A.lenA [AV.agg (Row.gen [.int .i64 (A.int (A.lenA x12)), .bool b9])]) 4294967296,List.all [AV.agg (Row.gen [.int .i64 (A.int (A.lenA x12)), .bool b9])] fun x=>AV.bx x&&Nat.beq (Zae A x) 2] (rB [!A.not (A.eq 0 0)] (rB [A.inR .i64 (A.add n1 1)] (K (Zam (ms) (ks) (rs) (l) (wn) (fl) (vs) (n0) (A.add n1 1) (n2) (n3) (b4) (n5) (b6) (n7) (n8) (b9) (n10) (b11) (x12) (dX A l13 (enV A vs n1)) (A.appA x14 [AV.agg (Row.gen [.int .i64 (A.int (A.lenA x12)), .bool b9])]) (l15) (n16) (n17)))))) (rB [!A.not (A.eq 0 0)] (rB [A.inR .i64 (A.add n1 1)] (K (Zam (ms) (ks) (rs) (l) (wn) (fl) (vs) (n0) (A.add n1 1) (n2) (n3) (b4) (n5) (b6) (n7) (n8) (b9) (n10) (b11) (x12) (dX A l13 (enV A vs n1)) (x14) (l15) (n16) (n17))))))) (bB (A.lt (A.int (A.lenA x14)) fl) (rB [Nat.ble (A.lenA x14+A.lenA [AV.agg (Row.gen [.int .i64 (A.int (A.lenA x12)), .bool b9])]) 4294967296,List.all [AV.agg (Row.gen [.int .i64 (A.int (A.lenA x12)), .bool b9])] fun x=>AV.bx x&&Nat.beq (Zae A x) 2] (rB [!A.not (A.eq 0 0)] (rB [A.inR .i64 (A.add n1 1)] (K (Zam (ms) (ks) (rs) (l) (wn) (fl) (vs) (n0) (A.add n1 1) (n2) (n3) (b4) (n5) (b6) (n7) (n8) (b9) (n10) (b11) (x12) (dX A l13 (enV A vs n1)) (A.appA x14 [AV.agg (Row.gen [.int .i64 (A.int (A.lenA x12)), .bool b9])]) (l15) (n16) (n17)))))) (rB [!A.not (A.eq 0 0)] (rB [A.inR .i64 (A.add n1 1)] (K (Zam (ms) (ks) (rs) (l) (wn) (fl) (vs) (n0) (A.add n1 1) (n2) (n3) (b4) (n5) (b6) (n7) (n8) (b9) (n10) (b11) (x12) (dX A l13 (enV A vs n1)) (x14) (l15) (n16) (n17)))))))))))) (qB [A.eq (ekV A vs n1) (Int.ofNat 3)] (bB (A.le (A.int (A.lenA x14)) (enV A vs n1)) (rB [A.not false] (rB [A.not (A.eq 6 0)] (F (AV.tup [AV.agg (Row.gen [.int .i64 0, .int .i64 0,AV.nils, .bool false, .int .i64 0, .bool false,AV.nils,AV.nils]),AV.int .i64 n1,AV.int .i64 6]) (none)))) (rB (eJ A x14 (enV A vs n1)) (bB (A.eq (enV A vs n1) (A.add (enV A vs n1) 1)) (rB [!A.not true] (bB (b11) (rB [!A.not (A.eq 0 0)] (rB [A.inR .i64 (A.add n1 1)] (K (Zam (ms) (ks) (rs) (l) (wn) (fl) (vs) (n0) (A.add n1 1) (n2) (n3) (b4) (n5) (b6) (n7) (n8) (b9) (A.max n10 ((A.nthA x14 (A.nat (enV A vs n1))).cellAt 0).toI) (true) (x12) (l13) (x14) (l15) (n16) (n17))))) (rB [!A.not (A.eq 0 0)] (rB [A.inR .i64 (A.add n1 1)] (K (Zam (ms) (ks) (rs) (l) (wn) (fl) (vs) (n0) (A.add n1 1) (n2) (n3) (b4) (n5) (b6) (n7) (n8) (b9) (A.max n10 ((A.nthA x14 (A.nat (enV A vs n1))).cellAt 0).toI) ((A.nthA x14 (A.nat (enV A vs n1))).cellAt 1).toB (x12) (l13) (x14) (l15) (n16) (n17))))))) (rB (eK A x14 (enV A vs n1)) (rB [!A.not true] (bB (b11) (rB [!A.not (A.eq 0 0)] (rB [A.inR .i64 (A.add n1 1)] (K (Zam (ms) (ks) (rs) (l) (wn) (fl) (vs) (n0) (A.add n1 1) (n2) (n3) (b4) (n5) (b6) (n7) (n8) (b9) (A.max n10 ((A.nthA x14 (A.nat (enV A vs n1))).cellAt 0).toI) (true) (x12) (l13) (eX A x14 (enV A vs n1)) (l15) (n16) (n17))))) (rB [!A.not (A.eq 0 0)] (rB [A.inR .i64 (A.add n1 1)] (K (Zam (ms) (ks) (rs) (l) (wn) (fl) (vs) (n0) (A.add n1 1) (n2) (n3) (b4) (n5) (b6) (n7) (n8) (b9) (A.max n10 ((A.nthA x14 (A.nat (enV A vs n1))).cellAt 0).toI) ((A.nthA x14 (A.nat (enV A vs n1))).cellAt 1).toB (x12) (l13) (eX A x14 (enV A vs n1)) (l15) (n16) (n17))))))))))) (qB [A.eq (ekV A vs n1) (Int.ofNat 4)] (bB (A.le (A.int (A.len l13)) (enV A vs n1)) (rB [A.not (A.eq 6 0)] (F (AV.tup [AV.agg (Row.gen [.int .i64 0, .int .i64 0,AV.nils, .bool false, .int .i64 0, .bool false,AV.nils,AV.nils]),AV.int .i64 n1,AV.int .i64 6]) (none))) (rB (dJ A l13 (enV A vs n1)) (bB (A.eq (enV A vs n1) (A.add (enV A vs n1) 1)) (rB [!A.not (A.eq 0 0)] (rB [A.inR .i64 (A.add n1 1)] (K (Zam (ms) (ks) (rs) (l) (wn) (fl) (vs) (n0) (A.add n1 1) (n2) (n3) (b4) (n5) (b6) (n7) (n8) (b9) (n10) (b11) (x12) (l13) (x14) (l15) (n16) (n17))))) (rB (dK A l13 (enV A vs n1)) (rB [!A.not (A.eq 0 0)] (rB [A.inR .i64 (A.add n1 1)] (K (Zam (ms) (ks) (rs) (l) (wn) (fl) (vs) (n0) (A.add n1 1) (n2) (n3) (b4) (n5) (b6) (n7) (n8) (b9) (n10) (b11) (x12) (dX A l13 (enV A vs n1)) (x14) (l15) (n16) (n17))))))))) (qB [A.eq (ekV A vs n1) (Int.ofNat 5)] (bB (A.le (A.int (A.lenA x14)) (enV A vs n1)) (rB [A.not (A.eq 6 0)] (F (AV.tup [AV.agg (Row.gen [.int .i64 0, .int .i64 0,AV.nils, .bool false, .int .i64 0, .bool false,AV.nils,AV.nils]),AV.int .i64 n1,AV.int .i64 6]) (none))) (rB (eJ A x14 (enV A vs n1)) (bB (A.eq (enV A vs n1) (A.add (enV A vs n1) 1)) (rB [!A.not (A.eq 0 0)] (rB [A.inR .i64 (A.add n1 1)] (K (Zam (ms) (ks) (rs) (l) (wn) (fl) (vs) (n0) (A.add n1 1) (n2) (n3) (b4) (n5) (b6) (n7) (n8) (b9) (n10) (b11) (x12) (l13) (x14) (l15) (n16) (n17))))) (rB (eK A x14 (enV A vs n1)) (rB [!A.not (A.eq 0 0)] (rB [A.inR .i64 (A.add n1 1)] (K (Zam (ms) (ks) (rs) (l) (wn) (fl) (vs) (n0) (A.add n1 1) (n2) (n3) (b4) (n5) (b6) (n7) (n8) (b9) (n10) (b11) (x12) (l13) (eX A x14 (enV A vs n1)) (l15) (n16) (n17))))))))) (qB [A.eq (ekV A vs n1) (Int.ofNat 6)] (rB [decide (List.length [Zaa (A.lt (enV A vs n1) (A.int (A.len l13))) 6,Zaa (A.lt (A.int (A.len l13)) fl) 16]≤1000000),List.all [AV.int .i64 (Zaa (A.lt (enV A vs n1) (A.int (A.len l13))) 6),AV.int .i64 (Zaa (A.lt (A.int (A.len l13)) fl) 16)] fun x=>AV.bx x&&Nat.beq (Zae A x) 1] (bB (A.eq (Zai [Zaa (A.lt (enV A vs n1) (A.int (A.len l13))) 6,Zaa (A.lt (A.int (A.len l13)) fl) 16]) 0) (rB [Nat.ble (A.len l13+A.len [A.nth l13 (A.nat (enV A vs n1))]) 4294967296,List.all [AV.int .i64 (A.nth l13 (A.nat (enV A vs n1)))] fun x=>AV.bx x&&Nat.beq (Zae A x) 1,Zag (Nat.blt (A.nat (enV A vs n1)) (A.len l13)) true,Zag (A.le 0 (enV A vs n1)) (Nat.blt (A.nat (enV A vs n1)) (A.len l13))] (rB [!A.not (A.eq (Zai [Zaa (A.lt (enV A vs n1) (A.int (A.len l13))) 6,Zaa (A.lt (A.int (A.len l13)) fl) 16]) 0)] (rB [A.inR .i64 (A.add n1 1)] (K (Zam (ms) (ks) (rs) (l) (wn) (fl) (vs) (n0) (A.add n1 1) (n2) (n3) (b4) (n5) (b6) (n7) (n8) (b9) (n10) (b11) (x12) (A.app l13 [A.nth l13 (A.nat (enV A vs n1))]) (x14) (l15) (n16) (n17)))))) (rB [A.not (A.eq (Zai [Zaa (A.lt (enV A vs n1) (A.int (A.len l13))) 6,Zaa (A.lt (A.int (A.len l13)) fl) 16]) 0)] (F (AV.tup [AV.agg (Row.gen [.int .i64 0, .int .i64 0,AV.nils, .bool false, .int .i64 0, .bool false,AV.nils,AV.nils]),AV.int .i64 n1,AV.int .i64 (Zai [Zaa (A.lt (enV A vs n1) (A.int (A.len l13))) 6,Zaa (A.lt (A.int (A.len l13)) fl) 16])]) (none))))) (qB [A.eq (ekV A vs n1) (Int.ofNat 7)] (rB [!A.not (A.eq 0 0)] (rB [A.inR .i64 (A.add n1 1)] (K (Zam (ms) (ks) (rs) (l) (wn) (fl) (vs) (n0) (A.add n1 1) (n2) (n3) (b4) (n5) (b6) (n7) (n8) (b9) (0) (false) (x12) (l13) (x14) (l15) (n16) (n17))))) (rB [A.eq (ekV A vs n1) (Int.ofNat 8)] (bB (A.lt (A.int (A.lenA x14)) fl) (rB [Nat.ble (A.lenA x14+A.lenA [AV.agg (Row.gen [.int .i64 (A.int (A.lenA x12)), .bool b9])]) 4294967296,List.all [AV.agg (Row.gen [.int .i64 (A.int (A.lenA x12)), .bool b9])] fun x=>AV.bx x&&Nat.beq (Zae A x) 2] (rB [!A.not (A.eq 0 0)] (rB [A.inR .i64 (A.add n1 1)] (K (Zam (ms) (ks) (rs) (l) (wn) (fl) (vs) (n0) (A.add n1 1) (n2) (n3) (b4) (n5) (b6) (n7) (n8) (b9) (n10) (b11) (x12) (l13) (A.appA x14 [AV.agg (Row.gen [.int .i64 (A.int (A.lenA x12)), .bool b9])]) (l15) (n16) (n17)))))) (rB [!A.not (A.eq 0 0)] (rB [A.inR .i64 (A.add n1 1)] (K (Zam (ms) (ks) (rs) (l) (wn) (fl) (vs) (n0) (A.add n1 1) (n2) (n3) (b4) (n5) (b6) (n7) (n8) (b9) (n10) (b11) (x12) (l13) (x14) (l15) (n16) (n17))))))))))))))) (rB [A.not (A.eq (evE (ekV A vs n1) (enV A vs n1)) 0)] (F (AV.tup [AV.agg (Row.gen [.int .i64 0, .int .i64 0,AV.nils, .bool false, .int .i64 0, .bool false,AV.nils,AV.nils]),AV.int .i64 n1,AV.int .i64 (evE (ekV A vs n1) (enV A vs n1))]) (none))))) (F (AV.tup [AV.agg (Row.gen [.int .i64 n7, .int .i64 n8, .list (Row.big (.agg [.int .i64, .int .i64]) x12), .bool b9, .int .i64 n10, .bool b11, .list (.ints .i64 l13), .list (Row.big (.agg [.int .i64, .bool]) x14)]),AV.int .i64 0,AV.int .i64 0]) (none))
theorem Za4{A:Ar}{K:KT}{F:FT}{M:MT}{ms ks rs l:List AV}{wn fl:Int}{vs:List AV}{n0 n1 n2 n3:Int}{b4:Bool}{n5:Int}{b6:Bool}{n7 n8:Int}{b9:Bool}{n10:Int}{b11:Bool}{x12:List AV}{l13:List Int}{x14:List AV}{l15:List Int}{n16 n17:Int} :ZaH A tab Bn 15 K F M (.run 6 (.tf (.run 24 (.tf (.run 10 (.alt [true] (.run 18 (.tf (.run 18 (.ty (.run 10 (.fn)))) (.run 37 (.fy (.run 8 (.hd)))))) (.alt [false,true] (.run 14 (.tf (.run 34 (.fy (.run 8 (.hd)))) (.run 20 (.ty (.run 10 (.fn)))))) (.alt [false,false,true] (.run 32 (.tf (.run 21 (.ty (.run 18 (.ty (.run 10 (.fn)))))) (.run 43 (.tf (.run 32 (.fy (.run 11 (.tf (.ty (.ty (.ty (.ty (.ty (.ty (.ty (.ty (.run 2 (.tf (.run 16 (.tf (.run 18 (.tf (.run 37 (.tf (.run 22 (.fy (.run 8 (.hd)))) (.run 22 (.fy (.run 8 (.hd)))))) (.run 30 (.tf (.run 22 (.fy (.run 8 (.hd)))) (.run 22 (.fy (.run 8 (.hd)))))))) (.run 14 (.tf (.run 22 (.fy (.run 8 (.hd)))) (.run 22 (.fy (.run 8 (.hd)))))))) (.run 8 (.tf (.run 22 (.fy (.run 8 (.hd)))) (.run 22 (.fy (.run 8 (.hd)))))))))))))))) (.fy (.fy (.fy (.fy (.fy (.fy (.fy (.fy (.run 2 (.fy (.run 8 (.tf (.run 22 (.fy (.run 8 (.hd)))) (.run 22 (.fy (.run 8 (.hd)))))))))))))))))))) (.run 51 (.fy (.run 11 (.tf (.ty (.ty (.ty (.ty (.ty (.ty (.ty (.ty (.run 2 (.tf (.run 16 (.tf (.run 18 (.tf (.run 37 (.tf (.run 22 (.fy (.run 8 (.hd)))) (.run 22 (.fy (.run 8 (.hd)))))) (.run 30 (.tf (.run 22 (.fy (.run 8 (.hd)))) (.run 22 (.fy (.run 8 (.hd)))))))) (.run 14 (.tf (.run 22 (.fy (.run 8 (.hd)))) (.run 22 (.fy (.run 8 (.hd)))))))) (.run 8 (.tf (.run 22 (.fy (.run 8 (.hd)))) (.run 22 (.fy (.run 8 (.hd)))))))))))))))) (.fy (.fy (.fy (.fy (.fy (.fy (.fy (.fy (.run 2 (.fy (.run 8 (.tf (.run 22 (.fy (.run 8 (.hd)))) (.run 22 (.fy (.run 8 (.hd)))))))))))))))))))))))) (.alt [false,false,false,true] (.run 32 (.tf (.run 22 (.ty (.run 18 (.ty (.run 10 (.fn)))))) (.run 43 (.tf (.run 33 (.fy (.run 13 (.tf (.ty (.ty (.run 24 (.fy (.run 8 (.hd)))))) (.fy (.fy (.run 24 (.fy (.run 8 (.hd)))))))))) (.run 52 (.fy (.run 13 (.tf (.ty (.ty (.run 24 (.fy (.run 8 (.hd)))))) (.fy (.fy (.run 24 (.fy (.run 8 (.hd)))))))))))))) (.alt [false,false,false,false,true] (.run 32 (.tf (.run 35 (.ty (.run 10 (.fn)))) (.run 43 (.tf (.run 46 (.fy (.run 8 (.hd)))) (.run 65 (.fy (.run 8 (.hd)))))))) (.alt [false,false,false,false,false,true] (.run 32 (.tf (.run 36 (.ty (.run 10 (.fn)))) (.run 43 (.tf (.run 47 (.fy (.run 8 (.hd)))) (.run 66 (.fy (.run 8 (.hd)))))))) (.alt [false,false,false,false,false,false,true] (.run 14 (.tf (.run 47 (.fy (.run 8 (.hd)))) (.run 20 (.ty (.run 10 (.fn)))))) (.alt [false,false,false,false,false,false,false,true] (.run 37 (.fy (.run 8 (.hd)))) (.alt [false,false,false,false,false,false,false,false,true] (.run 12 (.tf (.run 22 (.fy (.run 8 (.hd)))) (.run 22 (.fy (.run 8 (.hd)))))) (.no))))))))))) (.run 6 (.ty (.run 10 (.fn)))))) (.run 12 (.fn)))) (ZaE ms ks rs l wn fl vs n0 n1 n2 n3 b4 n5 b6 n7 n8 b9 n10 b11 x12 l13 x14 l15 n16 n17) (Zaz ms ks rs l wn fl vs n0 n1 n2 n3 b4 n5 b6 n7 n8 b9 n10 b11 x12 l13 x14 l15 n16 n17)=Zap A K F ms ks rs l wn fl vs n0 n1 n2 n3 b4 n5 b6 n7 n8 b9 n10 b11 x12 l13 x14 l15 n16 n17:=by kernel_rfl
end Go.Proofs.YtkeoeooghhjibaaGreatDoor
/- Contracts as a list. No condition. -/
namespace Go.Proofs.YtkeoeooghhjibaaGreatDoor
section
variable {C:Ctx}(hC:C.P=Tryz.prog)(ms ks rs l:List AV)(wn fl:Int)(vs:List AV)(k:Nat){V:AV}(at0 mo:Int)(dn:List AV)(ha:Bool)(ba:Int)(to:Bool)(dw:List Int)(up:List AV)(en:Int)
include hC
theorem ZDh(h:OkA ms ks rs l wn fl ⟨at0,mo,dn,ha,ba,to,dw,up⟩ 0 en)(hk:ekV std vs k=0)(hen:enV std vs k=en)(hlt:k<vs.length)(hl:vs.length≤200)
 (hN:ZaR l wn fl ⟨at0,mo,dn,ha,ba,to,dw,up⟩ 0 en=0→∀s':ST,appS ks rs l fl ⟨at0,mo,dn,ha,ba,to,dw,up⟩ 0 en=s'→Ev C (ZaE ms ks rs l wn fl vs vs.length ((k:Int)+1) 0 0 false 0 false s'.t s'.mo s'.ha s'.ba s'.to s'.dn s'.dw s'.up (m0L ks l s'.dn (s'.dn).length) (m0A ks l (s'.dn).length) s'.t) (Zaz ms ks rs l wn fl vs vs.length ((k:Int)+1) 0 0 false 0 false s'.t s'.mo s'.ha s'.ba s'.to s'.dn s'.dw s'.up (m0L ks l s'.dn (s'.dn).length) (m0A ks l (s'.dn).length) s'.t) (Zd9 15 V none))
 (hE:∀e:Int,e≠0→ZaR l wn fl ⟨at0,mo,dn,ha,ba,to,dw,up⟩ 0 en=e→Wk (.tup [.agg (.gen [.int .i64 0, .int .i64 0, .nils, .bool false, .int .i64 0, .bool false, .nils, .nils]), .int .i64 k, .int .i64 e]) V):Ev C (ZaE ms ks rs l wn fl vs vs.length k 0 0 false 0 false at0 mo ha ba to dn dw up (m0L ks l dn (dn).length) (m0A ks l (dn).length) at0) (Zaz ms ks rs l wn fl vs vs.length k 0 0 false 0 false at0 mo ha ba to dn dw up (m0L ks l dn (dn).length) (m0A ks l (dn).length) at0) (Zd9 15 V none):=
 Zd7 hC ZbQ Za4 (by
  obtain⟨g0,g1,g2,g3,g4,g5,g6,g7⟩:=Zdh h
  have he:=h.e
  have hli:(k:Int)<vs.length:=by omega
  clear h
  have hv:=ev0 he
  by_cases h1:1000000000000<at0+en
  ·have hr:=hE 2 (by decide) (by simp[ZaR];omega)
   simp[-List.getD_eq_getElem?_getD,Zap,AV.bx,Zae,hlt,hli,hk,hen,he,Zai,Zaa,h1]
   repeat refine⟨by omega,?_⟩
   first |exact hr |simpa[dnV,upV]using hr
  ·have hr:=hN (by simp[ZaR];omega) _ (rfl)
   simp[-List.getD_eq_getElem?_getD,Zap,AV.bx,Zae,hlt,hli,hk,hen,he,Zai,Zaa,h1]
   repeat refine⟨by omega,?_⟩
   first |exact hr |simpa[dnV,upV]using hr)
theorem ZEN(h:OkA ms ks rs l wn fl ⟨at0,mo,dn,ha,ba,to,dw,up⟩ 1 en)(hk:ekV std vs k=1)(hen:enV std vs k=en)(hlt:k<vs.length)(hl:vs.length≤200)
 (hN:ZaR l wn fl ⟨at0,mo,dn,ha,ba,to,dw,up⟩ 1 en=0→∀s':ST,appS ks rs l fl ⟨at0,mo,dn,ha,ba,to,dw,up⟩ 1 en=s'→Ev C (ZaE ms ks rs l wn fl vs vs.length ((k:Int)+1) 0 0 false 0 false s'.t s'.mo s'.ha s'.ba s'.to s'.dn s'.dw s'.up (m0L ks l s'.dn (s'.dn).length) (m0A ks l (s'.dn).length) s'.t) (Zaz ms ks rs l wn fl vs vs.length ((k:Int)+1) 0 0 false 0 false s'.t s'.mo s'.ha s'.ba s'.to s'.dn s'.dw s'.up (m0L ks l s'.dn (s'.dn).length) (m0A ks l (s'.dn).length) s'.t) (Zd9 15 V none))
 (hE:∀e:Int,e≠0→ZaR l wn fl ⟨at0,mo,dn,ha,ba,to,dw,up⟩ 1 en=e→Wk (.tup [.agg (.gen [.int .i64 0, .int .i64 0, .nils, .bool false, .int .i64 0, .bool false, .nils, .nils]), .int .i64 k, .int .i64 e]) V):Ev C (ZaE ms ks rs l wn fl vs vs.length k 0 0 false 0 false at0 mo ha ba to dn dw up (m0L ks l dn (dn).length) (m0A ks l (dn).length) at0) (Zaz ms ks rs l wn fl vs vs.length k 0 0 false 0 false at0 mo ha ba to dn dw up (m0L ks l dn (dn).length) (m0A ks l (dn).length) at0) (Zd9 15 V none):=
 Zd7 hC ZbQ Za4 (by
  obtain⟨g0,g1,g2,g3,g4,g5,g6,g7⟩:=Zdh h
  have he:=h.e
  have hli:(k:Int)<vs.length:=by omega
  clear h
  have hv:=ev1 he
  by_cases h1:en<l.length
  ·cases to
   ·by_cases h2:Zab en ba (ba+wn-1)=true
    ·by_cases h3:(dw.length:Int)<fl
     ·have hr:=hN (by simp[ZaR,h1,h2,h3]) _ (rfl)
      simp[-List.getD_eq_getElem?_getD,Zap,AV.bx,Zae,hlt,hli,hk,hen,he,Zai,Zaa,h1,h2,h3]
      repeat refine⟨by omega,?_⟩
      first |exact hr |simpa[dnV,upV]using hr
     ·have hr:=hE 16 (by decide) (by simp[ZaR,h1,h2,h3])
      simp[-List.getD_eq_getElem?_getD,Zap,AV.bx,Zae,hlt,hli,hk,hen,he,Zai,Zaa,h1,h2,h3]
      repeat refine⟨by omega,?_⟩
      first |exact hr |simpa[dnV,upV]using hr
    ·have hr:=hE 26 (by decide) (by simp[ZaR,h1,h2])
     simp[-List.getD_eq_getElem?_getD,Zap,AV.bx,Zae,hlt,hli,hk,hen,he,Zai,Zaa,h1,h2]
     repeat refine⟨by omega,?_⟩
     first |exact hr |simpa[dnV,upV]using hr
   ·have hr:=hE 21 (by decide) (by simp[ZaR,h1])
    simp[-List.getD_eq_getElem?_getD,Zap,AV.bx,Zae,hlt,hli,hk,hen,he,Zai,Zaa,h1]
    repeat refine⟨by omega,?_⟩
    first |exact hr |simpa[dnV,upV]using hr
  ·have hr:=hE 6 (by decide) (by simp[ZaR,h1])
   simp[-List.getD_eq_getElem?_getD,Zap,AV.bx,Zae,hlt,hli,hk,hen,he,Zai,Zaa,h1]
   repeat refine⟨by omega,?_⟩
   first |exact hr |simpa[dnV,upV]using hr)
theorem ZEI(h:OkA ms ks rs l wn fl ⟨at0,mo,dn,ha,ba,to,dw,up⟩ 4 en)(hk:ekV std vs k=4)(hen:enV std vs k=en)(hlt:k<vs.length)(hl:vs.length≤200)
 (hN:ZaR l wn fl ⟨at0,mo,dn,ha,ba,to,dw,up⟩ 4 en=0→∀s':ST,appS ks rs l fl ⟨at0,mo,dn,ha,ba,to,dw,up⟩ 4 en=s'→Ev C (ZaE ms ks rs l wn fl vs vs.length ((k:Int)+1) 0 0 false 0 false s'.t s'.mo s'.ha s'.ba s'.to s'.dn s'.dw s'.up (m0L ks l s'.dn (s'.dn).length) (m0A ks l (s'.dn).length) s'.t) (Zaz ms ks rs l wn fl vs vs.length ((k:Int)+1) 0 0 false 0 false s'.t s'.mo s'.ha s'.ba s'.to s'.dn s'.dw s'.up (m0L ks l s'.dn (s'.dn).length) (m0A ks l (s'.dn).length) s'.t) (Zd9 15 V none))
 (hE:∀e:Int,e≠0→ZaR l wn fl ⟨at0,mo,dn,ha,ba,to,dw,up⟩ 4 en=e→Wk (.tup [.agg (.gen [.int .i64 0, .int .i64 0, .nils, .bool false, .int .i64 0, .bool false, .nils, .nils]), .int .i64 k, .int .i64 e]) V):Ev C (ZaE ms ks rs l wn fl vs vs.length k 0 0 false 0 false at0 mo ha ba to dn dw up (m0L ks l dn (dn).length) (m0A ks l (dn).length) at0) (Zaz ms ks rs l wn fl vs vs.length k 0 0 false 0 false at0 mo ha ba to dn dw up (m0L ks l dn (dn).length) (m0A ks l (dn).length) at0) (Zd9 15 V none):=
 Zd7 hC ZbQ Za4 (by
  obtain⟨g0,g1,g2,g3,g4,g5,g6,g7⟩:=Zdh h
  have he:=h.e
  have hli:(k:Int)<vs.length:=by omega
  clear h
  have hv:=Zqs (by omega) he
  by_cases h1:(dw.length:Int)≤en
  ·have hr:=hE 6 (by decide) (by simp[ZaR];omega)
   simp[-List.getD_eq_getElem?_getD,Zap,AV.bx,Zae,hlt,hli,hk,hen,he,Zai,Zaa,h1]
   repeat refine⟨by omega,?_⟩
   first |exact hr |simpa[dnV,upV]using hr
  ·have hr:=hN (by simp[ZaR];omega) _ (rfl)
   obtain⟨c1,c2⟩:=Zqq dw en hv.1 (by omega)
   simp[-List.getD_eq_getElem?_getD,Zap,AV.bx,Zae,hlt,hli,hk,hen,he,Zai,Zaa,h1,Zdy (show 0≤en by omega) (show en<dw.length by omega) (by omega),ZdM (show 0≤en by omega) (show en<dw.length by omega) (by omega),ZgC (show 0≤en by omega) (show en<dw.length by omega),show ¬en=en+1 by omega]
   repeat refine⟨by omega,?_⟩
   first |exact hr |simpa[dnV,upV]using hr)
theorem ZFm(h:OkA ms ks rs l wn fl ⟨at0,mo,dn,ha,ba,to,dw,up⟩ 5 en)(hk:ekV std vs k=5)(hen:enV std vs k=en)(hlt:k<vs.length)(hl:vs.length≤200)
 (hN:ZaR l wn fl ⟨at0,mo,dn,ha,ba,to,dw,up⟩ 5 en=0→∀s':ST,appS ks rs l fl ⟨at0,mo,dn,ha,ba,to,dw,up⟩ 5 en=s'→Ev C (ZaE ms ks rs l wn fl vs vs.length ((k:Int)+1) 0 0 false 0 false s'.t s'.mo s'.ha s'.ba s'.to s'.dn s'.dw s'.up (m0L ks l s'.dn (s'.dn).length) (m0A ks l (s'.dn).length) s'.t) (Zaz ms ks rs l wn fl vs vs.length ((k:Int)+1) 0 0 false 0 false s'.t s'.mo s'.ha s'.ba s'.to s'.dn s'.dw s'.up (m0L ks l s'.dn (s'.dn).length) (m0A ks l (s'.dn).length) s'.t) (Zd9 15 V none))
 (hE:∀e:Int,e≠0→ZaR l wn fl ⟨at0,mo,dn,ha,ba,to,dw,up⟩ 5 en=e→Wk (.tup [.agg (.gen [.int .i64 0, .int .i64 0, .nils, .bool false, .int .i64 0, .bool false, .nils, .nils]), .int .i64 k, .int .i64 e]) V):Ev C (ZaE ms ks rs l wn fl vs vs.length k 0 0 false 0 false at0 mo ha ba to dn dw up (m0L ks l dn (dn).length) (m0A ks l (dn).length) at0) (Zaz ms ks rs l wn fl vs vs.length k 0 0 false 0 false at0 mo ha ba to dn dw up (m0L ks l dn (dn).length) (m0A ks l (dn).length) at0) (Zd9 15 V none):=
 Zd7 hC ZbQ Za4 (by
  obtain⟨g0,g1,g2,g3,g4,g5,g6,g7⟩:=Zdh h
  have he:=h.e
  have hli:(k:Int)<vs.length:=by omega
  clear h
  have hv:=Zqs (by omega) he
  by_cases h1:(up.length:Int)≤en
  ·have hr:=hE 6 (by decide) (by simp[ZaR];omega)
   simp[-List.getD_eq_getElem?_getD,Zap,AV.bx,Zae,hlt,hli,hk,hen,he,Zai,Zaa,h1]
   repeat refine⟨by omega,?_⟩
   first |exact hr |simpa[dnV,upV]using hr
  ·have hr:=hN (by simp[ZaR];omega) _ (rfl)
   obtain⟨c1,c2⟩:=Zqq up en hv.1 (by omega)
   simp[-List.getD_eq_getElem?_getD,Zap,AV.bx,Zae,hlt,hli,hk,hen,he,Zai,Zaa,h1,Zpj (show 0≤en by omega) (show en<up.length by omega) (by omega),Zo3 (show 0≤en by omega) (show en<up.length by omega) (by omega),ZwZ (show 0≤en by omega) (show en<up.length by omega),show ¬en=en+1 by omega]
   repeat refine⟨by omega,?_⟩
   first |exact hr |simpa[dnV,upV]using hr)
theorem ZEm(h:OkA ms ks rs l wn fl ⟨at0,mo,dn,ha,ba,to,dw,up⟩ 3 en)(hk:ekV std vs k=3)(hen:enV std vs k=en)(hlt:k<vs.length)(hl:vs.length≤200)
 (hN:ZaR l wn fl ⟨at0,mo,dn,ha,ba,to,dw,up⟩ 3 en=0→∀s':ST,appS ks rs l fl ⟨at0,mo,dn,ha,ba,to,dw,up⟩ 3 en=s'→Ev C (ZaE ms ks rs l wn fl vs vs.length ((k:Int)+1) 0 0 false 0 false s'.t s'.mo s'.ha s'.ba s'.to s'.dn s'.dw s'.up (m0L ks l s'.dn (s'.dn).length) (m0A ks l (s'.dn).length) s'.t) (Zaz ms ks rs l wn fl vs vs.length ((k:Int)+1) 0 0 false 0 false s'.t s'.mo s'.ha s'.ba s'.to s'.dn s'.dw s'.up (m0L ks l s'.dn (s'.dn).length) (m0A ks l (s'.dn).length) s'.t) (Zd9 15 V none))
 (hE:∀e:Int,e≠0→ZaR l wn fl ⟨at0,mo,dn,ha,ba,to,dw,up⟩ 3 en=e→Wk (.tup [.agg (.gen [.int .i64 0, .int .i64 0, .nils, .bool false, .int .i64 0, .bool false, .nils, .nils]), .int .i64 k, .int .i64 e]) V):Ev C (ZaE ms ks rs l wn fl vs vs.length k 0 0 false 0 false at0 mo ha ba to dn dw up (m0L ks l dn (dn).length) (m0A ks l (dn).length) at0) (Zaz ms ks rs l wn fl vs vs.length k 0 0 false 0 false at0 mo ha ba to dn dw up (m0L ks l dn (dn).length) (m0A ks l (dn).length) at0) (Zd9 15 V none):=
 Zd7 hC ZbQ Za4 (by
  obtain⟨g0,g1,g2,g3,g4,g5,g6,g7⟩:=Zdh h
  have he:=h.e
  have hli:(k:Int)<vs.length:=by omega
  clear h
  have hv:=Zqs (by omega) he
  by_cases h1:(up.length:Int)≤en
  ·have hr:=hE 6 (by decide) (by simp[ZaR];omega)
   simp[-List.getD_eq_getElem?_getD,Zap,AV.bx,Zae,hlt,hli,hk,hen,he,Zai,Zaa,h1]
   repeat refine⟨by omega,?_⟩
   first |exact hr |simpa[dnV,upV]using hr
  ·have e1:appS ks rs l fl ⟨at0,mo,dn,ha,ba,to,dw,up⟩ 3 en=⟨at0,mo,dn,ha,max ba (Zaj up en 0),to||((up.getD en.toNat .top).cellAt 1).toB,dw,Zbm up en⟩:=rfl
   have hr:=hN (by simp[ZaR];omega) _ e1
   have e2:((up.getD en.toNat .top).cellAt 0).toI=Zaj up en 0:=rfl
   obtain⟨c1,c2⟩:=Zqq up en hv.1 (by omega)
   clear hN hE
   generalize hpb:((up.getD en.toNat .top).cellAt 1).toB=pb at*
   cases to
   ·simp[-List.getD_eq_getElem?_getD,Zap,AV.bx,Zae,hlt,hli,hk,hen,he,Zai,Zaa,h1,c1,c2,Zpj (show 0≤en by omega) (show en<up.length by omega) (by omega),Zo3 (show 0≤en by omega) (show en<up.length by omega) (by omega),ZwZ (show 0≤en by omega) (show en<up.length by omega),show ¬en=en+1 by omega,e2,hpb]
    repeat refine⟨by omega,?_⟩
    first |exact hr |simpa[dnV,upV]using hr
   ·simp[-List.getD_eq_getElem?_getD,Zap,AV.bx,Zae,hlt,hli,hk,hen,he,Zai,Zaa,h1,c1,c2,Zpj (show 0≤en by omega) (show en<up.length by omega) (by omega),Zo3 (show 0≤en by omega) (show en<up.length by omega) (by omega),ZwZ (show 0≤en by omega) (show en<up.length by omega),show ¬en=en+1 by omega,e2,hpb]
    repeat refine⟨by omega,?_⟩
    first |exact hr |simpa[dnV,upV]using hr)
theorem ZET(h:OkA ms ks rs l wn fl ⟨at0,mo,dn,ha,ba,to,dw,up⟩ 6 en)(hk:ekV std vs k=6)(hen:enV std vs k=en)(hlt:k<vs.length)(hl:vs.length≤200)
 (hN:ZaR l wn fl ⟨at0,mo,dn,ha,ba,to,dw,up⟩ 6 en=0→∀s':ST,appS ks rs l fl ⟨at0,mo,dn,ha,ba,to,dw,up⟩ 6 en=s'→Ev C (ZaE ms ks rs l wn fl vs vs.length ((k:Int)+1) 0 0 false 0 false s'.t s'.mo s'.ha s'.ba s'.to s'.dn s'.dw s'.up (m0L ks l s'.dn (s'.dn).length) (m0A ks l (s'.dn).length) s'.t) (Zaz ms ks rs l wn fl vs vs.length ((k:Int)+1) 0 0 false 0 false s'.t s'.mo s'.ha s'.ba s'.to s'.dn s'.dw s'.up (m0L ks l s'.dn (s'.dn).length) (m0A ks l (s'.dn).length) s'.t) (Zd9 15 V none))
 (hE:∀e:Int,e≠0→ZaR l wn fl ⟨at0,mo,dn,ha,ba,to,dw,up⟩ 6 en=e→Wk (.tup [.agg (.gen [.int .i64 0, .int .i64 0, .nils, .bool false, .int .i64 0, .bool false, .nils, .nils]), .int .i64 k, .int .i64 e]) V):Ev C (ZaE ms ks rs l wn fl vs vs.length k 0 0 false 0 false at0 mo ha ba to dn dw up (m0L ks l dn (dn).length) (m0A ks l (dn).length) at0) (Zaz ms ks rs l wn fl vs vs.length k 0 0 false 0 false at0 mo ha ba to dn dw up (m0L ks l dn (dn).length) (m0A ks l (dn).length) at0) (Zd9 15 V none):=
 Zd7 hC ZbQ Za4 (by
  obtain⟨g0,g1,g2,g3,g4,g5,g6,g7⟩:=Zdh h
  have he:=h.e
  have hli:(k:Int)<vs.length:=by omega
  clear h
  have hv:=Zqs (by omega) he
  by_cases h1:en<dw.length
  ·obtain⟨c1,c2⟩:=Zqq dw en hv.1 h1
   by_cases h3:(dw.length:Int)<fl
   ·have hr:=hN (by simp[ZaR,h1,h3]) _ (rfl)
    simp[-List.getD_eq_getElem?_getD,Zap,AV.bx,Zae,hlt,hli,hk,hen,he,Zai,Zaa,h1,h3,c2]
    repeat refine⟨by omega,?_⟩
    first |exact hr |simpa[dnV,upV]using hr
   ·have hr:=hE 16 (by decide) (by simp[ZaR,h1,h3])
    simp[-List.getD_eq_getElem?_getD,Zap,AV.bx,Zae,hlt,hli,hk,hen,he,Zai,Zaa,h1,h3]
    repeat refine⟨by omega,?_⟩
    first |exact hr |simpa[dnV,upV]using hr
  ·have hr:=hE 6 (by decide) (by simp[ZaR,h1])
   simp[-List.getD_eq_getElem?_getD,Zap,AV.bx,Zae,hlt,hli,hk,hen,he,Zai,Zaa,h1]
   repeat refine⟨by omega,?_⟩
   first |exact hr |simpa[dnV,upV]using hr)
theorem ZDr(h:OkA ms ks rs l wn fl ⟨at0,mo,dn,ha,ba,to,dw,up⟩ 7 en)(hk:ekV std vs k=7)(hen:enV std vs k=en)(hlt:k<vs.length)(hl:vs.length≤200)
 (hN:ZaR l wn fl ⟨at0,mo,dn,ha,ba,to,dw,up⟩ 7 en=0→∀s':ST,appS ks rs l fl ⟨at0,mo,dn,ha,ba,to,dw,up⟩ 7 en=s'→Ev C (ZaE ms ks rs l wn fl vs vs.length ((k:Int)+1) 0 0 false 0 false s'.t s'.mo s'.ha s'.ba s'.to s'.dn s'.dw s'.up (m0L ks l s'.dn (s'.dn).length) (m0A ks l (s'.dn).length) s'.t) (Zaz ms ks rs l wn fl vs vs.length ((k:Int)+1) 0 0 false 0 false s'.t s'.mo s'.ha s'.ba s'.to s'.dn s'.dw s'.up (m0L ks l s'.dn (s'.dn).length) (m0A ks l (s'.dn).length) s'.t) (Zd9 15 V none))
 (hE:∀e:Int,e≠0→ZaR l wn fl ⟨at0,mo,dn,ha,ba,to,dw,up⟩ 7 en=e→Wk (.tup [.agg (.gen [.int .i64 0, .int .i64 0, .nils, .bool false, .int .i64 0, .bool false, .nils, .nils]), .int .i64 k, .int .i64 e]) V):Ev C (ZaE ms ks rs l wn fl vs vs.length k 0 0 false 0 false at0 mo ha ba to dn dw up (m0L ks l dn (dn).length) (m0A ks l (dn).length) at0) (Zaz ms ks rs l wn fl vs vs.length k 0 0 false 0 false at0 mo ha ba to dn dw up (m0L ks l dn (dn).length) (m0A ks l (dn).length) at0) (Zd9 15 V none):=
 Zd7 hC ZbQ Za4 (by
  obtain⟨g0,g1,g2,g3,g4,g5,g6,g7⟩:=Zdh h
  have he:=h.e
  have hli:(k:Int)<vs.length:=by omega
  clear h
  have hr:=hN (by simp[ZaR]) _ (rfl)
  simp[-List.getD_eq_getElem?_getD,Zap,AV.bx,Zae,hlt,hli,hk,hen,he,Zai,Zaa]
  repeat refine⟨by omega,?_⟩
  first |exact hr |simpa[dnV,upV]using hr)
theorem ZDk(h:OkA ms ks rs l wn fl ⟨at0,mo,dn,ha,ba,to,dw,up⟩ 8 en)(hk:ekV std vs k=8)(hen:enV std vs k=en)(hlt:k<vs.length)(hl:vs.length≤200)
 (hN:ZaR l wn fl ⟨at0,mo,dn,ha,ba,to,dw,up⟩ 8 en=0→∀s':ST,appS ks rs l fl ⟨at0,mo,dn,ha,ba,to,dw,up⟩ 8 en=s'→Ev C (ZaE ms ks rs l wn fl vs vs.length ((k:Int)+1) 0 0 false 0 false s'.t s'.mo s'.ha s'.ba s'.to s'.dn s'.dw s'.up (m0L ks l s'.dn (s'.dn).length) (m0A ks l (s'.dn).length) s'.t) (Zaz ms ks rs l wn fl vs vs.length ((k:Int)+1) 0 0 false 0 false s'.t s'.mo s'.ha s'.ba s'.to s'.dn s'.dw s'.up (m0L ks l s'.dn (s'.dn).length) (m0A ks l (s'.dn).length) s'.t) (Zd9 15 V none))
 (hE:∀e:Int,e≠0→ZaR l wn fl ⟨at0,mo,dn,ha,ba,to,dw,up⟩ 8 en=e→Wk (.tup [.agg (.gen [.int .i64 0, .int .i64 0, .nils, .bool false, .int .i64 0, .bool false, .nils, .nils]), .int .i64 k, .int .i64 e]) V):Ev C (ZaE ms ks rs l wn fl vs vs.length k 0 0 false 0 false at0 mo ha ba to dn dw up (m0L ks l dn (dn).length) (m0A ks l (dn).length) at0) (Zaz ms ks rs l wn fl vs vs.length k 0 0 false 0 false at0 mo ha ba to dn dw up (m0L ks l dn (dn).length) (m0A ks l (dn).length) at0) (Zd9 15 V none):=
 Zd7 hC ZbQ Za4 (by
  obtain⟨g0,g1,g2,g3,g4,g5,g6,g7⟩:=Zdh h
  have he:=h.e
  have hli:(k:Int)<vs.length:=by omega
  clear h
  have e1:appS ks rs l fl ⟨at0,mo,dn,ha,ba,to,dw,up⟩ 8 en=ZcL fl ⟨at0,mo,dn,ha,ba,to,dw,up⟩:=rfl
  by_cases h1:(up.length:Int)<fl
  ·have hr:=hN (by simp[ZaR]) _ (e1.trans (Zb8 h1))
   simp[-List.getD_eq_getElem?_getD,Zap,AV.bx,Zae,hlt,hli,hk,hen,he,Zai,Zaa,h1,Zn7]
   repeat refine⟨by omega,?_⟩
   first |exact hr |simpa[dnV,upV]using hr
  ·have hr:=hN (by simp[ZaR]) _ (e1.trans (ZdE h1))
   simp[-List.getD_eq_getElem?_getD,Zap,AV.bx,Zae,hlt,hli,hk,hen,he,Zai,Zaa,h1]
   repeat refine⟨by omega,?_⟩
   first |exact hr |simpa[dnV,upV]using hr)
theorem ZFp(h:OkA ms ks rs l wn fl ⟨at0,mo,dn,ha,ba,to,dw,up⟩ 2 en)(hk:ekV std vs k=2)(hen:enV std vs k=en)(hlt:k<vs.length)(hl:vs.length≤200)
 (hN:ZaR l wn fl ⟨at0,mo,dn,ha,ba,to,dw,up⟩ 2 en=0→∀s':ST,appS ks rs l fl ⟨at0,mo,dn,ha,ba,to,dw,up⟩ 2 en=s'→Ev C (ZaE ms ks rs l wn fl vs vs.length ((k:Int)+1) 0 0 false 0 false s'.t s'.mo s'.ha s'.ba s'.to s'.dn s'.dw s'.up (m0L ks l s'.dn (s'.dn).length) (m0A ks l (s'.dn).length) s'.t) (Zaz ms ks rs l wn fl vs vs.length ((k:Int)+1) 0 0 false 0 false s'.t s'.mo s'.ha s'.ba s'.to s'.dn s'.dw s'.up (m0L ks l s'.dn (s'.dn).length) (m0A ks l (s'.dn).length) s'.t) (Zd9 15 V none))
 (hE:∀e:Int,e≠0→ZaR l wn fl ⟨at0,mo,dn,ha,ba,to,dw,up⟩ 2 en=e→Wk (.tup [.agg (.gen [.int .i64 0, .int .i64 0, .nils, .bool false, .int .i64 0, .bool false, .nils, .nils]), .int .i64 k, .int .i64 e]) V):Ev C (ZaE ms ks rs l wn fl vs vs.length k 0 0 false 0 false at0 mo ha ba to dn dw up (m0L ks l dn (dn).length) (m0A ks l (dn).length) at0) (Zaz ms ks rs l wn fl vs vs.length k 0 0 false 0 false at0 mo ha ba to dn dw up (m0L ks l dn (dn).length) (m0A ks l (dn).length) at0) (Zd9 15 V none):=
 Zd7 hC ZbQ Za4 (by
  obtain⟨g0,g1,g2,g3,g4,g5,g6,g7⟩:=Zdh h
  have he:=h.e
  have hli:(k:Int)<vs.length:=by omega
  obtain⟨hf,_,_⟩:=ZdP h.u
  have hvs:=vs_iff.1 h.s
  clear h
  have hv:=Zqs (by omega) he
  by_cases h1:(dw.length:Int)≤en
  ·have hr:=hE 6 (by decide) (by simp[ZaR];omega)
   simp[-List.getD_eq_getElem?_getD,Zap,AV.bx,Zae,hlt,hli,hk,hen,he,Zai,Zaa,h1]
   repeat refine⟨by omega,?_⟩
   first |exact hr |simpa[dnV,upV]using hr
  ·obtain⟨c1,c2⟩:=Zqq dw en hv.1 (by omega)
   have hmem:=hvs.down _ (Zey (d:=0) c2)
   generalize hact:dw.getD en.toNat 0=act at*
   cases ha
   ·by_cases h4:act=(dn.length:Int)
    ·have hdl:dn.length<l.length:=by omega
     have h4':(act=(dn.length:Int))=True:=eq_true h4
     have m1:act.toNat=dn.length:=by omega
     have e2:∀i,((l.getD dn.length .top).cellAt i).toI=Zaj l dn.length i:=fun i=>rfl
     have e5:((ks.getD (Zaj l dn.length 0).toNat .top).cellAt 1).toI=Zaj ks (Zaj l dn.length 0) 1:=rfl
     have hk8:=hf.ks1
     have hlm:=ZlN ks l dn dn.length
     obtain⟨⟨a1,a2⟩,_⟩:=hf.act dn.length hdl
     have hT:=Zoi hf hvs dn.length (Nat.le_refl _)
     have hnx:ZiQ ks rs l ⟨at0,mo,dn,false,ba,to,Zbm dw en,up⟩=Zog rs (m0A ks l dn.length) at0 (m0L ks l dn dn.length) (Zaj l dn.length 0) (Zaj l dn.length 1) (Zaj l dn.length 2):=rfl
     have hg:Zab at0 (Zaj l dn.length 1) (Zaj l dn.length 2)=false∨ZbX rs at0 (m0L ks l dn dn.length)=true:=by
      cases hw:Zab at0 (Zaj l dn.length 1) (Zaj l dn.length 2)
      ·exact .inl rfl
      ·exact .inr (hT.forb (ms:=ms) (l:=l) hf (Zsu hvs) hvs.t.2)
     have hL:m0L ks l (dn++[dnV act at0]) (dn++[dnV act at0]).length=(m0L ks l dn dn.length).set (Zaj l dn.length 0).toNat at0:=by
      rw[List.length_append,List.length_singleton,Zgp,ZkM (Nat.le_refl _),ZdI];rfl
     have hxl:(dn++[dnV act at0]).length=dn.length+1:=by simp
     have e9:upV (((dn++[dnV act at0]).length:Nat):Int) false=.agg (.gen [.int .i64 (dn.length+1), .bool false]):=by simp[upV]
     by_cases hn:Zog rs (m0A ks l dn.length) at0 (m0L ks l dn dn.length) (Zaj l dn.length 0) (Zaj l dn.length 1) (Zaj l dn.length 2)=true
     ·have hnx2:=hnx.trans hn
      have hm:m0A ks l (dn.length+1)=exM ks (m0A ks l dn.length) (Zaj l dn.length 0):=Zjc ..
      unfold exM at hm
      by_cases h6:Zaj ks (Zaj l dn.length 0) 1= -1
      ·rw[if_pos h6]at hm
       have hM:m0A ks l (dn++[dnV act at0]).length=m0A ks l dn.length:=by rw[hxl];exact hm
       by_cases h5:(up.length:Int)<fl
       ·have hr:=hN (by simp[ZaR];omega) _ (((show appS ks rs l fl ⟨at0,mo,dn,false,ba,to,dw,up⟩ 2 en=ZcL fl (Ze0 ks rs l ⟨at0,mo,dn,false,ba,to,Zbm dw en,up⟩ act) by rw[←hact];rfl).trans ((Zfa ⟨rfl,h4⟩ hnx2).trans (congrArg (fun x=>ZcL fl ⟨at0,x,dn++[dnV act at0],false,ba,to,Zbm dw en,up⟩) hm))).trans (Zb8 h5))
        simp only[hL,hM]at hr
        clear hN hE
        simp[-List.getD_eq_getElem?_getD,Zap,AV.bx,Zae,hlt,hli,hk,hen,he,Zai,Zaa,h1,c1,c2,hact,Zdy (show 0≤en by omega) (show en<dw.length by omega) (by omega),ZdM (show 0≤en by omega) (show en<dw.length by omega) (by omega),ZgC (show 0≤en by omega) (show en<dw.length by omega),show ¬en=en+1 by omega,h4',m1,e2,e5,hg,hn,h6,a1,a2,hlm,Zps,h5,Zn7]
        repeat refine⟨by omega,?_⟩
        first |exact hr |simpa[dnV,upV]using hr
       ·have hr:=hN (by simp[ZaR];omega) _ (((show appS ks rs l fl ⟨at0,mo,dn,false,ba,to,dw,up⟩ 2 en=ZcL fl (Ze0 ks rs l ⟨at0,mo,dn,false,ba,to,Zbm dw en,up⟩ act) by rw[←hact];rfl).trans ((Zfa ⟨rfl,h4⟩ hnx2).trans (congrArg (fun x=>ZcL fl ⟨at0,x,dn++[dnV act at0],false,ba,to,Zbm dw en,up⟩) hm))).trans (ZdE h5))
        simp only[hL,hM]at hr
        clear hN hE
        simp[-List.getD_eq_getElem?_getD,Zap,AV.bx,Zae,hlt,hli,hk,hen,he,Zai,Zaa,h1,c1,c2,hact,Zdy (show 0≤en by omega) (show en<dw.length by omega) (by omega),ZdM (show 0≤en by omega) (show en<dw.length by omega) (by omega),ZgC (show 0≤en by omega) (show en<dw.length by omega),show ¬en=en+1 by omega,h4',m1,e2,e5,hg,hn,h6,a1,a2,hlm,Zps,h5]
        repeat refine⟨by omega,?_⟩
        first |exact hr |simpa[dnV,upV]using hr
      ·rw[if_neg h6]at hm
       have hM:m0A ks l (dn++[dnV act at0]).length=Zaj ks (Zaj l dn.length 0) 1:=by rw[hxl];exact hm
       by_cases h5:(up.length:Int)<fl
       ·have hr:=hN (by simp[ZaR];omega) _ (((show appS ks rs l fl ⟨at0,mo,dn,false,ba,to,dw,up⟩ 2 en=ZcL fl (Ze0 ks rs l ⟨at0,mo,dn,false,ba,to,Zbm dw en,up⟩ act) by rw[←hact];rfl).trans ((Zfa ⟨rfl,h4⟩ hnx2).trans (congrArg (fun x=>ZcL fl ⟨at0,x,dn++[dnV act at0],false,ba,to,Zbm dw en,up⟩) hm))).trans (Zb8 h5))
        simp only[hL,hM]at hr
        clear hN hE
        simp[-List.getD_eq_getElem?_getD,Zap,AV.bx,Zae,hlt,hli,hk,hen,he,Zai,Zaa,h1,c1,c2,hact,Zdy (show 0≤en by omega) (show en<dw.length by omega) (by omega),ZdM (show 0≤en by omega) (show en<dw.length by omega) (by omega),ZgC (show 0≤en by omega) (show en<dw.length by omega),show ¬en=en+1 by omega,h4',m1,e2,e5,hg,hn,h6,a1,a2,hlm,Zps,h5,Zn7]
        repeat refine⟨by omega,?_⟩
        first |exact hr |simpa[dnV,upV]using hr
       ·have hr:=hN (by simp[ZaR];omega) _ (((show appS ks rs l fl ⟨at0,mo,dn,false,ba,to,dw,up⟩ 2 en=ZcL fl (Ze0 ks rs l ⟨at0,mo,dn,false,ba,to,Zbm dw en,up⟩ act) by rw[←hact];rfl).trans ((Zfa ⟨rfl,h4⟩ hnx2).trans (congrArg (fun x=>ZcL fl ⟨at0,x,dn++[dnV act at0],false,ba,to,Zbm dw en,up⟩) hm))).trans (ZdE h5))
        simp only[hL,hM]at hr
        clear hN hE
        simp[-List.getD_eq_getElem?_getD,Zap,AV.bx,Zae,hlt,hli,hk,hen,he,Zai,Zaa,h1,c1,c2,hact,Zdy (show 0≤en by omega) (show en<dw.length by omega) (by omega),ZdM (show 0≤en by omega) (show en<dw.length by omega) (by omega),ZgC (show 0≤en by omega) (show en<dw.length by omega),show ¬en=en+1 by omega,h4',m1,e2,e5,hg,hn,h6,a1,a2,hlm,Zps,h5]
        repeat refine⟨by omega,?_⟩
        first |exact hr |simpa[dnV,upV]using hr
     ·have hnx2:¬ZiQ ks rs l ⟨at0,mo,dn,false,ba,to,Zbm dw en,up⟩=true:=hn
      by_cases h5:(up.length:Int)<fl
      ·have hr:=hN (by simp[ZaR];omega) _ (((show appS ks rs l fl ⟨at0,mo,dn,false,ba,to,dw,up⟩ 2 en=ZcL fl (Ze0 ks rs l ⟨at0,mo,dn,false,ba,to,Zbm dw en,up⟩ act) by rw[←hact];rfl).trans (ZfG ⟨rfl,h4⟩ hnx2)).trans (Zb8 h5))
       clear hN hE
       simp[-List.getD_eq_getElem?_getD,Zap,AV.bx,Zae,hlt,hli,hk,hen,he,Zai,Zaa,h1,c1,c2,hact,Zdy (show 0≤en by omega) (show en<dw.length by omega) (by omega),ZdM (show 0≤en by omega) (show en<dw.length by omega) (by omega),ZgC (show 0≤en by omega) (show en<dw.length by omega),show ¬en=en+1 by omega,h4',m1,e2,hg,hn,h5,Zn7]
       repeat refine⟨by omega,?_⟩
       first |exact hr |simpa[dnV,upV]using hr
      ·have hr:=hN (by simp[ZaR];omega) _ (((show appS ks rs l fl ⟨at0,mo,dn,false,ba,to,dw,up⟩ 2 en=ZcL fl (Ze0 ks rs l ⟨at0,mo,dn,false,ba,to,Zbm dw en,up⟩ act) by rw[←hact];rfl).trans (ZfG ⟨rfl,h4⟩ hnx2)).trans (ZdE h5))
       clear hN hE
       simp[-List.getD_eq_getElem?_getD,Zap,AV.bx,Zae,hlt,hli,hk,hen,he,Zai,Zaa,h1,c1,c2,hact,Zdy (show 0≤en by omega) (show en<dw.length by omega) (by omega),ZdM (show 0≤en by omega) (show en<dw.length by omega) (by omega),ZgC (show 0≤en by omega) (show en<dw.length by omega),show ¬en=en+1 by omega,h4',m1,e2,hg,hn,h5]
       repeat refine⟨by omega,?_⟩
       first |exact hr |simpa[dnV,upV]using hr
    ·have h3:¬(false=false∧act=(dn.length:Int)):=fun hh=>h4 hh.2
     by_cases h5:(up.length:Int)<fl
     ·have hr:=hN (by simp[ZaR];omega) _ (((show appS ks rs l fl ⟨at0,mo,dn,false,ba,to,dw,up⟩ 2 en=ZcL fl (Ze0 ks rs l ⟨at0,mo,dn,false,ba,to,Zbm dw en,up⟩ act) by rw[←hact];rfl).trans (Zf9 h3)).trans (Zb8 h5))
      clear hN hE
      simp[-List.getD_eq_getElem?_getD,Zap,AV.bx,Zae,hlt,hli,hk,hen,he,Zai,Zaa,h1,c1,c2,hact,Zdy (show 0≤en by omega) (show en<dw.length by omega) (by omega),ZdM (show 0≤en by omega) (show en<dw.length by omega) (by omega),ZgC (show 0≤en by omega) (show en<dw.length by omega),show ¬en=en+1 by omega,h4,h5,Zn7]
      repeat refine⟨by omega,?_⟩
      first |exact hr |simpa[dnV,upV]using hr
     ·have hr:=hN (by simp[ZaR];omega) _ (((show appS ks rs l fl ⟨at0,mo,dn,false,ba,to,dw,up⟩ 2 en=ZcL fl (Ze0 ks rs l ⟨at0,mo,dn,false,ba,to,Zbm dw en,up⟩ act) by rw[←hact];rfl).trans (Zf9 h3)).trans (ZdE h5))
      clear hN hE
      simp[-List.getD_eq_getElem?_getD,Zap,AV.bx,Zae,hlt,hli,hk,hen,he,Zai,Zaa,h1,c1,c2,hact,Zdy (show 0≤en by omega) (show en<dw.length by omega) (by omega),ZdM (show 0≤en by omega) (show en<dw.length by omega) (by omega),ZgC (show 0≤en by omega) (show en<dw.length by omega),show ¬en=en+1 by omega,h4,h5]
      repeat refine⟨by omega,?_⟩
      first |exact hr |simpa[dnV,upV]using hr
   ·have h3:¬(true=false∧act=(dn.length:Int)):=fun hh=>by cases hh.1
    by_cases h5:(up.length:Int)<fl
    ·have hr:=hN (by simp[ZaR];omega) _ (((show appS ks rs l fl ⟨at0,mo,dn,true,ba,to,dw,up⟩ 2 en=ZcL fl (Ze0 ks rs l ⟨at0,mo,dn,true,ba,to,Zbm dw en,up⟩ act) by rw[←hact];rfl).trans (Zf9 h3)).trans (Zb8 h5))
     clear hN hE
     simp[-List.getD_eq_getElem?_getD,Zap,AV.bx,Zae,hlt,hli,hk,hen,he,Zai,Zaa,h1,c1,c2,hact,Zdy (show 0≤en by omega) (show en<dw.length by omega) (by omega),ZdM (show 0≤en by omega) (show en<dw.length by omega) (by omega),ZgC (show 0≤en by omega) (show en<dw.length by omega),show ¬en=en+1 by omega,h5,Zn7]
     repeat refine⟨by omega,?_⟩
     first |exact hr |simpa[dnV,upV]using hr
    ·have hr:=hN (by simp[ZaR];omega) _ (((show appS ks rs l fl ⟨at0,mo,dn,true,ba,to,dw,up⟩ 2 en=ZcL fl (Ze0 ks rs l ⟨at0,mo,dn,true,ba,to,Zbm dw en,up⟩ act) by rw[←hact];rfl).trans (Zf9 h3)).trans (ZdE h5))
     clear hN hE
     simp[-List.getD_eq_getElem?_getD,Zap,AV.bx,Zae,hlt,hli,hk,hen,he,Zai,Zaa,h1,c1,c2,hact,Zdy (show 0≤en by omega) (show en<dw.length by omega) (by omega),ZdM (show 0≤en by omega) (show en<dw.length by omega) (by omega),ZgC (show 0≤en by omega) (show en<dw.length by omega),show ¬en=en+1 by omega,h5]
     repeat refine⟨by omega,?_⟩
     first |exact hr |simpa[dnV,upV]using hr)
end
section
variable {C:Ctx}(hC:C.P=Tryz.prog)(ms ks rs l:List AV)(wn fl:Int)(vs:List AV)(k:Nat){V:AV}(at0 mo:Int)(dn:List AV)(ha:Bool)(ba:Int)(to:Bool)(dw:List Int)(up:List AV)(ek en:Int)
include hC
theorem ZGZ(h:OkA ms ks rs l wn fl ⟨at0,mo,dn,ha,ba,to,dw,up⟩ ek en)(hk:ekV std vs k=ek)(hen:enV std vs k=en)(hlt:k<vs.length)(hl:vs.length≤200)
 (hN:ZaR l wn fl ⟨at0,mo,dn,ha,ba,to,dw,up⟩ ek en=0→∀s':ST,appS ks rs l fl ⟨at0,mo,dn,ha,ba,to,dw,up⟩ ek en=s'→Ev C (ZaE ms ks rs l wn fl vs vs.length ((k:Int)+1) 0 0 false 0 false s'.t s'.mo s'.ha s'.ba s'.to s'.dn s'.dw s'.up (m0L ks l s'.dn (s'.dn).length) (m0A ks l (s'.dn).length) s'.t) (Zaz ms ks rs l wn fl vs vs.length ((k:Int)+1) 0 0 false 0 false s'.t s'.mo s'.ha s'.ba s'.to s'.dn s'.dw s'.up (m0L ks l s'.dn (s'.dn).length) (m0A ks l (s'.dn).length) s'.t) (Zd9 15 V none))
 (hE:∀e:Int,e≠0→ZaR l wn fl ⟨at0,mo,dn,ha,ba,to,dw,up⟩ ek en=e→Wk (.tup [.agg (.gen [.int .i64 0, .int .i64 0, .nils, .bool false, .int .i64 0, .bool false, .nils, .nils]), .int .i64 k, .int .i64 e]) V):Ev C (ZaE ms ks rs l wn fl vs vs.length k 0 0 false 0 false at0 mo ha ba to dn dw up (m0L ks l dn (dn).length) (m0A ks l (dn).length) at0) (Zaz ms ks rs l wn fl vs vs.length k 0 0 false 0 false at0 mo ha ba to dn dw up (m0L ks l dn (dn).length) (m0A ks l (dn).length) at0) (Zd9 15 V none):=by
 have hkk:0≤ek∧ek≤8:=by
  have:=h.e
  unfold evE at this
  split at this
  ·rename_i hw;exact within_iff.1 hw
  ·cases this
 rcases show ek=0∨ek=1∨ek=2∨ek=3∨ek=4∨ek=5∨ek=6∨ek=7∨ek=8 by omega with rfl |rfl |rfl |rfl |rfl |rfl |rfl |rfl |rfl
 ·exact ZDh hC ms ks rs l wn fl vs k at0 mo dn ha ba to dw up en h hk hen hlt hl hN hE
 ·exact ZEN hC ms ks rs l wn fl vs k at0 mo dn ha ba to dw up en h hk hen hlt hl hN hE
 ·exact ZFp hC ms ks rs l wn fl vs k at0 mo dn ha ba to dw up en h hk hen hlt hl hN hE
 ·exact ZEm hC ms ks rs l wn fl vs k at0 mo dn ha ba to dw up en h hk hen hlt hl hN hE
 ·exact ZEI hC ms ks rs l wn fl vs k at0 mo dn ha ba to dw up en h hk hen hlt hl hN hE
 ·exact ZFm hC ms ks rs l wn fl vs k at0 mo dn ha ba to dw up en h hk hen hlt hl hN hE
 ·exact ZET hC ms ks rs l wn fl vs k at0 mo dn ha ba to dw up en h hk hen hlt hl hN hE
 ·exact ZDr hC ms ks rs l wn fl vs k at0 mo dn ha ba to dw up en h hk hen hlt hl hN hE
 ·exact ZDk hC ms ks rs l wn fl vs k at0 mo dn ha ba to dw up en h hk hen hlt hl hN hE
end
section
variable {C:Ctx}(hC:C.P=Tryz.prog)(ms ks rs l:List AV)(wn fl:Int)(vs:List AV)(hu:upE ms ks rs l wn fl=0)
include hC hu
theorem ZxN:∀(m k:Nat) (s:ST),k+m=vs.length→vs.length≤200→VS ks rs l fl s→Ev C (ZaE ms ks rs l wn fl vs vs.length k 0 0 false 0 false s.t s.mo s.ha s.ba s.to s.dn s.dw s.up (m0L ks l s.dn (s.dn).length) (m0A ks l (s.dn).length) s.t) (Zaz ms ks rs l wn fl vs vs.length k 0 0 false 0 false s.t s.mo s.ha s.ba s.to s.dn s.dw s.up (m0L ks l s.dn (s.dn).length) (m0A ks l (s.dn).length) s.t) (Zd9 15 (ZB1 (repF ks rs l wn fl vs m k s)) none)
 |0,k,s,hk,hl,hs=>Zd7 hC ZbQ Za4 (by
  obtain rfl:k=vs.length:=by omega
  simp[Zap]
  exact .same _)
 |m+1,k,s,hk,hl,hs=>by
  have hlt:k<vs.length:=by omega
  by_cases h1:evE (Zaj vs k 0) (Zaj vs k 1)=0
  ·obtain⟨at0,mo,dn,ha,ba,to,dw,up⟩:=s
   refine ZGZ hC ms ks rs l wn fl vs k at0 mo dn ha ba to dw up (Zaj vs k 0) (Zaj vs k 1) ⟨hu,vs_iff.2 hs,h1⟩ rfl rfl hlt hl (fun h2 s' e=>?_) (fun e he h2=>?_)
   ·subst e
    have ih:=ZxN m (k+1) _ (by omega) hl (Zmp hs h1 h2)
    rw[repF,if_pos h1,if_pos h2]
    simpa using ih
   ·rw[repF,if_pos h1,if_neg (by rw[h2];exact he),h2]
    exact Zqu _ _
  ·refine Zd7 hC ZbQ Za4 ?_
   have hli:(k:Int)<vs.length:=by omega
   have e0:ekV std vs k=Zaj vs k 0:=rfl
   have e1:enV std vs k=Zaj vs k 1:=rfl
   rw[repF,if_neg h1]
   simp[-List.getD_eq_getElem?_getD,Zap,hlt,hli,e0,e1,h1]
   exact Zqu _ _
end
def Za2(ms ks rs l:List AV)(wn fl:Int)(vs:List AV):ST×Int×Int:=if upE ms ks rs l wn fl=0 then ZcE ks rs l wn fl vs else(st0,0,upE ms ks rs l wn fl)
theorem Zla(ms ks rs l:List AV)(wn fl:Int)(vs:List AV)(h:ZaA ms ks rs=true∧l.length≤1000000):Zao Tryz.prog 15 [.agg (.gen [.list (.big .str ms), .list (.big (.agg [.str, .int .i64]) ks), .list (.big (.agg [.str, .int .i64, .int .i64, .int .i64, .int .i64]) rs), .list (.big (.agg [.int .i64, .int .i64, .int .i64]) l), .int .i64 wn, .int .i64 fl]), .list (.big (.agg [.int .i64, .int .i64]) vs)] (ZB1 (Za2 ms ks rs l wn fl vs)) none:=
 Zdf (Zun ms ks rs l wn fl vs) fun C hC=>Zd7 hC ZbQ ZFQ (by
  unfold Za2
  by_cases h0:upE ms ks rs l wn fl=0
  ·obtain⟨hf,_,hfl⟩:=ZdP h0
   have hk8:=hf.ks1
   rw[if_pos h0]
   unfold ZcE
   by_cases hn:vs.length≤200
   ·have hr:=ZxN hC ms ks rs l wn fl vs h0 vs.length 0 st0 (by omega) hn (Zic ks rs l (by omega))
    rw[if_pos hn]
    have e1:m0L ks l st0.dn st0.dn.length=List.replicate ks.length (-1):=rfl
    have e2:m0A ks l st0.dn.length=0:=rfl
    rw[e1,e2]at hr
    simp[Zr5,h,h0,show ¬(200:Int)<vs.length by omega,Zai,Zaa,AV.bx,Zae]
    repeat refine⟨by omega,?_⟩
    simpa[st0]using hr
   ·rw[if_neg hn]
    have hr:=Zqu 0 8
    simp[Zr5,h,h0,show(200:Int)<vs.length by omega,show ¬(vs.length:Int)≤200 by omega,Zai,Zaa,AV.bx,Zae]
    repeat refine⟨by omega,?_⟩
    exact hr
  ·rw[if_neg h0]
   have hr:=Zqu 0 (upE ms ks rs l wn fl)
   simp[Zr5,h,h0,Zai,Zaa,AV.bx,Zae]<;>(repeat refine⟨by omega,?_⟩)<;>exact hr)
def k15:Ctr:=⟨15,0,fun _ a=>match a with |[.agg (.gen [.list (.big .str ms), .list (.big (.agg [.str, .int .i64]) ks), .list (.big (.agg [.str, .int .i64, .int .i64, .int .i64, .int .i64]) rs), .list (.big (.agg [.int .i64, .int .i64, .int .i64]) l), .int .i64 wn, .int .i64 fl]), .list (.big (.agg [.int .i64, .int .i64]) vs)]=>some (decide (ZaA ms ks rs=true∧l.length≤1000000), .tup [.agg (.gen [.int .i64 ((Za2 ms ks rs l wn fl vs).1).t, .int .i64 ((Za2 ms ks rs l wn fl vs).1).mo, .list (.big (.agg [.int .i64, .int .i64]) ((Za2 ms ks rs l wn fl vs).1).dn), .bool ((Za2 ms ks rs l wn fl vs).1).ha, .int .i64 ((Za2 ms ks rs l wn fl vs).1).ba, .bool ((Za2 ms ks rs l wn fl vs).1).to, .list (.ints .i64 ((Za2 ms ks rs l wn fl vs).1).dw), .list (.big (.agg [.int .i64, .bool]) ((Za2 ms ks rs l wn fl vs).1).up)]), .int .i64 (Za2 ms ks rs l wn fl vs).2.1, .int .i64 (Za2 ms ks rs l wn fl vs).2.2],none) |_=>none⟩
theorem ZAf:k15.OK Tryz.prog:=fun pa args r fr h=>by
 simp only[k15]at h
 split at h
 ·simp only[Option.some.injEq,Prod.mk.injEq,decide_eq_true_eq]at h
  obtain⟨h0,rfl,rfl⟩:=h
  exact Zla _ _ _ _ _ _ _ h0
 ·cases h
def E1:List Ctr:=[k15]++Bv
theorem ZCV:ZaD Tryz.prog E1:=⟨ZAf,ZEJ⟩
end Go.Proofs.YtkeoeooghhjibaaGreatDoor
/- Paths of functions, printed by the explorer (Gx). No condition. -/
namespace Go.Proofs.YtkeoeooghhjibaaGreatDoor
set_option maxRecDepth 100000
set_option linter.unusedVariables false
def ZBB(ms ks rs l:List AV)(wn fl:Int)(vs:List AV):AFrame:={ fn:=18,N:=19,env:=[(0,AV.agg (Row.gen [.list (Row.big .str ms), .list (Row.big (.agg [.str, .int .i64]) ks), .list (Row.big (.agg [.str, .int .i64, .int .i64, .int .i64, .int .i64]) rs), .list (Row.big (.agg [.int .i64, .int .i64, .int .i64]) l), .int .i64 wn, .int .i64 fl])),(1,AV.list (Row.big (.agg [.int .i64, .int .i64]) vs))],todo:=[.code a18.code],defs:=[],rnd:=none,ret:=false,res:=[ARes.tmp 4,ARes.tmp 5] }
def ZIB(ms ks rs l:List AV)(wn fl:Int)(vs:List AV):List AFrame:=[(ZBB ms ks rs l wn fl vs)]
theorem Zwb(ms ks rs l:List AV)(wn fl:Int)(vs:List AV):Zar tab 18 [AV.agg (Row.gen [.list (Row.big .str ms), .list (Row.big (.agg [.str, .int .i64]) ks), .list (Row.big (.agg [.str, .int .i64, .int .i64, .int .i64, .int .i64]) rs), .list (Row.big (.agg [.int .i64, .int .i64, .int .i64]) l), .int .i64 wn, .int .i64 fl]),AV.list (Row.big (.agg [.int .i64, .int .i64]) vs)]=some (ZBB ms ks rs l wn fl vs):=rfl
def ZCy(A:Ar)(K:KT)(F:FT)(ms ks rs l:List AV)(wn fl:Int)(vs:List AV):Prop:=rB [decide (ZaA ms ks rs=true∧List.length l≤1000000)] (F (AV.tup [AV.list (Row.big (.agg [.int .i64, .int .i64]) (Za2 ms ks rs l wn fl vs).fst.3),AV.int .i64 (Za2 ms ks rs l wn fl vs).snd.2]) (none))
theorem ZEg{A:Ar}{K:KT}{F:FT}{M:MT}{ms ks rs l:List AV}{wn fl:Int}{vs:List AV} :ZaH A tab E1 18 K F M (.run 30 (.fn)) (ZIB ms ks rs l wn fl vs) []=ZCy A K F ms ks rs l wn fl vs:=by kernel_rfl
end Go.Proofs.YtkeoeooghhjibaaGreatDoor
/- Contracts as a list. No condition. -/
namespace Go.Proofs.YtkeoeooghhjibaaGreatDoor
theorem ZoA(ms ks rs l:List AV)(wn fl:Int)(vs:List AV)(h:ZaA ms ks rs=true∧l.length≤1000000):Zao Tryz.prog 18 [.agg (.gen [.list (.big .str ms), .list (.big (.agg [.str, .int .i64]) ks), .list (.big (.agg [.str, .int .i64, .int .i64, .int .i64, .int .i64]) rs), .list (.big (.agg [.int .i64, .int .i64, .int .i64]) l), .int .i64 wn, .int .i64 fl]), .list (.big (.agg [.int .i64, .int .i64]) vs)] (.tup [.list (.big (.agg [.int .i64, .int .i64]) (Za2 ms ks rs l wn fl vs).1.dn), .int .i64 (Za2 ms ks rs l wn fl vs).2.2]) none:=
 start (Zwb ms ks rs l wn fl vs) fun C hC=>tgo hC ZCV ZEg (by simp[ZCy,h])
theorem Zul(xs:List AV)(hl:xs.length≤1000000):Zao Tryz.prog 22 [.list (.big (.agg [.int .i64, .int .i64]) xs), .nils] (.bool (ZbV eq2 xs [])) none:=
 Zgy (Zke xs [] hl) ⟨.same _, .nil _ rfl,trivial⟩
def k18:Ctr:=⟨18,0,fun _ a=>match a with |[.agg (.gen [.list (.big .str ms), .list (.big (.agg [.str, .int .i64]) ks), .list (.big (.agg [.str, .int .i64, .int .i64, .int .i64, .int .i64]) rs), .list (.big (.agg [.int .i64, .int .i64, .int .i64]) l), .int .i64 wn, .int .i64 fl]), .list (.big (.agg [.int .i64, .int .i64]) vs)]=>some (decide (ZaA ms ks rs=true∧l.length≤1000000), .tup [.list (.big (.agg [.int .i64, .int .i64]) (Za2 ms ks rs l wn fl vs).1.dn), .int .i64 (Za2 ms ks rs l wn fl vs).2.2],none) |_=>none⟩
theorem ZyE:k18.OK Tryz.prog:=fun pa args r fr h=>by
 simp only[k18]at h
 split at h
 ·simp only[Option.some.injEq,Prod.mk.injEq,decide_eq_true_eq]at h
  obtain⟨h0,rfl,rfl⟩:=h
  exact ZoA _ _ _ _ _ _ _ h0
 ·cases h
def k22z:Ctr:=⟨22,0,fun _ a=>match a with |[.list (.big (.agg [.int .i64, .int .i64]) xs), .nils]=>some (decide (xs.length≤1000000), .bool (ZbV eq2 xs []),none) |_=>none⟩
theorem Zum:k22z.OK Tryz.prog:=fun pa args r fr h=>by
 simp only[k22z]at h
 split at h
 ·simp only[Option.some.injEq,Prod.mk.injEq,decide_eq_true_eq]at h
  obtain⟨h0,rfl,rfl⟩:=h
  exact Zul _ h0
 ·cases h
def E2:List Ctr:=[k18,k22z]++E1
theorem ZFI:ZaD Tryz.prog E2:=⟨ZyE,⟨Zum,ZCV⟩⟩
end Go.Proofs.YtkeoeooghhjibaaGreatDoor
