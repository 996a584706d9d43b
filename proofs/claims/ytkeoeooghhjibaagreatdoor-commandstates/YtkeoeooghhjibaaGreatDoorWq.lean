/- The cells of chapter 08's types, as they are read; the start that the door's own run leaves. No condition. -/
import Derived.Test.YtkeoeooghhjibaaGreatDoorW4
import Derived.LaidMore
import Derived.Stop.Joined
namespace Go.Proofs.YtkeoeooghhjibaaGreatDoor
open Go.ChangeShapes Go.WideShapes
theorem Zpv{us:List AV}(h:Cfs [.big .str, .big (.agg [.str, .int .i64]), .big (.agg [.str, .int .i64, .int .i64, .int .i64, .int .i64]), .big (.agg [.int .i64, .int .i64, .int .i64]), .int .i64, .int .i64] us):∃ms ks rs l wn fl,us=[.list (.big .str ms), .list (.big (.agg [.str, .int .i64]) ks), .list (.big (.agg [.str, .int .i64, .int .i64, .int .i64, .int .i64]) rs), .list (.big (.agg [.int .i64, .int .i64, .int .i64]) l), .int .i64 wn, .int .i64 fl]:=by
 obtain⟨u0,r,rfl,h0,h⟩:=ZaZ h
 obtain⟨u1,r,rfl,h1,h⟩:=ZaZ h
 obtain⟨u2,r,rfl,h2,h⟩:=ZaZ h
 obtain⟨u3,r,rfl,h3,h⟩:=ZaZ h
 obtain⟨u4,r,rfl,h4,h⟩:=ZaZ h
 obtain⟨u5,r,rfl,h5,h⟩:=ZaZ h
 obtain rfl:=Zkx h
 obtain⟨x0,rfl⟩:=ZhZ h0
 obtain⟨x1,rfl⟩:=ZhZ h1
 obtain⟨x2,rfl⟩:=ZhZ h2
 obtain⟨x3,rfl⟩:=ZhZ h3
 obtain⟨x4,rfl,_⟩:=ZgR h4
 obtain⟨x5,rfl,_⟩:=ZgR h5
 exact⟨x0,x1,x2,x3,x4,x5,rfl⟩
theorem Zru{us:List AV}(h:Cfs [.int .i64, .int .i64, .big (.agg [.int .i64, .int .i64]), .bool, .int .i64, .bool, .ints .i64, .big (.agg [.int .i64, .bool])] us):∃at0 mo dn ha ba to dw up,us=[.int .i64 at0, .int .i64 mo, .list (.big (.agg [.int .i64, .int .i64]) dn), .bool ha, .int .i64 ba, .bool to, .list (.ints .i64 dw), .list (.big (.agg [.int .i64, .bool]) up)]:=by
 obtain⟨u0,r,rfl,h0,h⟩:=ZaZ h
 obtain⟨u1,r,rfl,h1,h⟩:=ZaZ h
 obtain⟨u2,r,rfl,h2,h⟩:=ZaZ h
 obtain⟨u3,r,rfl,h3,h⟩:=ZaZ h
 obtain⟨u4,r,rfl,h4,h⟩:=ZaZ h
 obtain⟨u5,r,rfl,h5,h⟩:=ZaZ h
 obtain⟨u6,r,rfl,h6,h⟩:=ZaZ h
 obtain⟨u7,r,rfl,h7,h⟩:=ZaZ h
 obtain rfl:=Zkx h
 obtain⟨x0,rfl,_⟩:=ZgR h0
 obtain⟨x1,rfl,_⟩:=ZgR h1
 obtain⟨x2,rfl⟩:=ZhZ h2
 obtain⟨x3,rfl⟩:=Zo0 h3
 obtain⟨x4,rfl,_⟩:=ZgR h4
 obtain⟨x5,rfl⟩:=Zo0 h5
 obtain⟨x6,rfl,_⟩:=Zve h6
 obtain⟨x7,rfl⟩:=ZhZ h7
 exact⟨x0,x1,x2,x3,x4,x5,x6,x7,rfl⟩
theorem Zro{us:List AV}(h:Cfs [.int .i64, .int .i64] us):∃ek en,us=[.int .i64 ek, .int .i64 en]:=by
 obtain⟨u0,r,rfl,h0,h⟩:=ZaZ h
 obtain⟨u1,r,rfl,h1,h⟩:=ZaZ h
 obtain rfl:=Zkx h
 obtain⟨x0,rfl,_⟩:=ZgR h0
 obtain⟨x1,rfl,_⟩:=ZgR h1
 exact⟨x0,x1,rfl⟩
end Go.Proofs.YtkeoeooghhjibaaGreatDoor
