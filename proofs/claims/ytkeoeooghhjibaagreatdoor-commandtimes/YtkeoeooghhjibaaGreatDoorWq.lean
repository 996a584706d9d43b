/- The cells of chapter 08's types, as they are read; the start that the door's own run leaves. No condition. -/
import Derived.Test.YtkeoeooghhjibaaGreatDoorW4
import Derived.LaidMore
import Derived.Stop.Joined
namespace Go.Proofs.YtkeoeooghhjibaaGreatDoor
open Go.ChangeShapes Go.WideShapes
theorem Zq2{us:List AV}(h:Cfs [.big .str, .big (.agg [.str, .int .i64]), .big (.agg [.str, .int .i64, .int .i64, .int .i64, .int .i64])] us):∃ms ks rs,us=[.list (.big .str ms), .list (.big (.agg [.str, .int .i64]) ks), .list (.big (.agg [.str, .int .i64, .int .i64, .int .i64, .int .i64]) rs)]:=by
 obtain⟨u,r,rfl,h1,h⟩:=Zi3 h
 obtain⟨u2,r,rfl,h2,h⟩:=Zi3 h
 obtain⟨u3,r,rfl,h3,h⟩:=Zi3 h
 obtain rfl:=Zvq h
 obtain⟨a,rfl⟩:=Zmh h1
 obtain⟨b,rfl⟩:=Zmh h2
 obtain⟨c,rfl⟩:=Zmh h3
 exact⟨a,b,c,rfl⟩
end Go.Proofs.YtkeoeooghhjibaaGreatDoor
