/- The cells of chapter 08's types, as they are read; the start that the door's own run leaves. No condition. -/
import Derived.Test.YtkeoeooghhjibaaDoorW4
import Derived.LaidMore
import Derived.Stop.Joined
namespace Go.Proofs.YtkeoeooghhjibaaDoor
open Go.ChangeShapes Go.WideShapes
theorem Zmz{us:List AV}(h:Cfs [.big .str, .big (.agg [.str, .int .i64]), .big (.agg [.str, .int .i64, .int .i64, .int .i64, .int .i64])] us):∃ms ks rs,us=[.list (.big .str ms), .list (.big (.agg [.str, .int .i64]) ks), .list (.big (.agg [.str, .int .i64, .int .i64, .int .i64, .int .i64]) rs)]:=by
 obtain⟨u,r,rfl,h1,h⟩:=ZgU h
 obtain⟨u2,r,rfl,h2,h⟩:=ZgU h
 obtain⟨u3,r,rfl,h3,h⟩:=ZgU h
 obtain rfl:=Zp8 h
 obtain⟨a,rfl⟩:=ZjB h1
 obtain⟨b,rfl⟩:=ZjB h2
 obtain⟨c,rfl⟩:=ZjB h3
 exact⟨a,b,c,rfl⟩
end Go.Proofs.YtkeoeooghhjibaaDoor
