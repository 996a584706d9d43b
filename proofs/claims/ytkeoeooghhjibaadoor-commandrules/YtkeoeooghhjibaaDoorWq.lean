/- The cells of chapter 08's types, as they are read; the start that the door's own run leaves. No condition. -/
import Derived.Test.YtkeoeooghhjibaaDoorW4
import Derived.LaidMore
import Derived.Stop.Joined
namespace Go.Proofs.YtkeoeooghhjibaaDoor
open Go.ChangeShapes Go.WideShapes
theorem Znq{us:List AV}(h:Cfs [.big .str, .big (.agg [.str, .int .i64]), .big (.agg [.str, .int .i64, .int .i64, .int .i64, .int .i64])] us):∃ms ks rs,us=[.list (.big .str ms), .list (.big (.agg [.str, .int .i64]) ks), .list (.big (.agg [.str, .int .i64, .int .i64, .int .i64, .int .i64]) rs)]:=by
 obtain⟨u,r,rfl,h1,h⟩:=Zc7 h
 obtain⟨u2,r,rfl,h2,h⟩:=Zc7 h
 obtain⟨u3,r,rfl,h3,h⟩:=Zc7 h
 obtain rfl:=ZlD h
 obtain⟨a,rfl⟩:=Zmb h1
 obtain⟨b,rfl⟩:=Zmb h2
 obtain⟨c,rfl⟩:=Zmb h3
 exact⟨a,b,c,rfl⟩
theorem Zll{us:List AV}(h:Cfs [.int .i64, .int .i64, .ints .i64] us):∃a b l,us=[.int .i64 a, .int .i64 b, .list (.ints .i64 l)]:=by
 obtain⟨u,r,rfl,h1,h⟩:=Zc7 h
 obtain⟨u2,r,rfl,h2,h⟩:=Zc7 h
 obtain⟨u3,r,rfl,h3,h⟩:=Zc7 h
 obtain rfl:=ZlD h
 obtain⟨a,rfl,_⟩:=Zlk h1
 obtain⟨b,rfl,_⟩:=Zlk h2
 obtain⟨c,rfl,_⟩:=ZpT h3
 exact⟨a,b,c,rfl⟩
end Go.Proofs.YtkeoeooghhjibaaDoor
