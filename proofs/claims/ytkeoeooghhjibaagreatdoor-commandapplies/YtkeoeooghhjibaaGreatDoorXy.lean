/- Zeros put behind an owned row: what the builtin leaves. No condition. -/
import Derived.Lib.AppendZerosOnto
import Derived.Maps.AppendAt
namespace Go.Proofs.YtkeoeooghhjibaaGreatDoor
theorem zS{α:Type _}(a b:α):(some a=some b)=(a=b):=Option.some.injEq a b
theorem zP{α:Type _}{β:Type _}(a:α)(b:β)(c:α)(d:β):((a,b)=(c,d))=(a=c∧b=d):=Prod.mk.injEq a b c d
abbrev zI:=List Int
open Go
theorem ZhF{P:Program}(w:World)(base:Nat)(t tn ty e:TypeId)(i:TypeInfo)(z:Value)(size bytes:Nat)(kq kn:IntKind)(ht:P.underlying t=some (.slice e))(htn:P.underlying tn=some (.int kn))(hi:P.info? e=some i)(hz:i.zero=some z)
 (hsize:i.size=size) (hby:i.bytes=bytes) (hzs:z.cells.size=size) (hsz:0<size)
 (v:Value) (n:Nat) (xs:List Value) (hown:w.ownsRow base e size v n xs) (m:Nat) (hone:∀u∈(Builtin.zeroCells z.cells m).toList,u.oneCell'=true)
 (h63:n+m≤maxLen) (hbytes:(n+m)*bytes≤140737488355328) (hbase:base≤w.heap.size):
 ∃v' w',(Builtin.append_ #[t,tn] ty #[v, .int kq m]).run P w=.ok v' w'∧w'.ownsRow base e size v' (n+m) (xs++(Builtin.zeroCells z.cells m).toList)∧w.grownBy w' v.ownBlock∧
  (v'.ownBlock=v.ownBlock∨v'.ownBlock=some w.heap.size):=by
 subst hsize
 subst hby
 have hsmall:n+m≤9223372036854775807:=by simp only[maxLen]at h63;omega
 have hl:(Builtin.zeroCells z.cells m).toList.length=m*i.size:=by rw[Array.length_toList,size_zeroCells,hzs]
 generalize hnews:(Builtin.zeroCells z.cells m).toList=news at hl hone⊢
 have hnewsA:Builtin.zeroCells z.cells m=news.toArray:=by rw[←hnews]
 have hlen:(xs++news).length=(n+m)*i.size:=by rw[List.length_append,hown.1,hl,Nat.add_mul]
 have hmb:m*i.bytes≤140737488355328:=Nat.le_trans (Nat.mul_le_mul_right _ (by omega)) hbytes
 have grown:∀(old:Nat),old<n+m→∀(row:Option Nat),
  (w.drew.alloc (.cells (xs.toArray++news.toArray++Builtin.zeroCells z.cells (grownCap w (n+m) old e-(n+m))) e)).ownsRow base e i.size
    (.slice (some ⟨w.heap.size,0,none⟩) (n+m) (grownCap w (n+m) old e)) (n+m) (xs++news)∧
  w.grownBy (w.drew.alloc (.cells (xs.toArray++news.toArray++Builtin.zeroCells z.cells (grownCap w (n+m) old e-(n+m))) e)) row:=by
  intro old ho row
  have hge:=grownCap_ge w (n+m) old e
  have hcm:grownCap w (n+m) old e≤maxLen:=grownCap_le_maxLen w (n+m) old e h63
  refine⟨⟨hlen, .inr ⟨w.heap.size,_,_,rfl,hbase,heap_alloc_new w.drew _,hge,hcm,?_,?_⟩⟩,⟨rfl,rfl,rfl,by simp,fun k hk _=>heap_alloc_old w.drew _ k hk⟩⟩
  ·simp only[Array.size_append,List.size_toArray,size_zeroCells,hzs,hown.1,hl,←Nat.add_mul]
   congr 1
   omega
  ·simp only[Array.toList_append,List.append_assoc]
   rw[←List.append_assoc,←hlen]
   exact List.take_left
 have hw:IntKind.i64.wrap (m:Int)=m:=by rw[IntKind.wrap_i64];omega
 have hw0:IntKind.i64.wrap 0=0:=by rw[IntKind.wrap_i64];rfl
 have hneg:¬((m:Int)<0):=by omega
 have h48i:¬(281474976710656<(m:Int)*(i.bytes:Int)):=by
  rw[←Int.natCast_mul]
  omega
 rcases hown.2 with⟨rfl,rfl⟩ |⟨g,cap,cur,rfl,hbg,hg,hnc,hcm,hcs,htake⟩
 ·have hx:xs=[]:=List.eq_nil_of_length_eq_zero (by simpa using hown.1)
  subst hx
  by_cases hm:m=0
  ·subst hm
   have hn:news=[]:=List.eq_nil_of_length_eq_zero (by simpa using hl)
   subst hn
   refine⟨.slice none 0 0,w,?_,World.ownsRow_nil w base e i.size,⟨rfl,rfl,rfl,Nat.le_refl _,fun _ _ _=>rfl⟩,Or.inl rfl⟩
   simp[Builtin.append_,run_underlying ht,run_underlying htn,sizeOf,typeInfo,hi,asInt,asIntOf,hw0]
  ·have hr:=Go.Lib.run_append_grow_zeros (P:=P) w t tn ty e i z kq kn ht htn hi hz none 0 0 [] (by simp[Builtin.firstCells]) m (by omega) hsz (by omega) (by omega) (by omega) (growslice_fits (by omega) (by simpa using hbytes))
   have hgr:=grown 0 (by omega) (Value.ownBlock (.slice none 0 0))
   rw[hnewsA]at hr
   exact⟨_,_,hr,hgr.1,hgr.2,Or.inr rfl⟩
 ·by_cases hroom:n+m≤cap
  ·have hfit:n*i.size+news.length≤cur.size:=by rw[hl,hcs,←Nat.add_mul];exact Nat.mul_le_mul_right _ hroom
   have hst:=run_storeCells_at P g (n*i.size) e news 0 cur w hg (by simpa using hfit) hone
   simp only[Nat.add_zero]at hst
   have hr:(Builtin.append_ #[t,tn] ty #[.slice (some ⟨g,0,none⟩) n cap, .int kq m]).run P w=
    .ok (.slice (some ⟨g,0,none⟩) (n+m) cap) (w.setRow g (cur.toList.take (n*i.size)++news++cur.toList.drop (n*i.size+news.length)).toArray):=by
    by_cases hm:m=0
    ·subst hm
     have hn:news=[]:=List.eq_nil_of_length_eq_zero (by simpa using hl)
     subst hn
     have hself:(cur.toList.take (n*i.size)++[]++cur.toList.drop (n*i.size+([]:List Value).length)).toArray=cur:=by simp
     rw[hself,setRow_self w g cur e (0,0) hg]
     simp[Builtin.append_,run_underlying ht,run_underlying htn,sizeOf,typeInfo,hi,asInt,asIntOf,hw0,hnc,storeCells]
    ·have hns:¬(m*i.size=0):=Nat.mul_ne_zero hm (by omega)
     simp[Builtin.append_,run_underlying ht,run_underlying htn,sizeOf,typeInfo,hi,hz,zeroValue,asInt,asIntOf,hw,hneg,h48i,hns,hroom,Addr.add_lit,hnewsA,hst]
   refine⟨_,_,hr,⟨hlen, .inr ⟨g,cap,_,rfl,hbg,setRow_heap w g cur _ e _ hg,hroom,hcm,?_,?_⟩⟩,⟨rfl,rfl,rfl,by simp,fun k _ hk=>setRow_other w g k _ (fun e=>hk (by simp[Value.ownBlock,e]))⟩,Or.inl rfl⟩
   ·simp only[List.size_toArray,List.length_append,List.length_take,List.length_drop,Array.length_toList]
    omega
   ·rw[htake,←hlen]
    exact List.take_left
  ·have holds:∀j u,xs[j]? =some u→w.cell? ((⟨g,0,none⟩:Addr).add j)=some u:=hown.cells (g:=g) rfl
   have hf:=run_firstCells_some (P:=P) w.drew i.size n ⟨g,0,none⟩ n cap xs hown.1 (by simpa using holds)
   have hr:=Go.Lib.run_append_grow_zeros (P:=P) w t tn ty e i z kq kn ht htn hi hz (some ⟨g,0,none⟩) n cap xs hf m (by omega) hsz (by omega) (by omega) (by omega) (growslice_fits (by omega) hbytes)
   have hgr:=grown cap (by omega) (Value.ownBlock (.slice (some ⟨g,0,none⟩) n cap))
   rw[hnewsA]at hr
   exact⟨_,_,hr,hgr.1,hgr.2,Or.inr rfl⟩
theorem Ziw(z:Value){sz:Nat}(hz:z.cells.size=sz)(hpos:0<sz)(m:Nat):(Builtin.zeroCells z.cells m).toList=(List.replicate m z.cells.toList).flatten:=by
 apply List.ext_getElem?
 intro j
 simp only[Builtin.zeroCells,hz,Array.toList_map,Array.toList_range]
 rw[List.getElem?_map]
 by_cases hj:j<m*sz
 ·rw[List.getElem?_range hj]
  simp only[Option.map_some]
  have hm:j%sz<z.cells.size:=by rw[hz];exact Nat.mod_lt _ hpos
  have e1:z.cells[j%sz]! =z.cells.toList[j%sz]'(by simpa using hm):=by
   simp[getElem!_pos,hm]
  rw[e1]
  have e2:∀(m j:Nat),j<m*sz→((List.replicate m z.cells.toList).flatten)[j]? =z.cells.toList[j%sz]?:=by
   intro m
   induction m with
   |zero=>intro j hj;omega
   |succ m ih=>
    intro j hj
    simp only[List.replicate_succ,List.flatten_cons]
    by_cases hjs:j<sz
    ·rw[List.getElem?_append_left (by simpa[hz]using hjs),Nat.mod_eq_of_lt hjs]
    ·rw[List.getElem?_append_right (by simp[hz];omega),Array.length_toList,hz,ih (j-sz) (by rw[Nat.add_mul]at hj;omega)]
     congr 1
     conv=>rhs;rw[show j=j-sz+sz from by omega,Nat.add_mod_right]
  rw[e2 m j hj,List.getElem?_eq_getElem]
 ·rw[List.getElem?_eq_none (by simpa using hj),List.getElem?_eq_none (by simp[hz];omega)]
  rfl
end Go.Proofs.YtkeoeooghhjibaaGreatDoor
