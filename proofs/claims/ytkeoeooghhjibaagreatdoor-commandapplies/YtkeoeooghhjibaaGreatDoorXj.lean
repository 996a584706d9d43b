/- Sets of strings; the bytes of a string. No condition. -/
import Derived.Test.YtkeoeooghhjibaaGreatDoorXo
import Derived.Lib.ConvBytes
import Derived.MapKept
namespace Go.Proofs.YtkeoeooghhjibaaGreatDoor
open Go.RowKit (Below)
open Go.MapKept (findNow_spec IsKey)
section
variable {C:Ctx}{o:Oper}{ρ:Opd→AV}{ev:Operand→Value}{h h':Zad}{w w':World}{L:Lay}{v:AV}{P:Program}
theorem ZdU(op:BinOp)(t:TypeId)(x y:Operand)(a b:Option Addr)(w:World):(eqGuard op t x y (.pointer a) (.pointer b)).run P w=.ok () w:=by
 unfold eqGuard
 split<;>simp
theorem ZnG(op:BinOp)(t:TypeId)(x:Operand)(c v:Value)(w:World):(eqGuard op t x (.const c) v .nilIface).run P w=.ok () w:=by
 unfold eqGuard
 split<;>first |(cases v<;>simp) |simp
theorem Zfo{t:TypeId}{ms:_}(ht:P.underlying t=some (.interface ms)){b:Bool}{v:Value}(hv:ZKZ b v)(w:World):(Op.equal t v .nilIface).run P w=.ok (!b) w:=by
 have e:∀d w,(Op.equalIn (d+1) t v .nilIface).run P w=.ok (!b) w:=fun d w=>by
  cases b with
  |true=>obtain⟨t2,p,rfl⟩:=hv;simp[Op.equalIn,run_underlying ht]
  |false=>cases hv;simp[Op.equalIn,run_underlying ht]
 exact e 9999 w
theorem Zhf{t:TypeId}(h:Zgp P t=true):∃k e i,P.underlying t=some (.map k e)∧P.underlying k=some .string∧P.info? e=some i∧i.zero=some (.bool false):=by
 unfold Zgp at h
 split at h
 ·rename_i k e ht
  simp only[Bool.and_eq_true]at h
  obtain⟨⟨h1,_⟩,h3⟩:=h
  have hk:P.underlying k=some .string:=by
   unfold ZdA at h1
   split at h1
   ·assumption
   ·cases h1
  split at h3
  ·rename_i i hi
   split at h3
   ·rename_i hz;exact⟨k,e,i,ht,hk,hi,hz⟩
   ·cases h3
  ·cases h3
 ·cases h
theorem ZLu(H:HRel C h L w){a i:Nat}{ks:zA}(hb:blk h a i=.mp ks):(blk h a i).tag=some (0,0)∧∃(es:Array MapEntry) (clock:Nat),w.heap[L.loc a i]? =some (.map es clock)∧es.toList.map (fun e=>(e.key,e.val))=ks.map fun k=>(Value.string ⟨k.toS.toArray⟩,Value.bool true):=by
 have:=H.blks a i
 rw[hb]at this
 exact⟨by rw[hb];rfl,this⟩
theorem ZG6{a i:Nat}{r:Value}(ht:(blk h a i).tag=some (0,0))(hr:ZaH C h L w (.mp a i) r):r=.map (some (L.loc a i)):=by
 cases hr with
 |mp _ _ g hl=>rw[hl.2 _ ht]
theorem Zsz{es:Array MapEntry}{ks:zA}(he:es.toList.map (fun e=>(e.key,e.val))=ks.map fun k=>(Value.string ⟨k.toS.toArray⟩,Value.bool true)):(∀x∈es.toList,IsKey .string x.key∧x.val=.bool true)∧∀s:List UInt8,(∃x∈es.toList,x.key=.string ⟨s.toArray⟩)↔std.hasS ks s=true:=by
 constructor
 ·intro x hx
  have:(x.key,x.val)∈es.toList.map (fun e=>(e.key,e.val)):=List.mem_map.2 ⟨x,hx,rfl⟩
  rw[he,List.mem_map]at this
  obtain⟨k,_,h2⟩:=this
  simp only[zP]at h2
  rw[←h2.1,←h2.2]
  exact⟨trivial,rfl⟩
 ·intro s
  show _↔(ks.any fun k=>k.toS==s)=true
  rw[List.any_eq_true]
  constructor
  ·rintro⟨x,hx,hk⟩
   have:(x.key,x.val)∈es.toList.map (fun e=>(e.key,e.val)):=List.mem_map.2 ⟨x,hx,rfl⟩
   rw[he,List.mem_map]at this
   obtain⟨k,h1,h2⟩:=this
   simp only[zP]at h2
   rw[←h2.1]at hk
   simp only[Value.string.injEq,ByteArray.mk.injEq]at hk
   exact⟨k,h1,by simpa using hk⟩
  ·rintro⟨k,h1,h2⟩
   have h2:k.toS=s:=by simpa using h2
   have:(Value.string ⟨k.toS.toArray⟩,Value.bool true)∈es.toList.map (fun e=>(e.key,e.val)):=by rw[he];exact List.mem_map.2 ⟨k,h1,rfl⟩
   rw[List.mem_map]at this
   obtain⟨x,h3,h4⟩:=this
   simp only[zP]at h4
   exact⟨x,h3,by rw[h4.1,h2]⟩
theorem ZnB(H:HRel C h L w){t:TypeId}{a:Nat}(ho:o.op=.makeMap t none):Snd C h L w ev o (Zal h a (.mp [])) (.mp a (nxt h a)):=by
 have hn:=H.push a (.mp []) w.heap.size 0 ((Below.refl _ _).alloc (Nat.le_refl _) (.map #[] 0)) ⟨Nat.le_refl _,by simp[World.size_alloc]⟩ (fun _=>⟨#[],0,(Go.MapKept.heap_alloc w _).1,rfl⟩)
 refine⟨_,_, .map (some w.heap.size), .inl (by simp[execOp,ho,Instr.makeMap]),hn.1,hn.2,fun _=>.mp _ _ _ (ZcB (fun sz hsz=>rfl))⟩
theorem Zne(H:HRel C h L w){t:TypeId}{x k:AV}{x' k':Operand}(ho:o.op=.lookup t x' k' false)(hm:Zgp C.P t=true)(rx:ZaH C h L w x (ev x'))(rk:ZaH C h L w k (ev k'))(hv:Zjw std h x k=some (true,v)):Snd C h L w ev o h v:=by
 obtain⟨kt,et,i,ht,hkt,hi,hz⟩:=Zhf hm
 unfold Zjw at hv
 split at hv
 case h_2=>cases hv
 rename_i a j s
 split at hv
 case h_2=>cases hv
 rename_i ks hb
 simp only[zS,zP,true_and]at hv
 subst hv
 obtain⟨htg,es,clock,he,hes⟩:=ZLu H hb
 have hx:=ZG6 htg rx
 have hk:ev k'=.string ⟨s.toArray⟩:=by
  generalize ev k'=q at rk
  cases rk;rfl
 obtain⟨h1,h2⟩:=Zsz hes
 have hd:IsKey .string (.string ⟨s.toArray⟩):=trivial
 rcases findNow_spec hd es.toList 0 (fun x hx=>(h1 x hx).1)with⟨f1,f2⟩ |⟨m,e,f1,f2,f3⟩
 ·have hf:std.hasS ks s=false:=by
   rw[Bool.eq_false_iff]
   intro ht
   obtain⟨x,q1,q2⟩:=(h2 s).2 ht
   exact f2 x q1 q2
  rw[hf]
  exact .pure H (by simp[execOp,ho,Instr.lookup,run_underlying ht,hx,hk,Go.MapKept.run_getObj_map he,Go.MapKept.run_checkKey hkt hd,Go.MapKept.run_findKey hkt f1,zeroValue,typeInfo,hi,hz,Result.andThen]) (.bool false)
 ·have hem:=List.mem_of_getElem? f2
  have hf:std.hasS ks s=true:=(h2 s).1 ⟨e,hem,f3⟩
  rw[hf]
  exact .pure H (by simp[execOp,ho,Instr.lookup,run_underlying ht,hx,hk,Go.MapKept.run_getObj_map he,Go.MapKept.run_checkKey hkt hd,Go.MapKept.run_findKey hkt f1,(h1 e hem).2,Result.andThen]) (.bool true)
theorem Zk8(w:World)(g:Nat)(o:Obj):w.grownBy { w with heap:=w.heap.setIfInBounds g o } (some g):=⟨rfl,rfl,rfl,by simp,fun k _ hne=>by
 have:g≠k:=fun e=>hne (by rw[e])
 simp[this]⟩
theorem Zp9(H:HRel C h L w){t:TypeId}{x k:AV}{x' k':Operand}(ho:o.op=.mapUpdate t x' k' (.const (.bool true)))(hc:ev (.const (.bool true))=.bool true)(hd0:o.dst=none)(hm:Zgp C.P t=true)(rx:ZaH C h L w x (ev x'))(rk:ZaH C h L w k (ev k')){a j:Nat}{s:List UInt8}{ks:zA}(hxa:x=.mp a j)(hks:k=.str s)(hb:blk h a j=.mp ks)(hn:std.hasS ks s=false):Snd C h L w ev o (ZaY h a j (.mp (ks++[.str s]))) (.tup []):=by
 obtain⟨kt,et,i,ht,hkt,hi,hz⟩:=Zhf hm
 subst hxa;subst hks
 obtain⟨htg,es,clock,he,hes⟩:=ZLu H hb
 have hx:=ZG6 htg rx
 have hk:ev k'=.string ⟨s.toArray⟩:=by
  generalize ev k'=q at rk
  cases rk;rfl
 obtain⟨h1,h2⟩:=Zsz hes
 have hd:IsKey .string (.string ⟨s.toArray⟩):=trivial
 rcases findNow_spec hd es.toList 0 (fun x hx=>(h1 x hx).1)with⟨f1,f2⟩ |⟨m,e,f1,f2,f3⟩
 ·have hrun:(execOp ev o).run C.P w=.ok .skip { w with heap:=w.heap.setIfInBounds (L.loc a j) (.map (es.push { key:=.string ⟨s.toArray⟩,val:=.bool true,born:=clock }) (clock+1)) } :=by
   simp[execOp,ho,hc,Instr.mapUpdate,run_underlying ht,hx,hk,Go.MapKept.run_getObj_map he,Go.MapKept.run_checkKey hkt hd,Go.MapKept.run_findKey hkt f1,Go.MapKept.run_setObj_map _ he,Result.andThen]
  have hlt:L.loc a j<w.heap.size:=(H.live a j (Plc.of htg (.inl rfl))).2
  have hst:=H.set (b:=.mp (ks++[.str s])) (Plc.of htg (.inl rfl)) (by rw[htg];rfl) (Zk8 w (L.loc a j) (.map (es.push { key:=.string ⟨s.toArray⟩,val:=.bool true,born:=clock }) (clock+1)))
   (fun _=>⟨es.push { key:=.string ⟨s.toArray⟩,val:=.bool true,born:=clock },clock+1,by simp[hlt],by simp[hes,AV.toS]⟩)
  exact⟨_,L, .bool true, .inr ⟨hrun,hd0⟩,hst.1,hst.2,fun hne=>absurd hd0 hne⟩
 ·have hem:=List.mem_of_getElem? f2
  have hf:std.hasS ks s=true:=(h2 s).1 ⟨e,hem,f3⟩
  rw[hf]at hn;cases hn
theorem Zpm:∀s:List UInt8,AV.pureL (s.map fun b=>AV.int .u8 (b.toNat:Int))=true
 |[]=>rfl
 |c::r=>by simp only[List.map_cons,AV.pureL,AV.pure,Bool.true_and];exact Zpm r
theorem Zrr(H:HRel C h L w){src dst e e0:TypeId}{x':Operand}{a i sz:Nat}{n:Int}(ho:o.op=.convert src dst x')(hs:C.P.underlying src=some (.slice e))(he:C.P.underlying e=some (.int .u8))(hd:C.P.underlying dst=some .string)(hb:blk h a i=.row e0 sz (.ints .u8 [n]))(rx:ZaH C h L w (.row a i) (ev x')):Snd C h L w ev o h (.str [UInt8.ofNat n.toNat]):=by
 obtain⟨ht,h0,h1,h2,h3⟩:=H.rowAt hb
 have h2:1≤L.size a i:=h2
 have hs0:L.size a i≠0:=by omega
 obtain⟨hpl,cur,h4,h5,h6,h7,h8⟩:=H.curAt hb hs0
 have hsz:1=sz:=h3 (.int .u8 n) (List.mem_singleton.2 rfl)
 subst hsz
 obtain⟨v,hv⟩:∃v,(cur.toList.take ((Row.ints .u8 [n]).elems.length*1))[0]? =some v:=by
  have hl:=h6.1
  cases hq:cur.toList.take ((Row.ints .u8 [n]).elems.length*1)with
  |nil=>rw[hq]at hl;cases hl
  |cons v l=>exact⟨v,rfl⟩
 have hr:=h6.2 0 (.int .u8 n) v rfl hv
 have hvn:v=.int .u8 n:=by cases hr;rfl
 subst hvn
 have hc:=h8 0 _ hv
 generalize hxv:ev x'=xv at rx
 cases rx with
 |row _ _ ad m c hn hlv=>
  obtain⟨had,hm,_⟩:=hlv.2 _ ht
  have had:=had (by omega)
  have hm:m=1:=hm
  subst hm
  subst had
  have hload:=run_loadCells_list (P:=C.P) (w:=w) (⟨L.loc a i,0,none⟩:Addr) [.int .u8 n] (fun j v hj=>by
   cases j with
   |zero=>simp only[List.getElem?_cons_zero,zS]at hj;subst hj;exact hc
   |succ j=>simp at hj)
  have hrun:=run_bytesToString (P:=C.P) w ⟨L.loc a i,0,none⟩ 1 c [n] hload
  refine .pure H ?_ (.str [UInt8.ofNat n.toNat])
  simp[execOp,ho,hxv,run_convert_bytes_string w src dst e _ _ _ hs he hd,hrun,Result.andThen]
  rfl
theorem ZrE(H:HRel C h L w){src dst e:TypeId}{x':Operand}{s:List UInt8}(ho:o.op=.convert src dst x')(hs:C.P.underlying src=some .string)(hd:C.P.underlying dst=some (.slice e))(he:C.P.underlying e=some (.int .u8))(rx:ZaH C h L w (.str s) (ev x')):Snd C h L w ev o h (.list (.ints .u8 (std.byt s))):=by
 have hx:ev x'=.string ⟨s.toArray⟩:=by
  generalize ev x'=q at rx
  cases rx;rfl
 have hb:Below w.heap.size w (Go.Lib.bytesWorld w e ⟨s.toArray⟩):=⟨rfl,rfl,rfl,by rw[Go.Lib.bytesWorld_size];omega,fun k hk=>Go.Lib.bytesWorld_at_old w e _ k hk⟩
 obtain⟨st,H2⟩:=H.grow hb
 have hsz:(⟨s.toArray⟩:ByteArray).size=s.length:=by simp[ByteArray.size]
 refine⟨_,L, .slice (some ⟨w.heap.size,0,none⟩) s.length (grownCap w s.length 0 e), .inl ?_,st,H2,fun _=>?_⟩
 ·have:=Go.Lib.run_convert_string_bytes (P:=C.P) w src dst e ⟨s.toArray⟩ hs hd he
  rw[hsz]at this
  simp[execOp,ho,hx,this,Result.andThen]
 ·have hel:(Row.ints .u8 (std.byt s)).elems=s.map fun b=>AV.int .u8 (b.toNat:Int):=by simp[Row.elems,std]
  cases hne:s with
  |nil=>exact .nil _ _ _ rfl
  |cons b t=>
   rw[←hne]
   have hfl:Zai (s.map fun b=>AV.int .u8 (b.toNat:Int))=s.map fun b=>AV.int .u8 (b.toNat:Int):=Zbo (fun x hx=>by obtain⟨y,_,rfl⟩:=List.mem_map.1 hx;rfl)
   refine .list _ (s.map fun b=>AV.int .u8 (b.toNat:Int)) hel.symm ⟨w.heap.size,0,none⟩ s.length _ 1 (s.map fun b=>Value.int .u8 b.toNat) (by rw[Go.Lib.bytesWorld_size];exact Nat.lt_succ_self _) (.inr ⟨H.top,fun a i ht=>?_⟩) (by simp) (grownCap_ge w s.length 0 e) (fun x hx=>by obtain⟨y,_,rfl⟩:=List.mem_map.1 hx;rfl) (by rw[hfl];simp) (fun v hv=>by obtain⟨y,_,rfl⟩:=List.mem_map.1 hv;rfl) (fun j v hj=>?_) ?_ (fun j u v hu hv=>?_)
   ·have:=(H.live a i ht).2;show L.loc a i≠w.heap.size;omega
   ·have hj2:j<s.length:=by
     have:=(List.getElem?_eq_some_iff.1 hj).1;simpa using this
    rw[Zbn,Nat.zero_add,Go.Lib.bytesWorld_cell w e _ j (by rw[hsz];exact hj2)]
    simp only[List.getElem?_map,List.getElem?_eq_getElem hj2,Option.map_some,zS]at hj
    rw[←hj]
    simp[hj2]
   ·rw[hfl];exact Zpm s
   ·rw[hfl]at hu
    simp only[List.getElem?_map]at hu hv
    cases hj:s[j]? with
    |none=>rw[hj]at hu;cases hu
    |some c=>rw[hj]at hu hv;cases hu;cases hv;exact .int _ _
theorem ZmS(H:HRel C h L w){t e:TypeId}{i:TypeInfo}{parts:Array (Nat×Operand)}(ho:o.op=.buildSlice t 0 parts)(hp:parts.isEmpty=true)(ht:C.P.underlying t=some (.slice e))(hi:C.P.info? e=some i):Snd C h L w ev o h .emp:=by
 have hpe:parts= #[]:=by simpa using hp
 subst hpe
 obtain⟨st,H2⟩:=H.grow ((Below.refl w.heap.size w).alloc (Nat.le_refl _) (.cells #[] e))
 refine⟨_,L, .slice (some ⟨w.heap.size,0,none⟩) 0 0, .inl ?_,st,H2,fun _=>.emp _⟩
 simp[execOp,ho,Instr.buildSlice,Zay ht,sizeOf,typeInfo,hi,newRow,Instr.fill,Result.andThen]
 congr 2
 apply Array.ext'
 simp
theorem ZpZ(H:HRel C h L w){t e:TypeId}{sz:Nat}{zv:Value}{i:TypeInfo}{x y:AV}{x' y':Operand}(ho:o.op=.call { callee:=.builtin .append,args:= #[x',y'],argTypes:= #[t,t] })(rx:ZaH C h L w x (ev x'))(ry:ZaH C h L w y (ev y'))
 (ht:C.P.underlying t=some (.slice e)) (hi:C.P.info? e=some i) (hz:i.zero=some zv) (hsz:i.size=sz) (hby:i.bytes≤32768)
 (hv:ZxV std sz x y=some (true,v)):Snd C h L w ev o h v:=by
 have hrun:∀v v' w',ev x'=v→(Builtin.append_ #[t,t] o.type #[v,ev y']).run C.P w=.ok v' w'→(execOp ev o).run C.P w=.ok (.value v') w':=fun v v' w' e1 e2=>by
  simp[execOp,ho,resolve,invoke,builtin,e1,e2]
 unfold ZxV at hv
 split at hv
 ·rename_i s
  simp only[zS,zP,std_and]at hv
  obtain⟨⟨hu,hle⟩,rfl⟩:=hv
  have hle:s.elems.length≤4294967296:=by rw[Row.len_std]at hle;simpa[std]using hle
  have hpu:s.elems≠[]→AV.pureL (Zai s.elems)=true:=fun hne=>by
   generalize ev y'=q at ry
   cases ry with
   |nil _ _ _ h0=>exact absurd h0 hne
   |list _ xs hx ad n cap sz cs hb2 ho hn hcap hsz hl h1 hc hp hr=>rw[←hx];exact hp
  obtain⟨ad',c,us,hyv,hrel,h1,hf,hul,hcl,hnone⟩:=Zkk H ry (s:=s) rfl hu
  obtain⟨ad,hxv⟩:∃ad,ev x'=.slice (some ad) 0 0:=by
   generalize ev x'=q at rx
   cases rx with |emp ad=>exact⟨ad,rfl⟩
  by_cases hne:s.elems=[]
  ·have hus:us=[]:=List.eq_nil_of_length_eq_zero (by rw[hul,hne];simp)
   refine .pure H (hrun _ (.slice (some ad) 0 0) w hxv ?_) (.nil _ _ _ hne)
   rw[hyv,hne]
   cases ad' with
   |none=>simp[Builtin.append_,Zay ht,sizeOf,typeInfo,hi,Builtin.lenOf,Builtin.firstCells,storeCells]
   |some a'=>simp[Builtin.append_,Zay ht,sizeOf,typeInfo,hi,Builtin.lenOf,Builtin.firstCells,storeCells,loadCells,loadCellsFrom]
  ·have hpos:0<s.elems.length:=List.length_pos_iff.2 hne
   cases ad' with
   |none=>exact absurd (hnone rfl) hne
   |some a'=>
    have hbb:(0+s.elems.length)*i.bytes≤140737488355328:=by
     have:=Nat.mul_le_mul hle hby;rw[Nat.zero_add];omega
    have hr:=run_append_grow (P:=C.P) w t o.type e i zv ht hi hz ad 0 0 [] (by simp) (by simp) a' s.elems.length c us (by rw[hsz];exact hul) (hcl a' rfl) (by omega) (by omega) (growslice_fits (by omega) hbb)
    rw[Nat.zero_add]at hr
    have hlen:us.length=(Zai s.elems).length:=hrel.1.symm
    obtain⟨st,H2⟩:=H.grow (((Below.refl w.heap.size w).drew).alloc (Nat.le_refl _) (.cells (([]:List Value).toArray++us.toArray++Builtin.zeroCells zv.cells (grownCap w s.elems.length 0 e-s.elems.length)) e))
    refine⟨_,L, .slice (some ⟨w.heap.size,0,none⟩) s.elems.length (grownCap w s.elems.length 0 e), .inl (hrun _ _ _ hxv (by rw[hyv,hr])),st,H2,fun _=>?_⟩
    have hge:=grownCap_ge w s.elems.length 0 e
    refine .list s s.elems rfl ⟨w.heap.size,0,none⟩ _ _ sz us (by simp[World.size_alloc]) (.inr ⟨H.top,fun a j htg=>?_⟩) rfl (by omega) hf hlen h1 (fun j v hj=>?_) (hpu hne) (fun j u v hu hv=>(hrel.step st).2 j u v hu hv)
    ·have:=(H.live a j htg).2;show L.loc a j≠w.heap.size;omega
    ·rw[Zbn,Nat.zero_add]
     have hj2:j<us.length:=(List.getElem?_eq_some_iff.1 hj).1
     have hh:(w.drew.alloc (.cells (([]:List Value).toArray++us.toArray++Builtin.zeroCells zv.cells (grownCap w s.elems.length 0 e-s.elems.length)) e)).heap[w.heap.size]? =some (.cells (([]:List Value).toArray++us.toArray++Builtin.zeroCells zv.cells (grownCap w s.elems.length 0 e-s.elems.length)) e):=(Go.MapKept.heap_alloc w.drew _).1
     unfold World.cell?
     dsimp only
     rw[hh]
     dsimp only
     rw[if_neg (by simp)]
     rw[←hj,Array.append_assoc,show([]:List Value).toArray= #[]from rfl,Array.empty_append,Array.getElem?_append_left (by simpa using hj2)]
     simp
 ·simp only[zS,zP,true_and]at hv
  subst hv
  obtain⟨ad,hxv⟩:∃ad,ev x'=.slice (some ad) 0 0:=by
   generalize ev x'=q at rx
   cases rx with |emp ad=>exact⟨ad,rfl⟩
  have hyv:ev y'=.slice none 0 0:=by
   generalize ev y'=q at ry
   cases ry;rfl
  refine .pure H (hrun _ (.slice (some ad) 0 0) w hxv ?_) (.emp _)
  rw[hyv]
  simp[Builtin.append_,Zay ht,sizeOf,typeInfo,hi,Builtin.lenOf,Builtin.firstCells,storeCells]
 ·rename_i v0
  split at hv
  ·rename_i ad0 n0 c0
   split at hv
   ·simp only[zS,zP,true_and]at hv
    subst hv
    obtain⟨ad,hxv⟩:∃ad,ev x'=.slice (some ad) 0 0:=by
     generalize ev x'=q at rx
     cases rx with |emp ad=>exact⟨ad,rfl⟩
    have hyv:ev y'=.slice ad0 0 c0:=by
     generalize ev y'=q at ry
     cases ry;rfl
    refine .pure H (hrun _ (.slice (some ad) 0 0) w hxv ?_) (.emp _)
    rw[hyv]
    cases ad0 with
    |none=>simp[Builtin.append_,Zay ht,sizeOf,typeInfo,hi,Builtin.lenOf,Builtin.firstCells,storeCells]
    |some a'=>simp[Builtin.append_,Zay ht,sizeOf,typeInfo,hi,Builtin.lenOf,Builtin.firstCells,storeCells,loadCells,loadCellsFrom]
   ·cases hv
  ·cases hv
 ·cases hv
end
end Go.Proofs.YtkeoeooghhjibaaGreatDoor
namespace Go.Proofs.YtkeoeooghhjibaaGreatDoor
open Go.RowKit (Below)
section
variable {C:Ctx}{o:Oper}{ρ:Opd→AV}{ev:Operand→Value}{h h':Zad}{w w':World}{L:Lay}{v:AV}{P:Program}
theorem Zsi(H:HRel C h L w){t e:TypeId}{n:Nat}{x:AV}{x':Operand}(ho:o.op=.sliceToArrayPointer t x')(rx:ZaH C h L w x (ev x'))(ht:C.P.underlying t=some (.array n e))(hn0:0<n)
 (hv:ZAW std h n x=some (true,v)):Snd C h L w ev o h v:=by
 have run:∀(ad:Option Addr) (m c:Nat),ev x'=.slice ad m c→n≤m→(execOp ev o).run C.P w=.ok (.value (.pointer ad)) w:=fun ad m c e1 e2=>by
  simp[execOp,ho,Instr.arrayAt,Zay ht,e1,Nat.not_lt.2 e2]
 unfold ZAW at hv
 generalize hxv:ev x'=xv at rx
 split at hv
 ·rename_i r
  simp only[zS,zP,std_and]at hv
  obtain⟨⟨hle,hsg⟩,rfl⟩:=hv
  have hle:n≤r.elems.length:=by rw[Row.len_std]at hle;simpa[std]using hle
  have hne:r.elems≠[]:=by intro e;rw[e]at hle;simp at hle;omega
  obtain⟨ad,m,c,sz,cs,rfl,hb,hok,rfl,hcap,hszs,h1,hc,hp,hr⟩:=Zlh rx hne
  have hone:=Row.sing_std hsg
  have hfl:=Zbo hone
  rw[hfl]at hr hp
  have hpart:=hr.take n
  refine .pure H (run _ _ _ hxv hle) ?_
  have hz:ad=ad.add 0:=by simp[Addr.add]
  rw[hz]
  have hsp:ad.spot=none:=by
   have hj:cs[0]? =some (cs[0]'(by have:=hr.1;omega)):=List.getElem?_eq_getElem _
   have:=ZmT (hc 0 _ hj)
   rwa[←hz]at this
  have hf:(AV.agg (ZpR (r.part std 0 n))).flat=r.elems.take n:=by
   show(ZpR (r.part std 0 n)).elems=_
   rw[ZfP,Row.part_std (by omega)];simp[sub3]
  exact .eptr _ 0 ad (cs.take n) hsp hb hok (by rw[hf];exact hpart.1.symm) (fun c hc=>h1 c (List.mem_of_mem_take hc)) (fun j v hj=>by
   rw[List.getElem?_take]at hj
   split at hj
   ·exact hc j v hj
   ·cases hj) (by rw[hf];have:=Zg4 hp 0 n;simpa using this) (by rw[hf];exact hpart.2)
 ·rename_i a j
  split at hv
  ·rename_i e' sz r hbk
   simp only[zS,zP,std_and]at hv
   obtain⟨⟨_,hle⟩,rfl⟩:=hv
   have hle:n≤r.elems.length:=by rw[Row.len_std]at hle;simpa[std]using hle
   have htg:=H.tagAt hbk
   cases rx with
   |row _ _ ad m c hn hl=>
    obtain⟨had,rfl,rfl⟩:=hl.2 _ htg
    have had:=had (by simp only at hn;omega)
    subst had
    exact .pure H (run _ _ _ hxv hle) (.ptr _ _ _ _ _ _ ⟨hl.1,fun s hs=>⟨rfl,by simp⟩⟩)
  ·cases hv
 ·rename_i a j k m cp
  split at hv
  ·rename_i e' sz r hbk
   simp only[zS,zP,std_and]at hv
   obtain⟨⟨_,hle⟩,rfl⟩:=hv
   have hle:n≤m:=by simpa[std]using hle
   have htg:=H.tagAt hbk
   cases rx with
   |slc _ _ _ _ _ ad c hn hl=>
    rcases hl.2 _ htg with⟨_,e1,_⟩ |⟨_,e1⟩ |⟨rfl,_⟩
    ·omega
    ·omega
    ·exact .pure H (run _ _ _ hxv hle) (.ptr _ _ _ _ _ _ ⟨hl.1,fun s hs=>by rw[htg]at hs;cases hs;exact⟨rfl,by simp⟩⟩)
  ·cases hv
 ·rename_i a j k off m
  simp only[zS,zP]at hv
  obtain⟨hle,rfl⟩:=hv
  have hle:n≤m:=by simpa[std]using hle
  cases rx with
  |aslc _ _ _ _ _ g oo c hn hl=>
   refine .pure H (run _ _ _ hxv hle) (.ptr _ _ _ _ _ _ ⟨hl.1,fun s hs=>?_⟩)
   rcases hl.2 s hs with e1 |e1
   ·omega
   ·exact e1
 ·cases hv
theorem ZuN(H:HRel C h L w){mx:Bool}{ts:Array TypeId}{k:IntKind}{p q:Int}{x' y':Operand}(ho:o.op=.call { callee:=.builtin (if mx then .max else .min),args:= #[x',y'],argTypes:=ts })(rx:ZaH C h L w (.int k p) (ev x'))(ry:ZaH C h L w (.int k q) (ev y')):
 Snd C h L w ev o h (.int k (mmI std mx p q)):=by
 cases mx
 ·refine .pure H (r:=.int k (min p q)) ?_ (.int _ _)
  have:(if q<p then q else p)=min p q:=by rw[Int.min_def];split<;>split<;>omega
  simp[execOp,ho,resolve,invoke,builtin,Builtin.min_,Builtin.min2,Zbm rx,Zbm ry,this]
 ·refine .pure H (r:=.int k (max p q)) ?_ (.int _ _)
  have:(if p<q then q else p)=max p q:=by rw[Int.max_def];split<;>split<;>omega
  simp[execOp,ho,resolve,invoke,builtin,Builtin.max_,Builtin.max2,Zbm rx,Zbm ry,this]
theorem Ztr(H:HRel C h L w){ts:Array TypeId}{k:FloatKind}{p q:Nat}{x' y':Operand}(ho:o.op=.call { callee:=.builtin .max,args:= #[x',y'],argTypes:=ts })(rx:ZaH C h L w (.flt k p) (ev x'))(ry:ZaH C h L w (.flt k q) (ev y'))
 (hv:(std.ford k p q).isSome=true):Snd C h L w ev o h (.flt k (mmF std k p q)):=by
 obtain⟨ord,e1⟩:=Option.isSome_iff_exists.1 hv
 unfold mmF
 rw[e1]
 have e1:k.format.order p q=some ord:=e1
 cases ord
 ·exact .pure H (by simp[execOp,ho,resolve,invoke,builtin,Builtin.max_,Builtin.max2,Zeb rx,Zeb ry,e1]) (.flt _ _)
 ·by_cases hn:(k.decode p).neg=true
  ·have:std.fneg k p=true:=hn
   rw[this]
   exact .pure H (by simp[execOp,ho,resolve,invoke,builtin,Builtin.max_,Builtin.max2,Zeb rx,Zeb ry,e1,hn]) (.flt _ _)
  ·have:std.fneg k p=false:=by simpa[std]using hn
   rw[this]
   exact .pure H (by simp[execOp,ho,resolve,invoke,builtin,Builtin.max_,Builtin.max2,Zeb rx,Zeb ry,e1,hn]) (.flt _ _)
 ·exact .pure H (by simp[execOp,ho,resolve,invoke,builtin,Builtin.max_,Builtin.max2,Zeb rx,Zeb ry,e1]) (.flt _ _)
theorem ZcG{t:TypeId}{ag:Bool}{n:Nat}(h:Zia P t ag n=true):∃d i,P.underlying t=some d∧Zba d=ag∧P.info? t=some i∧i.size=n∧(ag=false→n=1):=by
 unfold Zia at h
 split at h
 ·rename_i d i h1 h2
  simp only[Bool.and_eq_true,beq_iff_eq,Bool.or_eq_true]at h
  exact⟨d,i,h1,h.1.1,h2,h.1.2,fun e=>h.2.resolve_left (by simp[e])⟩
 ·cases h
theorem ZbI{t:TypeId}{n:Nat}(h:Zf0 P t n=true):∃i,P.info? t=some i∧i.size=n:=by
 unfold Zf0 at h
 split at h
 ·rename_i i h1;exact⟨i,h1,by simpa using h⟩
 ·cases h
theorem ZaK{t e:TypeId}(h:Zcc P t e=true):P.underlying t=some (.slice e):=by
 unfold Zcc at h
 split at h
 ·rename_i h1;rw[h1];simp at h;rw[h]
 ·cases h
theorem Zb2{t e:TypeId}{n:Nat}(h:ZmA P t n e=true):P.underlying t=some (.array n e):=by
 unfold ZmA at h
 split at h
 ·rename_i h1;rw[h1];simp at h;rw[h.1,h.2]
 ·cases h
theorem Zce{t:TypeId}(h:ZdA P t=true):P.underlying t=some .string:=by
 unfold ZdA at h
 split at h
 ·rename_i h1;rw[h1]
 ·cases h
theorem Zqr{t:TypeId}(h:Ztz P t=true):P.underlying t=some .bool:=by
 unfold Ztz at h
 split at h
 ·rename_i h1;rw[h1]
 ·cases h
theorem ZfS{t:TypeId}{k:IntKind}(h:ZBH P t k=true):P.underlying t=some (.int k):=by
 unfold ZBH at h
 split at h
 ·rename_i h1;rw[h1];simp at h;rw[h]
 ·cases h
theorem Zq9{t:TypeId}{k:FloatKind}(h:ZH3 P t k=true):P.underlying t=some (.float k):=by
 unfold ZH3 at h
 split at h
 ·rename_i h1;rw[h1];simp at h;rw[h]
 ·cases h
theorem ZeY{t:TypeId}(h:Zol P t=true):∃d,P.underlying t=some d:=Option.isSome_iff_exists.1 h
theorem Ziz{t ft:TypeId}{f off:Nat}(h:Zo9 P t f off=some ft):∃fs fd,P.underlying t=some (.struct fs)∧fs[f]? =some fd∧fd.offset=off∧fd.type=ft:=by
 unfold Zo9 at h
 split at h
 ·rename_i fs h1
  split at h
  ·rename_i fd h2
   split at h
   ·rename_i h3;cases h;exact⟨fs,fd,h1,h2,by simpa using h3,rfl⟩
   ·cases h
  ·cases h
 ·cases h
theorem Zby{e:TypeId}{sz:Nat}{z:Option AV}(h:ZiN P e sz z=true):∃i v,P.info? e=some i∧i.size=sz∧i.bytes≤32768∧i.zero=some v∧v.cells.size=sz∧∀z',z=some z'→ZdG z' v=true∧z'.flat.length=sz:=by
 unfold ZiN at h
 split at h
 ·rename_i i h1
  simp only[Bool.and_eq_true,beq_iff_eq,decide_eq_true_eq]at h
  obtain⟨⟨h2,h3⟩,h4⟩:=h
  split at h4
  ·rename_i v h5
   simp only[Bool.and_eq_true,beq_iff_eq]at h4
   refine⟨i,v,h1,h2,h3,h5,h4.1,fun z' e=>?_⟩
   subst e
   simpa using h4.2
  ·cases h4
 ·cases h
theorem Zl3{t:TypeId}{n:Nat}(h:Zm3 P t n=true):∃arr e i,P.underlying t=some (.pointer arr)∧P.underlying arr=some (.array n e)∧P.info? e=some i∧i.size=1:=by
 unfold Zm3 at h
 split at h
 ·rename_i arr h1
  split at h
  ·rename_i m e h2
   simp only[Bool.and_eq_true,beq_iff_eq]at h
   obtain⟨⟨rfl,h3⟩,_⟩:=h
   obtain⟨i,h4,h5⟩:=ZbI h3
   exact⟨arr,e,i,h1,h2,h4,h5⟩
  ·cases h
 ·cases h
theorem Zl2{t:TypeId}{n:Nat}(h:ZnE P t n=true):∃e i,P.underlying t=some (.array n e)∧P.info? e=some i∧i.size=1:=by
 unfold ZnE at h
 split at h
 ·rename_i m e h2
  simp only[Bool.and_eq_true,beq_iff_eq]at h
  obtain⟨⟨rfl,h3⟩,_⟩:=h
  obtain⟨i,h4,h5⟩:=ZbI h3
  exact⟨e,i,h2,h4,h5⟩
 ·cases h
theorem ZaQ{x:Out}{b:Bool}(h1:ZeQ h x=some (b,v,h')):x=some (b,v)∧h'=h:=by
 cases x with
 |none=>cases h1
 |some p=>obtain⟨b',v'⟩:=p;simp only[ZeQ,zS,zP]at h1;obtain⟨rfl,rfl,rfl⟩:=h1;exact⟨rfl,rfl⟩
theorem Step.trans{w1 w2 w3:World}{ok1 ok2 ok3:Nat→Prop}{h1 h2 h3:Zad}{L1 L2 L3:Lay}(a:Step w1 ok1 h1 L1 w2 ok2 h2 L2)(b:Step w2 ok2 h2 L2 w3 ok3 h3 L3):Step w1 ok1 h1 L1 w3 ok3 h3 L3:=by
 refine⟨Nat.le_trans a.size b.size,fun g hg ho=>?_,fun c=>Nat.le_trans (a.nx c) (b.nx c),fun c j sz hj ht=>?_⟩
 ·obtain⟨q1,q2⟩:=a.mem g hg ho
  obtain⟨q3,q4⟩:=b.mem g (Nat.lt_of_lt_of_le hg a.size) q1
  exact⟨q3,q4.trans q2⟩
 ·obtain⟨q1,q2,q3⟩:=b.tags c j sz (Nat.lt_of_lt_of_le hj (a.nx c)) ht
  obtain⟨q4,q5,q6⟩:=a.tags c j sz hj q1
  exact⟨q4,q2.trans q5,q3.trans q6⟩
section
variable {C:Ctx}{o:Oper}{ev:Operand→Value}{h h':Zad}{w w':World}{L:Lay}
theorem ZmU(H:HRel C h L w){a b ie isz:Nat}{s:Sym}{r0:Row}(hnf:ZnQ (fam h a)=true)(hsy:ZBD s=some (ie,isz,r0))(hab:a≠b)(hisz:0<isz){t e:TypeId}{sz:Nat}{zv:Value}{i:TypeInfo}{kd kd':IntKind}{n:Int}{l' c':Operand}(ho:o.op=.makeSlice t l' c')(e1:ev l'=.int kd n)(e2:ev c'=.int kd' n)
 (ht:C.P.underlying t=some (.slice e)) (hi:C.P.info? e=some i) (hzo:i.zero=some zv) (hzm:ZdG .nils zv=true) (hsz:i.size=sz) (hpos:0<sz) (hzs:AV.nils.flat.length=sz) (hby:i.bytes≤32768)
 (h0:0≤n) (hle:n≤4294967296):Snd C h L w ev o (Zal (Zal (ZgF h a s) a (.row ie isz r0)) b (.row e sz (.refs a (List.replicate n.toNat 0)))) (.row b (nxt h b)):=by
 obtain⟨hs1,hre⟩:=Zin hsy
 obtain⟨o1,o2⟩:=Zfr hnf hs1
 obtain⟨q1,q2⟩:=ZoM (x:=.row ie isz r0) hnf hs1 hab
 obtain⟨s1,H1⟩:=H.kill (ZgF h a s) o1 (fun b i=>.inr (o2 b i))
 obtain⟨L2,s2,H2,rr2⟩:=ZcO H1 (fun _ _=>False) (ZgF h a s) (fun _=>rfl) (fun _ _=>.inr ⟨fun e=>e,rfl⟩) (a:=a) (e:=ie) (sz:=isz) (r:=r0) hre hisz
 rw[q1]at rr2
 generalize hh2:Zal (ZgF h a s) a (.row ie isz r0)=h2 at*
 have hzv:zv=.slice none 0 0:=by
  have hzm:ZfE .nils zv=true:=hzm
  unfold ZfE at hzm
  split at hzm<;>first |rfl |contradiction |cases hzm
 generalize hz:AV.row a 0=z at*
 have hzr:ZaH C h2 L2 w z zv:=by rw[hzv];exact rr2 none
 obtain⟨hz1,hz2⟩:=hzr.cells (by rw[←hz];rfl)
 have hzf:z.flat.length=sz:=by rw[←hz];exact hzs
 have hzsz:zv.cells.size=sz:=by have:=hz1.1;simp only[Array.length_toList]at this;omega
 obtain⟨w',hr,hown,hg⟩:=run_make_full (P:=C.P) w C.base t e i zv sz ht hi hzo hsz kd kd' n.toNat (by have h:=Nat.mul_le_mul hby (show n.toNat≤4294967296 by omega);omega) (by simp[maxLen];omega) H.hbase
 have hnn:((n.toNat:Nat):Int)=n:=by omega
 rw[hnn]at hr
 have hmade:∀m:Nat,(madeCells zv.cells (m*sz)).toList=(List.replicate m zv.cells.toList).flatten:=by
  intro m
  apply List.ext_getElem?
  intro j
  simp only[madeCells,hzsz,Array.toList_map,Array.toList_range]
  rw[List.getElem?_map]
  by_cases hj:j<m*sz
  ·rw[List.getElem?_range hj]
   simp only[Option.map_some]
   have hm:j%sz<zv.cells.size:=by rw[hzsz];exact Nat.mod_lt _ hpos
   have e1:zv.cells[j%sz]! =zv.cells.toList[j%sz]'(by simpa using hm):=by
    simp[getElem!_pos,hm]
   rw[e1]
   have e2:∀(m j:Nat),j<m*sz→((List.replicate m zv.cells.toList).flatten)[j]? =zv.cells.toList[j%sz]?:=by
    intro m
    induction m with
    |zero=>intro j hj;omega
    |succ m ih=>
     intro j hj
     simp only[List.replicate_succ,List.flatten_cons]
     by_cases hjs:j<sz
     ·rw[List.getElem?_append_left (by simpa[hzsz]using hjs),Nat.mod_eq_of_lt hjs]
     ·rw[List.getElem?_append_right (by simp[hzsz];omega),Array.length_toList,hzsz,ih (j-sz) (by rw[Nat.add_mul]at hj;omega)]
      congr 1
      conv=>rhs;rw[show j=j-sz+sz from by omega,Nat.add_mod_right]
   rw[e2 m j hj,List.getElem?_eq_getElem]
  ·rw[List.getElem?_eq_none (by simpa using hj),List.getElem?_eq_none (by simp[hzsz];omega)]
   rfl
 have hrel:∀m:Nat,RelL w (Zaz C h2 L2) h2 L2 (Zai (List.replicate m z)) (List.replicate m zv.cells.toList).flatten:=by
  intro m
  induction m with
  |zero=>exact RelL.nil
  |succ m ih=>simp only[List.replicate_succ,List.flatten_cons];rw[ZaL];exact hz1.append ih
 have hone:∀c∈(madeCells zv.cells (n.toNat*sz)).toList,c.oneCell'=true:=by
  intro c hc
  rw[hmade]at hc
  obtain⟨l,hl,hcl⟩:=List.mem_flatten.1 hc
  rw[List.eq_of_mem_replicate hl]at hcl
  exact hz2 c (by simpa using hcl)
 have hel:(Row.refs a (List.replicate n.toNat 0)).elems=List.replicate n.toNat z:=by simp[Row.elems,hz]
 obtain⟨L',s3,H',rr⟩:=Zee (w':=w') H2 (fun _ _=>False) h2 (fun _=>rfl) (fun _ _=>.inr ⟨fun e=>e,rfl⟩) (a:=b) (e:=e) (sz:=sz) (r:=.refs a (List.replicate n.toNat 0)) hown (by rw[hel,List.length_replicate]) (by rw[hel,hmade];exact hrel _)
  (by rw[hel];intro x hx;rw[List.eq_of_mem_replicate hx];exact hzf) hone hpos hg (fun k hk=>by cases hk) (fun b j hk=>hk.elim) (.inl (Nat.le_refl _))
 rw[q2]at rr
 exact⟨w',L',_, .inl (by simp[execOp,ho,e1,e2,hr]),s1.trans (s2.trans s3),H',fun _=>rr⟩
end
theorem Zbj{r:Row}(hp:r.pure=true):AV.pureL (Zai r.elems)=true:=by
 have hap:∀(a b:zA),AV.pureL a=true→AV.pureL b=true→AV.pureL (a++b)=true:=by
  intro a b
  induction a with
  |nil=>exact fun _ h=>h
  |cons z zs ihz=>intro ha hb;simp only[List.cons_append,AV.pureL,Bool.and_eq_true]at ha ⊢;exact⟨ha.1,ihz ha.2 hb⟩
 have hal:∀l:zA,(∀z∈l,z.pure=true)→AV.pureL l=true:=by
  intro l
  induction l with
  |nil=>intro _;rfl
  |cons z zs ihz=>intro hz;simp only[AV.pureL,Bool.and_eq_true];exact⟨hz z List.mem_cons_self,ihz (fun q hq=>hz q (List.mem_cons_of_mem _ hq))⟩
 have:∀(xs:zA),(∀x∈xs,x.pure=true)→AV.pureL (Zai xs)=true:=by
  intro xs
  induction xs with
  |nil=>intro _;rfl
  |cons y ys ih=>
   intro hy
   rw[ZaL]
   refine hap _ _ ?_ (ih (fun z hz=>hy z (List.mem_cons_of_mem _ hz)))
   have h1:=hy y List.mem_cons_self
   cases y with
   |agg q=>
    have hq:q.pure=true:=by simpa[AV.pure]using h1
    exact hal _ (fun z hz=>by obtain⟨j,hj⟩:=List.mem_iff_getElem?.1 hz;exact Row.pure_mem hq hj)
   |_=>simp only[AV.flat,AV.pureL,Bool.and_true];exact h1
 exact this _ (fun z hz=>by obtain⟨j,hj⟩:=List.mem_iff_getElem?.1 hz;exact Row.pure_mem hp hj)
theorem Zn1{a:Nat}{e:TypeId}{sz:Nat}{r:Row}(ha:a≠0)(hs:Snd C h L w ev o (Zal h a (.row e sz r)) (.row a (nxt h a)))(hp:r.pure=true):Snd C h L w ev o (Zal h a .dead) (.list r):=by
 obtain⟨w',L',x,hrun,st,H1,hv⟩:=hs
 have hb:blk (Zal h a (.row e sz r)) a (nxt h a)=.row e sz r:=by rw[Za3,if_pos ⟨rfl,rfl⟩]
 obtain⟨s,H2⟩:=H1.kill (Zal h a .dead) (fun b=>by rw[Zcs,Zcs]) (fun b i=>by rw[Za3,Za3];split;exact .inl rfl;exact .inr rfl)
 refine⟨w',L',x,hrun,st.trans s,H2,fun hd=>?_⟩
 have hr:=hv hd
 obtain⟨ht,h0,h1,h2,h3⟩:=H1.rowAt hb
 cases hr with
 |row _ _ ad n c hn hl=>
  obtain⟨had,rfl,rfl⟩:=hl.2 _ ht
  by_cases hs0:L'.size a (nxt h a)=0
  ·have hre:r.elems=[]:=List.eq_nil_of_length_eq_zero (by omega)
   rw[hs0,show(sz,r.elems.length).2=0 by simp[hre]]
   exact .nil r _ _ hre
  obtain⟨hpl,cur,h4,h5,h6,h7,h8⟩:=H1.curAt hb hs0
  have had:=had hs0
  subst had
  have hlv:=H1.live a (nxt h a) hpl
  refine .list r _ rfl ⟨L'.loc a (nxt h a),0,none⟩ _ _ sz (cur.toList.take (r.elems.length*sz)) hlv.2 (.inr ⟨H1.far hpl ha,fun b j htb e=>?_⟩) rfl hn h3 h6.1.symm h7 h8 (Zbj hp) (fun j u v hu hv=>(h6.2 j u v hu hv).step s)
  by_cases hne:a=b∧j=nxt h a
  ·obtain⟨rfl,rfl⟩:=hne
   exact absurd (by rw[Za3,if_pos ⟨rfl,rfl⟩];rfl) htb.tag
  ·obtain⟨rfl,rfl⟩:=H1.inj b j a (nxt h a) (htb.to (by rw[Za3,Za3,if_neg hne,if_neg hne]) rfl) hpl e
   exact hne ⟨rfl,rfl⟩
theorem ZrI(H:HRel C h L w)(hρ:Rho C h L w ρ ev){k:OpK}(hm:mop C.P o k=true)(hr:Zat std ρ h k=some (true,v,h')):Snd C h L w ev o h' v:=by
 cases k with
 |mov x=>
  simp only[Zat,zS,zP,true_and]at hr
  obtain⟨rfl,rfl⟩:=hr
  simp only[mop]at hm
  split at hm
  ·rename_i y ho;exact .pure H (r:=ev y) (by simp[execOp,ho]) (hρ.rel x y hm)
  ·rename_i y ho;exact .pure H (r:=ev y) (by simp[execOp,ho]) (hρ.rel x y hm)
  ·cases hm
 |pick c x y=>
  simp only[mop]at hm
  split at hm
  ·rename_i c' x' y' ho
   simp only[Bool.and_eq_true]at hm
   have rc:=hρ.rel c c' hm.1.1
   simp only[Zat]at hr
   split at hr
   ·rename_i b hb
    rw[hb]at rc
    split at hr
    ·simp only[zS,zP,true_and]at hr
     obtain⟨rfl,rfl⟩:=hr
     exact .pure H (r:=ev x') (by simp[execOp,ho,Ze6 rc,asBool]) (hρ.rel x x' hm.1.2)
    ·simp only[zS,zP,true_and]at hr
     obtain⟨rfl,rfl⟩:=hr
     exact .pure H (r:=ev y') (by simp[execOp,ho,Ze6 rc,asBool]) (hρ.rel y y' hm.2)
   ·cases hr
  ·cases hm
 |bin op x y=>
  simp only[mop]at hm
  split at hm
  ·rename_i op' t x' y' ty ho
   simp only[Bool.and_eq_true,beq_iff_eq]at hm
   obtain⟨⟨rfl,hx⟩,hy⟩:=hm
   simp only[Zat]at hr
   obtain⟨h1,rfl⟩:=ZaQ hr
   exact ZsM H ho (hρ.rel x x' hx) (hρ.rel y y' hy) h1
  ·cases hm
 |binw op x y=>
  simp only[mop]at hm
  split at hm
  ·rename_i op' t x' y' ty ho
   simp only[Bool.and_eq_true,beq_iff_eq]at hm
   obtain⟨⟨rfl,hx⟩,hy⟩:=hm
   simp only[Zat]at hr
   obtain⟨h1,rfl⟩:=ZaQ hr
   exact Zqc H ho (hρ.rel x x' hx) (hρ.rel y y' hy) h1
  ·cases hm
 |beq ne x y=>
  simp only[mop]at hm
  split at hm
  ·rename_i op' t x' y' ty ho
   simp only[Bool.and_eq_true,beq_iff_eq]at hm
   obtain⟨⟨⟨h1,h2⟩,hx⟩,hy⟩:=hm
   simp only[Zat]at hr
   split at hr
   ·rename_i a b ha hb
    simp only[zS,zP,true_and]at hr
    obtain⟨rfl,rfl⟩:=hr
    exact ZrB H ho h1 (Zqr h2) (ha▸hρ.rel x x' hx) (hb▸hρ.rel y y' hy)
   ·cases hr
  ·cases hm
 |isnil ne x=>
  simp only[mop]at hm
  split at hm
  ·rename_i op' t x' ty ho
   simp only[Bool.and_eq_true,beq_iff_eq]at hm
   obtain⟨⟨hop,ht⟩,hx⟩:=hm
   have ht:=ZaK ht
   have rx:=hρ.rel x x' hx
   have run:∀(ad:Option Addr) (n c:Nat),ev x'=.slice ad n c→(execOp ev o).run C.P w=.ok (.value (.bool (match ne with |true=>!ad.isNone |false=>ad.isNone))) w:=fun ad n c e=>by
    subst hop
    cases ne
    ·have:=Lib.run_eql_slice_nil (P:=C.P) w t _ ad n c 0 0 ht
     simp only[Bool.false_eq_true,if_false]at ho
     simp[execOp,ho,e,hρ.cst,ZfA,this]
    ·have:=run_neq_slice_nil_any (P:=C.P) w t _ ad n c 0 0 ht
     simp only[if_true]at ho
     simp[execOp,ho,e,hρ.cst,ZfA,this]
   simp only[Zat]at hr
   obtain⟨h1,rfl⟩:=ZaQ hr
   generalize hxv:ev x'=xv at rx
   generalize ρ x=av at rx h1
   have fin:∀ {b:Bool} {ad:Option Addr} {n c:Nat},xv=.slice ad n c→ad.isNone=b→v=.bool (if ne then !b else b)→Snd C h' L w ev o h' v:=fun e1 e2 e3=>by
    have:=run _ _ _ (hxv.trans e1)
    rw[e3,←e2]
    cases ne<;>exact .pure H this (.bool _)
   unfold ZjF at h1
   split at h1
   ·simp only[zS,zP,true_and]at h1
    cases rx
    exact fin (b:=true) rfl rfl (by rw[←h1];cases ne<;>rfl)
   ·rename_i r
    simp only[zS,zP]at h1
    obtain⟨h1,h2⟩:=h1
    have hne:r.elems≠[]:=by rw[Row.len_std]at h1;intro e;rw[e]at h1;simp at h1
    obtain⟨ad,n,c,sz,cs,rfl,_⟩:=Zlh rx hne
    exact fin (b:=false) rfl rfl (by rw[←h2];cases ne<;>rfl)
   ·rename_i a i
    split at h1
    ·rename_i e' sz r hb
     simp only[zS,zP]at h1
     obtain⟨h1,h2⟩:=h1
     have h1:0<r.elems.length:=by rw[Row.len_std]at h1;simpa[std]using h1
     obtain⟨htg,g0,g1,g2,g3⟩:=H.rowAt hb
     cases rx with
     |row _ _ ad n c hn hl=>
      obtain⟨had,rfl,rfl⟩:=hl.2 _ htg
      have had:=had (by omega)
      subst had
      exact fin (b:=false) rfl rfl (by rw[←h2];cases ne<;>rfl)
    ·cases h1
   ·rename_i a i k n c
    split at h1
    ·rename_i e' sz r hb
     simp only[zS,zP]at h1
     obtain⟨h1,h2⟩:=h1
     have h1:0<r.elems.length:=by rw[Row.len_std]at h1;simpa[std]using h1
     obtain⟨htg,g0,g1,g2,g3⟩:=H.rowAt hb
     cases rx with
     |slc _ _ _ _ _ ad c hn hl=>
      rcases hl.2 _ htg with⟨_,_,_,_,rfl⟩ |⟨e1,_⟩ |⟨rfl,_⟩
      ·exact fin (b:=false) rfl rfl (by rw[←h2];cases ne<;>rfl)
      ·omega
      ·exact fin (b:=false) rfl rfl (by rw[←h2];cases ne<;>rfl)
    ·cases h1
   ·simp only[zS,zP,true_and]at h1
    cases rx
    exact fin (b:=false) rfl rfl (by rw[←h1];cases ne<;>rfl)
   ·split at h1
    ·split at h1
     ·simp only[zS,zP,true_and]at h1
      cases rx
      exact fin (b:=false) rfl rfl (by rw[←h1];cases ne<;>rfl)
     ·simp only[zS,zP,true_and]at h1
      cases rx
      exact fin (b:=true) rfl rfl (by rw[←h1];cases ne<;>rfl)
    ·cases h1
   ·cases h1
  ·cases hm
 |not x=>
  simp only[mop]at hm
  split at hm
  ·rename_i t x' ho
   have rx:=hρ.rel x x' hm
   simp only[Zat]at hr
   split at hr
   ·rename_i b hb
    rw[hb]at rx
    simp only[zS,zP,true_and]at hr
    obtain⟨rfl,rfl⟩:=hr
    exact .pure H (r:=.bool (!b)) (by simp[execOp,ho,Ze6 rx,Op.unary]) (.bool _)
   ·cases hr
  ·cases hm
 |neg x=>
  simp only[mop]at hm
  split at hm
  ·rename_i t x' ho
   have rx:=hρ.rel x x' hm
   simp only[Zat]at hr
   split at hr
   ·rename_i k n hb
    rw[hb]at rx
    simp only[zS,zP]at hr
    obtain⟨h1,rfl,rfl⟩:=hr
    have h0:(0:Int)-n= -n:=by omega
    exact .pure H (r:=.int k (-n)) (by simp[execOp,ho,Zbm rx,Op.unary,Op.intArith,Zdr (show std.inR k (-n)=true from h1)]) (.int _ _)
   ·cases hr
  ·cases hm
 |conv k x=>
  simp only[mop]at hm
  split at hm
  ·rename_i src dst x' ho
   simp only[Bool.and_eq_true]at hm
   obtain⟨⟨h1,h2⟩,hx⟩:=hm
   obtain⟨d,h1⟩:=ZeY h1
   have h2:=ZfS h2
   have rx:=hρ.rel x x' hx
   simp only[Zat]at hr
   split at hr
   ·rename_i k' n hb
    rw[hb]at rx
    simp only[zS,zP]at hr
    obtain⟨h3,rfl,rfl⟩:=hr
    exact .pure H (r:=.int k n) (by simp[execOp,ho,Zbm rx,convert,Zay h1,Zay h2,Conv.intToInt,Zdr h3]) (.int _ _)
   ·cases hr
  ·cases hm
 |i2f k x=>
  simp only[mop]at hm
  split at hm
  ·rename_i src dst x' ho
   simp only[Bool.and_eq_true]at hm
   obtain⟨⟨h1,h2⟩,hx⟩:=hm
   obtain⟨d,h1⟩:=ZeY h1
   have h2:=Zq9 h2
   have rx:=hρ.rel x x' hx
   simp only[Zat]at hr
   split at hr
   ·rename_i k' n hb
    rw[hb]at rx
    simp only[zS,zP,true_and]at hr
    obtain⟨rfl,rfl⟩:=hr
    exact .pure H (r:=.float k (k.nearest n)) (by simp[execOp,ho,Zbm rx,convert,Zay h1,Zay h2,Conv.intToFloat]) (.flt _ _)
   ·cases hr
  ·cases hm
 |f2i k x=>
  simp only[mop]at hm
  split at hm
  ·rename_i src dst x' ho
   simp only[Bool.and_eq_true]at hm
   obtain⟨⟨h1,h2⟩,hx⟩:=hm
   obtain⟨d,h1⟩:=ZeY h1
   have h2:=ZfS h2
   have rx:=hρ.rel x x' hx
   simp only[Zat]at hr
   split at hr
   ·rename_i q b hb
    rw[hb]at rx
    simp only[zS,zP,std_and]at hr
    obtain⟨⟨h3,h4⟩,rfl,rfl⟩:=hr
    obtain⟨n,h3⟩:=Option.isSome_iff_exists.1 h3
    rw[h3]at h4⊢
    have h3:(q.decode b).toInt .zero=some n:=h3
    have h4:k.min≤n∧n≤k.max:=of_decide_eq_true h4
    exact .pure H (r:=.int k n) (by simp[execOp,ho,Zeb rx,convert,Zay h1,Zay h2,Conv.floatToInt,h3,h4]) (.int _ _)
   ·cases hr
  ·cases hm
 |aeq ne ls x y=>
  simp only[mop]at hm
  split at hm
  ·rename_i op' t x' y' ty ho
   simp only[Bool.and_eq_true,beq_iff_eq]at hm
   obtain⟨⟨⟨h1,h2⟩,hx⟩,hy⟩:=hm
   simp only[Zat]at hr
   obtain⟨h4,rfl⟩:=ZaQ hr
   exact Zq0 H ho h1 h2 (hρ.rel x x' hx) (hρ.rel y y' hy) h4
  ·cases hm
 |idxa ln sz x i=>
  simp only[mop]at hm
  split at hm
  ·rename_i t x' i' ho
   simp only[Bool.and_eq_true]at hm
   obtain⟨⟨⟨h1,h2⟩,hx⟩,hi⟩:=hm
   obtain⟨d,ii,e1,e2,e3,e4,e5⟩:=ZcG h2
   have rx:=hρ.rel x x' hx
   have ri:=hρ.rel i i' hi
   simp only[Zat]at hr
   split at hr
   ·obtain⟨h4,rfl⟩:=ZaQ hr
    unfold ZG8 at h4
    split at h4
    ·rename_i r kd n q1 q2
     rw[q1]at rx;rw[q2]at ri
     split at h4
     ·rename_i m
      simp only[zS,zP,std_and]at h4
      obtain⟨⟨hlt,hl⟩,rfl⟩:=h4
      have hmul:Zfz std sz (Int.ofNat m)=m*sz:=by
       unfold Zfz
       split
       ·rename_i hb;have:sz=1:=by simpa using hb
        subst this;simp[std]
       ·rfl
      rw[←hmul]
      have hlt':m<ln:=by simpa using hlt
      exact Zkr H ho rx ri (Zb2 h1) e1 e3 e2 e4 (Int.natCast_nonneg m) (Int.ofNat_lt.2 hlt') (by rw[hmul];rw[Row.len_std]at hl;simpa using hl)
     ·cases h4
    ·cases h4
   split at hr
   ·rename_i r kd n q1 q2
    rw[q1]at rx;rw[q2]at ri
    simp only[zS,zP,std_and]at hr
    obtain⟨⟨⟨h0,hlt⟩,hl⟩,rfl,rfl⟩:=hr
    exact Zkr H ho (ZpT rx) ri (Zb2 h1) e1 e3 e2 e4 (by simpa[std]using h0) (by simpa[std]using hlt) (by rw[Row.len_std]at hl;rw[Zha];simpa[std]using hl)
   ·cases hr
  ·cases hm
 |mkmth f x=>
  simp only[mop]at hm
  split at hm
  ·rename_i f' x' ho
   simp only[Bool.and_eq_true,beq_iff_eq]at hm
   obtain⟨rfl,hx⟩:=hm
   simp only[Zat]at hr
   split at hr
   ·rename_i u hu
    simp only[zS,zP,true_and]at hr
    obtain⟨rfl,rfl⟩:=hr
    exact ZnP H ho (hρ.rel x x' hx) hu
   ·simp only[zS,zP,true_and]at hr
    obtain⟨rfl,rfl⟩:=hr
    exact Zme H ho (hρ.rel x x' hx)
  ·cases hm
 |capl x=>
  simp only[mop]at hm
  split at hm
  ·rename_i x' t ho
   simp only[Bool.and_eq_true]at hm
   have rx:=hρ.rel x x' hm.2
   simp only[Zat]at hr
   split at hr
   ·rename_i hq
    rw[hq]at rx
    simp only[zS,zP,true_and]at hr
    obtain⟨rfl,rfl⟩:=hr
    exact ZpP H ho (ZaK hm.1) rx
   ·cases hr
  ·cases hm
 |len x=>
  simp only[mop]at hm
  split at hm
  ·rename_i x' t ho
   simp only[Bool.and_eq_true]at hm
   have ht:=ZaK hm.1
   simp only[Zat]at hr
   split at hr
   ·rename_i b r hb
    simp only[zS,zP]at hr
    obtain⟨rfl,rfl,rfl⟩:=hr
    obtain⟨ad,n,c,hv,hn,_⟩:=Zcd H (hρ.rel x x' hm.2) hb
    rw[Row.len_std,←hn]
    exact .pure H (r:=.int .i64 n) (by simp[execOp,ho,resolve,invoke,builtin,Builtin.len_,hv,Zay ht,goInt]) (.int _ _)
   ·cases hr
  ·cases hm
 |slen x=>
  simp only[mop]at hm
  split at hm
  ·rename_i x' t ho
   simp only[Bool.and_eq_true]at hm
   have ht:=Zce hm.1
   have rx:=hρ.rel x x' hm.2
   simp only[Zat]at hr
   split at hr
   ·rename_i l hb
    rw[hb]at rx
    simp only[zS,zP,true_and]at hr
    obtain⟨rfl,rfl⟩:=hr
    have hsz:(⟨l.toArray⟩:ByteArray).size=l.length:=rfl
    exact .pure H (r:=.int .i64 l.length) (by simp[execOp,ho,resolve,invoke,builtin,Builtin.len_,Zl9 rx,Zay ht,goInt,hsz]) (.int _ _)
   ·cases hr
  ·cases hm
 |mm mx x y=>
  simp only[mop]at hm
  split at hm
  ·rename_i b x' y' ts ho
   simp only[Bool.and_eq_true,beq_iff_eq]at hm
   obtain⟨⟨rfl,hx⟩,hy⟩:=hm
   have rx:=hρ.rel x x' hx
   have ry:=hρ.rel y y' hy
   simp only[Zat]at hr
   split at hr
   ·rename_i k p k' q e1 e2
    rw[e1]at rx;rw[e2]at ry
    split at hr
    ·rename_i hk
     have:=of_decide_eq_true hk;subst this
     simp only[zS,zP,true_and]at hr
     obtain⟨rfl,rfl⟩:=hr
     exact ZuN H ho rx ry
    ·cases hr
   ·rename_i k p k' q e1 e2
    rw[e1]at rx;rw[e2]at ry
    split at hr
    ·rename_i hk
     have:=of_decide_eq_true hk;subst this
     simp only[zS,zP]at hr
     obtain⟨h1,rfl,rfl⟩:=hr
     exact Ztr H (by simpa using ho) rx ry h1
    ·cases hr
   ·cases hr
  ·cases hm
 |box a e x=>
  simp only[mop]at hm
  split at hm
  ·rename_i e' x' ho
   simp only[Bool.and_eq_true,beq_iff_eq]at hm
   obtain⟨rfl,hx⟩:=hm
   simp only[Zat,zS,zP,std_and]at hr
   obtain⟨⟨hb,hp⟩,rfl,rfl⟩:=hr
   exact Zro H ho (hρ.rel x x' hx) hb (by rw[Zbc]at hp;simpa[std]using hp)
  ·cases hm
 |alloc a e z=>
  simp only[mop]at hm
  split at hm
  ·rename_i e' ho
   simp only[Bool.and_eq_true,beq_iff_eq]at hm
   obtain⟨rfl,hm⟩:=hm
   split at hm
   ·rename_i i hi
    split at hm
    ·rename_i zv hz
     simp only[Zat,zS,zP,std_and]at hr
     obtain⟨⟨hb,hp⟩,rfl,rfl⟩:=hr
     exact Zm0 H ho hi hz hm hb (by rw[Zbc]at hp;simpa[std]using hp)
    ·cases hm
   ·cases hm
  ·cases hm
 |load ag n p=>
  simp only[mop]at hm
  split at hm
  ·rename_i t p' ho
   simp only[Bool.and_eq_true]at hm
   obtain⟨d,i,hd,hag,hi,hn,hne⟩:=ZcG hm.1
   simp only[Zat]at hr
   obtain⟨h1,rfl⟩:=ZaQ hr
   obtain⟨r,ad,e1,e2,e3⟩:=Zpy H (hρ.rel p p' hm.2) hd hag hi hn hne h1
   exact .pure H (by simp[execOp,ho,Instr.loadAt,e1,Instr.sureAddr,e2]) e3
  ·cases hm
 |store n p x=>
  simp only[mop]at hm
  split at hm
  ·rename_i t p' x' ho
   simp only[Bool.and_eq_true,Option.isNone_iff_eq_none]at hm
   obtain⟨⟨⟨hd,h1⟩,hp⟩,hx⟩:=hm
   obtain⟨i,hi,hn⟩:=ZbI h1
   simp only[Zat]at hr
   exact Ze0 H ho hd (hρ.rel p p' hp) (hρ.rel x x' hx) hi hn hr
  ·cases hm
 |stores n p x=>
  simp only[mop]at hm
  split at hm
  ·rename_i t p' x' ho
   simp only[Bool.and_eq_true,Option.isNone_iff_eq_none]at hm
   obtain⟨⟨⟨hd,h1⟩,hp⟩,hx⟩:=hm
   obtain⟨i,hi,hn⟩:=ZbI h1
   have rp:=hρ.rel p p' hp
   have rx:=hρ.rel x x' hx
   simp only[Zat]at hr
   generalize ρ x=xa at hr rx
   unfold ZnF at hr
   split at hr
   ·rename_i a j m
    split at hr
    ·rename_i e sz r hfz hb
     split at hr
     ·rename_i b v0 h2 hst
      simp only[zS,zP,std_and]at hr
      obtain⟨⟨hm,rfl⟩,rfl,rfl⟩:=hr
      have hm:m≤r.elems.length:=by rw[Row.len_std]at hm;simpa[std]using hm
      obtain⟨L',s,H',rr⟩:=H.shrink hb (Zdt hfz) hm
      obtain⟨w2,L2,x2,r1,r2,r3,r4⟩:=Ze0 H' ho hd (rp.step s) (rr _ rx) hi hn hst
      exact⟨w2,L2,x2,r1,s.trans r2,r3,r4⟩
     ·cases hr
    ·cases hr
   ·exact Ze0 H ho hd rp rx hi hn hr
  ·cases hm
 |faddr off p=>
  simp only[mop]at hm
  split at hm
  ·rename_i t p' f ho
   simp only[Bool.and_eq_true]at hm
   obtain⟨hm,hp⟩:=hm
   split at hm
   ·rename_i ft hf
    simp only[Bool.and_eq_true,Bool.not_eq_true']at hm
    obtain⟨fs,fd,f1,f2,f3,rfl⟩:=Ziz hf
    obtain⟨i,hi⟩:=Option.isSome_iff_exists.1 hm.2
    have hz:i.size≠0:=by
     intro e
     have:=hm.1
     simp[Zf0,hi,e]at this
    simp only[Zat]at hr
    obtain⟨h1,rfl⟩:=ZaQ hr
    exact ZnA H ho (hρ.rel p p' hp) f1 f2 f3 hi hz h1
   ·cases hm
  ·cases hm
 |iaddr sz x i=>
  simp only[mop]at hm
  split at hm
  ·rename_i t x' i' ho
   simp only[Bool.and_eq_true,decide_eq_true_eq]at hm
   obtain⟨⟨⟨⟨h1,h2⟩,h3⟩,hx⟩,hi⟩:=hm
   obtain⟨ii,e1,e2⟩:=ZbI h2
   simp only[Zat]at hr
   cases hs:isS i
   ·rw[hs]at hr
    obtain⟨h4,rfl⟩:=ZaQ hr
    exact Zh8 H ho (hρ.rel x x' hx) (hρ.rel i i' hi) (ZaK h1) e1 e2 h3 h4
   ·rw[hs]at hr
    obtain⟨h4,rfl⟩:=ZaQ hr
    exact Zh8 H ho (hρ.rel x x' hx) (hρ.rel i i' hi) (ZaK h1) e1 e2 h3 (Zqi h4)
  ·cases hm
 |aaddr ln sz p i=>
  simp only[mop]at hm
  split at hm
  ·rename_i t x' i' ho
   simp only[Bool.and_eq_true]at hm
   obtain⟨⟨⟨h1,h2⟩,hx⟩,hi⟩:=hm
   obtain⟨ii,e1,e2⟩:=ZbI h2
   simp only[Zat]at hr
   obtain⟨h4,rfl⟩:=ZaQ hr
   have key:∀(kd:IntKind) (m:Nat),ZaH C h' L w (.int kd (Int.ofNat m)) (ev i')→ZoR ln sz (ρ p) m=some (true,v)→Snd C h' L w ev o h' v:=fun kd m ri h4=>by
    refine Zie H ho (hρ.rel p x' hx) (ix:=.int kd (Int.ofNat m)) ri (Zb2 h1) e1 e2 ?_
    have hmul:∀n:Int,Zfz std sz n=n.toNat*sz:=fun n=>by
     unfold Zfz
     split
     ·rename_i hb;have:sz=1:=by simpa using hb
      subst this;simp[std]
     ·rfl
    unfold ZoR at h4
    unfold Zl4
    split at h4
    ·rename_i hq
     simp only[zS,zP,Nat.blt_eq]at h4
     obtain⟨g1,rfl⟩:=h4
     simp only[hmul]
     simp[std,Zag]
     exact g1
    ·rename_i hq
     simp only[zS,zP,Nat.blt_eq]at h4
     obtain⟨g1,rfl⟩:=h4
     simp only[hmul]
     simp[std,Zag]
     exact g1
    ·cases h4
   unfold Zrl at h4
   split at h4
   ·have ri:=hρ.rel i i' hi
    unfold Zv0 at h4
    split at h4
    ·rename_i kd n q
     rw[q]at ri
     split at h4
     ·exact key kd _ ri h4
     ·cases h4
    ·cases h4
   rename_i hs0
   split at h4
   ·rename_i hnn
    unfold Zv2 at hnn
    split at hnn
    ·rename_i kd n
     split at hnn
     ·rename_i m
      simp only[Zws]at h4
      have hev:ev i'=.int kd (Int.ofNat m):=by
       cases i' with
       |const v=>rw[hρ.cst];have:=hi;simp only[Za6]at this;cases v<;>simp[ZfE]at this;obtain⟨rfl,e⟩:=this;rw[←e];rfl
       |_=>simp[Za6]at hi
      exact key kd m (by rw[hev];exact .int _ _) h4
     ·cases hnn
    ·cases hnn
   ·exact Zie H ho (hρ.rel p x' hx) (hρ.rel i i' hi) (Zb2 h1) e1 e2 h4
  ·cases hm
 |idx ln x i=>
  simp only[mop]at hm
  split at hm
  ·rename_i t x' i' ho
   simp only[Bool.and_eq_true]at hm
   obtain⟨⟨⟨h1,h2⟩,hx⟩,hi⟩:=hm
   obtain⟨d,ii,e1,e2,e3,e4,e5⟩:=ZcG h2
   have rx:=hρ.rel x x' hx
   have ri:=hρ.rel i i' hi
   simp only[Zat]at hr
   split at hr
   ·obtain⟨h4,rfl⟩:=ZaQ hr
    unfold ZL3 at h4
    split at h4
    ·rename_i r kd m q1 q2
     rw[q1]at rx;rw[q2]at ri
     simp only[zS,zP,std_and]at h4
     obtain⟨⟨hlt,hl⟩,rfl⟩:=h4
     have hlt2:m<ln:=by simpa using hlt
     exact ZlN H ho rx ri (Zb2 h1) e1 e2 e3 e4 (Int.natCast_nonneg m) (by show(m:Int)<ln;omega) (by rw[Row.len_std]at hl;simpa[std]using hl)
    ·cases h4
   ·split at hr
    ·rename_i r kd n q1 q2
     rw[q1]at rx;rw[q2]at ri
     simp only[zS,zP,std_and]at hr
     obtain⟨⟨⟨h0,hlt⟩,hl⟩,rfl,rfl⟩:=hr
     exact ZlN H ho rx ri (Zb2 h1) e1 e2 e3 e4 (by simpa[std]using h0) (by simpa[std]using hlt) (by rw[Row.len_std]at hl;simpa[std]using hl)
    ·cases hr
  ·cases hm
 |sidx x i=>
  simp only[mop]at hm
  split at hm
  ·rename_i t x' i' ho
   simp only[Bool.and_eq_true]at hm
   obtain⟨⟨h1,hx⟩,hi⟩:=hm
   have rx:=hρ.rel x x' hx
   have ri:=hρ.rel i i' hi
   simp only[Zat]at hr
   split at hr
   ·rename_i l kd n q1 q2
    rw[q1]at rx;rw[q2]at ri
    simp only[zS,zP,std_and]at hr
    obtain⟨⟨h0,hlt⟩,rfl,rfl⟩:=hr
    exact ZpW H ho rx ri (Zce h1) (by simpa[std]using h0) (by simpa[std]using hlt)
   ·cases hr
  ·cases hm
 |fld ag off n x=>
  simp only[mop]at hm
  split at hm
  ·rename_i t x' f ho
   simp only[Bool.and_eq_true]at hm
   obtain⟨hm,hx⟩:=hm
   split at hm
   ·rename_i ft hf
    obtain⟨fs,fd,f1,f2,f3,rfl⟩:=Ziz hf
    obtain⟨d,i,e1,e2,e3,e4,e5⟩:=ZcG hm
    have rx:=hρ.rel x x' hx
    simp only[Zat]at hr
    split at hr
    ·rename_i r q1
     rw[q1]at rx
     obtain⟨h4,rfl⟩:=ZaQ hr
     exact ZqX H ho rx f1 f2 f3 e1 e2 e3 e4 e5 h4
    ·cases hr
   ·cases hm
  ·cases hm
 |build z parts=>
  simp only[mop]at hm
  split at hm
  ·rename_i t parts' ho
   split at hm
   ·rename_i zv place hpl
    simp only[Bool.and_eq_true]at hm
    simp only[Zat]at hr
    generalize hf:Zil std ρ z parts=res at hr
    obtain⟨b,r⟩:=res
    simp only[zS,zP]at hr
    obtain⟨rfl,rfl,rfl⟩:=hr
    exact ZnZ H hρ ho hpl hm.1 hm.2 hf
   ·cases hm
  ·cases hm
 |bslice a e sz parts=>
  simp only[mop]at hm
  split at hm
  ·rename_i t ln parts' ho
   simp only[Bool.and_eq_true,decide_eq_true_eq,beq_iff_eq]at hm
   obtain⟨⟨⟨⟨⟨h1,h2⟩,h3⟩,h4⟩,h5⟩,h6⟩:=hm
   obtain⟨i,zv,e1,e2,_,e4,_,_⟩:=Zby h2
   simp only[Zat,zS,zP]at hr
   obtain⟨hf,rfl,rfl⟩:=hr
   exact Zms H hρ ho h3 h4 (ZaK h1) e1 e4 e2 h5 h6 hf
  ·cases hm
 |mklst a e sz z ln=>
  simp only[mop]at hm
  split at hm
  ·rename_i t l' c' ho
   simp only[Bool.and_eq_true,decide_eq_true_eq,Bool.not_eq_true']at hm
   obtain⟨⟨⟨⟨⟨⟨⟨h0,h1⟩,h2⟩,h3⟩,h4⟩,h5⟩,h6⟩,h7⟩:=hm
   obtain⟨i,zv,e1,e2,e3,e4,e5,e6⟩:=Zby h2
   obtain⟨z1,z2⟩:=e6 z rfl
   have r1:=hρ.rel ln l' h6
   have r2:=hρ.rel ln c' h7
   simp only[Zat]at hr
   split at hr
   ·rename_i kd n hq
    rw[hq]at r1 r2
    split at hr
    ·rename_i hp
     simp only[zS,zP,std_and]at hr
     obtain⟨⟨g0,g1⟩,rfl,rfl⟩:=hr
     exact Zn1 (e:=e) (sz:=sz) (Zdt h0) (ZfF H ho (Zbm r1) (Zbm r2) (ZaK h1) e1 e4 z1 e2 h5 z2 e3 h4 (by simpa[std]using g0) (by simpa[std]using g1)) hp
    ·cases hr
   ·cases hr
  ·cases hm
 |mkslice a e sz z ln=>
  simp only[mop]at hm
  split at hm
  ·rename_i t l' c' ho
   simp only[Bool.and_eq_true,decide_eq_true_eq]at hm
   obtain⟨⟨⟨⟨⟨⟨h1,h2⟩,h3⟩,h4⟩,h5⟩,h6⟩,h7⟩:=hm
   obtain⟨i,zv,e1,e2,e3,e4,e5,e6⟩:=Zby h2
   obtain⟨z1,z2⟩:=e6 z rfl
   have r1:=hρ.rel ln l' h6
   have r2:=hρ.rel ln c' h7
   simp only[Zat]at hr
   split at hr
   ·rename_i kd n hq
    rw[hq]at r1 r2
    simp only[zS,zP,std_and]at hr
    obtain⟨⟨g0,g1⟩,rfl,rfl⟩:=hr
    exact ZfF H ho (Zbm r1) (Zbm r2) (ZaK h1) e1 e4 z1 e2 h5 z2 e3 h4 (by simpa[std]using g0) (by simpa[std]using g1)
   ·cases hr
  ·cases hm
 |slc sz x lo hi mx=>
  simp only[mop]at hm
  split at hm
  ·rename_i t x' lo' hi' mx' ho
   simp only[Bool.and_eq_true,decide_eq_true_eq,Bool.or_eq_true]at hm
   obtain⟨⟨⟨⟨⟨⟨⟨h1,h2⟩,h3⟩,hx⟩,hl⟩,hh⟩,hmx⟩,hmh⟩:=hm
   obtain⟨i,e1,e2⟩:=ZbI h2
   simp only[Zat]at hr
   obtain⟨h4,rfl⟩:=ZaQ hr
   exact Ztb H hρ ho (hρ.rel x x' hx) hl hh hmx hmh (ZaK h1) e1 e2 h3 h4
  ·cases hm
 |asl ln p lo hi=>
  simp only[mop]at hm
  split at hm
  ·rename_i t p' lo' hi' ho
   simp only[Bool.and_eq_true,Bool.or_eq_true]at hm
   obtain⟨⟨⟨h1,hx⟩,hl⟩,hh⟩:=hm
   simp only[Zat]at hr
   obtain⟨h4,rfl⟩:=ZaQ hr
   rcases h1 with h1 |h1
   ·obtain⟨arr,e,i,e1,e2,e3,e4⟩:=Zl3 h1
    exact ZqY H hρ ho (hρ.rel p p' hx) hl hh e1 e2 e3 e4 h4
   ·obtain⟨e,i,e1,e3,e4⟩:=Zl2 h1
    exact Zta H hρ ho (hρ.rel p p' hx) hl hh e1 e3 e4 h4
  ·cases hm
 |sslc x lo hi=>
  simp only[mop]at hm
  split at hm
  ·rename_i t p' lo' hi' ho
   simp only[Bool.and_eq_true]at hm
   obtain⟨⟨⟨h1,hx⟩,hl⟩,hh⟩:=hm
   simp only[Zat]at hr
   obtain⟨h4,rfl⟩:=ZaQ hr
   exact ZqL H hρ ho (hρ.rel x p' hx) hl hh (Zce h1) h4
  ·cases hm
 |append a e sz x y=>
  simp only[mop]at hm
  split at hm
  ·rename_i x' y' t t' ho
   simp only[Bool.and_eq_true,decide_eq_true_eq,beq_iff_eq]at hm
   obtain⟨⟨⟨⟨⟨rfl,h1⟩,h2⟩,h3⟩,hx⟩,hy⟩:=hm
   obtain⟨i,zv,e1,e2,e3,e4,e5,_⟩:=Zby h2
   simp only[Zat]at hr
   exact ZmY H ho (hρ.rel x x' hx) (hρ.rel y y' hy) (ZaK h1) e1 e4 e5 e2 h3 e3 hr
  ·cases hm
 |appz a e sz z x ln=>
  simp only[mop]at hm
  split at hm
  ·rename_i x' l' t t' ho
   simp only[Bool.and_eq_true,decide_eq_true_eq]at hm
   obtain⟨⟨⟨⟨⟨⟨⟨h1,h0⟩,h2⟩,h3⟩,h4⟩,h5⟩,hx⟩,hl⟩:=hm
   obtain⟨i,zv,e1,e2,e3,e4,e5,e6⟩:=Zby h2
   obtain⟨z1,z2⟩:=e6 z rfl
   have r1:=hρ.rel ln l' hl
   simp only[Zat]at hr
   split at h0
   ·rename_i kn htn
    split at hr
    ·rename_i kd n hq
     rw[hq]at r1
     exact ZpV H ho (hρ.rel x x' hx) (Zbm r1) (ZaK h1) htn e1 e4 z1 e5 e2 h5 e3 z2 h4 hr
    ·cases hr
   ·cases h0
  ·cases hm
 |copy sz x y=>
  simp only[mop]at hm
  split at hm
  ·rename_i x' y' t t' ho
   simp only[Bool.and_eq_true,decide_eq_true_eq,beq_iff_eq]at hm
   obtain⟨⟨⟨⟨⟨rfl,h1⟩,h2⟩,h3⟩,hx⟩,hy⟩:=hm
   obtain⟨i,e1,e2⟩:=ZbI h2
   simp only[Zat]at hr
   exact Zp1 H ho (hρ.rel x x' hx) (hρ.rel y y' hy) (ZaK h1) e1 e2 h3 hr
  ·cases hm
 |clr e sz z x=>
  simp only[mop]at hm
  split at hm
  ·rename_i x' t ho
   simp only[Bool.and_eq_true,decide_eq_true_eq]at hm
   obtain⟨⟨⟨⟨⟨h1,h2⟩,h3⟩,h4⟩,h5⟩,hx⟩:=hm
   obtain⟨i,zv,e1,e2,e3,e4,e5,e6⟩:=Zby h2
   obtain⟨z1,z2⟩:=e6 z rfl
   simp only[Zat]at hr
   exact Zsr H ho (hρ.rel x x' hx) (ZaK h1) e1 e4 e2 e5 h5 z1 h4 z2 hr
  ·cases hm
 |s2a n x=>
  simp only[mop]at hm
  split at hm
  ·rename_i t x' ho
   simp only[Bool.and_eq_true]at hm
   obtain⟨hm,hx⟩:=hm
   split at hm
   ·rename_i m e ht
    simp only[Bool.and_eq_true,beq_iff_eq,decide_eq_true_eq]at hm
    obtain⟨⟨rfl,_⟩,h0⟩:=hm
    simp only[Zat]at hr
    obtain⟨h4,rfl⟩:=ZaQ hr
    exact Zsi H ho (hρ.rel x x' hx) ht h0 h4
   ·cases hm
  ·cases hm
 |b2s x=>
  simp only[mop]at hm
  split at hm
  ·rename_i src dst x' ho
   simp only[Bool.and_eq_true]at hm
   obtain⟨⟨h1,h2⟩,hx⟩:=hm
   split at h2
   ·rename_i e hd
    have rx:=hρ.rel x x' hx
    simp only[Zat]at hr
    obtain⟨hr,rfl⟩:=ZaQ hr
    unfold ZEI at hr
    split at hr
    ·rename_i a i hq
     rw[hq]at rx
     split at hr
     ·rename_i e0 sz n hbk
      simp only[zS,zP]at hr
      obtain⟨_,rfl⟩:=hr
      exact Zrr H ho hd (ZfS h2) (Zce h1) hbk rx
     ·cases hr
    ·cases hr
   ·cases h2
  ·cases hm
 |s2b x=>
  simp only[mop]at hm
  split at hm
  ·rename_i src dst x' ho
   simp only[Bool.and_eq_true]at hm
   obtain⟨⟨h1,h2⟩,hx⟩:=hm
   split at h2
   ·rename_i e hd
    simp only[Bool.and_eq_true]at h2
    have rx:=hρ.rel x x' hx
    simp only[Zat]at hr
    split at hr
    ·rename_i s hq
     rw[hq]at rx
     simp only[zS,zP]at hr
     obtain⟨_,rfl,rfl⟩:=hr
     exact ZrE H ho (Zce h1) hd (ZfS h2.1) rx
    ·cases hr
   ·cases h2
  ·cases hm
 |inil ne x=>
  simp only[mop]at hm
  split at hm
  ·rename_i op' t x' ty ho
   simp only[Bool.and_eq_true,beq_iff_eq]at hm
   obtain⟨⟨hop,ht⟩,hx⟩:=hm
   obtain⟨ms,ht⟩:∃ms,C.P.underlying t=some (.interface ms):=by
    split at ht
    ·rename_i e he;exact⟨e,he⟩
    ·cases ht
   have rx:=hρ.rel x x' hx
   simp only[Zat]at hr
   generalize hxv:ev x'=xv at rx
   split at hr
   ·rename_i b hq
    rw[hq]at rx
    cases rx with
    |err _ _ he=>
     simp only[zS,zP,true_and]at hr
     obtain⟨rfl,rfl⟩:=hr
     refine .pure H (r:=.bool (cond ne b (!b))) ?_ (.bool _)
     subst hop
     have q:=fun v hv=>Zfo (P:=C.P) ht (b:=b) (v:=v) hv
     cases ne<;>simp[execOp,ho,hxv,hρ.cst,ZnG,Go.binOp,q _ he]
   ·cases hr
  ·cases hm
 |pnil ne x=>
  simp only[mop]at hm
  split at hm
  ·rename_i op' t x' ty ho
   simp only[Bool.and_eq_true,beq_iff_eq]at hm
   obtain⟨⟨hop,ht⟩,hx⟩:=hm
   have ht:C.P.underlying t=some (.pointer (C.P.pointee t)):=by
    split at ht
    ·rename_i e he;rw[he];simp at ht;rw[ht]
    ·cases ht
   have rx:=hρ.rel x x' hx
   have run:∀(ad:Option Addr),ev x'=.pointer ad→(execOp ev o).run C.P w=.ok (.value (.bool (match ne with |true=>!ad.isNone |false=>ad.isNone))) w:=fun ad e=>by
    subst hop
    cases ne
    ·have:=run_eql_pointer_nil (P:=C.P) w t ad ht
     simp only[Bool.false_eq_true,if_false]at ho
     simp[execOp,ho,e,hρ.cst,ZdU,this]
    ·have:=run_neq_pointer_nil (P:=C.P) w t ad ht
     simp only[if_true]at ho
     simp[execOp,ho,e,hρ.cst,ZdU,this]
   simp only[Zat]at hr
   generalize hxv:ev x'=xv at rx
   split at hr
   ·rename_i vv hq
    rw[hq]at rx
    cases rx
    split at hr
    ·rename_i ad
     split at hr
     ·simp only[zS,zP,true_and]at hr
      obtain⟨rfl,rfl⟩:=hr
      have:=run none hxv
      cases ne<;>exact .pure H this (.bool _)
     ·simp only[zS,zP,true_and]at hr
      obtain⟨rfl,rfl⟩:=hr
      have:=run (some _) hxv
      cases ne<;>exact .pure H this (.bool _)
    ·cases hr
   ·rename_i hq
    rw[hq]at rx
    simp only[zS,zP,true_and]at hr
    obtain⟨rfl,rfl⟩:=hr
    cases rx
    have:=run (some _) hxv
    cases ne<;>exact .pure H this (.bool _)
   ·rename_i hq
    rw[hq]at rx
    simp only[zS,zP,true_and]at hr
    obtain⟨rfl,rfl⟩:=hr
    cases rx
    have:=run (some _) hxv
    cases ne<;>exact .pure H this (.bool _)
   ·cases hr
  ·cases hm
 |emptyl=>
  simp only[mop]at hm
  split at hm
  ·rename_i t ln parts ho
   simp only[Bool.and_eq_true,Nat.beq_eq]at hm
   obtain⟨⟨⟨h1,h2⟩,rfl⟩,h4⟩:=hm
   obtain⟨i,zv,e1,e2,e3,e4,e5,e6⟩:=Zby h2
   simp only[Zat,zS,zP,true_and]at hr
   obtain⟨rfl,rfl⟩:=hr
   exact ZmS H ho h4 (ZaK h1) e1
  ·cases hm
 |app0 sz x y=>
  simp only[mop]at hm
  split at hm
  ·rename_i x' y' t t' ho
   simp only[Bool.and_eq_true,beq_iff_eq,decide_eq_true_eq]at hm
   obtain⟨⟨⟨⟨⟨rfl,h1⟩,h2⟩,h3⟩,hx⟩,hy⟩:=hm
   obtain⟨i,zv,e1,e2,e3,e4,e5,e6⟩:=Zby h2
   simp only[Zat]at hr
   obtain⟨h5,rfl⟩:=ZaQ hr
   exact ZpZ H ho (hρ.rel x x' hx) (hρ.rel y y' hy) (ZaK h1) e1 e4 e2 e3 h5
  ·cases hm
 |mkrefs b e sz a s ln=>
  simp only[mop]at hm
  split at hm
  ·rename_i t l' c' ho
   simp only[Bool.and_eq_true]at hm
   obtain⟨⟨⟨⟨h1,h2⟩,h4⟩,h5⟩,h6⟩:=hm
   have h4:0<sz:=by simpa using h4
   obtain⟨i,zv,e1,e2,e3,e4,e5,e6⟩:=Zby h2
   obtain⟨z1,z2⟩:=e6 _ rfl
   have r1:=hρ.rel ln l' h5
   have r2:=hρ.rel ln c' h6
   simp only[Zat]at hr
   split at hr
   ·rename_i kd n ie isz r0 hln hnf hsy hab
    simp only[zS,zP,std_and]at hr
    obtain⟨⟨g0,g1,g2⟩,rfl,rfl⟩:=hr
    rw[hln]at r1 r2
    exact ZmU H hnf hsy (fun e=>by subst e;simp at hab) (by simpa using g2) ho (Zbm r1) (Zbm r2) (ZaK h1) e1 e4 z1 e2 h4 z2 e3 (by simpa[std]using g0) (by simpa[std]using g1)
   ·cases hr
  ·cases hm
 |mkmap a=>
  simp only[mop]at hm
  split at hm
  ·rename_i t ho
   simp only[Zat,zS,zP,true_and]at hr
   obtain⟨rfl,rfl⟩:=hr
   exact ZnB H ho
  ·cases hm
 |mlook x k=>
  simp only[mop]at hm
  split at hm
  ·rename_i t x' k' ho
   simp only[Bool.and_eq_true]at hm
   obtain⟨⟨h1,hx⟩,hk⟩:=hm
   simp only[Zat]at hr
   obtain⟨h2,rfl⟩:=ZaQ hr
   exact Zne H ho h1 (hρ.rel x x' hx) (hρ.rel k k' hk) h2
  ·cases hm
 |mupd x k=>
  simp only[mop]at hm
  split at hm
  ·rename_i t x' k' ho
   simp only[Bool.and_eq_true]at hm
   obtain⟨⟨⟨hd,h1⟩,hx⟩,hk⟩:=hm
   simp only[Zat]at hr
   split at hr
   ·rename_i a j s hq1 hq2
    split at hr
    ·rename_i ks hb
     simp only[zS,zP]at hr
     obtain⟨hn,rfl,rfl⟩:=hr
     exact Zp9 H ho (hρ.cst _) (by simpa using hd) h1 (hρ.rel x x' hx) (hρ.rel k k' hk) hq1 hq2 hb (by simpa[std]using hn)
    ·cases hr
   ·cases hr
  ·cases hm
 |nilck x=>
  simp only[mop]at hm
  split at hm
  ·rename_i x' ho
   have rx:=hρ.rel x x' hm
   simp only[Zat]at hr
   generalize hxv:ev x'=xv at rx
   split at hr
   ·rename_i a i k q hq
    rw[hq]at rx
    simp only[zS,zP,true_and]at hr
    obtain⟨rfl,rfl⟩:=hr
    cases rx with
    |ptr _ _ _ _ g oo hl=>exact .pure H (by simp[execOp,ho,hxv]) (.ptr _ _ _ _ _ _ hl)
   ·rename_i u q hq
    rw[hq]at rx
    simp only[zS,zP,true_and]at hr
    obtain⟨rfl,rfl⟩:=hr
    obtain⟨ad,cs,e1,_⟩:=ZkU rx
    subst e1
    exact .pure H (by simp[execOp,ho,hxv]) rx
   ·cases hr
  ·cases hm
 |ext i x=>
  simp only[mop]at hm
  split at hm
  ·rename_i x' i' ho
   simp only[Bool.and_eq_true,beq_iff_eq]at hm
   obtain⟨rfl,hx⟩:=hm
   have rx:=hρ.rel x x' hx
   simp only[Zat]at hr
   split at hr
   ·rename_i xs hq
    rw[hq]at rx
    split at hr
    ·rename_i u hu
     simp only[zS,zP,true_and]at hr
     obtain⟨rfl,rfl⟩:=hr
     exact ZsY H ho rx hu
    ·cases hr
   ·cases hr
  ·cases hm
 |mkfn f caps=>
  simp only[mop]at hm
  split at hm
  ·rename_i f' caps' ho
   simp only[Bool.and_eq_true,beq_iff_eq]at hm
   obtain⟨rfl,hm⟩:=hm
   simp only[Zat,zS,zP,true_and]at hr
   obtain⟨rfl,rfl⟩:=hr
   exact ZqG H hρ ho hm
  ·cases hm
 |ncall |ncallv |icall |icallv=>cases hr
end
end Go.Proofs.YtkeoeooghhjibaaGreatDoor
