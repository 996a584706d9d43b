/- Structs and arrays of plain cells, compared. No condition. -/
import Derived.Test.YtjhdnpmojhkbjaaXi
import Derived.Laws.StructEq
namespace Go.Proofs.Ytjhdnpmojhkbjaa
open Go.RowKit (Below)
section
variable {C:Ctx}{o:Oper}{ρ:Opd→AV}{ev:Operand→Value}{h h':Zaa}{w w':World}{L:Lay}{v:AV}{P:Program}
def Zl4:Lf→Value→Value→Option Bool
 | .i, .int k a, .int k' b=>if k=k' then some (a==b)else none
 | .b, .bool a, .bool b=>some (a==b)
 | .s, .string a, .string b=>some (a.toList==b.toList)
 |_,_,_=>none
def ZaT:List Lf→List Value→List Value→Option Bool
 |[],[],[]=>some true
 |l::ls,x::xs,y::ys=>match Zl4 l x y,ZaT ls xs ys with |some a,some b=>some (a&&b) |_,_=>none
 |_,_,_=>none
theorem ZeX:∀ {ls:List Lf} {xs ys:List Value} {b:Bool},ZaT ls xs ys=some b→xs.length=ls.length∧ys.length=ls.length
 |[],[],[],_,_=>⟨rfl,rfl⟩
 |[],[],_::_,_,e=>by simp[ZaT]at e
 |[],_::_,_,_,e=>by simp[ZaT]at e
 |_::_,[],_,_,e=>by simp[ZaT]at e
 |_::_,_::_,[],_,e=>by simp[ZaT]at e
 |l::ls,x::xs,y::ys,b,e=>by
  simp only[ZaT]at e
  split at e
  ·rename_i a c h1 h2
   have:=ZeX h2
   simp[this.1,this.2]
  ·cases e
theorem Zgi:∀ {l1 l2:List Lf} {xs ys:List Value} {b:Bool},ZaT (l1++l2) xs ys=some b→
 ∃b1 b2,ZaT l1 (xs.take l1.length) (ys.take l1.length)=some b1∧ZaT l2 (xs.drop l1.length) (ys.drop l1.length)=some b2∧b=(b1&&b2)
 |[],l2,xs,ys,b,e=>⟨true,b,by simp[ZaT],by simpa using e,by simp⟩
 |l::l1,l2,[],ys,b,e=>by simp[ZaT]at e
 |l::l1,l2,x::xs,[],b,e=>by simp[ZaT]at e
 |l::l1,l2,x::xs,y::ys,b,e=>by
  simp only[List.cons_append,ZaT]at e
  split at e
  ·rename_i a c h1 h2
   obtain⟨b1,b2,e1,e2,rfl⟩:=Zgi h2
   simp only[Option.some.injEq]at e
   refine⟨a&&b1,b2,?_,by simpa using e2,by rw[←e,Bool.and_assoc]⟩
   simp only[List.length_cons,List.take_succ_cons,ZaT,h1,e1]
  ·cases e
def asV(ag:Bool)(vs:List Value):Value:=if ag then .agg vs.toArray else vs.getD 0 undef
def ZOj(P:Program)(t:TypeId)(ls:List Lf)(d:Nat):Prop:=
 ∃td i,P.underlying t=some td∧P.info? t=some i∧i.size=ls.length∧(ZaR td=false→ls.length=1)∧
  ∀D,d≤D→∀vs us b,ZaT ls vs us=some b→∀w,(Op.equalIn D t (asV (ZaR td) vs) (asV (ZaR td) us)).run P w=.ok b w
theorem ZhD{t:TypeId}{td:TypeDesc}{i:TypeInfo}{ls:List Lf}(ht:P.underlying t=some td)(hi:P.info? t=some i)(hs:i.size=ls.length)(h1:ZaR td=false→ls.length=1)
 {VS:List Value} {off:Nat} (hl:off+ls.length≤VS.length) (w:World):(part t VS.toArray off).run P w=.ok (asV (ZaR td) ((VS.drop off).take ls.length)) w:=by
 rw[ZhI ht rfl hi hs h1 (by simpa using hl)]
 unfold asV
 cases hag:ZaR td with
 |true=>simp
 |false=>
  have:=h1 hag
  simp only[Bool.false_eq_true,if_false,this]
  simp[List.getD_eq_getElem?_getD]
theorem Zln{d D:Nat}(hD:d≤D)(IH:∀t ls,Zfy P d t=some ls→ZOj P t ls d):∀(fs:List Field) (off:Nat) (ls:List Lf),ZfT (Zfy P d) off fs=some ls→
 ∀(VS US:List Value) (b:Bool),ZaT ls (VS.drop off) (US.drop off)=some b→off≤VS.length→off≤US.length→∀w,(Op.eqFields D VS.toArray US.toArray fs).run P w=.ok b w
 |[],off,ls,hl,VS,US,b,hv,_,_,w=>by
  simp only[ZfT,Option.some.injEq]at hl
  subst hl
  have:b=true:=by
   cases h1:VS.drop off<;>cases h2:US.drop off<;>rw[h1,h2]at hv<;>simp[ZaT]at hv
   exact hv
  subst this
  simp[Op.eqFields]
 |f::fs,off,ls,hl,VS,US,b,hv,h1,h2,w=>by
  simp only[ZfT]at hl
  split at hl
  ·rename_i hn ho
   split at hl
   ·rename_i l hlf
    split at hl
    ·rename_i r hr
     simp only[Option.some.injEq]at hl
     subst hl
     obtain⟨td,i,e1,e2,e3,e4,e5⟩:=IH _ _ hlf
     obtain⟨b1,b2,g1,g2,rfl⟩:=Zgi hv
     have hoff:f.offset=off:=by simpa using ho
     have hlen:=ZeX hv
     simp only[List.length_drop,List.length_append]at hlen
     have p1:=ZhD e1 e2 e3 e4 (VS:=VS) (off:=off) (by omega)
     have p2:=ZhD e1 e2 e3 e4 (VS:=US) (off:=off) (by omega)
     have hne : f.name ≠ "_" := by simpa using hn
     have ih:=Zln hD IH fs (off+l.length) r hr VS US b2 (by simpa[List.drop_drop]using g2) (by omega) (by omega)
     simp only[Op.eqFields,hne,ne_eq,not_false_eq_true,if_true,hoff,Sem.run_bind,p1,p2,Result.andThen_ok,e5 D hD _ _ _ g1]
     cases b1
     ·simp
     ·simp only[Bool.not_true,Bool.false_eq_true,if_false,Bool.true_and]
      exact ih w
    ·cases hl
   ·cases hl
  ·cases hl
theorem ZpA{l:List Lf} :∀(n:Nat) {xs ys:List Value} {b:Bool},ZaT (List.replicate (n+1) l).flatten xs ys=some b→
 ∃b1 b2,ZaT l (xs.take l.length) (ys.take l.length)=some b1∧ZaT (List.replicate n l).flatten (xs.drop l.length) (ys.drop l.length)=some b2∧b=(b1&&b2):=fun n=>by
 intro xs ys b e
 rw[List.replicate_succ,List.flatten_cons]at e
 exact Zgi e
theorem Zoz{e:TypeId}{td:TypeDesc}{i:TypeInfo}{l:List Lf}{D:Nat}(e1:P.underlying e=some td)(e2:P.info? e=some i)(e3:i.size=l.length)(e4:ZaR td=false→l.length=1)
 (e5:∀vs us b,ZaT l vs us=some b→∀w,(Op.equalIn D e (asV (ZaR td) vs) (asV (ZaR td) us)).run P w=.ok b w) {VS US:List Value} :
 ∀(n s:Nat) (b:Bool),ZaT (List.replicate n l).flatten (VS.drop (s*l.length)) (US.drop (s*l.length))=some b→(s+n)*l.length≤VS.length→(s+n)*l.length≤US.length→∀w,
 ((forIn (List.range' s n) ((none,()):Option Bool×Unit) (fun j _=>do
    let a ←part e VS.toArray (j*i.size)
    let c ←part e US.toArray (j*i.size)
    let r ←Op.equalIn D e a c
    if(!r)=true then pure (.done (some false,()))else pure (.yield (none,()))):Sem _).run P w)=.ok (if b then(none,())else(some false,())) w
 |0,s,b,hv,_,_,w=>by
  have:b=true:=by
   simp only[List.replicate_zero,List.flatten_nil]at hv
   cases h1:VS.drop (s*l.length)<;>cases h2:US.drop (s*l.length)<;>rw[h1,h2]at hv<;>simp[ZaT]at hv
   exact hv
  subst this
  simp
 |n+1,s,b,hv,g1,g2,w=>by
  obtain⟨b1,b2,q1,q2,rfl⟩:=ZpA n hv
  have hs:s*l.length+l.length≤(s+(n+1))*l.length:=by
   have:(s+(n+1))*l.length=s*l.length+l.length+n*l.length:=by simp[Nat.add_mul];omega
   omega
  have p1:=ZhD e1 e2 e3 e4 (VS:=VS) (off:=s*l.length) (by omega)
  have p2:=ZhD e1 e2 e3 e4 (VS:=US) (off:=s*l.length) (by omega)
  have ih:=Zoz e1 e2 e3 e4 e5 (VS:=VS) (US:=US) n (s+1) b2 (by rw[Nat.add_mul,Nat.one_mul];simpa[List.drop_drop]using q2) (by rw[show s+1+n=s+(n+1) by omega];exact g1) (by rw[show s+1+n=s+(n+1) by omega];exact g2)
  rw[List.range'_succ,List.forIn_cons]
  simp only[Sem.run_bind,e3,p1,p2,Result.andThen_ok,e5 _ _ _ q1]
  cases b1
  ·simp
  ·simp only[Bool.not_true,Bool.false_eq_true,if_false,Sem.run_pure,Result.andThen_ok,Bool.true_and]
   rw[e3]at ih
   exact ih w
theorem Zio:∀(d:Nat) (t:TypeId) (ls:List Lf),Zfy P d t=some ls→ZOj P t ls d
 |0,t,ls,hl=>by simp[Zfy]at hl
 |d+1,t,ls,hl=>by
  simp only[Zfy]at hl
  split at hl
  ·rename_i td i ht hi
   split at hl
   ·rename_i ls' hlt
    split at hl
    ·rename_i hsz
     simp only[Option.some.injEq]at hl
     subst hl
     have hsz:i.size=ls'.length:=by simpa using hsz
     have one:∀ {l:Lf} {D:Nat} {vs us:List Value} {b:Bool},ZaT [l] vs us=some b→∃x y,vs=[x]∧us=[y]∧Zl4 l x y=some b:=by
      intro l D vs us b e
      have:=ZeX e
      match vs,us,this with
      |[x],[y],_=>
       refine⟨x,y,rfl,rfl,?_⟩
       simp only[ZaT]at e
       split at e
       ·rename_i a c q1 q2
        simp only[Option.some.injEq]at q2 e
        subst q2
        rw[q1,←e,Bool.and_true]
       ·cases e
     unfold ZrO at hlt
     split at hlt
     ·rename_i k
      cases hlt
      refine⟨_,i,ht,hi,hsz,fun _=>rfl,fun D hD vs us b hv w=>?_⟩
      obtain⟨D',rfl⟩:∃D',D=D'+1:=⟨D-1,by omega⟩
      obtain⟨x,y,rfl,rfl,hxy⟩:=one (D:=D') hv
      unfold Zl4 at hxy
      split at hxy<;>(try cases hxy)
      ·rename_i k1 a k2 b2 he
       split at hxy
       ·rename_i hk
        subst hk
        simp only[Option.some.injEq]at hxy
        subst hxy
        simp only[asV,ZaR,Bool.false_eq_true,if_false,List.getD_cons_zero]
        exact run_equalIn_int w D' t k1 k a b2 ht
       ·cases hxy
      ·rename_i he;cases he
      ·rename_i he;cases he
     ·cases hlt
      refine⟨_,i,ht,hi,hsz,fun _=>rfl,fun D hD vs us b hv w=>?_⟩
      obtain⟨D',rfl⟩:∃D',D=D'+1:=⟨D-1,by omega⟩
      obtain⟨x,y,rfl,rfl,hxy⟩:=one (D:=D') hv
      unfold Zl4 at hxy
      split at hxy<;>(try cases hxy)
      ·rename_i he;cases he
      ·simp only[asV,ZaR,Bool.false_eq_true,if_false,List.getD_cons_zero]
       exact run_equalIn_bool w D' t _ _ ht
      ·rename_i he;cases he
     ·cases hlt
      refine⟨_,i,ht,hi,hsz,fun _=>rfl,fun D hD vs us b hv w=>?_⟩
      obtain⟨D',rfl⟩:∃D',D=D'+1:=⟨D-1,by omega⟩
      obtain⟨x,y,rfl,rfl,hxy⟩:=one (D:=D') hv
      unfold Zl4 at hxy
      split at hxy<;>(try cases hxy)
      ·rename_i he;cases he
      ·rename_i he;cases he
      ·simp only[asV,ZaR,Bool.false_eq_true,if_false,List.getD_cons_zero]
       exact run_equalIn_string w D' t _ _ ht
     ·rename_i fs
      split at hlt
      ·cases hlt
      ·rename_i hst
       have hfo:P.fieldsOf t=fs:=by simp only[Program.fieldsOf,ht]
       refine⟨_,i,ht,hi,hsz,fun e=>(by cases e),fun D hD vs us b hv w=>?_⟩
       obtain⟨D',rfl⟩:∃D',D=D'+1:=⟨D-1,by omega⟩
       simp only[asV,ZaR,if_true]
       rw[run_equalIn_struct w D' t _ _ (by rw[hfo];exact ht) hst,hfo]
       exact Zln (d:=d) (by omega) (fun t ls hh=>Zio d t ls hh) fs.toList 0 ls' hlt vs us b (by simpa using hv) (Nat.zero_le _) (Nat.zero_le _) w
     ·rename_i n e
      split at hlt
      ·rename_i l hle
       simp only[Option.some.injEq]at hlt
       subst hlt
       obtain⟨te,ie,e1,e2,e3,e4,e5⟩:=Zio d e l hle
       refine⟨_,i,ht,hi,hsz,fun e=>(by cases e),fun D hD vs us b hv w=>?_⟩
       obtain⟨D',rfl⟩:∃D',D=D'+1:=⟨D-1,by omega⟩
       have hlen:=ZeX hv
       have hfl:(List.replicate n l).flatten.length=n*l.length:=by simp
       rw[hfl]at hlen
       have key:=Zoz e1 e2 e3 e4 (fun vs us b hv w=>e5 D' (by omega) vs us b hv w) (VS:=vs) (US:=us) n 0 b (by simpa using hv) (by simp[hlen.1]) (by simp[hlen.2]) w
       simp only[asV,ZaR,if_true]
       simp only[Op.equalIn,Sem.run_bind,run_underlying ht,Result.andThen_ok,Zbp e2,Std.Legacy.Range.forIn_eq_forIn_range']
       have hsz0:([:n]:Std.Legacy.Range).size=n:=by simp[Std.Legacy.Range.size]
       rw[hsz0]
       erw [key]
       cases b<;>simp
      ·cases hlt
     ·cases hlt
    ·cases hl
   ·cases hl
  ·cases hl
theorem ZkO:∀ {a b:List Lf},ZHo a b=true→a=b
 |[],[],_=>rfl
 | .i::l, .i::m,e=>by rw[ZkO (a:=l) (b:=m) e]
 | .b::l, .b::m,e=>by rw[ZkO (a:=l) (b:=m) e]
 | .s::l, .s::m,e=>by rw[ZkO (a:=l) (b:=m) e]
 |[],_::_,e=>by cases e
 |x::_,[],e=>by cases x<;>cases e
 | .i::_, .b::_,e=>by cases e
 | .i::_, .s::_,e=>by cases e
 | .b::_, .i::_,e=>by cases e
 | .b::_, .s::_,e=>by cases e
 | .s::_, .i::_,e=>by cases e
 | .s::_, .b::_,e=>by cases e
theorem ZsJ{ok:Nat→Prop}{l:Lf}{x y:AV}{a b:Value}{c:Bool}(hl:ZIp l x=true)(he:eqC std x y=some c)(rx:Rel w ok h L x a)(ry:Rel w ok h L y b):Zl4 l a b=some c:=by
 unfold eqC at he
 split at he
 ·rename_i k m k' n
  split at he
  ·rename_i hk
   have hk:=of_decide_eq_true hk
   subst hk
   cases rx;cases ry
   cases l<;>simp[ZIp]at hl
   simp only[Option.some.injEq]at he
   subst he
   simp only[Zl4,if_true,std]
   rfl
  ·cases he
 ·cases rx;cases ry
  cases l<;>simp[ZIp]at hl
  exact he
 ·cases rx;cases ry
  cases l<;>simp[ZIp]at hl
  simp only[Option.some.injEq]at he
  subst he
  simp only[Zl4,ByteArray.toList_eq,std]
 ·cases he
theorem Zou{ok:Nat→Prop} :∀ {ls:List Lf} {xs ys:List AV} {vs us:List Value} {c:Bool},ZuW std ls xs ys=some c→RelL w ok h L xs vs→RelL w ok h L ys us→ZaT ls vs us=some c
 |[],[],[],vs,us,c,he,rx,ry=>by
  have e1:=rx.1;have e2:=ry.1
  cases vs<;>simp at e1
  cases us<;>simp at e2
  exact he
 |[],[],_::_,_,_,_,he,_,_=>by simp[ZuW]at he
 |[],_::_,_,_,_,_,he,_,_=>by simp[ZuW]at he
 |_::_,[],_,_,_,_,he,_,_=>by simp[ZuW]at he
 |_::_,_::_,[],_,_,_,he,_,_=>by simp[ZuW]at he
 |l::ls,x::xs,y::ys,vs,us,c,he,rx,ry=>by
  have e1:=rx.1;have e2:=ry.1
  cases vs with
  |nil=>simp at e1
  |cons v vs=>
   cases us with
   |nil=>simp at e2
   |cons u us=>
    have rx0:=rx.2 0 x v rfl rfl
    have ry0:=ry.2 0 y u rfl rfl
    have rx1:RelL w ok h L xs vs:=⟨by simpa using e1,fun j a b ha hb=>rx.2 (j+1) a b (by simpa using ha) (by simpa using hb)⟩
    have ry1:RelL w ok h L ys us:=⟨by simpa using e2,fun j a b ha hb=>ry.2 (j+1) a b (by simpa using ha) (by simpa using hb)⟩
    unfold ZuW at he
    split at he
    ·rename_i hl
     split at he
     ·rename_i a ha
      split at he
      ·simp only[Option.some.injEq]at he
       subst he
       have g1:=rx1.1;have g2:=ry1.1
       cases vs<;>simp at g1
       cases us<;>simp at g2
       simp only[ZaT,ZsJ hl ha rx0 ry0,Bool.and_true]
      ·cases he
     ·rename_i a ha _
      split at he
      ·rename_i b hb
       simp only[Option.some.injEq]at he
       subst he
       simp only[ZaT,ZsJ hl ha rx0 ry0,Zou hb rx1 ry1]
       cases a<;>rfl
      ·cases he
     ·cases he
    ·cases he
theorem ZjX{n:Nat}{r:Row}(hb:(Zh9 std n r).1=true):(Zh9 std n r).2=r.elems:=by
 unfold Zh9 at hb⊢
 split at hb
 ·rfl
 ·rename_i hne
  have hl:r.elems.length=n:=by simp only[Row.len_std]at hb;simpa[std]using hb
  apply List.ext_getElem?
  intro j
  rw[List.getElem?_map]
  by_cases hj:j<n
  ·rw[List.getElem?_range hj]
   simp only[Option.map_some]
   exact(Row.get_std (by omega)).symm
  ·rw[List.getElem?_eq_none (by simp;omega),List.getElem?_eq_none (by omega)]
   rfl
theorem Znn{op:BinOp}{t:TypeId}{x y:Operand}{a b:Array Value}(hg:P.eqGuardType P.depth t=false)(w:World):(eqGuard op t x y (.agg a) (.agg b)).run P w=.ok () w:=by
 cases op<;>simp[eqGuard,hg]
theorem ZrK(H:HRel C h L w){ne:Bool}{op:BinOp}{t ty:TypeId}{ls:List Lf}{x y:AV}{x' y':Operand}(ho:o.op=.binOp op t x' y' ty)(hop:op=if ne then .neq else .eql)
 (hm:ZJ7 C.P t ls=true) (rx:ZaB C h L w x (ev x')) (ry:ZaB C h L w y (ev y')) (hv:ZMJ std ne ls x y=some (true,v)):Snd C h L w ev o h v:=by
 unfold ZJ7 at hm
 simp only[Bool.and_eq_true,Bool.not_eq_true']at hm
 obtain⟨⟨hg,ha⟩,hl⟩:=hm
 split at hl
 ·rename_i l hlv
  have:=ZkO hl
  subst this
  obtain⟨td,i,e1,e2,e3,e4,e5⟩:=Zio 8 t l hlv
  rw[e1]at ha
  simp only at ha
  unfold ZMJ at hv
  split at hv
  ·rename_i r s
   split at hv
   ·rename_i b hb
    simp only[Option.some.injEq,Prod.mk.injEq,std_and]at hv
    obtain⟨⟨g1,g2⟩,rfl⟩:=hv
    rw[ZjX g1,ZjX g2]at hb
    obtain⟨vs,h1,h2,_⟩:=ZhQ rx
    obtain⟨us,h3,h4,_⟩:=ZhQ ry
    have hve:=Zou hb h2 h4
    have e:∀w,(Op.equal t (.agg vs) (.agg us)).run C.P w=.ok b w:=fun w=>by
     have:=e5 10000 (by omega) _ _ _ hve w
     simp only[ha,asV,if_true]at this
     exact this
    refine .pure H (r:=.bool (if ne then !b else b)) ?_ (by cases ne<;>exact .bool _)
    subst hop
    cases ne<;>simp[execOp,ho,h1,h3,Znn hg,Go.binOp,e]
   ·cases hv
  ·cases hv
 ·cases hl
theorem Zpr(H:HRel C h L w){t e:TypeId}{x':Operand}(ho:o.op=.call { callee:=.builtin .cap,args:= #[x'],argTypes:= #[t] })(ht:C.P.underlying t=some (.slice e))(rx:ZaB C h L w .nils (ev x')):Snd C h L w ev o h (.int .i64 0):=by
 have hx:ev x'=.slice none 0 0:=by
  generalize ev x'=q at rx
  cases rx with |nils=>rfl
 refine .pure H (r:=.int .i64 0) ?_ (.int _ _)
 simp[execOp,ho,resolve,invoke,builtin,Builtin.cap_,hx,Zay ht,goInt]
theorem Zpj(H:HRel C h L w){t e:TypeId}{d:TypeDesc}{i:TypeInfo}{ln sz:Nat}{r:Row}{kd:IntKind}{n:Int}{x' ix':Operand}(ho:o.op=.index t x' ix')(rx:ZaB C h L w (.agg r) (ev x'))(ri:ZaB C h L w (.int kd n) (ev ix'))
 (ht:C.P.underlying t=some (.array ln e)) (hd:C.P.underlying e=some d) (hi:C.P.info? e=some i) (hag:ZaR d=true) (hn:i.size=sz)
 (h0:0≤n) (hlt:n<(ln:Int)) (hl:Zhx std sz n+sz≤r.elems.length):Snd C h L w ev o h (.agg (r.sub std (Zhx std sz n) sz)):=by
 have hsc:Zhx std sz n=n.toNat*sz:=by
  unfold Zhx
  split
  ·rename_i hb;have:sz=1:=by simpa using hb
   subst this;simp[std]
  ·rfl
 rw[hsc]at hl⊢
 obtain⟨vs,hxv,hr,h1⟩:=ZhQ rx
 have hp:=ZhI (P:=C.P) (w:=w) (vs:=vs) (off:=n.toNat*sz) hd hag hi hn (fun h=>by cases h) (by have:=hr.1;simp at this;omega)
 simp only[if_true]at hp
 refine .pure H (r:=.agg ((vs.toList.drop (n.toNat*sz)).take sz).toArray) ?_ ?_
 ·simp only[execOp,ho,Instr.index,Sem.run_bind,Zbh ri,asIntOf,Sem.run_pure,Result.andThen_ok,Zay ht,hxv,h0,hlt,and_self,if_true,Zbp hi,hn,hp]
 ·have hq:=hr.part (n.toNat*sz) sz
  refine .agg _ _ rfl _ ?_ (fun v hv=>h1 v ?_) ?_
  ·rw[Row.sub_std];simpa[sub3]using hq.1
  ·have hv:v∈((vs.toList.drop (n.toNat*sz)).take sz):=by simpa using hv
   exact Array.mem_toList_iff.1 (List.mem_of_mem_drop (List.mem_of_mem_take hv))
  ·intro j u v hu hv
   rw[Row.sub_std]at hu
   exact hq.2 j u v hu (by simpa using hv)
theorem Zfn{k:IntKind} :∀ {xs:List AV} {l:List Int},Ze9 k xs=some l→l.map (.int k)=xs
 |[],l,h=>by simp only[Ze9,Option.some.injEq]at h;subst h;rfl
 |x::xs,l,h=>by
  cases x with
  |int k' n=>
   simp only[Ze9]at h
   split at h
   ·rename_i hk
    split at h
    ·rename_i m hm
     simp only[Option.some.injEq]at h
     subst h
     rw[List.map_cons,Zfn hm,of_decide_eq_true hk]
    ·cases h
   ·cases h
  |_=>simp[Ze9]at h
theorem Zhl(r:Row):r.toInts.elems=r.elems:=by
 unfold Row.toInts
 split
 ·rename_i k n t
  split
  ·rename_i l hl
   simp[Row.elems,Zfn hl]
  ·rfl
 ·rfl
theorem ZpO{r:Row}{x:Value}(rx:ZaB C h L w (.agg r) x):ZaB C h L w (.agg r.toInts) x:=by
 obtain⟨vs,rfl,hr,h1⟩:=ZhQ rx
 exact .agg _ r.elems (Zhl r).symm _ (by simpa using hr.1) h1 (fun j u v hu hv=>hr.2 j u v hu (by simpa using hv))
theorem Zlj{ok:Nat→Prop} :∀ {xs:List AV} {l vs:List Value},Zo2 xs=some l→RelL w ok h L xs vs→vs=l
 |[],l,vs,hv,hr=>by
  simp only[Zo2,Option.some.injEq]at hv
  subst hv
  have:=hr.1
  cases vs<;>simp at this
  rfl
 |x::xs,l,vs,hv,hr=>by
  cases x with
  |int k n=>
   simp only[Zo2]at hv
   split at hv
   ·rename_i l' hl
    simp only[Option.some.injEq]at hv
    subst hv
    cases vs with
    |nil=>have:=hr.1;simp at this
    |cons v vs=>
     have h0:=hr.2 0 _ v rfl rfl
     cases h0
     have ht:=Zlj hl (vs:=vs) ⟨by have:=hr.1;simpa using this,fun j a b ha hb=>hr.2 (j+1) a b (by simpa using ha) (by simpa using hb)⟩
     rw[ht]
   ·cases hv
  |_=>simp[Zo2]at hv
theorem Zsb{ok:Nat→Prop}{x:AV}{u v:Value}(hu:ZuC x=some u)(hr:Rel w ok h L x v):v=u:=by
 unfold ZuC at hu
 split at hu
 ·cases hu;cases hr;rfl
 ·rename_i xs
  split at hu
  ·rename_i l hl
   simp only[Option.some.injEq]at hu
   subst hu
   cases hr with
   |agg _ ys hy vs h1 h2 h3=>
    simp only[Row.elems]at hy
    subst hy
    have:=Zlj (vs:=vs.toList) hl ⟨by simpa using h1,fun j a b ha hb=>h3 j a b ha (by simpa using hb)⟩
    rw[←this]
  ·cases hu
 ·rename_i k l
  simp only[Option.some.injEq]at hu
  subst hu
  cases hr with
  |agg _ ys hy vs h1 h2 h3=>
   simp only[Row.elems]at hy
   subst hy
   congr 1
   apply Array.ext'
   apply List.ext_getElem?
   intro j
   simp only[List.getElem?_map]
   cases hj:l[j]? with
   |none=>
    have:l.length≤j:=by simpa using hj
    simp only[Option.map_none]
    exact List.getElem?_eq_none (by simp at h1;simp;omega)
   |some n=>
    have hlt:=(List.getElem?_eq_some_iff.1 hj).1
    have hv:vs[j]? =some (vs[j]'(by simp at h1;omega)):=Array.getElem?_eq_getElem _
    have:=h3 j (.int k n) _ (by simp[hj]) hv
    generalize vs[j]'(by simp at h1;omega)=q at this hv
    cases this
    simp only[Option.map_some]
    rw[←hv];simp
 ·cases hu
theorem Zjp{ok:Nat→Prop} :∀ {l:List Value} {xs:List AV},Zfl l=some xs→RelL w ok h L xs l∧∀v∈l,v.oneCell'=true
 |[],xs,hv=>by
  simp only[Zfl,Option.some.injEq]at hv
  subst hv
  exact⟨RelL.nil,by simp⟩
 |v::l,xs,hv=>by
  cases v with
  |int k n=>
   simp only[Zfl]at hv
   split at hv
   ·rename_i l' hl
    simp only[Option.some.injEq]at hv
    subst hv
    obtain⟨g1,g2⟩:=Zjp hl
    exact⟨RelL.cons (.int _ _) g1,by intro v hv;rcases List.mem_cons.1 hv with rfl |hv;· rfl
                                     ·exact g2 v hv⟩
   ·cases hv
  |_=>simp[Zfl]at hv
theorem Zto{ok:Nat→Prop}{u:AV}{v:Value}(hu:ZJQ v=some u):Rel w ok h L u v:=by
 unfold ZJQ at hu
 split at hu
 ·cases hu;exact .int _ _
 ·rename_i l
  split at hu
  ·rename_i xs hx
   simp only[Option.some.injEq]at hu
   subst hu
   obtain⟨g1,g2⟩:=Zjp (w:=w) (h:=h) (L:=L) (ok:=ok) hx
   exact .agg _ _ rfl ⟨l⟩ (by simpa[Row.elems]using g1.1) (fun v hv=>g2 v (by simpa using hv)) (fun j a b ha hb=>g1.2 j a b ha (by simpa using hb))
  ·cases hu
 ·cases hu
theorem ZmO(H:HRel C h L w){f:FuncId}{x:AV}{x':Operand}{u:Value}(ho:o.op=.makeFunc (.func f) #[x'] #[])(rx:ZaB C h L w x (ev x'))(hu:ZuC x=some u):
 Snd C h L w ev o h (.val (.func (.func f) ⟨[u]⟩ ⟨[]⟩)):=by
 have:=Zsb hu rx
 refine .pure H (r:=.func (.func f) ⟨[u]⟩ ⟨[]⟩) ?_ (.val _)
 simp[execOp,ho,this,Instr.makeFunc]
theorem ZtH{v:AV}{x:Value}{args avs:List AV}{vs:List Value}{f:FuncId}{ok:Nat→Prop}(hf:ZAM v args=some (f,avs))(hr:Rel w ok h L v x)(ha:RelL w ok h L args vs):
 ∃b c:Array Value,x=.func (.func f) b c∧RelL w ok h L avs (b.toList++vs++c.toList):=by
 unfold ZAM at hf
 split at hf
 ·simp only[Option.some.injEq,Prod.mk.injEq]at hf
  obtain⟨rfl,rfl⟩:=hf
  cases hr with
  |fn _ _ us hl hrr=>exact⟨#[],us,rfl,by simpa using RelL.append ha ⟨by simpa using hl,fun j u v hu hv=>hrr j u v hu (by simpa using hv)⟩⟩
 ·split at hf
  ·rename_i u hu
   simp only[Option.some.injEq,Prod.mk.injEq]at hf
   obtain⟨rfl,rfl⟩:=hf
   cases hr with
   |val _=>exact⟨_,_,rfl,by simpa using RelL.cons (Zto hu) ha⟩
  ·cases hf
 ·cases hf
end
end Go.Proofs.Ytjhdnpmojhkbjaa
/- Soundness of all operations, put together. No condition. -/
namespace Go.Proofs.Ytjhdnpmojhkbjaa
open Go.RowKit (Below)
section
variable {C:Ctx}{o:Oper}{ρ:Opd→AV}{ev:Operand→Value}{h h':Zaa}{w w':World}{L:Lay}{v:AV}{P:Program}
theorem Zq6(H:HRel C h L w){t e:TypeId}{n:Nat}{x:AV}{x':Operand}(ho:o.op=.sliceToArrayPointer t x')(rx:ZaB C h L w x (ev x'))(ht:C.P.underlying t=some (.array n e))(hn0:0<n)
 (hv:ZxP std h n x=some (true,v)):Snd C h L w ev o h v:=by
 have run:∀(ad:Option Addr) (m c:Nat),ev x'=.slice ad m c→n≤m→(execOp ev o).run C.P w=.ok (.value (.pointer ad)) w:=fun ad m c e1 e2=>by
  simp[execOp,ho,Instr.arrayAt,Zay ht,e1,Nat.not_lt.2 e2]
 unfold ZxP at hv
 generalize hxv:ev x'=xv at rx
 split at hv
 ·rename_i r
  simp only[Option.some.injEq,Prod.mk.injEq,std_and]at hv
  obtain⟨⟨hle,hsg⟩,rfl⟩:=hv
  have hle:n≤r.elems.length:=by rw[Row.len_std]at hle;simpa[std]using hle
  have hne:r.elems≠[]:=by intro e;rw[e]at hle;simp at hle;omega
  obtain⟨ad,m,c,sz,cs,rfl,hb,hok,rfl,hcap,hszs,h1,hc,hp,hr⟩:=Zkx rx hne
  have hone:=Row.sing_std hsg
  have hfl:=Zby hone
  rw[hfl]at hr hp
  have hpart:=hr.take n
  refine .pure H (run _ _ _ hxv hle) ?_
  have hz:ad=ad.add 0:=by simp[Addr.add]
  rw[hz]
  have hsp:ad.spot=none:=by
   have hj:cs[0]? =some (cs[0]'(by have:=hr.1;omega)):=List.getElem?_eq_getElem _
   have:=ZlQ (hc 0 _ hj)
   rwa[←hz]at this
  have hf:(AV.agg (Zpb (r.part std 0 n))).flat=r.elems.take n:=by
   show(Zpb (r.part std 0 n)).elems=_
   rw[ZfP,Row.part_std (by omega)];simp[sub3]
  exact .eptr _ 0 ad (cs.take n) hsp hb hok (by rw[hf];exact hpart.1.symm) (fun c hc=>h1 c (List.mem_of_mem_take hc)) (fun j v hj=>by
   rw[List.getElem?_take]at hj
   split at hj
   ·exact hc j v hj
   ·cases hj) (by rw[hf];have:=Zgz hp 0 n;simpa using this) (by rw[hf];exact hpart.2)
 ·rename_i a j
  split at hv
  ·rename_i e' sz r hbk
   simp only[Option.some.injEq,Prod.mk.injEq,std_and]at hv
   obtain⟨⟨_,hle⟩,rfl⟩:=hv
   have hle:n≤r.elems.length:=by rw[Row.len_std]at hle;simpa[std]using hle
   have htg:=H.tagAt hbk
   cases rx with
   |row _ _ g oo m c hn hl=>
    obtain⟨rfl,rfl,rfl,rfl⟩:=hl.2 _ htg
    exact .pure H (run _ _ _ hxv hle) (.ptr _ _ _ _ _ _ ⟨hl.1,fun s hs=>⟨rfl,by simp⟩⟩)
  ·cases hv
 ·rename_i a j k m cp
  split at hv
  ·rename_i e' sz r hbk
   simp only[Option.some.injEq,Prod.mk.injEq,std_and]at hv
   obtain⟨⟨_,hle⟩,rfl⟩:=hv
   have hle:n≤m:=by simpa[std]using hle
   have htg:=H.tagAt hbk
   cases rx with
   |slc _ _ _ _ _ g oo c hn hl=>
    rcases hl.2 _ htg with⟨_,e1⟩ |⟨rfl,rfl,_⟩
    ·omega
    ·exact .pure H (run _ _ _ hxv hle) (.ptr _ _ _ _ _ _ ⟨hl.1,fun s hs=>by rw[htg]at hs;cases hs;exact⟨rfl,by simp⟩⟩)
  ·cases hv
 ·rename_i a j k off m
  simp only[Option.some.injEq,Prod.mk.injEq]at hv
  obtain⟨hle,rfl⟩:=hv
  have hle:n≤m:=by simpa[std]using hle
  cases rx with
  |aslc _ _ _ _ _ g oo c hn hl=>
   refine .pure H (run _ _ _ hxv hle) (.ptr _ _ _ _ _ _ ⟨hl.1,fun s hs=>?_⟩)
   rcases hl.2 s hs with e1 |e1
   ·omega
   ·exact e1
 ·cases hv
theorem Ztd(H:HRel C h L w){mx:Bool}{ts:Array TypeId}{k:IntKind}{p q:Int}{x' y':Operand}(ho:o.op=.call { callee:=.builtin (if mx then .max else .min),args:= #[x',y'],argTypes:=ts })(rx:ZaB C h L w (.int k p) (ev x'))(ry:ZaB C h L w (.int k q) (ev y')):
 Snd C h L w ev o h (.int k (mmI std mx p q)):=by
 cases mx
 ·refine .pure H (r:=.int k (min p q)) ?_ (.int _ _)
  have:(if q<p then q else p)=min p q:=by rw[Int.min_def];split<;>split<;>omega
  simp[execOp,ho,resolve,invoke,builtin,Builtin.min_,Builtin.min2,Zbh rx,Zbh ry,this]
 ·refine .pure H (r:=.int k (max p q)) ?_ (.int _ _)
  have:(if p<q then q else p)=max p q:=by rw[Int.max_def];split<;>split<;>omega
  simp[execOp,ho,resolve,invoke,builtin,Builtin.max_,Builtin.max2,Zbh rx,Zbh ry,this]
theorem ZqO(H:HRel C h L w){ts:Array TypeId}{k:FloatKind}{p q:Nat}{x' y':Operand}(ho:o.op=.call { callee:=.builtin .max,args:= #[x',y'],argTypes:=ts })(rx:ZaB C h L w (.flt k p) (ev x'))(ry:ZaB C h L w (.flt k q) (ev y'))
 (hv:(std.ford k p q).isSome=true):Snd C h L w ev o h (.flt k (mmF std k p q)):=by
 obtain⟨ord,e1⟩:=Option.isSome_iff_exists.1 hv
 unfold mmF
 rw[e1]
 have e1:k.format.order p q=some ord:=e1
 cases ord
 ·exact .pure H (by simp[execOp,ho,resolve,invoke,builtin,Builtin.max_,Builtin.max2,Zej rx,Zej ry,e1]) (.flt _ _)
 ·by_cases hn:(k.decode p).neg=true
  ·have:std.fneg k p=true:=hn
   rw[this]
   exact .pure H (by simp[execOp,ho,resolve,invoke,builtin,Builtin.max_,Builtin.max2,Zej rx,Zej ry,e1,hn]) (.flt _ _)
  ·have:std.fneg k p=false:=by simpa[std]using hn
   rw[this]
   exact .pure H (by simp[execOp,ho,resolve,invoke,builtin,Builtin.max_,Builtin.max2,Zej rx,Zej ry,e1,hn]) (.flt _ _)
 ·exact .pure H (by simp[execOp,ho,resolve,invoke,builtin,Builtin.max_,Builtin.max2,Zej rx,Zej ry,e1]) (.flt _ _)
theorem ZcV{t:TypeId}{ag:Bool}{n:Nat}(h:ZhW P t ag n=true):∃d i,P.underlying t=some d∧ZaR d=ag∧P.info? t=some i∧i.size=n∧(ag=false→n=1):=by
 unfold ZhW at h
 split at h
 ·rename_i d i h1 h2
  simp only[Bool.and_eq_true,beq_iff_eq,Bool.or_eq_true]at h
  exact⟨d,i,h1,h.1.1,h2,h.1.2,fun e=>h.2.resolve_left (by simp[e])⟩
 ·cases h
theorem Zb9{t:TypeId}{n:Nat}(h:ZhA P t n=true):∃i,P.info? t=some i∧i.size=n:=by
 unfold ZhA at h
 split at h
 ·rename_i i h1;exact⟨i,h1,by simpa using h⟩
 ·cases h
theorem ZaM{t e:TypeId}(h:Zdk P t e=true):P.underlying t=some (.slice e):=by
 unfold Zdk at h
 split at h
 ·rename_i h1;rw[h1];simp at h;rw[h]
 ·cases h
theorem Zd1{t e:TypeId}{n:Nat}(h:Zl9 P t n e=true):P.underlying t=some (.array n e):=by
 unfold Zl9 at h
 split at h
 ·rename_i h1;rw[h1];simp at h;rw[h.1,h.2]
 ·cases h
theorem Zem{t:TypeId}(h:ZiD P t=true):P.underlying t=some .string:=by
 unfold ZiD at h
 split at h
 ·rename_i h1;rw[h1]
 ·cases h
theorem Zps{t:TypeId}(h:Zx0 P t=true):P.underlying t=some .bool:=by
 unfold Zx0 at h
 split at h
 ·rename_i h1;rw[h1]
 ·cases h
theorem Zls{t:TypeId}{k:IntKind}(h:ZJP P t k=true):P.underlying t=some (.int k):=by
 unfold ZJP at h
 split at h
 ·rename_i h1;rw[h1];simp at h;rw[h]
 ·cases h
theorem Zsh{t:TypeId}{k:FloatKind}(h:ZJZ P t k=true):P.underlying t=some (.float k):=by
 unfold ZJZ at h
 split at h
 ·rename_i h1;rw[h1];simp at h;rw[h]
 ·cases h
theorem ZfF{t:TypeId}(h:ZnY P t=true):∃d,P.underlying t=some d:=Option.isSome_iff_exists.1 h
theorem Zim{t ft:TypeId}{f off:Nat}(h:Zn8 P t f off=some ft):∃fs fd,P.underlying t=some (.struct fs)∧fs[f]? =some fd∧fd.offset=off∧fd.type=ft:=by
 unfold Zn8 at h
 split at h
 ·rename_i fs h1
  split at h
  ·rename_i fd h2
   split at h
   ·rename_i h3;cases h;exact⟨fs,fd,h1,h2,by simpa using h3,rfl⟩
   ·cases h
  ·cases h
 ·cases h
theorem ZcC{e:TypeId}{sz:Nat}{z:Option AV}(h:Zly P e sz z=true):∃i v,P.info? e=some i∧i.size=sz∧i.bytes≤32768∧i.zero=some v∧v.cells.size=sz∧∀z',z=some z'→Zey z' v=true∧z'.flat.length=sz:=by
 unfold Zly at h
 split at h
 ·rename_i i h1
  simp only[Bool.and_eq_true,beq_iff_eq,decide_eq_true_eq]at h
  obtain⟨⟨h2,h3⟩,h4⟩:=h
  split at h4
  ·rename_i v h5
   simp only[Bool.and_eq_true,beq_iff_eq]at h4
   refine⟨i,v,h1,h2,h3,h5,h4.1,fun z' e=>?_⟩
   subst e
   simpa using h4.2
  ·cases h4
 ·cases h
theorem ZlG{t:TypeId}{n:Nat}(h:ZnA P t n=true):∃arr e i,P.underlying t=some (.pointer arr)∧P.underlying arr=some (.array n e)∧P.info? e=some i∧i.size=1:=by
 unfold ZnA at h
 split at h
 ·rename_i arr h1
  split at h
  ·rename_i m e h2
   simp only[Bool.and_eq_true,beq_iff_eq]at h
   obtain⟨⟨rfl,h3⟩,_⟩:=h
   obtain⟨i,h4,h5⟩:=Zb9 h3
   exact⟨arr,e,i,h1,h2,h4,h5⟩
  ·cases h
 ·cases h
theorem Zl0{t:TypeId}{n:Nat}(h:Znv P t n=true):∃e i,P.underlying t=some (.array n e)∧P.info? e=some i∧i.size=1:=by
 unfold Znv at h
 split at h
 ·rename_i m e h2
  simp only[Bool.and_eq_true,beq_iff_eq]at h
  obtain⟨⟨rfl,h3⟩,_⟩:=h
  obtain⟨i,h4,h5⟩:=Zb9 h3
  exact⟨e,i,h2,h4,h5⟩
 ·cases h
theorem Za8{x:Out}{b:Bool}(h1:ZkD h x=some (b,v,h')):x=some (b,v)∧h'=h:=by
 cases x with
 |none=>cases h1
 |some p=>obtain⟨b',v'⟩:=p;simp only[ZkD,Option.some.injEq,Prod.mk.injEq]at h1;obtain⟨rfl,rfl,rfl⟩:=h1;exact⟨rfl,rfl⟩
theorem Step.trans{w1 w2 w3:World}{ok1 ok2 ok3:Nat→Prop}{h1 h2 h3:Zaa}{L1 L2 L3:Lay}(a:Step w1 ok1 h1 L1 w2 ok2 h2 L2)(b:Step w2 ok2 h2 L2 w3 ok3 h3 L3):Step w1 ok1 h1 L1 w3 ok3 h3 L3:=by
 refine⟨Nat.le_trans a.size b.size,fun g hg ho=>?_,fun c=>Nat.le_trans (a.nx c) (b.nx c),fun c j sz hj ht=>?_⟩
 ·obtain⟨q1,q2⟩:=a.mem g hg ho
  obtain⟨q3,q4⟩:=b.mem g (Nat.lt_of_lt_of_le hg a.size) q1
  exact⟨q3,q4.trans q2⟩
 ·obtain⟨q1,q2,q3⟩:=b.tags c j sz (Nat.lt_of_lt_of_le hj (a.nx c)) ht
  obtain⟨q4,q5,q6⟩:=a.tags c j sz hj q1
  exact⟨q4,q2.trans q5,q3.trans q6⟩
theorem ZaD{r:Row}(hp:r.pure=true):AV.pureL (Zae r.elems)=true:=by
 have hap:∀(a b:List AV),AV.pureL a=true→AV.pureL b=true→AV.pureL (a++b)=true:=by
  intro a b
  induction a with
  |nil=>exact fun _ h=>h
  |cons z zs ihz=>intro ha hb;simp only[List.cons_append,AV.pureL,Bool.and_eq_true]at ha ⊢;exact⟨ha.1,ihz ha.2 hb⟩
 have hal:∀l:List AV,(∀z∈l,z.pure=true)→AV.pureL l=true:=by
  intro l
  induction l with
  |nil=>intro _;rfl
  |cons z zs ihz=>intro hz;simp only[AV.pureL,Bool.and_eq_true];exact⟨hz z List.mem_cons_self,ihz (fun q hq=>hz q (List.mem_cons_of_mem _ hq))⟩
 have:∀(xs:List AV),(∀x∈xs,x.pure=true)→AV.pureL (Zae xs)=true:=by
  intro xs
  induction xs with
  |nil=>intro _;rfl
  |cons y ys ih=>
   intro hy
   rw[ZaE]
   refine hap _ _ ?_ (ih (fun z hz=>hy z (List.mem_cons_of_mem _ hz)))
   have h1:=hy y List.mem_cons_self
   cases y with
   |agg q=>
    have hq:q.pure=true:=by simpa[AV.pure]using h1
    exact hal _ (fun z hz=>by obtain⟨j,hj⟩:=List.mem_iff_getElem?.1 hz;exact Row.pure_mem hq hj)
   |_=>simp only[AV.flat,AV.pureL,Bool.and_true];exact h1
 exact this _ (fun z hz=>by obtain⟨j,hj⟩:=List.mem_iff_getElem?.1 hz;exact Row.pure_mem hp hj)
theorem Zmu{a:Nat}{e:TypeId}{sz:Nat}{r:Row}(ha:a≠0)(hs:Snd C h L w ev o (Zam h a (.row e sz r)) (.row a (nxt h a)))(hp:r.pure=true):Snd C h L w ev o (Zam h a .dead) (.list r):=by
 obtain⟨w',L',x,hrun,st,H1,hv⟩:=hs
 have hb:blk (Zam h a (.row e sz r)) a (nxt h a)=.row e sz r:=by rw[Zbd,if_pos ⟨rfl,rfl⟩]
 obtain⟨s,H2⟩:=H1.kill (Zam h a .dead) (fun b=>by rw[Ze5,Ze5]) (fun b i=>by rw[Zbd,Zbd];split;exact .inl rfl;exact .inr rfl)
 refine⟨w',L',x,hrun,st.trans s,H2,fun hd=>?_⟩
 have hr:=hv hd
 obtain⟨ht,h0,h1,h2,h3,cur,h4,h5,h6,h7,h8⟩:=H1.rowAt hb
 cases hr with
 |row _ _ g o' n c hn hl=>
  obtain⟨rfl,rfl,rfl,rfl⟩:=hl.2 _ ht
  have hlv:=H1.live a (nxt h a) (by rw[ht];simp)
  refine .list r _ rfl ⟨L'.loc a (nxt h a),0,none⟩ _ _ sz (cur.toList.take (r.elems.length*sz)) hlv.2 (.inr ⟨H1.far (by rw[ht];simp) ha,fun b j htb e=>?_⟩) rfl hn h3 h6.1.symm h7 h8 (ZaD hp) (fun j u v hu hv=>(h6.2 j u v hu hv).step s)
  rw[Zbd]at htb
  split at htb
  ·exact absurd rfl htb
  ·rename_i hne
   obtain⟨rfl,rfl⟩:=H1.inj b j a (nxt h a) (by rw[Zbd,if_neg hne];exact htb) (by rw[ht];simp) e
   exact hne ⟨rfl,rfl⟩
theorem ZsW(H:HRel C h L w)(hρ:Rho C h L w ρ ev){k:OpK}(hm:mop C.P o k=true)(hr:Zaq std ρ h k=some (true,v,h')):Snd C h L w ev o h' v:=by
 cases k with
 |mov x=>
  simp only[Zaq,Option.some.injEq,Prod.mk.injEq,true_and]at hr
  obtain⟨rfl,rfl⟩:=hr
  simp only[mop]at hm
  split at hm
  ·rename_i y ho;exact .pure H (r:=ev y) (by simp[execOp,ho]) (hρ.rel x y hm)
  ·rename_i y ho;exact .pure H (r:=ev y) (by simp[execOp,ho]) (hρ.rel x y hm)
  ·cases hm
 |pick c x y=>
  simp only[mop]at hm
  split at hm
  ·rename_i c' x' y' ho
   simp only[Bool.and_eq_true]at hm
   have rc:=hρ.rel c c' hm.1.1
   simp only[Zaq]at hr
   split at hr
   ·rename_i b hb
    rw[hb]at rc
    split at hr
    ·simp only[Option.some.injEq,Prod.mk.injEq,true_and]at hr
     obtain⟨rfl,rfl⟩:=hr
     exact .pure H (r:=ev x') (by simp[execOp,ho,Zfq rc,asBool]) (hρ.rel x x' hm.1.2)
    ·simp only[Option.some.injEq,Prod.mk.injEq,true_and]at hr
     obtain⟨rfl,rfl⟩:=hr
     exact .pure H (r:=ev y') (by simp[execOp,ho,Zfq rc,asBool]) (hρ.rel y y' hm.2)
   ·cases hr
  ·cases hm
 |bin op x y=>
  simp only[mop]at hm
  split at hm
  ·rename_i op' t x' y' ty ho
   simp only[Bool.and_eq_true,beq_iff_eq]at hm
   obtain⟨⟨rfl,hx⟩,hy⟩:=hm
   simp only[Zaq]at hr
   obtain⟨h1,rfl⟩:=Za8 hr
   exact Zqt H ho (hρ.rel x x' hx) (hρ.rel y y' hy) h1
  ·cases hm
 |binw op x y=>
  simp only[mop]at hm
  split at hm
  ·rename_i op' t x' y' ty ho
   simp only[Bool.and_eq_true,beq_iff_eq]at hm
   obtain⟨⟨rfl,hx⟩,hy⟩:=hm
   simp only[Zaq]at hr
   obtain⟨h1,rfl⟩:=Za8 hr
   exact Zpy H ho (hρ.rel x x' hx) (hρ.rel y y' hy) h1
  ·cases hm
 |beq ne x y=>
  simp only[mop]at hm
  split at hm
  ·rename_i op' t x' y' ty ho
   simp only[Bool.and_eq_true,beq_iff_eq]at hm
   obtain⟨⟨⟨h1,h2⟩,hx⟩,hy⟩:=hm
   simp only[Zaq]at hr
   split at hr
   ·rename_i a b ha hb
    simp only[Option.some.injEq,Prod.mk.injEq,true_and]at hr
    obtain⟨rfl,rfl⟩:=hr
    exact Zrb H ho h1 (Zps h2) (ha▸hρ.rel x x' hx) (hb▸hρ.rel y y' hy)
   ·cases hr
  ·cases hm
 |isnil ne x=>
  simp only[mop]at hm
  split at hm
  ·rename_i op' t x' ty ho
   simp only[Bool.and_eq_true,beq_iff_eq]at hm
   obtain⟨⟨hop,ht⟩,hx⟩:=hm
   have ht:=ZaM ht
   have rx:=hρ.rel x x' hx
   have run:∀(ad:Option Addr) (n c:Nat),ev x'=.slice ad n c→(execOp ev o).run C.P w=.ok (.value (.bool (match ne with |true=>!ad.isNone |false=>ad.isNone))) w:=fun ad n c e=>by
    subst hop
    cases ne
    ·have:=Lib.run_eql_slice_nil (P:=C.P) w t _ ad n c 0 0 ht
     simp only[Bool.false_eq_true,if_false]at ho
     simp[execOp,ho,e,hρ.cst,ZfZ,this]
    ·have:=run_neq_slice_nil_any (P:=C.P) w t _ ad n c 0 0 ht
     simp only[if_true]at ho
     simp[execOp,ho,e,hρ.cst,ZfZ,this]
   simp only[Zaq]at hr
   generalize hxv:ev x'=xv at rx
   split at hr
   ·rename_i hq
    rw[hq]at rx
    simp only[Option.some.injEq,Prod.mk.injEq,true_and]at hr
    obtain⟨rfl,rfl⟩:=hr
    cases rx
    have:=run _ _ _ hxv
    cases ne<;>exact .pure H this (.bool _)
   ·rename_i r hq
    rw[hq]at rx
    simp only[Option.some.injEq,Prod.mk.injEq]at hr
    obtain⟨h1,rfl,rfl⟩:=hr
    have hne:r.elems≠[]:=by rw[Row.len_std]at h1;intro e;rw[e]at h1;simp at h1
    obtain⟨ad,n,c,sz,cs,rfl,_⟩:=Zkx rx hne
    have:=run _ _ _ hxv
    cases ne<;>exact .pure H this (.bool _)
   ·rename_i hq
    rw[hq]at rx
    simp only[Option.some.injEq,Prod.mk.injEq,true_and]at hr
    obtain⟨rfl,rfl⟩:=hr
    cases rx
    have:=run _ _ _ hxv
    cases ne<;>exact .pure H this (.bool _)
   ·rename_i hq
    rw[hq]at rx
    simp only[Option.some.injEq,Prod.mk.injEq,true_and]at hr
    obtain⟨rfl,rfl⟩:=hr
    cases rx
    have:=run _ _ _ hxv
    cases ne<;>exact .pure H this (.bool _)
   ·rename_i hq
    rw[hq]at rx
    simp only[Option.some.injEq,Prod.mk.injEq,true_and]at hr
    obtain⟨rfl,rfl⟩:=hr
    cases rx
    have:=run _ _ _ hxv
    cases ne<;>exact .pure H this (.bool _)
   ·rename_i v hq
    rw[hq]at rx
    split at hr
    ·split at hr
     ·simp only[Option.some.injEq,Prod.mk.injEq,true_and]at hr
      obtain⟨rfl,rfl⟩:=hr
      cases rx
      have:=run _ _ _ hxv
      cases ne<;>exact .pure H this (.bool _)
     ·simp only[Option.some.injEq,Prod.mk.injEq,true_and]at hr
      obtain⟨rfl,rfl⟩:=hr
      cases rx
      have:=run _ _ _ hxv
      cases ne<;>exact .pure H this (.bool _)
    ·cases hr
   ·cases hr
  ·cases hm
 |not x=>
  simp only[mop]at hm
  split at hm
  ·rename_i t x' ho
   have rx:=hρ.rel x x' hm
   simp only[Zaq]at hr
   split at hr
   ·rename_i b hb
    rw[hb]at rx
    simp only[Option.some.injEq,Prod.mk.injEq,true_and]at hr
    obtain⟨rfl,rfl⟩:=hr
    exact .pure H (r:=.bool (!b)) (by simp[execOp,ho,Zfq rx,Op.unary]) (.bool _)
   ·cases hr
  ·cases hm
 |neg x=>
  simp only[mop]at hm
  split at hm
  ·rename_i t x' ho
   have rx:=hρ.rel x x' hm
   simp only[Zaq]at hr
   split at hr
   ·rename_i k n hb
    rw[hb]at rx
    simp only[Option.some.injEq,Prod.mk.injEq]at hr
    obtain⟨h1,rfl,rfl⟩:=hr
    have h0:(0:Int)-n= -n:=by omega
    exact .pure H (r:=.int k (-n)) (by simp[execOp,ho,Zbh rx,Op.unary,Op.intArith,Zdg (show std.inR k (-n)=true from h1)]) (.int _ _)
   ·cases hr
  ·cases hm
 |conv k x=>
  simp only[mop]at hm
  split at hm
  ·rename_i src dst x' ho
   simp only[Bool.and_eq_true]at hm
   obtain⟨⟨h1,h2⟩,hx⟩:=hm
   obtain⟨d,h1⟩:=ZfF h1
   have h2:=Zls h2
   have rx:=hρ.rel x x' hx
   simp only[Zaq]at hr
   split at hr
   ·rename_i k' n hb
    rw[hb]at rx
    simp only[Option.some.injEq,Prod.mk.injEq]at hr
    obtain⟨h3,rfl,rfl⟩:=hr
    exact .pure H (r:=.int k n) (by simp[execOp,ho,Zbh rx,convert,Zay h1,Zay h2,Conv.intToInt,Zdg h3]) (.int _ _)
   ·cases hr
  ·cases hm
 |i2f k x=>
  simp only[mop]at hm
  split at hm
  ·rename_i src dst x' ho
   simp only[Bool.and_eq_true]at hm
   obtain⟨⟨h1,h2⟩,hx⟩:=hm
   obtain⟨d,h1⟩:=ZfF h1
   have h2:=Zsh h2
   have rx:=hρ.rel x x' hx
   simp only[Zaq]at hr
   split at hr
   ·rename_i k' n hb
    rw[hb]at rx
    simp only[Option.some.injEq,Prod.mk.injEq,true_and]at hr
    obtain⟨rfl,rfl⟩:=hr
    exact .pure H (r:=.float k (k.nearest n)) (by simp[execOp,ho,Zbh rx,convert,Zay h1,Zay h2,Conv.intToFloat]) (.flt _ _)
   ·cases hr
  ·cases hm
 |f2i k x=>
  simp only[mop]at hm
  split at hm
  ·rename_i src dst x' ho
   simp only[Bool.and_eq_true]at hm
   obtain⟨⟨h1,h2⟩,hx⟩:=hm
   obtain⟨d,h1⟩:=ZfF h1
   have h2:=Zls h2
   have rx:=hρ.rel x x' hx
   simp only[Zaq]at hr
   split at hr
   ·rename_i q b hb
    rw[hb]at rx
    simp only[Option.some.injEq,Prod.mk.injEq,std_and]at hr
    obtain⟨⟨h3,h4⟩,rfl,rfl⟩:=hr
    obtain⟨n,h3⟩:=Option.isSome_iff_exists.1 h3
    rw[h3]at h4⊢
    have h3:(q.decode b).toInt .zero=some n:=h3
    have h4:k.min≤n∧n≤k.max:=of_decide_eq_true h4
    exact .pure H (r:=.int k n) (by simp[execOp,ho,Zej rx,convert,Zay h1,Zay h2,Conv.floatToInt,h3,h4]) (.int _ _)
   ·cases hr
  ·cases hm
 |aeq ne ls x y=>
  simp only[mop]at hm
  split at hm
  ·rename_i op' t x' y' ty ho
   simp only[Bool.and_eq_true,beq_iff_eq]at hm
   obtain⟨⟨⟨h1,h2⟩,hx⟩,hy⟩:=hm
   simp only[Zaq]at hr
   obtain⟨h4,rfl⟩:=Za8 hr
   exact ZrK H ho h1 h2 (hρ.rel x x' hx) (hρ.rel y y' hy) h4
  ·cases hm
 |idxa ln sz x i=>
  simp only[mop]at hm
  split at hm
  ·rename_i t x' i' ho
   simp only[Bool.and_eq_true]at hm
   obtain⟨⟨⟨h1,h2⟩,hx⟩,hi⟩:=hm
   obtain⟨d,ii,e1,e2,e3,e4,e5⟩:=ZcV h2
   have rx:=hρ.rel x x' hx
   have ri:=hρ.rel i i' hi
   simp only[Zaq]at hr
   split at hr
   ·rename_i r kd n q1 q2
    rw[q1]at rx;rw[q2]at ri
    simp only[Option.some.injEq,Prod.mk.injEq,std_and]at hr
    obtain⟨⟨⟨h0,hlt⟩,hl⟩,rfl,rfl⟩:=hr
    exact Zpj H ho (ZpO rx) ri (Zd1 h1) e1 e3 e2 e4 (by simpa[std]using h0) (by simpa[std]using hlt) (by rw[Row.len_std]at hl;rw[Zhl];simpa[std]using hl)
   ·cases hr
  ·cases hm
 |mkmth f x=>
  simp only[mop]at hm
  split at hm
  ·rename_i f' x' ho
   simp only[Bool.and_eq_true,beq_iff_eq]at hm
   obtain⟨rfl,hx⟩:=hm
   simp only[Zaq]at hr
   split at hr
   ·rename_i u hu
    simp only[Option.some.injEq,Prod.mk.injEq,true_and]at hr
    obtain⟨rfl,rfl⟩:=hr
    exact ZmO H ho (hρ.rel x x' hx) hu
   ·cases hr
  ·cases hm
 |capl x=>
  simp only[mop]at hm
  split at hm
  ·rename_i x' t ho
   simp only[Bool.and_eq_true]at hm
   have rx:=hρ.rel x x' hm.2
   simp only[Zaq]at hr
   split at hr
   ·rename_i hq
    rw[hq]at rx
    simp only[Option.some.injEq,Prod.mk.injEq,true_and]at hr
    obtain⟨rfl,rfl⟩:=hr
    exact Zpr H ho (ZaM hm.1) rx
   ·cases hr
  ·cases hm
 |len x=>
  simp only[mop]at hm
  split at hm
  ·rename_i x' t ho
   simp only[Bool.and_eq_true]at hm
   have ht:=ZaM hm.1
   simp only[Zaq]at hr
   split at hr
   ·rename_i b r hb
    simp only[Option.some.injEq,Prod.mk.injEq]at hr
    obtain⟨rfl,rfl,rfl⟩:=hr
    obtain⟨ad,n,c,hv,hn,_⟩:=Zde H (hρ.rel x x' hm.2) hb
    rw[Row.len_std,←hn]
    exact .pure H (r:=.int .i64 n) (by simp[execOp,ho,resolve,invoke,builtin,Builtin.len_,hv,Zay ht,goInt]) (.int _ _)
   ·cases hr
  ·cases hm
 |slen x=>
  simp only[mop]at hm
  split at hm
  ·rename_i x' t ho
   simp only[Bool.and_eq_true]at hm
   have ht:=Zem hm.1
   have rx:=hρ.rel x x' hm.2
   simp only[Zaq]at hr
   split at hr
   ·rename_i l hb
    rw[hb]at rx
    simp only[Option.some.injEq,Prod.mk.injEq,true_and]at hr
    obtain⟨rfl,rfl⟩:=hr
    have hsz:(⟨l.toArray⟩:ByteArray).size=l.length:=rfl
    exact .pure H (r:=.int .i64 l.length) (by simp[execOp,ho,resolve,invoke,builtin,Builtin.len_,Zll rx,Zay ht,goInt,hsz]) (.int _ _)
   ·cases hr
  ·cases hm
 |mm mx x y=>
  simp only[mop]at hm
  split at hm
  ·rename_i b x' y' ts ho
   simp only[Bool.and_eq_true,beq_iff_eq]at hm
   obtain⟨⟨rfl,hx⟩,hy⟩:=hm
   have rx:=hρ.rel x x' hx
   have ry:=hρ.rel y y' hy
   simp only[Zaq]at hr
   split at hr
   ·rename_i k p k' q e1 e2
    rw[e1]at rx;rw[e2]at ry
    split at hr
    ·rename_i hk
     have:=of_decide_eq_true hk;subst this
     simp only[Option.some.injEq,Prod.mk.injEq,true_and]at hr
     obtain⟨rfl,rfl⟩:=hr
     exact Ztd H ho rx ry
    ·cases hr
   ·rename_i k p k' q e1 e2
    rw[e1]at rx;rw[e2]at ry
    split at hr
    ·rename_i hk
     have:=of_decide_eq_true hk;subst this
     simp only[Option.some.injEq,Prod.mk.injEq]at hr
     obtain⟨h1,rfl,rfl⟩:=hr
     exact ZqO H (by simpa using ho) rx ry h1
    ·cases hr
   ·cases hr
  ·cases hm
 |box a e x=>
  simp only[mop]at hm
  split at hm
  ·rename_i e' x' ho
   simp only[Bool.and_eq_true,beq_iff_eq]at hm
   obtain⟨rfl,hx⟩:=hm
   simp only[Zaq,Option.some.injEq,Prod.mk.injEq,std_and]at hr
   obtain⟨⟨hb,hp⟩,rfl,rfl⟩:=hr
   exact Zro H ho (hρ.rel x x' hx) hb (by rw[ZaV]at hp;simpa[std]using hp)
  ·cases hm
 |alloc a e z=>
  simp only[mop]at hm
  split at hm
  ·rename_i e' ho
   simp only[Bool.and_eq_true,beq_iff_eq]at hm
   obtain⟨rfl,hm⟩:=hm
   split at hm
   ·rename_i i hi
    split at hm
    ·rename_i zv hz
     simp only[Zaq,Option.some.injEq,Prod.mk.injEq,std_and]at hr
     obtain⟨⟨hb,hp⟩,rfl,rfl⟩:=hr
     exact Zmx H ho hi hz hm hb (by rw[ZaV]at hp;simpa[std]using hp)
    ·cases hm
   ·cases hm
  ·cases hm
 |load ag n p=>
  simp only[mop]at hm
  split at hm
  ·rename_i t p' ho
   simp only[Bool.and_eq_true]at hm
   obtain⟨d,i,hd,hag,hi,hn,hne⟩:=ZcV hm.1
   simp only[Zaq]at hr
   obtain⟨h1,rfl⟩:=Za8 hr
   obtain⟨r,ad,e1,e2,e3⟩:=Zn4 H (hρ.rel p p' hm.2) hd hag hi hn hne h1
   exact .pure H (by simp[execOp,ho,Instr.loadAt,e1,Instr.sureAddr,e2]) e3
  ·cases hm
 |store n p x=>
  simp only[mop]at hm
  split at hm
  ·rename_i t p' x' ho
   simp only[Bool.and_eq_true,Option.isNone_iff_eq_none]at hm
   obtain⟨⟨⟨hd,h1⟩,hp⟩,hx⟩:=hm
   obtain⟨i,hi,hn⟩:=Zb9 h1
   simp only[Zaq]at hr
   exact Znt H ho hd (hρ.rel p p' hp) (hρ.rel x x' hx) hi hn hr
  ·cases hm
 |faddr off p=>
  simp only[mop]at hm
  split at hm
  ·rename_i t p' f ho
   simp only[Bool.and_eq_true]at hm
   obtain⟨hm,hp⟩:=hm
   split at hm
   ·rename_i ft hf
    simp only[Bool.and_eq_true,Bool.not_eq_true']at hm
    obtain⟨fs,fd,f1,f2,f3,rfl⟩:=Zim hf
    obtain⟨i,hi⟩:=Option.isSome_iff_exists.1 hm.2
    have hz:i.size≠0:=by
     intro e
     have:=hm.1
     simp[ZhA,hi,e]at this
    simp only[Zaq]at hr
    obtain⟨h1,rfl⟩:=Za8 hr
    exact Znp H ho (hρ.rel p p' hp) f1 f2 f3 hi hz h1
   ·cases hm
  ·cases hm
 |iaddr sz x i=>
  simp only[mop]at hm
  split at hm
  ·rename_i t x' i' ho
   simp only[Bool.and_eq_true,decide_eq_true_eq]at hm
   obtain⟨⟨⟨⟨h1,h2⟩,h3⟩,hx⟩,hi⟩:=hm
   obtain⟨ii,e1,e2⟩:=Zb9 h2
   simp only[Zaq]at hr
   obtain⟨h4,rfl⟩:=Za8 hr
   exact Znx H ho (hρ.rel x x' hx) (hρ.rel i i' hi) (ZaM h1) e1 e2 h3 h4
  ·cases hm
 |aaddr ln sz p i=>
  simp only[mop]at hm
  split at hm
  ·rename_i t x' i' ho
   simp only[Bool.and_eq_true]at hm
   obtain⟨⟨⟨h1,h2⟩,hx⟩,hi⟩:=hm
   obtain⟨ii,e1,e2⟩:=Zb9 h2
   simp only[Zaq]at hr
   obtain⟨h4,rfl⟩:=Za8 hr
   unfold Zq2 at h4
   split at h4
   ·rename_i hnn
    unfold Zw9 at hnn
    split at hnn
    ·rename_i kd n
     split at hnn
     ·rename_i m
      simp only[Zu5]at h4
      have hev:ev i'=.int kd (Int.ofNat m):=by
       cases i' with
       |const v=>rw[hρ.cst];have:=hi;simp only[Zbc]at this;cases v<;>simp[ZiS]at this;obtain⟨rfl,e⟩:=this;rw[←e];rfl
       |_=>simp[Zbc]at hi
      refine Zh3 H ho (hρ.rel p x' hx) (ix:=.int kd (Int.ofNat m)) (by rw[hev];exact .int _ _) (Zd1 h1) e1 e2 ?_
      have hmul:∀n:Int,Zhx std sz n=n.toNat*sz:=fun n=>by
       unfold Zhx
       split
       ·rename_i hb;have:sz=1:=by simpa using hb
        subst this;simp[std]
       ·rfl
      unfold Zwo at h4
      unfold Zlp
      split at h4
      ·rename_i hq
       simp only[Option.some.injEq,Prod.mk.injEq,Nat.blt_eq]at h4
       obtain⟨g1,rfl⟩:=h4
       simp only[hmul]
       simp[std,Zab]
       exact g1
      ·rename_i hq
       simp only[Option.some.injEq,Prod.mk.injEq,Nat.blt_eq]at h4
       obtain⟨g1,rfl⟩:=h4
       simp only[hmul]
       simp[std,Zab]
       exact g1
      ·cases h4
     ·cases hnn
    ·cases hnn
   ·exact Zh3 H ho (hρ.rel p x' hx) (hρ.rel i i' hi) (Zd1 h1) e1 e2 h4
  ·cases hm
 |idx ln x i=>
  simp only[mop]at hm
  split at hm
  ·rename_i t x' i' ho
   simp only[Bool.and_eq_true]at hm
   obtain⟨⟨⟨h1,h2⟩,hx⟩,hi⟩:=hm
   obtain⟨d,ii,e1,e2,e3,e4,e5⟩:=ZcV h2
   have rx:=hρ.rel x x' hx
   have ri:=hρ.rel i i' hi
   simp only[Zaq]at hr
   split at hr
   ·rename_i r kd n q1 q2
    rw[q1]at rx;rw[q2]at ri
    simp only[Option.some.injEq,Prod.mk.injEq,std_and]at hr
    obtain⟨⟨⟨h0,hlt⟩,hl⟩,rfl,rfl⟩:=hr
    exact Zsd H ho rx ri (Zd1 h1) e1 e2 e3 e4 (by simpa[std]using h0) (by simpa[std]using hlt) (by rw[Row.len_std]at hl;simpa[std]using hl)
   ·cases hr
  ·cases hm
 |sidx x i=>
  simp only[mop]at hm
  split at hm
  ·rename_i t x' i' ho
   simp only[Bool.and_eq_true]at hm
   obtain⟨⟨h1,hx⟩,hi⟩:=hm
   have rx:=hρ.rel x x' hx
   have ri:=hρ.rel i i' hi
   simp only[Zaq]at hr
   split at hr
   ·rename_i l kd n q1 q2
    rw[q1]at rx;rw[q2]at ri
    simp only[Option.some.injEq,Prod.mk.injEq,std_and]at hr
    obtain⟨⟨h0,hlt⟩,rfl,rfl⟩:=hr
    exact Zp3 H ho rx ri (Zem h1) (by simpa[std]using h0) (by simpa[std]using hlt)
   ·cases hr
  ·cases hm
 |fld ag off n x=>
  simp only[mop]at hm
  split at hm
  ·rename_i t x' f ho
   simp only[Bool.and_eq_true]at hm
   obtain⟨hm,hx⟩:=hm
   split at hm
   ·rename_i ft hf
    obtain⟨fs,fd,f1,f2,f3,rfl⟩:=Zim hf
    obtain⟨d,i,e1,e2,e3,e4,e5⟩:=ZcV hm
    have rx:=hρ.rel x x' hx
    simp only[Zaq]at hr
    split at hr
    ·rename_i r q1
     rw[q1]at rx
     obtain⟨h4,rfl⟩:=Za8 hr
     exact ZqV H ho rx f1 f2 f3 e1 e2 e3 e4 e5 h4
    ·cases hr
   ·cases hm
  ·cases hm
 |build z parts=>
  simp only[mop]at hm
  split at hm
  ·rename_i t parts' ho
   split at hm
   ·rename_i zv place hpl
    simp only[Bool.and_eq_true]at hm
    simp only[Zaq]at hr
    generalize hf:Zh7 std ρ z parts=res at hr
    obtain⟨b,r⟩:=res
    simp only[Option.some.injEq,Prod.mk.injEq]at hr
    obtain⟨rfl,rfl,rfl⟩:=hr
    exact Zm8 H hρ ho hpl hm.1 hm.2 hf
   ·cases hm
  ·cases hm
 |bslice a e sz parts=>
  simp only[mop]at hm
  split at hm
  ·rename_i t ln parts' ho
   simp only[Bool.and_eq_true,decide_eq_true_eq,beq_iff_eq]at hm
   obtain⟨⟨⟨⟨⟨h1,h2⟩,h3⟩,h4⟩,h5⟩,h6⟩:=hm
   obtain⟨i,zv,e1,e2,_,e4,_,_⟩:=ZcC h2
   simp only[Zaq,Option.some.injEq,Prod.mk.injEq]at hr
   obtain⟨hf,rfl,rfl⟩:=hr
   exact ZlZ H hρ ho h3 h4 (ZaM h1) e1 e4 e2 h5 h6 hf
  ·cases hm
 |mklst a e sz z ln=>
  simp only[mop]at hm
  split at hm
  ·rename_i t l' c' ho
   simp only[Bool.and_eq_true,decide_eq_true_eq,Bool.not_eq_true']at hm
   obtain⟨⟨⟨⟨⟨⟨⟨h0,h1⟩,h2⟩,h3⟩,h4⟩,h5⟩,h6⟩,h7⟩:=hm
   obtain⟨i,zv,e1,e2,e3,e4,e5,e6⟩:=ZcC h2
   obtain⟨z1,z2⟩:=e6 z rfl
   have r1:=hρ.rel ln l' h6
   have r2:=hρ.rel ln c' h7
   simp only[Zaq]at hr
   split at hr
   ·rename_i kd n hq
    rw[hq]at r1 r2
    split at hr
    ·rename_i hp
     simp only[Option.some.injEq,Prod.mk.injEq,std_and]at hr
     obtain⟨⟨g0,g1⟩,rfl,rfl⟩:=hr
     exact Zmu (e:=e) (sz:=sz) (ZgJ h0) (ZfU H ho (Zbh r1) (Zbh r2) (ZaM h1) e1 e4 z1 e2 h5 z2 e3 h4 (by simpa[std]using g0) (by simpa[std]using g1)) hp
    ·cases hr
   ·cases hr
  ·cases hm
 |mkslice a e sz z ln=>
  simp only[mop]at hm
  split at hm
  ·rename_i t l' c' ho
   simp only[Bool.and_eq_true,decide_eq_true_eq]at hm
   obtain⟨⟨⟨⟨⟨⟨h1,h2⟩,h3⟩,h4⟩,h5⟩,h6⟩,h7⟩:=hm
   obtain⟨i,zv,e1,e2,e3,e4,e5,e6⟩:=ZcC h2
   obtain⟨z1,z2⟩:=e6 z rfl
   have r1:=hρ.rel ln l' h6
   have r2:=hρ.rel ln c' h7
   simp only[Zaq]at hr
   split at hr
   ·rename_i kd n hq
    rw[hq]at r1 r2
    simp only[Option.some.injEq,Prod.mk.injEq,std_and]at hr
    obtain⟨⟨g0,g1⟩,rfl,rfl⟩:=hr
    exact ZfU H ho (Zbh r1) (Zbh r2) (ZaM h1) e1 e4 z1 e2 h5 z2 e3 h4 (by simpa[std]using g0) (by simpa[std]using g1)
   ·cases hr
  ·cases hm
 |slc sz x lo hi mx=>
  simp only[mop]at hm
  split at hm
  ·rename_i t x' lo' hi' mx' ho
   simp only[Bool.and_eq_true,decide_eq_true_eq,Bool.or_eq_true]at hm
   obtain⟨⟨⟨⟨⟨⟨⟨h1,h2⟩,h3⟩,hx⟩,hl⟩,hh⟩,hmx⟩,hmh⟩:=hm
   obtain⟨i,e1,e2⟩:=Zb9 h2
   simp only[Zaq]at hr
   obtain⟨h4,rfl⟩:=Za8 hr
   exact Zqm H hρ ho (hρ.rel x x' hx) hl hh hmx hmh (ZaM h1) e1 e2 h3 h4
  ·cases hm
 |asl ln p lo hi=>
  simp only[mop]at hm
  split at hm
  ·rename_i t p' lo' hi' ho
   simp only[Bool.and_eq_true,Bool.or_eq_true]at hm
   obtain⟨⟨⟨h1,hx⟩,hl⟩,hh⟩:=hm
   simp only[Zaq]at hr
   obtain⟨h4,rfl⟩:=Za8 hr
   rcases h1 with h1 |h1
   ·obtain⟨arr,e,i,e1,e2,e3,e4⟩:=ZlG h1
    exact Zsv H hρ ho (hρ.rel p p' hx) hl hh e1 e2 e3 e4 h4
   ·obtain⟨e,i,e1,e3,e4⟩:=Zl0 h1
    exact Zsm H hρ ho (hρ.rel p p' hx) hl hh e1 e3 e4 h4
  ·cases hm
 |sslc x lo hi=>
  simp only[mop]at hm
  split at hm
  ·rename_i t p' lo' hi' ho
   simp only[Bool.and_eq_true]at hm
   obtain⟨⟨⟨h1,hx⟩,hl⟩,hh⟩:=hm
   simp only[Zaq]at hr
   obtain⟨h4,rfl⟩:=Za8 hr
   exact ZoU H hρ ho (hρ.rel x p' hx) hl hh (Zem h1) h4
  ·cases hm
 |append a e sz x y=>
  simp only[mop]at hm
  split at hm
  ·rename_i x' y' t t' ho
   simp only[Bool.and_eq_true,decide_eq_true_eq,beq_iff_eq]at hm
   obtain⟨⟨⟨⟨⟨rfl,h1⟩,h2⟩,h3⟩,hx⟩,hy⟩:=hm
   obtain⟨i,zv,e1,e2,e3,e4,e5,_⟩:=ZcC h2
   simp only[Zaq]at hr
   exact Zl6 H ho (hρ.rel x x' hx) (hρ.rel y y' hy) (ZaM h1) e1 e4 e5 e2 h3 e3 hr
  ·cases hm
 |appz a e sz z x ln=>
  simp only[mop]at hm
  split at hm
  ·rename_i x' l' t t' ho
   simp only[Bool.and_eq_true,decide_eq_true_eq]at hm
   obtain⟨⟨⟨⟨⟨⟨⟨h1,h0⟩,h2⟩,h3⟩,h4⟩,h5⟩,hx⟩,hl⟩:=hm
   obtain⟨i,zv,e1,e2,e3,e4,e5,e6⟩:=ZcC h2
   obtain⟨z1,z2⟩:=e6 z rfl
   have r1:=hρ.rel ln l' hl
   simp only[Zaq]at hr
   split at h0
   ·rename_i kn htn
    split at hr
    ·rename_i kd n hq
     rw[hq]at r1
     exact Zpu H ho (hρ.rel x x' hx) (Zbh r1) (ZaM h1) htn e1 e4 z1 e5 e2 h5 e3 z2 h4 hr
    ·cases hr
   ·cases h0
  ·cases hm
 |copy sz x y=>
  simp only[mop]at hm
  split at hm
  ·rename_i x' y' t t' ho
   simp only[Bool.and_eq_true,decide_eq_true_eq,beq_iff_eq]at hm
   obtain⟨⟨⟨⟨⟨rfl,h1⟩,h2⟩,h3⟩,hx⟩,hy⟩:=hm
   obtain⟨i,e1,e2⟩:=Zb9 h2
   simp only[Zaq]at hr
   exact ZpF H ho (hρ.rel x x' hx) (hρ.rel y y' hy) (ZaM h1) e1 e2 h3 hr
  ·cases hm
 |clr e sz z x=>
  simp only[mop]at hm
  split at hm
  ·rename_i x' t ho
   simp only[Bool.and_eq_true,decide_eq_true_eq]at hm
   obtain⟨⟨⟨⟨⟨h1,h2⟩,h3⟩,h4⟩,h5⟩,hx⟩:=hm
   obtain⟨i,zv,e1,e2,e3,e4,e5,e6⟩:=ZcC h2
   obtain⟨z1,z2⟩:=e6 z rfl
   simp only[Zaq]at hr
   exact ZqQ H ho (hρ.rel x x' hx) (ZaM h1) e1 e4 e2 e5 h5 z1 h4 z2 hr
  ·cases hm
 |s2a n x=>
  simp only[mop]at hm
  split at hm
  ·rename_i t x' ho
   simp only[Bool.and_eq_true]at hm
   obtain⟨hm,hx⟩:=hm
   split at hm
   ·rename_i m e ht
    simp only[Bool.and_eq_true,beq_iff_eq,decide_eq_true_eq]at hm
    obtain⟨⟨rfl,_⟩,h0⟩:=hm
    simp only[Zaq]at hr
    obtain⟨h4,rfl⟩:=Za8 hr
    exact Zq6 H ho (hρ.rel x x' hx) ht h0 h4
   ·cases hm
  ·cases hm
 |nilck x=>
  simp only[mop]at hm
  split at hm
  ·rename_i x' ho
   have rx:=hρ.rel x x' hm
   simp only[Zaq]at hr
   generalize hxv:ev x'=xv at rx
   split at hr
   ·rename_i a i k q hq
    rw[hq]at rx
    simp only[Option.some.injEq,Prod.mk.injEq,true_and]at hr
    obtain⟨rfl,rfl⟩:=hr
    cases rx with
    |ptr _ _ _ _ g oo hl=>exact .pure H (by simp[execOp,ho,hxv]) (.ptr _ _ _ _ _ _ hl)
   ·rename_i u q hq
    rw[hq]at rx
    simp only[Option.some.injEq,Prod.mk.injEq,true_and]at hr
    obtain⟨rfl,rfl⟩:=hr
    obtain⟨ad,cs,e1,_⟩:=Zkc rx
    subst e1
    exact .pure H (by simp[execOp,ho,hxv]) rx
   ·cases hr
  ·cases hm
 |ext i x=>
  simp only[mop]at hm
  split at hm
  ·rename_i x' i' ho
   simp only[Bool.and_eq_true,beq_iff_eq]at hm
   obtain⟨rfl,hx⟩:=hm
   have rx:=hρ.rel x x' hx
   simp only[Zaq]at hr
   split at hr
   ·rename_i xs hq
    rw[hq]at rx
    split at hr
    ·rename_i u hu
     simp only[Option.some.injEq,Prod.mk.injEq,true_and]at hr
     obtain⟨rfl,rfl⟩:=hr
     exact Zr8 H ho rx hu
    ·cases hr
   ·cases hr
  ·cases hm
 |mkfn f caps=>
  simp only[mop]at hm
  split at hm
  ·rename_i f' caps' ho
   simp only[Bool.and_eq_true,beq_iff_eq]at hm
   obtain⟨rfl,hm⟩:=hm
   simp only[Zaq,Option.some.injEq,Prod.mk.injEq,true_and]at hr
   obtain⟨rfl,rfl⟩:=hr
   exact ZpW H hρ ho hm
  ·cases hm
 |ncall |ncallv |icall |icallv=>cases hr
end
end Go.Proofs.Ytjhdnpmojhkbjaa
