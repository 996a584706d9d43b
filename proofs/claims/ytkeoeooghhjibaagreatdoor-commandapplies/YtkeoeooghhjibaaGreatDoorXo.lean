/- Structs and arrays of plain cells, compared. No condition. -/
import Derived.Test.YtkeoeooghhjibaaGreatDoorXi
import Derived.Laws.StructEq
namespace Go.Proofs.YtkeoeooghhjibaaGreatDoor
open Go.RowKit (Below)
section
variable {C:Ctx}{o:Oper}{ρ:Opd→AV}{ev:Operand→Value}{h h':Zad}{w w':World}{L:Lay}{v:AV}{P:Program}
def ZmW:Lf→Value→Value→Option Bool
 | .i, .int k a, .int k' b=>if k=k' then some (a==b)else none
 | .b, .bool a, .bool b=>some (a==b)
 | .s, .string a, .string b=>some (a.toList==b.toList)
 |_,_,_=>none
def Za7:List Lf→List Value→List Value→Option Bool
 |[],[],[]=>some true
 |l::ls,x::xs,y::ys=>match ZmW l x y,Za7 ls xs ys with |some a,some b=>some (a&&b) |_,_=>none
 |_,_,_=>none
theorem ZeL:∀ {ls:List Lf} {xs ys:List Value} {b:Bool},Za7 ls xs ys=some b→xs.length=ls.length∧ys.length=ls.length
 |[],[],[],_,_=>⟨rfl,rfl⟩
 |[],[],_::_,_,e=>by simp[Za7]at e
 |[],_::_,_,_,e=>by simp[Za7]at e
 |_::_,[],_,_,e=>by simp[Za7]at e
 |_::_,_::_,[],_,e=>by simp[Za7]at e
 |l::ls,x::xs,y::ys,b,e=>by
  simp only[Za7]at e
  split at e
  ·rename_i a c h1 h2
   have:=ZeL h2
   simp[this.1,this.2]
  ·cases e
theorem ZgB:∀ {l1 l2:List Lf} {xs ys:List Value} {b:Bool},Za7 (l1++l2) xs ys=some b→
 ∃b1 b2,Za7 l1 (xs.take l1.length) (ys.take l1.length)=some b1∧Za7 l2 (xs.drop l1.length) (ys.drop l1.length)=some b2∧b=(b1&&b2)
 |[],l2,xs,ys,b,e=>⟨true,b,by simp[Za7],by simpa using e,by simp⟩
 |l::l1,l2,[],ys,b,e=>by simp[Za7]at e
 |l::l1,l2,x::xs,[],b,e=>by simp[Za7]at e
 |l::l1,l2,x::xs,y::ys,b,e=>by
  simp only[List.cons_append,Za7]at e
  split at e
  ·rename_i a c h1 h2
   obtain⟨b1,b2,e1,e2,rfl⟩:=ZgB h2
   simp only[zS]at e
   refine⟨a&&b1,b2,?_,by simpa using e2,by rw[←e,Bool.and_assoc]⟩
   simp only[List.length_cons,List.take_succ_cons,Za7,h1,e1]
  ·cases e
def asV(ag:Bool)(vs:List Value):Value:=if ag then .agg vs.toArray else vs.getD 0 undef
def ZLf(P:Program)(t:TypeId)(ls:List Lf)(d:Nat):Prop:=
 ∃td i,P.underlying t=some td∧P.info? t=some i∧i.size=ls.length∧(Zba td=false→ls.length=1)∧
  ∀D,d≤D→∀vs us b,Za7 ls vs us=some b→∀w,(Op.equalIn D t (asV (Zba td) vs) (asV (Zba td) us)).run P w=.ok b w
theorem ZhT{t:TypeId}{td:TypeDesc}{i:TypeInfo}{ls:List Lf}(ht:P.underlying t=some td)(hi:P.info? t=some i)(hs:i.size=ls.length)(h1:Zba td=false→ls.length=1)
 {VS:List Value} {off:Nat} (hl:off+ls.length≤VS.length) (w:World):(part t VS.toArray off).run P w=.ok (asV (Zba td) ((VS.drop off).take ls.length)) w:=by
 rw[ZhS ht rfl hi hs h1 (by simpa using hl)]
 unfold asV
 cases hag:Zba td with
 |true=>simp
 |false=>
  have:=h1 hag
  simp only[Bool.false_eq_true,if_false,this]
  simp[List.getD_eq_getElem?_getD]
theorem ZlX{d D:Nat}(hD:d≤D)(IH:∀t ls,Zfb P d t=some ls→ZLf P t ls d):∀(fs:List Field) (off:Nat) (ls:List Lf),ZfJ (Zfb P d) off fs=some ls→
 ∀(VS US:List Value) (b:Bool),Za7 ls (VS.drop off) (US.drop off)=some b→off≤VS.length→off≤US.length→∀w,(Op.eqFields D VS.toArray US.toArray fs).run P w=.ok b w
 |[],off,ls,hl,VS,US,b,hv,_,_,w=>by
  simp only[ZfJ,zS]at hl
  subst hl
  have:b=true:=by
   cases h1:VS.drop off<;>cases h2:US.drop off<;>rw[h1,h2]at hv<;>simp[Za7]at hv
   exact hv
  subst this
  simp[Op.eqFields]
 |f::fs,off,ls,hl,VS,US,b,hv,h1,h2,w=>by
  simp only[ZfJ]at hl
  split at hl
  ·rename_i hn ho
   split at hl
   ·rename_i l hlf
    split at hl
    ·rename_i r hr
     simp only[zS]at hl
     subst hl
     obtain⟨td,i,e1,e2,e3,e4,e5⟩:=IH _ _ hlf
     obtain⟨b1,b2,g1,g2,rfl⟩:=ZgB hv
     have hoff:f.offset=off:=by simpa using ho
     have hlen:=ZeL hv
     simp only[List.length_drop,List.length_append]at hlen
     have p1:=ZhT e1 e2 e3 e4 (VS:=VS) (off:=off) (by omega)
     have p2:=ZhT e1 e2 e3 e4 (VS:=US) (off:=off) (by omega)
     have hne : f.name ≠ "_" := by simpa using hn
     have ih:=ZlX hD IH fs (off+l.length) r hr VS US b2 (by simpa[List.drop_drop]using g2) (by omega) (by omega)
     simp only[Op.eqFields,hne,ne_eq,not_false_eq_true,if_true,hoff,Sem.run_bind,p1,p2,Result.andThen_ok,e5 D hD _ _ _ g1]
     cases b1
     ·simp
     ·simp only[Bool.not_true,Bool.false_eq_true,if_false,Bool.true_and]
      exact ih w
    ·cases hl
   ·cases hl
  ·cases hl
theorem Zqb{l:List Lf} :∀(n:Nat) {xs ys:List Value} {b:Bool},Za7 (List.replicate (n+1) l).flatten xs ys=some b→
 ∃b1 b2,Za7 l (xs.take l.length) (ys.take l.length)=some b1∧Za7 (List.replicate n l).flatten (xs.drop l.length) (ys.drop l.length)=some b2∧b=(b1&&b2):=fun n=>by
 intro xs ys b e
 rw[List.replicate_succ,List.flatten_cons]at e
 exact ZgB e
theorem Zpw{e:TypeId}{td:TypeDesc}{i:TypeInfo}{l:List Lf}{D:Nat}(e1:P.underlying e=some td)(e2:P.info? e=some i)(e3:i.size=l.length)(e4:Zba td=false→l.length=1)
 (e5:∀vs us b,Za7 l vs us=some b→∀w,(Op.equalIn D e (asV (Zba td) vs) (asV (Zba td) us)).run P w=.ok b w) {VS US:List Value} :
 ∀(n s:Nat) (b:Bool),Za7 (List.replicate n l).flatten (VS.drop (s*l.length)) (US.drop (s*l.length))=some b→(s+n)*l.length≤VS.length→(s+n)*l.length≤US.length→∀w,
 ((forIn (List.range' s n) ((none,()):Option Bool×Unit) (fun j _=>do
    let a ←part e VS.toArray (j*i.size)
    let c ←part e US.toArray (j*i.size)
    let r ←Op.equalIn D e a c
    if(!r)=true then pure (.done (some false,()))else pure (.yield (none,()))):Sem _).run P w)=.ok (if b then(none,())else(some false,())) w
 |0,s,b,hv,_,_,w=>by
  have:b=true:=by
   simp only[List.replicate_zero,List.flatten_nil]at hv
   cases h1:VS.drop (s*l.length)<;>cases h2:US.drop (s*l.length)<;>rw[h1,h2]at hv<;>simp[Za7]at hv
   exact hv
  subst this
  simp
 |n+1,s,b,hv,g1,g2,w=>by
  obtain⟨b1,b2,q1,q2,rfl⟩:=Zqb n hv
  have hs:s*l.length+l.length≤(s+(n+1))*l.length:=by
   have:(s+(n+1))*l.length=s*l.length+l.length+n*l.length:=by simp[Nat.add_mul];omega
   omega
  have p1:=ZhT e1 e2 e3 e4 (VS:=VS) (off:=s*l.length) (by omega)
  have p2:=ZhT e1 e2 e3 e4 (VS:=US) (off:=s*l.length) (by omega)
  have ih:=Zpw e1 e2 e3 e4 e5 (VS:=VS) (US:=US) n (s+1) b2 (by rw[Nat.add_mul,Nat.one_mul];simpa[List.drop_drop]using q2) (by rw[show s+1+n=s+(n+1) by omega];exact g1) (by rw[show s+1+n=s+(n+1) by omega];exact g2)
  rw[List.range'_succ,List.forIn_cons]
  simp only[Sem.run_bind,e3,p1,p2,Result.andThen_ok,e5 _ _ _ q1]
  cases b1
  ·simp
  ·simp only[Bool.not_true,Bool.false_eq_true,if_false,Sem.run_pure,Result.andThen_ok,Bool.true_and]
   rw[e3]at ih
   exact ih w
theorem ZiI:∀(d:Nat) (t:TypeId) (ls:List Lf),Zfb P d t=some ls→ZLf P t ls d
 |0,t,ls,hl=>by simp[Zfb]at hl
 |d+1,t,ls,hl=>by
  simp only[Zfb]at hl
  split at hl
  ·rename_i td i ht hi
   split at hl
   ·rename_i ls' hlt
    split at hl
    ·rename_i hsz
     simp only[zS]at hl
     subst hl
     have hsz:i.size=ls'.length:=by simpa using hsz
     have one:∀ {l:Lf} {D:Nat} {vs us:List Value} {b:Bool},Za7 [l] vs us=some b→∃x y,vs=[x]∧us=[y]∧ZmW l x y=some b:=by
      intro l D vs us b e
      have:=ZeL e
      match vs,us,this with
      |[x],[y],_=>
       refine⟨x,y,rfl,rfl,?_⟩
       simp only[Za7]at e
       split at e
       ·rename_i a c q1 q2
        simp only[zS]at q2 e
        subst q2
        rw[q1,←e,Bool.and_true]
       ·cases e
     unfold ZsS at hlt
     split at hlt
     ·rename_i k
      cases hlt
      refine⟨_,i,ht,hi,hsz,fun _=>rfl,fun D hD vs us b hv w=>?_⟩
      obtain⟨D',rfl⟩:∃D',D=D'+1:=⟨D-1,by omega⟩
      obtain⟨x,y,rfl,rfl,hxy⟩:=one (D:=D') hv
      unfold ZmW at hxy
      split at hxy<;>(try cases hxy)
      ·rename_i k1 a k2 b2 he
       split at hxy
       ·rename_i hk
        subst hk
        simp only[zS]at hxy
        subst hxy
        simp only[asV,Zba,Bool.false_eq_true,if_false,List.getD_cons_zero]
        exact run_equalIn_int w D' t k1 k a b2 ht
       ·cases hxy
      ·rename_i he;cases he
      ·rename_i he;cases he
     ·cases hlt
      refine⟨_,i,ht,hi,hsz,fun _=>rfl,fun D hD vs us b hv w=>?_⟩
      obtain⟨D',rfl⟩:∃D',D=D'+1:=⟨D-1,by omega⟩
      obtain⟨x,y,rfl,rfl,hxy⟩:=one (D:=D') hv
      unfold ZmW at hxy
      split at hxy<;>(try cases hxy)
      ·rename_i he;cases he
      ·simp only[asV,Zba,Bool.false_eq_true,if_false,List.getD_cons_zero]
       exact run_equalIn_bool w D' t _ _ ht
      ·rename_i he;cases he
     ·cases hlt
      refine⟨_,i,ht,hi,hsz,fun _=>rfl,fun D hD vs us b hv w=>?_⟩
      obtain⟨D',rfl⟩:∃D',D=D'+1:=⟨D-1,by omega⟩
      obtain⟨x,y,rfl,rfl,hxy⟩:=one (D:=D') hv
      unfold ZmW at hxy
      split at hxy<;>(try cases hxy)
      ·rename_i he;cases he
      ·rename_i he;cases he
      ·simp only[asV,Zba,Bool.false_eq_true,if_false,List.getD_cons_zero]
       exact run_equalIn_string w D' t _ _ ht
     ·rename_i fs
      split at hlt
      ·cases hlt
      ·rename_i hst
       have hfo:P.fieldsOf t=fs:=by simp only[Program.fieldsOf,ht]
       refine⟨_,i,ht,hi,hsz,fun e=>(by cases e),fun D hD vs us b hv w=>?_⟩
       obtain⟨D',rfl⟩:∃D',D=D'+1:=⟨D-1,by omega⟩
       simp only[asV,Zba,if_true]
       rw[run_equalIn_struct w D' t _ _ (by rw[hfo];exact ht) hst,hfo]
       exact ZlX (d:=d) (by omega) (fun t ls hh=>ZiI d t ls hh) fs.toList 0 ls' hlt vs us b (by simpa using hv) (Nat.zero_le _) (Nat.zero_le _) w
     ·rename_i n e
      split at hlt
      ·rename_i l hle
       simp only[zS]at hlt
       subst hlt
       obtain⟨te,ie,e1,e2,e3,e4,e5⟩:=ZiI d e l hle
       refine⟨_,i,ht,hi,hsz,fun e=>(by cases e),fun D hD vs us b hv w=>?_⟩
       obtain⟨D',rfl⟩:∃D',D=D'+1:=⟨D-1,by omega⟩
       have hlen:=ZeL hv
       have hfl:(List.replicate n l).flatten.length=n*l.length:=by simp
       rw[hfl]at hlen
       have key:=Zpw e1 e2 e3 e4 (fun vs us b hv w=>e5 D' (by omega) vs us b hv w) (VS:=vs) (US:=us) n 0 b (by simpa using hv) (by simp[hlen.1]) (by simp[hlen.2]) w
       simp only[asV,Zba,if_true]
       simp only[Op.equalIn,Sem.run_bind,run_underlying ht,Result.andThen_ok,ZbB e2,Std.Legacy.Range.forIn_eq_forIn_range']
       have hsz0:([:n]:Std.Legacy.Range).size=n:=by simp[Std.Legacy.Range.size]
       rw[hsz0]
       erw [key]
       cases b<;>simp
      ·cases hlt
     ·cases hlt
    ·cases hl
   ·cases hl
  ·cases hl
theorem Zlj:∀ {a b:List Lf},ZCu a b=true→a=b
 |[],[],_=>rfl
 | .i::l, .i::m,e=>by rw[Zlj (a:=l) (b:=m) e]
 | .b::l, .b::m,e=>by rw[Zlj (a:=l) (b:=m) e]
 | .s::l, .s::m,e=>by rw[Zlj (a:=l) (b:=m) e]
 |[],_::_,e=>by cases e
 |x::_,[],e=>by cases x<;>cases e
 | .i::_, .b::_,e=>by cases e
 | .i::_, .s::_,e=>by cases e
 | .b::_, .i::_,e=>by cases e
 | .b::_, .s::_,e=>by cases e
 | .s::_, .i::_,e=>by cases e
 | .s::_, .b::_,e=>by cases e
theorem Zsq{ok:Nat→Prop}{l:Lf}{x y:AV}{a b:Value}{c:Bool}(hl:ZFL l x=true)(he:eqC std x y=some c)(rx:Rel w ok h L x a)(ry:Rel w ok h L y b):ZmW l a b=some c:=by
 unfold eqC at he
 split at he
 ·rename_i k m k' n
  split at he
  ·rename_i hk
   have hk:=of_decide_eq_true hk
   subst hk
   cases rx;cases ry
   cases l<;>simp[ZFL]at hl
   simp only[zS]at he
   subst he
   simp only[ZmW,if_true,std]
   rfl
  ·cases he
 ·cases rx;cases ry
  cases l<;>simp[ZFL]at hl
  exact he
 ·cases rx;cases ry
  cases l<;>simp[ZFL]at hl
  simp only[zS]at he
  subst he
  simp only[ZmW,ByteArray.toList_eq,std]
 ·cases he
theorem ZoQ{ok:Nat→Prop} :∀ {ls:List Lf} {xs ys:zA} {vs us:List Value} {c:Bool},ZwM std ls xs ys=some c→RelL w ok h L xs vs→RelL w ok h L ys us→Za7 ls vs us=some c
 |[],[],[],vs,us,c,he,rx,ry=>by
  have e1:=rx.1;have e2:=ry.1
  cases vs<;>simp at e1
  cases us<;>simp at e2
  exact he
 |[],[],_::_,_,_,_,he,_,_=>by simp[ZwM]at he
 |[],_::_,_,_,_,_,he,_,_=>by simp[ZwM]at he
 |_::_,[],_,_,_,_,he,_,_=>by simp[ZwM]at he
 |_::_,_::_,[],_,_,_,he,_,_=>by simp[ZwM]at he
 |l::ls,x::xs,y::ys,vs,us,c,he,rx,ry=>by
  have e1:=rx.1;have e2:=ry.1
  cases vs with
  |nil=>simp at e1
  |cons v vs=>
   cases us with
   |nil=>simp at e2
   |cons u us=>
    have rx0:=rx.2 0 x v rfl rfl
    have ry0:=ry.2 0 y u rfl rfl
    have rx1:RelL w ok h L xs vs:=⟨by simpa using e1,fun j a b ha hb=>rx.2 (j+1) a b (by simpa using ha) (by simpa using hb)⟩
    have ry1:RelL w ok h L ys us:=⟨by simpa using e2,fun j a b ha hb=>ry.2 (j+1) a b (by simpa using ha) (by simpa using hb)⟩
    unfold ZwM at he
    split at he
    ·rename_i hl
     split at he
     ·rename_i a ha
      split at he
      ·simp only[zS]at he
       subst he
       have g1:=rx1.1;have g2:=ry1.1
       cases vs<;>simp at g1
       cases us<;>simp at g2
       simp only[Za7,Zsq hl ha rx0 ry0,Bool.and_true]
      ·cases he
     ·rename_i a ha _
      split at he
      ·rename_i b hb
       simp only[zS]at he
       subst he
       simp only[Za7,Zsq hl ha rx0 ry0,ZoQ hb rx1 ry1]
       cases a<;>rfl
      ·cases he
     ·cases he
    ·cases he
theorem ZjV{n:Nat}{r:Row}(hb:(ZiZ std n r).1=true):(ZiZ std n r).2=r.elems:=by
 unfold ZiZ at hb⊢
 split at hb
 ·rfl
 ·rename_i hne
  have hl:r.elems.length=n:=by simp only[Row.len_std]at hb;simpa[std]using hb
  apply List.ext_getElem?
  intro j
  rw[List.getElem?_map]
  by_cases hj:j<n
  ·rw[List.getElem?_range hj]
   simp only[Option.map_some]
   exact(Row.get_std (by omega)).symm
  ·rw[List.getElem?_eq_none (by simp;omega),List.getElem?_eq_none (by omega)]
   rfl
theorem ZnW{op:BinOp}{t:TypeId}{x y:Operand}{a b:Array Value}(hg:P.eqGuardType P.depth t=false)(w:World):(eqGuard op t x y (.agg a) (.agg b)).run P w=.ok () w:=by
 cases op<;>simp[eqGuard,hg]
theorem Zq0(H:HRel C h L w){ne:Bool}{op:BinOp}{t ty:TypeId}{ls:List Lf}{x y:AV}{x' y':Operand}(ho:o.op=.binOp op t x' y' ty)(hop:op=if ne then .neq else .eql)
 (hm:ZJC C.P t ls=true) (rx:ZaH C h L w x (ev x')) (ry:ZaH C h L w y (ev y')) (hv:ZId std ne ls x y=some (true,v)):Snd C h L w ev o h v:=by
 unfold ZJC at hm
 simp only[Bool.and_eq_true,Bool.not_eq_true']at hm
 obtain⟨⟨hg,ha⟩,hl⟩:=hm
 split at hl
 ·rename_i l hlv
  have:=Zlj hl
  subst this
  obtain⟨td,i,e1,e2,e3,e4,e5⟩:=ZiI 8 t l hlv
  rw[e1]at ha
  simp only at ha
  unfold ZId at hv
  split at hv
  ·rename_i r s
   split at hv
   ·rename_i b hb
    simp only[zS,zP,std_and]at hv
    obtain⟨⟨g1,g2⟩,rfl⟩:=hv
    rw[ZjV g1,ZjV g2]at hb
    obtain⟨vs,h1,h2,_⟩:=ZiO rx
    obtain⟨us,h3,h4,_⟩:=ZiO ry
    have hve:=ZoQ hb h2 h4
    have e:∀w,(Op.equal t (.agg vs) (.agg us)).run C.P w=.ok b w:=fun w=>by
     have:=e5 10000 (by omega) _ _ _ hve w
     simp only[ha,asV,if_true]at this
     exact this
    refine .pure H (r:=.bool (if ne then !b else b)) ?_ (by cases ne<;>exact .bool _)
    subst hop
    cases ne<;>simp[execOp,ho,h1,h3,ZnW hg,Go.binOp,e]
   ·cases hv
  ·cases hv
 ·cases hl
theorem ZpP(H:HRel C h L w){t e:TypeId}{x':Operand}(ho:o.op=.call { callee:=.builtin .cap,args:= #[x'],argTypes:= #[t] })(ht:C.P.underlying t=some (.slice e))(rx:ZaH C h L w .nils (ev x')):Snd C h L w ev o h (.int .i64 0):=by
 have hx:ev x'=.slice none 0 0:=by
  generalize ev x'=q at rx
  cases rx with |nils=>rfl
 refine .pure H (r:=.int .i64 0) ?_ (.int _ _)
 simp[execOp,ho,resolve,invoke,builtin,Builtin.cap_,hx,Zay ht,goInt]
theorem Zkr(H:HRel C h L w){t e:TypeId}{d:TypeDesc}{i:TypeInfo}{ln sz:Nat}{r:Row}{kd:IntKind}{n:Int}{x' ix':Operand}(ho:o.op=.index t x' ix')(rx:ZaH C h L w (.agg r) (ev x'))(ri:ZaH C h L w (.int kd n) (ev ix'))
 (ht:C.P.underlying t=some (.array ln e)) (hd:C.P.underlying e=some d) (hi:C.P.info? e=some i) (hag:Zba d=true) (hn:i.size=sz)
 (h0:0≤n) (hlt:n<(ln:Int)) (hl:Zfz std sz n+sz≤r.elems.length):Snd C h L w ev o h (.agg (r.sub std (Zfz std sz n) sz)):=by
 have hsc:Zfz std sz n=n.toNat*sz:=by
  unfold Zfz
  split
  ·rename_i hb;have:sz=1:=by simpa using hb
   subst this;simp[std]
  ·rfl
 rw[hsc]at hl⊢
 obtain⟨vs,hxv,hr,h1⟩:=ZiO rx
 have hp:=ZhS (P:=C.P) (w:=w) (vs:=vs) (off:=n.toNat*sz) hd hag hi hn (fun h=>by cases h) (by have:=hr.1;simp at this;omega)
 simp only[if_true]at hp
 refine .pure H (r:=.agg ((vs.toList.drop (n.toNat*sz)).take sz).toArray) ?_ ?_
 ·simp only[execOp,ho,Instr.index,Sem.run_bind,Zbm ri,asIntOf,Sem.run_pure,Result.andThen_ok,Zay ht,hxv,h0,hlt,and_self,if_true,ZbB hi,hn,hp]
 ·have hq:=hr.part (n.toNat*sz) sz
  refine .agg _ _ rfl _ ?_ (fun v hv=>h1 v ?_) ?_
  ·rw[Row.sub_std];simpa[sub3]using hq.1
  ·have hv:v∈((vs.toList.drop (n.toNat*sz)).take sz):=by simpa using hv
   exact Array.mem_toList_iff.1 (List.mem_of_mem_drop (List.mem_of_mem_take hv))
  ·intro j u v hu hv
   rw[Row.sub_std]at hu
   exact hq.2 j u v hu (by simpa using hv)
theorem ZeP{k:IntKind} :∀ {xs:zA} {l:zI},ZeM k xs=some l→l.map (.int k)=xs
 |[],l,h=>by simp only[ZeM,zS]at h;subst h;rfl
 |x::xs,l,h=>by
  cases x with
  |int k' n=>
   simp only[ZeM]at h
   split at h
   ·rename_i hk
    split at h
    ·rename_i m hm
     simp only[zS]at h
     subst h
     rw[List.map_cons,ZeP hm,of_decide_eq_true hk]
    ·cases h
   ·cases h
  |_=>simp[ZeM]at h
theorem Zha(r:Row):r.toInts.elems=r.elems:=by
 unfold Row.toInts
 split
 ·rename_i k n t
  split
  ·rename_i l hl
   simp[Row.elems,ZeP hl]
  ·rfl
 ·rfl
theorem ZpT{r:Row}{x:Value}(rx:ZaH C h L w (.agg r) x):ZaH C h L w (.agg r.toInts) x:=by
 obtain⟨vs,rfl,hr,h1⟩:=ZiO rx
 exact .agg _ r.elems (Zha r).symm _ (by simpa using hr.1) h1 (fun j u v hu hv=>hr.2 j u v hu (by simpa using hv))
theorem ZlB{ok:Nat→Prop} :∀ {xs:zA} {l vs:List Value},ZpY xs=some l→RelL w ok h L xs vs→vs=l
 |[],l,vs,hv,hr=>by
  simp only[ZpY,zS]at hv
  subst hv
  have:=hr.1
  cases vs<;>simp at this
  rfl
 |x::xs,l,vs,hv,hr=>by
  cases x with
  |int k n=>
   simp only[ZpY]at hv
   split at hv
   ·rename_i l' hl
    simp only[zS]at hv
    subst hv
    cases vs with
    |nil=>have:=hr.1;simp at this
    |cons v vs=>
     have h0:=hr.2 0 _ v rfl rfl
     cases h0
     have ht:=ZlB hl (vs:=vs) ⟨by have:=hr.1;simpa using this,fun j a b ha hb=>hr.2 (j+1) a b (by simpa using ha) (by simpa using hb)⟩
     rw[ht]
   ·cases hv
  |_=>simp[ZpY]at hv
theorem Zrb{ok:Nat→Prop}{x:AV}{u v:Value}(hu:Zt1 x=some u)(hr:Rel w ok h L x v):v=u:=by
 unfold Zt1 at hu
 split at hu
 ·cases hu;cases hr;rfl
 ·rename_i xs
  split at hu
  ·rename_i l hl
   simp only[zS]at hu
   subst hu
   cases hr with
   |agg _ ys hy vs h1 h2 h3=>
    simp only[Row.elems]at hy
    subst hy
    have:=ZlB (vs:=vs.toList) hl ⟨by simpa using h1,fun j a b ha hb=>h3 j a b ha (by simpa using hb)⟩
    rw[←this]
  ·cases hu
 ·rename_i k l
  simp only[zS]at hu
  subst hu
  cases hr with
  |agg _ ys hy vs h1 h2 h3=>
   simp only[Row.elems]at hy
   subst hy
   congr 1
   apply Array.ext'
   apply List.ext_getElem?
   intro j
   simp only[List.getElem?_map]
   cases hj:l[j]? with
   |none=>
    have:l.length≤j:=by simpa using hj
    simp only[Option.map_none]
    exact List.getElem?_eq_none (by simp at h1;simp;omega)
   |some n=>
    have hlt:=(List.getElem?_eq_some_iff.1 hj).1
    have hv:vs[j]? =some (vs[j]'(by simp at h1;omega)):=Array.getElem?_eq_getElem _
    have:=h3 j (.int k n) _ (by simp[hj]) hv
    generalize vs[j]'(by simp at h1;omega)=q at this hv
    cases this
    simp only[Option.map_some]
    rw[←hv];simp
 ·cases hu
theorem ZjP{ok:Nat→Prop} :∀ {l:List Value} {xs:zA},ZeR l=some xs→RelL w ok h L xs l∧∀v∈l,v.oneCell'=true
 |[],xs,hv=>by
  simp only[ZeR,zS]at hv
  subst hv
  exact⟨RelL.nil,by simp⟩
 |v::l,xs,hv=>by
  cases v with
  |int k n=>
   simp only[ZeR]at hv
   split at hv
   ·rename_i l' hl
    simp only[zS]at hv
    subst hv
    obtain⟨g1,g2⟩:=ZjP hl
    exact⟨RelL.cons (.int _ _) g1,by intro v hv;rcases List.mem_cons.1 hv with rfl |hv;· rfl
                                     ·exact g2 v hv⟩
   ·cases hv
  |_=>simp[ZeR]at hv
theorem Zt0{ok:Nat→Prop}{u:AV}{v:Value}(hu:ZHE v=some u):Rel w ok h L u v:=by
 unfold ZHE at hu
 split at hu
 ·cases hu;exact .int _ _
 ·rename_i l
  split at hu
  ·rename_i xs hx
   simp only[zS]at hu
   subst hu
   obtain⟨g1,g2⟩:=ZjP (w:=w) (h:=h) (L:=L) (ok:=ok) hx
   exact .agg _ _ rfl ⟨l⟩ (by simpa[Row.elems]using g1.1) (fun v hv=>g2 v (by simpa using hv)) (fun j a b ha hb=>g1.2 j a b ha (by simpa using hb))
  ·cases hu
 ·cases hu
theorem Zme(H:HRel C h L w){f:FuncId}{x:AV}{x':Operand}(ho:o.op=.makeFunc (.func f) #[x'] #[])(rx:ZaH C h L w x (ev x')):
 Snd C h L w ev o h (.mth f x):=by
 refine .pure H (r:=.func (.func f) #[ev x'] #[]) ?_ (.mth _ _ _ rx)
 simp[execOp,ho,Instr.makeFunc]
theorem ZnP(H:HRel C h L w){f:FuncId}{x:AV}{x':Operand}{u:Value}(ho:o.op=.makeFunc (.func f) #[x'] #[])(rx:ZaH C h L w x (ev x'))(hu:Zt1 x=some u):
 Snd C h L w ev o h (.val (.func (.func f) ⟨[u]⟩ ⟨[]⟩)):=by
 have:=Zrb hu rx
 refine .pure H (r:=.func (.func f) ⟨[u]⟩ ⟨[]⟩) ?_ (.val _)
 simp[execOp,ho,this,Instr.makeFunc]
theorem ZuS{v:AV}{x:Value}{args avs:zA}{vs:List Value}{f:FuncId}{ok:Nat→Prop}(hf:ZAv v args=some (f,avs))(hr:Rel w ok h L v x)(ha:RelL w ok h L args vs):
 ∃b c:Array Value,x=.func (.func f) b c∧RelL w ok h L avs (b.toList++vs++c.toList):=by
 unfold ZAv at hf
 split at hf
 ·simp only[zS,zP]at hf
  obtain⟨rfl,rfl⟩:=hf
  cases hr with
  |fn _ _ us hl hrr=>exact⟨#[],us,rfl,by simpa using RelL.append ha ⟨by simpa using hl,fun j u v hu hv=>hrr j u v hu (by simpa using hv)⟩⟩
 ·split at hf
  ·rename_i u hu
   simp only[zS,zP]at hf
   obtain⟨rfl,rfl⟩:=hf
   cases hr with
   |val _=>exact⟨_,_,rfl,by simpa using RelL.cons (Zt0 hu) ha⟩
  ·cases hf
 ·cases hf
end
end Go.Proofs.YtkeoeooghhjibaaGreatDoor
