/- What a strings row's condition and the world's shape say of the library's variables. No condition. -/
import Derived.Test.YtkeoeooghhjibaaGreatDoorSzg
import Derived.Test.YtkeoeooghhjibaaGreatDoorRows
import Derived.LaidLaws
import Derived.Stop.LaidErr
import Derived.Shelf.Vars
import Derived.MakeChecks
import Derived.Handed
import Derived.LaidMore
namespace Go.Proofs.YtkeoeooghhjibaaGreatDoor
open Go.RowKit Go.ChangeShapes
theorem Zmz{P:Program}{n nm:String}{d:DataW Unit}{r:List (String×DataW Unit)}{W:World}{g:Nat}{ti:TypeId}{ms:Array (String×TypeId)}
 (h:laidMet P ((n, .iface nm d)::r) W) (hg:P.globalNamed n=some g) (ht:(P.globals[g]?).map (·.type)=some ti) (hi:P.underlying ti=some (.interface ms)):∃u v,W.cell? ⟨g,0,none⟩=some (.iface u v):=by
 obtain⟨ps,⟨g0,t0,cs0,f0,p0,q0,hg0,ht0,hv0,hd0,_,e0⟩,_,_⟩:=h
 obtain rfl:=Option.some.inj (hg.symm.trans hg0)
 obtain rfl:=Option.some.inj (ht.symm.trans ht0)
 obtain⟨l0⟩:=cs0
 obtain⟨f1,u,v,e,_,_⟩:=iface_of_trod hi hd0
 refine⟨u,v,?_⟩
 have h1:=World.var?_cell hg0 hv0 0
 simp only at e
 subst e
 simpa using h1
theorem ZzI{L:List (String×DataW Unit)}{a b c d:String×DataW Unit}{n4 n5 n2 m4 m5:String}{d4 d5:DataW Unit}{r:List (String×DataW Unit)}{W:World}
 (hL:L=a::b::(n2,Lib.tabData .u64 Lib.pow10Tab)::c::(n4, .iface m4 d4)::(n5, .iface m5 d5)::d::r) (hp:(L.all fun x=>x.2.handleName?.isNone)=true)
 (g2:Tryz.prog.globalNamed n2=some 5) (g4:Tryz.prog.globalNamed n4=some 2) (g5:Tryz.prog.globalNamed n5=some 1)
 (hsh:W.ShapedOpen Tryz.prog) (hl:laidMetH Tryz.prog L W):GoodW Tryz.prog W W.heap.size 0:=by
 rw[MakeChecks.laidMetH_plain _ _ _ hp]at hl
 subst hL
 have h2:=hl.tail.tail
 have h4:=h2.tail.tail
 have h5:=h4.tail
 have hi:∃ms,Tryz.prog.underlying 212=some (.interface ms):=by
  have hb:(match Tryz.prog.underlying 212 with |some (.interface _)=>true |_=>false)=true:=by kernel_rfl
  split at hb
  ·rename_i ms hm;exact⟨ms,hm⟩
  ·cases hb
 obtain⟨ms,hi⟩:=hi
 obtain⟨u1,v1,e1⟩:=Zmz (ti:=212) h5 g5 (by kernel_rfl) hi
 obtain⟨u2,v2,e2⟩:=Zmz (ti:=212) h4 g4 (by kernel_rfl) hi
 have e0:=cell_of_shapedOpen_int (g:=0) (t:=3) (k:=.i64) hsh (by decide +kernel) (zero:= #[.int .i64 0]) (by kernel_rfl) rfl (by kernel_rfl) (by kernel_rfl) (by kernel_rfl)
 have e5:=Lib.tabIs_of_head (k:=.u64) (t:=283) (e:=248) (n:=20) g2 (by kernel_rfl) (by kernel_rfl) (by kernel_rfl) (by kernel_rfl) (by kernel_rfl) h2
 have hv:Zru W 5=some (Lib.pow10Tab.map fun z=>Value.int .u64 z).toArray:=by
  unfold Lib.TabIs World.var? at e5
  rw[g2]at e5
  exact e5
 have h6:6≤W.heap.size:=by
  rcases Nat.lt_or_ge 5 W.heap.size with q |q
  ·exact q
  ·unfold Zru at hv
   rw[Array.getElem?_eq_none q]at hv
   cases hv
 exact⟨⟨e0,⟨u1,v1,e1⟩,⟨u2,v2,e2⟩,hv⟩,h6, .inl h6⟩
theorem ZnG{W:World}(hsh:W.ShapedOpen Tryz.prog)(hl:laidMetH Tryz.prog Rows.commandModelStringsRow.laid W):GoodW Tryz.prog W W.heap.size 0:=
 ZzI rfl (by kernel_rfl) (by kernel_rfl) (by kernel_rfl) (by kernel_rfl) hsh hl
def ZuA:DataW Unit→Array Value
 | .agg ds=>(ds.map fun d=>match d with | .lit (.int k n)=>Value.int k n |_=>.nilIface).toArray
 |_=> #[]
noncomputable def strWorld (os:Os):World:=
 { World.doorLaid Tryz.prog 400 os with heap:=(World.doorLaid Tryz.prog 400 os).heap.modify 3 fun o=>match o with | .cells _ a b=>.cells (ZuA Go.Pinned.utf8First) a b |o=>o }
theorem ZgH{H:Type}{enc:TypeId×Value→H}{a:Assume}{C:Checked}{os:Os}{f:FuncId}{fn:Func}{s:ChangeSpec}{conds:List PathCond}{apart fresh handsOn again:Bool}{X:World→Array Value→Prop}
 (hX:∀(w w':World) (args:Array Value),w.heap=w'.heap→X w args→X w' args)
 (own:ownKnob C.prog.godebug=none) (started:os.Started) (noInit:C.prog.inits.idxOf? f=none) (hfn:C.prog.funcs[f]? =some fn)
 (witness:∃(w:World) (tape:Tape) (i:Input),w.os=os∧(w.forCall tape i).Shaped C.prog∧i.vars=[]∧Input.okWide C.prog (w.forCall tape i) .any w.heap.size f i∧
   ((s.pre enc C.prog fn conds apart (w.forCall tape i).memory i.args∧X (w.forCall tape i).memory i.args)∧sizedMet enc C.prog fn (OpenSpec.ofChange s) apart (w.forCall tape i).memory i.args)∧a.holds C.prog (lone (Frame.enter C.prog f i.args .normal) [] (w.forCall tape i)))
 (contract:∀(W:World) (base:Nat) (args:Array Value) (ds gs:List (DataW H)) (before:List MemPlace),
   (∀(j:Nat) t v,fn.params[j]? =some t→args[j]? =some v→Value.okWide C.prog W .any base t v)→
   DataW.Whole enc C.prog fn.params.toList s.vars apart W args.toList ds gs before→
   conds.all (PathCond.test C.prog ⟨fn.params.toList,ds,s.plain.varTypes C.prog,gs⟩)=true→
   (DataW.weightsEach C.prog (fn.params.toList++s.plain.varTypes C.prog) (ds++gs)).all (· ≤reachBytes)=true→W.ShapedOpen C.prog→X W args→
   a.holds C.prog (lone (Frame.enter C.prog f args .normal) [] W)→
   Calls C.prog f args W fun e W'=>∃v,e=.returned v∧s.post enc C.prog fn apart fresh handsOn again W args v W'):
 ReturnsInHanded a C os f .any (fun w args=>(s.pre enc C.prog fn conds apart w args∧X w args)∧sizedMet enc C.prog fn (OpenSpec.ofChange s) apart w args) (s.post enc C.prog fn apart fresh handsOn again):=by
 refine returnsInHanded_of_calls own started noInit witness ?_
 intro w tape i _ hsh _ hok hpre hholds
 obtain⟨_,_,_,fn',hfn',_,_,_,_,hval⟩:=hok
 have e:fn'=fn:=Option.some.inj (hfn'.symm.trans hfn)
 subst e
 obtain⟨⟨⟨ds,gs,before,hw,hc⟩,hx⟩,hz⟩:=hpre
 have hw':=DataW.Whole.of_heap (w':=w.forCall tape i) (by rfl) hw
 refine(contract (w.forCall tape i) w.heap.size i.args ds gs before hval hw' hc (hz.weights hw) hsh (hX _ _ _ (by rfl) hx) hholds).mono fun e W' ⟨v,he,hp⟩=>?_
 subst he
 exact ChangeSpec.post_blind hp
end Go.Proofs.YtkeoeooghhjibaaGreatDoor
/- Arguments' numbers within their kinds: a model's. No condition. -/
namespace Go.Proofs.YtkeoeooghhjibaaGreatDoor
theorem ZiL{n:Int}(h:(Lit.int .i64 n).wf=true):Zfa n=true:=by
 have h2:IntKind.i64.min≤n∧n≤IntKind.i64.max:=by simpa[Lit.wf]using h
 exact decide_eq_true h2
theorem Zrj{ss:List Sh}{u:AV}(h:Cf (.big (.agg ss)) u):∃l:List AV,u=.list (.big (.agg ss) l)∧∀x∈l,wfE ss x:=by
 obtain⟨⟨a,rfl⟩,hw,_⟩:=h
 exact⟨_,rfl,hw⟩
theorem Zst{us:List AV}(h:Cfs [.big .str, .big (.agg [.str, .int .i64]), .big (.agg [.str, .int .i64, .int .i64, .int .i64, .int .i64])] us):∃ms ks rs,us=[.list (.big .str ms), .list (.big (.agg [.str, .int .i64]) ks), .list (.big (.agg [.str, .int .i64, .int .i64, .int .i64, .int .i64]) rs)]∧(∀x∈ks,ZC1 x=true)∧∀x∈rs,ZBc x=true:=by
 obtain⟨u,r,rfl,h1,h⟩:=Zlh h
 obtain⟨u2,r,rfl,h2,h⟩:=Zlh h
 obtain⟨u3,r,rfl,h3,h⟩:=Zlh h
 obtain rfl:=Zxm h
 obtain⟨a,rfl⟩:=ZEw h1
 obtain⟨b,rfl,hb⟩:=Zrj h2
 obtain⟨c,rfl,hc⟩:=Zrj h3
 refine⟨a,b,c,rfl,fun x hx=>?_,fun x hx=>?_⟩
 ·have:=ZiL (hb x hx 1 .i64 rfl)
  simp[ZC1,Zb7,this]
 ·have q1:=ZiL (hc x hx 1 .i64 rfl)
  have q2:=ZiL (hc x hx 2 .i64 rfl)
  have q3:=ZiL (hc x hx 3 .i64 rfl)
  have q4:=ZiL (hc x hx 4 .i64 rfl)
  simp[ZBc,Zb7,q1,q2,q3,q4]
end Go.Proofs.YtkeoeooghhjibaaGreatDoor
