/- FormatWord of the program, walked. No condition. -/
import Derived.Test.YtbbemleognkdhaaCl0
import Derived.WalkKit
import Derived.BigCall
import Derived.KernelRfl
namespace Go.Proofs.Ytbbemleognkdhaa
open Go.RowKit (Below)
open Go.Shelf Go.RowKit
set_option maxHeartbeats 4000000 in
set_option maxRecDepth 1000000 in
theorem Zfk(n lo hi:Int)(w:World):Calls Try.prog 35 #[.int .i64 n, .int .i64 lo, .int .i64 hi] w fun e w'=>e=.returned (.bool (decide (lo≤n)&&decide (n≤hi)))∧w'=w:=by
 go_enter Try.func35,Try.ntmps35
 go_wp2
 all_goals go_ret
 all_goals (simp;omega)
set_option maxHeartbeats 4000000 in
set_option maxRecDepth 1000000 in
theorem ZgP(n:Int)(w:World):Calls Try.prog 21 #[.int .i64 n] w fun e w'=>e=.returned (.bool (decide (0≤n)&&decide (n≤15)))∧w'=w:=by
 go_enter Try.func21,Try.ntmps21
 go_wp2_with (go_at_call 35;refine(Zfk n 0 15 _).mono ?_)
 rintro e w' ⟨rfl,rfl⟩
 go_wp2
 go_ret
 simp
def ZhF(n:Int):UInt8:=if 0≤n∧n≤15 then([48,49,50,51,52,53,54,55,56,57,97,98,99,100,101,102]:List UInt8).getD n.toNat 0 else 63
def ZbW(xs:List Int):List UInt8:=xs.map ZhF
set_option maxHeartbeats 4000000 in
set_option maxRecDepth 1000000 in
theorem Zgu(b o cap:Nat)(xs:List Int)(w:World)(hb:b<w.heap.size)(hc:∀(j:Nat) x,xs[j]? =some x→w.cell? ⟨b,o+j,none⟩=some (.int .i64 x))(hn:xs.length≤1000000):
 Calls Try.prog 6 #[.slice (some ⟨b,o,none⟩) xs.length cap] w fun e w'=>e=.returned (.string ⟨(ZbW xs).toArray⟩)∧Below w.heap.size w w':=by
 go_enter Try.func6,Try.ntmps6
 go_wp2
 go_loopw [8] (fun i wr=>∃k:Nat,k≤xs.length∧i=.int .i64 k∧Lib.IsBuilder 54 5 w.heap.size w.heap.size (Lib.byteCells (ZbW (xs.take k))) wr∧Below w.heap.size w wr) (fun i _=>xs.length-(intOf i).toNat)
 case atStart=>
  refine⟨0,Nat.zero_le _,rfl,Lib.fresh_isBuilder 54 5 w,(Below.refl _ w).alloc (Nat.le_refl _) _⟩
 case round=>
  obtain⟨k,hk,rfl,hI,hW⟩:=hrel
  by_cases hlt:k<xs.length
  ·obtain⟨x,hx⟩:∃x,xs[k]? =some x:=⟨_,List.getElem?_eq_getElem hlt⟩
   have hcw:=hc k x hx
   have hck:wr.cell? ⟨b,o+k,none⟩=some (.int .i64 x):=by
    rw[←hcw];simp only[World.cell?];rw[hW.block b hb]
   have hsz:w.heap.size≤wr.heap.size:=hW.size
   have htk:xs.take (k+1)=xs.take k++[x]:=by rw[List.take_add_one,hx];rfl
   have hlen:(Lib.byteCells (ZbW (List.take k xs))).length≤1000000:=by rw[Lib.byteCells_length];simp[ZbW];omega
   clear hc hx hcw
   go_wp2_with (go_at_call 21;refine(ZgP x _).mono ?_)
   rintro e w' ⟨rfl,rfl⟩
   by_cases h15:0≤x∧x≤15
   ·have hdec:(decide (0≤x)&&decide (x≤15))=true:=by simp[h15.1,h15.2]
    rw[hdec]
    clear hdec
    obtain⟨h0,h1⟩:=h15
    have hdig:∀h:x.toNat<({ data:= #[48,49,50,51,52,53,54,55,56,57,97,98,99,100,101,102] } :ByteArray).size,({ data:= #[48,49,50,51,52,53,54,55,56,57,97,98,99,100,101,102] } :ByteArray)[x.toNat]=ZhF x:=by
     intro h
     unfold ZhF
     rw[if_pos ⟨h0,h1⟩,List.getD_eq_getElem?_getD,List.getElem?_eq_getElem (by simp;omega)]
     rfl
    go_wp2_with fail
    refine(Zbm w.heap.size w.heap.size _ _ _ hI (by omega) hsz).mono ?_
    rintro e W1 ⟨rfl,h1,b1⟩
    clear hdig
    go_wp2
    go_roundw
    case rel=>
     refine⟨k+1,by omega,by go_num,?_,hW.trans b1⟩
     rw[htk,ZbW,List.map_append,Lib.byteCells_append]
     exact Or.inr h1
    case measure=> 
     simp[intOf];omega
   ·have hdec:(decide (0≤x)&&decide (x≤15))=false:=by simp;omega
    rw[hdec]
    clear hdec
    go_wp2_with (go_at_call 22;refine(Zbm w.heap.size w.heap.size _ 63 _ hI (by omega) hsz).mono ?_)
    rintro e W1 ⟨rfl,h1,b1⟩
    go_wp2
    go_roundw
    case rel=>
     refine⟨k+1,by omega,by go_num,?_,hW.trans b1⟩
     have hd:ZhF x=63:=by unfold ZhF;rw[if_neg h15]
     rw[htk,ZbW,List.map_append,Lib.byteCells_append]
     show Lib.IsBuilder 54 5 _ _ (_++Lib.byteCells [ZhF x]) _
     rw[hd]
     exact Or.inr h1
    case measure=> 
     simp[intOf];omega
  ·have hk:k=xs.length:=by omega
   subst hk
   rw[List.take_length]at hI
   go_wp2_with (go_at_call 23;refine(Zbj w.heap.size w.heap.size (ZbW xs) _ hI hW.size).mono ?_)
   rintro e W1 ⟨rfl,b1⟩
   go_wp2
   go_ret
   exact⟨rfl,hW.trans b1⟩
set_option maxHeartbeats 4000000 in
set_option maxRecDepth 1000000 in
theorem Zhh(a:Option Addr)(cap:Nat)(w:World):Calls Try.prog 6 #[.slice a 0 cap] w fun e w'=>e=.returned (.string ⟨(ZbW []).toArray⟩)∧Below w.heap.size w w':=by
 go_enter Try.func6,Try.ntmps6
 go_wp2
 go_loopw [8] (fun i wr=>i=.int .i64 0∧Lib.IsBuilder 54 5 w.heap.size w.heap.size (Lib.byteCells (ZbW [])) wr∧Below w.heap.size w wr) (fun i _=>0)
 case atStart=>
  refine⟨rfl,Lib.fresh_isBuilder 54 5 w,(Below.refl _ w).alloc (Nat.le_refl _) _⟩
 case round=>
  obtain⟨rfl,hI,hW⟩:=hrel
  go_wp2_with (go_at_call 23;refine(Zbj w.heap.size w.heap.size (ZbW []) _ hI hW.size).mono ?_)
  rintro e W1 ⟨rfl,b1⟩
  go_wp2
  go_ret
  exact⟨rfl,hW.trans b1⟩
theorem Zey(xs:List Int):ZbW xs=xs.map ZhF:=rfl
attribute [irreducible] ZbW
end Go.Proofs.Ytbbemleognkdhaa
/- Contracts as a list. No condition. -/
namespace Go.Proofs.Ytbbemleognkdhaa
open Go.RowKit (Below)
theorem ZgD{P:Program}{w w':World}{okA:Nat→Prop}{L:Lay}(hb:Below w.heap.size w w')(hG:GoodW P w w.heap.size 0):HRel (Ctx.of P w okA []) [] L w':=
 ⟨hb,fun _ _ ht=>absurd rfl ht.tag,fun _ _=>trivial,fun _ _ _ _ ht=>absurd rfl ht.tag,fun _ _ ht=>absurd rfl ht.tag,fun k hk _=>hb.block k hk,Nat.le_refl _,hG⟩
theorem ZnY{w:World}{ok:Nat→Prop}{h:Zab}{L:Lay}{a:AV}{vs:Array Value}(hr:RelL w ok h L [a] vs.toList):∃x,vs= #[x]∧Rel w ok h L a x:=by
 obtain⟨l⟩:=vs
 match l,hr with
 |[],hr=>cases hr.1
 |[x],hr=>exact⟨x,rfl,hr.2 0 a x rfl rfl⟩
 |_::_::_,hr=>have:=hr.1;simp at this
theorem ZnU{w:World}{ok:Nat→Prop}{h:Zab}{L:Lay}{a b:AV}{vs:Array Value}(hr:RelL w ok h L [a,b] vs.toList):∃x y,vs= #[x,y]∧Rel w ok h L a x∧Rel w ok h L b y:=by
 obtain⟨l⟩:=vs
 match l,hr with
 |[],hr=>cases hr.1
 |[_],hr=>have:=hr.1;simp at this
 |[x,y],hr=>exact⟨x,y,rfl,hr.2 0 a x rfl rfl,hr.2 1 b y rfl rfl⟩
 |_::_::_::_,hr=>have:=hr.1;simp at this
theorem ZpN{w:World}{ok:Nat→Prop}{h:Zab}{L:Lay}{s:List UInt8}{x:Value}(hr:Rel w ok h L (.str s) x):x=.string ⟨s.toArray⟩:=by cases hr;rfl
theorem Zlv{w:World}{ok:Nat→Prop}{h:Zab}{L:Lay}{k:IntKind}{n:Int}{x:Value}(hr:Rel w ok h L (.int k n) x):x=.int k n:=by cases hr;rfl
theorem ZjQ(xs:List Int)(h:xs.length≤1000000):Zaf Try.prog 6 [.list (.ints .i64 xs)] (.str (ZbW xs)) none:=by
 intro w okA L vs hargs _ hG
 obtain⟨x,rfl,hx⟩:=ZnY hargs
 have hel:(Row.ints .i64 xs).elems=xs.map fun v=>AV.int .i64 v:=rfl
 by_cases hne:xs=[]
 ·subst hne
  obtain⟨a,c,rfl⟩:∃a c,x=.slice a 0 c:=by
   cases hx with
   |nil _ a c _=>exact⟨a,c,rfl⟩
   |list _ ys hy ad n cap sz cs hb hok hn=>rw[hel]at hy;subst hy;exact⟨some ad,cap,by rw[hn];rfl⟩
  refine(Zhh a c w).mono ?_
  rintro e w' ⟨rfl,hb⟩
  exact⟨_,L,rfl,hb,ZgD hb hG, .str _⟩
 ·cases hx with
  |nil _ a c h0=>rw[hel]at h0;exact absurd (List.map_eq_nil_iff.1 h0) hne
  |list _ ys hys ad n cap sz cs hb hok hn hcap hsz hl h1 hc hp hrr=>
   subst hys
   have hfl:Zad (Row.ints .i64 xs).elems=xs.map fun v=>AV.int .i64 v:=by rw[hel];exact ZaE (fun x hx=>by obtain⟨y,_,rfl⟩:=List.mem_map.1 hx;rfl)
   have hnl:n=xs.length:=by rw[hn,hel,List.length_map]
   subst hnl
   rw[hfl]at hl hrr
   rw[List.length_map]at hl
   have hadz:ad=⟨ad.block,ad.off,none⟩:=by
    have hx0:0<xs.length:=List.length_pos_iff.2 hne
    obtain⟨v,hv⟩:∃v,cs[0]? =some v:=⟨_,List.getElem?_eq_getElem (by omega)⟩
    have:=Zez (hc 0 v hv)
    cases ad with
    |mk b0 o0 s0=>
     simp only[Addr.add,if_true]at this
     rw[this]
   have hcs:∀(j:Nat) z,xs[j]? =some z→w.cell? ⟨ad.block,ad.off+j,none⟩=some (.int .i64 z):=fun j z hj=>by
    have hjl:j<xs.length:=(List.getElem?_eq_some_iff.1 hj).1
    obtain⟨v,hv⟩:∃v,cs[j]? =some v:=⟨_,List.getElem?_eq_getElem (by omega)⟩
    have hr:=hrr j (.int .i64 z) v (by rw[List.getElem?_map,hj];rfl) hv
    obtain rfl:=Zlv hr
    have:=hc j _ hv
    rw[hadz]at this
    by_cases hj0:j=0
    ·subst hj0;simpa[Addr.add]using this
    ·simpa[Addr.add,hj0]using this
   have c:=Zgu ad.block ad.off cap xs w hb hcs h
   rw[←hadz]at c
   refine c.mono ?_
   rintro e w' ⟨rfl,hbe⟩
   exact⟨_,L,rfl,hbe,ZgD hbe hG, .str _⟩
def ixB(s:List UInt8)(c:Int):Int:=Lib.indexByte s c.toNat.toUInt8
theorem ZkK(s:List UInt8)(c:Int):Zaf Try.prog 24 [.str s, .int .u8 c] (.int .i64 (ixB s c)) none:=by
 intro w okA L vs hargs _ hG
 obtain⟨x,y,rfl,hx,hy⟩:=ZnU hargs
 obtain rfl:=ZpN hx
 obtain rfl:=Zlv hy
 refine(ZcH ⟨s.toArray⟩ c w).mono ?_
 rintro e w' ⟨rfl,rfl⟩
 exact⟨_,L,rfl,Below.refl _ _,ZgD (Below.refl _ _) hG, .int _ _⟩
def digs:List UInt8:=[48,49,50,51,52,53,54,55,56,57,97,98,99,100,101,102]
def dv(c:Int):Int:=ixB digs c
theorem Zr6(c:Int):dv c=Lib.indexByte digs c.toNat.toUInt8:=rfl
attribute [irreducible] ixB
def k6:Ctr:=⟨6,0,fun _ a=>match a with |[.list (.ints .i64 xs)]=>some (decide (xs.length≤1000000), .str (ZbW xs),none) |_=>none⟩
theorem Zu0:k6.OK Try.prog:=fun pa args r fr h=>by
 simp only[k6]at h
 split at h
 ·simp only[Option.some.injEq,Prod.mk.injEq,decide_eq_true_eq]at h
  obtain⟨h0,rfl,rfl⟩:=h
  exact ZjQ _ h0
 ·cases h
def k24:Ctr:=⟨24,0,fun _ a=>match a with |[.str s, .int .u8 c]=>some (true, .int .i64 (ixB s c),none) |_=>none⟩
theorem Zsj:k24.OK Try.prog:=fun pa args r fr h=>by
 simp only[k24]at h
 split at h
 ·cases h
  exact ZkK _ _
 ·cases h
def N1:List Ctr:=[k6,k24]++N0
theorem ZbE:ZaX Try.prog N1:=⟨Zu0,⟨Zsj,ZtR⟩⟩
end Go.Proofs.Ytbbemleognkdhaa
/- Paths of functions, printed by the explorer (Gx). No condition. -/
namespace Go.Proofs.Ytbbemleognkdhaa
set_option maxRecDepth 100000
set_option linter.unusedVariables false
def Zv1(n l:Int):AFrame:={ fn:=5,N:=18,env:=[(0,AV.int .i64 n),(1,AV.int .i64 l)],todo:=[.code a5.code],defs:=[],rnd:=none,ret:=false,res:=[ARes.tmp 4] }
def f5e(n l:Int):List AFrame:=[(Zv1 n l)]
theorem Zsq(n l:Int):ZaG tab 5 [AV.int .i64 n,AV.int .i64 l]=some (Zv1 n l):=rfl
def Zv4(A:Ar)(K:KT)(F:FT)(n l:Int):Prop:=bB (A.le n 24) (F (AV.bool true) (none)) (bB (A.lt l n) (rB [A.inR .i64 (A.add l 2)] (F (AV.bool (A.le n (A.add l 2))) (none))) (F (AV.bool false) (none)))
theorem Zwh{A:Ar}{K:KT}{F:FT}{M:MT}{n l:Int} :ZaM A tab N1 5 K F M (.run 9 (.tf (.ty (.ty (.ty (.run 4 (.ty (.ty (.run 4 (.fn)))))))) (.fy (.fy (.fy (.tf (.ty (.ty (.ty (.alt [false,true] (.fy (.run 4 (.fn))) (.no))))) (.fy (.fy (.fy (.alt [false,false] (.fy (.run 4 (.fn))) (.no))))))))))) (f5e n l) []=Zv4 A K F n l:=by kernel_rfl
def ZvD(xs:List Int):AFrame:={ fn:=7,N:=6,env:=[(0,AV.list (.ints .i64 xs))],todo:=[.code a7.code],defs:=[],rnd:=none,ret:=false,res:=[ARes.tmp 2] }
def f7e(xs:List Int):List AFrame:=[(ZvD xs)]
theorem Zrb(xs:List Int):ZaG tab 7 [AV.list (.ints .i64 xs)]=some (ZvD xs):=rfl
def Zv7(A:Ar)(K:KT)(F:FT)(xs:List Int):Prop:=rB [Nat.ble (0+A.len xs) 4294967296,List.all [] fun x=>AV.bx x&&Nat.beq (Zas A x) 1] (F (AV.row 0 0) (some { e:=3,sz:=1,r:=.ints .i64 xs }))
theorem ZwM{A:Ar}{K:KT}{F:FT}{M:MT}{xs:List Int} :ZaM A tab N1 7 K F M (.run 12 (.fn)) (f7e xs) []=Zv7 A K F xs:=by kernel_rfl
def Zq5(xs ys:List Int):AFrame:={ fn:=11,N:=26,env:=[(0,AV.list (.ints .i64 xs)),(1,AV.list (.ints .i64 ys))],todo:=[.code a11.code],defs:=[],rnd:=none,ret:=false,res:=[ARes.tmp 4] }
def ZwB(xs ys:List Int):List AFrame:=[(Zq5 xs ys)]
theorem Zqp(xs ys:List Int):ZaG tab 11 [AV.list (.ints .i64 xs),AV.list (.ints .i64 ys)]=some (Zq5 xs ys):=rfl
def Zeq(xs ys:List Int)(n0:Int):List AFrame:=[{ fn:=11,N:=26,env:=[(0,AV.list (.ints .i64 xs)),(1,AV.list (.ints .i64 ys)),(5,AV.int .i64 n0)],todo:=.code (ACode.gh [] ZrX)::Ztg,defs:=[],rnd:=none,ret:=false,res:=[ARes.tmp 4] }]
def ZdN(xs ys:List Int)(n0:Int):Zab:=[]
abbrev ZfR(xs ys:List Int)(n0:Int):List AFrame×Zab:=(Zeq xs ys n0,ZdN xs ys n0)
def Zpv(A:Ar)(K:KT)(F:FT)(xs ys:List Int):Prop:=bB (A.not (A.eq (A.int (A.len xs)) (A.int (A.len ys)))) (F (AV.bool false) (none)) (K (ZfR (xs) (ys) (0)))
theorem ZtP{A:Ar}{K:KT}{F:FT}{M:MT}{xs ys:List Int} :ZaM A tab N1 11 K F M (.run 13 (.tf (.run 5 (.fn)) (.run 9 (.hd)))) (ZwB xs ys) []=Zpv A K F xs ys:=by kernel_rfl
def Zcp(A:Ar)(K:KT)(F:FT)(xs ys:List Int)(n0:Int):Prop:=bB (A.lt n0 (A.int (A.len xs))) (rB [Zam (Zam (A.le 0 n0) (Nat.blt (A.nat n0) (A.len ys))) true,Zam (Zam (A.le 0 n0) (Nat.blt (A.nat n0) (A.len xs))) true] (bB (A.not (A.eq (A.nth xs (A.nat n0)) (A.nth ys (A.nat n0)))) (F (AV.bool false) (none)) (rB [A.inR .i64 (A.add n0 1)] (K (ZfR (xs) (ys) (A.add n0 1)))))) (F (AV.bool true) (none))
theorem Zfv{A:Ar}{K:KT}{F:FT}{M:MT}{xs ys:List Int}{n0:Int} :ZaM A tab N1 11 K F M (.run 9 (.tf (.run 6 (.tf (.run 5 (.fn)) (.run 9 (.hd)))) (.run 6 (.fn)))) (Zeq xs ys n0) (ZdN xs ys n0)=Zcp A K F xs ys n0:=by kernel_rfl
def ZrW(n lo hi:Int):AFrame:={ fn:=35,N:=15,env:=[(0,AV.int .i64 n),(1,AV.int .i64 lo),(2,AV.int .i64 hi)],todo:=[.code a35.code],defs:=[],rnd:=none,ret:=false,res:=[ARes.tmp 6] }
def ZwE(n lo hi:Int):List AFrame:=[(ZrW n lo hi)]
theorem Zqg(n lo hi:Int):ZaG tab 35 [AV.int .i64 n,AV.int .i64 lo,AV.int .i64 hi]=some (ZrW n lo hi):=rfl
def ZrY(A:Ar)(K:KT)(F:FT)(n lo hi:Int):Prop:=bB (A.le lo n) (F (AV.bool (A.le n hi)) (none)) (F (AV.bool false) (none))
theorem ZsT{A:Ar}{K:KT}{F:FT}{M:MT}{n lo hi:Int} :ZaM A tab N1 35 K F M (.run 10 (.tf (.ty (.ty (.ty (.run 4 (.fn))))) (.fy (.fy (.fy (.run 4 (.fn))))))) (ZwE n lo hi) []=ZrY A K F n lo hi:=by kernel_rfl
def ZrK(n lo hi:Int):AFrame:={ fn:=44,N:=15,env:=[(0,AV.int .i64 n),(1,AV.int .i64 lo),(2,AV.int .i64 hi)],todo:=[.code a44.code],defs:=[],rnd:=none,ret:=false,res:=[ARes.tmp 6] }
def ZwF(n lo hi:Int):List AFrame:=[(ZrK n lo hi)]
theorem Zqm(n lo hi:Int):ZaG tab 44 [AV.int .i64 n,AV.int .i64 lo,AV.int .i64 hi]=some (ZrK n lo hi):=rfl
def Zr0(A:Ar)(K:KT)(F:FT)(n lo hi:Int):Prop:=bB (A.le lo n) (F (AV.bool (A.le n hi)) (none)) (F (AV.bool false) (none))
theorem ZtZ{A:Ar}{K:KT}{F:FT}{M:MT}{n lo hi:Int} :ZaM A tab N1 44 K F M (.run 10 (.tf (.ty (.ty (.ty (.run 4 (.fn))))) (.fy (.fy (.fy (.run 4 (.fn))))))) (ZwF n lo hi) []=Zr0 A K F n lo hi:=by kernel_rfl
def ZvM(s:List UInt8):AFrame:={ fn:=8,N:=28,env:=[(0,AV.str s)],todo:=[.code a8.code],defs:=[],rnd:=none,ret:=false,res:=[ARes.tmp 2,ARes.tmp 3] }
def f8e(s:List UInt8):List AFrame:=[(ZvM s)]
theorem Zo5(s:List UInt8):ZaG tab 8 [AV.str s]=some (ZvM s):=rfl
def Ziq(l0:List Int)(n1:Int):List AFrame:=[{ fn:=8,N:=28,env:=[(4,AV.nils),(12,AV.list (.ints .u8 l0)),(13,AV.int .i64 n1),(14,AV.int .i64 0)],todo:=.code (ACode.gh [] Zva)::ZvR,defs:=[],rnd:=none,ret:=false,res:=[ARes.tmp 2,ARes.tmp 3] }]
def Zf9(l0:List Int)(n1:Int):Zab:=[]
abbrev ZnL(l0:List Int)(n1:Int):List AFrame×Zab:=(Ziq l0 n1,Zf9 l0 n1)
def Zii(l0:List Int)(n1 n2:Int)(l3:List Int):List AFrame:=[{ fn:=8,N:=28,env:=[(4,AV.row 8026 0),(12,AV.list (.ints .u8 l0)),(13,AV.int .i64 n1),(14,AV.int .i64 n2)],todo:=.code (ACode.gh [] Zva)::ZvR,defs:=[],rnd:=none,ret:=false,res:=[ARes.tmp 2,ARes.tmp 3] }]
def Zgr(l0:List Int)(n1 n2:Int)(l3:List Int):Zab:=[(8026,{ base:=0,blks:=[Blk.row 3 1 (.ints .i64 l3)] })]
abbrev ZjA(l0:List Int)(n1 n2:Int)(l3:List Int):List AFrame×Zab:=(Zii l0 n1 n2 l3,Zgr l0 n1 n2 l3)
def ZtO(A:Ar)(K:KT)(F:FT)(s:List UInt8):Prop:=bB (A.lt 400 (A.int (A.lenS s))) (F (AV.tup [AV.nils,AV.int .i64 8]) (none)) (rB [Nat.ble (A.lenS s) 4294967296] (K (ZnL (A.byt s) (A.int (A.len (A.byt s))))))
theorem Zv6{A:Ar}{K:KT}{F:FT}{M:MT}{s:List UInt8} :ZaM A tab N1 8 K F M (.run 12 (.tf (.run 6 (.fn)) (.run 16 (.hd)))) (f8e s) []=ZtO A K F s:=by kernel_rfl
def Zen(A:Ar)(K:KT)(F:FT)(l0:List Int)(n1:Int):Prop:=bB (A.lt 0 n1) (rB [Zam (Zam (A.le 0 0) (Nat.blt (A.nat 0) (A.len l0))) true] (bB (A.lt (dv (A.nth l0 (A.nat 0))) 0) (F (AV.tup [AV.nils,AV.int .i64 7]) (none)) (rB [A.inR .i64 (A.add 0 1),Zam (Nat.ble (A.len [dv (A.nth l0 (A.nat 0))]) 4294967296) (Nat.blt 0 (A.len [dv (A.nth l0 (A.nat 0))])),List.all [AV.int .i64 (dv (A.nth l0 (A.nat 0)))] fun x=>AV.bx x&&Nat.beq (Zas A x) 1] (K (ZjA (l0) (n1) (A.add 0 1) ([dv (A.nth l0 (A.nat 0))])))))) (F (AV.tup [AV.nils,AV.int .i64 0]) (none))
theorem Zok{A:Ar}{K:KT}{F:FT}{M:MT}{l0:List Int}{n1:Int} :ZaM A tab N1 8 K F M (.run 6 (.tf (.run 21 (.tf (.run 6 (.fn)) (.run 15 (.hd)))) (.run 8 (.fn)))) (Ziq l0 n1) (Zf9 l0 n1)=Zen A K F l0 n1:=by kernel_rfl
def Zef(A:Ar)(K:KT)(F:FT)(l0:List Int)(n1 n2:Int)(l3:List Int):Prop:=bB (A.lt n2 n1) (rB [Zam (Zam (A.le 0 n2) (Nat.blt (A.nat n2) (A.len l0))) true] (bB (A.lt (dv (A.nth l0 (A.nat n2))) 0) (F (AV.tup [AV.nils,AV.int .i64 7]) (none)) (rB [A.inR .i64 (A.add n2 1),Nat.ble (A.len l3+A.len [dv (A.nth l0 (A.nat n2))]) 4294967296,List.all [AV.int .i64 (dv (A.nth l0 (A.nat n2)))] fun x=>AV.bx x&&Nat.beq (Zas A x) 1] (K (ZjA (l0) (n1) (A.add n2 1) (A.app l3 [dv (A.nth l0 (A.nat n2))])))))) (F (AV.tup [AV.row 0 0,AV.int .i64 0]) (some { e:=3,sz:=1,r:=.ints .i64 l3 }))
theorem Zjs{A:Ar}{K:KT}{F:FT}{M:MT}{l0:List Int}{n1 n2:Int}{l3:List Int} :ZaM A tab N1 8 K F M (.run 6 (.tf (.run 21 (.tf (.run 6 (.fn)) (.run 15 (.hd)))) (.run 8 (.fn)))) (Zii l0 n1 n2 l3) (Zgr l0 n1 n2 l3)=Zef A K F l0 n1 n2 l3:=by kernel_rfl
def ZvO(s:List UInt8):AFrame:={ fn:=9,N:=35,env:=[(0,AV.str s)],todo:=[.code a9.code],defs:=[],rnd:=none,ret:=false,res:=[ARes.tmp 2,ARes.tmp 3] }
def f9e(s:List UInt8):List AFrame:=[(ZvO s)]
theorem ZoR(s:List UInt8):ZaG tab 9 [AV.str s]=some (ZvO s):=rfl
def ZiK(s:List UInt8):List AFrame:=[{ fn:=9,N:=35,env:=[(0,AV.str s),(4,AV.nils),(5,AV.int .i64 0)],todo:=.code (ACode.gh [] ZuD)::ZvC,defs:=[],rnd:=none,ret:=false,res:=[ARes.tmp 2,ARes.tmp 3] }]
def Zgi(s:List UInt8):Zab:=[]
abbrev Zny(s:List UInt8):List AFrame×Zab:=(ZiK s,Zgi s)
def Zgh(s:List UInt8)(n0 n1:Int):List AFrame:=[{ fn:=9,N:=35,env:=[(0,AV.str s),(4,AV.nils),(5,AV.int .i64 0),(6,AV.int .i64 n0),(7,AV.int .i64 n1)],todo:=.code (ACode.gh [] Zu9)::ZvW,defs:=[],rnd:=none,ret:=false,res:=[ARes.tmp 2,ARes.tmp 3] }]
def Zeg(s:List UInt8)(n0 n1:Int):Zab:=[]
abbrev Zgk(s:List UInt8)(n0 n1:Int):List AFrame×Zab:=(Zgh s n0 n1,Zeg s n0 n1)
def Ziu(s:List UInt8)(n2:Int)(l3:List Int):List AFrame:=[{ fn:=9,N:=35,env:=[(0,AV.str s),(4,AV.row 9034 0),(5,AV.int .i64 n2)],todo:=.code (ACode.gh [] ZuD)::ZvC,defs:=[],rnd:=none,ret:=false,res:=[ARes.tmp 2,ARes.tmp 3] }]
def Zgq(s:List UInt8)(n2:Int)(l3:List Int):Zab:=[(9034,{ base:=0,blks:=[Blk.row 3 1 (.ints .i64 l3)] })]
abbrev Zjw(s:List UInt8)(n2:Int)(l3:List Int):List AFrame×Zab:=(Ziu s n2 l3,Zgq s n2 l3)
def ZgB(s:List UInt8)(n2:Int)(l3:List Int)(n4 n5:Int):List AFrame:=[{ fn:=9,N:=35,env:=[(0,AV.str s),(4,AV.row 9034 0),(5,AV.int .i64 n2),(6,AV.int .i64 n4),(7,AV.int .i64 n5)],todo:=.code (ACode.gh [] Zu9)::ZvW,defs:=[],rnd:=none,ret:=false,res:=[ARes.tmp 2,ARes.tmp 3] }]
def Zem(s:List UInt8)(n2:Int)(l3:List Int)(n4 n5:Int):Zab:=[(9034,{ base:=0,blks:=[Blk.row 3 1 (.ints .i64 l3)] })]
abbrev Zgw(s:List UInt8)(n2:Int)(l3:List Int)(n4 n5:Int):List AFrame×Zab:=(ZgB s n2 l3 n4 n5,Zem s n2 l3 n4 n5)
def Ztl(A:Ar)(K:KT)(F:FT)(s:List UInt8):Prop:=bB (A.lt 400 (A.int (A.lenS s))) (F (AV.tup [AV.nils,AV.int .i64 8]) (none)) (K (Zny (s)))
theorem Zwb{A:Ar}{K:KT}{F:FT}{M:MT}{s:List UInt8} :ZaM A tab N1 9 K F M (.run 12 (.tf (.run 6 (.fn)) (.run 13 (.hd)))) (f9e s) []=Ztl A K F s:=by kernel_rfl
def Zf6(A:Ar)(K:KT)(F:FT)(s:List UInt8):Prop:=bB (A.lt 0 (A.int (A.lenS s))) (K (Zgk (s) (-1) (0))) (F (AV.tup [AV.nils,AV.int .i64 0]) (none))
theorem Zn5{A:Ar}{K:KT}{F:FT}{M:MT}{s:List UInt8} :ZaM A tab N1 9 K F M (.run 9 (.tf (.run 15 (.hd)) (.run 8 (.fn)))) (ZiK s) (Zgi s)=Zf6 A K F s:=by kernel_rfl
def Zc4(A:Ar)(K:KT)(F:FT)(s:List UInt8)(n0 n1:Int):Prop:=bB (A.lt n1 16) (rB [Zam (A.le 0 0) (Nat.blt (A.nat 0) (A.lenS s)),Zam (A.le 0 n1) (Nat.blt (A.nat n1) (A.lenS digs))] (bB (A.eq (A.nthS digs (A.nat n1)) (A.nthS s (A.nat 0))) (rB [A.inR .i64 (A.add n1 1)] (K (Zgk (s) (n1) (A.add n1 1)))) (rB [A.inR .i64 (A.add n1 1)] (K (Zgk (s) (n0) (A.add n1 1)))))) (bB (A.lt n0 0) (F (AV.tup [AV.nils,AV.int .i64 7]) (none)) (rB [A.inR .i64 (A.add 0 1),Zam (Nat.ble (A.len [n0]) 4294967296) (Nat.blt 0 (A.len [n0])),List.all [AV.int .i64 n0] fun x=>AV.bx x&&Nat.beq (Zas A x) 1] (K (Zjw (s) (A.add 0 1) ([n0])))))
theorem Zjc{A:Ar}{K:KT}{F:FT}{M:MT}{s:List UInt8}{n0 n1:Int} :ZaM A tab N1 9 K F M (.run 7 (.tf (.run 5 (.tf (.run 12 (.hd)) (.run 9 (.hd)))) (.run 7 (.tf (.run 6 (.fn)) (.run 16 (.hd)))))) (Zgh s n0 n1) (Zeg s n0 n1)=Zc4 A K F s n0 n1:=by kernel_rfl
def Zgg(A:Ar)(K:KT)(F:FT)(s:List UInt8)(n2:Int)(l3:List Int):Prop:=bB (A.lt n2 (A.int (A.lenS s))) (K (Zgw (s) (n2) (l3) (-1) (0))) (F (AV.tup [AV.row 0 0,AV.int .i64 0]) (some { e:=3,sz:=1,r:=.ints .i64 l3 }))
theorem ZiU{A:Ar}{K:KT}{F:FT}{M:MT}{s:List UInt8}{n2:Int}{l3:List Int} :ZaM A tab N1 9 K F M (.run 9 (.tf (.run 15 (.hd)) (.run 8 (.fn)))) (Ziu s n2 l3) (Zgq s n2 l3)=Zgg A K F s n2 l3:=by kernel_rfl
def Zdk(A:Ar)(K:KT)(F:FT)(s:List UInt8)(n2:Int)(l3:List Int)(n4 n5:Int):Prop:=bB (A.lt n5 16) (rB [Zam (A.le 0 n2) (Nat.blt (A.nat n2) (A.lenS s)),Zam (A.le 0 n5) (Nat.blt (A.nat n5) (A.lenS digs))] (bB (A.eq (A.nthS digs (A.nat n5)) (A.nthS s (A.nat n2))) (rB [A.inR .i64 (A.add n5 1)] (K (Zgw (s) (n2) (l3) (n5) (A.add n5 1)))) (rB [A.inR .i64 (A.add n5 1)] (K (Zgw (s) (n2) (l3) (n4) (A.add n5 1)))))) (bB (A.lt n4 0) (F (AV.tup [AV.nils,AV.int .i64 7]) (none)) (rB [A.inR .i64 (A.add n2 1),Nat.ble (A.len l3+A.len [n4]) 4294967296,List.all [AV.int .i64 n4] fun x=>AV.bx x&&Nat.beq (Zas A x) 1] (K (Zjw (s) (A.add n2 1) (A.app l3 [n4])))))
theorem ZjN{A:Ar}{K:KT}{F:FT}{M:MT}{s:List UInt8}{n2:Int}{l3:List Int}{n4 n5:Int} :ZaM A tab N1 9 K F M (.run 7 (.tf (.run 5 (.tf (.run 12 (.hd)) (.run 9 (.hd)))) (.run 7 (.tf (.run 6 (.fn)) (.run 16 (.hd)))))) (ZgB s n2 l3 n4 n5) (Zem s n2 l3 n4 n5)=Zdk A K F s n2 l3 n4 n5:=by kernel_rfl
end Go.Proofs.Ytbbemleognkdhaa
/- Contracts as a list. No condition. -/
namespace Go.Proofs.Ytbbemleognkdhaa
def Zaw(n a b:Int):Bool:=decide (a≤n∧n≤b)
theorem ZiB(a b c:Int):Zaf Try.prog 35 [.int .i64 a, .int .i64 b, .int .i64 c] (.bool (Zaw a b c)) none:=
 start (Zqg a b c) fun C hC=>tgo hC ZbE ZsT (by
  by_cases h:b≤a<;>simp[ZrY,h,Zaw])
theorem ZiG(a b c:Int):Zaf Try.prog 44 [.int .i64 a, .int .i64 b, .int .i64 c] (.bool (Zaw a b c)) none:=
 start (Zqm a b c) fun C hC=>tgo hC ZbE ZtZ (by
  by_cases h:b≤a<;>simp[Zr0,h,Zaw])
def Zq0(n l:Int):Bool:=decide (n≤24∨(l<n∧n≤l+2))
theorem ZqM(n l:Int)(h:0≤l∧l≤1000):Zaf Try.prog 5 [.int .i64 n, .int .i64 l] (.bool (Zq0 n l)) none:=
 start (Zsq n l) fun C hC=>tgo hC ZbE Zwh (by
  by_cases h1:n≤24<;>by_cases h2:l<n<;>simp[Zv4,h1,h2,Zq0]<;>omega)
theorem Zk0{xs:List Int}{k:Nat}(h:k<xs.length):xs.drop k=xs.getD k 0::xs.drop (k+1):=by
 rw[List.drop_eq_getElem_cons h,List.getD_eq_getElem?_getD,List.getElem?_eq_getElem h];rfl
theorem ZlJ{α:Type}{xs:List α}{k:Nat}{d:α}(h:k<xs.length):xs.take (k+1)=xs.take k++[xs.getD k d]:=by
 rw[List.take_add_one,List.getElem?_eq_getElem h,List.getD_eq_getElem?_getD,List.getElem?_eq_getElem h];rfl
theorem ZmS(xs:List Int)(hl:xs.length≤1000000):Zaf Try.prog 7 [.list (.ints .i64 xs)] (.row 0 0) (some ⟨3,1, .ints .i64 xs⟩):=
 start (Zrb xs) fun C hC=>tgo hC ZbE ZwM (by simp[Zv7];omega)
def ZmK(ok:Bool)(xs:List Int):AV:=.tup [.list (.ints .i64 (cond ok xs [])), .int .i64 (cond ok 0 7)]
theorem rdN(b:Bool)(xs:List Int)(h:b=false):∃r'',Wk (.tup [.nils, .int .i64 7]) r''∧Frz none r'' (ZmK b xs)∧Zfj none=false:=by
 subst h
 exact⟨_, .same _, .tup ⟨.nil _ rfl, .same _ rfl rfl,trivial⟩,rfl⟩
theorem rd0:∃r'',Wk (.tup [.nils, .int .i64 0]) r''∧Frz none r'' (ZmK true [])∧Zfj none=false:=
 ⟨_, .same _, .tup ⟨.nil _ rfl, .same _ rfl rfl,trivial⟩,rfl⟩
theorem rdR(xs:List Int):∃r'',Wk (.tup [.row 0 0, .int .i64 0]) r''∧Frz (some ⟨3,1, .ints .i64 xs⟩) r'' (ZmK true xs)∧Zfj (some ⟨3,1, .ints .i64 xs⟩)=false:=
 ⟨_, .same _, .tup ⟨.row _ rfl rfl rfl, .same _ rfl rfl,trivial⟩,rfl⟩
def okD(l:List Int):Bool:=l.all fun c=>decide (0≤dv c)
def Zfa(c:Int):Nat→Nat→Int→Int
 |0,_,n=>n
 |m+1,k,n=>Zfa c m (k+1) (if ((digs.getD k 0).toNat:Int)=c then k else n)
section
variable {C:Ctx}(hC:C.P=Try.prog)
include hC
theorem Zg5(xs ys:List Int)(hl:xs.length≤1000000∧xs.length=ys.length):∀m k:Nat,k+m=xs.length→Ev C (Zeq xs ys k) (ZdN xs ys k) (ZiW 11 (.bool (decide (xs.drop k=ys.drop k))) none)
 |0,k,hk=>tgo hC ZbE Zfv (by
  rw[List.drop_of_length_le (by omega),List.drop_of_length_le (by omega)]
  simp[Zcp,show ¬(k:Int)<xs.length by omega])
 |m+1,k,hk=>by
  have ih:=Zg5 xs ys hl m (k+1) (by omega)
  rw[Zk0 (show k<xs.length by omega),Zk0 (show k<ys.length by omega)]
  refine tgo hC ZbE Zfv ?_
  by_cases h:xs.getD k 0=ys.getD k 0
  ·simp[-List.getD_eq_getElem?_getD,Zcp,show(k:Int)<xs.length by omega,show k<xs.length by omega,show k<ys.length by omega,h]
   exact⟨by omega,by simpa using ih⟩
  ·simp[-List.getD_eq_getElem?_getD,Zcp,show(k:Int)<xs.length by omega,show k<xs.length by omega,show k<ys.length by omega,h]
theorem Zro(l:List Int)(hl:l.length≤1000000):∀(m k:Nat) (xs:List Int),k+m=l.length→xs.length=k→Ev C (Zii l l.length k xs) (Zgr l l.length k xs) (Zkr 8 (ZmK (okD (l.drop k)) (xs++(l.drop k).map dv)))
 |0,k,xs,hk,hx=>Zjp hC ZbE Zjs (by
  rw[List.drop_of_length_le (by omega)]
  simp[-List.getD_eq_getElem?_getD,Zef,show ¬(k:Int)<l.length by omega]
  exact rdR _)
 |m+1,k,xs,hk,hx=>by
  have ih:=fun xs hx=>Zro l hl m (k+1) xs (by omega) hx
  have hlt:(k:Int)<l.length:=by omega
  have hlt2:k<l.length:=by omega
  rw[Zk0 hlt2]
  refine Zjp hC ZbE Zjs ?_
  by_cases h:dv (l.getD k 0)<0
  ·simp[-List.getD_eq_getElem?_getD,Zef,hlt,hlt2,h]
   exact rdN _ _ (by simp[-List.getD_eq_getElem?_getD,okD];omega)
  ·have:=ih (xs++[dv (l.getD k 0)]) (by simp[hx])
   have h2:okD (l.getD k 0::l.drop (k+1))=okD (l.drop (k+1)):=by simp[-List.getD_eq_getElem?_getD,okD];omega
   rw[List.append_assoc,List.singleton_append]at this
   rw[h2,List.map_cons]
   simp[-List.getD_eq_getElem?_getD,Zef,hlt,hlt2,h,AV.bx,Zas]
   exact⟨by omega,by simpa using this⟩
theorem ZsU(l:List Int)(hl:l.length≤1000000):Ev C (Ziq l l.length) (Zf9 l l.length) (Zkr 8 (ZmK (okD l) (l.map dv))):=by
 refine Zjp hC ZbE Zok ?_
 cases l with
 |nil=>simp[Zen];exact rd0
 |cons c t=>
  have hb:=fun xs hx=>Zro hC (c::t) hl t.length 1 xs (by simp;omega) hx
  by_cases h:dv c<0
  ·simp[Zen,h]
   exact rdN _ _ (by simp[-List.getD_eq_getElem?_getD,okD];omega)
  ·have:=hb [dv c] rfl
   have h2:okD (c::t)=okD t:=by simp[-List.getD_eq_getElem?_getD,okD];omega
   rw[h2,List.map_cons]
   simp[Zen,h,AV.bx,Zas]
   simpa using this
end
def ZdX(s:List UInt8):List Int:=s.map fun b=>(b.toNat:Int)
theorem Zgy(s:List UInt8):(ZdX s).length=s.length:=by simp[ZdX]
def Zfg(s:List UInt8):List Int:=if 400<s.length then []else cond (okD (ZdX s)) ((ZdX s).map dv) []
def ZhG(s:List UInt8):Int:=if 400<s.length then 8 else cond (okD (ZdX s)) 0 7
theorem ZkU{s:List UInt8}(h:400<s.length):AV.tup [.list (.ints .i64 (Zfg s)), .int .i64 (ZhG s)]=.tup [.list (.ints .i64 []), .int .i64 8]:=by
 unfold Zfg ZhG;rw[if_pos h,if_pos h]
theorem Zpc{s:List UInt8}(h:¬400<s.length):AV.tup [.list (.ints .i64 (Zfg s)), .int .i64 (ZhG s)]=ZmK (okD (ZdX s)) ((ZdX s).map dv):=by
 unfold Zfg ZhG ZmK;rw[if_neg h,if_neg h]
theorem Zl7(s:List UInt8)(hl:s.length≤1000000):Zaf Try.prog 8 [.str s] (.tup [.list (.ints .i64 (Zfg s)), .int .i64 (ZhG s)]) ZqZ:=by
 have hb:(ZdX s).length=s.length:=Zgy s
 by_cases h:(400:Int)<s.length
 ·rw[ZkU (by omega)]
  exact ZjI (Zo5 s) fun C hC=>Zjp hC ZbE Zv6 (by
   simp[ZtO,h]
   exact⟨_, .same _, .tup ⟨.nil _ rfl, .same _ rfl rfl,trivial⟩,rfl⟩)
 ·rw[Zpc (by omega)]
  exact ZjI (Zo5 s) fun C hC=>Zjp hC ZbE Zv6 (by
   have:=ZsU hC (ZdX s) (by omega)
   simp[ZtO,h]
   exact⟨by omega,by simpa[ZdX]using this⟩)
theorem Zhn{s:List UInt8}{k:Nat}(h:k<s.length):(ZdX s).drop k=((s.getD k 0).toNat:Int)::(ZdX s).drop (k+1):=by
 rw[Zk0 (by rw[Zgy];exact h)]
 congr 1
 unfold ZdX
 rw[List.getD_eq_getElem?_getD,List.getElem?_map,List.getD_eq_getElem?_getD,List.getElem?_eq_getElem h];rfl
def Zts(c:Nat):Bool:=decide (Zfa (c:Int) 16 0 (-1)=Lib.indexByte digs (Int.toNat c).toUInt8)
theorem ZnZ:∀c,c<256→Zts c=true:=by decide +kernel
theorem Zml(c:UInt8):Zfa c.toNat 16 0 (-1)=dv c.toNat:=(of_decide_eq_true (ZnZ c.toNat c.toNat_lt)).trans (Zr6 _).symm
section
variable {C:Ctx}(hC:C.P=Try.prog)(s:List UInt8)
include hC
theorem ZoU(k:Nat)(xs:List Int)(hk:k<s.length)(R:AV):∀(m j:Nat) (n:Int),j+m=16→Ev C (ZgB s k xs (Zfa (s.getD k 0).toNat m j n) (16:Nat)) (Zem s k xs (Zfa (s.getD k 0).toNat m j n) (16:Nat)) (Zkr 9 R)→Ev C (ZgB s k xs n j) (Zem s k xs n j) (Zkr 9 R)
 |0,j,n,hj,hn=>by
  obtain rfl:j=16:=by omega
  exact hn
 |m+1,j,n,hj,hn=>by
  have ih:=fun n=>ZoU k xs hk R m (j+1) n (by omega)
  refine Zjp hC ZbE ZjN ?_
  have hd:j<digs.length:=by simp[digs];omega
  by_cases h:((digs.getD j 0).toNat:Int)=(s.getD k 0).toNat
  ·rw[Zfa,if_pos h]at hn
   have:=ih j hn
   simp[-List.getD_eq_getElem?_getD,Zdk,h,hk,show(j:Int)<16 by omega,hd]
   exact⟨by omega,by simpa using this⟩
  ·rw[Zfa,if_neg h]at hn
   have:=ih n hn
   simp[-List.getD_eq_getElem?_getD,Zdk,h,hk,show(j:Int)<16 by omega,hd]
   exact⟨by omega,by simpa using this⟩
theorem Zo7(hk:0<s.length)(R:AV):∀(m j:Nat) (n:Int),j+m=16→Ev C (Zgh s (Zfa (s.getD 0 0).toNat m j n) (16:Nat)) (Zeg s (Zfa (s.getD 0 0).toNat m j n) (16:Nat)) (Zkr 9 R)→Ev C (Zgh s n j) (Zeg s n j) (Zkr 9 R)
 |0,j,n,hj,hn=>by
  obtain rfl:j=16:=by omega
  exact hn
 |m+1,j,n,hj,hn=>by
  have ih:=fun n=>Zo7 hk R m (j+1) n (by omega)
  refine Zjp hC ZbE Zjc ?_
  have hd:j<digs.length:=by simp[digs];omega
  by_cases h:((digs.getD j 0).toNat:Int)=(s.getD 0 0).toNat
  ·rw[Zfa,if_pos h]at hn
   have:=ih j hn
   simp[-List.getD_eq_getElem?_getD,Zc4,h,hk,show(j:Int)<16 by omega,hd]
   exact⟨by omega,by simpa using this⟩
  ·rw[Zfa,if_neg h]at hn
   have:=ih n hn
   simp[-List.getD_eq_getElem?_getD,Zc4,h,hk,show(j:Int)<16 by omega,hd]
   exact⟨by omega,by simpa using this⟩
variable (hl:s.length≤1000000)
include hl
theorem Zsw:∀(m k:Nat) (xs:List Int),k+m=s.length→xs.length=k→Ev C (Ziu s k xs) (Zgq s k xs) (Zkr 9 (ZmK (okD ((ZdX s).drop k)) (xs++((ZdX s).drop k).map dv)))
 |0,k,xs,hk,hx=>Zjp hC ZbE ZiU (by
  rw[List.drop_of_length_le (by rw[Zgy];omega)]
  simp[-List.getD_eq_getElem?_getD,Zgg,show ¬(k:Int)<s.length by omega]
  exact rdR _)
 |m+1,k,xs,hk,hx=>by
  have ih:=fun xs hx=>Zsw m (k+1) xs (by omega) hx
  have hlt:(k:Int)<s.length:=by omega
  have hlt2:k<s.length:=by omega
  rw[Zhn hlt2]
  refine Zjp hC ZbE ZiU ?_
  simp[-List.getD_eq_getElem?_getD,Zgg,hlt]
  refine ZoU hC s k xs hlt2 _ 16 0 (-1) rfl ?_
  rw[Zml]
  refine Zjp hC ZbE ZjN ?_
  by_cases h:dv (s.getD k 0).toNat<0
  ·simp[-List.getD_eq_getElem?_getD,Zdk,h]
   exact rdN _ _ (by simp[-List.getD_eq_getElem?_getD,okD];omega)
  ·have:=ih (xs++[dv (s.getD k 0).toNat]) (by simp[hx])
   have h2:okD (((s.getD k 0).toNat:Int)::(ZdX s).drop (k+1))=okD ((ZdX s).drop (k+1)):=by simp[-List.getD_eq_getElem?_getD,okD];omega
   rw[List.append_assoc,List.singleton_append]at this
   rw[h2]
   simp[-List.getD_eq_getElem?_getD,Zdk,h,AV.bx,Zas]
   exact⟨by omega,by simpa using this⟩
theorem Zuc:Ev C (ZiK s) (Zgi s) (Zkr 9 (ZmK (okD (ZdX s)) ((ZdX s).map dv))):=by
 refine Zjp hC ZbE Zn5 ?_
 rcases Nat.eq_zero_or_pos s.length with h0 |h0
 ·obtain rfl:s=[]:=List.eq_nil_of_length_eq_zero h0
  simp[Zf6];exact rd0
 ·have hb:=fun xs hx=>Zsw hC s hl (s.length-1) 1 xs (by omega) hx
  have e:=Zhn h0
  rw[List.drop_zero]at e
  rw[e]
  simp[-List.getD_eq_getElem?_getD,Zf6,h0]
  refine Zo7 hC s h0 _ 16 0 (-1) rfl ?_
  rw[Zml]
  refine Zjp hC ZbE Zjc ?_
  by_cases h:dv (s.getD 0 0).toNat<0
  ·simp[-List.getD_eq_getElem?_getD,Zc4,h]
   exact rdN _ _ (by simp[-List.getD_eq_getElem?_getD,okD];omega)
  ·have:=hb [dv (s.getD 0 0).toNat] rfl
   have h2:okD (((s.getD 0 0).toNat:Int)::(ZdX s).drop (0+1))=okD ((ZdX s).drop 1):=by simp[-List.getD_eq_getElem?_getD,okD];omega
   simp[-List.getD_eq_getElem?_getD,Zc4,h,AV.bx,Zas]
   simp only[Nat.zero_add,List.drop_one]at h2 this
   rw[h2]
   simpa[-List.getD_eq_getElem?_getD]using this
end
theorem ZlY(s:List UInt8)(hl:s.length≤1000000):Zaf Try.prog 9 [.str s] (.tup [.list (.ints .i64 (Zfg s)), .int .i64 (ZhG s)]) ZqZ:=by
 by_cases h:(400:Int)<s.length
 ·rw[ZkU (by omega)]
  exact ZjI (ZoR s) fun C hC=>Zjp hC ZbE Zwb (by
   simp[Ztl,h]
   exact⟨_, .same _, .tup ⟨.nil _ rfl, .same _ rfl rfl,trivial⟩,rfl⟩)
 ·rw[Zpc (by omega)]
  exact ZjI (ZoR s) fun C hC=>Zjp hC ZbE Zwb (by
   have:=Zuc hC s hl
   simp[Ztl,h]
   simpa using this)
theorem ZlU(xs ys:List Int)(hl:xs.length≤1000000):Zaf Try.prog 11 [.list (.ints .i64 xs), .list (.ints .i64 ys)] (.bool (decide (xs=ys))) none:=
 start (Zqp xs ys) fun C hC=>tgo hC ZbE ZtP (by
  by_cases h:xs.length=ys.length
  ·simp[Zpv,h]
   have:=Zg5 hC xs ys ⟨hl,h⟩ xs.length 0 (by omega)
   simpa using this
  ·have:xs≠ys:=fun e=>h (by rw[e])
   simp[Zpv,this,show ¬((xs.length:Int)=ys.length) by omega])
def k35:Ctr:=⟨35,0,fun _ a=>match a with |[.int .i64 a, .int .i64 b, .int .i64 c]=>some (true, .bool (Zaw a b c),none) |_=>none⟩
theorem Zrp:k35.OK Try.prog:=fun pa args r fr h=>by
 simp only[k35]at h
 split at h
 ·cases h
  exact ZiB _ _ _
 ·cases h
def k44:Ctr:=⟨44,0,fun _ a=>match a with |[.int .i64 a, .int .i64 b, .int .i64 c]=>some (true, .bool (Zaw a b c),none) |_=>none⟩
theorem Zra:k44.OK Try.prog:=fun pa args r fr h=>by
 simp only[k44]at h
 split at h
 ·cases h
  exact ZiG _ _ _
 ·cases h
def k5:Ctr:=⟨5,0,fun _ a=>match a with |[.int .i64 n, .int .i64 l]=>some (decide ((0:Int)≤l∧l≤1000), .bool (Zq0 n l),none) |_=>none⟩
theorem Zt7:k5.OK Try.prog:=fun pa args r fr h=>by
 simp only[k5]at h
 split at h
 ·simp only[Option.some.injEq,Prod.mk.injEq,decide_eq_true_eq]at h
  obtain⟨h0,rfl,rfl⟩:=h
  exact ZqM _ _ h0
 ·cases h
def k7:Ctr:=⟨7,0,fun _ a=>match a with |[.list (.ints .i64 xs)]=>some (decide (xs.length≤1000000), .row 0 0,some ⟨3,1, .ints .i64 xs⟩) |_=>none⟩
theorem ZuV:k7.OK Try.prog:=fun pa args r fr h=>by
 simp only[k7]at h
 split at h
 ·simp only[Option.some.injEq,Prod.mk.injEq,decide_eq_true_eq]at h
  obtain⟨h0,rfl,rfl⟩:=h
  exact ZmS _ h0
 ·cases h
def k11:Ctr:=⟨11,0,fun _ a=>match a with |[.list (.ints .i64 xs), .list (.ints .i64 ys)]=>some (decide (xs.length≤1000000), .bool (decide (xs=ys)),none) |_=>none⟩
theorem ZrM:k11.OK Try.prog:=fun pa args r fr h=>by
 simp only[k11]at h
 split at h
 ·simp only[Option.some.injEq,Prod.mk.injEq,decide_eq_true_eq]at h
  obtain⟨h0,rfl,rfl⟩:=h
  exact ZlU _ _ h0
 ·cases h
def k8:Ctr:=⟨8,0,fun _ a=>match a with |[.str s]=>some (decide (s.length≤1000000), .tup [.list (.ints .i64 (Zfg s)), .int .i64 (ZhG s)],ZqZ) |_=>none⟩
theorem ZsV:k8.OK Try.prog:=fun pa args r fr h=>by
 simp only[k8]at h
 split at h
 ·simp only[Option.some.injEq,Prod.mk.injEq,decide_eq_true_eq]at h
  obtain⟨h0,rfl,rfl⟩:=h
  exact Zl7 _ h0
 ·cases h
def k9:Ctr:=⟨9,0,fun _ a=>match a with |[.str s]=>some (decide (s.length≤1000000), .tup [.list (.ints .i64 (Zfg s)), .int .i64 (ZhG s)],ZqZ) |_=>none⟩
theorem Zu1:k9.OK Try.prog:=fun pa args r fr h=>by
 simp only[k9]at h
 split at h
 ·simp only[Option.some.injEq,Prod.mk.injEq,decide_eq_true_eq]at h
  obtain⟨h0,rfl,rfl⟩:=h
  exact ZlY _ h0
 ·cases h
def N2:List Ctr:=[k35,k44,k5,k7,k11,k8,k9]++N1
theorem ZqO:ZaX Try.prog N2:=⟨Zrp,⟨Zra,⟨Zt7,⟨ZuV,⟨ZrM,⟨ZsV,⟨Zu1,ZbE⟩⟩⟩⟩⟩⟩⟩
end Go.Proofs.Ytbbemleognkdhaa
/- Paths of functions, printed by the explorer (Gx). No condition. -/
namespace Go.Proofs.Ytbbemleognkdhaa
set_option maxRecDepth 100000
set_option linter.unusedVariables false
def ZrD(n:Int):AFrame:={ fn:=21,N:=5,env:=[(0,AV.int .i64 n)],todo:=[.code a21.code],defs:=[],rnd:=none,ret:=false,res:=[ARes.tmp 2] }
def ZwH(n:Int):List AFrame:=[(ZrD n)]
theorem ZqG(n:Int):ZaG tab 21 [AV.int .i64 n]=some (ZrD n):=rfl
def Zq8(A:Ar)(K:KT)(F:FT)(n:Int):Prop:=F (AV.bool (Zaw n 0 15)) (none)
theorem ZsP{A:Ar}{K:KT}{F:FT}{M:MT}{n:Int} :ZaM A tab N2 21 K F M (.run 11 (.fn)) (ZwH n) []=Zq8 A K F n:=by kernel_rfl
def Zsb(n:Int):AFrame:={ fn:=25,N:=5,env:=[(0,AV.int .i64 n)],todo:=[.code a25.code],defs:=[],rnd:=none,ret:=false,res:=[ARes.tmp 2] }
def Zwm(n:Int):List AFrame:=[(Zsb n)]
theorem ZpA(n:Int):ZaG tab 25 [AV.int .i64 n]=some (Zsb n):=rfl
def Zrl(A:Ar)(K:KT)(F:FT)(n:Int):Prop:=F (AV.bool (Zaw n 0 15)) (none)
theorem ZtH{A:Ar}{K:KT}{F:FT}{M:MT}{n:Int} :ZaM A tab N2 25 K F M (.run 11 (.fn)) (Zwm n) []=Zrl A K F n:=by kernel_rfl
end Go.Proofs.Ytbbemleognkdhaa
/- Contracts as a list. No condition. -/
namespace Go.Proofs.Ytbbemleognkdhaa
theorem Zlp(n:Int):Zaf Try.prog 21 [.int .i64 n] (.bool (Zaw n 0 15)) none:=
 start (ZqG n) fun C hC=>tgo hC ZqO ZsP (by simp[Zq8])
theorem Zmm(n:Int):Zaf Try.prog 25 [.int .i64 n] (.bool (Zaw n 0 15)) none:=
 start (ZpA n) fun C hC=>tgo hC ZqO ZtH (by simp[Zrl])
def k21:Ctr:=⟨21,0,fun _ a=>match a with |[.int .i64 n]=>some (true, .bool (Zaw n 0 15),none) |_=>none⟩
theorem Zr4:k21.OK Try.prog:=fun pa args r fr h=>by
 simp only[k21]at h
 split at h
 ·cases h
  exact Zlp _
 ·cases h
def k25:Ctr:=⟨25,0,fun _ a=>match a with |[.int .i64 n]=>some (true, .bool (Zaw n 0 15),none) |_=>none⟩
theorem ZrF:k25.OK Try.prog:=fun pa args r fr h=>by
 simp only[k25]at h
 split at h
 ·cases h
  exact Zmm _
 ·cases h
def N3:List Ctr:=[k21,k25]++N2
theorem Zin:ZaX Try.prog N3:=⟨Zr4,⟨ZrF,ZqO⟩⟩
end Go.Proofs.Ytbbemleognkdhaa
/- Paths of functions, printed by the explorer (Gx). No condition. -/
namespace Go.Proofs.Ytbbemleognkdhaa
set_option maxRecDepth 100000
set_option linter.unusedVariables false
def Zrm(xs:List Int):AFrame:={ fn:=12,N:=16,env:=[(0,AV.list (.ints .i64 xs))],todo:=[.code a12.code],defs:=[],rnd:=none,ret:=false,res:=[ARes.tmp 2] }
def ZwR(xs:List Int):List AFrame:=[(Zrm xs)]
theorem Zpq(xs:List Int):ZaG tab 12 [AV.list (.ints .i64 xs)]=some (Zrm xs):=rfl
def ZeA(xs:List Int)(n0:Int):List AFrame:=[{ fn:=12,N:=16,env:=[(0,AV.list (.ints .i64 xs)),(3,AV.int .i64 n0)],todo:=.code (ACode.gh [] Zsi)::Ztj,defs:=[],rnd:=none,ret:=false,res:=[ARes.tmp 2] }]
def ZdA(xs:List Int)(n0:Int):Zab:=[]
abbrev Zf4(xs:List Int)(n0:Int):List AFrame×Zab:=(ZeA xs n0,ZdA xs n0)
def Zru(A:Ar)(K:KT)(F:FT)(xs:List Int):Prop:=K (Zf4 (xs) (0))
theorem Ztq{A:Ar}{K:KT}{F:FT}{M:MT}{xs:List Int} :ZaM A tab N3 12 K F M (.run 12 (.hd)) (ZwR xs) []=Zru A K F xs:=by kernel_rfl
def ZcE(A:Ar)(K:KT)(F:FT)(xs:List Int)(n0:Int):Prop:=bB (A.lt n0 (A.int (A.len xs))) (rB [Zam (Zam (A.le 0 n0) (Nat.blt (A.nat n0) (A.len xs))) true] (bB (A.not (Zaw (A.nth xs (A.nat n0)) 0 15)) (F (AV.int .i64 2) (none)) (rB [A.inR .i64 (A.add n0 1)] (K (Zf4 (xs) (A.add n0 1)))))) (F (AV.int .i64 0) (none))
theorem ZfX{A:Ar}{K:KT}{F:FT}{M:MT}{xs:List Int}{n0:Int} :ZaM A tab N3 12 K F M (.run 9 (.tf (.run 12 (.tf (.run 5 (.fn)) (.run 9 (.hd)))) (.run 6 (.fn)))) (ZeA xs n0) (ZdA xs n0)=ZcE A K F xs n0:=by kernel_rfl
def Zq3(xs:List Int):AFrame:={ fn:=10,N:=31,env:=[(0,AV.list (.ints .i64 xs))],todo:=[.code a10.code],defs:=[],rnd:=none,ret:=false,res:=[ARes.tmp 2] }
def Zwj(xs:List Int):List AFrame:=[(Zq3 xs)]
theorem ZpB(xs:List Int):ZaG tab 10 [AV.list (.ints .i64 xs)]=some (Zq3 xs):=rfl
def ZeJ(xs:List Int)(l0:List UInt8)(n1:Int):List AFrame:=[{ fn:=10,N:=31,env:=[(0,AV.list (.ints .i64 xs)),(3,AV.str l0),(4,AV.int .i64 n1)],todo:=.code (ACode.gh [] ZrS)::Zvj,defs:=[],rnd:=none,ret:=false,res:=[ARes.tmp 2] }]
def ZdR(xs:List Int)(l0:List UInt8)(n1:Int):Zab:=[]
abbrev ZdP(xs:List Int)(l0:List UInt8)(n1:Int):List AFrame×Zab:=(ZeJ xs l0 n1,ZdR xs l0 n1)
def Zsd(A:Ar)(K:KT)(F:FT)(xs:List Int):Prop:=K (ZdP (xs) ([]) (0))
theorem Zuz{A:Ar}{K:KT}{F:FT}{M:MT}{xs:List Int} :ZaM A tab N3 10 K F M (.run 16 (.hd)) (Zwj xs) []=Zsd A K F xs:=by kernel_rfl
def ZcF(A:Ar)(K:KT)(F:FT)(xs:List Int)(l0:List UInt8)(n1:Int):Prop:=bB (A.lt n1 (A.int (A.len xs))) (rB [Zam (Zam (A.le 0 n1) (Nat.blt (A.nat n1) (A.len xs))) true] (bB (Zaw (A.nth xs (A.nat n1)) 0 15) (rB [A.inR .i64 (A.add n1 1),Nat.ble (A.lenS l0+A.lenS (A.subS digs (A.nat (A.nth xs (A.nat n1))) (A.nat (A.add (A.nth xs (A.nat n1)) 1)-A.nat (A.nth xs (A.nat n1))))) 4294967296,Zam (Zam (A.le 0 (A.nth xs (A.nat n1))) (A.le 0 (A.add (A.nth xs (A.nat n1)) 1))) (Zam (Nat.ble (A.nat (A.nth xs (A.nat n1))) (A.nat (A.add (A.nth xs (A.nat n1)) 1))) (Nat.ble (A.nat (A.add (A.nth xs (A.nat n1)) 1)) (A.lenS digs))),A.inR .i64 (A.add (A.nth xs (A.nat n1)) 1),Zam (Zam (A.le 0 n1) (Nat.blt (A.nat n1) (A.len xs))) true,Zam (Zam (A.le 0 n1) (Nat.blt (A.nat n1) (A.len xs))) true] (K (ZdP (xs) (A.appS l0 (A.subS digs (A.nat (A.nth xs (A.nat n1))) (A.nat (A.add (A.nth xs (A.nat n1)) 1)-A.nat (A.nth xs (A.nat n1))))) (A.add n1 1)))) (rB [A.inR .i64 (A.add n1 1),Nat.ble (A.lenS l0+A.lenS [63]) 4294967296] (K (ZdP (xs) (A.appS l0 [63]) (A.add n1 1)))))) (F (AV.str l0) (none))
theorem ZfJ{A:Ar}{K:KT}{F:FT}{M:MT}{xs:List Int}{l0:List UInt8}{n1:Int} :ZaM A tab N3 10 K F M (.run 9 (.tf (.run 11 (.tf (.run 9 (.hd)) (.run 13 (.hd)))) (.run 7 (.fn)))) (ZeJ xs l0 n1) (ZdR xs l0 n1)=ZcF A K F xs l0 n1:=by kernel_rfl
end Go.Proofs.Ytbbemleognkdhaa
