/- Guided runs: where the way hangs on a letter, a list of choices says which way is taken. No condition. -/
import Derived.Test.YtjhdnpmojhkbjaaXv
namespace Go.Proofs.Ytjhdnpmojhkbjaa
open Go.RowKit (Below)
def ZGu : List (Nat × AV) → Nat → AV → List (Nat × AV)
  | [], _, _ => []
  | (i, x) :: l, t, y => match Nat.beq i t with | true => (i, y) :: l | false => (i, x) :: ZGu l t y
theorem Zj7 : ∀ {env : List (Nat × AV)} {t : Nat} {v : AV}, ZaE env t = some v → ZGu env t v = env
  | [], t, v, h => by cases h
  | (i, x) :: l, t, v, h => by
    simp only [ZaE] at h
    simp only [ZGu]
    split
    · rename_i hb; rw [hb] at h; cases h; rfl
    · rename_i hb; rw [hb] at h; rw [Zj7 h]
def asB (p b : Bool) : Bool := match p with | true => b | false => !b
theorem ZuJ {p b : Bool} (h : asB p b = true) : b = p := by cases p <;> cases b <;> first | rfl | cases h
abbrev Zh8 := List (Nat × AV)
def ZoM (env : Zh8) (pa acc : List Bool) (t : Nat) : Option (List Bool × List Bool × Zh8) :=
  match ZaE env t with
  | some v => (match v with
    | .bool b => (match pa with
      | p :: ps => some (ps, asB p b :: acc, ZGu env t (.bool p))
      | [] => none)
    | _ => some (pa, acc, env))
  | none => some (pa, acc, env)
theorem ZoS {env env' : Zh8} {pa pa' acc acc' : List Bool} {t : Nat} (h : ZoM env pa acc t = some (pa', acc', env')) (hb : ∀ b ∈ acc', b = true) : env' = env ∧ ∀ b ∈ acc, b = true := by
  unfold ZoM at h
  split at h
  · rename_i v hv
    split at h
    · rename_i b
      split at h
      · rename_i p ps
        cases h
        have := ZuJ (hb _ List.mem_cons_self)
        subst this
        exact ⟨Zj7 hv, fun b hb' => hb b (List.mem_cons_of_mem _ hb')⟩
      · cases h
    · cases h; exact ⟨rfl, hb⟩
  · cases h; exact ⟨rfl, hb⟩
def inN (t : Nat) : List Nat → Bool
  | [] => false
  | x :: l => match Nat.beq x t with | true => true | false => inN t l
def ZLf (d : Option Nat) (l : List Nat) : List Nat := match d with | none => l | some t => l.filter fun x => !Nat.beq x t
abbrev ZHd := Option (List Bool × List Bool × Zh8 × List Nat)
def Zjg (st : List Nat) (env : Zh8) (pa acc : List Bool) (t : Nat) : ZHd :=
  match inN t st with
  | true => some (pa, acc, env, st)
  | false => match ZoM env pa acc t with
    | none => none
    | some (pa', acc', env') => some (pa', acc', env', t :: st)
theorem Zf6 {st st' : List Nat} {env env' : Zh8} {pa pa' acc acc' : List Bool} {t : Nat} (h : Zjg st env pa acc t = some (pa', acc', env', st')) (hb : ∀ b ∈ acc', b = true) : env' = env ∧ ∀ b ∈ acc, b = true := by
  unfold Zjg at h
  split at h
  · cases h; exact ⟨rfl, hb⟩
  · split at h
    · cases h
    · rename_i hs; cases h; exact ZoS hs hb
def ZjC (st : List Nat) (k : OpK) (env : Zh8) (pa acc : List Bool) : ZHd :=
  match k with
  | .pick c _ _ => (match c with | .t n => Zjg st env pa acc n | .c _ => some (pa, acc, env, st))
  | _ => some (pa, acc, env, st)
theorem Zil {st st' : List Nat} {k : OpK} {env env' : Zh8} {pa pa' acc acc' : List Bool} (h : ZjC st k env pa acc = some (pa', acc', env', st')) (hb : ∀ b ∈ acc', b = true) : env' = env ∧ ∀ b ∈ acc, b = true := by
  unfold ZjC at h
  split at h
  · split at h
    · exact Zf6 h hb
    · cases h; exact ⟨rfl, hb⟩
  · cases h; exact ⟨rfl, hb⟩
def Zi6 (st : List Nat) (o : AOp) (env : Zh8) (pa acc : List Bool) : ZHd :=
  match o.g with
  | none => ZjC st o.k env pa acc
  | some p => match Zjg st env pa acc p.1 with
    | none => none
    | some (pa1, acc1, env1, st1) => match ZgI o env1 with
      | some g => (match g with | true => ZjC st1 o.k env1 pa1 acc1 | false => some (pa1, acc1, env1, st1))
      | none => none
theorem Zf7 {st st' : List Nat} {o : AOp} {env env' : Zh8} {pa pa' acc acc' : List Bool} (h : Zi6 st o env pa acc = some (pa', acc', env', st')) (hb : ∀ b ∈ acc', b = true) : env' = env ∧ ∀ b ∈ acc, b = true := by
  unfold Zi6 at h
  split at h
  · exact Zil h hb
  · split at h
    · cases h
    · rename_i pa1 acc1 env1 st1 hs
      split at h
      · split at h
        · obtain ⟨e1, h1⟩ := Zil h hb
          obtain ⟨e2, h2⟩ := Zf6 hs h1
          exact ⟨e1.trans e2, h2⟩
        · cases h; exact Zf6 hs hb
      · cases h
structure Ctr where
  f : FuncId
  n : Nat
  run : List Bool → List AV → Option (Bool × AV × Option Fresh)
def Zhc (P : Program) (f : FuncId) (args : List AV) (r : AV) (fr : Option Fresh) : Prop :=
  match Nat.blt f 1000000 with
  | true => ZaI P f args r fr
  | false => ∀ x rest fs, args = .list x :: rest → fr = some fs → Zk6 P (f - 1000000) fs.e fs.sz x fs.r rest r
def Ctr.OK (P : Program) (c : Ctr) : Prop := ∀ pa args r fr, c.run pa args = some (true, r, fr) → Zhc P c.f args r fr
def ZnD : List Ctr → List Bool → Con
  | [], _, _, _ => none
  | c :: l, pa, f, args => match Nat.beq c.f f with
    | true => (match Nat.blt f 1000000 with
      | true => (match c.run pa args with | some r => some r | none => ZnD l pa f args)
      | false => none)
    | false => ZnD l pa f args
def ZBB : List Ctr → List Bool → FuncId → List AV → Option (Bool × AV × Option Fresh)
  | [], _, _, _ => none
  | c :: l, pa, f, args => match Nat.beq c.f (f + 1000000) with
    | true => (match c.run pa args with | some r => some r | none => ZBB l pa f args)
    | false => ZBB l pa f args
def ZKd : List Ctr → FuncId → Nat
  | [], _ => 0
  | c :: l, f => match Nat.beq c.f f with | true => c.n | false => ZKd l f
def Zas (P : Program) : List Ctr → Prop
  | [] => True
  | c :: l => c.OK P ∧ Zas P l
theorem Zg9 {P : Program} : ∀ {l : List Ctr}, Zas P l → ∀ pa, ZgP P (ZnD l pa)
  | [], _, pa => fun f args r fr h => by cases h
  | c :: l, ⟨h1, h2⟩, pa => fun f args r fr h => by
    simp only [ZnD] at h
    split at h
    · rename_i e
      have e : c.f = f := Nat.eq_of_beq_eq_true e
      split at h
      · rename_i hlt
        split at h
        · rename_i q hq
          cases h
          have := h1 _ _ _ _ hq
          unfold Zhc at this
          rw [e, hlt] at this
          exact this
        · exact Zg9 h2 pa f args r fr h
      · cases h
    · exact Zg9 h2 pa f args r fr h
theorem ZjD {P : Program} : ∀ {l : List Ctr}, Zas P l → ∀ {pa : List Bool} {f : FuncId} {x : Row} {rest : List AV} {r : AV} {fs : Fresh}, ZBB l pa f (.list x :: rest) = some (true, r, some fs) → Zk6 P f fs.e fs.sz x fs.r rest r
  | [], _, pa, f, x, rest, r, fs, h => by cases h
  | c :: l, ⟨h1, h2⟩, pa, f, x, rest, r, fs, h => by
    simp only [ZBB] at h
    split at h
    · rename_i e
      have e : c.f = f + 1000000 := Nat.eq_of_beq_eq_true e
      split at h
      · rename_i q hq
        cases h
        have := h1 _ _ _ _ hq
        unfold Zhc at this
        have hb : Nat.blt c.f 1000000 = false := Zcl (by rw [e]; exact Nat.le_add_left _ _)
        rw [hb] at this
        have h3 := this x rest fs rfl rfl
        rw [e, Nat.add_sub_cancel] at h3
        exact h3
      · exact ZjD h2 h
    · exact ZjD h2 h
theorem ZkR {α : Type} (t : Nat) (x y : α) : ∀ l : List (Nat × α), Zd1 (Zd1 l t x) t y = Zd1 l t y
  | [] => by have : Nat.beq t t = true := by simp
             simp only [Zd1, this]
  | (i, z) :: l => by
    have ht : Nat.beq t t = true := by simp
    cases hb : Nat.beq i t with
    | true => simp only [Zd1, hb]
    | false => cases hl : Nat.blt t i with
      | true => simp only [Zd1, hb, hl, ht]
      | false => simp only [Zd1, hb, hl, ZkR t x y l]
def ZxH : AV → Option Nat
  | .slc _ _ k n c => (match Nat.beq k 0, c with | true, none => some n | _, _ => none)
  | _ => none
theorem Zox {r : AV} {n a i : Nat} (h : ZxH r = some n) : ZEl a i r = .slc a i 0 n none := by
  unfold ZxH at h
  split at h
  · rename_i b j k m c
    split at h
    · rename_i hk
      have := Nat.eq_of_beq_eq_true hk
      subst this
      cases h; rfl
    · cases h
  · cases h
def ZJF (A : Ar) (l : List Ctr) (pa : List Bool) (env : Zh8) (h : Zaa) (o : AOp) : Option (Bool × AV × Zaa) :=
  match o.g with
  | some _ => none
  | none => match o.k with
    | .ncall _ _ g args => match args.map (Zby (ZaE env)) with
      | v :: rest => match v with
        | .row a i => match blk h a i with
          | .row e sz x => match AV.pureL rest && x.pure with
            | true => match ZBB l pa g (.list x :: rest) with
              | some (b, r, some fs) => match fs.r.pure && Zrd r with
                | true => (match ZxH r, ZmM a, o.d with
                  | some n, false, some _ => some (Zab (Nat.ble n (fs.r.len A)) (Zab b (Zab (Nat.beq fs.e e) (Nat.beq fs.sz sz))), .row a (nxt (Za1 h a i (.row e sz fs.r)) a), Zak (Za1 (Za1 h a i (.row e sz fs.r)) a i .dead) a (.row e sz (fs.r.sub A 0 n)))
                  | _, _, _ => some (Zab b (Zab (Nat.beq fs.e e) (Nat.beq fs.sz sz)), ZEl a i r, Za1 h a i (.row e sz fs.r)))
                | false => none
              | _ => none
            | false => none
          | _ => none
        | _ => none
      | [] => none
    | _ => none
theorem Zyb {C : Ctx} {l : List Ctr} {pa : List Bool} {h h' : Zaa} {Q : List AFrame → Zaa → Prop} {f : AFrame} {fs : List AFrame} {k : List AItem} {o : AOp} {os : List AOp} {r : AV} (hl : Zas C.P l) (hr : f.ret = false) (ht : f.todo = .inReg (o :: os) :: k) (hm : ZJF std l pa f.env h o = some (true, r, h'))
    (hq : Ev C ({ f with env := ZnI f.env o.d r, todo := .inReg os :: k } :: fs) h' Q) : Ev C (f :: fs) h Q := by
  unfold ZJF at hm
  split at hm
  · cases hm
  · rename_i hg
    split at hm
    · rename_i mm a0 g args hk
      split at hm
      · rename_i v rest ha
        split at hm
        · rename_i a i
          split at hm
          · rename_i e sz x hb
            split at hm
            · rename_i hp
              split at hm
              · rename_i b r0 fs0 hc
                split at hm
                · rename_i hp2
                  simp only [Bool.and_eq_true] at hp hp2
                  split at hm
                  · rename_i n d hpm hfz hd
                    simp only [Option.some.injEq, Prod.mk.injEq, std_and] at hm
                    obtain ⟨⟨hle, rfl, he, hs⟩, rfl, rfl⟩ := hm
                    have he : fs0.e = e := by simpa [std] using he
                    have hs : fs0.sz = sz := by simpa [std] using hs
                    have hle : n ≤ fs0.r.elems.length := by rw [Row.len_std] at hle; simpa [std] using hle
                    have hmu := ZjD hl hc
                    rw [he, hs] at hmu
                    have hnd : blk h a i ≠ .dead := by rw [hb]; simp
                    refine Zms hr ht hg hk ha hb hp.2 hp2.1 hp.1 hp2.2 hmu ?_
                    rw [Zox hpm]
                    refine ZrT (t := d) (a := a) (i := i) (e := e) (sz := sz) (n := n) (r := fs0.r) ?_ (by rw [ZdV hnd, if_pos ⟨rfl, rfl⟩]) hfz hle ?_
                    · simp only [hd, ZnI, ZcY, if_true]
                    · simp only [hd, ZnI, ZkR] at hq ⊢
                      exact hq
                  · simp only [Option.some.injEq, Prod.mk.injEq, std_and] at hm
                    obtain ⟨⟨rfl, he, hs⟩, rfl, rfl⟩ := hm
                    have he : fs0.e = e := by simpa [std] using he
                    have hs : fs0.sz = sz := by simpa [std] using hs
                    have hmu := ZjD hl hc
                    rw [he, hs] at hmu
                    exact Zms hr ht hg hk ha hb hp.2 hp2.1 hp.1 hp2.2 hmu hq
                · cases hm
              · cases hm
            · cases hm
          · cases hm
        · cases hm
      · cases hm
    · cases hm
def ZxP (o : AOp) (env : Zh8) : Option FuncId :=
  match o.k with
  | .ncall _ _ f _ => some f
  | .ncallv _ _ x _ => (match Zy7 (Zby (ZaE env) x) [] with | some (f, _) => some f | none => none)
  | _ => none
def ZjW (l : List Ctr) (o : AOp) (env : Zh8) (pa : List Bool) : List Bool :=
  match ZxP o env with
  | none => pa
  | some f => match ZgI o env with
    | some g => (match g with | true => pa.drop (ZKd l f) | false => pa)
    | none => pa
def Zkk (A : Ar) (T : Tab) (l : List Ctr) : List AOp → List Nat → List Bool → List Bool → Zh8 → Zaa → Option (List Bool × List Bool × Zh8 × Zaa × List Foot)
  | [], _, pa, acc, env, h => some (pa, acc, env, h, [])
  | o :: os, st, pa, acc, env, h => match Zi6 st o env pa acc with
    | none => none
    | some (pa1, acc1, env1, st1) => match Zf0 A T (ZnD l pa1) o env1 h with
      | none => none
      | some (b, r, h1) => match Zkk A T l os (ZLf o.d st1) (ZjW l o env1 pa1) (b :: acc1) (ZnI env1 o.d r) h1 with
        | none => none
        | some (pa2, acc2, env2, h2, zs) => some (pa2, acc2, env2, h2, Zie env1 h o :: zs)
def Zqs (fr : List (Nat × Nat)) (zs : List Foot) : Bool := match fr with | [] => true | fr => Znj zs fr
abbrev Zzs := Option (List Bool × List Bool × AFrame × List AFrame × Zaa)
def Zj0 (pa : List Bool) : ZqS → Zzs
  | none => none
  | some (acc, f, fs, h) => some (pa, acc, f, fs, h)
def ZKr (A : Ar) (T : Tab) (l : List Ctr) (pa acc : List Bool) (f : AFrame) (k : List AItem) (fs : List AFrame) (h : Zaa) (fr : List (Nat × Nat)) (ops : List AOp) : Zzs :=
  match Zkk A T l ops [] pa acc f.env h with
  | none => none
  | some (pa', acc', env', h', zs) => match Zqs fr zs with
    | true => some (pa', acc', { f with env := env', todo := k }, fs, h')
    | false => none
def opG (A : Ar) (T : Tab) (l : List Ctr) (pa acc : List Bool) (o : AOp) (os : List AOp) (f : AFrame) (k : List AItem) (fs : List AFrame) (h : Zaa) : Zzs :=
  match ZJF A l pa f.env h o with
  | some (b, r, h2) => some (pa, b :: acc, { f with env := ZnI f.env o.d r, todo := .inReg os :: k }, fs, h2)
  | none => match Zi6 [] o f.env pa acc with
  | none => none
  | some (pa1, acc1, env1, _) => match opA A T (ZnD l pa1) acc1 o os { f with env := env1 } k fs h with
    | none => none
    | some (acc2, f2, fs2, h2) => some (ZjW l o env1 pa1, acc2, f2, fs2, h2)
def ZBd (pa acc : List Bool) (f : AFrame) (k : List AItem) (fs : List AFrame) (h : Zaa) (v : AV) (a b : ACode) : Zzs :=
  match v with
  | .bool t => (match pa with
    | p :: ps => some (ps, asB p t :: acc, { f with todo := .code (ZGT p a b) :: k }, fs, h)
    | [] => none)
  | _ => none
def ZxS (A : Ar) (T : Tab) (l : List Ctr) (pa acc : List Bool) (f : AFrame) (fs : List AFrame) (h : Zaa) : Zzs :=
  match f.ret with
  | true => Zj0 pa (ZgW A T (ZnD l pa) acc f fs h)
  | false => match f.todo with
    | [] => Zj0 pa (ZgW A T (ZnD l pa) acc f fs h)
    | it :: k => match it with
      | .inReg os => (match os with
        | [] => Zj0 pa (ZgW A T (ZnD l pa) acc f fs h)
        | o :: os => opG A T l pa acc o os f k fs h)
      | .code c => (match c with
        | .cond c a b => ZBd pa acc f k fs h (Zby (ZaE f.env) c) a b
        | .reg d ops => (match d with
          | some fr => ZKr A T l pa acc f k fs h fr ops
          | none => Zj0 pa (ZgW A T (ZnD l pa) acc f fs h))
        | _ => Zj0 pa (ZgW A T (ZnD l pa) acc f fs h))
      | _ => Zj0 pa (ZgW A T (ZnD l pa) acc f fs h)
def Zhu (A : Ar) (T : Tab) (l : List Ctr) : Nat → List Bool → List Bool → AFrame → List AFrame → Zaa → Option ASt
  | 0, _, acc, f, fs, h => some (acc, f, fs, h)
  | n + 1, pa, acc, f, fs, h => match ZxS A T l pa acc f fs h with
    | none => none
    | some (pa', acc', f', fs', h') => Zhu A T l n pa' acc' f' fs' h'
section
variable {C : Ctx} {T : Tab} {l : List Ctr} {h h' : Zaa} {f f' : AFrame} {fs fs' : List AFrame} {k : List AItem} {Q : List AFrame → Zaa → Prop} {pa pa' acc acc' : List Bool}
theorem Zh0 : ∀ {os : List AOp} {st : List Nat} {pa pa' acc acc' : List Bool} {env env' : Zh8} {h h' : Zaa} {zs : List Foot}, Zkk std T l os st pa acc env h = some (pa', acc', env', h', zs) → (∀ b ∈ acc', b = true) → ∀ b ∈ acc, b = true
  | [], st, pa, pa', acc, acc', env, env', h, h', zs, hd, hb => by simp only [Zkk, Option.some.injEq, Prod.mk.injEq] at hd; obtain ⟨_, rfl, _⟩ := hd; exact hb
  | o :: os, st, pa, pa', acc, acc', env, env', h, h', zs, hd, hb => by
    simp only [Zkk] at hd
    split at hd
    · cases hd
    · rename_i hs
      split at hd
      · cases hd
      · split at hd
        · cases hd
        · rename_i hr
          cases hd
          have := Zh0 hr hb
          exact (Zf7 hs (fun b hb' => this b (List.mem_cons_of_mem _ hb'))).2
theorem Zhh (hT : Zcg C.P T) (hl : Zas C.P l) : ∀ {os : List AOp} {st : List Nat} {pa pa' acc acc' : List Bool} {env env' : Zh8} {h h' : Zaa} {zs : List Foot}, Zkk std T l os st pa acc env h = some (pa', acc', env', h', zs) → (∀ b ∈ acc', b = true) → zs.map (·.o) = os ∧ Runs C.P zs (ZaE env) h (ZaE env') h'
  | [], st, pa, pa', acc, acc', env, env', h, h', zs, hd, _ => by simp only [Zkk, Option.some.injEq, Prod.mk.injEq] at hd; obtain ⟨_, _, rfl, rfl, rfl⟩ := hd; exact ⟨rfl, .nil _ _⟩
  | o :: os, st, pa, pa', acc, acc', env, env', h, h', zs, hd, hb => by
    simp only [Zkk] at hd
    split at hd
    · cases hd
    · rename_i pa1 acc1 env1 st1 hs
      split at hd
      · cases hd
      · rename_i b r h1 ho
        split at hd
        · cases hd
        · rename_i hr
          cases hd
          have ha := Zh0 hr hb
          obtain ⟨i1, i2⟩ := Zhh hT hl hr hb
          obtain ⟨e, _⟩ := Zf7 hs (fun b hb' => ha b (List.mem_cons_of_mem _ hb'))
          subst e
          have hbt := ha b List.mem_cons_self
          subst hbt
          rw [Zeu] at i2
          have := ZdQ hT (Zg9 hl pa1) ho
          exact ⟨by simp [Zie, i1], .cons ⟨this, fun x hx p hp => by simp only [Zie, List.mem_flatMap]; exact ⟨x, hx, hp⟩, ZjS this⟩ i2⟩
theorem Zl5 {fr : List (Nat × Nat)} {zs : List Foot} (hb : Zqs fr zs = true) : ∀ (i j : Nat) (x z : Foot), (i, j) ∈ fr → zs[i]? = some x → zs[j]? = some z → ZnB x z := by
  unfold Zqs at hb
  split at hb
  · intro i j x z hm; simp at hm
  · exact ZfU hb
def Zpf (C : Ctx) (Q : List AFrame → Zaa → Prop) (acc : List Bool) (f : AFrame) (fs : List AFrame) (h : Zaa) (r : Zzs) : Prop :=
  ∀ pa' acc' f' fs' h', r = some (pa', acc', f', fs', h') → (∀ b ∈ acc', b = true) → Ev C (f' :: fs') h' Q → (∀ b ∈ acc, b = true) ∧ Ev C (f :: fs) h Q
theorem Zl3 {r : ZqS} (hs : ZhX C Q acc f fs h r) : Zpf C Q acc f fs h (Zj0 pa r) := by
  intro pa' acc' f' fs' h' he hb hq
  cases r with
  | none => cases he
  | some p => obtain ⟨a, b, c, d⟩ := p; cases he; exact hs _ _ _ _ rfl hb hq
theorem Zlh (hfol : C.P.follows .mixedOrders = true) (hT : Zcg C.P T) (hl : Zas C.P l) : Zpf C Q acc f fs h (ZxS std T l pa acc f fs h) := by
  have base : Zpf C Q acc f fs h (Zj0 pa (ZgW std T (ZnD l pa) acc f fs h)) := Zl3 (Zh6 hfol hT (Zg9 hl pa))
  unfold ZxS
  split
  · exact base
  · rename_i hr
    split
    · exact base
    · rename_i it k ht
      split
      · split
        · exact base
        · rename_i o os
          intro pa' acc' f' fs' h' he hb hq
          unfold opG at he
          split at he
          · rename_i bm rm hm2 hmr
            cases he
            have hbt := hb bm List.mem_cons_self
            subst hbt
            exact ⟨fun b hb' => hb b (List.mem_cons_of_mem _ hb'), Zyb hl hr ht hmr hq⟩
          split at he
          · cases he
          · rename_i pa1 acc1 env1 st1 hs
            split at he
            · cases he
            · rename_i acc2 f2 fs2 h2 ho
              cases he
              have key : (∀ b ∈ acc1, b = true) → env1 = f.env ∧ ∀ b ∈ acc, b = true := fun h1 => Zf7 hs h1
              have hsd := Zk2 (Q := Q) hT (Zg9 hl pa1) (f := { f with env := env1 }) (acc := acc1) (fs := fs) (h := h) (k := k) (o := o) (os := os) hr ht _ _ _ _ ho hb hq
              obtain ⟨e, h3⟩ := key hsd.1
              refine ⟨h3, ?_⟩
              have := hsd.2
              rw [e] at this
              exact this
      · rename_i c
        split
        · rename_i c a b
          intro pa' acc' f' fs' h' he hb hq
          unfold ZBd at he
          split at he
          · rename_i t hc
            split at he
            · rename_i p ps
              cases he
              have := ZuJ (hb _ List.mem_cons_self)
              subst this
              exact ⟨fun b hb' => hb b (List.mem_cons_of_mem _ hb'), ZlQ hr ht hc (by cases t <;> exact hq)⟩
            · cases he
          · cases he
        · split
          · rename_i ops fr
            intro pa' acc' f' fs' h' he hb hq
            unfold ZKr at he
            split at he
            · cases he
            · rename_i pa1 acc1 env1 h1 zs hd
              split at he
              · rename_i hfree
                cases he
                obtain ⟨d1, d2⟩ := Zhh hT hl hd hb
                exact ⟨Zh0 hd hb, ZoT hfol hr ht d1 (fun i j x z hm hx hz _ => Zl5 hfree i j x z hm hx hz) d2 (fun _ _ e => e) hq⟩
              · cases he
          · exact base
        · exact base
      · exact base
theorem Zce (hfol : C.P.follows .mixedOrders = true) (hT : Zcg C.P T) (hl : Zas C.P l) : ∀ (n : Nat) {pa acc : List Bool} {f : AFrame} {fs : List AFrame} {h : Zaa}, ZhX C Q acc f fs h (Zhu std T l n pa acc f fs h)
  | 0, pa, acc, f, fs, h => by
    intro acc' f' fs' h' he hb hq
    simp only [Zhu, Option.some.injEq, Prod.mk.injEq] at he
    obtain ⟨rfl, rfl, rfl, rfl⟩ := he
    exact ⟨hb, hq⟩
  | n + 1, pa, acc, f, fs, h => by
    intro acc' f' fs' h' he hb hq
    simp only [Zhu] at he
    split at he
    · cases he
    · rename_i pa1 acc1 f1 fs1 h1 hs
      obtain ⟨hb1, hq1⟩ := Zce hfol hT hl n _ _ _ _ he hb hq
      exact Zlh hfol hT hl _ _ _ _ _ hs hb1 hq1
end
end Go.Proofs.Ytjhdnpmojhkbjaa
/- Tracked blocks are named anew: those that nothing names are dropped, the others are counted from 0. No condition. -/
namespace Go.Proofs.Ytjhdnpmojhkbjaa
open Go.RowKit (Below)
mutual
def AV.ren (σ : Nat → Nat → Option Nat) : AV → AV
  | .ptr a i k o => match σ a i with | some j => .ptr a j k o | none => .top
  | .row a i => match σ a i with | some j => .row a j | none => .top
  | .slc a i k n c => match σ a i with | some j => .slc a j k n c | none => .top
  | .aslc a i k o n => match σ a i with | some j => .aslc a j k o n | none => .top
  | .yld a i => match σ a i with | some j => .yld a j | none => .top
  | .agg r => .agg (Row.ren σ r)
  | .tup xs => .tup (AV.renL σ xs)
  | .fn f xs => .fn f (AV.renL σ xs)
  | .int k n => .int k n
  | .bool b => .bool b
  | .str s => .str s
  | .flt k b => .flt k b
  | .val v => .val v
  | .nils => .nils
  | .list r => .list r
  | .eptr x o => .eptr x o
  | .und => .und
  | .top => .top
def AV.renL (σ : Nat → Nat → Option Nat) : List AV → List AV
  | [] => []
  | x :: xs => AV.ren σ x :: AV.renL σ xs
def Row.ren (σ : Nat → Nat → Option Nat) : Row → Row
  | .gen xs => .gen (AV.renL σ xs)
  | .ints k l => .ints k l
  | .flts k l => .flts k l
  | .big sh xs => .big sh xs
end
section
variable {σ : Nat → Nat → Option Nat}
theorem ZgX : ∀ xs : List AV, AV.renL σ xs = xs.map (AV.ren σ)
  | [] => rfl
  | x :: xs => by rw [AV.renL, ZgX xs]; rfl
theorem ZkO (s : Sh) (v : AV) : AV.ren σ (s.view1 v) = s.view1 v := by cases s <;> rfl
theorem Zj9 : ∀ (ss : List Sh) (i : Nat) (v : AV), AV.renL σ (ZeV ss i v) = ZeV ss i v
  | [], _, _ => rfl
  | s :: ss, i, v => by rw [ZeV, AV.renL, ZkO, Zj9 ss]
theorem Zsm (s : Sh) (v : AV) : AV.ren σ (s.view v) = s.view v := by
  cases s with
  | agg ss => simp only [Sh.view, AV.ren, Row.ren, Zj9]
  | _ => simp only [Sh.view]; exact ZkO _ _
theorem ZcT (r : Row) : (Row.ren σ r).elems = r.elems.map (AV.ren σ) := by
  cases r with
  | gen xs => rw [Row.ren, Row.elems, Row.elems, ZgX]
  | ints k l => rw [Row.ren, Row.elems, List.map_map]; rfl
  | flts k l => rw [Row.ren, Row.elems, List.map_map]; rfl
  | big sh xs => rw [Row.ren, Row.elems, List.map_map]; exact List.map_congr_left fun v _ => (Zsm sh v).symm
theorem Zna (v : AV) : (AV.ren σ v).flat = v.flat.map (AV.ren σ) := by
  cases v with
  | agg r => simp only [AV.ren, AV.flat, ZcT]
  | ptr a i k o => simp only [AV.ren]; split <;> simp_all [AV.flat, AV.ren]
  | row a i => simp only [AV.ren]; split <;> simp_all [AV.flat, AV.ren]
  | slc a i k n c => simp only [AV.ren]; split <;> simp_all [AV.flat, AV.ren]
  | aslc a i k o n => simp only [AV.ren]; split <;> simp_all [AV.flat, AV.ren]
  | yld a i => simp only [AV.ren]; split <;> simp_all [AV.flat, AV.ren]
  | _ => rfl
theorem ZlT (xs : List AV) : Zad (xs.map (AV.ren σ)) = (Zad xs).map (AV.ren σ) := by
  induction xs with
  | nil => rfl
  | cons x xs ih => rw [List.map_cons, ZaA, ZaA, List.map_append, ih, Zna]
end
structure Good (h : Zaa) (L : Lay) (h' : Zaa) (L' : Lay) (σ : Nat → Nat → Option Nat) : Prop where
  fwd : ∀ a i j, σ a i = some j → j < nxt h' a ∧ (∀ sz, (blk h' a j).tag = some sz → (blk h a i).tag = some sz) ∧ L'.loc a j = L.loc a i ∧ L'.size a j = L.size a i
  bwd : ∀ a j, (blk h' a j).tag ≠ none → ∃ i, (blk h a i).tag ≠ none ∧ L'.loc a j = L.loc a i
section
variable {C : Ctx} {h h' : Zaa} {L L' : Lay} {w : World} {σ : Nat → Nat → Option Nat} {ok ok' : Nat → Prop}
theorem Good.okk (G : Good h L h' L' σ) {g : Nat} (ho : Zar C h L g) : Zar C h' L' g := by
  rcases ho with ho | ⟨h1, h2⟩
  · exact .inl ho
  · refine .inr ⟨h1, fun a j ht e => ?_⟩
    obtain ⟨i, hi, hl⟩ := G.bwd a j ht
    exact h2 a i hi (hl.symm.trans e)
theorem Live.ren (G : Good h L h' L' σ) {a i j : Nat} (hs : σ a i = some j) {p p' : Nat → Nat × Nat → Prop} (hl : Live h L a i p) (hp : ∀ sz, L'.size a j = L.size a i → p (L.loc a i) sz → p' (L.loc a i) sz) : Live h' L' a j p' := by
  obtain ⟨g1, g2, g3, g4⟩ := G.fwd a i j hs
  exact ⟨g1, fun sz ht => by rw [g3]; exact hp sz g4 (hl.2 sz (g2 sz ht))⟩
theorem Rel.ren (G : Good h L h' L' σ) (hok : ∀ g, ok g → ok' g) {av : AV} {v : Value} (hr : Rel w ok h L av v) : Rel w ok' h' L' (AV.ren σ av) v := by
  induction hr with
  | int k n => exact .int k n
  | bool b => exact .bool b
  | str x => exact .str x
  | flt k b => exact .flt k b
  | val v => exact .val v
  | nils => exact .nils
  | nil r a c hr => exact .nil r a c hr
  | list r xs hx ad n cap sz cs hb ho hn hcap hsz hl h1 hc hp hr ih =>
    exact .list r xs hx ad n cap sz cs hb (hok _ ho) hn hcap hsz hl h1 hc hp (fun j u v hu hv => ((hr j u v hu hv).okmono (fun g _ ho => hok g ho)).pure (AV.pureL_mem hp hu))
  | eptr x off ad cs hs hb ho hl h1 hc hp hr ih =>
    exact .eptr x off ad cs hs hb (hok _ ho) hl h1 hc hp (fun j u v hu hv => ((hr j u v hu hv).okmono (fun g _ ho => hok g ho)).pure (AV.pureL_mem hp hu))
  | agg r xs hx vs hl h1 hr ih =>
    rw [AV.ren]
    refine .agg _ (xs.map (AV.ren σ)) (by rw [ZcT, hx]) vs (by simpa using hl) h1 (fun j u v hu hv => ?_)
    rw [List.getElem?_map] at hu
    cases hxj : xs[j]? with
    | none => rw [hxj] at hu; cases hu
    | some z => rw [hxj] at hu; simp only [Option.map_some, Option.some.injEq] at hu; subst hu; exact ih j z v hxj hv
  | tup xs vs hl hr ih =>
    rw [AV.ren, ZgX]
    refine .tup _ vs (by simpa using hl) (fun j u v hu hv => ?_)
    rw [List.getElem?_map] at hu
    cases hxj : xs[j]? with
    | none => rw [hxj] at hu; cases hu
    | some z => rw [hxj] at hu; simp only [Option.map_some, Option.some.injEq] at hu; subst hu; exact ih j z v hxj hv
  | fn f xs vs hl hr ih =>
    rw [AV.ren, ZgX]
    refine .fn f _ vs (by simpa using hl) (fun j u v hu hv => ?_)
    rw [List.getElem?_map] at hu
    cases hxj : xs[j]? with
    | none => rw [hxj] at hu; cases hu
    | some z => rw [hxj] at hu; simp only [Option.map_some, Option.some.injEq] at hu; subst hu; exact ih j z v hxj hv
  | ptr a i k off g o hl =>
    rw [AV.ren]
    cases hs : σ a i with
    | none => exact .top _
    | some j => exact .ptr a j k off g o (hl.ren G hs fun _ _ h => h)
  | row a i g o n c hn hl =>
    rw [AV.ren]
    cases hs : σ a i with
    | none => exact .top _
    | some j => exact .row a j g o n c hn (hl.ren G hs fun _ e h => by rw [e]; exact h)
  | slc a i k n cap g o c hn hl =>
    rw [AV.ren]
    cases hs : σ a i with
    | none => exact .top _
    | some j => exact .slc a j k n cap g o c hn (hl.ren G hs fun _ e h => by rw [e]; exact h)
  | aslc a i k off n g o c hn hl =>
    rw [AV.ren]
    cases hs : σ a i with
    | none => exact .top _
    | some j => exact .aslc a j k off n g o c hn (hl.ren G hs fun _ _ h => h)
  | yld a i g hl =>
    rw [AV.ren]
    cases hs : σ a i with
    | none => exact .top _
    | some j => exact .yld a j g (hl.ren G hs fun _ _ h => h)
  | und => exact .und
  | top v => exact .top v
def ZhI (σ : Nat → Nat → Option Nat) : Zh8 → Zh8
  | [] => []
  | (t, v) :: l => (t, AV.ren σ v) :: ZhI σ l
theorem Zhv : ∀ (env : Zh8) (t : Nat), ZaE (ZhI σ env) t = (ZaE env t).map (AV.ren σ)
  | [], t => rfl
  | (i, x) :: l, t => by
    simp only [ZhI, ZaE]
    split
    · rfl
    · exact Zhv l t
theorem EnvRel.ren (G : Good h L h' L' σ) {env : Zh8} {tmps : Array Value} (he : EnvRel C h L w env tmps) : EnvRel C h' L' w (ZhI σ env) tmps := by
  intro t av ht
  rw [Zhv] at ht
  cases hx : ZaE env t with
  | none => rw [hx] at ht; cases ht
  | some u => rw [hx] at ht; simp only [Option.map_some, Option.some.injEq] at ht; subst ht; exact (he t u hx).ren G (fun g ho => G.okk ho)
def Blk.ren (σ : Nat → Nat → Option Nat) : Blk → Blk
  | .row e sz r => .row e sz (Row.ren σ r)
  | .lp l => .lp { l with env := ZhI σ l.env }
  | .dfr => .dfr
  | .dead => .dead
theorem Blk.ren_tag (b : Blk) : (b.ren σ).tag = b.tag := by
  cases b with
  | row e sz r => simp only [Blk.ren, Blk.tag, ZcT, List.length_map]
  | _ => rfl
theorem BRel.ren (G : Good h L h' L' σ) {g n : Nat} {b : Blk} (hb : BRel C h L w g n b) : BRel C h' L' w g n (b.ren σ) := by
  cases b with
  | row e sz r =>
    obtain ⟨h0, h1, h2, h3, cur, h4, h5, h6, h7⟩ := hb
    refine ⟨h0, h1, by rw [ZcT, List.length_map]; exact h2, fun x hx => ?_, cur, h4, h5, ?_, by rw [ZcT, List.length_map]; exact h7⟩
    · rw [ZcT] at hx
      obtain ⟨y, hy, rfl⟩ := List.mem_map.1 hx
      rw [Zna, List.length_map]; exact h3 y hy
    · rw [ZcT, List.length_map, ZlT]
      refine ⟨by rw [List.length_map]; exact h6.1, fun j u v hu hv => ?_⟩
      rw [List.getElem?_map] at hu
      cases hx : (Zad r.elems)[j]? with
      | none => rw [hx] at hu; cases hu
      | some z => rw [hx] at hu; simp only [Option.map_some, Option.some.injEq] at hu; subst hu; exact (h6.2 j z v hx hv).ren G (fun g ho => G.okk ho)
  | lp l =>
    obtain ⟨r, h1, h2, h3, h4, h5, h6, h7, h8, h9⟩ := hb
    exact ⟨r, h1, h2, h3, h4, h5.ren G, h6, h7, h8, h9⟩
  | dfr => exact hb
  | dead => trivial
def Zsg (σ : Nat → Nat → Option Nat) : AItem → Option AItem
  | .inRF a i => match σ a i with | some j => some (.inRF a j) | none => none
  | .endRF a i => match σ a i with | some j => some (.endRF a j) | none => none
  | .code c => some (.code c)
  | .inBlock i => some (.inBlock i)
  | .inLoop b => some (.inLoop b)
  | .inReg os => some (.inReg os)
  | .beginRound => some .beginRound
def ZiQ (σ : Nat → Nat → Option Nat) : List AItem → Option (List AItem)
  | [] => some []
  | x :: k => match Zsg σ x with
    | none => none
    | some y => match ZiQ σ k with | some l => some (y :: l) | none => none
def ZsK (σ : Nat → Nat → Option Nat) : List (Nat × Nat) → Option (List (Nat × Nat))
  | [] => some []
  | (a, i) :: k => match σ a i with
    | none => none
    | some j => match ZsK σ k with | some l => some ((a, j) :: l) | none => none
def ZsV (σ : Nat → Nat → Option Nat) : Option (Nat × Nat) → Option (Option (Nat × Nat))
  | none => some none
  | some (a, i) => match σ a i with | some j => some (some (a, j)) | none => none
def ZxQ : AItem → Bool
  | .inRF _ _ => false
  | .endRF _ _ => false
  | _ => true
def ZfG : List AItem → Bool
  | [] => true
  | x :: k => match ZxQ x with | true => ZfG k | false => false
def ZIH (σ : Nat → Nat → Option Nat) (f : AFrame) : Option AFrame :=
  match ZsK σ f.defs with
  | none => none
  | some ds => match ZsV σ f.rnd with
    | none => none
    | some rd => match ZfG f.todo with
      | true => some { f with env := ZhI σ f.env, defs := ds, rnd := rd }
      | false => match ZiQ σ f.todo with
        | none => none
        | some td => some { f with env := ZhI σ f.env, todo := td, defs := ds, rnd := rd }
def ZqM (σ : Nat → Nat → Option Nat) : List AFrame → Option (List AFrame)
  | [] => some []
  | f :: fs => match ZIH σ f with
    | none => none
    | some g => match ZqM σ fs with | some gs => some (g :: gs) | none => none
theorem ItRel.ren {P : Program} {N : Nat} (G : Good h L h' L' σ) {x x' : AItem} {y : Item} (hr : Zsg σ x = some x') (hx : ItRel P h L N x y) : ItRel P h' L' N x' y := by
  cases hx with
  | code a c hm => cases hr; exact .code a c hm
  | inBlock id => cases hr; exact .inBlock id
  | inLoop a c hm => cases hr; exact .inLoop a c hm
  | inReg ops k aos hm => cases hr; exact .inReg ops k aos hm
  | beginRound => cases hr; exact .beginRound
  | inRF a i g hl =>
    simp only [Zsg] at hr
    split at hr
    · rename_i j hs; cases hr; exact .inRF a j g (hl.ren G hs fun _ _ h => h)
    · cases hr
  | endRF a i g hl =>
    simp only [Zsg] at hr
    split at hr
    · rename_i j hs; cases hr; exact .endRF a j g (hl.ren G hs fun _ _ h => h)
    · cases hr
theorem ItsRel.ren {P : Program} {N : Nat} (G : Good h L h' L' σ) : ∀ {x x' : List AItem} {y : List Item}, ZiQ σ x = some x' → ItsRel P h L N x y → ItsRel P h' L' N x' y
  | [], x', y, hr, hx => by cases hx; cases hr; exact .nil
  | x :: k, x', y, hr, hx => by
    cases hx with
    | cons hx hk =>
      simp only [ZiQ] at hr
      split at hr
      · cases hr
      · rename_i z hz
        split at hr
        · rename_i l hl; cases hr; exact .cons (hx.ren G hz) (ItsRel.ren G hl hk)
        · cases hr
theorem ZkQ : ∀ {x : List AItem}, ZfG x = true → ZiQ σ x = some x
  | [], _ => rfl
  | x :: k, hp => by
    simp only [ZfG] at hp
    split at hp
    · rename_i h1
      simp only [ZiQ, ZkQ hp]
      cases x <;> first | rfl | cases h1
    · cases hp
theorem ZiT (G : Good h L h' L' σ) {p : Nat → Nat × Nat → Prop} : ∀ {l l' : List (Nat × Nat)}, ZsK σ l = some l' → l'.length = l.length ∧ ∀ (j : Nat) (d : Nat × Nat), l'[j]? = some d → ∃ d0 : Nat × Nat, l[j]? = some d0 ∧ d0.1 = d.1 ∧ σ d0.1 d0.2 = some d.2
  | [], l', hr => by cases hr; exact ⟨rfl, fun j d hd => by simp at hd⟩
  | (a, i) :: k, l', hr => by
    simp only [ZsK] at hr
    split at hr
    · cases hr
    · rename_i j hs
      split at hr
      · rename_i l hl
        cases hr
        obtain ⟨h1, h2⟩ := ZiT (p := p) G hl
        refine ⟨by simp [h1], fun q d hd => ?_⟩
        cases q with
        | zero => simp at hd; subst hd; exact ⟨(a, i), rfl, rfl, hs⟩
        | succ q => obtain ⟨d0, e1, e2, e3⟩ := h2 q d (by simpa using hd); exact ⟨d0, by simpa using e1, e2, e3⟩
      · cases hr
theorem FrRel.ren (G : Good h L h' L' σ) {af af' : AFrame} {fr : Frame} (hr : ZIH σ af = some af') (hf : FrRel C h L w af fr) : FrRel C h' L' w af' fr := by
  unfold ZIH at hr
  split at hr
  · cases hr
  · rename_i ds hds
    split at hr
    · cases hr
    · rename_i rd hrd
      have hd : DefRel h' L' ds fr.defers := by
        obtain ⟨gs, h1, h2, h3⟩ := hf.defs
        obtain ⟨e1, e2⟩ := ZiT (p := fun _ _ => True) G hds
        refine ⟨gs, h1, h2.trans e1.symm, fun j d g hd hg => ?_⟩
        obtain ⟨d0, q1, q2, q3⟩ := e2 j d hd
        obtain ⟨d1, d2⟩ := d
        obtain ⟨d3, d4⟩ := d0
        simp only at q2 q3
        subst q2
        exact (h3 j _ g q1 hg).ren G q3 fun _ _ h => h
      have hn : RndRel h' L' rd fr.roundOf ∧ (rd = none → af.rnd = none) := by
        have hrn := hf.rnd
        unfold ZsV at hrd
        split at hrd
        · rename_i e; cases hrd; rw [e] at hrn; exact ⟨hrn, fun _ => e⟩
        · rename_i a i e
          rw [e] at hrn
          split at hrd
          · rename_i j hs; cases hrd
            obtain ⟨g, hg, hl⟩ := hrn
            exact ⟨⟨g, hg, hl.ren G hs fun _ _ h => h⟩, fun e => by cases e⟩
          · cases hrd
      split at hr
      · rename_i hp
        cases hr
        exact ⟨hf.fn, hf.size, hf.env.ren G, hf.kind, hd, hn.1, hf.mode.imp id fun ⟨a, b, c⟩ => ⟨a, b, c.ren G (ZkQ hp)⟩, fun e => hf.res (hn.2 e)⟩
      · split at hr
        · cases hr
        · rename_i td htd
          cases hr
          exact ⟨hf.fn, hf.size, hf.env.ren G, hf.kind, hd, hn.1, hf.mode.imp id fun ⟨a, b, c⟩ => ⟨a, b, c.ren G htd⟩, fun e => hf.res (hn.2 e)⟩
theorem FrsRel.ren (G : Good h L h' L' σ) : ∀ {afs afs' : List AFrame} {cs : List Frame}, ZqM σ afs = some afs' → FrsRel C h L w afs cs → FrsRel C h' L' w afs' cs
  | [], afs', cs, hr, hf => by cases hf; cases hr; exact .base
  | f :: fs, afs', cs, hr, hf => by
    cases hf with
    | cons hf hk =>
      simp only [ZqM] at hr
      split at hr
      · cases hr
      · rename_i g hg
        split at hr
        · rename_i gs hgs; cases hr; exact .cons (hf.ren G hg) (FrsRel.ren G hgs hk)
        · cases hr
end
abbrev ZyR := List (Nat × Nat × List Blk)
def ZE0 : Blk → Bool
  | .dead => true
  | _ => false
def Zk8 (R : List (Nat × Nat)) (a : Nat) : Nat → List Blk → List Blk
  | _, [] => []
  | i, b :: l => match (match Ztl (a, i) R with | true => b | false => .dead), Zk8 R a (i + 1) l with
    | .dead, [] => []
    | b', l' => b' :: l'
def ZpQ : Nat → List Blk → Nat × List Blk
  | n, [] => (n, [])
  | n, b :: l => match ZE0 b with | true => ZpQ (n + 1) l | false => (n, b :: l)
def ZlO (R : List (Nat × Nat)) (a : Nat) (f : Fam) : Nat × List Blk := ZpQ f.base (Zk8 R a f.base f.blks)
def Zbe (R : List (Nat × Nat)) : Zaa → ZyR
  | [] => []
  | (a, f) :: rest => match ZlO R a f with
    | (s, l) => (match l, ZaE rest a with
      | [], none => Zbe R rest
      | l, _ => (a, s, l) :: Zbe R rest)
def Zny (t : ZyR) (a i : Nat) : Option Nat :=
  match ZaE t a with
  | none => none
  | some p => match Nat.ble p.1 i with
    | false => none
    | true => match ZE0 (p.2.getD (i - p.1) .dead) with | true => none | false => some (i - p.1)
def Zib (σ : Nat → Nat → Option Nat) : ZyR → Zaa
  | [] => []
  | (a, _, l) :: t => (a, ⟨0, l.map (Blk.ren σ)⟩) :: Zib σ t
def ZoA (t : ZyR) (L : Lay) : Lay := ⟨fun a j => L.loc a (j + match ZaE t a with | some p => p.1 | none => 0), fun a j => L.size a (j + match ZaE t a with | some p => p.1 | none => 0)⟩
theorem ZiI {R : List (Nat × Nat)} {a : Nat} : ∀ (l : List Blk) (i j : Nat), (Zk8 R a i l).getD j .dead = .dead ∨ (Zk8 R a i l).getD j .dead = l.getD j .dead
  | [], i, j => .inl (by simp [Zk8])
  | b :: l, i, j => by
    have ih := ZiI (R := R) (a := a) l (i + 1)
    simp only [Zk8]
    split
    · left; simp
    · cases j with
      | zero =>
        simp only [List.getD_cons_zero]
        split
        · right; rfl
        · left; rfl
      | succ j => simp only [List.getD_cons_succ]; exact ih j
theorem Ziq : ∀ (l : List Blk) (n j : Nat), ∃ d, (ZpQ n l).1 = n + d ∧ (ZpQ n l).2.getD j .dead = l.getD (j + d) .dead
  | [], n, j => ⟨0, rfl, rfl⟩
  | b :: l, n, j => by
    simp only [ZpQ]
    split
    · obtain ⟨d, h1, h2⟩ := Ziq l (n + 1) j
      exact ⟨d + 1, by rw [h1]; omega, by rw [h2, ← Nat.add_assoc, List.getD_cons_succ]⟩
    · exact ⟨0, rfl, rfl⟩
theorem Ziw {R : List (Nat × Nat)} : ∀ {h : Zaa} {a : Nat} {p : Nat × List Blk}, ZaE (Zbe R h) a = some p → ∃ f, ZaE h a = some f ∧ ZlO R a f = p
  | [], a, p, h => by cases h
  | (b, f) :: rest, a, p, h => by
    have ih := @Ziw R rest a p
    have hb : ∀ x y : Nat, Nat.beq x y = decide (x = y) := fun x y => by rw [Bool.eq_iff_iff]; simp
    simp only [Zbe] at h
    split at h
    · rename_i hl hr
      obtain ⟨f', h1, h2⟩ := ih h
      refine ⟨f', ?_, h2⟩
      simp only [ZaE, hb]
      by_cases hba : b = a
      · subst hba; rw [hr] at h1; cases h1
      · simp only [hba, decide_false]; exact h1
    · simp only [ZaE, hb] at h ⊢
      by_cases hba : b = a
      · subst hba; simp only [decide_true, Option.some.injEq] at h ⊢; exact ⟨f, rfl, h⟩
      · simp only [hba, decide_false] at h ⊢; exact ih h
theorem ZiG {σ : Nat → Nat → Option Nat} : ∀ (t : ZyR) (a : Nat), ZaE (Zib σ t) a = (ZaE t a).map fun p => ⟨0, p.2.map (Blk.ren σ)⟩
  | [], a => rfl
  | (b, s, l) :: t, a => by
    simp only [Zib, ZaE]
    split
    · rfl
    · exact ZiG t a
theorem Zef {σ : Nat → Nat → Option Nat} (t : ZyR) (a j : Nat) : blk (Zib σ t) a j = Blk.ren σ (match ZaE t a with | some p => p.2.getD j .dead | none => .dead) ∧ nxt (Zib σ t) a = match ZaE t a with | some p => p.2.length | none => 0 := by
  unfold blk nxt fam
  rw [ZiG]
  cases ZaE t a with
  | none => simp [Fam.get, Zcl, Blk.ren]
  | some p =>
    simp only [Option.map_some, Option.getD_some, Fam.get, Zcl (Nat.zero_le _), Nat.sub_zero, List.length_map, Nat.zero_add, and_true]
    simp only [List.getD_eq_getElem?_getD, List.getElem?_map]
    cases p.2[j]? <;> rfl
theorem Zee {R : List (Nat × Nat)} {h : Zaa} {a : Nat} {p : Nat × List Blk} (hp : ZaE (Zbe R h) a = some p) (j : Nat) : p.2.getD j .dead = .dead ∨ p.2.getD j .dead = blk h a (j + p.1) := by
  obtain ⟨f, h1, h2⟩ := Ziw hp
  unfold ZlO at h2
  obtain ⟨d, e1, e2⟩ := Ziq (Zk8 R a f.base f.blks) f.base j
  rw [h2] at e1 e2
  rw [e2]
  rcases ZiI (R := R) (a := a) f.blks f.base (j + d) with h3 | h3
  · exact .inl h3
  · right
    rw [h3, e1]
    unfold blk fam Fam.get
    rw [h1]
    simp only [Option.getD_some, Zcl (show f.base ≤ j + (f.base + d) by omega)]
    congr 1; omega
theorem pack_good {R : List (Nat × Nat)} {h : Zaa} {L : Lay} : Good h L (Zib (Zny (Zbe R h)) (Zbe R h)) (ZoA (Zbe R h) L) (Zny (Zbe R h)) := by
  refine ⟨fun a i j hs => ?_, fun a j ht => ?_⟩
  · obtain ⟨hb, hn⟩ := Zef (σ := Zny (Zbe R h)) (Zbe R h) a j
    unfold Zny at hs
    cases hp : ZaE (Zbe R h) a with
    | none => rw [hp] at hs; cases hs
    | some p =>
      rw [hp] at hs hb hn
      simp only at hs hb hn
      split at hs
      · cases hs
      · rename_i hle
        have hle : p.1 ≤ i := by simpa using hle
        split at hs
        · cases hs
        · rename_i hd
          cases hs
          have hlt : i - p.1 < p.2.length := by
            rcases Nat.lt_or_ge (i - p.1) p.2.length with h1 | h1
            · exact h1
            · rw [List.getD_eq_getElem?_getD, List.getElem?_eq_none h1] at hd; cases hd
          have hadd : i - p.1 + p.1 = i := by omega
          refine ⟨by rw [hn]; exact hlt, fun sz ht => ?_, by simp only [ZoA, hp, hadd], by simp only [ZoA, hp, hadd]⟩
          rw [hb, Blk.ren_tag] at ht
          rcases Zee hp (i - p.1) with h1 | h1
          · rw [h1] at hd; cases hd
          · rw [h1, hadd] at ht; exact ht
  · obtain ⟨hb, _⟩ := Zef (σ := Zny (Zbe R h)) (Zbe R h) a j
    rw [hb, Blk.ren_tag] at ht
    cases hp : ZaE (Zbe R h) a with
    | none => rw [hp] at ht; exact absurd rfl ht
    | some p =>
      rw [hp] at ht
      simp only at ht
      rcases Zee hp j with h1 | h1
      · rw [h1] at ht; exact absurd rfl ht
      · exact ⟨j + p.1, by rw [← h1]; exact ht, by simp only [ZoA, hp]⟩
theorem HRel.packed {C : Ctx} {R : List (Nat × Nat)} {h : Zaa} {L : Lay} {w : World} (H : HRel C h L w) : HRel C (Zib (Zny (Zbe R h)) (Zbe R h)) (ZoA (Zbe R h) L) w := by
  have key : ∀ a j, (blk (Zib (Zny (Zbe R h)) (Zbe R h)) a j).tag ≠ none → ∃ p, ZaE (Zbe R h) a = some p ∧ (blk h a (j + p.1)).tag ≠ none := fun a j ht => by
    obtain ⟨hb, _⟩ := Zef (σ := Zny (Zbe R h)) (Zbe R h) a j
    rw [hb, Blk.ren_tag] at ht
    cases hp : ZaE (Zbe R h) a with
    | none => rw [hp] at ht; exact absurd rfl ht
    | some p =>
      rw [hp] at ht
      simp only at ht
      rcases Zee hp j with h1 | h1
      · rw [h1] at ht; exact absurd rfl ht
      · exact ⟨p, rfl, by rw [← h1]; exact ht⟩
  refine ⟨H.below, fun a j ht => ?_, fun a j => ?_, fun a i b j h1 h2 e => ?_, fun a j ht => ?_, H.low, H.base⟩
  rotate_right
  · obtain ⟨p, hp, ht'⟩ := key a j ht
    simp only [ZoA, hp]
    rcases H.home a _ ht' with h9 | ⟨h7, h8, h9⟩
    · exact .inl h9
    · exact .inr ⟨h7, by omega, h9⟩
  · obtain ⟨p, hp, ht'⟩ := key a j ht
    simp only [ZoA, hp]; exact H.live a _ ht'
  · obtain ⟨hb, _⟩ := Zef (σ := Zny (Zbe R h)) (Zbe R h) a j
    rw [hb]
    cases hp : ZaE (Zbe R h) a with
    | none => trivial
    | some p =>
      simp only
      rcases Zee hp j with h1 | h1
      · rw [h1]; trivial
      · rw [h1]; simp only [ZoA, hp]; exact (H.blks a _).ren pack_good
  · obtain ⟨p, hp, hp'⟩ := key a i h1
    obtain ⟨q, hq, hq'⟩ := key b j h2
    simp only [ZoA, hp, hq] at e
    obtain ⟨rfl, e2⟩ := H.inj _ _ _ _ hp' hq' e
    rw [hp] at hq; cases hq
    exact ⟨rfl, by omega⟩
def ZCI : AV → List (Nat × Nat)
  | .tup xs => xs.flatMap ZhE
  | v => ZhE v
def ZHR : Row → List (Nat × Nat)
  | .gen xs => xs.flatMap ZCI
  | _ => []
def ZvN : Zh8 → List (Nat × Nat)
  | [] => []
  | (_, v) :: l => ZCI v ++ ZvN l
def ZIv : Blk → List (Nat × Nat)
  | .row _ _ r => ZHR r
  | .lp l => ZvN l.env
  | _ => []
def ZB3 : List AItem → List (Nat × Nat)
  | [] => []
  | x :: k => (match x with | .inRF a i => [(a, i)] | .endRF a i => [(a, i)] | _ => []) ++ ZB3 k
def ZzO : List AFrame → List (Nat × Nat)
  | [] => []
  | f :: fs => ZvN f.env ++ ((match ZfG f.todo with | true => [] | false => ZB3 f.todo) ++ (f.defs ++ ((match f.rnd with | some p => [p] | none => []) ++ ZzO fs)))
def ZGD (R : List (Nat × Nat)) : List (Nat × Nat) → List (Nat × Nat)
  | [] => R
  | p :: l => match Ztl p R with | true => ZGD R l | false => ZGD (p :: R) l
def Zux (h : Zaa) : Nat → List (Nat × Nat) → List (Nat × Nat) → List (Nat × Nat)
  | 0, R, _ => R
  | n + 1, R, new => match new.flatMap (fun p => ZIv (blk h p.1 p.2)) with
    | [] => R
    | l => Zux h n (ZGD R l) l
def ZsL (h : Zaa) (t : ZyR) : Bool :=
  match ZaE t 0 with
  | none => Nat.beq (nxt h 0) 0
  | some p => match Nat.beq p.1 0 with | true => Nat.ble (nxt h 0) p.2.length | false => false
def ZIi (fs : List AFrame) : List (Nat × Nat) := ZGD [] ((0, 0) :: ZzO fs)
def ZIT (fs : List AFrame) (h : Zaa) : Option (List AFrame × Zaa) :=
  match ZIi fs with
  | R0 => match Zbe (Zux h 4 R0 R0) h with
    | t => match ZsL h t with
      | false => none
      | true => match ZqM (Zny t) fs with
        | none => none
        | some fs' => some (fs', Zib (Zny t) t)
theorem Zw3 {C : Ctx} {R : List (Nat × Nat)} {h : Zaa} {L : Lay} {w : World} (hk : ZsL h (Zbe R h) = true) : Fr C h L w (Zib (Zny (Zbe R h)) (Zbe R h)) (ZoA (Zbe R h) L) w := by
  obtain ⟨hb, hn⟩ := Zef (σ := Zny (Zbe R h)) (Zbe R h) 0 0
  refine ⟨Nat.le_refl _, fun g _ ho => ⟨pack_good.okk ho, rfl⟩, ?_, fun sz _ ht => ?_⟩
  · rw [hn]
    unfold ZsL at hk
    cases hp : ZaE (Zbe R h) 0 with
    | none => rw [hp] at hk; have := Nat.eq_of_beq_eq_true hk; omega
    | some p =>
      rw [hp] at hk
      simp only at hk ⊢
      split at hk
      · simpa using hk
      · cases hk
  · rw [hb, Blk.ren_tag] at ht
    unfold ZsL at hk
    cases hp : ZaE (Zbe R h) 0 with
    | none => rw [hp] at ht; cases ht
    | some p =>
      rw [hp] at ht hk
      simp only at ht hk
      split at hk
      · rename_i h0
        have h0 : p.1 = 0 := Nat.eq_of_beq_eq_true h0
        rcases Zee hp 0 with h1 | h1
        · rw [h1] at ht; cases ht
        · rw [h1, h0] at ht
          refine ⟨ht, ?_, ?_⟩
          · simp only [ZoA, hp, h0]
          · simp only [ZoA, hp, h0]
      · cases hk
theorem Zzh {C : Ctx} {fs fs' : List AFrame} {h h' : Zaa} {Q : List AFrame → Zaa → Prop} (hp : ZIT fs h = some (fs', h')) (hq : Ev C fs' h' Q) : Ev C fs h Q := by
  intro L fr cs w hf H hne
  unfold ZIT at hp
  dsimp only at hp
  split at hp
  · cases hp
  · rename_i hkeep
    split at hp
    · cases hp
    · rename_i gs hgs
      cases hp
      obtain ⟨fs2, h2', L2, fr2, cs2, w2, q2, n2, a2, b2, s2⟩ := hq _ fr cs w (FrsRel.ren pack_good hgs hf) H.packed (fun e => by
        subst e
        cases fs with
        | nil => exact hne rfl
        | cons f fs =>
          simp only [ZqM] at hgs
          split at hgs
          · cases hgs
          · split at hgs <;> cases hgs)
      exact ⟨fs2, h2', L2, fr2, cs2, w2, q2, n2, a2, b2, s2.1, (Zw3 hkeep).trans s2.2⟩
def Zwh (A : Ar) (T : Tab) (l : List Ctr) (n : Nat) (pk : Bool) (pa : List Bool) (f : AFrame) (fs : List AFrame) (h : Zaa) : Option (List Bool × List AFrame × Zaa) :=
  match Zhu A T l n pa [] f fs h with
  | none => none
  | some (acc, f', fs', h') => match pk with
    | false => some (acc, f' :: fs', h')
    | true => match ZIT (f' :: fs') h' with
      | none => none
      | some (gs, h2) => some (acc, gs, h2)
theorem Zu6 {C : Ctx} {T : Tab} {l : List Ctr} {n : Nat} {pk : Bool} {pa acc : List Bool} {f : AFrame} {fs gs : List AFrame} {h h' : Zaa} {Q : List AFrame → Zaa → Prop} (hfol : C.P.follows .mixedOrders = true) (hT : Zcg C.P T) (hl : Zas C.P l)
    (hw : Zwh std T l n pk pa f fs h = some (acc, gs, h')) (hb : AllT acc) (hq : Ev C gs h' Q) : Ev C (f :: fs) h Q := by
  unfold Zwh at hw
  split at hw
  · cases hw
  · rename_i acc1 f1 fs1 h1 hs
    split at hw
    · cases hw
      exact (Zce hfol hT hl n _ _ _ _ hs hb.mem hq).2
    · split at hw
      · cases hw
      · rename_i gs2 h2 hp
        cases hw
        exact (Zce hfol hT hl n _ _ _ _ hs hb.mem (Zzh hp hq)).2
end Go.Proofs.Ytjhdnpmojhkbjaa
/- What comes back is read as a value. No condition. -/
namespace Go.Proofs.Ytjhdnpmojhkbjaa
open Go.RowKit (Below)
inductive Frz1 (fr : Option Fresh) : AV → AV → Prop
  | row (f : Fresh) (hf : fr = some f) (hp : f.r.pure = true) (hs : f.r.solid = true) : Frz1 fr (.row 0 0) (.list f.r)
  | nil (r : Row) (h : r.elems = []) : Frz1 fr .nils (.list r)
  | same (v : AV) (hp : v.pure = true) (hs : v.solid = true) : Frz1 fr v v
def FrzL (fr : Option Fresh) : List AV → List AV → Prop
  | [], [] => True
  | x :: xs, y :: ys => Frz1 fr x y ∧ FrzL fr xs ys
  | _, _ => False
inductive Frz (fr : Option Fresh) : AV → AV → Prop
  | one {v v' : AV} (h : Frz1 fr v v') : Frz fr v v'
  | tup {xs ys : List AV} (h : FrzL fr xs ys) : Frz fr (.tup xs) (.tup ys)
theorem FrzL.spec {fr : Option Fresh} : ∀ {xs ys : List AV}, FrzL fr xs ys → xs.length = ys.length ∧ ∀ (j : Nat) (y : AV), ys[j]? = some y → ∃ x, xs[j]? = some x ∧ Frz1 fr x y
  | [], [], _ => ⟨rfl, fun j y h => by simp at h⟩
  | x :: xs, y :: ys, h => by
    obtain ⟨h1, h2⟩ := h
    obtain ⟨e1, e2⟩ := FrzL.spec h2
    refine ⟨by simp [e1], fun j z hz => ?_⟩
    cases j with
    | zero => simp at hz; subst hz; exact ⟨x, rfl, h1⟩
    | succ j => obtain ⟨q, q1, q2⟩ := e2 j z (by simpa using hz); exact ⟨q, by simpa using q1, q2⟩
section
variable {P : Program} {w w' : World} {okA : Nat → Prop} {L' : Lay} {fr : Option Fresh}
theorem ZmF (H : HRel (Ctx.of P w okA []) (Zaj fr) L' w') {v v' : AV} {x : Value} (hs : Frz1 fr v v') (hr : Zaw (Ctx.of P w okA []) (Zaj fr) L' w' v x) : Zaw (Ctx.of P w (fun _ => False) []) [] L' w' v' x := by
  cases hs with
  | nil r h => cases hr with | nils => exact .nil r none 0 h
  | same _ hp hs =>
    exact ((hr.pure hp : Rel w' _ [] L' v x).solid hs)
  | row f hf hp hso =>
    subst hf
    have hb : blk (Zaj (some f)) 0 0 = .row f.e f.sz f.r := rfl
    obtain ⟨ht, h0, h1, h2, h3, cur, h4, h5, h6, h7, h8⟩ := H.rowAt hb
    have hl := H.live 0 0 (by rw [ht]; simp)
    cases hr with
    | row _ _ g o n c hn hlv =>
      obtain ⟨rfl, rfl, rfl, rfl⟩ := hlv.2 _ ht
      have hpa := ZaB hp
      refine .list f.r _ rfl ⟨L'.loc 0 0, 0, none⟩ _ _ f.sz _ hl.2 (.inr ⟨hl.1, fun a i ht => absurd rfl ht⟩) rfl hn h3 h6.1.symm h7 (fun j v hj => h8 j v hj) hpa (fun j u v hu hv => ?_)
      have hsu : u.solid = true := AV.solidL_mem (Zg7 hso) hu
      exact ((h6.2 j u v hu hv).pure (AV.pureL_mem hpa hu) : Rel w' _ [] L' u v).solid hsu
theorem ZmA {f : FuncId} {args : List AV} {r r' : AV} (h : ZaI P f args r fr) (hz : Zyk fr = false) (hs : Frz fr r r') : ZaI P f args r' Zko := by
  intro w okA L vs hargs hok
  refine (h w okA L vs hargs hok).mono ?_
  rintro e w' ⟨x, L', rfl, hb, hp⟩
  unfold ZkT at hp
  rw [hz] at hp
  obtain ⟨H, hr⟩ := hp
  refine ⟨x, L', rfl, hb, ?_⟩
  show Zaw (Ctx.of P w (fun _ => False) []) [] L' w' r' x
  cases hs with
  | one hs => exact ZmF H hs hr
  | tup hs =>
    obtain ⟨e1, e2⟩ := hs.spec
    cases hr with
    | tup xs vs hl hrr =>
      refine .tup _ vs (by rw [← e1]; exact hl) (fun j u v hu hv => ?_)
      obtain ⟨q, q1, q2⟩ := e2 j u hu
      exact ZmF H q2 (hrr j q v q1 hv)
end
def Zac (A : Ar) (T : Tab) (l : List Ctr) (n : Nat) (pa : List Bool) (fs : List AFrame) (h : Zaa) : Option (List Bool × List AFrame × Zaa) :=
  match fs with
  | [] => none
  | f :: fs => Zwh A T l n true pa f fs h
def ZaD (A : Ar) (T : Tab) (l : List Ctr) (n : Nat) (pa : List Bool) (fn : FuncId) (fs : List AFrame) (h : Zaa) : Option (List Bool × AV × Option Fresh) :=
  match fs with
  | [] => none
  | f :: fs => match Zhu A T l n pa [] f fs h with
    | none => none
    | some (acc, g, gs, h') => match gs with
      | _ :: _ => none
      | [] => match g.ret && Nat.beq g.fn fn with
        | false => none
        | true => match g.rnd with
          | some _ => none
          | none => match g.defs with
            | _ :: _ => none
            | [] => match Zsp A g.env h' g.res with
              | none => none
              | some (b, vs) => match Zhe h' (ZgS vs) with
                | none => none
                | some (r, fr) => some (b :: acc, r, fr)
def Za2 (A : Ar) (T : Tab) (l : List Ctr) (n : Nat) (pa : List Bool) (fn : FuncId) (fs : List AFrame) (h : Zaa) : Option (List Bool × AV × Nat × Nat × Row) :=
  match fs with
  | [] => none
  | f :: fs => match Zhu A T l n pa [] f fs h with
    | none => none
    | some (acc, g, gs, h') => match gs with
      | _ :: _ => none
      | [] => match g.ret && Nat.beq g.fn fn with
        | false => none
        | true => match g.rnd with
          | some _ => none
          | none => match g.defs with
            | _ :: _ => none
            | [] => match Zgg A g.env h' g.res with
              | none => none
              | some (b, vs) => match blk h' 0 0 with
                | .row e sz y => match Zrd (ZgS vs) && y.pure with
                  | true => some (b :: acc, ZgS vs, e, sz, y)
                  | false => none
                | _ => none
section
variable {C : Ctx} {T : Tab} {l : List Ctr} {n : Nat} {pa acc : List Bool} {fs gs : List AFrame} {h h' : Zaa} {Q : List AFrame → Zaa → Prop}
theorem ZJQ (hfol : C.P.follows .mixedOrders = true) (hT : Zcg C.P T) (hl : Zas C.P l) (hw : Zac std T l n pa fs h = some (acc, gs, h')) (hb : AllT acc) (hq : Ev C gs h' Q) : Ev C fs h Q := by
  unfold Zac at hw
  split at hw
  · cases hw
  · exact Zu6 hfol hT hl hw hb hq
theorem ZGj (hfol : C.P.follows .mixedOrders = true) (hT : Zcg C.P T) (hl : Zas C.P l) {fn : FuncId} {r r' : AV} {fr fr' : Option Fresh} (hw : ZaD std T l n pa fn fs h = some (acc, r', fr')) (hb : AllT acc) (hr : r' = r) (hfr : fr' = fr) : Ev C fs h (ZfK fn r fr) := by
  subst hr; subst hfr
  unfold ZaD at hw
  split at hw
  · cases hw
  · split at hw
    · cases hw
    · rename_i acc1 g gs1 h1 hs
      split at hw
      · cases hw
      · split at hw
        · cases hw
        · rename_i hg
          simp only [Bool.and_eq_true] at hg
          split at hw
          · cases hw
          · rename_i hn
            split at hw
            · cases hw
            · rename_i hd
              split at hw
              · cases hw
              · rename_i b vs hc
                split at hw
                · cases hw
                · rename_i hex
                  cases hw
                  have hb1 : b = true := hb.1
                  subst hb1
                  exact (Zce hfol hT hl n _ _ _ _ hs hb.2.mem (.now (by simp) ⟨g, vs, rfl, Nat.eq_of_beq_eq_true hg.2, hg.1, hn, hd, hc, hex⟩)).2
theorem Zxz (hfol : C.P.follows .mixedOrders = true) (hT : Zcg C.P T) (hl : Zas C.P l) {fn : FuncId} {r r' : AV} {e sz e' sz' : Nat} {y y' : Row} (hw : Za2 std T l n pa fn fs h = some (acc, r', e', sz', y')) (hb : AllT acc) (hr : r' = r) (he : e' = e) (hs : sz' = sz) (hy : y' = y) : Ev C fs h (Zg8 fn e sz y r) := by
  subst hr; subst he; subst hs; subst hy
  unfold Za2 at hw
  split at hw
  · cases hw
  · split at hw
    · cases hw
    · rename_i acc1 g gs1 h1 hs
      split at hw
      · cases hw
      · split at hw
        · cases hw
        · rename_i hg
          simp only [Bool.and_eq_true] at hg
          split at hw
          · cases hw
          · rename_i hn
            split at hw
            · cases hw
            · rename_i hd
              split at hw
              · cases hw
              · rename_i b vs hc
                split at hw
                · rename_i hbk
                  split at hw
                  · rename_i hp
                    simp only [Bool.and_eq_true] at hp
                    cases hw
                    have hb1 : b = true := hb.1
                    subst hb1
                    exact (Zce hfol hT hl n _ _ _ _ hs hb.2.mem (.now (by simp) ⟨g, vs, rfl, Nat.eq_of_beq_eq_true hg.2, hg.1, hn, hd, hc, rfl, hp.1, hbk, hp.2⟩)).2
                  · cases hw
                · cases hw
end
end Go.Proofs.Ytjhdnpmojhkbjaa
namespace Go.Proofs.Ytjhdnpmojhkbjaa
@[simp] theorem ZaV (a b : Int) : std.add a b = a + b := rfl
@[simp] theorem Zax (a b : Int) : std.sub a b = a - b := rfl
@[simp] theorem ZMw (a b : Int) : std.mul a b = a * b := rfl
@[simp] theorem ZLw (a b : Int) : std.quo a b = Int.tdiv a b := rfl
@[simp] theorem ZAl (a b : Int) : std.rem a b = Int.tmod a b := rfl
@[simp] theorem ZMt (a : Int) : std.neg a = -a := rfl
@[simp] theorem ZeW (a b : Int) : std.lt a b = decide (a < b) := rfl
@[simp] theorem ZMB (a b : Int) : std.le a b = decide (a ≤ b) := rfl
@[simp] theorem ZMC (a b : Int) : std.eq a b = decide (a = b) := rfl
@[simp] theorem Zam (a : Int) : std.nat a = a.toNat := rfl
@[simp] theorem Zdt (a : Nat) : std.int a = (a : Int) := rfl
@[simp] theorem ZMp (a b : Int) : std.max a b = Max.max a b := rfl
@[simp] theorem ZMi (a b : Int) : std.min a b = Min.min a b := rfl
@[simp] theorem ZaP (l : List Int) : std.len l = l.length := rfl
@[simp] theorem Za0 (l : List Int) (j : Nat) : std.nth l j = l.getD j 0 := rfl
@[simp] theorem ZFA (l : List Int) (j : Nat) (x : Int) : std.set l j x = l.set j x := rfl
@[simp] theorem ZkL (a b : List Int) : std.app a b = a ++ b := rfl
@[simp] theorem ZdY (l : List Int) (k n : Nat) : std.sub3 l k n = (l.drop k).take n := rfl
@[simp] theorem ZLt (n : Nat) (x : Int) : std.rep n x = List.replicate n x := rfl
@[simp] theorem ZMm (a : Bool) : std.not a = !a := rfl
@[simp] theorem ZLN (a b : Int) : std.shl a b = a * 2 ^ b.toNat := rfl
@[simp] theorem ZHJ (a b : Int) : std.shr a b = a.fdiv (2 ^ b.toNat) := rfl
@[simp] theorem Zv1 (n : Int) : std.inR .i64 n = decide (-9223372036854775808 ≤ n ∧ n ≤ 9223372036854775807) := rfl
@[simp] theorem ZKQ (a b : Bool) : Zab a b = (a && b) := by cases a <;> rfl
@[simp] theorem ZMf (a b : Nat) : Nat.blt a b = decide (a < b) := by rw [Bool.eq_iff_iff]; simp
@[simp] theorem ZLm (a b : Nat) : Nat.ble a b = decide (a ≤ b) := by rw [Bool.eq_iff_iff]; simp
@[simp] theorem ZL8 (a b : Nat) : Nat.beq a b = decide (a = b) := by rw [Bool.eq_iff_iff]; simp
theorem Zpd (a b : Nat) : Nat.add a b = a + b := rfl
theorem Ztv (a b : Nat) : Nat.sub a b = a - b := rfl
@[simp] theorem ZGw : AllT [] = True := rfl
@[simp] theorem ZjV (b : Bool) (l : List Bool) : AllT (b :: l) = (b = true ∧ AllT l) := rfl
def tru : Nat → List Bool → List Bool
  | 0, l => l
  | n + 1, l => true :: tru n l
def tr : List Nat → List Bool → List Bool
  | k :: ks, x :: xs => tru k (x :: tr ks xs)
  | k :: _, [] => tru k []
  | [], xs => xs
theorem Zjd (l : List Bool) : ∀ n, AllT (tru n l) = AllT l
  | 0 => rfl
  | n + 1 => by simp only [tru, ZjV, Zjd l n, true_and]
@[simp] theorem Zu2 : ∀ ks xs, AllT (tr ks xs) = AllT xs
  | k :: ks, x :: xs => by simp only [tr, Zjd, ZjV, Zu2 ks xs]
  | k :: ks, [] => by simp only [tr, Zjd]
  | [], xs => rfl
end Go.Proofs.Ytjhdnpmojhkbjaa
