/- An abstract state of a call over the kit's weakest preconditions, and the rules of structured code for it. No condition. -/
import Derived.Calls
import Derived.Tactics
import Derived.Below
import Derived.OrdersHeld
namespace Go.Mx
open Go.RowKit
set_option linter.unusedVariables false
abbrev Key := Nat × Nat
inductive Tok where
  | ro | full | own (k : Key)
inductive D where
  | v (x : Value)
  | any
  | sl (sz : Nat) (tok : Tok) (xs : List (List D))
  | bx (k : Key) (off : Nat)
  | sb (k : Key) (n : Nat)
  | ro (cells : List D)
  | agg (cs : List D)
  | tup (ds : List D)
  | clo (fn : Fn) (first caps : List D)
inductive AObj where
  | cells (cs : List D)
  | tok (n : Nat) (e : TypeId)
abbrev Fr := Nat → Option AObj
abbrev St := List Fr
def St.get : St → Key → Option AObj
  | [], _ => none
  | fr :: r, k => if k.1 = r.length then fr k.2 else St.get r k
def Fr.upd (fr : Fr) (t : Nat) (o : Option AObj) : Fr := fun u => if u = t then o else fr u
def St.set : St → Key → Option AObj → St
  | [], _, _ => []
  | fr :: r, k, o => if k.1 = r.length then Fr.upd fr k.2 o :: r else fr :: St.set r k o
/-- All keys of a datum meet p. -/
def Tok.all (p : Key → Bool) : Tok → Bool
  | .own k => p k
  | _ => true
mutual
def D.all (p : Key → Bool) : D → Bool
  | .v _ => true
  | .any => true
  | .sl _ tok xs => tok.all p && allLL p xs
  | .bx k _ => p k
  | .sb k _ => p k
  | .ro cells => allL p cells
  | .agg cs => allL p cs
  | .tup ds => allL p ds
  | .clo _ a b => allL p a && allL p b
def allL (p : Key → Bool) : List D → Bool
  | [] => true
  | d :: r => D.all p d && allL p r
def allLL (p : Key → Bool) : List (List D) → Bool
  | [] => true
  | d :: r => allL p d && allLL p r
end
structure Cx where
  bx : Key → Option (Nat × Nat)
  tk : Key → Option (Nat × TypeId × Option (Nat × Nat × Nat))     -- how many, of what type, the row that may be grown: block, capacity, cells of an element
  M : Nat → Nat → Prop
  Z : Nat → Nat → Prop
def TokOk (cx : Cx) (a : Option Addr) (len cap sz : Nat) : Tok → Prop
  | .ro => True
  | .full => cap = len
  | .own k => ∃ n e tl, cx.tk k = some (n, e, tl) ∧ len ≤ n ∧ (len = n → match tl with
      | none => cap = len
      | some (g, c, z) => a = some ⟨g, 0, none⟩ ∧ c = cap ∧ z = sz)
inductive Rd (cx : Cx) (w : World) : D → Value → Prop
  | v (x : Value) : Rd cx w (.v x) x
  | any (x : Value) : Rd cx w .any x
  | sl {sz tok xs a cap} (A : Nat × Nat) (vs : Nat → Nat → Value) (hcap : xs.length ≤ cap) (hcm : cap ≤ maxLen)
      (hsz : ∀ (i : Nat) cs, xs[i]? = some cs → cs.length = sz)
      (ha : xs ≠ [] → a = some ⟨A.1, A.2, none⟩)
      (hc : ∀ (i j : Nat) cs d, xs[i]? = some cs → cs[j]? = some d → w.cell? ⟨A.1, A.2 + i * sz + j, none⟩ = some (vs i j) ∧ ¬ cx.M A.1 (A.2 + i * sz + j))
      (hr : ∀ (i j : Nat) cs d, xs[i]? = some cs → cs[j]? = some d → Rd cx w d (vs i j))
      (ht : TokOk cx a xs.length cap sz tok) : Rd cx w (.sl sz tok xs) (.slice a xs.length cap)
  | bx {k off b o} (h : cx.bx k = some (b, o)) : Rd cx w (.bx k off) (.pointer (some ⟨b, o + off, none⟩))
  | sb {k n b o} (h : cx.bx k = some (b, o)) (hn : n ≤ maxLen) : Rd cx w (.sb k n) (.slice (some ⟨b, o, none⟩) n n)
  | ro {cells} (b o : Nat) (vs : Nat → Value)
      (hc : ∀ (j : Nat) d, cells[j]? = some d → w.cell? ⟨b, o + j, none⟩ = some (vs j) ∧ ¬ cx.M b (o + j))
      (hr : ∀ (j : Nat) d, cells[j]? = some d → Rd cx w d (vs j)) : Rd cx w (.ro cells) (.pointer (some ⟨b, o, none⟩))
  | agg {cs : List D} {vs : List Value} (hl : cs.length = vs.length)
      (hr : ∀ (j : Nat) d x, cs[j]? = some d → vs[j]? = some x → Rd cx w d x) : Rd cx w (.agg cs) (.agg vs.toArray)
  | tup {cs : List D} {vs : List Value} (hl : cs.length = vs.length)
      (hr : ∀ (j : Nat) d x, cs[j]? = some d → vs[j]? = some x → Rd cx w d x) : Rd cx w (.tup cs) (.tuple vs.toArray)
  | clo {fn : Fn} {f c : List D} {fv cv : List Value} (hf : f.length = fv.length) (hcl : c.length = cv.length)
      (hrf : ∀ (j : Nat) d x, f[j]? = some d → fv[j]? = some x → Rd cx w d x)
      (hrc : ∀ (j : Nat) d x, c[j]? = some d → cv[j]? = some x → Rd cx w d x) : Rd cx w (.clo fn f c) (.func fn fv.toArray cv.toArray)
structure Ext (S : Key → Bool) (cx : Cx) (w : World) (cx' : Cx) (w' : World) : Prop where
  os : w'.os = w.os
  tape : w'.tape = w.tape
  output : w'.output = w.output
  size : w.heap.size ≤ w'.heap.size
  block : ∀ b, b < w.heap.size → (∀ o, ¬ cx.M b o) → w'.heap[b]? = w.heap[b]?
  cell : ∀ b o, b < w.heap.size → (cx.M b o → cx.Z b o) → w'.cell? ⟨b, o, none⟩ = w.cell? ⟨b, o, none⟩
  nomut : ∀ b o, b < w.heap.size → ¬ cx.M b o → ¬ cx'.M b o
  bx : ∀ k l, S k = true → cx.bx k = some l → cx'.bx k = some l
  tk : ∀ k n l, S k = true → cx.tk k = some (n, l) → ∃ n' l', cx'.tk k = some (n', l') ∧ n ≤ n' ∧ (n' = n → l' = l)
  zz : cx'.Z = cx.Z
  rowold : ∀ k n e g c z, cx'.tk k = some (n, e, some (g, c, z)) → g < w.heap.size → ∃ k0 n0 e0 c0 z0, cx.tk k0 = some (n0, e0, some (g, c0, z0))
  fz : ∀ b o, b < w.heap.size → w'.frozen? ⟨b, o, none⟩ = w.frozen? ⟨b, o, none⟩
theorem cell_lt {w : World} {b o : Nat} {x : Value} (h : w.cell? ⟨b, o, none⟩ = some x) : b < w.heap.size := World.block_lt_of_cell? (w := w) (a := ⟨b, o, none⟩) h
theorem Ext.refl (S : Key → Bool) (cx : Cx) (w : World) : Ext S cx w cx w :=
  ⟨rfl, rfl, rfl, Nat.le_refl _, fun _ _ _ => rfl, fun _ _ _ _ => rfl, fun _ _ _ h => h, fun _ _ _ h => h, fun _ n l _ h => ⟨n, l, h, Nat.le_refl _, fun _ => rfl⟩, rfl, fun k n e g c z h _ => ⟨k, n, e, c, z, h⟩, fun _ _ _ => rfl⟩
theorem Ext.trans {S : Key → Bool} {c1 c2 c3 : Cx} {w1 w2 w3 : World} (h : Ext S c1 w1 c2 w2) (k : Ext S c2 w2 c3 w3) : Ext S c1 w1 c3 w3 where
  os := k.os.trans h.os
  tape := k.tape.trans h.tape
  output := k.output.trans h.output
  size := Nat.le_trans h.size k.size
  block b hb hm := (k.block b (Nat.lt_of_lt_of_le hb h.size) (fun o => h.nomut b o hb (hm o))).trans (h.block b hb hm)
  cell b o hb hm := (k.cell b o (Nat.lt_of_lt_of_le hb h.size) (fun h2 => by
    rw [h.zz]
    exact Classical.byContradiction fun hz => h.nomut b o hb (fun h3 => hz (hm h3)) h2)).trans (h.cell b o hb hm)
  zz := k.zz.trans h.zz
  rowold key n e g c z hk hg := by
    obtain ⟨k0, n0, e0, c0, z0, h0⟩ := k.rowold key n e g c z hk (Nat.lt_of_lt_of_le hg h.size)
    exact h.rowold k0 n0 e0 g c0 z0 h0 hg
  fz b o hb := (k.fz b o (Nat.lt_of_lt_of_le hb h.size)).trans (h.fz b o hb)
  nomut b o hb hm := k.nomut b o (Nat.lt_of_lt_of_le hb h.size) (h.nomut b o hb hm)
  bx key l hS hl := k.bx key l hS (h.bx key l hS hl)
  tk key n l hS hl := by
    obtain ⟨n', l', h1, h2, h3⟩ := h.tk key n l hS hl
    obtain ⟨n'', l'', k1, k2, k3⟩ := k.tk key n' l' hS h1
    exact ⟨n'', l'', k1, Nat.le_trans h2 k2, fun e => by
      have : n' = n := by omega
      rw [k3 (by omega), h3 this]⟩
theorem Ext.weaken {S S' : Key → Bool} {c1 c2 : Cx} {w1 w2 : World} (h : Ext S c1 w1 c2 w2) (hs : ∀ k, S' k = true → S k = true) : Ext S' c1 w1 c2 w2 :=
  ⟨h.os, h.tape, h.output, h.size, h.block, h.cell, h.nomut, fun k l hk => h.bx k l (hs k hk), fun k n l hk => h.tk k n l (hs k hk), h.zz, h.rowold, h.fz⟩
theorem allL_get {p : Key → Bool} {cs : List D} (h : allL p cs = true) {j : Nat} {d : D} (hj : cs[j]? = some d) : d.all p = true := by
  induction cs generalizing j with
  | nil => simp at hj
  | cons c r ih =>
    simp only [allL, Bool.and_eq_true] at h
    cases j with
    | zero => simp at hj; subst hj; exact h.1
    | succ j => simp at hj; exact ih h.2 hj
theorem allLL_get {p : Key → Bool} {xs : List (List D)} (h : allLL p xs = true) {j : Nat} {d : List D} (hj : xs[j]? = some d) : allL p d = true := by
  induction xs generalizing j with
  | nil => simp at hj
  | cons c r ih =>
    simp only [allLL, Bool.and_eq_true] at h
    cases j with
    | zero => simp at hj; subst hj; exact h.1
    | succ j => simp at hj; exact ih h.2 hj
structure ExtR (S : Key → Bool) (cx : Cx) (w : World) (cx' : Cx) (w' : World) : Prop where
  cell : ∀ b o, b < w.heap.size → ¬ cx.M b o → w'.cell? ⟨b, o, none⟩ = w.cell? ⟨b, o, none⟩
  nomut : ∀ b o, b < w.heap.size → ¬ cx.M b o → ¬ cx'.M b o
  bx : ∀ k l, S k = true → cx.bx k = some l → cx'.bx k = some l
  tk : ∀ k n l, S k = true → cx.tk k = some (n, l) → ∃ n' l', cx'.tk k = some (n', l') ∧ n ≤ n' ∧ (n' = n → l' = l)
theorem Ext.r {S : Key → Bool} {cx cx' : Cx} {w w' : World} (he : Ext S cx w cx' w') : ExtR S cx w cx' w' :=
  ⟨fun b o hb h => he.cell b o hb (fun h2 => absurd h2 h), he.nomut, he.bx, he.tk⟩
theorem Rd.monoR {S : Key → Bool} {cx cx' : Cx} {w w' : World} (he : ExtR S cx w cx' w') {d : D} {x : Value} (h : Rd cx w d x) : d.all S = true → Rd cx' w' d x := by
  induction h with
  | v x => intro _; exact .v x
  | any x => intro _; exact .any x
  | @sl sz tok xs a cap A vs hcap hcm hsz ha hc hr ht ih =>
    intro hS
    simp only [D.all, Bool.and_eq_true] at hS
    refine .sl A vs hcap hcm hsz ha (fun i j cs d hi hj => ?_) (fun i j cs d hi hj => ih i j cs d hi hj (allL_get (allLL_get hS.2 hi) hj)) ?_
    · have := hc i j cs d hi hj
      have hb := cell_lt this.1
      exact ⟨(he.cell _ _ hb this.2).trans this.1, he.nomut _ _ hb this.2⟩
    · cases tok with
      | ro => trivial
      | full => exact ht
      | own k =>
        obtain ⟨n, e, tl, h1, h2, h3⟩ := ht
        obtain ⟨n', ⟨e', tl'⟩, k1, k2, k3⟩ := he.tk k n _ hS.1 h1
        refine ⟨n', e', tl', k1, by omega, fun e => ?_⟩
        have hn : n' = n := by omega
        have := k3 hn
        simp only [Prod.mk.injEq] at this
        obtain ⟨rfl, rfl⟩ := this
        exact h3 (by omega)
  | @bx k off b o h => intro hS; exact .bx (he.bx k _ hS h)
  | @sb k n b o h hn => intro hS; exact .sb (he.bx k _ hS h) hn
  | @ro cells b o vs hc hr ih =>
    intro hS
    simp only [D.all] at hS
    refine .ro b o vs (fun j d hj => ?_) (fun j d hj => ih j d hj (allL_get hS hj))
    have := hc j d hj
    have hb := cell_lt this.1
    exact ⟨(he.cell _ _ hb this.2).trans this.1, he.nomut _ _ hb this.2⟩
  | agg hl hr ih => intro hS; simp only [D.all] at hS; exact .agg hl fun j d x hj hx => ih j d x hj hx (allL_get hS hj)
  | tup hl hr ih => intro hS; simp only [D.all] at hS; exact .tup hl fun j d x hj hx => ih j d x hj hx (allL_get hS hj)
  | clo hf hcl hrf hrc ih1 ih2 =>
    intro hS; simp only [D.all, Bool.and_eq_true] at hS
    exact .clo hf hcl (fun j d x hj hx => ih1 j d x hj hx (allL_get hS.1 hj)) (fun j d x hj hx => ih2 j d x hj hx (allL_get hS.2 hj))
theorem Rd.mono {S : Key → Bool} {cx cx' : Cx} {w w' : World} (he : Ext S cx w cx' w') {d : D} {x : Value} (h : Rd cx w d x) : d.all S = true → Rd cx' w' d x := h.monoR he.r

/-! ### the state, the frame -/
structure Setting where
  P : Program
  G : Nat → D
  keyless : ∀ g, (G g).all (fun _ => false) = true
def lv (n : Nat) : Key → Bool := fun k => decide (k.1 < n)
def foot (cx : Cx) (st : St) (k : Key) (b o : Nat) : Prop :=
  (∃ cs o0, st.get k = some (.cells cs) ∧ cx.bx k = some (b, o0) ∧ o0 ≤ o ∧ o < o0 + cs.length) ∨
  (∃ n e c z, st.get k = some (.tok n e) ∧ cx.tk k = some (n, e, some (b, c, z)) ∧ n * z ≤ o ∧ o < c * z)
structure Rel (E : Setting) (cx : Cx) (st : St) (w : World) : Prop where
  cells : ∀ k cs, st.get k = some (.cells cs) → allL (lv (k.1 + 1)) cs = true ∧ ∃ b o, cx.bx k = some (b, o) ∧ ∀ (j : Nat) d, cs[j]? = some d → ∃ x, w.cell? ⟨b, o + j, none⟩ = some x ∧ Rd cx w d x
  tok : ∀ k n e, st.get k = some (.tok n e) → ∃ tl, cx.tk k = some (n, e, tl) ∧ match tl with
    | none => True
    | some (g, c, z) => n ≤ c ∧ c ≤ maxLen ∧ ∃ cur, w.heap[g]? = some (.cells cur e (0, 0)) ∧ cur.size = c * z
  foot : ∀ k b o, foot cx st k b o → (∃ x, w.cell? ⟨b, o, none⟩ = some x) ∧ w.frozen? ⟨b, o, none⟩ = false ∧ cx.M b o
  sep : ∀ k k' b o, Mx.foot cx st k b o → Mx.foot cx st k' b o → k = k'
  domb : ∀ k l, cx.bx k = some l → ∃ cs, st.get k = some (.cells cs)
  domt : ∀ k l, cx.tk k = some l → ∃ n e, st.get k = some (.tok n e)
  mlt : ∀ b o, cx.M b o → b < w.heap.size
  nz : ∀ k b o, Mx.foot cx st k b o → ¬ cx.Z b o
  zm : ∀ b o, cx.Z b o → cx.M b o
  bxlt : ∀ k b o, cx.bx k = some (b, o) → b < w.heap.size
  apart : ∀ k k' b o n e g c z, cx.bx k = some (b, o) → cx.tk k' = some (n, e, some (g, c, z)) → b ≠ g
  rows : ∀ k k' n e n' e' g c z c' z', cx.tk k = some (n, e, some (g, c, z)) → cx.tk k' = some (n', e', some (g, c', z')) → k = k'
  glob : ∀ g, Rd cx w (E.G g) (.pointer (some ⟨g, 0, none⟩))
abbrev Env := Nat → D
def upd (ρ : Env) (t : Nat) (d : D) : Env := fun u => if u = t then d else ρ u
theorem upd_same (ρ : Env) (t : Nat) (d : D) : upd ρ t d t = d := if_pos rfl
theorem upd_ne (ρ : Env) (t u : Nat) (d : D) (h : u ≠ t) : upd ρ t d u = ρ u := if_neg h
structure RelF (E : Setting) (N : Nat) (cx : Cx) (ρ : Env) (st : St) (a : Act) (w : World) : Prop where
  rel : Rel E cx st w
  size : a.tmps.size = N
  tmps : ∀ t, Rd cx w (ρ t) (a.tmps.getD t undef)
  defers : a.defers = []
inductive KI where
  | code (c : Code)
  | inBlock (id : Nat)
  | inLoop (c : Code)
  | ops (all : Array Oper) (rest : List Oper)
  | goal (J : Env → St → Prop)
def kpost (P : Program) (G : (Env → St → Prop) → Act → World → Prop) : List KI → (Exit → Act → World → Prop) → Exit → Act → World → Prop
  | [], F => F
  | .code c :: k, F => Exit.then (c.wp P (kpost P G k F)) (kpost P G k F)
  | .inBlock id :: k, F => Exit.inBlock id (kpost P G k F)
  | .inLoop c :: k, F => Exit.then ((Code.loop c).wp P (kpost P G k F)) (kpost P G k F)
  | .ops all rest :: k, F => Exit.then (wpList P all (kpost P G k F) rest) (kpost P G k F)
  | .goal J :: k, F => Exit.then (G J) (kpost P G k F)
structure Base where
  L : Nat
  cx : Cx
  w : World
  dom : ∀ k, ¬ k.1 < L → cx.bx k = none ∧ cx.tk k = none
def Fin (E : Setting) (fn : Func) (F : D → St → Prop) (B : Base) : Exit → Act → World → Prop :=
  bodyPost E.P fn fun e w' => ∃ d st' cx' v, e = .returned v ∧ F d st' ∧ st'.length = B.L ∧ Rel E cx' st' w' ∧ Rd cx' w' d v ∧ Ext (fun _ => true) B.cx B.w cx' w'
def Gc (E : Setting) (N : Nat) (B : Base) (J : Env → St → Prop) (a : Act) (w : World) : Prop :=
  ∃ ρ st cx, J ρ st ∧ st.length = B.L + 1 ∧ RelF E N cx ρ st a w ∧ Ext (lv B.L) B.cx B.w cx w
/-- What runs in a function. -/
structure Fun where
  fn : Func
  L : Nat
  N : Nat
def AW (E : Setting) (U : Fun) (todo : List KI) (F : D → St → Prop) (ρ : Env) (st : St) : Prop :=
  ∀ (B : Base) cx a w, B.L = U.L → st.length = U.L + 1 → Ext (lv B.L) B.cx B.w cx w → RelF E U.N cx ρ st a w →
    kpost E.P (Gc E U.N B) todo (Fin E U.fn F B) .normal a w
def RdL (cx : Cx) (w : World) (ds : List D) (vs : List Value) : Prop :=
  ds.length = vs.length ∧ ∀ (j : Nat) d x, ds[j]? = some d → vs[j]? = some x → Rd cx w d x
def ACall (E : Setting) (f : Nat) (ds : List D) (st : St) (K : D → St → Prop) : Prop :=
  ∀ cx w vs, Rel E cx st w → RdL cx w ds vs → Calls E.P f vs.toArray w fun e w' =>
    ∃ d st' cx' v, e = .returned v ∧ K d st' ∧ st'.length = st.length ∧ Rel E cx' st' w' ∧ Rd cx' w' d v ∧ Ext (fun _ => true) cx w cx' w'
theorem ACall.mono {E : Setting} {f : Nat} {ds : List D} {st : St} {K K' : D → St → Prop} (h : ACall E f ds st K) (hk : ∀ d st', K d st' → K' d st') : ACall E f ds st K' :=
  fun cx w vs hr hd => Calls.mono (h cx w vs hr hd) fun _ _ ⟨d, st', cx', v, he, hK, r⟩ => ⟨d, st', cx', v, he, hk d st' hK, r⟩

section
variable {E : Setting} {U : Fun} {F : D → St → Prop} {k : List KI} {ρ : Env} {st : St}
theorem AW.seq {x y : Code} (h : AW E U (.code x :: .code y :: k) F ρ st) : AW E U (.code (.seq x y) :: k) F ρ st :=
  fun B cx a w hB hl he hr => wp_seq (h B cx a w hB hl he hr)
theorem AW.skip (h : AW E U k F ρ st) : AW E U (.code .skip :: k) F ρ st :=
  fun B cx a w hB hl he hr => wp_skip (h B cx a w hB hl he hr)
theorem AW.block {id : Nat} {c : Code} (h : AW E U (.code c :: .inBlock id :: k) F ρ st) : AW E U (.code (.block id c) :: k) F ρ st :=
  fun B cx a w hB hl he hr => wp_block (h B cx a w hB hl he hr)
theorem AW.inBlock {id : Nat} (h : AW E U k F ρ st) : AW E U (.inBlock id :: k) F ρ st :=
  fun B cx a w hB hl he hr => h B cx a w hB hl he hr
theorem AW.region {id : Nat} {l : Array Oper} (h : AW E U (.ops l l.toList :: k) F ρ st) : AW E U (.code (.region id l false) :: k) F ρ st :=
  fun B cx a w hB hl he hr => wp_region_list (h B cx a w hB hl he hr)
theorem AW.opsNil {l : Array Oper} (h : AW E U k F ρ st) : AW E U (.ops l [] :: k) F ρ st :=
  fun B cx a w hB hl he hr => wpList_nil (P := E.P) (ops := l) (Q := kpost E.P (Gc E U.N B) k (Fin E U.fn F B)) (h B cx a w hB hl he hr)
theorem AW.goal {J : Env → St → Prop} (h : J ρ st) : AW E U (.goal J :: k) F ρ st :=
  fun B cx a w hB hl he hr => ⟨ρ, st, cx, h, by omega, hr, he⟩
/-- Where an exit comes to. -/
def popExit (id : Nat) : List KI → Option (List KI)
  | [] => none
  | .inBlock j :: k => if id = j then some k else popExit id k
  | _ :: k => popExit id k
theorem kpost_exit {P : Program} {G : (Env → St → Prop) → Act → World → Prop} {id : Nat} {Q : Exit → Act → World → Prop} {a : Act} {w : World} :
    ∀ {k k' : List KI}, popExit id k = some k' → kpost P G k' Q .normal a w → kpost P G k Q (.exit id) a w := by
  intro k
  induction k with
  | nil => intro k' h; simp [popExit] at h
  | cons x k ih =>
    intro k' h hk
    cases x with
    | inBlock j =>
      simp only [popExit] at h
      by_cases hj : id = j
      · rw [if_pos hj] at h
        cases h
        simp only [kpost, Exit.inBlock, hj, if_true]
        exact hk
      · rw [if_neg hj] at h
        simp only [kpost, Exit.inBlock, hj, if_false]
        exact ih h hk
    | code c => exact ih h hk
    | inLoop c => exact ih h hk
    | ops a b => exact ih h hk
    | goal J => exact ih h hk
theorem AW.exit {id : Nat} {k' : List KI} (hp : popExit id k = some k') (h : AW E U k' F ρ st) : AW E U (.code (.exit id) :: k) F ρ st :=
  fun B cx a w hB hl he hr => wp_exit (kpost_exit hp (h B cx a w hB hl he hr))
def ev (E : Setting) (ρ : Env) : Operand → D
  | .tmp t => ρ t
  | .const v => .v v
  | .global g => E.G g
  | .func f => .clo (.func f) [] []
theorem RelF.eval {N : Nat} {cx : Cx} {a : Act} {w : World} (h : RelF E N cx ρ st a w) (o : Operand) : Rd cx w (ev E ρ o) (a.eval o) := by
  cases o with
  | tmp t => exact h.tmps t
  | const v => exact .v v
  | global g => exact h.rel.glob g
  | func f => exact .clo (fv := []) (cv := []) rfl rfl (by simp) (by simp)
theorem AW.cond {c : Operand} {x y : Code} {t : Bool} (hc : ev E ρ c = .v (.bool t)) (h1 : t = true → AW E U (.code x :: k) F ρ st) (h2 : t = false → AW E U (.code y :: k) F ρ st) :
    AW E U (.code (.cond c x y) :: k) F ρ st := by
  intro B cx a w hB hl he hr
  have := hr.eval c
  rw [hc] at this
  generalize hv : a.eval c = v at this
  cases this
  refine wp_cond (t := t) hv ?_
  cases t
  · exact h2 rfl B cx a w hB hl he hr
  · exact h1 rfl B cx a w hB hl he hr
theorem kpost_ret {P : Program} {G : (Env → St → Prop) → Act → World → Prop} {Q : Exit → Act → World → Prop} {a : Act} {w : World} :
    ∀ {k : List KI}, Q .ret a w → kpost P G k Q .ret a w := by
  intro k
  induction k with
  | nil => exact id
  | cons x k ih => intro h; cases x <;> exact ih h

/-- What a function hands back. -/
def resD (ρ : Env) : List ResultVar → Option (List D)
  | [] => some []
  | .tmp t :: r => (resD ρ r).map (ρ t :: ·)
  | .cell _ _ :: _ => none
def resOf : List D → D
  | [d] => d
  | ds => .tup ds
def oneRes (tmps : Array Value) : ResultVar → Sem Value
  | .tmp t => pure (tmps.getD t undef)
  | .cell b t => do loadVar t (← asAddr (tmps.getD b undef))
theorem results_eq (fn : Func) (tmps : Array Value) : results fn tmps = (fn.results.mapM (oneRes tmps) >>= fun vs => pure (if h : vs.size = 1 then vs[0] else .tuple vs)) := by
  unfold results
  have : (oneRes tmps) = (fun | .tmp t => pure (tmps.getD t undef) | .cell a t => do loadVar t (← asAddr (tmps.getD a undef))) := by
    funext x; cases x <;> rfl
  rw [this]
  congr
theorem mapM_results {P : Program} {w : World} {a : Act} : ∀ {l : List ResultVar} {ρ : Env} {ds : List D}, resD ρ l = some ds →
    ∃ vs, (l.mapM (oneRes a.tmps)).run P w = .ok vs w ∧
      vs.length = ds.length ∧ ∀ (j : Nat) d x, ds[j]? = some d → vs[j]? = some x → ∃ t, d = ρ t ∧ x = a.tmps.getD t undef := by
  intro l
  induction l with
  | nil => intro ρ ds h; simp only [resD, Option.some.injEq] at h; subst h; exact ⟨[], rfl, rfl, by simp⟩
  | cons r l ih =>
    intro ρ ds h
    cases r with
    | cell b t => simp [resD] at h
    | tmp t =>
      simp only [resD] at h
      cases hr : resD ρ l with
      | none => simp [hr] at h
      | some ds' =>
        simp only [hr, Option.map_some, Option.some.injEq] at h
        subst h
        obtain ⟨vs, h1, h2, h3⟩ := ih hr
        refine ⟨a.tmps.getD t undef :: vs, ?_, by simp [h2], ?_⟩
        · rw [List.mapM_cons, Sem.run_bind]; simp only [oneRes, Sem.run_pure, Result.andThen_ok, Sem.run_bind]; rw [h1]; rfl
        · intro j d x hd hx
          cases j with
          | zero => simp only [List.getElem?_cons_zero, Option.some.injEq] at hd hx; exact ⟨t, hd.symm, hx.symm⟩
          | succ j => simp at hd hx; exact h3 j d x hd hx

theorem run_results {P : Program} {fn : Func} {w : World} {a : Act} {ρ : Env} {ds : List D} (h : resD ρ fn.results.toList = some ds) {cx : Cx} (hr : ∀ t, Rd cx w (ρ t) (a.tmps.getD t undef)) :
    ∃ v, (results fn a.tmps).run P w = .ok v w ∧ Rd cx w (resOf ds) v := by
  obtain ⟨vs, h1, h2, h3⟩ := mapM_results (P := P) (w := w) (a := a) h
  have hm : (fn.results.mapM (oneRes a.tmps)).run P w = .ok vs.toArray w := by
    rw [← Array.toArray_toList (xs := fn.results), List.mapM_toArray, Sem.run_map, h1]; rfl
  have hrd : ∀ (j : Nat) d x, ds[j]? = some d → vs[j]? = some x → Rd cx w d x := fun j d x hd hx => by
    obtain ⟨t, rfl, rfl⟩ := h3 j d x hd hx
    exact hr t
  refine ⟨if h : vs.toArray.size = 1 then vs.toArray[0] else .tuple vs.toArray, ?_, ?_⟩
  · rw [results_eq, Sem.run_bind, hm]; rfl
  · match ds, vs, h2 with
    | [d], [x], _ => exact hrd 0 d x rfl rfl
    | [], [], _ => exact .tup (vs := []) rfl (by simp)
    | d :: d' :: ds, x :: x' :: vs, h2 =>
      rw [dif_neg (by simp)]
      exact .tup h2.symm hrd
end

theorem St.get_ge : ∀ {st : St} {k : Key}, st.length ≤ k.1 → st.get k = none
  | [], _, _ => rfl
  | fr :: r, k, h => by
    simp only [List.length_cons] at h
    simp only [St.get]
    rw [if_neg (by omega)]
    exact St.get_ge (by omega)
theorem St.get_tail {fr : Fr} {st : St} {k : Key} (h : k.1 < st.length) : St.get (fr :: st) k = St.get st k := by
  simp only [St.get]; rw [if_neg (by omega)]
theorem St.get_empty {st : St} {k : Key} : St.get ((fun _ => none) :: st) k = St.get st k := by
  simp only [St.get]
  split
  · rename_i h; exact (St.get_ge (by omega)).symm
  · rfl
theorem foot_congr {cx : Cx} {st st' : St} (h : ∀ k, st.get k = st'.get k) {k : Key} {b o : Nat} (hf : foot cx st k b o) : foot cx st' k b o := by
  unfold foot at *; rw [h k] at hf; exact hf
theorem Rel.congr {E : Setting} {cx : Cx} {st st' : St} {w : World} (h : ∀ k, st.get k = st'.get k) (r : Rel E cx st w) : Rel E cx st' w where
  cells k cs hk := r.cells k cs ((h k).trans hk)
  tok k n e hk := r.tok k n e ((h k).trans hk)
  foot k b o hk := r.foot k b o (foot_congr (fun k => (h k).symm) hk)
  sep k k' b o hk hk' := r.sep k k' b o (foot_congr (fun k => (h k).symm) hk) (foot_congr (fun k => (h k).symm) hk')
  domb k l hk := by obtain ⟨cs, e⟩ := r.domb k l hk; exact ⟨cs, (h k).symm.trans e⟩
  domt k l hk := by obtain ⟨n, e, h'⟩ := r.domt k l hk; exact ⟨n, e, (h k).symm.trans h'⟩
  mlt := r.mlt
  nz k b o hk := r.nz k b o (foot_congr (fun k => (h k).symm) hk)
  zm := r.zm
  bxlt := r.bxlt
  apart := r.apart
  rows := r.rows
  glob := r.glob
theorem Rel.noKey {E : Setting} {cx : Cx} {st : St} {w : World} (r : Rel E cx st w) (k : Key) (h : ¬ k.1 < st.length) : cx.bx k = none ∧ cx.tk k = none := by
  have hg := St.get_ge (st := st) (k := k) (by omega)
  constructor
  · cases hb : cx.bx k with
    | none => rfl
    | some l => obtain ⟨cs, e⟩ := r.domb k l hb; rw [hg] at e; cases e
  · cases hb : cx.tk k with
    | none => rfl
    | some l => obtain ⟨n, _, e⟩ := r.domt k l hb; rw [hg] at e; cases e
/-- The keys below a level alone. -/
def Cx.cut (cx : Cx) (L : Nat) : Cx := { bx := fun k => if k.1 < L then cx.bx k else none, tk := fun k => if k.1 < L then cx.tk k else none, M := cx.M, Z := cx.Z }
theorem Ext.cut (cx : Cx) (w : World) (L : Nat) : Ext (lv L) cx w (cx.cut L) w where
  os := rfl
  tape := rfl
  output := rfl
  size := Nat.le_refl _
  block _ _ _ := rfl
  cell _ _ _ _ := rfl
  nomut _ _ _ h := h
  bx k l hk h := by simp only [lv, decide_eq_true_eq] at hk; simp only [Cx.cut, hk, if_true]; exact h
  tk k n l hk h := by simp only [lv, decide_eq_true_eq] at hk; exact ⟨n, l, by simp only [Cx.cut, hk, if_true]; exact h, Nat.le_refl _, fun _ => rfl⟩
  zz := rfl
  rowold k n e g c z h _ := by
    simp only [Cx.cut] at h
    split at h
    · exact ⟨k, n, e, c, z, h⟩
    · cases h
  fz _ _ _ := rfl
theorem D.both {m1 : D → Prop} {m2 : List (List D) → Prop} {m3 : List D → Prop}
    (hv : ∀ x, m1 (.v x)) (ha : m1 .any) (hsl : ∀ sz tok xs, m2 xs → m1 (.sl sz tok xs)) (hbx : ∀ k o, m1 (.bx k o)) (hsb : ∀ k n, m1 (.sb k n)) (hro : ∀ cs, m3 cs → m1 (.ro cs))
    (hag : ∀ cs, m3 cs → m1 (.agg cs)) (htu : ∀ cs, m3 cs → m1 (.tup cs)) (hcl : ∀ fn a b, m3 a → m3 b → m1 (.clo fn a b))
    (h2n : m2 []) (h2c : ∀ l r, m3 l → m2 r → m2 (l :: r)) (h3n : m3 []) (h3c : ∀ d r, m1 d → m3 r → m3 (d :: r)) :
    (∀ d, m1 d) ∧ (∀ l, m3 l) ∧ (∀ l, m2 l) := by
  have h1 : ∀ d, m1 d := fun d => D.rec (motive_1 := m1) (motive_2 := m2) (motive_3 := m3) hv ha hsl hbx hsb hro hag htu hcl h2n h2c h3n h3c d
  have h3 : ∀ l, m3 l := fun l => by
    induction l with
    | nil => exact h3n
    | cons d r ih => exact h3c d r (h1 d) ih
  exact ⟨h1, h3, fun l => by
    induction l with
    | nil => exact h2n
    | cons d r ih => exact h2c d r (h3 d) ih⟩
theorem all_mono {p q : Key → Bool} (h : ∀ k, p k = true → q k = true) : (∀ d : D, d.all p = true → d.all q = true) ∧ (∀ l : List D, allL p l = true → allL q l = true) ∧ (∀ l : List (List D), allLL p l = true → allLL q l = true) := by
  have ht : ∀ t : Tok, t.all p = true → t.all q = true := fun t => by cases t <;> simp [Tok.all] <;> exact h _
  exact D.both (fun _ _ => rfl) (fun _ => rfl) (fun sz tok xs ih h => by simp only [D.all, Bool.and_eq_true] at *; exact ⟨ht _ h.1, ih h.2⟩) (fun k _ hk => by simp only [D.all] at *; exact h _ hk) (fun k _ hk => by simp only [D.all] at *; exact h _ hk)
      (fun _ ih hk => by simp only [D.all] at *; exact ih hk) (fun _ ih hk => by simp only [D.all] at *; exact ih hk) (fun _ ih hk => by simp only [D.all] at *; exact ih hk)
      (fun _ _ _ i1 i2 hk => by simp only [D.all, Bool.and_eq_true] at *; exact ⟨i1 hk.1, i2 hk.2⟩)
      (fun _ => rfl) (fun _ _ i1 i2 hk => by simp only [allLL, Bool.and_eq_true] at *; exact ⟨i1 hk.1, i2 hk.2⟩)
      (fun _ => rfl) (fun _ _ i1 i2 hk => by simp only [allL, Bool.and_eq_true] at *; exact ⟨i1 hk.1, i2 hk.2⟩)
/-- The keys from a level on fall away: what is below stands as it did. -/
theorem Rel.cut {E : Setting} {cx : Cx} {fr : Fr} {st : St} {w : World} (r : Rel E cx (fr :: st) w) : Rel E (cx.cut st.length) st w := by
  have hget : ∀ k o, St.get st k = some o → k.1 < st.length ∧ St.get (fr :: st) k = some o := fun k o h => by
    have hlt : k.1 < st.length := by
      rcases Nat.lt_or_ge k.1 st.length with h' | h'
      · exact h'
      · rw [St.get_ge h'] at h; cases h
    exact ⟨hlt, (St.get_tail hlt).trans h⟩
  have hfoot : ∀ k b o, Mx.foot (cx.cut st.length) st k b o → Mx.foot cx (fr :: st) k b o := fun k b o h => by
    rcases h with ⟨cs, o0, h1, h2, h3⟩ | ⟨n, e, c, z, h1, h2, h3⟩
    · obtain ⟨hlt, hg⟩ := hget _ _ h1
      simp only [Cx.cut, hlt, if_true] at h2
      exact .inl ⟨cs, o0, hg, h2, h3⟩
    · obtain ⟨hlt, hg⟩ := hget _ _ h1
      simp only [Cx.cut, hlt, if_true] at h2
      exact .inr ⟨n, e, c, z, hg, h2, h3⟩
  refine ⟨fun k cs h => ?_, fun k n e h => ?_, fun k b o h => r.foot k b o (hfoot k b o h), fun k k' b o h h' => r.sep k k' b o (hfoot k b o h) (hfoot k' b o h'), fun k l h => ?_, fun k l h => ?_, r.mlt, fun k b o h => r.nz k b o (hfoot k b o h), r.zm, fun k b o h => by { simp only [Cx.cut] at h; split at h; { exact r.bxlt k b o h }; { cases h } },
    fun k k' b o n e g c z h h' => ?_, fun k k' n e n' e' g c z c' z' h h' => ?_, fun g => ?_⟩
  · obtain ⟨hlt, hg⟩ := hget _ _ h
    obtain ⟨h1, b, o, h2, h3⟩ := r.cells k cs hg
    refine ⟨h1, b, o, by simp only [Cx.cut, hlt, if_true]; exact h2, fun j d hj => ?_⟩
    obtain ⟨x, hx, hr⟩ := h3 j d hj
    refine ⟨x, hx, hr.mono (Ext.cut cx w st.length) ?_⟩
    exact (all_mono (fun q hq => by simp only [lv, decide_eq_true_eq] at *; omega)).1 d (allL_get h1 hj)
  · obtain ⟨hlt, hg⟩ := hget _ _ h
    obtain ⟨l, hl, hl'⟩ := r.tok k n e hg
    exact ⟨l, by simp only [Cx.cut, hlt, if_true]; exact hl, hl'⟩
  · simp only [Cx.cut] at h
    split at h
    · rename_i hlt
      obtain ⟨cs, e⟩ := r.domb k l h
      exact ⟨cs, (St.get_tail hlt).symm.trans e⟩
    · cases h
  · simp only [Cx.cut] at h
    split at h
    · rename_i hlt
      obtain ⟨n, e, h'⟩ := r.domt k l h
      exact ⟨n, e, (St.get_tail hlt).symm.trans h'⟩
    · cases h
  · simp only [Cx.cut] at h h'
    split at h <;> split at h' <;> first | exact r.apart _ _ _ _ _ _ _ _ _ h h' | cases h | cases h'
  · simp only [Cx.cut] at h h'
    split at h <;> split at h' <;> first | exact r.rows _ _ _ _ _ _ _ _ _ _ _ h h' | cases h | cases h'
  · exact (r.glob g).mono (Ext.cut cx w st.length) ((all_mono (fun q hq => by cases hq)).1 _ (E.keyless g))

section
variable {E : Setting} {U : Fun} {F : D → St → Prop} {k : List KI} {ρ : Env} {fr : Fr} {st : St}
theorem Fin_of {B : Base} {cx : Cx} {a : Act} {w : World} {ds : List D} (hres : resD ρ U.fn.results.toList = some ds) (hall : (resOf ds).all (lv st.length) = true) (hF : F (resOf ds) st)
    (hB : B.L = U.L) (hl : (fr :: st).length = U.L + 1) (he : Ext (lv B.L) B.cx B.w cx w) (hr : RelF E U.N cx ρ (fr :: st) a w) : a.defers = [] ∧ ∃ v, (results U.fn a.tmps).run E.P w = .ok v w ∧
      ∃ d st' cx' v', Ending.returned v = .returned v' ∧ F d st' ∧ st'.length = B.L ∧ Rel E cx' st' w ∧ Rd cx' w d v' ∧ Ext (fun _ => true) B.cx B.w cx' w := by
  obtain ⟨v, h1, h2⟩ := run_results (P := E.P) (fn := U.fn) (w := w) (a := a) hres hr.tmps
  have hlen : st.length = B.L := by simp at hl; omega
  refine ⟨hr.defers, v, h1, resOf ds, st, cx.cut st.length, v, rfl, hF, hlen, hr.rel.cut, h2.mono (Ext.cut cx w st.length) hall, ?_⟩
  have e2 := he.trans ((Ext.cut cx w st.length).weaken (fun k hk => by rw [hlen]; exact hk))
  refine ⟨e2.os, e2.tape, e2.output, e2.size, e2.block, e2.cell, e2.nomut, fun key l _ hl => ?_, fun key n l _ hl => ?_, e2.zz, e2.rowold, e2.fz⟩
  · by_cases hk : key.1 < B.L
    · exact e2.bx key l (by simp [lv, hk]) hl
    · rw [(B.dom key hk).1] at hl; cases hl
  · by_cases hk : key.1 < B.L
    · exact e2.tk key n l (by simp [lv, hk]) hl
    · rw [(B.dom key hk).2] at hl; cases hl
theorem AW.ret {ds : List D} (hres : resD ρ U.fn.results.toList = some ds) (hall : (resOf ds).all (lv st.length) = true) (hF : F (resOf ds) st) : AW E U (.code .ret :: k) F ρ (fr :: st) :=
  fun B cx a w hB hl he hr => wp_ret (kpost_ret (Fin_of hres hall hF hB hl he hr))
theorem AW.nil {ds : List D} (hres : resD ρ U.fn.results.toList = some ds) (hall : (resOf ds).all (lv st.length) = true) (hF : F (resOf ds) st) : AW E U [] F ρ (fr :: st) :=
  fun B cx a w hB hl he hr => Fin_of hres hall hF hB hl he hr
end
def enter (ds : List D) : Env := fun t => (ds[t]?).getD (.v undef)
theorem acall_body {E : Setting} {f : Nat} {fn : Func} {c : Code} {ds : List D} {st : St} {K : D → St → Prop} (hf : E.P.funcs[f]? = some fn) (hb : fn.body = some c) {N : Nat} (hN : fn.ntmps = N) (hn : Nat.ble ds.length N = true)
    (h : AW E ⟨fn, st.length, N⟩ [.code c] K (enter ds) ((fun _ => none) :: st)) : ACall E f ds st K := by
  intro cx w vs hr hd
  subst hN
  have hn := Nat.le_of_ble_eq_true hn
  refine calls_of_wp hf hb ?_
  have hw : ∀ t, Rd cx w (enter ds t) ((vs.toArray ++ Array.replicate (fn.ntmps - vs.toArray.size) undef).getD t undef) := fun t => by
    unfold enter
    simp only [Array.getD_eq_getD_getElem?]
    by_cases ht : t < ds.length
    · have ht' : t < vs.length := by rw [← hd.1]; exact ht
      have e1 : ds[t]? = some ds[t] := List.getElem?_eq_getElem ht
      have e2 : (vs.toArray ++ Array.replicate (fn.ntmps - vs.toArray.size) undef)[t]? = some vs[t] := by
        rw [Array.getElem?_append_left (by simpa using ht')]; simp [ht']
      rw [e1, e2]
      exact hd.2 t _ _ e1 (List.getElem?_eq_getElem ht')
    · have e1 : ds[t]? = none := List.getElem?_eq_none (by omega)
      have e2 : ((vs.toArray ++ Array.replicate (fn.ntmps - vs.toArray.size) undef)[t]?).getD undef = undef := by
        rw [Array.getElem?_append_right (by simp; rw [← hd.1]; omega)]
        rw [Array.getElem?_replicate]
        split <;> rfl
      rw [e1, e2]
      exact .v _
  have := h ⟨st.length, cx, w, hr.noKey⟩ cx { tmps := vs.toArray ++ Array.replicate (fn.ntmps - vs.toArray.size) undef, defers := [] } w rfl (by simp) (Ext.refl _ _ _)
    ⟨hr.congr (fun k => St.get_empty.symm), by have := hd.1; simp; omega, hw, rfl⟩
  exact this
theorem AW.loop {E : Setting} {U : Fun} {F : D → St → Prop} {k : List KI} {ρ : Env} {st : St} {c : Code} {ι : Type} (I : ι → Env → St → Prop) (μ : ι → Nat) (i0 : ι) (h0 : I i0 ρ st)
    (step : ∀ i ρ st, st.length = U.L + 1 → I i ρ st → AW E U (.code c :: .goal (fun ρ' st' => ∃ j, μ j < μ i ∧ I j ρ' st') :: k) F ρ st) : AW E U (.code (.loop c) :: k) F ρ st := by
  intro B cx a w hB hl he hr
  let C : Nat → Act → World → Prop := fun n a w => ∃ i ρ st cx, μ i = n ∧ I i ρ st ∧ st.length = U.L + 1 ∧ Ext (lv B.L) B.cx B.w cx w ∧ RelF E U.N cx ρ st a w
  have key : ∀ n a w, C n a w → ∃ m, C m a w ∧ ∀ m', C m' a w → m ≤ m' := by
    intro n
    induction n using Nat.strongRecOn with
    | _ n ih =>
      intro a w hC
      by_cases hm : ∃ m, m < n ∧ C m a w
      · obtain ⟨m, hlt, hc⟩ := hm
        exact ih m hlt a w hc
      · exact ⟨n, hC, fun m' hc => by rcases Nat.lt_or_ge m' n with h | h; exact absurd ⟨m', h, hc⟩ hm; exact h⟩
  let M : Act → World → Nat := fun a w => Classical.epsilon fun m => C m a w ∧ ∀ m', C m' a w → m ≤ m'
  have hM : ∀ n a w, C n a w → C (M a w) a w ∧ M a w ≤ n := by
    intro n a w hC
    have h := Classical.epsilon_spec (key n a w hC)
    exact ⟨h.1, h.2 n hC⟩
  refine wp_loop (fun a w => ∃ n, C n a w) M ⟨_, i0, ρ, st, cx, rfl, h0, hl, he, hr⟩ ?_
  rintro a w ⟨n, hC⟩
  obtain ⟨⟨i, ρ, st, cx, hμ, hI, hl, he, hr⟩, _⟩ := hM n a w hC
  have := step i ρ st hl hI B cx a w hB hl he hr
  refine Code.wp_mono (fun e a' w' h => ?_) this
  cases e with
  | normal =>
    obtain ⟨ρ', st', cx', ⟨j, hj, hI'⟩, hl', hr', he'⟩ := h
    have hc : C (μ j) a' w' := ⟨j, ρ', st', cx', rfl, hI', by omega, he', hr'⟩
    refine ⟨⟨_, hc⟩, ?_⟩
    have := (hM _ _ _ hc).2
    omega
  | _ => exact h
end Go.Mx