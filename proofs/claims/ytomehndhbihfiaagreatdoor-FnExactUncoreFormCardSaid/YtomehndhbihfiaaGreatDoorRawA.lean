/- Memory that is written cell by cell without a change of kind: rows, trees of rows, what stays. No condition. -/
import Derived.Test.YtomehndhbihfiaaGreatDoorEvTri
import Derived.WalkKit
import Derived.Below
import Derived.KernelRfl
namespace Go.Raw
open Go.Mx Go.RowKit
set_option linter.unusedVariables false
def isI (x : Value) : Prop := ∃ i, x = .int .i64 i
def isS (x : Value) : Prop := ∃ s, x = .string s
/-- The same value, or one of the same kind. -/
def KE (x y : Value) : Prop := x = y ∨ (isI x ∧ isI y) ∨ (isS x ∧ isS y)
theorem KE.refl (x : Value) : KE x x := .inl rfl
theorem KE.trans {x y z : Value} (h : KE x y) (k : KE y z) : KE x z := by
  rcases h with rfl | ⟨h1, h2⟩ | ⟨h1, h2⟩
  · exact k
  · rcases k with rfl | ⟨k1, k2⟩ | ⟨k1, k2⟩
    · exact .inr (.inl ⟨h1, h2⟩)
    · exact .inr (.inl ⟨h1, k2⟩)
    · obtain ⟨i, rfl⟩ := h2; obtain ⟨s, e⟩ := k1; cases e
  · rcases k with rfl | ⟨k1, k2⟩ | ⟨k1, k2⟩
    · exact .inr (.inr ⟨h1, h2⟩)
    · obtain ⟨i, rfl⟩ := h2; obtain ⟨s, e⟩ := k1; cases e
    · exact .inr (.inr ⟨h1, k2⟩)
theorem KE.i {x y : Value} (h : KE x y) (hx : isI x) : isI y := by
  rcases h with rfl | ⟨_, h⟩ | ⟨⟨s, rfl⟩, _⟩
  · exact hx
  · exact h
  · obtain ⟨i, e⟩ := hx; cases e
theorem KE.s {x y : Value} (h : KE x y) (hx : isS x) : isS y := by
  rcases h with rfl | ⟨⟨s, rfl⟩, _⟩ | ⟨_, h⟩
  · exact hx
  · obtain ⟨i, e⟩ := hx; cases e
  · exact h
theorem KE.sl {a : Option Addr} {n c : Nat} {y : Value} (h : KE (.slice a n c) y) : y = .slice a n c := by
  rcases h with rfl | ⟨⟨i, e⟩, _⟩ | ⟨⟨s, e⟩, _⟩
  · rfl
  · cases e
  · cases e
/-- Outside some blocks all is as it was; what was there keeps its kind. -/
structure KS (R : Nat → Prop) (w w' : World) : Prop where
  os : w'.os = w.os
  tape : w'.tape = w.tape
  output : w'.output = w.output
  size : w.heap.size ≤ w'.heap.size
  block : ∀ b, b < w.heap.size → ¬ R b → w'.heap[b]? = w.heap[b]?
  cell : ∀ b o x, w.cell? ⟨b, o, none⟩ = some x → ∃ y, w'.cell? ⟨b, o, none⟩ = some y ∧ KE x y
  fz : ∀ b o, b < w.heap.size → w'.frozen? ⟨b, o, none⟩ = w.frozen? ⟨b, o, none⟩
theorem KS.refl (R : Nat → Prop) (w : World) : KS R w w := ⟨rfl, rfl, rfl, Nat.le_refl _, fun _ _ _ => rfl, fun b o x h => ⟨x, h, .refl x⟩, fun _ _ _ => rfl⟩
theorem KS.trans {R : Nat → Prop} {a b c : World} (h : KS R a b) (k : KS R b c) : KS R a c :=
  ⟨k.os.trans h.os, k.tape.trans h.tape, k.output.trans h.output, Nat.le_trans h.size k.size, fun bl hb hr => (k.block bl (Nat.lt_of_lt_of_le hb h.size) hr).trans (h.block bl hb hr), fun bl o x hx => by
    obtain ⟨y, hy, e⟩ := h.cell bl o x hx
    obtain ⟨z, hz, e'⟩ := k.cell bl o y hy
    exact ⟨z, hz, e.trans e'⟩, fun bl o hb => (k.fz bl o (Nat.lt_of_lt_of_le hb h.size)).trans (h.fz bl o hb)⟩
/-- What leaves all that was there leaves it in kind. -/
theorem KS.of_below {R : Nat → Prop} {w w' : World} (h : Below w.heap.size w w') : KS R w w' :=
  ⟨h.os, h.tape, h.output, h.size, fun b hb _ => h.block b hb, fun b o x hx => ⟨x, by rw [h.cell (p := ⟨b, o, none⟩) (cell_lt hx)]; exact hx, .refl x⟩, fun b o hb => h.frozen (p := ⟨b, o, none⟩) hb⟩
/-- A cell is written that held a value of the same kind. -/
theorem KS.set {R : Nat → Prop} {w : World} {b o : Nat} {x u : Value} (hb : R b) (hc : w.cell? ⟨b, o, none⟩ = some x) (hk : KE x u) : KS R w (w.setCell ⟨b, o, none⟩ u) :=
  ⟨rfl, rfl, rfl, by simp [World.setCell], fun k hk hr => Below.heap_setCell _ _ _ _ (fun e => hr (e ▸ hb)), fun b' o' y hy => by
    by_cases h : (⟨b, o, none⟩ : Addr) = ⟨b', o', none⟩
    · rw [← h] at hy ⊢
      rw [hc] at hy; cases hy
      exact ⟨u, World.cell?_setCell_same _ _ _ hc, hk⟩
    · exact ⟨y, by rw [World.cell?_setCell_other _ _ _ _ h]; exact hy, .refl y⟩, fun _ _ _ => World.frozen?_setCell _ _ _ _⟩
/-- A slice, its row and what the row holds; nobody has frozen it, and it lies from a block on. -/
def RowAt (w : World) (R : Nat → Prop) (v : Value) (n : Nat) (cells : List Value) : Prop :=
  ∃ a cap, v = .slice a n cap ∧ n ≤ cap ∧ cap ≤ maxLen ∧ (cells ≠ [] → ∃ g o, a = some ⟨g, o, none⟩ ∧ R g ∧ ∀ (j : Nat) x, cells[j]? = some x → w.cell? ⟨g, o + j, none⟩ = some x ∧ w.frozen? ⟨g, o + j, none⟩ = false)
def KEs (l l' : List Value) : Prop := l.length = l'.length ∧ ∀ (j : Nat) x y, l[j]? = some x → l'[j]? = some y → KE x y
theorem KEs.nil {l : List Value} (h : KEs [] l) : l = [] := by cases l with
  | nil => rfl
  | cons x l => cases h.1
theorem KEs.cons {x : Value} {l m : List Value} (h : KEs (x :: l) m) : ∃ y l', m = y :: l' ∧ KE x y ∧ KEs l l' := by
  cases m with
  | nil => cases h.1
  | cons y l' => exact ⟨y, l', rfl, h.2 0 x y rfl rfl, by simpa using h.1, fun j a b ha hb => h.2 (j + 1) a b (by simpa using ha) (by simpa using hb)⟩
theorem RowAt.ks {R R' : Nat → Prop} {w w' : World} {v : Value} {n : Nat} {cells : List Value} (h : RowAt w R v n cells) (k : KS R' w w') : ∃ cells', RowAt w' R v n cells' ∧ KEs cells cells' := by
  obtain ⟨a, cap, rfl, h1, h2, h3⟩ := h
  by_cases hn : cells = []
  · subst hn; exact ⟨[], ⟨a, cap, rfl, h1, h2, fun h => absurd rfl h⟩, rfl, fun j x y hx => by simp at hx⟩
  · obtain ⟨g, o, rfl, hg, hc⟩ := h3 hn
    have hex : ∀ l : List Value, ∀ o, (∀ (j : Nat) x, l[j]? = some x → w.cell? ⟨g, o + j, none⟩ = some x ∧ w.frozen? ⟨g, o + j, none⟩ = false) →
        ∃ l' : List Value, l'.length = l.length ∧ (∀ (j : Nat) y, l'[j]? = some y → w'.cell? ⟨g, o + j, none⟩ = some y ∧ w'.frozen? ⟨g, o + j, none⟩ = false) ∧ ∀ (j : Nat) x y, l[j]? = some x → l'[j]? = some y → KE x y := by
      intro l
      induction l with
      | nil => intro o _; exact ⟨[], rfl, fun j y hy => by simp at hy, fun j x y hx => by simp at hx⟩
      | cons x l ih =>
        intro o hc
        obtain ⟨l', e, q1, q2⟩ := ih (o + 1) (fun j y hy => by have := hc (j + 1) y (by simpa using hy); rwa [show o + (j + 1) = o + 1 + j by omega] at this)
        obtain ⟨h0, f0⟩ := hc 0 x rfl
        obtain ⟨y, hy, e'⟩ := k.cell g _ x h0
        refine ⟨y :: l', by simp [e], fun j z hz => ?_, fun j a b ha hb => ?_⟩
        · cases j with
          | zero => simp at hz; subst hz; exact ⟨hy, (k.fz g _ (cell_lt h0)).trans f0⟩
          | succ j => have := q1 j z (by simpa using hz); rwa [show o + 1 + j = o + (j + 1) by omega] at this
        · cases j with
          | zero => simp at ha hb; subst ha; subst hb; exact e'
          | succ j => exact q2 j a b (by simpa using ha) (by simpa using hb)
    obtain ⟨l', e, q1, q2⟩ := hex cells o hc
    exact ⟨l', ⟨_, cap, rfl, h1, h2, fun _ => ⟨g, o, rfl, hg, q1⟩⟩, e.symm, q2⟩
def ShI (w : World) (R : Nat → Prop) (n : Nat) (v : Value) : Prop := ∃ cells, RowAt w R v n cells ∧ cells.length = n ∧ ∀ x ∈ cells, isI x
theorem ShI.ks {R R' : Nat → Prop} {n : Nat} {w w' : World} {v : Value} (h : ShI w R n v) (k : KS R' w w') : ShI w' R n v := by
  obtain ⟨cells, h1, h2, h3⟩ := h
  obtain ⟨cells', q1, q2⟩ := h1.ks k
  refine ⟨cells', q1, by rw [← q2.1]; exact h2, fun y hy => ?_⟩
  obtain ⟨j, hj, rfl⟩ := List.getElem_of_mem hy
  have hj' : j < cells.length := by rw [q2.1]; exact hj
  have hx : cells[j]? = some cells[j] := List.getElem?_eq_getElem hj'
  exact (q2.2 j _ _ hx (List.getElem?_eq_getElem hj)).i (h3 _ (List.getElem_mem _))
mutual
def ShF (w : World) (R : Nat → Prop) : Mx.Form → List Value → Prop
  | ⟨_, _, _, sc, kids⟩, vs => ∃ x1 x2 x3 x4 x5, vs = [x1, x2, x3, x4, x5] ∧ isI x1 ∧ isS x2 ∧ isI x3 ∧ ShI w R sc.length x4 ∧ ∃ cells, RowAt w R x5 kids.length cells ∧ ShFl w R kids cells
def ShFl (w : World) (R : Nat → Prop) : List Mx.Form → List Value → Prop
  | [], cells => cells = []
  | f :: r, cells => ∃ c1 c2, cells = c1 ++ c2 ∧ ShF w R f c1 ∧ ShFl w R r c2
end
mutual
def ShC (w : World) (R : Nat → Prop) : Mx.Core → List Value → Prop
  | ⟨_, _, _, _, ids, d, kids⟩, vs => ∃ x1 x2 x3 x4 x5 c x7, vs = [x1, x2, x3, x4, x5] ++ c ++ [x7] ∧ isI x1 ∧ isI x2 ∧ isS x3 ∧ isI x4 ∧ ShI w R ids.length x5 ∧ ShF w R d c ∧ ∃ cells, RowAt w R x7 kids.length cells ∧ ShCl w R kids cells
def ShCl (w : World) (R : Nat → Prop) : List Mx.Core → List Value → Prop
  | [], cells => cells = []
  | f :: r, cells => ∃ c1 c2, cells = c1 ++ c2 ∧ ShC w R f c1 ∧ ShCl w R r c2
end
theorem KEs.refl (l : List Value) : KEs l l := ⟨rfl, fun j x y hx hy => by rw [hx] at hy; cases hy; exact .refl x⟩
theorem KEs.app : ∀ {a b m : List Value}, KEs (a ++ b) m → ∃ a' b', m = a' ++ b' ∧ KEs a a' ∧ KEs b b'
  | [], b, m, h => ⟨[], m, rfl, KEs.refl _, h⟩
  | x :: a, b, m, h => by
    obtain ⟨y, l', rfl, h1, h2⟩ := KEs.cons (l := a ++ b) h
    obtain ⟨a', b', rfl, h3, h4⟩ := KEs.app h2
    exact ⟨y :: a', b', rfl, ⟨by simp [h3.1], fun j p q hp hq => by
      cases j with
      | zero => simp at hp hq; subst hp; subst hq; exact h1
      | succ j => exact h3.2 j p q (by simpa using hp) (by simpa using hq)⟩, h4⟩
theorem KE.row {w : World} {R : Nat → Prop} {n : Nat} {v v' : Value} {cells : List Value} (h : RowAt w R v n cells) (k : KE v v') : v' = v := by
  obtain ⟨a, cap, rfl, _⟩ := h; exact k.sl
theorem KE.shi {w : World} {R : Nat → Prop} {n : Nat} {v v' : Value} (h : ShI w R n v) (k : KE v v') : v' = v := by
  obtain ⟨c, h, _⟩ := h; exact k.row h
mutual
theorem ShF.ks {R R' : Nat → Prop} {w w' : World} (k : KS R' w w') : ∀ {f : Mx.Form} {vs vs' : List Value}, ShF w R f vs → KEs vs vs' → ShF w' R f vs'
  | ⟨_, _, _, sc, kids⟩, vs, vs', h, e => by
    rw [ShF] at h
    obtain ⟨x1, x2, x3, x4, x5, rfl, h1, h2, h3, h4, cells, h5, h6⟩ := h
    obtain ⟨y1, l1, rfl, e1, e⟩ := e.cons
    obtain ⟨y2, l2, rfl, e2, e⟩ := e.cons
    obtain ⟨y3, l3, rfl, e3, e⟩ := e.cons
    obtain ⟨y4, l4, rfl, e4, e⟩ := e.cons
    obtain ⟨y5, l5, rfl, e5, e⟩ := e.cons
    cases e.nil
    cases e4.shi h4
    cases e5.row h5
    obtain ⟨cells', q1, q2⟩ := h5.ks k
    rw [ShF]
    exact ⟨y1, y2, y3, x4, x5, rfl, e1.i h1, e2.s h2, e3.i h3, h4.ks k, cells', q1, ShFl.ks k h6 q2⟩
theorem ShFl.ks {R R' : Nat → Prop} {w w' : World} (k : KS R' w w') : ∀ {fs : List Mx.Form} {vs vs' : List Value}, ShFl w R fs vs → KEs vs vs' → ShFl w' R fs vs'
  | [], vs, vs', h, e => by rw [ShFl] at h ⊢; subst h; exact e.nil
  | f :: r, vs, vs', h, e => by
    rw [ShFl] at h
    obtain ⟨c1, c2, rfl, h1, h2⟩ := h
    obtain ⟨d1, d2, rfl, e1, e2⟩ := e.app
    rw [ShFl]
    exact ⟨d1, d2, rfl, ShF.ks k h1 e1, ShFl.ks k h2 e2⟩
end
mutual
theorem ShC.ks {R R' : Nat → Prop} {w w' : World} (k : KS R' w w') : ∀ {f : Mx.Core} {vs vs' : List Value}, ShC w R f vs → KEs vs vs' → ShC w' R f vs'
  | ⟨_, _, _, _, ids, d, kids⟩, vs, vs', h, e => by
    rw [ShC] at h
    obtain ⟨x1, x2, x3, x4, x5, c, x7, rfl, h1, h2, h3, h4, h5, h6, cells, h7, h8⟩ := h
    obtain ⟨y1, l1, rfl, e1, e⟩ := e.cons
    obtain ⟨y2, l2, rfl, e2, e⟩ := KEs.cons (l := [x3, x4, x5] ++ c ++ [x7]) e
    obtain ⟨y3, l3, rfl, e3, e⟩ := KEs.cons (l := [x4, x5] ++ c ++ [x7]) e
    obtain ⟨y4, l4, rfl, e4, e⟩ := KEs.cons (l := [x5] ++ c ++ [x7]) e
    obtain ⟨y5, l5, rfl, e5, e⟩ := KEs.cons (l := c ++ [x7]) e
    obtain ⟨c', l6, rfl, e6, e⟩ := e.app
    obtain ⟨y7, l7, rfl, e7, e⟩ := e.cons
    cases e.nil
    cases e5.shi h5
    cases e7.row h7
    obtain ⟨cells', q1, q2⟩ := h7.ks k
    rw [ShC]
    exact ⟨y1, y2, y3, y4, x5, c', x7, rfl, e1.i h1, e2.i h2, e3.s h3, e4.i h4, h5.ks k, ShF.ks k h6 e6, cells', q1, ShCl.ks k h8 q2⟩
theorem ShCl.ks {R R' : Nat → Prop} {w w' : World} (k : KS R' w w') : ∀ {fs : List Mx.Core} {vs vs' : List Value}, ShCl w R fs vs → KEs vs vs' → ShCl w' R fs vs'
  | [], vs, vs', h, e => by rw [ShCl] at h ⊢; subst h; exact e.nil
  | f :: r, vs, vs', h, e => by
    rw [ShCl] at h
    obtain ⟨c1, c2, rfl, h1, h2⟩ := h
    obtain ⟨d1, d2, rfl, e1, e2⟩ := e.app
    rw [ShCl]
    exact ⟨d1, d2, rfl, ShC.ks k h1 e1, ShCl.ks k h2 e2⟩
end
/-- An element of a row of forms: its five cells. -/
def ElF (w : World) (R : Nat → Prop) (f : Mx.Form) (x4 x5 : Value) (g p : Nat) : Prop :=
  (∃ x, w.cell? ⟨g, p, none⟩ = some (.int .i64 x)) ∧ (∃ x, w.cell? ⟨g, p + 1, none⟩ = some (.string x)) ∧ (∃ x, w.cell? ⟨g, p + 2, none⟩ = some (.int .i64 x)) ∧ w.cell? ⟨g, p + 3, none⟩ = some x4 ∧ w.cell? ⟨g, p + 4, none⟩ = some x5 ∧
  w.frozen? ⟨g, p, none⟩ = false ∧ w.frozen? ⟨g, p + 1, none⟩ = false ∧ w.frozen? ⟨g, p + 2, none⟩ = false ∧
  ShI w R f.scopes.length x4 ∧ ∃ cells, RowAt w R x5 f.kids.length cells ∧ ShFl w R f.kids cells
theorem KE.i' {i : Int} {y : Value} (h : KE (.int .i64 i) y) : ∃ j, y = .int .i64 j := h.i ⟨_, rfl⟩
theorem KE.s' {i : ByteArray} {y : Value} (h : KE (.string i) y) : ∃ j, y = .string j := h.s ⟨_, rfl⟩
theorem ElF.ks {w w' : World} {R R' : Nat → Prop} {f : Mx.Form} {x4 x5 : Value} {g p : Nat} (h : ElF w R f x4 x5 g p) (k : KS R' w w') : ElF w' R f x4 x5 g p := by
  obtain ⟨⟨x1, c1⟩, ⟨x2, c2⟩, ⟨x3, c3⟩, c4, c5, f1, f2, f3, h4, cells, h5, h6⟩ := h
  obtain ⟨y1, d1, e1⟩ := k.cell _ _ _ c1
  obtain ⟨y2, d2, e2⟩ := k.cell _ _ _ c2
  obtain ⟨y3, d3, e3⟩ := k.cell _ _ _ c3
  obtain ⟨y4, d4, e4⟩ := k.cell _ _ _ c4
  obtain ⟨y5, d5, e5⟩ := k.cell _ _ _ c5
  obtain ⟨i1, rfl⟩ := e1.i'
  obtain ⟨i2, rfl⟩ := e2.s'
  obtain ⟨i3, rfl⟩ := e3.i'
  cases e4.shi h4
  cases e5.row h5
  obtain ⟨cells', q1, q2⟩ := h5.ks k
  have hb := cell_lt c1
  exact ⟨⟨_, d1⟩, ⟨_, d2⟩, ⟨_, d3⟩, d4, d5, (k.fz _ _ hb).trans f1, (k.fz _ _ hb).trans f2, (k.fz _ _ hb).trans f3, h4.ks k, cells', q1, ShFl.ks k h6 q2⟩
theorem ShF.len {w : World} {R : Nat → Prop} {f : Mx.Form} {vs : List Value} (h : ShF w R f vs) : vs.length = 5 := by
  obtain ⟨_, _, _, _, _⟩ := f
  rw [ShF] at h
  obtain ⟨x1, x2, x3, x4, x5, rfl, _⟩ := h
  rfl
theorem ShFl.el {w : World} {R : Nat → Prop} : ∀ {fs : List Mx.Form} {vs : List Value} {g o : Nat} (h : ShFl w R fs vs) (hc : ∀ (j : Nat) x, vs[j]? = some x → w.cell? ⟨g, o + j, none⟩ = some x ∧ w.frozen? ⟨g, o + j, none⟩ = false)
    {i : Nat} {f : Mx.Form} (hi : fs[i]? = some f), ∃ x4 x5, ElF w R f x4 x5 g (o + 5 * i)
  | [], vs, g, o, h, hc, i, f, hi => by simp at hi
  | f0 :: r, vs, g, o, h, hc, i, f, hi => by
    rw [ShFl] at h
    obtain ⟨c1, c2, rfl, h1, h2⟩ := h
    have hl := h1.len
    cases i with
    | zero =>
      simp at hi; subst hi
      obtain ⟨_, _, _, sc, kids⟩ := f0
      rw [ShF] at h1
      obtain ⟨x1, x2, x3, x4, x5, rfl, ⟨i1, rfl⟩, ⟨i2, rfl⟩, ⟨i3, rfl⟩, h4, cells, h5, h6⟩ := h1
      have q0 := hc 0 _ rfl
      have q1 := hc 1 _ rfl
      have q2 := hc 2 _ rfl
      exact ⟨x4, x5, ⟨i1, q0.1⟩, ⟨i2, q1.1⟩, ⟨i3, q2.1⟩, (hc 3 _ rfl).1, (hc 4 _ rfl).1, q0.2, q1.2, q2.2, h4, cells, h5, h6⟩
    | succ i =>
      obtain ⟨x4, x5, h⟩ := ShFl.el (o := o + 5) h2 (fun j x hx => by
        have := hc (5 + j) x (by rw [List.getElem?_append_right (by omega), hl, Nat.add_sub_cancel_left]; exact hx)
        rwa [show o + (5 + j) = o + 5 + j by omega] at this) (i := i) (f := f) (by simpa using hi)
      exact ⟨x4, x5, by rwa [show o + 5 * (i + 1) = o + 5 + 5 * i by omega]⟩
mutual
/-- How many marks there are below a form, its own three apart. -/
def cntF : Mx.Form → Nat
  | ⟨_, _, _, sc, kids⟩ => sc.length + cntFs kids
def cntFs : List Mx.Form → Nat
  | [] => 0
  | f :: r => 3 + cntF f + cntFs r
end
theorem cntFs_app : ∀ (a b : List Mx.Form), cntFs (a ++ b) = cntFs a + cntFs b
  | [], b => by simp [cntFs]
  | f :: a, b => by simp only [List.cons_append, cntFs, cntFs_app a b]; omega
theorem cntFs_take {fs : List Mx.Form} {i : Nat} {f : Mx.Form} (h : fs[i]? = some f) : cntFs (fs.take (i + 1)) = cntFs (fs.take i) + 3 + f.scopes.length + cntFs f.kids := by
  obtain ⟨hi, rfl⟩ := List.getElem?_eq_some_iff.1 h
  rw [List.take_succ_eq_append_getElem hi, cntFs_app]
  simp only [cntFs, Nat.add_zero]
  have : ∀ f : Mx.Form, cntF f = f.scopes.length + cntFs f.kids := fun f => by cases f; rfl
  rw [this]; omega
theorem cntFs_le (fs : List Mx.Form) (i : Nat) : cntFs (fs.take i) ≤ cntFs fs := by
  have := cntFs_app (fs.take i) (fs.drop i)
  rw [List.take_append_drop] at this; omega
/-- An element of a row of cores: its eleven cells. -/
def ElC (w : World) (R : Nat → Prop) (c : Mx.Core) (x5 y4 y5 x7 : Value) (g p : Nat) : Prop :=
  ((∃ x, w.cell? ⟨g, p, none⟩ = some (.int .i64 x)) ∧ w.frozen? ⟨g, p, none⟩ = false) ∧ ((∃ x, w.cell? ⟨g, p + 1, none⟩ = some (.int .i64 x)) ∧ w.frozen? ⟨g, p + 1, none⟩ = false) ∧ ((∃ x, w.cell? ⟨g, p + 2, none⟩ = some (.string x)) ∧ w.frozen? ⟨g, p + 2, none⟩ = false) ∧
  ((∃ x, w.cell? ⟨g, p + 3, none⟩ = some (.int .i64 x)) ∧ w.frozen? ⟨g, p + 3, none⟩ = false) ∧ (w.cell? ⟨g, p + 4, none⟩ = some x5 ∧ ShI w R c.ids.length x5) ∧ ElF w R c.data y4 y5 g (p + 5) ∧
  (w.cell? ⟨g, p + 10, none⟩ = some x7 ∧ ∃ cells, RowAt w R x7 c.kids.length cells ∧ ShCl w R c.kids cells)
theorem ksI {w w' : World} {R' : Nat → Prop} {g p : Nat} (h : (∃ x, w.cell? ⟨g, p, none⟩ = some (.int .i64 x)) ∧ w.frozen? ⟨g, p, none⟩ = false) (k : KS R' w w') : (∃ x, w'.cell? ⟨g, p, none⟩ = some (.int .i64 x)) ∧ w'.frozen? ⟨g, p, none⟩ = false := by
  obtain ⟨⟨x, c⟩, f⟩ := h
  obtain ⟨y, d, e⟩ := k.cell _ _ _ c
  obtain ⟨i, rfl⟩ := e.i'
  exact ⟨⟨_, d⟩, (k.fz _ _ (cell_lt c)).trans f⟩
theorem ksS {w w' : World} {R' : Nat → Prop} {g p : Nat} (h : (∃ x, w.cell? ⟨g, p, none⟩ = some (.string x)) ∧ w.frozen? ⟨g, p, none⟩ = false) (k : KS R' w w') : (∃ x, w'.cell? ⟨g, p, none⟩ = some (.string x)) ∧ w'.frozen? ⟨g, p, none⟩ = false := by
  obtain ⟨⟨x, c⟩, f⟩ := h
  obtain ⟨y, d, e⟩ := k.cell _ _ _ c
  obtain ⟨i, rfl⟩ := e.s'
  exact ⟨⟨_, d⟩, (k.fz _ _ (cell_lt c)).trans f⟩
theorem ElC.ks {w w' : World} {R R' : Nat → Prop} {f : Mx.Core} {x5 y4 y5 x7 : Value} {g p : Nat} (h : ElC w R f x5 y4 y5 x7 g p) (k : KS R' w w') : ElC w' R f x5 y4 y5 x7 g p := by
  obtain ⟨h1, h2, h3, h4, ⟨c5, h5⟩, h6, c7, cells, h7, h8⟩ := h
  obtain ⟨z5, d5, e5⟩ := k.cell _ _ _ c5
  obtain ⟨z7, d7, e7⟩ := k.cell _ _ _ c7
  cases e5.shi h5
  cases e7.row h7
  obtain ⟨cells', q1, q2⟩ := h7.ks k
  exact ⟨ksI h1 k, ksI h2 k, ksS h3 k, ksI h4 k, ⟨d5, h5.ks k⟩, h6.ks k, d7, cells', q1, ShCl.ks k h8 q2⟩
theorem ShC.len {w : World} {R : Nat → Prop} {f : Mx.Core} {vs : List Value} (h : ShC w R f vs) : vs.length = 11 := by
  obtain ⟨_, _, _, _, _, _, _⟩ := f
  rw [ShC] at h
  obtain ⟨x1, x2, x3, x4, x5, c, x7, rfl, _, _, _, _, _, h, _⟩ := h
  simp [h.len]
theorem ShCl.el {w : World} {R : Nat → Prop} : ∀ {fs : List Mx.Core} {vs : List Value} {g o : Nat} (h : ShCl w R fs vs) (hc : ∀ (j : Nat) x, vs[j]? = some x → w.cell? ⟨g, o + j, none⟩ = some x ∧ w.frozen? ⟨g, o + j, none⟩ = false)
    {i : Nat} {f : Mx.Core} (hi : fs[i]? = some f), ∃ x5 y4 y5 x7, ElC w R f x5 y4 y5 x7 g (o + 11 * i)
  | [], vs, g, o, h, hc, i, f, hi => by simp at hi
  | f0 :: r, vs, g, o, h, hc, i, f, hi => by
    rw [ShCl] at h
    obtain ⟨c1, c2, rfl, h1, h2⟩ := h
    have hl := h1.len
    cases i with
    | zero =>
      simp at hi; subst hi
      obtain ⟨_, _, _, _, ids, d, kids⟩ := f0
      rw [ShC] at h1
      obtain ⟨x1, x2, x3, x4, x5, c, x7, rfl, ⟨i1, rfl⟩, ⟨i2, rfl⟩, ⟨i3, rfl⟩, ⟨i4, rfl⟩, h5, h6, cells, h7, h8⟩ := h1
      obtain ⟨_, _, _, sc, dk⟩ := d
      rw [ShF] at h6
      obtain ⟨z1, z2, z3, z4, z5, rfl, ⟨j1, rfl⟩, ⟨j2, rfl⟩, ⟨j3, rfl⟩, k4, cells2, k5, k6⟩ := h6
      have q0 := hc 0 _ rfl
      have q1 := hc 1 _ rfl
      have q2 := hc 2 _ rfl
      have q3 := hc 3 _ rfl
      have q5 := hc 5 _ rfl
      have q6 := hc 6 _ rfl
      have q7 := hc 7 _ rfl
      exact ⟨x5, z4, z5, x7, ⟨⟨i1, q0.1⟩, q0.2⟩, ⟨⟨i2, q1.1⟩, q1.2⟩, ⟨⟨i3, q2.1⟩, q2.2⟩, ⟨⟨i4, q3.1⟩, q3.2⟩, ⟨(hc 4 _ rfl).1, h5⟩,
        ⟨⟨j1, q5.1⟩, ⟨j2, q6.1⟩, ⟨j3, q7.1⟩, (hc 8 _ rfl).1, (hc 9 _ rfl).1, q5.2, q6.2, q7.2, k4, cells2, k5, k6⟩, (hc 10 _ rfl).1, cells, h7, h8⟩
    | succ i =>
      obtain ⟨x5, y4, y5, x7, h⟩ := ShCl.el (o := o + 11) h2 (fun j x hx => by
        have := hc (11 + j) x (by rw [List.getElem?_append_right (by omega), hl, Nat.add_sub_cancel_left]; exact hx)
        rwa [show o + (11 + j) = o + 11 + j by omega] at this) (i := i) (f := f) (by simpa using hi)
      exact ⟨x5, y4, y5, x7, by rwa [show o + 11 * (i + 1) = o + 11 + 11 * i by omega]⟩
mutual
def cntC : Mx.Core → Nat
  | ⟨_, _, _, _, ids, d, kids⟩ => ids.length + cntF d + cntCs kids
def cntCs : List Mx.Core → Nat
  | [] => 0
  | f :: r => 7 + cntC f + cntCs r
end
theorem cntCs_app : ∀ (a b : List Mx.Core), cntCs (a ++ b) = cntCs a + cntCs b
  | [], b => by simp [cntCs]
  | f :: a, b => by simp only [List.cons_append, cntCs, cntCs_app a b]; omega
theorem cntF_eq (f : Mx.Form) : cntF f = f.scopes.length + cntFs f.kids := by cases f; rfl
theorem cntC_eq (f : Mx.Core) : cntC f = f.ids.length + cntF f.data + cntCs f.kids := by cases f; rfl
theorem cntCs_take {fs : List Mx.Core} {i : Nat} {f : Mx.Core} (h : fs[i]? = some f) : cntCs (fs.take (i + 1)) = cntCs (fs.take i) + 7 + f.ids.length + f.data.scopes.length + cntFs f.data.kids + cntCs f.kids := by
  obtain ⟨hi, rfl⟩ := List.getElem?_eq_some_iff.1 h
  rw [List.take_succ_eq_append_getElem hi, cntCs_app]
  simp only [cntCs, Nat.add_zero, cntC_eq, cntF_eq]
  omega
theorem cntCs_le (fs : List Mx.Core) (i : Nat) : cntCs (fs.take i) ≤ cntCs fs := by
  have := cntCs_app (fs.take i) (fs.drop i)
  rw [List.take_append_drop] at this; omega
theorem RowAt.set {w : World} {R : Nat → Prop} {g o n cap : Nat} {cells : List Value} (h : RowAt w R (.slice (some ⟨g, o, none⟩) n cap) n cells) {i : Nat} (hi : i < cells.length) (x : Value) : RowAt (w.setCell ⟨g, o + i, none⟩ x) R (.slice (some ⟨g, o, none⟩) n cap) n (cells.set i x) := by
  obtain ⟨a, cap', e, h1, h2, h3⟩ := h
  cases e
  refine ⟨_, cap, rfl, h1, h2, fun _ => ?_⟩
  obtain ⟨g', o', e, hg, hc⟩ := h3 (by intro h; subst h; simp at hi)
  cases e
  refine ⟨g, o, rfl, hg, fun j y hy => ?_⟩
  obtain ⟨c0, f0⟩ := hc i _ (List.getElem?_eq_getElem hi)
  by_cases hj : i = j
  · subst hj
    rw [List.getElem?_set_self hi] at hy; cases hy
    exact ⟨World.cell?_setCell_same _ _ _ c0, by rw [World.frozen?_setCell]; exact f0⟩
  · rw [List.getElem?_set_ne hj] at hy
    obtain ⟨c', f'⟩ := hc j y hy
    exact ⟨by rw [World.cell?_setCell_other _ _ _ _ (fun e => hj (by have := congrArg Addr.off e; simpa using this))]; exact c', by rw [World.frozen?_setCell]; exact f'⟩
/-- The marks from k on. -/
def marks (k : Int) (n : Nat) : List Int := (List.range n).map fun j : Nat => k + (j : Int)
theorem marks_all {k : Int} {n : Nat} {l : List Value} (hl : l.length = n) (h : ∀ j, j < n → l[j]? = some (.int .i64 (k + j))) : l = (marks k n).map (Value.int .i64) := by
  apply List.ext_getElem?
  intro j
  by_cases hj : j < n
  · rw [h j hj, marks, List.map_map, List.getElem?_map, List.getElem?_range hj]; rfl
  · rw [List.getElem?_eq_none (by omega), List.getElem?_eq_none (by simp [marks]; omega)]
end Go.Raw
