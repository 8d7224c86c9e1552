/- New trees of rows: what they hold, how they are read. No condition. -/
import Derived.Test.YtomehndhbihfiaaGreatDoorRawA
namespace Go.Raw
open Go.Mx Go.RowKit
set_option linter.unusedVariables false
/-- From a block on. -/
def Ge (base : Nat) : Nat → Prop := fun b => base ≤ b
def ints (l : List Int) : List Value := l.map (Value.int .i64)
/-- What lies from a block on is the same. -/
def Same (base : Nat) (w w' : World) : Prop := ∀ b o x, base ≤ b → w.cell? ⟨b, o, none⟩ = some x → w'.cell? ⟨b, o, none⟩ = some x ∧ w'.frozen? ⟨b, o, none⟩ = w.frozen? ⟨b, o, none⟩
theorem Same.of_below {base : Nat} {w w' : World} (h : Below w.heap.size w w') : Same base w w' := fun b o x hb hx => by
  have hlt := cell_lt hx
  exact ⟨(h.cell (p := ⟨b, o, none⟩) hlt).trans hx, h.frozen (p := ⟨b, o, none⟩) hlt⟩
theorem RowAt.same {base b0 : Nat} {w w' : World} {v : Value} {n : Nat} {cells : List Value} (h : RowAt w (Ge base) v n cells) (k : Same b0 w w') (hb : b0 ≤ base) : RowAt w' (Ge base) v n cells := by
  obtain ⟨a, cap, rfl, h1, h2, h3⟩ := h
  refine ⟨a, cap, rfl, h1, h2, fun hn => ?_⟩
  obtain ⟨g, o, rfl, hg, hc⟩ := h3 hn
  have hg' : b0 ≤ g := Nat.le_trans hb hg
  exact ⟨g, o, rfl, hg, fun j x hx => ⟨(k _ _ _ hg' (hc j x hx).1).1, (k _ _ _ hg' (hc j x hx).1).2.trans (hc j x hx).2⟩⟩
theorem RowAt.mono {base b0 : Nat} {w : World} {v : Value} {n : Nat} {cells : List Value} (h : RowAt w (Ge base) v n cells) (hb : b0 ≤ base) : RowAt w (Ge b0) v n cells := by
  obtain ⟨a, cap, rfl, h1, h2, h3⟩ := h
  refine ⟨a, cap, rfl, h1, h2, fun hn => ?_⟩
  obtain ⟨g, o, rfl, hg, hc⟩ := h3 hn
  exact ⟨g, o, rfl, Nat.le_trans hb hg, hc⟩
mutual
def VF (w : World) (base : Nat) : Mx.Form → List Value → Prop
  | ⟨k, nm, n, sc, kids⟩, vs => ∃ x4 x5, vs = [.int .i64 k, .string nm, .int .i64 n, x4, x5] ∧ RowAt w (Ge base) x4 sc.length (ints sc) ∧ ∃ cells, RowAt w (Ge base) x5 kids.length cells ∧ VFl w base kids cells
def VFl (w : World) (base : Nat) : List Mx.Form → List Value → Prop
  | [], cells => cells = []
  | f :: r, cells => ∃ c1 c2, cells = c1 ++ c2 ∧ VF w base f c1 ∧ VFl w base r c2
end
mutual
def VC (w : World) (base : Nat) : Mx.Core → List Value → Prop
  | ⟨k, id, nm, n, ids, d, kids⟩, vs => ∃ x5 c x7, vs = [.int .i64 k, .int .i64 id, .string nm, .int .i64 n, x5] ++ c ++ [x7] ∧ RowAt w (Ge base) x5 ids.length (ints ids) ∧ VF w base d c ∧ ∃ cells, RowAt w (Ge base) x7 kids.length cells ∧ VCl w base kids cells
def VCl (w : World) (base : Nat) : List Mx.Core → List Value → Prop
  | [], cells => cells = []
  | f :: r, cells => ∃ c1 c2, cells = c1 ++ c2 ∧ VC w base f c1 ∧ VCl w base r c2
end
mutual
theorem VF.same {b0 base b1 : Nat} {w w' : World} (k : Same b0 w w') (hb : b0 ≤ base) (h1 : b1 ≤ base) : ∀ {f : Mx.Form} {vs : List Value}, VF w base f vs → VF w' b1 f vs
  | ⟨_, _, _, sc, kids⟩, vs, h => by
    rw [VF] at h ⊢
    obtain ⟨x4, x5, rfl, q1, cells, q2, q3⟩ := h
    exact ⟨x4, x5, rfl, (q1.same k hb).mono h1, cells, (q2.same k hb).mono h1, VFl.same k hb h1 q3⟩
theorem VFl.same {b0 base b1 : Nat} {w w' : World} (k : Same b0 w w') (hb : b0 ≤ base) (h1 : b1 ≤ base) : ∀ {fs : List Mx.Form} {vs : List Value}, VFl w base fs vs → VFl w' b1 fs vs
  | [], vs, h => by rw [VFl] at h ⊢; exact h
  | f :: r, vs, h => by
    rw [VFl] at h ⊢
    obtain ⟨c1, c2, rfl, q1, q2⟩ := h
    exact ⟨c1, c2, rfl, VF.same k hb h1 q1, VFl.same k hb h1 q2⟩
end
mutual
theorem VC.same {b0 base b1 : Nat} {w w' : World} (k : Same b0 w w') (hb : b0 ≤ base) (h1 : b1 ≤ base) : ∀ {f : Mx.Core} {vs : List Value}, VC w base f vs → VC w' b1 f vs
  | ⟨_, _, _, _, ids, d, kids⟩, vs, h => by
    rw [VC] at h ⊢
    obtain ⟨x5, c, x7, rfl, q1, q0, cells, q2, q3⟩ := h
    exact ⟨x5, c, x7, rfl, (q1.same k hb).mono h1, VF.same k hb h1 q0, cells, (q2.same k hb).mono h1, VCl.same k hb h1 q3⟩
theorem VCl.same {b0 base b1 : Nat} {w w' : World} (k : Same b0 w w') (hb : b0 ≤ base) (h1 : b1 ≤ base) : ∀ {fs : List Mx.Core} {vs : List Value}, VCl w base fs vs → VCl w' b1 fs vs
  | [], vs, h => by rw [VCl] at h ⊢; exact h
  | f :: r, vs, h => by
    rw [VCl] at h ⊢
    obtain ⟨c1, c2, rfl, q1, q2⟩ := h
    exact ⟨c1, c2, rfl, VC.same k hb h1 q1, VCl.same k hb h1 q2⟩
end
/-- From a block on, and there already. -/
def In (base top : Nat) : Nat → Prop := fun b => base ≤ b ∧ b < top
theorem RowAt.isin {w : World} {base : Nat} {v : Value} {n : Nat} {cells : List Value} (h : RowAt w (Ge base) v n cells) : RowAt w (In base w.heap.size) v n cells := by
  obtain ⟨a, cap, rfl, h1, h2, h3⟩ := h
  refine ⟨a, cap, rfl, h1, h2, fun hn => ?_⟩
  obtain ⟨g, o, rfl, hg, hc⟩ := h3 hn
  cases cells with
  | nil => exact absurd rfl hn
  | cons x l => exact ⟨g, o, rfl, ⟨hg, cell_lt (hc 0 x rfl).1⟩, hc⟩
theorem ints_sh {w : World} {base : Nat} {v : Value} {l : List Int} (h : RowAt w (Ge base) v l.length (ints l)) : ShI w (In base w.heap.size) l.length v :=
  ⟨_, h.isin, by simp [ints], fun x hx => by
    simp only [ints, List.mem_map] at hx
    obtain ⟨i, _, rfl⟩ := hx
    exact ⟨i, rfl⟩⟩
mutual
theorem VF.sh {w : World} {base : Nat} : ∀ {f : Mx.Form} {vs : List Value}, VF w base f vs → ShF w (In base w.heap.size) f vs
  | ⟨_, _, _, sc, kids⟩, vs, h => by
    rw [VF] at h; rw [ShF]
    obtain ⟨x4, x5, rfl, q1, cells, q2, q3⟩ := h
    exact ⟨_, _, _, x4, x5, rfl, ⟨_, rfl⟩, ⟨_, rfl⟩, ⟨_, rfl⟩, ints_sh q1, cells, q2.isin, VFl.sh q3⟩
theorem VFl.sh {w : World} {base : Nat} : ∀ {fs : List Mx.Form} {vs : List Value}, VFl w base fs vs → ShFl w (In base w.heap.size) fs vs
  | [], vs, h => by rw [VFl] at h; rw [ShFl]; exact h
  | f :: r, vs, h => by
    rw [VFl] at h; rw [ShFl]
    obtain ⟨c1, c2, rfl, q1, q2⟩ := h
    exact ⟨c1, c2, rfl, VF.sh q1, VFl.sh q2⟩
end
mutual
theorem VC.sh {w : World} {base : Nat} : ∀ {f : Mx.Core} {vs : List Value}, VC w base f vs → ShC w (In base w.heap.size) f vs
  | ⟨_, _, _, _, ids, d, kids⟩, vs, h => by
    rw [VC] at h; rw [ShC]
    obtain ⟨x5, c, x7, rfl, q1, q0, cells, q2, q3⟩ := h
    exact ⟨_, _, _, _, x5, c, x7, rfl, ⟨_, rfl⟩, ⟨_, rfl⟩, ⟨_, rfl⟩, ⟨_, rfl⟩, ints_sh q1, q0.sh, cells, q2.isin, VCl.sh q3⟩
theorem VCl.sh {w : World} {base : Nat} : ∀ {fs : List Mx.Core} {vs : List Value}, VCl w base fs vs → ShCl w (In base w.heap.size) fs vs
  | [], vs, h => by rw [VCl] at h; rw [ShCl]; exact h
  | f :: r, vs, h => by
    rw [VCl] at h; rw [ShCl]
    obtain ⟨c1, c2, rfl, q1, q2⟩ := h
    exact ⟨c1, c2, rfl, VC.sh q1, VCl.sh q2⟩
end
theorem row_rd {w : World} {base sz : Nat} {v : Value} {cells : List Value} {xs : List (List D)} {tok : Tok} (h : RowAt w (Ge base) v xs.length cells) (hz : 0 < sz) (hs : ∀ (i : Nat) cs, xs[i]? = some cs → cs.length = sz) (ht : tok = .ro)
    (hc : ∀ (i j : Nat) cs d, xs[i]? = some cs → cs[j]? = some d → ∃ y, cells[i * sz + j]? = some y ∧ Rd cx0 w d y) : Rd cx0 w (.sl sz tok xs) v := by
  obtain ⟨a, cap, rfl, h1, h2, h3⟩ := h
  subst ht
  by_cases hn : cells = []
  · subst hn
    exact rd_sl_mk (0, 0) [] h1 h2 hs (fun hx => by
      exfalso
      cases xs with
      | nil => exact hx rfl
      | cons c r =>
        cases c with
        | nil => have := hs 0 _ rfl; simp at this; omega
        | cons d c => obtain ⟨y, hy, _⟩ := hc 0 0 _ d rfl rfl; simp at hy) (by simp) hc trivial
  · obtain ⟨g, o, rfl, hg, hcc⟩ := h3 hn
    exact rd_sl_mk (g, o) cells h1 h2 hs (fun _ => rfl) (fun q y hq => ⟨(hcc q y hq).1, fun h => h⟩) hc trivial
theorem VF.len {w : World} {base : Nat} {f : Mx.Form} {vs : List Value} (h : VF w base f vs) : vs.length = 5 := h.sh.len
theorem VC.len {w : World} {base : Nat} {f : Mx.Core} {vs : List Value} (h : VC w base f vs) : vs.length = 11 := h.sh.len
theorem ints_rd {w : World} {base : Nat} {v : Value} {l : List Int} (h : RowAt w (Ge base) v l.length (ints l)) : Rd cx0 w (.sl 1 .ro (intsD l)) v := by
  rw [← intsD_length l] at h
  refine row_rd h (by decide) (fun i cs hi => ?_) rfl (fun i j cs d hi hj => ?_)
  · rw [intsD_get, Option.map_eq_some_iff] at hi; obtain ⟨x, _, rfl⟩ := hi; rfl
  · rw [intsD_get, Option.map_eq_some_iff] at hi; obtain ⟨x, hx, rfl⟩ := hi
    cases j with
    | zero => simp at hj; subst hj; exact ⟨_, by simp [ints, hx], .v _⟩
    | succ j => simp at hj
theorem RdL.of {w : World} {ds : List D} {vs : List Value} (hl : ds.length = vs.length) (h : ∀ (j : Nat) d, ds[j]? = some d → ∃ y, vs[j]? = some y ∧ Rd cx0 w d y) : RdL cx0 w ds vs :=
  ⟨hl, fun j d x hd hx => by obtain ⟨y, hy, hr⟩ := h j d hd; rw [hx] at hy; cases hy; exact hr⟩
mutual
theorem VF.rd {w : World} {base : Nat} : ∀ {f : Mx.Form} {vs : List Value}, VF w base f vs → ∀ (j : Nat) d, (cForm f)[j]? = some d → ∃ y, vs[j]? = some y ∧ Rd cx0 w d y
  | ⟨k, nm, n, sc, kids⟩, vs, h, j, d, hd => by
    rw [VF] at h
    obtain ⟨x4, x5, rfl, q1, cells, q2, q3⟩ := h
    have r1 := ints_rd q1
    have r2 : Rd cx0 w (.sl 5 .ro (formsD kids)) x5 := by
      rw [← formsD_length kids] at q2
      exact row_rd q2 (by decide) (fun i cs hi => by rw [formsD_get, Option.map_eq_some_iff] at hi; obtain ⟨x, _, rfl⟩ := hi; rfl) rfl (VFl.rd q3)
    match j, hd with
    | 0, hd => cases hd; exact ⟨_, rfl, .v _⟩
    | 1, hd => cases hd; exact ⟨_, rfl, .v _⟩
    | 2, hd => cases hd; exact ⟨_, rfl, .v _⟩
    | 3, hd => cases hd; exact ⟨_, rfl, r1⟩
    | 4, hd => cases hd; exact ⟨_, rfl, r2⟩
    | j + 5, hd => simp [cForm] at hd
theorem VFl.rd {w : World} {base : Nat} : ∀ {fs : List Mx.Form} {cells : List Value}, VFl w base fs cells → ∀ (i j : Nat) cs d, (formsD fs)[i]? = some cs → cs[j]? = some d → ∃ y, cells[i * 5 + j]? = some y ∧ Rd cx0 w d y
  | [], cells, h, i, j, cs, d, hi, hj => by simp [formsD] at hi
  | f :: r, cells, h, i, j, cs, d, hi, hj => by
    rw [VFl] at h
    obtain ⟨c1, c2, rfl, h1, h2⟩ := h
    have hl := h1.len
    rw [formsD, formD_eq] at hi
    cases i with
    | zero =>
      simp at hi; subst hi
      obtain ⟨y, hy, hr⟩ := VF.rd h1 j d hj
      refine ⟨y, ?_, hr⟩
      rw [Nat.zero_mul, Nat.zero_add, List.getElem?_append_left ((List.getElem?_eq_some_iff.1 hy).1)]; exact hy
    | succ i =>
      obtain ⟨y, hy, hr⟩ := VFl.rd h2 i j cs d (by simpa using hi) hj
      refine ⟨y, ?_, hr⟩
      rw [List.getElem?_append_right (by omega), hl, show (i + 1) * 5 + j - 5 = i * 5 + j by omega]; exact hy
end
theorem VF.rdL {w : World} {base : Nat} {f : Mx.Form} {vs : List Value} (h : VF w base f vs) : RdL cx0 w (cForm f) vs := RdL.of (by rw [h.len]; rfl) h.rd
mutual
theorem VC.rd {w : World} {base : Nat} : ∀ {f : Mx.Core} {vs : List Value}, VC w base f vs → ∀ (j : Nat) d, (cCore f)[j]? = some d → ∃ y, vs[j]? = some y ∧ Rd cx0 w d y
  | ⟨k, id, nm, n, ids, dt, kids⟩, vs, h, j, d, hd => by
    rw [VC] at h
    obtain ⟨x5, c, x7, rfl, q1, q0, cells, q2, q3⟩ := h
    have r1 := ints_rd q1
    have r0 := q0.rd
    have hl := q0.len
    have r2 : Rd cx0 w (.sl 11 .ro (coresD kids)) x7 := by
      rw [← coresD_length kids] at q2
      exact row_rd q2 (by decide) (fun i cs hi => by rw [coresD_get, Option.map_eq_some_iff] at hi; obtain ⟨x, _, rfl⟩ := hi; rfl) rfl (VCl.rd q3)
    have hm : ∀ j d, (cForm dt)[j]? = some d → ∃ y, ([Value.int .i64 k, .int .i64 id, .string nm, .int .i64 n, x5] ++ c ++ [x7])[5 + j]? = some y ∧ Rd cx0 w d y := fun j d hd => by
      obtain ⟨y, hy, hr⟩ := r0 j d hd
      have hj := (List.getElem?_eq_some_iff.1 hy).1
      refine ⟨y, ?_, hr⟩
      rw [List.append_assoc, List.getElem?_append_right (by simp), List.getElem?_append_left (by simpa using hj)]
      simpa using hy
    match j, hd with
    | 0, hd => cases hd; exact ⟨_, rfl, .v _⟩
    | 1, hd => cases hd; exact ⟨_, rfl, .v _⟩
    | 2, hd => cases hd; exact ⟨_, rfl, .v _⟩
    | 3, hd => cases hd; exact ⟨_, rfl, .v _⟩
    | 4, hd => cases hd; exact ⟨_, rfl, r1⟩
    | 5, hd => exact hm 0 d hd
    | 6, hd => exact hm 1 d hd
    | 7, hd => exact hm 2 d hd
    | 8, hd => exact hm 3 d hd
    | 9, hd => exact hm 4 d hd
    | 10, hd => cases hd; exact ⟨x7, by rw [List.getElem?_append_right (by simp [hl])]; simp [hl], r2⟩
    | j + 11, hd => simp [cCore] at hd
theorem VCl.rd {w : World} {base : Nat} : ∀ {fs : List Mx.Core} {cells : List Value}, VCl w base fs cells → ∀ (i j : Nat) cs d, (coresD fs)[i]? = some cs → cs[j]? = some d → ∃ y, cells[i * 11 + j]? = some y ∧ Rd cx0 w d y
  | [], cells, h, i, j, cs, d, hi, hj => by simp [coresD] at hi
  | f :: r, cells, h, i, j, cs, d, hi, hj => by
    rw [VCl] at h
    obtain ⟨c1, c2, rfl, h1, h2⟩ := h
    have hl := h1.len
    rw [coresD, coreD_eq] at hi
    cases i with
    | zero =>
      simp at hi; subst hi
      obtain ⟨y, hy, hr⟩ := VC.rd h1 j d hj
      refine ⟨y, ?_, hr⟩
      rw [Nat.zero_mul, Nat.zero_add, List.getElem?_append_left ((List.getElem?_eq_some_iff.1 hy).1)]; exact hy
    | succ i =>
      obtain ⟨y, hy, hr⟩ := VCl.rd h2 i j cs d (by simpa using hi) hj
      refine ⟨y, ?_, hr⟩
      rw [List.getElem?_append_right (by omega), hl, show (i + 1) * 11 + j - 11 = i * 11 + j by omega]; exact hy
end
theorem VC.rdL {w : World} {base : Nat} {f : Mx.Core} {vs : List Value} (h : VC w base f vs) : RdL cx0 w (cCore f) vs := RdL.of (by rw [h.len]; rfl) h.rd
theorem VFl.app {w : World} {base : Nat} : ∀ {a b : List Mx.Form} {c d : List Value}, VFl w base a c → VFl w base b d → VFl w base (a ++ b) (c ++ d)
  | [], b, c, d, h, k => by rw [VFl] at h; subst h; exact k
  | f :: a, b, c, d, h, k => by
    rw [VFl] at h
    obtain ⟨c1, c2, rfl, h1, h2⟩ := h
    rw [List.cons_append, VFl, List.append_assoc]
    exact ⟨c1, c2 ++ d, rfl, h1, VFl.app h2 k⟩
theorem VCl.app {w : World} {base : Nat} : ∀ {a b : List Mx.Core} {c d : List Value}, VCl w base a c → VCl w base b d → VCl w base (a ++ b) (c ++ d)
  | [], b, c, d, h, k => by rw [VCl] at h; subst h; exact k
  | f :: a, b, c, d, h, k => by
    rw [VCl] at h
    obtain ⟨c1, c2, rfl, h1, h2⟩ := h
    rw [List.cons_append, VCl, List.append_assoc]
    exact ⟨c1, c2 ++ d, rfl, h1, VCl.app h2 k⟩
/-- What reads stays so where nothing old changes. -/
theorem rd_below {w w' : World} {d : D} {x : Value} (h : Rd cx0 w d x) (hb : Below w.heap.size w w') : Rd cx0 w' d x :=
  h.monoR (S := fun _ => true) (cx' := cx0) ⟨fun b h _ => hb.block b h, fun b o h _ => hb.cell (p := ⟨b, o, none⟩) h, fun _ _ _ h => h, fun _ _ _ h => (by cases h), fun _ _ _ _ h => (by cases h)⟩ (RelF.ext.all_true _)
structure Fill (w : World) (m : Nat) (cells : List Value) (wr : World) : Prop where
  below : Below w.heap.size w wr
  done : ∀ (j : Nat) x, cells[j]? = some x → wr.cell? ⟨w.heap.size, j, none⟩ = some x
  room : ∀ (j : Nat), j < m → ∃ x, wr.cell? ⟨w.heap.size, j, none⟩ = some x
  fz : ∀ (j : Nat), j < m → wr.frozen? ⟨w.heap.size, j, none⟩ = false
theorem Fill.start {w w1 : World} {base : Nat} {e : TypeId} {size n : Nat} {xs : List Value} (h : w1.ownsRow base e size (.slice (some ⟨w.heap.size, 0, none⟩) n n) n xs) (hg : w.grownBy w1 none) : Fill w (n * size) [] w1 := by
  obtain ⟨h1, h2⟩ := h
  rcases h2 with ⟨h2, _⟩ | ⟨g, cap, cur, h2, h3, h4, h5, h6, h7, h8⟩
  · cases h2
  · cases h2
    refine ⟨⟨hg.os, hg.tape, hg.output, hg.size, fun b hb => hg.block b hb (by simp)⟩, fun j x hx => by simp at hx, fun j hj => ?_, fun j hj => ?_⟩
    · exact ⟨cur[j]'(by omega), by simp only [World.cell?, h4]; exact Array.getElem?_eq_getElem (by omega)⟩
    · simp [World.frozen?, h4]
theorem Fill.lt {w wr : World} {m : Nat} {cells : List Value} (h : Fill w m cells wr) (hm : 0 < m) : w.heap.size < wr.heap.size := by
  obtain ⟨x, hx⟩ := h.room 0 hm; exact cell_lt hx
theorem Fill.grow {w wr w' : World} {m : Nat} {cells : List Value} (h : Fill w m cells wr) (k : Below wr.heap.size wr w') : Fill w m cells w' := by
  refine ⟨h.below.trans (k.mono h.below.size), fun j x hx => ?_, fun j hj => ?_, fun j hj => ?_⟩
  · have := h.done j x hx; exact (k.cell (p := ⟨_, _, none⟩) (cell_lt this)).trans this
  · obtain ⟨x, hx⟩ := h.room j hj; exact ⟨x, (k.cell (p := ⟨_, _, none⟩) (cell_lt hx)).trans hx⟩
  · obtain ⟨x, hx⟩ := h.room j hj; exact (k.frozen (p := ⟨_, _, none⟩) (cell_lt hx)).trans (h.fz j hj)
theorem Fill.put {w wr : World} {m : Nat} {cells : List Value} (h : Fill w m cells wr) {o : Nat} {x : Value} (ho : o = cells.length) (hm : o < m) : Fill w m (cells ++ [x]) (wr.setCell ⟨w.heap.size, o, none⟩ x) := by
  subst ho
  obtain ⟨y, hy⟩ := h.room _ hm
  have hs := World.cell?_setCell_same wr ⟨w.heap.size, cells.length, none⟩ x hy
  have hne : ∀ j, j ≠ cells.length → (⟨w.heap.size, cells.length, none⟩ : Addr) ≠ ⟨w.heap.size, j, none⟩ := fun j hj e => by cases e; exact hj rfl
  refine ⟨h.below.setCell (p := ⟨w.heap.size, _, none⟩) (Nat.le_refl _) x, fun j z hz => ?_, fun j hj => ?_, fun j hj => ?_⟩
  · by_cases hj : j = cells.length
    · subst hj; simp at hz; subst hz; exact hs
    · rw [World.cell?_setCell_other _ _ _ _ (hne j hj)]
      rw [List.getElem?_append] at hz
      split at hz
      · exact h.done j z hz
      · rename_i hlt
        rw [List.getElem?_eq_none (by simp; omega)] at hz; cases hz
  · by_cases hj' : j = cells.length
    · subst hj'; exact ⟨x, hs⟩
    · rw [World.cell?_setCell_other _ _ _ _ (hne j hj')]; exact h.room j hj
  · rw [World.frozen?_setCell]; exact h.fz j hj
theorem Fill.row {w wr : World} {m n : Nat} {cells : List Value} (h : Fill w m cells wr) (hl : cells.length = m) (hn : n ≤ maxLen) : RowAt wr (Ge w.heap.size) (.slice (some ⟨w.heap.size, 0, none⟩) n n) n cells :=
  ⟨_, n, rfl, Nat.le_refl _, hn, fun _ => ⟨_, 0, rfl, Nat.le_refl _, fun j x hx => by
    rw [Nat.zero_add]; exact ⟨h.done j x hx, h.fz j (by rw [← hl]; exact (List.getElem?_eq_some_iff.1 hx).1)⟩⟩⟩
def RowX (w : World) (g : Nat) (cells : List Value) : Prop := ∀ (j : Nat) x, cells[j]? = some x → w.cell? ⟨g, j, none⟩ = some x ∧ w.frozen? ⟨g, j, none⟩ = false
theorem RowX.below {w w' : World} {g : Nat} {cells : List Value} (h : RowX w g cells) (k : Below w.heap.size w w') : RowX w' g cells := fun j x hx => by
  obtain ⟨c, f⟩ := h j x hx
  have hlt := cell_lt c
  exact ⟨(k.cell (p := ⟨g, j, none⟩) hlt).trans c, (k.frozen (p := ⟨g, j, none⟩) hlt).trans f⟩
theorem RowX.set {w : World} {g : Nat} {cells : List Value} (h : RowX w g cells) {o : Nat} (ho : o < cells.length) (x : Value) : RowX (w.setCell ⟨g, o, none⟩ x) g (cells.set o x) := fun j y hy => by
  obtain ⟨c, f⟩ := h o _ (List.getElem?_eq_getElem ho)
  by_cases hj : o = j
  · subst hj
    rw [List.getElem?_set_self ho] at hy; cases hy
    exact ⟨World.cell?_setCell_same _ _ _ c, by rw [World.frozen?_setCell]; exact f⟩
  · rw [List.getElem?_set_ne hj] at hy
    obtain ⟨c', f'⟩ := h j y hy
    exact ⟨by rw [World.cell?_setCell_other _ _ _ _ (fun e => by cases e; exact hj rfl)]; exact c', by rw [World.frozen?_setCell]; exact f'⟩
theorem RowX.other {w : World} {g g' o : Nat} {cells : List Value} (h : RowX w g cells) (hg : g' ≠ g) (x : Value) : RowX (w.setCell ⟨g', o, none⟩ x) g cells := fun j y hy => by
  obtain ⟨c', f'⟩ := h j y hy
  exact ⟨by rw [World.cell?_setCell_other _ _ _ _ (fun e => by cases e; exact hg rfl)]; exact c', by rw [World.frozen?_setCell]; exact f'⟩
theorem RowX.new (w : World) (cells : List Value) (t : TypeId) : RowX (w.alloc (.cells cells.toArray t (0, 0))) w.heap.size cells := fun j x hx =>
  ⟨cell_new (by simpa using hx), frozen_new⟩
theorem RowX.alloc {w : World} {g : Nat} {cells : List Value} (h : RowX w g cells) (o : Go.Obj) : RowX (w.alloc o) g cells := h.below ((Below.refl _ _).alloc (Nat.le_refl _) _)
theorem Same.refl (B : Nat) (w : World) : Same B w w := fun _ _ _ _ h => ⟨h, rfl⟩
theorem Same.set {B : Nat} {w w' : World} (h : Same B w w') {g o : Nat} (hg : g < B) (x : Value) : Same B w (w'.setCell ⟨g, o, none⟩ x) := fun b o' y hb hy => by
  obtain ⟨c, f⟩ := h b o' y hb hy
  exact ⟨by rw [World.cell?_setCell_other _ _ _ _ (fun e => by cases e; omega)]; exact c, by rw [World.frozen?_setCell]; exact f⟩
theorem bset' {B : Nat} {w w' : World} (h : Below B w w') {g o : Nat} (hg : B ≤ g) (x : Value) : Below B w (w'.setCell ⟨g, o, none⟩ x) := h.setCell (p := ⟨g, o, none⟩) hg x
theorem VF.mk {w : World} {base : Nat} {f : Mx.Form} {x4 x5 : Value} {cells : List Value} (h4 : RowAt w (Ge base) x4 f.scopes.length (ints f.scopes)) (h5 : RowAt w (Ge base) x5 f.kids.length cells) (h6 : VFl w base f.kids cells) :
    VF w base f [.int .i64 f.kind, .string f.name, .int .i64 f.n, x4, x5] := by
  obtain ⟨_, _, _, _, _⟩ := f
  rw [VF]
  exact ⟨x4, x5, rfl, h4, cells, h5, h6⟩
theorem VF.inv {w : World} {base : Nat} {f : Mx.Form} {vs : List Value} (h : VF w base f vs) :
    ∃ x4 x5, vs = [.int .i64 f.kind, .string f.name, .int .i64 f.n, x4, x5] ∧ RowAt w (Ge base) x4 f.scopes.length (ints f.scopes) ∧ ∃ cells, RowAt w (Ge base) x5 f.kids.length cells ∧ VFl w base f.kids cells := by
  obtain ⟨_, _, _, _, _⟩ := f
  rw [VF] at h
  exact h
theorem VC.mk {w : World} {base : Nat} {f : Mx.Core} {x5 x7 : Value} {c cells : List Value} (h5 : RowAt w (Ge base) x5 f.ids.length (ints f.ids)) (h6 : VF w base f.data c) (h7 : RowAt w (Ge base) x7 f.kids.length cells) (h8 : VCl w base f.kids cells) :
    VC w base f ([.int .i64 f.kind, .int .i64 f.id, .string f.name, .int .i64 f.n, x5] ++ c ++ [x7]) := by
  obtain ⟨_, _, _, _, _, _, _⟩ := f
  rw [VC]
  exact ⟨x5, c, x7, rfl, h5, h6, cells, h7, h8⟩
theorem VC.inv {w : World} {base : Nat} {f : Mx.Core} {vs : List Value} (h : VC w base f vs) :
    ∃ x5 c x7, vs = [.int .i64 f.kind, .int .i64 f.id, .string f.name, .int .i64 f.n, x5] ++ c ++ [x7] ∧ RowAt w (Ge base) x5 f.ids.length (ints f.ids) ∧ VF w base f.data c ∧ ∃ cells, RowAt w (Ge base) x7 f.kids.length cells ∧ VCl w base f.kids cells := by
  obtain ⟨_, _, _, _, _, _, _⟩ := f
  rw [VC] at h
  exact h
theorem eleven {w : World} {f : Mx.Core} {vs : List Value} (h : RdL cx0 w (cCore f) vs) : ∃ x5 y4 y5 x7, vs = [.int .i64 f.kind, .int .i64 f.id, .string f.name, .int .i64 f.n, x5, .int .i64 f.data.kind, .string f.data.name, .int .i64 f.data.n, y4, y5, x7] ∧
    Rd cx0 w (.sl 1 .ro (intsD f.ids)) x5 ∧ Rd cx0 w (.sl 1 .ro (intsD f.data.scopes)) y4 ∧ Rd cx0 w (.sl 5 .ro (formsD f.data.kids)) y5 ∧ Rd cx0 w (.sl 11 .ro (coresD f.kids)) x7 := by
  obtain ⟨hl, h⟩ := h
  match vs, hl with
  | [x1, x2, x3, x4, x5, z1, z2, z3, z4, z5, x7], _ =>
    have h1 := (h 0 _ _ rfl rfl).v_inv
    have h2 := (h 1 _ _ rfl rfl).v_inv
    have h3 := (h 2 _ _ rfl rfl).v_inv
    have h4 := (h 3 _ _ rfl rfl).v_inv
    have h5 := (h 5 _ _ rfl rfl).v_inv
    have h6 := (h 6 _ _ rfl rfl).v_inv
    have h7 := (h 7 _ _ rfl rfl).v_inv
    subst h1; subst h2; subst h3; subst h4; subst h5; subst h6; subst h7
    exact ⟨x5, z4, z5, x7, rfl, h 4 _ _ rfl rfl, h 8 _ _ rfl rfl, h 9 _ _ rfl rfl, h 10 _ _ rfl rfl⟩
theorem five {w : World} {f : Mx.Form} {vs : List Value} (h : RdL cx0 w (cForm f) vs) : ∃ x4 x5, vs = [.int .i64 f.kind, .string f.name, .int .i64 f.n, x4, x5] ∧ Rd cx0 w (.sl 1 .ro (intsD f.scopes)) x4 ∧ Rd cx0 w (.sl 5 .ro (formsD f.kids)) x5 := by
  obtain ⟨hl, h⟩ := h
  match vs, hl with
  | [x1, x2, x3, x4, x5], _ =>
    have h1 := (h 0 _ _ rfl rfl).v_inv
    have h2 := (h 1 _ _ rfl rfl).v_inv
    have h3 := (h 2 _ _ rfl rfl).v_inv
    subst h1; subst h2; subst h3
    exact ⟨x4, x5, rfl, h 3 _ _ rfl rfl, h 4 _ _ rfl rfl⟩
theorem Same.sets {B : Nat} {w : World} {g : Nat} (hg : g < B) : ∀ {news : List Value} {o : Nat} {w' : World}, Same B w w' → Same B w (w'.setCells g o news)
  | [], o, w', h => by rw [World.setCells]; exact h
  | x :: r, o, w', h => by rw [World.setCells]; exact Same.sets hg (h.set hg x)
theorem bsets {B : Nat} {w : World} {g : Nat} (hg : B ≤ g) : ∀ {news : List Value} {o : Nat} {w' : World}, Below B w w' → Below B w (w'.setCells g o news)
  | [], o, w', h => by rw [World.setCells]; exact h
  | x :: r, o, w', h => by rw [World.setCells]; exact bsets hg (bset' h hg x)
theorem cntFs_mem : ∀ {fs : List Mx.Form} {f : Mx.Form}, f ∈ fs → 3 + cntF f ≤ cntFs fs
  | f0 :: r, f, h => by
    rw [cntFs]
    rcases List.mem_cons.1 h with rfl | h
    · omega
    · have := cntFs_mem h; omega
theorem cntFs_len : ∀ (fs : List Mx.Form), 3 * fs.length ≤ cntFs fs
  | [] => by simp
  | f :: r => by have := cntFs_len r; rw [cntFs, List.length_cons]; omega
theorem cntCs_mem : ∀ {fs : List Mx.Core} {f : Mx.Core}, f ∈ fs → 7 + cntC f ≤ cntCs fs
  | f0 :: r, f, h => by
    rw [cntCs]
    rcases List.mem_cons.1 h with rfl | h
    · omega
    · have := cntCs_mem h; omega
theorem cntCs_len : ∀ (fs : List Mx.Core), 7 * fs.length ≤ cntCs fs
  | [] => by simp
  | f :: r => by have := cntCs_len r; rw [cntCs, List.length_cons]; omega
theorem KS.belowR {w w' : World} {base top : Nat} (k : KS (In base top) w w') (hb : base ≤ w.heap.size) : Below base w w' :=
  ⟨k.os, k.tape, k.output, k.size, fun b h => k.block b (by omega) (fun hR => by have := hR.1; omega)⟩
end Go.Raw
