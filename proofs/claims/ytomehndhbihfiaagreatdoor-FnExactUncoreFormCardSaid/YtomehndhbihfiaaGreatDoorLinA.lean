/- Trees whose rows lie in blocks of their own, told with the blocks. No condition. -/
import Derived.Test.YtomehndhbihfiaaGreatDoorGrA
namespace Go.Raw
open Go.Mx Go.RowKit
set_option linter.unusedVariables false
def RowL (w : World) (v : Value) (n : Nat) (cells : List Value) (F : List Nat) : Prop := RowAt w (fun b => b ∈ F) v n cells ∧ F.length ≤ 1 ∧ ∀ b ∈ F, b < w.heap.size
theorem RowAt.gr {R T : Nat → Prop} {w w' : World} {v : Value} {n : Nat} {cells : List Value} (h : RowAt w R v n cells) (g : Gr T w w') (hd : ∀ b, R b → ¬ T b) : RowAt w' R v n cells := by
  obtain ⟨a, cap, rfl, h1, h2, h3⟩ := h
  refine ⟨a, cap, rfl, h1, h2, fun hn => ?_⟩
  obtain ⟨b, o, rfl, hb, hc⟩ := h3 hn
  refine ⟨b, o, rfl, hb, fun j x hx => ?_⟩
  obtain ⟨c1, f1⟩ := hc j x hx
  have hk := g.block b (cell_lt c1) (hd b hb)
  exact ⟨by rw [World.cell?_of_block (a := ⟨b, o + j, none⟩) hk]; exact c1, by rw [World.frozen?_of_block (a := ⟨b, o + j, none⟩) hk]; exact f1⟩
theorem RowAt.to {R R' : Nat → Prop} {w : World} {v : Value} {n : Nat} {cells : List Value} (h : RowAt w R v n cells) (k : ∀ b, R b → R' b) : RowAt w R' v n cells := by
  obtain ⟨a, cap, rfl, h1, h2, h3⟩ := h
  refine ⟨a, cap, rfl, h1, h2, fun hn => ?_⟩
  obtain ⟨b, o, rfl, hb, hc⟩ := h3 hn
  exact ⟨b, o, rfl, k b hb, hc⟩
theorem RowL.keep {T : Nat → Prop} {w w' : World} {v : Value} {n : Nat} {cells : List Value} {F : List Nat} (h : RowL w v n cells F) (g : Gr T w w') (hd : ∀ b ∈ F, ¬ T b) : RowL w' v n cells F :=
  ⟨h.1.gr g hd, h.2.1, fun b hb => Nat.lt_of_lt_of_le (h.2.2 b hb) g.size⟩
/-- A row handed out somewhere from a block on. -/
theorem RowL.of {w : World} {base n : Nat} {v : Value} {cells : List Value} (h : RowAt w (Ge base) v n cells) : ∃ F, RowL w v n cells F ∧ ∀ b ∈ F, base ≤ b := by
  obtain ⟨a, cap, rfl, h1, h2, h3⟩ := h
  by_cases hn : cells = []
  · exact ⟨[], ⟨⟨a, cap, rfl, h1, h2, fun h => absurd hn h⟩, by simp, by simp⟩, by simp⟩
  · obtain ⟨g, o, rfl, hg, hc⟩ := h3 hn
    refine ⟨[g], ⟨⟨_, cap, rfl, h1, h2, fun _ => ⟨g, o, rfl, by simp, hc⟩⟩, by simp, fun b hb => ?_⟩, fun b hb => ?_⟩
    · rw [List.mem_singleton] at hb; subst hb
      cases cells with
      | nil => exact absurd rfl hn
      | cons x l => exact cell_lt (hc 0 x rfl).1
    · rw [List.mem_singleton] at hb; subst hb; exact hg
mutual
def LF (w : World) : Mx.Form → List Value → List Nat → Prop
  | ⟨k, nm, n, sc, kids⟩, vs, F => ∃ x4 x5 F4 F5 F6 cells, vs = [.int .i64 k, .string nm, .int .i64 n, x4, x5] ∧ RowL w x4 sc.length (ints sc) F4 ∧ RowL w x5 kids.length cells F5 ∧ LFs w kids cells F6 ∧ F = F4 ++ (F5 ++ F6)
def LFs (w : World) : List Mx.Form → List Value → List Nat → Prop
  | [], cells, F => cells = [] ∧ F = []
  | f :: r, cells, F => ∃ c1 c2 F1 F2, cells = c1 ++ c2 ∧ F = F1 ++ F2 ∧ LF w f c1 F1 ∧ LFs w r c2 F2
end
mutual
theorem LF.keep {T : Nat → Prop} {w w' : World} (g : Gr T w w') : ∀ {f : Mx.Form} {vs : List Value} {F : List Nat}, LF w f vs F → (∀ b ∈ F, ¬ T b) → LF w' f vs F
  | ⟨_, _, _, sc, kids⟩, vs, F, h, hd => by
    rw [LF] at h ⊢
    obtain ⟨x4, x5, F4, F5, F6, cells, rfl, q1, q2, q3, rfl⟩ := h
    simp only [List.mem_append] at hd
    exact ⟨x4, x5, F4, F5, F6, cells, rfl, q1.keep g fun b hb => hd b (.inl hb), q2.keep g fun b hb => hd b (.inr (.inl hb)), LFs.keep g q3 fun b hb => hd b (.inr (.inr hb)), rfl⟩
theorem LFs.keep {T : Nat → Prop} {w w' : World} (g : Gr T w w') : ∀ {fs : List Mx.Form} {cells : List Value} {F : List Nat}, LFs w fs cells F → (∀ b ∈ F, ¬ T b) → LFs w' fs cells F
  | [], cells, F, h, _ => by rw [LFs] at h ⊢; exact h
  | f :: r, cells, F, h, hd => by
    rw [LFs] at h ⊢
    obtain ⟨c1, c2, F1, F2, rfl, rfl, q1, q2⟩ := h
    simp only [List.mem_append] at hd
    exact ⟨c1, c2, F1, F2, rfl, rfl, LF.keep g q1 fun b hb => hd b (.inl hb), LFs.keep g q2 fun b hb => hd b (.inr hb)⟩
end
mutual
theorem LF.lt {w : World} : ∀ {f : Mx.Form} {vs : List Value} {F : List Nat}, LF w f vs F → ∀ b ∈ F, b < w.heap.size
  | ⟨_, _, _, sc, kids⟩, vs, F, h => by
    rw [LF] at h
    obtain ⟨x4, x5, F4, F5, F6, cells, rfl, q1, q2, q3, rfl⟩ := h
    intro b hb
    simp only [List.mem_append] at hb
    rcases hb with hb | hb | hb
    · exact q1.2.2 b hb
    · exact q2.2.2 b hb
    · exact LFs.lt q3 b hb
theorem LFs.lt {w : World} : ∀ {fs : List Mx.Form} {cells : List Value} {F : List Nat}, LFs w fs cells F → ∀ b ∈ F, b < w.heap.size
  | [], cells, F, h => by rw [LFs] at h; obtain ⟨_, rfl⟩ := h; intro b hb; cases hb
  | f :: r, cells, F, h => by
    rw [LFs] at h
    obtain ⟨c1, c2, F1, F2, rfl, rfl, q1, q2⟩ := h
    intro b hb
    rcases List.mem_append.1 hb with hb | hb
    · exact LF.lt q1 b hb
    · exact LFs.lt q2 b hb
end
mutual
theorem LF.vf {w : World} : ∀ {f : Mx.Form} {vs : List Value} {F : List Nat}, LF w f vs F → VF w 0 f vs
  | ⟨_, _, _, sc, kids⟩, vs, F, h => by
    rw [LF] at h; rw [VF]
    obtain ⟨x4, x5, F4, F5, F6, cells, rfl, q1, q2, q3, rfl⟩ := h
    exact ⟨x4, x5, rfl, q1.1.to fun _ _ => Nat.zero_le _, cells, q2.1.to fun _ _ => Nat.zero_le _, LFs.vf q3⟩
theorem LFs.vf {w : World} : ∀ {fs : List Mx.Form} {cells : List Value} {F : List Nat}, LFs w fs cells F → VFl w 0 fs cells
  | [], cells, F, h => by rw [LFs] at h; rw [VFl]; exact h.1
  | f :: r, cells, F, h => by
    rw [LFs] at h; rw [VFl]
    obtain ⟨c1, c2, F1, F2, rfl, rfl, q1, q2⟩ := h
    exact ⟨c1, c2, rfl, LF.vf q1, LFs.vf q2⟩
end
theorem LF.rdL {w : World} {f : Mx.Form} {vs : List Value} {F : List Nat} (h : LF w f vs F) : RdL cx0 w (cForm f) vs := h.vf.rdL
theorem LF.len {w : World} {f : Mx.Form} {vs : List Value} {F : List Nat} (h : LF w f vs F) : vs.length = 5 := h.vf.len
theorem LFs.len {w : World} : ∀ {fs : List Mx.Form} {cells : List Value} {F : List Nat}, LFs w fs cells F → cells.length = fs.length * 5
  | [], cells, F, h => by rw [LFs] at h; rw [h.1]; rfl
  | f :: r, cells, F, h => by
    rw [LFs] at h
    obtain ⟨c1, c2, F1, F2, rfl, rfl, q1, q2⟩ := h
    rw [List.length_append, q1.len, LFs.len q2, List.length_cons]; omega
theorem LFs.app {w : World} : ∀ {a b : List Mx.Form} {c1 c2 : List Value} {F1 F2 : List Nat}, LFs w a c1 F1 → LFs w b c2 F2 → LFs w (a ++ b) (c1 ++ c2) (F1 ++ F2)
  | [], b, c1, c2, F1, F2, h, k => by rw [LFs] at h; obtain ⟨rfl, rfl⟩ := h; exact k
  | f :: r, b, c1, c2, F1, F2, h, k => by
    rw [LFs] at h
    obtain ⟨d1, d2, G1, G2, rfl, rfl, q1, q2⟩ := h
    rw [List.cons_append, LFs]
    exact ⟨d1, d2 ++ c2, G1, G2 ++ F2, by simp, by simp, q1, q2.app k⟩
theorem LFs.one {w : World} {f : Mx.Form} {c : List Value} {F : List Nat} (h : LF w f c F) : LFs w [f] c F := by
  rw [LFs]; exact ⟨c, [], F, [], by simp, by simp, h, by rw [LFs]; exact ⟨rfl, rfl⟩⟩
theorem LFs.parts {w : World} : ∀ {a b : List Mx.Form} {cells : List Value} {F : List Nat}, LFs w (a ++ b) cells F → ∃ c1 c2 F1 F2, cells = c1 ++ c2 ∧ F = F1 ++ F2 ∧ LFs w a c1 F1 ∧ LFs w b c2 F2
  | [], b, cells, F, h => ⟨[], cells, [], F, rfl, rfl, by rw [LFs]; exact ⟨rfl, rfl⟩, h⟩
  | f :: r, b, cells, F, h => by
    rw [List.cons_append, LFs] at h
    obtain ⟨d1, d2, G1, G2, rfl, rfl, q1, q2⟩ := h
    obtain ⟨c1, c2, F1, F2, rfl, rfl, k1, k2⟩ := q2.parts
    exact ⟨d1 ++ c1, c2, G1 ++ F1, F2, by simp, by simp, by rw [LFs]; exact ⟨d1, c1, G1, F1, rfl, rfl, q1, k1⟩, k2⟩
/-- A row of the call's own. -/
def ownF (v : Value) : List Nat := match v.ownBlock with
  | some g => [g]
  | none => []
theorem ownF_mem {v : Value} {b : Nat} : b ∈ ownF v ↔ v.ownBlock = some b := by
  unfold ownF
  cases h : v.ownBlock with
  | none => simp
  | some g => simp [eq_comm]
theorem RowL.own {w : World} {base e sz n : Nat} {v : Value} {cells : List Value} (h : w.ownsRow base e sz v n cells) : RowL w v n cells (ownF v) := by
  have h0 := h
  obtain ⟨h1, h2⟩ := h
  rcases h2 with ⟨rfl, rfl⟩ | ⟨g, cap, cur, rfl, q1, q2, q3, q4, q5⟩
  · have : cells = [] := List.eq_nil_of_length_eq_zero (by rw [h1]; simp)
    subst this
    exact ⟨⟨none, 0, rfl, Nat.le_refl _, Nat.zero_le _, fun h => absurd rfl h⟩, by simp [ownF, Value.ownBlock], by simp [ownF, Value.ownBlock]⟩
  · refine ⟨⟨_, cap, rfl, q3, q4, fun _ => ⟨g, 0, rfl, ownF_mem.2 rfl, fun j x hx => ⟨?_, ?_⟩⟩⟩, by simp [ownF, Value.ownBlock], fun b hb => ?_⟩
    · have := h0.cells (g := g) rfl j x hx
      by_cases hq0 : j = 0
      · subst hq0; simpa [Addr.add] using this
      · simpa [Addr.add, hq0] using this
    · simp [World.frozen?, q2]
    · have := ownF_mem.1 hb; cases this
      exact (Array.getElem?_eq_some_iff.1 q2).1
end Go.Raw
