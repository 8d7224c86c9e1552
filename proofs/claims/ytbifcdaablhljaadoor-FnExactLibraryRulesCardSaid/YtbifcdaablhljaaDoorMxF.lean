/- A store into a variable, for the abstract state. No condition. -/
import Derived.Test.YtbifcdaablhljaaDoorMxE
import Derived.Laws.AppendOwn
import Derived.Laws.NewBlocks
namespace Go.Mx
set_option linter.unusedVariables false
/-! ### stores -/
def splice {α : Type} (cs : List α) (off : Nat) (ds : List α) : List α := cs.take off ++ ds ++ cs.drop (off + ds.length)
theorem splice_get {α : Type} {cs ds : List α} {off : Nat} (h : off + ds.length ≤ cs.length) (j : Nat) : (splice cs off ds)[j]? = if off ≤ j ∧ j < off + ds.length then ds[j - off]? else cs[j]? := by
  unfold splice
  by_cases h1 : j < off
  · rw [if_neg (by omega), List.append_assoc, List.getElem?_append_left (by simp; omega), List.getElem?_take, if_pos h1]
  · by_cases h2 : j < off + ds.length
    · rw [if_pos ⟨by omega, h2⟩, List.append_assoc, List.getElem?_append_right (by simp; omega), List.getElem?_append_left (by simp; omega)]
      congr 1; simp; omega
    · rw [if_neg (by omega), List.getElem?_append_right (by simp; omega), List.getElem?_drop]
      congr 1; simp; omega
theorem splice_length {α : Type} {cs ds : List α} {off : Nat} (h : off + ds.length ≤ cs.length) : (splice cs off ds).length = cs.length := by
  unfold splice; simp; omega
theorem heap_setCells (b : Nat) : ∀ (vs : List Value) (o : Nat) (w : World) (b' : Nat), b' ≠ b → (w.setCells b o vs).heap[b']? = w.heap[b']?
  | [], _, _, _, _ => rfl
  | v :: r, o, w, b', h => by
    rw [World.setCells, heap_setCells b r (o + 1) _ b' h]
    exact Go.RowKit.Below.heap_setCell w ⟨b, o, none⟩ v b' h
theorem size_setCells (b : Nat) : ∀ (vs : List Value) (o : Nat) (w : World), (w.setCells b o vs).heap.size = w.heap.size ∧ (w.setCells b o vs).os = w.os ∧ (w.setCells b o vs).tape = w.tape ∧ (w.setCells b o vs).output = w.output
  | [], _, _ => ⟨rfl, rfl, rfl, rfl⟩
  | v :: r, o, w => by
    obtain ⟨h1, h2, h3, h4⟩ := size_setCells b r (o + 1) (w.setCell ⟨b, o, none⟩ v)
    rw [World.setCells]
    exact ⟨h1.trans (by simp [World.setCell]), h2, h3, h4⟩
def D.one : D → Bool
  | .v x => x.oneCell'
  | .any => false
  | .agg _ => false
  | .tup _ => false
  | _ => true
theorem Rd.oneCell {cx : Cx} {w : World} {d : D} {x : Value} (h : Rd cx w d x) (h1 : d.one = true) : x.oneCell' = true := by
  cases h <;> simp_all [D.one, Value.oneCell']
def allB (p : D → Bool) : List D → Bool
  | [] => true
  | d :: r => p d && allB p r
theorem allB_get {p : D → Bool} {cs : List D} (h : allB p cs = true) {j : Nat} {d : D} (hj : cs[j]? = some d) : p d = true := by
  induction cs generalizing j with
  | nil => simp at hj
  | cons c r ih =>
    simp only [allB, Bool.and_eq_true] at h
    cases j with
    | zero => simp at hj; subst hj; exact h.1
    | succ j => simp at hj; exact ih h.2 hj
/-- Cells of a variable are written. -/
theorem Rel.store {E : Setting} {cx : Cx} {st : St} {w : World} (r : Rel E cx st w) {key : Key} {cs : List D} (hk : st.get key = some (.cells cs)) (hlt : key.1 < st.length) {off : Nat} {ds : List D} {vs : List Value}
    {b o : Nat} (hb : cx.bx key = some (b, o))
    (hl : ds.length = vs.length) (hrd : ∀ (j : Nat) d x, ds[j]? = some d → vs[j]? = some x → Rd cx w d x) (hlev : allL (lv (key.1 + 1)) ds = true) (hfit : off + ds.length ≤ cs.length) :
    Rel E cx (st.set key (some (.cells (splice cs off ds)))) (w.setCells b (o + off) vs) ∧ Ext (fun _ => true) cx w cx (w.setCells b (o + off) vs) := by
  have hfc : ∀ j, j < cs.length → Mx.foot cx st key b (o + j) := fun j hj => .inl ⟨cs, o, hk, hb, by omega, by omega⟩
  obtain ⟨e1, e2, e3, e4⟩ := size_setCells b vs (o + off) w
  have hout : ∀ b' o', (b' = b → o' < o + off ∨ o + off + vs.length ≤ o') → (w.setCells b (o + off) vs).cell? ⟨b', o', none⟩ = w.cell? ⟨b', o', none⟩ := fun b' o' h => World.cell?_setCells_out b vs (o + off) w ⟨b', o', none⟩ (fun h1 _ => h h1)
  have hext : Ext (fun _ => true) cx w cx (w.setCells b (o + off) vs) := by
    refine ⟨e2, e3, e4, by omega, fun b' _ hm => ?_, fun b' o' _ hm => ?_, fun _ _ _ h => h, fun _ _ _ h => h, fun k n l _ h => ⟨n, l, h, Nat.le_refl _, fun _ => rfl⟩, rfl, fun k n e g c z h _ => ⟨k, n, e, c, z, h⟩, fun _ _ _ => by rw [World.frozen?_setCells]⟩
    · by_cases hv : vs = []
      · subst hv; rfl
      · refine heap_setCells b vs _ w b' (fun he => ?_)
        have : 0 < ds.length := by rw [hl]; exact List.length_pos_iff.2 hv
        exact hm (o + off) (by rw [he]; exact (r.foot _ _ _ (hfc off (by omega))).2.2)
    · refine hout b' o' (fun he => ?_)
      rcases Nat.lt_or_ge o' (o + off) with h | h
      · exact .inl h
      · rcases Nat.lt_or_ge o' (o + off + vs.length) with h' | h'
        · have hf := hfc (o' - o) (by omega)
          rw [show o + (o' - o) = o' by omega] at hf
          exact absurd (he ▸ hm (he ▸ (r.foot _ _ _ hf).2.2)) (r.nz _ _ _ hf)
        · exact .inr h'
  have hmono : ∀ {d x}, Rd cx w d x → Rd cx (w.setCells b (o + off) vs) d x := fun h => h.mono hext (RelF.ext.all_true _)
  have hin : ∀ j, j < vs.length → ∀ x, vs[j]? = some x → (w.setCells b (o + off) vs).cell? ⟨b, o + off + j, none⟩ = some x := fun j hj x hx => by
    rw [World.cell?_setCells_in b vs (o + off) w (fun i hi => by
      obtain ⟨⟨y, hy⟩, _⟩ := r.foot _ _ _ (hfc (off + i) (by omega))
      rw [Nat.add_assoc, hy]; rfl) j hj]
    rw [← hx, List.getElem?_eq_getElem hj]
  have hcell : ∀ b' o', (∃ x, w.cell? ⟨b', o', none⟩ = some x) → ∃ x, (w.setCells b (o + off) vs).cell? ⟨b', o', none⟩ = some x := fun b' o' ⟨x, hx⟩ => by
    by_cases h : b' = b ∧ o + off ≤ o' ∧ o' < o + off + vs.length
    · obtain ⟨rfl, h1, h2⟩ := h
      have := hin (o' - (o + off)) (by omega) _ (List.getElem?_eq_getElem (by omega))
      rw [show o + off + (o' - (o + off)) = o' by omega] at this
      exact ⟨_, this⟩
    · exact ⟨x, by rw [hout b' o' (fun he => by omega)]; exact hx⟩
  have hfoot : ∀ k b' o', Mx.foot cx (st.set key (some (.cells (splice cs off ds)))) k b' o' → Mx.foot cx st k b' o' := fun k b' o' h => by
    rcases h with ⟨cs', o0, h1, h2, h3, h4⟩ | ⟨n, e', c, z, h1, h2, h3⟩
    · rw [St.get_set hlt] at h1
      by_cases hkk : k = key
      · rw [if_pos hkk] at h1; cases h1
        rw [splice_length hfit] at h4
        exact .inl ⟨cs, o0, by rw [hkk]; exact hk, h2, h3, h4⟩
      · rw [if_neg hkk] at h1
        exact .inl ⟨cs', o0, h1, h2, h3, h4⟩
    · rw [St.get_set hlt] at h1
      by_cases hkk : k = key
      · rw [if_pos hkk] at h1; cases h1
      · rw [if_neg hkk] at h1
        exact .inr ⟨n, e', c, z, h1, h2, h3⟩
  refine ⟨⟨fun k cs' h => ?_, fun k n e' h => ?_, fun k b' o' h => ?_, fun k k' b' o' h h' => r.sep k k' b' o' (hfoot _ _ _ h) (hfoot _ _ _ h'), fun k l h => ?_, fun k l h => ?_, fun b' o' h => by rw [e1]; exact r.mlt b' o' h, fun k b' o' h => r.nz k b' o' (hfoot _ _ _ h), r.zm, fun k b' o' h => by rw [e1]; exact r.bxlt k b' o' h, r.apart, r.rows, fun g => hmono (r.glob g)⟩, hext⟩
  · rw [St.get_set hlt] at h
    by_cases hkk : k = key
    · rw [if_pos hkk] at h; cases h
      obtain ⟨hlev0, b0, o0, hb0, hc0⟩ := r.cells key cs hk
      rw [hb] at hb0; cases hb0
      refine ⟨?_, b, o, by rw [hkk]; exact hb, fun j d hj => ?_⟩
      · rw [hkk]
        have hall : ∀ (l : List D), (∀ (j : Nat) d, l[j]? = some d → d.all (lv (key.1 + 1)) = true) → allL (lv (key.1 + 1)) l = true := fun l => by
          induction l with
          | nil => intro _; rfl
          | cons d r ih => intro h; simp only [allL, Bool.and_eq_true]; exact ⟨h 0 d rfl, ih fun j e hj => h (j + 1) e (by simpa using hj)⟩
        refine hall _ fun j d hj => ?_
        rw [splice_get hfit] at hj
        split at hj
        · exact allL_get hlev hj
        · exact allL_get hlev0 hj
      · rw [splice_get hfit] at hj
        split at hj
        · rename_i hr
          obtain ⟨x, hx⟩ := len_get hl.symm hj
          refine ⟨x, ?_, hmono (hrd _ d x hj hx)⟩
          have := hin (j - off) (by omega) x hx
          rwa [show o + off + (j - off) = o + j by omega] at this
        · rename_i hr
          obtain ⟨x, hx, hrd'⟩ := hc0 j d hj
          exact ⟨x, by rw [hout _ _ (fun _ => by omega)]; exact hx, hmono hrd'⟩
    · rw [if_neg hkk] at h
      obtain ⟨h1, b0, o0, h2, h3⟩ := r.cells k cs' h
      refine ⟨h1, b0, o0, h2, fun j d hj => ?_⟩
      obtain ⟨x, hx, hrd'⟩ := h3 j d hj
      refine ⟨x, ?_, hmono hrd'⟩
      rw [hout _ _ (fun he => ?_)]; exact hx
      rcases Nat.lt_or_ge (o0 + j) (o + off) with h' | h'
      · exact .inl h'
      · rcases Nat.lt_or_ge (o0 + j) (o + off + vs.length) with h'' | h''
        · refine absurd (r.sep k key b0 (o0 + j) (.inl ⟨cs', o0, h, h2, by omega, by have := (List.getElem?_eq_some_iff.1 hj).1; omega⟩) ?_) hkk
          have := hfc (o0 + j - o) (by omega)
          rw [show o + (o0 + j - o) = o0 + j by omega] at this
          rw [he]; exact this
        · exact .inr h''
  · rw [St.get_set hlt] at h
    by_cases hkk : k = key
    · rw [if_pos hkk] at h; cases h
    · rw [if_neg hkk] at h
      obtain ⟨tl, h1, h2⟩ := r.tok k n e' h
      refine ⟨tl, h1, ?_⟩
      match tl, h1, h2 with
      | none, _, _ => trivial
      | some (g, c, z), h1, ⟨q1, q2, cur, q3, q4⟩ => exact ⟨q1, q2, cur, by rw [heap_setCells b vs _ w g (fun he => r.apart key k b o n e' g c z hb h1 he.symm)]; exact q3, q4⟩
  · obtain ⟨h1, h2, h3⟩ := r.foot k b' o' (hfoot _ _ _ h)
    exact ⟨hcell _ _ h1, by rw [World.frozen?_setCells]; exact h2, h3⟩
  · by_cases hkk : k = key
    · exact ⟨_, by rw [St.get_set hlt, if_pos hkk]⟩
    · obtain ⟨cs', hcs⟩ := r.domb k l h
      exact ⟨cs', by rw [St.get_set hlt, if_neg hkk]; exact hcs⟩
  · obtain ⟨n, e', hcs⟩ := r.domt k l h
    exact ⟨n, e', by rw [St.get_set hlt, if_neg (fun he => by rw [he, hk] at hcs; cases hcs)]; exact hcs⟩
end Go.Mx
