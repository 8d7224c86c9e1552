/- The variables of a frame put aside during a call, for the abstract state. No condition. -/
import Derived.Test.YtbifcdaablhljaaDoorMxM
namespace Go.Mx
set_option linter.unusedVariables false
set_option linter.unusedSimpArgs false
/-! ### the variables of a frame, put aside -/
def isC : Option AObj → Bool
  | some (.cells _) => true
  | _ => false
def hideFr (fr : Fr) : Fr := fun t => match fr t with
  | some (.cells _) => none
  | o => o
def hid (L : Nat) (fr : Fr) : Key → Bool := fun k => isC (fr k.2) && Nat.beq k.1 L
def vis (L : Nat) (fr : Fr) : Key → Bool := fun k => !hid L fr k
def joinFr (fr fr' : Fr) : Fr := fun t => match fr t with
  | some (.cells cs) => some (.cells cs)
  | _ => fr' t
theorem hid_spec {L : Nat} {fr : Fr} {k : Key} (h : hid L fr k = true) : k.1 = L ∧ ∃ cs, fr k.2 = some (.cells cs) := by
  unfold hid at h
  simp only [Bool.and_eq_true] at h
  refine ⟨Nat.eq_of_beq_eq_true h.2, ?_⟩
  have := h.1
  unfold isC at this
  split at this
  · rename_i cs hc; exact ⟨cs, hc⟩
  · cases this
theorem hid_of {fr : Fr} {st : St} {k : Key} {cs : List D} (h : St.get (fr :: st) k = some (.cells cs)) (hk : k.1 = st.length) : hid st.length fr k = true := by
  simp only [St.get, hk, if_true] at h
  unfold hid isC
  rw [h, hk]; simp
theorem get_hide {fr : Fr} {st : St} {k : Key} : St.get (hideFr fr :: st) k = if hid st.length fr k = true then none else St.get (fr :: st) k := by
  by_cases hk : k.1 = st.length
  · simp only [St.get, hk, if_true]
    unfold hid isC hideFr
    cases hf : fr k.2 with
    | none => simp
    | some o => cases o <;> simp [hk]
  · simp only [St.get, hk, if_false]
    rw [if_neg (fun h => hk (hid_spec h).1)]
theorem get_join {fr fr' : Fr} {st st' : St} (hl : st'.length = st.length) {k : Key} : St.get (joinFr fr fr' :: st') k = if hid st.length fr k = true then St.get (fr :: st) k else St.get (fr' :: st') k := by
  by_cases hk : k.1 = st.length
  · simp only [St.get, hk, hl, if_true]
    unfold hid isC joinFr
    cases hf : fr k.2 with
    | none => simp
    | some o => cases o <;> simp [hk]
  · simp only [St.get, hk, hl, if_false]
    rw [if_neg (fun h => hk (hid_spec h).1)]
def Cx.hide (cx : Cx) (fr : Fr) (st : St) : Cx :=
  { bx := fun k => if hid st.length fr k = true then none else cx.bx k, tk := cx.tk, M := cx.M, Z := fun b o => cx.Z b o ∨ ∃ k, hid st.length fr k = true ∧ foot cx (fr :: st) k b o }
theorem hide_r {cx : Cx} {fr : Fr} {st : St} {w : World} : ExtR (vis st.length fr) cx w (cx.hide fr st) w where
  cell _ _ _ _ := rfl
  nomut _ _ _ h := h
  bx k l hk h := by
    show (if hid st.length fr k = true then none else cx.bx k) = some l
    rw [if_neg (fun h2 => by unfold vis at hk; rw [h2] at hk; cases hk)]; exact h
  tk k n l _ h := ⟨n, l, h, Nat.le_refl _, fun _ => rfl⟩
theorem hide_foot {cx : Cx} {fr : Fr} {st : St} {k : Key} {b o : Nat} (h : foot (cx.hide fr st) (hideFr fr :: st) k b o) : hid st.length fr k = false ∧ foot cx (fr :: st) k b o := by
  have hn : hid st.length fr k = false := by
    cases hc : hid st.length fr k with
    | false => rfl
    | true =>
      rcases h with ⟨cs, o0, h1, _⟩ | ⟨n, e, c, z, h1, _⟩ <;> (rw [get_hide, if_pos hc] at h1; cases h1)
  have hn' : ¬ hid st.length fr k = true := by rw [hn]; decide
  refine ⟨hn, ?_⟩
  rcases h with ⟨cs, o0, h1, h2, h3⟩ | ⟨n, e, c, z, h1, h2, h3⟩
  · rw [get_hide, if_neg hn'] at h1
    have h2 : (if hid st.length fr k = true then none else cx.bx k) = some (b, o0) := h2
    rw [if_neg hn'] at h2
    exact .inl ⟨cs, o0, h1, h2, h3⟩
  · rw [get_hide, if_neg hn'] at h1
    exact .inr ⟨n, e, c, z, h1, h2, h3⟩
theorem Rel.hide {E : Setting} {cx : Cx} {fr : Fr} {st : St} {w : World} (r : Rel E cx (fr :: st) w) : Rel E (cx.hide fr st) (hideFr fr :: st) w := by
  have hvis : ∀ k o, St.get (hideFr fr :: st) k = some o → ¬ hid st.length fr k = true ∧ St.get (fr :: st) k = some o := fun k o h => by
    rw [get_hide] at h
    split at h
    · cases h
    · rename_i hn; exact ⟨hn, h⟩
  refine ⟨fun k cs h => ?_, fun k n e h => ?_, fun k b o h => r.foot k b o (hide_foot h).2, fun k k' b o h h' => r.sep k k' b o (hide_foot h).2 (hide_foot h').2, fun k l h => ?_, fun k l h => ?_, r.mlt, fun k b o h hz => ?_, fun b o h => ?_, fun k b o h => ?_,
    fun k k' b o n e g c z h h' => ?_, r.rows, fun g => (r.glob g).monoR hide_r ((all_mono (fun q hq => by cases hq)).1 _ (E.keyless g))⟩
  · obtain ⟨hn, hg⟩ := hvis k _ h
    obtain ⟨h1, b, o, h2, h3⟩ := r.cells k cs hg
    refine ⟨h1, b, o, (if_neg hn).trans h2, fun j d hj => ?_⟩
    obtain ⟨x, hx, hrd⟩ := h3 j d hj
    refine ⟨x, hx, hrd.monoR hide_r ?_⟩
    refine (all_mono (fun q hq => ?_)).1 _ (allL_get h1 hj)
    simp only [lv, decide_eq_true_eq] at hq
    unfold vis
    have hlt : k.1 < (fr :: st).length := by
      rcases Nat.lt_or_ge k.1 (fr :: st).length with h' | h'
      · exact h'
      · rw [St.get_ge h'] at hg; cases hg
    have hk : k.1 ≠ st.length := fun e => hn (hid_of hg e)
    have : ¬ hid st.length fr q = true := fun h2 => by
      have := (hid_spec h2).1
      simp at hlt; omega
    cases hc : hid st.length fr q with
    | false => rfl
    | true => exact absurd hc this
  · obtain ⟨hn, hg⟩ := hvis k _ h
    exact r.tok k n e hg
  · have h : (if hid st.length fr k = true then none else cx.bx k) = some l := h
    split at h
    · cases h
    · rename_i hn
      obtain ⟨cs, hcs⟩ := r.domb k l h
      exact ⟨cs, by rw [get_hide, if_neg hn]; exact hcs⟩
  · obtain ⟨n, e, hg⟩ := r.domt k l h
    refine ⟨n, e, ?_⟩
    rw [get_hide, if_neg (fun h2 => ?_)]
    · exact hg
    · obtain ⟨h3, cs, h4⟩ := hid_spec h2
      simp only [St.get, h3, if_true, h4] at hg; cases hg
  · obtain ⟨hn, hf⟩ := hide_foot h
    rcases hz with hz | ⟨k', h1, h2⟩
    · exact r.nz k b o hf hz
    · have := r.sep k k' b o hf h2
      subst this
      rw [hn] at h1; cases h1
  · rcases h with h | ⟨k, h1, h2⟩
    · exact r.zm b o h
    · exact (r.foot k b o h2).2.2
  · have h : (if hid st.length fr k = true then none else cx.bx k) = some (b, o) := h
    split at h
    · cases h
    · exact r.bxlt _ _ _ h
  · have h : (if hid st.length fr k = true then none else cx.bx k) = some (b, o) := h
    split at h
    · cases h
    · exact r.apart _ _ _ _ _ _ _ _ _ h h'
theorem Rel.show {E : Setting} {cx cx' : Cx} {fr fr' : Fr} {st st' : St} {w w' : World} (r : Rel E cx (fr :: st) w) (e : Ext (fun _ => true) (cx.hide fr st) w cx' w') (r' : Rel E cx' (fr' :: st') w') (hl : st'.length = st.length)
    (hN : ∀ t cs, fr t = some (.cells cs) → fr' t = none) :
    ∃ cx'', Rel E cx'' (joinFr fr fr' :: st') w' ∧ Ext (fun _ => true) cx w cx'' w' ∧ ExtR (fun _ => true) cx' w' cx'' w' ∧
      (∀ b o, b < w.heap.size → Hd cx (fr :: st) (hid st.length fr) b o → w'.cell? ⟨b, o, none⟩ = w.cell? ⟨b, o, none⟩) := by
  have hnone : ∀ k, hid st.length fr k = true → St.get (fr' :: st') k = none := fun k h => by
    obtain ⟨h1, cs, h2⟩ := hid_spec h
    simp only [St.get, h1, hl, if_true]
    exact hN _ _ h2
  let cx'' : Cx := { bx := fun k => if hid st.length fr k = true then cx.bx k else cx'.bx k, tk := cx'.tk, M := cx'.M, Z := cx.Z }
  have hheld : ∀ b o, b < w.heap.size → Hd cx (fr :: st) (hid st.length fr) b o → w'.cell? ⟨b, o, none⟩ = w.cell? ⟨b, o, none⟩ := fun b o hb h => by
    rcases h with h | ⟨k, h1, h2⟩
    · exact e.cell b o hb (fun h3 => absurd h3 h)
    · exact e.cell b o hb (fun _ => .inr ⟨k, h1, h2⟩)
  have hup : ExtR (fun _ => true) cx' w' cx'' w' := by
    refine ⟨fun _ _ _ _ => rfl, fun _ _ _ h => h, fun k l _ h => ?_, fun k n l _ h => ⟨n, l, h, Nat.le_refl _, fun _ => rfl⟩⟩
    show (if hid st.length fr k = true then cx.bx k else cx'.bx k) = some l
    split
    · rename_i hh
      obtain ⟨cs, hc⟩ := r'.domb k l h
      rw [hnone k hh] at hc; cases hc
    · exact h
  have hext : Ext (fun _ => true) cx w cx'' w' := by
    refine ⟨e.os, e.tape, e.output, e.size, e.block, fun b o hb h => e.cell b o hb (fun h2 => .inl (h h2)), e.nomut, fun k l _ h => ?_, e.tk, rfl, e.rowold, e.fz⟩
    show (if hid st.length fr k = true then cx.bx k else cx'.bx k) = some l
    split
    · exact h
    · rename_i hn
      exact e.bx k l rfl ((if_neg hn).trans h)
  have hZ : ∀ b o, cx'.Z b o ↔ (cx.Z b o ∨ ∃ k, hid st.length fr k = true ∧ Mx.foot cx (fr :: st) k b o) := fun b o => by rw [e.zz]; exact Iff.rfl
  have hget : ∀ k, St.get (joinFr fr fr' :: st') k = if hid st.length fr k = true then St.get (fr :: st) k else St.get (fr' :: st') k := fun k => get_join hl
  have hfoot : ∀ k b o, Mx.foot cx'' (joinFr fr fr' :: st') k b o → (hid st.length fr k = true ∧ Mx.foot cx (fr :: st) k b o) ∨ (¬ hid st.length fr k = true ∧ Mx.foot cx' (fr' :: st') k b o) := fun k b o h => by
    by_cases hh : hid st.length fr k = true
    · refine .inl ⟨hh, ?_⟩
      rcases h with ⟨cs, o0, h1, h2, h3⟩ | ⟨n, e, c, z, h1, h2, h3⟩
      · rw [hget, if_pos hh] at h1
        have h2 : (if hid st.length fr k = true then cx.bx k else cx'.bx k) = some (b, o0) := h2
        rw [if_pos hh] at h2
        exact .inl ⟨cs, o0, h1, h2, h3⟩
      · rw [hget, if_pos hh] at h1
        obtain ⟨h4, cs, h5⟩ := hid_spec hh
        simp only [St.get, h4, if_true, h5] at h1; cases h1
    · refine .inr ⟨hh, ?_⟩
      rcases h with ⟨cs, o0, h1, h2, h3⟩ | ⟨n, e, c, z, h1, h2, h3⟩
      · rw [hget, if_neg hh] at h1
        have h2 : (if hid st.length fr k = true then cx.bx k else cx'.bx k) = some (b, o0) := h2
        rw [if_neg hh] at h2
        exact .inl ⟨cs, o0, h1, h2, h3⟩
      · rw [hget, if_neg hh] at h1
        exact .inr ⟨n, e, c, z, h1, h2, h3⟩
  have hflt : ∀ k b o, Mx.foot cx (fr :: st) k b o → b < w.heap.size := fun k b o h => not_foot_new r h
  refine ⟨cx'', ⟨fun k cs h => ?_, fun k n e' h => ?_, fun k b o h => ?_, fun k k' b o h h' => ?_, fun k l h => ?_, fun k l h => ?_, r'.mlt, fun k b o h hz => ?_, fun b o h => r'.zm b o ((hZ b o).2 (.inl h)), fun k b o h => ?_,
    fun k k' b o n e' g c z h h' => ?_, r'.rows, fun g => (r'.glob g).monoR hup (RelF.ext.all_true _)⟩, hext, hup, hheld⟩
  · rw [hget] at h
    split at h
    · rename_i hh
      obtain ⟨h1, b, o, h2, h3⟩ := r.cells k cs h
      refine ⟨h1, b, o, (if_pos hh).trans h2, fun j d hj => ?_⟩
      obtain ⟨x, hx, hrd⟩ := h3 j d hj
      refine ⟨x, ?_, hrd.mono hext (RelF.ext.all_true _)⟩
      rw [hheld b (o + j) (cell_lt hx) (.inr ⟨k, hh, .inl ⟨cs, o, h, h2, by omega, by have := (List.getElem?_eq_some_iff.1 hj).1; omega⟩⟩)]
      exact hx
    · rename_i hh
      obtain ⟨h1, b, o, h2, h3⟩ := r'.cells k cs h
      refine ⟨h1, b, o, (if_neg hh).trans h2, fun j d hj => ?_⟩
      obtain ⟨x, hx, hrd⟩ := h3 j d hj
      exact ⟨x, hx, hrd.monoR hup (RelF.ext.all_true _)⟩
  · rw [hget] at h
    split at h
    · rename_i hh
      obtain ⟨h4, cs, h5⟩ := hid_spec hh
      simp only [St.get, h4, if_true, h5] at h; cases h
    · exact r'.tok k n e' h
  · rcases hfoot k b o h with ⟨hh, hf⟩ | ⟨hh, hf⟩
    · obtain ⟨⟨x, hx⟩, h2, h3⟩ := r.foot k b o hf
      have hb := hflt _ _ _ hf
      exact ⟨⟨x, (hheld b o hb (.inr ⟨k, hh, hf⟩)).trans hx⟩, (e.fz b o hb).trans h2, r'.zm b o ((hZ b o).2 (.inr ⟨k, hh, hf⟩))⟩
    · exact r'.foot k b o hf
  · rcases hfoot k b o h with ⟨hh, hf⟩ | ⟨hh, hf⟩ <;> rcases hfoot k' b o h' with ⟨hh', hf'⟩ | ⟨hh', hf'⟩
    · exact r.sep k k' b o hf hf'
    · exact absurd ((hZ b o).2 (.inr ⟨k, hh, hf⟩)) (r'.nz k' b o hf')
    · exact absurd ((hZ b o).2 (.inr ⟨k', hh', hf'⟩)) (r'.nz k b o hf)
    · exact r'.sep k k' b o hf hf'
  · have h : (if hid st.length fr k = true then cx.bx k else cx'.bx k) = some l := h
    rw [hget]
    split at h
    · rename_i hh; rw [if_pos hh]; exact r.domb k l h
    · rename_i hh; rw [if_neg hh]; exact r'.domb k l h
  · obtain ⟨n, e', hg⟩ := r'.domt k l h
    refine ⟨n, e', ?_⟩
    rw [hget, if_neg (fun hh => by rw [hnone k hh] at hg; cases hg)]
    exact hg
  · rcases hfoot k b o h with ⟨hh, hf⟩ | ⟨hh, hf⟩
    · exact r.nz k b o hf hz
    · exact r'.nz k b o hf ((hZ b o).2 (.inl hz))
  · have h : (if hid st.length fr k = true then cx.bx k else cx'.bx k) = some (b, o) := h
    split at h
    · exact Nat.lt_of_lt_of_le (r.bxlt k b o h) e.size
    · exact r'.bxlt k b o h
  · have h : (if hid st.length fr k = true then cx.bx k else cx'.bx k) = some (b, o) := h
    split at h
    · have hb := r.bxlt k b o h
      intro he
      subst he
      obtain ⟨k0, n0, e0, c0, z0, h0⟩ := e.rowold k' n e' b c z h' hb
      exact r.apart _ _ _ _ _ _ _ _ _ h h0 rfl
    · exact r'.apart _ _ _ _ _ _ _ _ _ h h'
theorem join_hide (fr : Fr) : joinFr fr (hideFr fr) = fr := by
  funext t
  unfold joinFr hideFr
  cases fr t with
  | none => rfl
  | some o => cases o <;> rfl
theorem hide_none {fr : Fr} : ∀ t cs, fr t = some (.cells cs) → hideFr fr t = none := fun t cs h => by unfold hideFr; rw [h]
theorem vis_low {L : Nat} {fr : Fr} {k : Key} (h : k.1 < L) : vis L fr k = true := by
  unfold vis
  cases hc : hid L fr k with
  | false => rfl
  | true => have := (hid_spec hc).1; omega
theorem RdL.hide {cx : Cx} {fr : Fr} {st : St} {w : World} {ds : List D} {vs : List Value} (h : RdL cx w ds vs) (ha : allL (vis st.length fr) ds = true) : RdL (cx.hide fr st) w ds vs :=
  ⟨h.1, fun j d x hd hx => (h.2 j d x hd hx).monoR hide_r (allL_get ha hd)⟩
end Go.Mx
