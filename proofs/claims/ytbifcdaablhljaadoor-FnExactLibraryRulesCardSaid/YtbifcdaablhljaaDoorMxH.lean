/- A slice that may be grown, for the abstract state. No condition. -/
import Derived.Test.YtbifcdaablhljaaDoorMxG
import Derived.Laws.Append
import Derived.Laws.Tables
namespace Go.Mx
set_option linter.unusedVariables false
/-! ### slices that grow -/
theorem Rel.tokStep {E : Setting} {cx : Cx} {st : St} {w : World} (r : Rel E cx st w) {key : Key} (hlt : key.1 < st.length) (hnc : ∀ cs, st.get key ≠ some (.cells cs)) {n : Nat} {e : TypeId} {tl : Option (Nat × Nat × Nat)} {w' : World} {M' : Nat → Nat → Prop}
    (hold : ∀ n0 l0, cx.tk key = some (n0, l0) → n0 ≤ n ∧ (n0 = n → l0 = (e, tl)))
    (h1 : w'.os = w.os) (h2 : w'.tape = w.tape) (h3 : w'.output = w.output) (h4 : w.heap.size ≤ w'.heap.size)
    (hblk : ∀ b, b < w.heap.size → (∀ o, ¬ cx.M b o) → w'.heap[b]? = w.heap[b]?)
    (hcell : ∀ b o, b < w.heap.size → (cx.M b o → cx.Z b o) → w'.cell? ⟨b, o, none⟩ = w.cell? ⟨b, o, none⟩)
    (hM : ∀ b o, M' b o → cx.M b o ∨ w.heap.size ≤ b) (hM2 : ∀ b o, M' b o → b < w'.heap.size) (hMZ : ∀ b o, cx.Z b o → M' b o) (hfz : ∀ b o, b < w.heap.size → w'.frozen? ⟨b, o, none⟩ = w.frozen? ⟨b, o, none⟩) (hrowold : ∀ g c z, tl = some (g, c, z) → g < w.heap.size → ∃ k0 n0 e0 c0 z0, cx.tk k0 = some (n0, e0, some (g, c0, z0)))
    (hother : ∀ k b o, k ≠ key → Mx.foot cx st k b o → w'.cell? ⟨b, o, none⟩ = w.cell? ⟨b, o, none⟩ ∧ w'.frozen? ⟨b, o, none⟩ = w.frozen? ⟨b, o, none⟩ ∧ M' b o)
    (hrows : ∀ k n' e' g c z, k ≠ key → cx.tk k = some (n', e', some (g, c, z)) → w'.heap[g]? = w.heap[g]?)
    (htl : ∀ g c z, tl = some (g, c, z) → n ≤ c ∧ c ≤ maxLen ∧ (∃ cur, w'.heap[g]? = some (.cells cur e (0, 0)) ∧ cur.size = c * z) ∧ (∀ o, n * z ≤ o → o < c * z → M' g o ∧ ¬ cx.Z g o) ∧
      (∀ k n' e' c' z', k ≠ key → cx.tk k ≠ some (n', e', some (g, c', z'))) ∧ (∀ k b o, cx.bx k = some (b, o) → b ≠ g)) :
    Rel E { bx := cx.bx, tk := fun k => if k = key then some (n, e, tl) else cx.tk k, M := M', Z := cx.Z } (st.set key (some (.tok n e))) w' ∧
      Ext (fun _ => true) cx w { bx := cx.bx, tk := fun k => if k = key then some (n, e, tl) else cx.tk k, M := M', Z := cx.Z } w' := by
  have hext : Ext (fun _ => true) cx w { bx := cx.bx, tk := fun k => if k = key then some (n, e, tl) else cx.tk k, M := M', Z := cx.Z } w' := by
    refine ⟨h1, h2, h3, h4, hblk, hcell, fun b o hb hm hm' => ?_, fun _ _ _ h => h, fun k n0 l0 _ h => ?_, rfl, fun k n0 e0 g c z h hg => ?_, hfz⟩
    · rcases hM b o hm' with h | h
      · exact hm h
      · omega
    · by_cases hk : k = key
      · subst hk
        obtain ⟨q1, q2⟩ := hold n0 l0 h
        exact ⟨n, (e, tl), if_pos rfl, q1, fun he => (q2 he.symm).symm⟩
      · exact ⟨n0, l0, (if_neg hk).trans h, Nat.le_refl _, fun _ => rfl⟩
    · have h : (if k = key then some (n, e, tl) else cx.tk k) = some (n0, e0, some (g, c, z)) := h
      split at h
      · cases h; exact hrowold g c z rfl hg
      · exact ⟨_, _, _, _, _, h⟩
  have hmono : ∀ {d x}, Rd cx w d x → Rd { bx := cx.bx, tk := fun k => if k = key then some (n, e, tl) else cx.tk k, M := M', Z := cx.Z } w' d x := fun h => h.mono hext (RelF.ext.all_true _)
  have hfoot : ∀ k b o, Mx.foot { bx := cx.bx, tk := fun k => if k = key then some (n, e, tl) else cx.tk k, M := M', Z := cx.Z } (st.set key (some (.tok n e))) k b o →
      (k = key ∧ ∃ c z, tl = some (b, c, z) ∧ n * z ≤ o ∧ o < c * z) ∨ (k ≠ key ∧ Mx.foot cx st k b o) := fun k b o h => by
    rcases h with ⟨cs, o0, q1, q2, q3, q4⟩ | ⟨n0, e0, c, z, q1, q2, q3, q4⟩
    · rw [St.get_set hlt] at q1
      by_cases hk : k = key
      · rw [if_pos hk] at q1; cases q1
      · rw [if_neg hk] at q1; exact .inr ⟨hk, .inl ⟨cs, o0, q1, q2, q3, q4⟩⟩
    · rw [St.get_set hlt] at q1
      by_cases hk : k = key
      · rw [if_pos hk] at q1; cases q1
        simp only [hk, if_true] at q2
        cases q2
        exact .inl ⟨hk, c, z, rfl, q3, q4⟩
      · rw [if_neg hk] at q1
        simp only [hk, if_false] at q2
        exact .inr ⟨hk, .inr ⟨n0, e0, c, z, q1, q2, q3, q4⟩⟩
  have hblkne : ∀ k k' b o, (k = key ∧ ∃ c z, tl = some (b, c, z) ∧ n * z ≤ o ∧ o < c * z) → (k' ≠ key ∧ Mx.foot cx st k' b o) → False := fun k k' b o h h' => by
    obtain ⟨_, c, z, ht, _⟩ := h
    obtain ⟨_, _, _, _, q5, q6⟩ := htl b c z ht
    obtain ⟨hk', hf⟩ := h'
    rcases hf with ⟨cs, o0, g1, g2, _⟩ | ⟨n0, e0, c0, z0, g1, g2, _⟩
    · exact q6 _ _ _ g2 rfl
    · exact q5 _ _ _ _ _ hk' g2
  refine ⟨⟨fun k cs h => ?_, fun k n0 e0 h => ?_, fun k b o h => ?_, fun k k' b o h h' => ?_, fun k l h => ?_, fun k l h => ?_, hM2, fun k b o h hz => ?_, hMZ, fun k b o h => Nat.lt_of_lt_of_le (r.bxlt k b o h) h4, fun k k' b o n0 e0 g c z h h' => ?_, fun k k' n0 e0 n1 e1 g c z c1 z1 h h' => ?_, fun g => hmono (r.glob g)⟩, hext⟩
  · rw [St.get_set hlt] at h
    by_cases hk : k = key
    · rw [if_pos hk] at h; cases h
    · rw [if_neg hk] at h
      obtain ⟨q1, b, o, q2, q3⟩ := r.cells k cs h
      refine ⟨q1, b, o, q2, fun j d hj => ?_⟩
      obtain ⟨x, hx, hrd⟩ := q3 j d hj
      refine ⟨x, ?_, hmono hrd⟩
      rw [(hother k b (o + j) hk (.inl ⟨cs, o, h, q2, by omega, by have := (List.getElem?_eq_some_iff.1 hj).1; omega⟩)).1]; exact hx
  · rw [St.get_set hlt] at h
    by_cases hk : k = key
    · rw [if_pos hk] at h; cases h
      refine ⟨tl, if_pos hk, ?_⟩
      cases htl' : tl with
      | none => trivial
      | some l => obtain ⟨g, c, z⟩ := l; obtain ⟨q1, q2, q3, _⟩ := htl g c z htl'; exact ⟨q1, q2, q3⟩
    · rw [if_neg hk] at h
      obtain ⟨tl0, q1, q2⟩ := r.tok k n0 e0 h
      refine ⟨tl0, (if_neg hk).trans q1, ?_⟩
      match tl0, q1, q2 with
      | none, _, _ => trivial
      | some (g, c, z), q1, ⟨g1, g2, cur, g3, g4⟩ => exact ⟨g1, g2, cur, by rw [hrows k n0 e0 g c z hk q1]; exact g3, g4⟩
  · rcases hfoot k b o h with ⟨_, c, z, ht, q1, q2⟩ | ⟨hk, hf⟩
    · obtain ⟨_, _, ⟨cur, g1, g2⟩, g3, _⟩ := htl b c z ht
      refine ⟨?_, ?_, (g3 o q1 q2).1⟩
      · exact ⟨cur[o]'(by omega), by simp only [World.cell?, g1]; simp⟩
      · simp only [World.frozen?, g1]; simp
    · obtain ⟨g1, g2, g3⟩ := hother k b o hk hf
      obtain ⟨q1, q2, q3⟩ := r.foot k b o hf
      exact ⟨by rw [g1]; exact q1, by rw [g2]; exact q2, g3⟩
  · rcases hfoot k b o h with q1 | q1 <;> rcases hfoot k' b o h' with q2 | q2
    · rw [q1.1, q2.1]
    · exact (hblkne _ _ _ _ q1 q2).elim
    · exact (hblkne _ _ _ _ q2 q1).elim
    · exact r.sep k k' b o q1.2 q2.2
  · obtain ⟨cs, hcs⟩ := r.domb k l h
    exact ⟨cs, by rw [St.get_set hlt, if_neg (fun he => by subst he; exact hnc cs hcs)]; exact hcs⟩
  · by_cases hk : k = key
    · exact ⟨n, e, by rw [St.get_set hlt, if_pos hk]⟩
    · have h' : cx.tk k = some l := by have h0 : (if k = key then some (n, e, tl) else cx.tk k) = some l := h; rwa [if_neg hk] at h0
      obtain ⟨n0, e0, q⟩ := r.domt k l h'
      exact ⟨n0, e0, by rw [St.get_set hlt, if_neg hk]; exact q⟩
  · rcases hfoot k b o h with ⟨_, c, z, ht, q1, q2⟩ | ⟨hk, hf⟩
    · exact ((htl b c z ht).2.2.2.1 o q1 q2).2 hz
    · exact r.nz k b o hf hz
  · have h0 : (if k' = key then some (n, e, tl) else cx.tk k') = some (n0, e0, some (g, c, z)) := h'
    split at h0
    · cases h0; exact (htl g c z rfl).2.2.2.2.2 k b o h
    · exact r.apart k k' b o n0 e0 g c z h h0
  · have g0 : (if k = key then some (n, e, tl) else cx.tk k) = some (n0, e0, some (g, c, z)) := h
    have g1 : (if k' = key then some (n, e, tl) else cx.tk k') = some (n1, e1, some (g, c1, z1)) := h'
    split at g0 <;> split at g1
    · rename_i a b; rw [a, b]
    · rename_i a b; cases g0; exact absurd g1 ((htl g c z rfl).2.2.2.2.1 k' n1 e1 c1 z1 b)
    · rename_i a b; cases g1; exact absurd g0 ((htl g c1 z1 rfl).2.2.2.2.1 k n0 e0 c z a)
    · exact r.rows k k' n0 e0 n1 e1 g c z c1 z1 g0 g1
/-- The cells of a slice, one behind the other. -/
theorem flat_of {cx : Cx} {w : World} {sz : Nat} {tok : Tok} {xs : List (List D)} {v : Value} (hsz : 0 < sz) (h : Rd cx w (.sl sz tok xs) v) :
    ∃ a cap, v = .slice a xs.length cap ∧ xs.length ≤ cap ∧ cap ≤ maxLen ∧ TokOk cx a xs.length cap sz tok ∧ (∀ (i : Nat) cs, xs[i]? = some cs → cs.length = sz) ∧ ∃ fl : List Value, fl.length = xs.length * sz ∧
      (∀ (i j : Nat) cs d, xs[i]? = some cs → cs[j]? = some d → ∃ y, fl[i * sz + j]? = some y ∧ Rd cx w d y) ∧
      (xs ≠ [] → ∃ A : Nat × Nat, a = some ⟨A.1, A.2, none⟩ ∧ ∀ (q : Nat) y, fl[q]? = some y → w.cell? ⟨A.1, A.2 + q, none⟩ = some y ∧ ¬ cx.M A.1 (A.2 + q)) := by
  obtain ⟨a, cap, rfl, h1, h2, h3, h4, A, hA, hc⟩ := rd_sl_inv h
  let f : Nat → Value := fun q => ((w.cell? ⟨A.1, A.2 + q, none⟩).getD undef)
  have hq : ∀ q, q < xs.length * sz → ∃ cs d, xs[q / sz]? = some cs ∧ cs[q % sz]? = some d ∧ q / sz * sz + q % sz = q := fun q hq => by
    have hlt : q / sz < xs.length := (Nat.div_lt_iff_lt_mul hsz).2 hq
    have hm : q % sz < sz := Nat.mod_lt _ hsz
    have e1 : xs[q / sz]? = some xs[q / sz] := List.getElem?_eq_getElem hlt
    have e2 := h3 _ _ e1
    exact ⟨_, _, e1, List.getElem?_eq_getElem (by omega), by rw [Nat.mul_comm]; exact Nat.div_add_mod q sz⟩
  refine ⟨a, cap, rfl, h1, h2, h4, h3, (List.range (xs.length * sz)).map f, by simp, fun i j cs d hi hj => ?_, fun hne => ⟨A, hA hne, fun q y hy => ?_⟩⟩
  · obtain ⟨y, hy, hm, hr⟩ := hc i j cs d hi hj
    have hlt : i * sz + j < xs.length * sz := by
      have a1 := (List.getElem?_eq_some_iff.1 hi).1
      have a2 := (List.getElem?_eq_some_iff.1 hj).1
      have a3 := h3 i cs hi
      calc i * sz + j < i * sz + sz := by omega
        _ = (i + 1) * sz := by rw [Nat.add_mul, Nat.one_mul]
        _ ≤ xs.length * sz := Nat.mul_le_mul_right _ a1
    refine ⟨y, ?_, hr⟩
    rw [List.getElem?_map, List.getElem?_range hlt]
    simp only [Option.map_some, f]
    rw [← Nat.add_assoc, hy]; rfl
  · have hlt : q < xs.length * sz := by have := (List.getElem?_eq_some_iff.1 hy).1; simpa using this
    rw [List.getElem?_map, List.getElem?_range hlt] at hy
    simp only [Option.map_some, Option.some.injEq] at hy
    obtain ⟨cs, d, e1, e2, e3⟩ := hq q hlt
    obtain ⟨z, hz, hm, _⟩ := hc _ _ cs d e1 e2
    rw [Nat.add_assoc, e3] at hz hm
    subst hy
    simp only [f, hz]
    exact ⟨rfl, hm⟩
end Go.Mx
