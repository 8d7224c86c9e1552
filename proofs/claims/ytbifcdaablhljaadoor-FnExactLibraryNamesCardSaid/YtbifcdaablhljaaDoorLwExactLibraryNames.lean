/- Plain laws of models. No condition. -/
import Derived.Test.YtbifcdaablhljaaDoorMdExactLibraryNames
import Derived.Test.YtbifcdaablhljaaDoorEvTri
namespace Go.Ev
open Go.Mx (KD ED EObj forL forI seqS iterM)
set_option linter.unusedVariables false
set_option linter.unusedSimpArgs false
theorem w10 {x : Int} (h0 : 0 ≤ x) (h1 : x ≤ 4611686018427387904) : w64 (x.tdiv 10) = x.tdiv 10 ∧ 0 ≤ x.tdiv 10 ∧ x.tdiv 10 ≤ x ∧ (0 < x → x.tdiv 10 < x) := by
  have e : x.tdiv 10 = x / 10 := Int.tdiv_eq_ediv_of_nonneg h0
  rw [e]
  exact ⟨w_id (by omega) (by omega), by omega, by omega, fun _ => by omega⟩
/-- The text of a mark. -/
theorem markText_ex (k : Int) (hk : k ≤ 4611686018427387904) : Ex (fun n => la_markText n k) (fun _ => True) := by
  unfold la_markText
  refine .ite (fun _ => .pure trivial) (fun h => ?_)
  refine .iter (fun s => s.1.toNat) (fun s => 0 ≤ s.1 ∧ s.1 ≤ k ∧ (s.2.length : Int) + s.1 ≤ k) (k, []) ⟨by omega, by omega, by simp⟩ ?_
  rintro ⟨m, t⟩ ⟨h0, h1, h2⟩
  simp only at h0 h1 h2
  refine .ite (fun h => ?_) (fun h => ?_)
  · obtain ⟨g1, g2, g3, g4⟩ := w10 h0 (by omega)
    have e : m.tmod 10 = m % 10 := Int.tmod_eq_emod_of_nonneg h0
    refine .bp _ (rem_some (by decide)) ?_
    refine .bp _ (u8B_of ?_ ?_) ?_
    · rw [IntKind.wrap_u8]; omega
    · rw [IntKind.wrap_u8]; omega
    refine .bp _ (catS_ok (by simp only [List.length_singleton]; omega)) ?_
    refine .bp _ (quo_some (by decide)) ?_
    refine .go ⟨?_, ?_, ?_⟩ ?_
    · show 0 ≤ w64 _; rw [g1]; exact g2
    · show w64 _ ≤ k; rw [g1]; omega
    · show (([_] ++ t).length : Int) + w64 (m.tdiv 10) ≤ k
      rw [g1]; simp only [List.length_append, List.length_singleton]; have := g4 h; omega
    · show (w64 (m.tdiv 10)).toNat < m.toNat
      rw [g1]; have := g4 h; omega
  · refine .bp _ (catS_ok (by simp only [List.length_singleton]; omega)) ?_
    exact .out trivial
theorem markText_tot : ∃ mt : Int → List UInt8, ∀ k, k ≤ 4611686018427387904 → Evt (fun n => la_markText n k) (mt k) := by
  refine ⟨fun k => if h : k ≤ 4611686018427387904 then Classical.choose (markText_ex k h) else [], fun k h => ?_⟩
  simp only [dif_pos h]
  exact (Classical.choose_spec (markText_ex k h)).1
noncomputable def mT : Int → List UInt8 := Classical.choose markText_tot
theorem mT_evt {k : Int} (h : k ≤ 4611686018427387904) : Evt (fun n => la_markText n k) (mT k) := Classical.choose_spec markText_tot k h
/-- What marking a row of texts leaves. -/
noncomputable def mkS_ (k : Int) (n : Nat) : List (List UInt8) := (List.range n).map fun (i : Nat) => mT (k + (i : Int))
theorem set_take {α : Type} {l m : List α} {i : Nat} {x : α} (hl : l.length = m.length) (h1 : l.take i = m.take i) (h2 : l.drop i = l.drop i) (hx : m[i]? = some x) : (l.set i x).take (i + 1) = m.take (i + 1) := by
  apply List.ext_getElem?
  intro j
  have hi : i < m.length := (List.getElem?_eq_some_iff.1 hx).1
  rw [List.getElem?_take, List.getElem?_take]
  by_cases hj : j < i + 1
  · rw [if_pos hj, if_pos hj, List.getElem?_set]
    by_cases hij : i = j
    · subst hij; rw [if_pos rfl, if_pos (by omega), hx]
    · rw [if_neg hij]
      have := congrArg (·[j]?) h1
      simp only [List.getElem?_take] at this
      rw [if_pos (by omega), if_pos (by omega)] at this
      exact this
  · rw [if_neg hj, if_neg hj]
theorem markStringS_evt (xs : List (List UInt8)) (k : Int) (hk : 0 ≤ k) (hb : k + xs.length ≤ 4611686018427387904) : Evt (fun n => la_markStringS n xs k) (k + xs.length, mkS_ k xs.length) := by
  refine Ex.evt ?_
  unfold la_markStringS
  have hml : (mkS_ k xs.length).length = xs.length := by simp [mkS_]
  refine .iter (fun s => xs.length - s.2.1.toNat) (fun s => ∃ i : Nat, s.2.1 = (i : Int) ∧ i ≤ xs.length ∧ s.1 = k + (i : Int) ∧ s.2.2.length = xs.length ∧ s.2.2.take i = (mkS_ k xs.length).take i) (k, 0, xs) ⟨0, rfl, Nat.zero_le _, by simp, rfl, by simp⟩ ?_
  rintro ⟨k1, j, l⟩ ⟨i, rfl, h1, rfl, h2, h3⟩
  simp only at h1 h2 h3
  refine .ite (fun h => ?_) (fun h => ?_)
  · have hi : i < xs.length := by have h : (i : Int) < (l.length : Int) := h; omega
    have hx : (mkS_ k xs.length)[i]? = some (mT (k + i)) := by simp [mkS_, hi]
    refine .bv (mT_evt (by show k + (i : Int) ≤ _; omega)) ?_
    refine .bp () (inB_ok (Int.natCast_nonneg i) (by simp only [Int.toNat_natCast]; omega)) ?_
    refine .bp l[i] (by simp only [Int.toNat_natCast]; exact List.getElem?_eq_getElem (by omega)) ?_
    have e1 : w64 (k + (i : Int) + 1) = k + ((i + 1 : Nat) : Int) := by rw [w_id (by omega) (by omega)]; omega
    have e2 : w64 ((i : Int) + 1) = ((i + 1 : Nat) : Int) := by rw [w_id (by omega) (by omega)]; omega
    refine .go ⟨i + 1, e2, by omega, e1, by simp [h2], ?_⟩ ?_
    · simp only [Int.toNat_natCast]
      exact set_take (by omega) h3 rfl hx
    · show xs.length - (w64 ((i : Int) + 1)).toNat < xs.length - ((i : Int)).toNat
      rw [e2]; simp only [Int.toNat_natCast]; omega
  · have hi : i = xs.length := by have h : ¬ (i : Int) < (l.length : Int) := h; omega
    subst hi
    refine .out ?_
    rw [List.take_of_length_le (by omega), List.take_of_length_le (by omega)] at h3
    rw [h3]
theorem heldStringS_evt (k : Int) (m : Nat) (hk : 0 ≤ k) (hb : k + m ≤ 4611686018427387904) : Evt (fun n => la_heldStringS_v n (mkS_ k m) k) (k + m) := by
  refine Ex.evt ?_
  unfold la_heldStringS_v
  have hml : (mkS_ k m).length = m := by simp [mkS_]
  refine .seqS (P := fun r => r = .inr (k + m)) ?_ (fun w h => by cases h) (fun t h => by cases h; exact .pure rfl)
  refine .forI (fun i q s => (mkS_ k m).drop i = q ∧ s = k + (i : Int)) ⟨rfl, by simp⟩ ?_ (fun s h => by rw [h.2, hml])
  rintro i x q s ⟨h1, rfl⟩
  obtain ⟨g1, g2, g3, g4⟩ := drop_hd h1
  have hx : x = mT (k + i) := by
    rw [mkS_, List.getElem?_map, List.getElem?_range (by omega)] at g1
    simp only [Option.map_some, Option.some.injEq] at g1
    exact g1.symm
  refine .bv (mT_evt (by omega)) ?_
  refine .neg (by rw [hx]; simp) ?_
  refine .fg ?_
  exact ⟨g2, by rw [w_id (by omega) (by omega)]; omega⟩
theorem eqStringS_evt (xs : List (List UInt8)) : Evt (fun n => la_eqStringS n xs xs) true := by
  refine Ex.evt ?_
  unfold la_eqStringS
  refine .neg (by simp) ?_
  refine .seqS (P := fun r => r = .inr ()) ?_ (fun w h => by cases h) (fun t h => .pure rfl)
  refine .forI (fun i q _ => xs.drop i = q) rfl ?_ (fun s _ => rfl)
  rintro i x q s h1
  obtain ⟨g1, g2, g3, g4⟩ := drop_hd h1
  refine .bp x (atI_nat g1) ?_
  refine .neg (by simp) ?_
  refine .fg ?_
  exact g2
theorem exLibraryNames : Evt (fun n => la_FnExactLibraryNames n) true := by
  have hc : ∀ n, im_LibraryNames n = some lp0 := fun n => by
    unfold im_LibraryNames slices_Clone_string
    rw [apB_ok (by decide)]; rfl
  have hs : ∀ n, sp_LibraryNames n = some lp0 := fun n => rfl
  have hl : lp0.length = 7 := rfl
  refine Ex.evt ?_
  unfold la_FnExactLibraryNames
  refine .bv (.const (hs 0)) ?_
  refine .bv (.const (hc 0)) ?_
  refine .bv (eqStringS_evt lp0) ?_
  refine .neg (by simp) ?_
  refine .bv (markStringS_evt lp0 1 (by omega) (by rw [hl]; decide)) ?_
  refine .bp () (lenB_of (by simp [mkS_])) ?_
  refine .bv (heldStringS_evt 1 lp0.length (by omega) (by rw [hl]; decide)) ?_
  refine .neg (by omega) ?_
  refine .neg (by simp) ?_
  refine .bv (.const (hc 0)) ?_
  refine .bv (eqStringS_evt lp0) ?_
  refine .neg (by simp) ?_
  refine .bv (heldStringS_evt 1 lp0.length (by omega) (by rw [hl]; decide)) ?_
  refine .neg (by omega) ?_
  refine .neg (by simp) ?_
  exact .pure rfl
theorem lawExactLibraryNames : Mx.ACall X.E 4 [] [] fun d _ => d = .v (.bool true) := by
  obtain ⟨N, h⟩ := exLibraryNames
  exact call_true (w_la_FnExactLibraryNames N (h N (Nat.le_refl _))) rfl
end Go.Ev
