/- Plain laws. No condition. -/
import Derived.Test.YtbifcdaablhljaaEvTwo
import Derived.Test.YtbifcdaablhljaaMdTry
namespace Go.Ev
open Go.Mx (KD ED EObj forL forI seqS iterM)
set_option linter.unusedVariables false
set_option linter.unusedSimpArgs false
theorem l38 (f : Form) (h : wF f ≤ 1073741824) : Evt (fun n => m38 n f) f := by
  have hw := wF_eq f
  refine .succ ?_
  simp only [m38]
  refine .bind (a := f.scopes) (.const (apB_nil (by omega))) (.bind (a := f.kids) ?_ (.const (by cases f; rfl)))
  exact copyA_ev (m := fun n x => m38 n x) (be := 80) (by omega) (fun x hx => l38 x (by have := wFs_mem hx; omega))
termination_by SizeOf.sizeOf f
decreasing_by exact szF_lt hx
theorem l36 (f : Core) (h : wC f ≤ 1073741824) : Evt (fun n => m36 n f) f := by
  have hw := wC_eq f
  refine .succ ?_
  simp only [m36]
  refine .bind (a := f.ids) (.const (apB_nil (by omega))) (.bind (l38 _ (by omega)) (.bind (a := f.kids) ?_ (.const (by cases f; rfl))))
  exact copyA_ev (m := fun n x => m36 n x) (be := 168) (by omega) (fun x hx => l36 x (by have := wCs_mem hx; omega))
termination_by SizeOf.sizeOf f
decreasing_by exact szC_lt hx
theorem l29 {a : Int} {r : L15Rd} {B : Int} (h : Gd r B) (hB : 1 ≤ B) : ∃ v r', Evt (fun n => m29 n a r) (v, r') ∧ Sp r r' 1 ∧ (1 ≤ a → 0 ≤ v ∧ v < a) := pick_ev h hB
theorem l28 {l : List Int} {r : L15Rd} {B : Int} (hl : 1 ≤ l.length) (h : Gd r B) (hB : 1 ≤ B) : ∃ x r', Evt (fun n => m28 n l r) (x, r') ∧ Sp r r' 1 ∧ x ∈ l := num_ev hl h hB
theorem l35 {l : List (List UInt8)} {r : L15Rd} {B : Int} (hl : 1 ≤ l.length) (h : Gd r B) (hB : 1 ≤ B) : ∃ x r', Evt (fun n => m35 n l r) (x, r') ∧ Sp r r' 1 ∧ x ∈ l := num_ev hl h hB
def B34 : Nat → Int
  | 0 => 3
  | d + 1 => 3 + 3 * B34 d
def W34 : Nat → Nat
  | 0 => 4
  | d + 1 => 7 + 3 * W34 d
theorem B34_pos : ∀ d, 3 ≤ B34 d
  | 0 => by simp [B34]
  | d + 1 => by have := B34_pos d; simp only [B34]; omega
theorem wFs_app : ∀ (a b : List Form), wFs (a ++ b) = wFs a + wFs b
  | [], b => by simp [wFs]
  | x :: a, b => by simp only [List.cons_append, wFs, wFs_app a b]; omega
theorem leafF {r : L15Rd} (h : Gd r 2) : ∃ f r', Evt (fun n => (m29 n 4 r).bind fun k3 => (if k3.1 = 0 then (m28 n [0, 1, 2, 7, 42, 999] k3.2).bind fun k5 => some ((⟨2, [], k5.1, [], []⟩ : Form), k5.2) else (m35 n [[97], [98], [120], [121], [102], [105, 102], [108, 101, 116], [43]] k3.2).bind fun k6 => (m37 n k6.1).bind fun k7 => some (k7, k6.2))) (f, r') ∧ Sp r r' 2 ∧ wF f ≤ 3 := by
  obtain ⟨v, r1, h1, s1, _⟩ := l29 (a := 4) h (by omega)
  by_cases hv : v = 0
  · obtain ⟨x, r2, h2, s2, _⟩ := l28 (l := [0, 1, 2, 7, 42, 999]) (by simp) (h.to s1 (D := 1) (by omega)) (by omega)
    exact ⟨_, r2, h1.bind (g := fun n k3 => (if k3.1 = 0 then (m28 n [0, 1, 2, 7, 42, 999] k3.2).bind fun k5 => some ((⟨2, [], k5.1, [], []⟩ : Form), k5.2) else (m35 n [[97], [98], [120], [121], [102], [105, 102], [108, 101, 116], [43]] k3.2).bind fun k6 => (m37 n k6.1).bind fun k7 => some (k7, k6.2))) (.pos hv (h2.bind (g := fun _ k5 => some ((⟨2, [], k5.1, [], []⟩ : Form), k5.2)) (.pure _))), s1.trans s2 (by omega), by simp [wF, wFs]⟩
  · obtain ⟨x, r2, h2, s2, hm⟩ := l35 (l := [[97], [98], [120], [121], [102], [105, 102], [108, 101, 116], [43]]) (by simp) (h.to s1 (D := 1) (by omega)) (by omega)
    refine ⟨_, r2, h1.bind (g := fun n k3 => (if k3.1 = 0 then (m28 n [0, 1, 2, 7, 42, 999] k3.2).bind fun k5 => some ((⟨2, [], k5.1, [], []⟩ : Form), k5.2) else (m35 n [[97], [98], [120], [121], [102], [105, 102], [108, 101, 116], [43]] k3.2).bind fun k6 => (m37 n k6.1).bind fun k7 => some (k7, k6.2))) (.neg hv (h2.bind (g := fun n k6 => (m37 n k6.1).bind fun k7 => some (k7, k6.2)) (.const (by simp only [m37]; rfl)))), s1.trans s2 (by omega), ?_⟩
    simp only [List.mem_cons, List.not_mem_nil, or_false] at hm
    rcases hm with rfl | rfl | rfl | rfl | rfl | rfl | rfl | rfl <;> simp [wF, wFs]
theorem l34 : ∀ (d : Nat), d ≤ 10 → ∀ (r : L15Rd), Gd r (B34 d) → ∃ f r', Evt (fun n => m34 n (d : Int) r) (f, r') ∧ Sp r r' (B34 d) ∧ wF f ≤ W34 d := by
  intro d
  induction d with
  | zero =>
    intro _ r h
    have h : Gd r 3 := h
    obtain ⟨f, r', h1, s1, w1⟩ := leafF (h.to (.refl (Int.le_refl 0)) (D := 2) (by omega))
    refine ⟨f, r', .succ ?_, s1.mono (by simp [B34]), by simp only [W34]; omega⟩
    simp only [m34]
    exact Evt.bind (a := (true, r)) (g := fun n o1 => _) (.pos rfl (.pure _)) (.pos rfl h1)
  | succ d ih =>
    intro hd r h
    have ih := ih (by omega)
    have hB := B34_pos d
    have h : Gd r (3 + 3 * B34 d) := h
    obtain ⟨v, r1, h1, s1, hv⟩ := l29 (a := 3) h (by omega)
    have g1 : Gd r1 (2 + 3 * B34 d) := h.to s1 (by omega)
    by_cases hv0 : v = 0
    · obtain ⟨f, r', h2, s2, w2⟩ := leafF (h.to s1 (D := 2) (by omega))
      refine ⟨f, r', .succ ?_, s1.trans s2 (by simp only [B34]; omega), by simp only [W34]; omega⟩
      simp only [m34]
      refine Evt.bind (a := (true, r1)) (g := fun n o1 => _) (.neg (by omega) (h1.bind (g := fun _ k15 => some ((decide (k15.1 = 0)), k15.2)) (.const (by simp [hv0])))) (.pos rfl h2)
    · obtain ⟨c, r2, h2, s2, hc⟩ := l29 (a := 4) g1 (by omega)
      obtain ⟨hc0, hc1⟩ := hc (by omega)
      have g2 : Gd r2 (3 * B34 d) := g1.to s2 (by omega)
      obtain ⟨⟨f, r'⟩, h3, hs3, w3⟩ := iter_ev (ω := Form × L15Rd) (step := fun n (s9 : Int × (List Form) × (List UInt8) × Int) => ((if s9.1 > 0 then (m34 n (w64 (((d + 1 : Nat) : Int) - 1)) (⟨s9.2.2.1, s9.2.2.2⟩ : L15Rd)).bind fun k12 => (apB 80 s9.2.1 [k12.1]).bind fun z13 => some (Sum.inr ((w64 (s9.1 - 1)), z13, k12.2.b, k12.2.p)) else some (Sum.inl ((⟨3, [], 0, [], s9.2.1⟩ : Form), (⟨s9.2.2.1, s9.2.2.2⟩ : L15Rd)))) : Option ((Form × L15Rd) ⊕ (Int × (List Form) × (List UInt8) × Int))))
        (fun s => s.1.toNat) (fun s => ∃ j : Nat, (j : Int) ≤ c ∧ s.1 = c - j ∧ Sp r2 ⟨s.2.2.1, s.2.2.2⟩ (j * B34 d) ∧ s.2.1.length = j ∧ wFs s.2.1 ≤ j * W34 d) (fun y => Sp r2 y.2 (3 * B34 d) ∧ wF y.1 ≤ 3 + 3 * W34 d)
        (fun ⟨cnt, l, b, p⟩ ⟨j, j0, j1, j2, j3, j4⟩ => by
          simp only at j1 j2 j3 j4 ⊢
          by_cases hp : cnt > 0
          · right
            have hj : j = 0 ∨ j = 1 ∨ j = 2 := by omega
            have gj : Gd ⟨b, p⟩ (B34 d) := g2.to j2 (by rcases hj with rfl | rfl | rfl <;> simp <;> omega)
            obtain ⟨f, r', k1, k2, k3⟩ := ih _ gj
            have e1 : w64 (((d + 1 : Nat) : Int) - 1) = (d : Int) := by rw [w_id (by omega) (by omega)]; omega
            have e2 : w64 (cnt - 1) = cnt - 1 := w_id (by omega) (by omega)
            have hap : apB 80 l [f] = some (l ++ [f]) := by unfold apB; rw [if_pos (by simp; omega)]
            refine ⟨(cnt - 1, l ++ [f], r'.b, r'.p), .pos hp ?_, ⟨j + 1, by omega, by simp only; omega, ?_, by simp; omega, ?_⟩, by simp only; omega⟩
            · rw [e1, e2]
              exact k1.bind (g := fun _ k12 => (apB 80 l [k12.1]).bind fun z13 => some (Sum.inr (cnt - 1, z13, k12.2.b, k12.2.p))) (.const (bindE (f := fun z13 => some (Sum.inr (cnt - 1, z13, r'.b, r'.p))) hap rfl))
            · refine j2.trans (D := ((j + 1 : Nat) : Int) * B34 d) k2 ?_
              rcases hj with rfl | rfl | rfl <;> simp <;> omega
            · simp only [wFs_app, wFs]
              rcases hj with rfl | rfl | rfl <;> omega
          · left
            have hj : j = 0 ∨ j = 1 ∨ j = 2 ∨ j = 3 := by omega
            refine ⟨_, .neg hp (.pure _), ?_, ?_⟩
            · exact j2.mono (by rcases hj with rfl | rfl | rfl | rfl <;> simp <;> omega)
            · simp only [wF, List.length_nil]
              rcases hj with rfl | rfl | rfl | rfl <;> omega)
        (c, [], r2.b, r2.p) ⟨0, by omega, by simp, by simpa using (Sp.refl (r := r2) (Int.le_refl 0)), rfl, by simp [wFs]⟩
      refine ⟨f, r', .succ ?_, s1.trans (s2.trans hs3 (D := 1 + 3 * B34 d) (by omega)) (by simp only [B34]; omega), by simp only [W34]; simp only at w3; omega⟩
      simp only [m34]
      refine Evt.bind (a := (false, r1)) (g := fun n o1 => _) (.neg (by omega) (h1.bind (g := fun _ k15 => some ((decide (k15.1 = 0)), k15.2)) (.const (by simp [hv0])))) (.neg (by simp) (h2.bind (g := fun n k8 => _) h3))
def B27 : Nat → Int
  | 0 => 20
  | d + 1 => 20 + 3 * B27 d
def W27 : Nat → Nat
  | 0 => 30
  | d + 1 => 30 + 3 * W27 d
theorem B27_pos : ∀ d, 20 ≤ B27 d
  | 0 => by simp [B27]
  | d + 1 => by have := B27_pos d; simp only [B27]; omega
theorem W27_pos : ∀ d, 30 ≤ W27 d
  | 0 => by simp [W27]
  | d + 1 => by have := W27_pos d; simp only [W27]; omega
theorem wCs_app : ∀ (a b : List Core), wCs (a ++ b) = wCs a + wCs b
  | [], b => by simp [wCs]
  | x :: a, b => by simp only [List.cons_append, wCs, wCs_app a b]; omega
def leafX (n : Nat) (a1 : List Int) (a3 : Int) (r : L15Rd) : Option (Core × Int × L15Rd) :=
  Option.bind ((if (a1.length : Int) > 0 then (m29 n 3 r).bind fun k15 => some ((decide (k15.1 > 0)), k15.2) else some (false, r)) : Option (Bool × L15Rd)) (fun (o3 : Bool × L15Rd) => (if o3.1 = true then (m29 n (a1.length : Int) o3.2).bind fun k5 => (atI a1 k5.1).bind fun e6 => some ((⟨1, e6, [], 0, [], (⟨0, [], 0, [], []⟩ : Form), []⟩ : Core), a3, k5.2) else (m29 n 4 o3.2).bind fun k8 => (if k8.1 = 0 then (m34 n 1 k8.2).bind fun k10 => some ((⟨4, 0, [], 0, [], k10.1, []⟩ : Core), a3, k10.2) else (if k8.1 = 1 then (m35 n [[102], [43], [108, 105, 115, 116]] k8.2).bind fun k12 => some ((⟨2, 0, k12.1, 0, [], (⟨0, [], 0, [], []⟩ : Form), []⟩ : Core), a3, k12.2) else (m28 n [0, 1, 5, 42] k8.2).bind fun k13 => some ((⟨3, 0, [], k13.1, [], (⟨0, [], 0, [], []⟩ : Form), []⟩ : Core), a3, k13.2)))))
theorem leafC {a1 : List Int} {a3 : Int} {r : L15Rd} (h : Gd r 19) : ∃ f r', Evt (fun n => leafX n a1 a3 r) (f, a3, r') ∧ Sp r r' 19 ∧ wC f ≤ 30 := by
  unfold leafX
  obtain ⟨b0, r1, h1, s1, hb⟩ : ∃ (b0 : Bool) (r1 : L15Rd), Evt (fun n => ((if (a1.length : Int) > 0 then (m29 n 3 r).bind fun k15 => some ((decide (k15.1 > 0)), k15.2) else some (false, r)) : Option (Bool × L15Rd))) (b0, r1) ∧ Sp r r1 1 ∧ (b0 = true → 1 ≤ a1.length) := by
    by_cases hl : (a1.length : Int) > 0
    · obtain ⟨v, r1, h1, s1, _⟩ := l29 (a := 3) h (by omega)
      exact ⟨_, r1, .pos hl (h1.bind (g := fun _ k15 => some ((decide (k15.1 > 0)), k15.2)) (.pure _)), s1, fun _ => by omega⟩
    · exact ⟨false, r, .neg hl (.pure _), .refl (by omega), fun h => by cases h⟩
  have g1 : Gd r1 18 := h.to s1 (by omega)
  cases b0 with
  | true =>
    obtain ⟨v, r2, h2, s2, hv⟩ := l29 (a := (a1.length : Int)) g1 (by omega)
    have hl := hb rfl
    obtain ⟨v0, v1⟩ := hv (by omega)
    obtain ⟨x, hx, _⟩ := elem_ok v0 v1
    refine ⟨_, r2, h1.bind (.pos rfl (h2.bind (g := fun _ k5 => (atI a1 k5.1).bind fun e6 => some ((⟨1, e6, [], 0, [], (⟨0, [], 0, [], []⟩ : Form), []⟩ : Core), a3, k5.2)) (.const (bindE (f := fun e6 => some ((⟨1, e6, [], 0, [], (⟨0, [], 0, [], []⟩ : Form), []⟩ : Core), a3, r2)) hx rfl)))), (s1.trans s2 (D := 2) (by omega)).mono (by omega), by simp [wC, wCs, wF, wFs]⟩
  | false =>
    obtain ⟨v, r2, h2, s2, _⟩ := l29 (a := 4) g1 (by omega)
    have g2 : Gd r2 17 := g1.to s2 (by omega)
    have e34 : B34 1 = 12 := by simp [B34]
    by_cases hv : v = 0
    · obtain ⟨f, r3, h3, s3, w3⟩ := l34 1 (by omega) r2 (by rw [e34]; exact ⟨g2.1, by have := g2.2.1; omega, g2.2.2⟩)
      rw [e34] at s3
      refine ⟨_, r3, h1.bind (.neg (by simp) (h2.bind (g := fun n k8 => _) (.pos hv (h3.bind (g := fun _ k10 => some ((⟨4, 0, [], 0, [], k10.1, []⟩ : Core), a3, k10.2)) (.pure _))))), (s1.trans (s2.trans s3 (D := 13) (by omega)) (D := 14) (by omega)).mono (by omega), ?_⟩
      have : W34 1 = 19 := by simp [W34]
      simp only [wC, wCs, List.length_nil]; omega
    · by_cases hv1 : v = 1
      · obtain ⟨x, r3, h3, s3, hm⟩ := l35 (l := [[102], [43], [108, 105, 115, 116]]) (by simp) g2 (by omega)
        refine ⟨_, r3, h1.bind (.neg (by simp) (h2.bind (g := fun n k8 => _) (.neg hv (.pos hv1 (h3.bind (g := fun _ k12 => some ((⟨2, 0, k12.1, 0, [], (⟨0, [], 0, [], []⟩ : Form), []⟩ : Core), a3, k12.2)) (.pure _)))))), (s1.trans (s2.trans s3 (D := 2) (by omega)) (D := 3) (by omega)).mono (by omega), ?_⟩
        simp only [List.mem_cons, List.not_mem_nil, or_false] at hm
        rcases hm with rfl | rfl | rfl <;> simp [wC, wCs, wF, wFs]
      · obtain ⟨x, r3, h3, s3, hm⟩ := l28 (l := [0, 1, 5, 42]) (by simp) g2 (by omega)
        exact ⟨_, r3, h1.bind (.neg (by simp) (h2.bind (g := fun n k8 => _) (.neg hv (.neg hv1 (h3.bind (g := fun _ k13 => some ((⟨3, 0, [], k13.1, [], (⟨0, [], 0, [], []⟩ : Form), []⟩ : Core), a3, k13.2)) (.pure _)))))), (s1.trans (s2.trans s3 (D := 2) (by omega)) (D := 3) (by omega)).mono (by omega), by simp [wC, wCs, wF, wFs]⟩
abbrev Par := (List Int) × Int × Int × (List Int) × (List UInt8) × Int
def parX (n : Nat) (a1 : List Int) (a3 : Int) (k18 : Int × L15Rd) : Option Par :=
  (if k18.1 = 5 then (m28 n [1, 2, 0] k18.2).bind fun k26 => iterM n (fun (s27 : (List Int) × Int × Int × (List Int) × (List UInt8) × Int) => ((if s27.2.2.1 > 0 then (m28 n [1, 2, 5] (⟨s27.2.2.2.2.1, s27.2.2.2.2.2⟩ : L15Rd)).bind fun k30 => (apB 8 s27.2.2.2.1 [(w64 (s27.2.1 + k30.1))]).bind fun z31 => (apB 8 [] s27.1).bind fun z32 => (apB 8 z32 [(w64 (s27.2.1 + k30.1))]).bind fun z33 => some (Sum.inr (z33, (w64 (s27.2.1 + k30.1)), (w64 (s27.2.2.1 - 1)), z31, k30.2.b, k30.2.p)) else some (Sum.inl (s27.1, s27.2.1, 1, s27.2.2.2.1, s27.2.2.2.2.1, s27.2.2.2.2.2))) : Option (((List Int) × Int × Int × (List Int) × (List UInt8) × Int) ⊕ ((List Int) × Int × Int × (List Int) × (List UInt8) × Int)))) (a1, a3, k26.1, [], k26.2.b, k26.2.p) else (if k18.1 = 6 then (m28 n [2, 1, 3] k18.2).bind fun k35 => some (a1, a3, k35.1, [], k35.2.b, k35.2.p) else some (a1, a3, 3, [], k18.2.b, k18.2.p)))
theorem par_ev {a1 : List Int} {a3 k : Int} {r : L15Rd} (h : Gd r 3) (hl : a1.length ≤ 1000000) : ∃ o : Par, Evt (fun n => parX n a1 a3 (k, r)) o ∧ Sp r ⟨o.2.2.2.2.1, o.2.2.2.2.2⟩ 3 ∧ o.1.length ≤ a1.length + 2 ∧ 0 ≤ o.2.2.1 ∧ o.2.2.1 ≤ 3 ∧ o.2.2.2.1.length ≤ 2 := by
  unfold parX
  by_cases h5 : k = 5
  · obtain ⟨c, r2, h2, s2, hm⟩ := l28 (l := [1, 2, 0]) (by simp) h (by omega)
    have hc : 0 ≤ c ∧ c ≤ 2 := by
      simp only [List.mem_cons, List.not_mem_nil, or_false] at hm
      rcases hm with rfl | rfl | rfl <;> simp
    have g2 : Gd r2 2 := h.to s2 (by omega)
    obtain ⟨o, h3, q1, q2, q3, q4⟩ := iter_ev (ω := Par) (step := fun n (s27 : (List Int) × Int × Int × (List Int) × (List UInt8) × Int) => ((if s27.2.2.1 > 0 then (m28 n [1, 2, 5] (⟨s27.2.2.2.2.1, s27.2.2.2.2.2⟩ : L15Rd)).bind fun k30 => (apB 8 s27.2.2.2.1 [(w64 (s27.2.1 + k30.1))]).bind fun z31 => (apB 8 [] s27.1).bind fun z32 => (apB 8 z32 [(w64 (s27.2.1 + k30.1))]).bind fun z33 => some (Sum.inr (z33, (w64 (s27.2.1 + k30.1)), (w64 (s27.2.2.1 - 1)), z31, k30.2.b, k30.2.p)) else some (Sum.inl (s27.1, s27.2.1, 1, s27.2.2.2.1, s27.2.2.2.2.1, s27.2.2.2.2.2))) : Option (((List Int) × Int × Int × (List Int) × (List UInt8) × Int) ⊕ ((List Int) × Int × Int × (List Int) × (List UInt8) × Int))))
      (fun s => s.2.2.1.toNat) (fun s => ∃ j : Nat, (j : Int) ≤ c ∧ s.2.2.1 = c - j ∧ Sp r2 ⟨s.2.2.2.2.1, s.2.2.2.2.2⟩ j ∧ s.2.2.2.1.length = j ∧ s.1.length = a1.length + j)
      (fun o => Sp r2 ⟨o.2.2.2.2.1, o.2.2.2.2.2⟩ 2 ∧ o.1.length ≤ a1.length + 2 ∧ o.2.2.1 = 1 ∧ o.2.2.2.1.length ≤ 2)
      (fun ⟨l, ct, cnt, nl, b, p⟩ ⟨j, j0, j1, j2, j3, j4⟩ => by
        simp only at j1 j2 j3 j4 ⊢
        by_cases hp : cnt > 0
        · right
          obtain ⟨x, r', k1, k2, _⟩ := l28 (l := [1, 2, 5]) (r := ⟨b, p⟩) (B := 1) (by simp) (g2.to j2 (by omega)) (by omega)
          have e2 : w64 (cnt - 1) = cnt - 1 := w_id (by omega) (by omega)
          have hap1 : apB 8 nl [w64 (ct + x)] = some (nl ++ [w64 (ct + x)]) := by unfold apB; rw [if_pos (by simp; omega)]
          have hap2 : apB 8 [] l = some l := apB_nil (by omega)
          have hap3 : apB 8 l [w64 (ct + x)] = some (l ++ [w64 (ct + x)]) := by unfold apB; rw [if_pos (by simp; omega)]
          refine ⟨(l ++ [w64 (ct + x)], w64 (ct + x), cnt - 1, nl ++ [w64 (ct + x)], r'.b, r'.p), .pos hp ?_, ⟨j + 1, by omega, by simp only; omega, j2.trans k2 (by omega), by simp; omega, by simp; omega⟩, by simp only; omega⟩
          rw [e2]
          refine Evt.bind (g := fun n k30 => _) k1 (.const ?_)
          generalize w64 (ct + x) = y at hap1 hap3 ⊢
          rw [hap1, Option.bind_some, hap2, Option.bind_some, hap3, Option.bind_some]
        · left
          exact ⟨_, .neg hp (.pure _), j2.mono (by omega), by simp only; omega, rfl, by simp only; omega⟩)
      (a1, a3, c, [], r2.b, r2.p) ⟨0, by omega, by simp, by simpa using (Sp.refl (r := r2) (Int.le_refl 0)), rfl, rfl⟩
    exact ⟨o, .pos h5 (h2.bind (g := fun n k26 => _) h3), s2.trans q1 (by omega), q2, by omega, by omega, q4⟩
  · by_cases h6 : k = 6
    · obtain ⟨c, r2, h2, s2, hm⟩ := l28 (l := [2, 1, 3]) (by simp) h (by omega)
      have hc : 0 ≤ c ∧ c ≤ 3 := by
        simp only [List.mem_cons, List.not_mem_nil, or_false] at hm
        rcases hm with rfl | rfl | rfl <;> simp
      exact ⟨_, .neg h5 (.pos h6 (h2.bind (g := fun _ k35 => some (a1, a3, k35.1, [], k35.2.b, k35.2.p)) (.pure _))), s2.mono (by omega), by simp, hc.1, hc.2, by simp⟩
    · exact ⟨_, .neg h5 (.neg h6 (.pure _)), .refl (by omega), by simp, by simp, by simp, by simp⟩
theorem l27 : ∀ (d : Nat), d ≤ 10 → ∀ (a1 : List Int) (a3 : Int) (r : L15Rd), a1.length + 2 * d ≤ 1000000 → Gd r (B27 d) → ∃ f c r', Evt (fun n => m27 n a1 (d : Int) a3 r) (f, c, r') ∧ Sp r r' (B27 d) ∧ wC f ≤ W27 d := by
  intro d
  induction d with
  | zero =>
    intro _ a1 a3 r _ h
    have h : Gd r 20 := h
    obtain ⟨f, r', h1, s1, w1⟩ := leafC (a1 := a1) (a3 := a3) (h.to (.refl (Int.le_refl 0)) (D := 19) (by omega))
    refine ⟨f, a3, r', .succ ?_, s1.mono (by simp [B27]), by simp only [W27]; omega⟩
    simp only [m27]
    exact Evt.bind (a := (true, r)) (g := fun n o1 => _) (.pos rfl (.pure _)) (.pos rfl h1)
  | succ d ih =>
    intro hd a1 a3 r hl h
    have ih := ih (by omega)
    have hB := B27_pos d
    have h : Gd r (20 + 3 * B27 d) := h
    obtain ⟨v, r1, h1, s1, hv⟩ := l29 (a := 4) h (by omega)
    have g1 : Gd r1 (19 + 3 * B27 d) := h.to s1 (by omega)
    by_cases hv0 : v = 0
    · obtain ⟨f, r', h2, s2, w2⟩ := leafC (a1 := a1) (a3 := a3) (h.to s1 (D := 19) (by omega))
      have hW := W27_pos d
      refine ⟨f, a3, r', .succ ?_, s1.trans s2 (by simp only [B27]; omega), by simp only [W27]; omega⟩
      simp only [m27]
      refine Evt.bind (a := (true, r1)) (g := fun n o1 => _) (.neg (by omega) (h1.bind (g := fun _ k37 => some ((decide (k37.1 = 0)), k37.2)) (.const (by simp [hv0])))) (.pos rfl h2)
    · obtain ⟨k, r2, h2, s2, _⟩ := l28 (l := [6, 5, 7, 5]) (by simp) g1 (by omega)
      have g2 : Gd r2 (18 + 3 * B27 d) := g1.to s2 (by omega)
      obtain ⟨⟨l2, ct2, c, nl, b3, p3⟩, h3, s3, q1, q2, q3, q4⟩ := par_ev (a1 := a1) (a3 := a3) (k := k) (g2.to (.refl (Int.le_refl 0)) (D := 3) (by omega)) (by omega)
      simp only at s3 q1 q2 q3 q4
      have g3 : Gd ⟨b3, p3⟩ (3 * B27 d) := g2.to s3 (by omega)
      obtain ⟨⟨f, ct4, r'⟩, h4, hs4, w4⟩ := iter_ev (ω := Core × Int × L15Rd) (step := fun n (s20 : Int × Int × (List Core) × (List UInt8) × Int) => ((if s20.2.1 < c then (m27 n l2 (w64 (((d + 1 : Nat) : Int) - 1)) s20.1 (⟨s20.2.2.2.1, s20.2.2.2.2⟩ : L15Rd)).bind fun k23 => (apB 168 s20.2.2.1 [k23.1]).bind fun z24 => some (Sum.inr (k23.2.1, (w64 (s20.2.1 + 1)), z24, k23.2.2.b, k23.2.2.p)) else some (Sum.inl ((⟨k, 0, [], 0, nl, (⟨0, [], 0, [], []⟩ : Form), s20.2.2.1⟩ : Core), s20.1, (⟨s20.2.2.2.1, s20.2.2.2.2⟩ : L15Rd)))) : Option ((Core × Int × L15Rd) ⊕ (Int × Int × (List Core) × (List UInt8) × Int))))
        (fun s => (c - s.2.1).toNat) (fun s => ∃ j : Nat, (j : Int) ≤ c ∧ s.2.1 = j ∧ Sp ⟨b3, p3⟩ ⟨s.2.2.2.1, s.2.2.2.2⟩ (j * B27 d) ∧ s.2.2.1.length = j ∧ wCs s.2.2.1 ≤ j * W27 d) (fun y => Sp ⟨b3, p3⟩ y.2.2 (3 * B27 d) ∧ wC y.1 ≤ 10 + 3 * W27 d)
        (fun ⟨ct, cnt, l, b, p⟩ ⟨j, j0, j1, j2, j3, j4⟩ => by
          simp only at j1 j2 j3 j4 ⊢
          by_cases hp : cnt < c
          · right
            have hj : j = 0 ∨ j = 1 ∨ j = 2 := by omega
            have gj : Gd ⟨b, p⟩ (B27 d) := g3.to j2 (by rcases hj with rfl | rfl | rfl <;> simp <;> omega)
            obtain ⟨f, ct', r', k1, k2, k3⟩ := ih l2 ct _ (by omega) gj
            have e1 : w64 (((d + 1 : Nat) : Int) - 1) = (d : Int) := by rw [w_id (by omega) (by omega)]; omega
            have e2 : w64 (cnt + 1) = cnt + 1 := w_id (by omega) (by omega)
            have hap : apB 168 l [f] = some (l ++ [f]) := by unfold apB; rw [if_pos (by simp; omega)]
            refine ⟨(ct', cnt + 1, l ++ [f], r'.b, r'.p), .pos hp ?_, ⟨j + 1, by omega, by simp only; omega, ?_, by simp; omega, ?_⟩, by simp only; omega⟩
            · rw [e1, e2]
              refine Evt.bind (g := fun n k23 => _) k1 (.const ?_)
              simp only
              rw [hap, Option.bind_some]
            · refine j2.trans (D := ((j + 1 : Nat) : Int) * B27 d) k2 ?_
              rcases hj with rfl | rfl | rfl <;> simp <;> omega
            · simp only [wCs_app, wCs]
              rcases hj with rfl | rfl | rfl <;> omega
          · left
            have hj : j = 0 ∨ j = 1 ∨ j = 2 ∨ j = 3 := by omega
            refine ⟨_, .neg hp (.pure _), ?_, ?_⟩
            · exact j2.mono (by rcases hj with rfl | rfl | rfl | rfl <;> simp <;> omega)
            · simp only [wC, wF, wFs, List.length_nil]
              rcases hj with rfl | rfl | rfl | rfl <;> omega)
        (ct2, 0, [], b3, p3) ⟨0, by omega, by simp, by simpa using (Sp.refl (r := ⟨b3, p3⟩) (Int.le_refl 0)), rfl, by simp [wCs]⟩
      refine ⟨f, ct4, r', .succ ?_, s1.trans (s2.trans (s3.trans hs4 (D := 3 + 3 * B27 d) (by omega)) (D := 4 + 3 * B27 d) (by omega)) (by simp only [B27]; omega), by simp only [W27]; simp only at w4; omega⟩
      simp only [m27]
      refine Evt.bind (a := (false, r1)) (g := fun n o1 => _) (.neg (by omega) (h1.bind (g := fun _ k37 => some ((decide (k37.1 = 0)), k37.2)) (.const (by simp [hv0])))) (.neg (by simp) (h2.bind (g := fun n k18 => _) (Evt.bind (g := fun n o19 => _) h3 h4)))
mutual
def dp : Core → Int
  | ⟨k, _, _, _, _, _, kids⟩ => if k = 5 then w64 (mx kids 0 + 1) else mx kids 0
def mx : List Core → Int → Int
  | [], s => s
  | x :: r, s => mx r (if dp x > s then dp x else s)
end
theorem dp_eq (c : Core) : dp c = if c.kind = 5 then w64 (mx c.kids 0 + 1) else mx c.kids 0 := by cases c; simp only [dp]
theorem maxL {step : Nat → Int → Nat → Core → Option Int} : ∀ (xs : List Core), (∀ x ∈ xs, ∀ s i, Evt (fun n => step n s i x) (if dp x > s then dp x else s)) → ∀ i s, Evt (fun n => Mx.forL (step n) i xs s) (mx xs s)
  | [], _, i, s => .pure _
  | x :: r, h, i, s => by
    simp only [Mx.forL, mx]
    exact (h x (List.mem_cons_self) s i).bind (g := fun n s' => Mx.forL (step n) (i + 1) r s') (maxL r (fun y hy => h y (List.mem_cons_of_mem _ hy)) (i + 1) _)
theorem l7 (c : Core) : Evt (fun n => m7 n c) (dp c) := by
  refine .succ ?_
  simp only [m7]
  refine Evt.bind (a := mx c.kids 0) (g := fun n s3 => _) (maxL c.kids (fun x hx s i => ?_) 0 0) ?_
  · exact (l7 x).bind (g := fun _ k10 => some (if k10 > s then k10 else s)) (.pure _)
  · rw [dp_eq]
    by_cases h : c.kind = 5
    · simp only [if_pos h, Option.bind_some]; exact .pure _
    · simp only [if_neg h, Option.bind_some]; exact .pure _
termination_by SizeOf.sizeOf c
decreasing_by exact szC_lt hx
theorem l8 (c : Core) : Evt (fun n => m8 n c) (dp c) := by
  refine .succ ?_
  simp only [m8]
  refine Evt.bind (a := mx c.kids 0) (g := fun n s3 => _) (maxL c.kids (fun x hx s i => ?_) 0 0) ?_
  · refine Evt.bind (g := fun _ o => some o) (a := if dp x > s then dp x else s) ?_ (.pure _)
    refine (l8 x).bind (g := fun _ k11 => (if k11 > s then some k11 else some s)) ?_
    by_cases h : dp x > s
    · simp only [if_pos h]; exact .pure _
    · simp only [if_neg h]; exact .pure _
  · rw [dp_eq]
    by_cases h : c.kind = 5
    · simp only [if_pos h]; exact .pure _
    · simp only [if_neg h]; exact .pure _
termination_by SizeOf.sizeOf c
decreasing_by exact szC_lt hx
theorem l26 (b : List UInt8) : ∃ r, Evt (fun n => m26 n b) r ∧ Gd r 1000000000 := by
  simp only [m26]
  by_cases h : (b.length : Int) > 2000
  · have hs : slI b 0 2000 = some (b.take 2000) := by
      unfold slI
      rw [if_pos ⟨by omega, by omega, by omega⟩]; simp
    refine ⟨_, Evt.bind (a := b.take 2000) (g := fun _ o2 => _) (.pos h (.const (bindE (f := fun z4 => some z4) hs rfl))) (.pure _), by show (0 : Int) ≤ 0; omega, by show (0 : Int) + 1000000000 ≤ _; omega, by show (b.take 2000).length ≤ 2000; simp; omega⟩
  · exact ⟨_, Evt.bind (a := b) (g := fun _ o2 => _) (.neg h (.pure _)) (.pure _), by show (0 : Int) ≤ 0; omega, by show (0 : Int) + 1000000000 ≤ _; omega, by show b.length ≤ 2000; omega⟩
theorem wCs_set : ∀ (l : List Core) (i : Nat) (x y : Core), l[i]? = some x → wCs (l.set i y) + wC x = wCs l + wC y
  | [], i, x, y, h => by simp at h
  | a :: l, 0, x, y, h => by simp at h; subst h; simp only [List.set_cons_zero, wCs]; omega
  | a :: l, i + 1, x, y, h => by
    have := wCs_set l i x y (by simpa using h)
    simp only [List.set_cons_succ, wCs]; omega
theorem l30 (c : Core) (hw : wC c ≤ 1000000) (r : L15Rd) (h : Gd r (4 * ((wC c : Int) + 1))) : ∃ f r', Evt (fun n => m30 n c r) (f, r') ∧ Sp r r' (4 * ((wC c : Int) + 1)) ∧ wC f ≤ wC c + 1 := by
  have he := wC_eq c
  have hcopy := l36 c (by omega)
  obtain ⟨b0, r1, h1, s1, hb⟩ : ∃ (b0 : Bool) (r1 : L15Rd), Evt (fun n => ((if (c.kids.length : Int) > 0 then (m29 n 2 r).bind fun k21 => some ((decide (k21.1 > 0)), k21.2) else some (false, r)) : Option (Bool × L15Rd))) (b0, r1) ∧ Sp r r1 1 ∧ (b0 = true → 1 ≤ c.kids.length) := by
    by_cases hl : (c.kids.length : Int) > 0
    · obtain ⟨v, r1, h1, s1, _⟩ := l29 (a := 2) h (by omega)
      exact ⟨_, r1, .pos hl (h1.bind (g := fun _ k15 => some ((decide (k15.1 > 0)), k15.2)) (.pure _)), s1, fun _ => by omega⟩
    · exact ⟨false, r, .neg hl (.pure _), .refl (by omega), fun h => by cases h⟩
  have g1 : Gd r1 (4 * ((wC c : Int) + 1) - 1) := h.to s1 (by omega)
  cases b0 with
  | true =>
    have hk := hb rfl
    obtain ⟨v, r2, h2, s2, hv⟩ := l29 (a := (c.kids.length : Int)) g1 (by omega)
    obtain ⟨v0, v1⟩ := hv (by omega)
    have hin : inB v c.kids.length = some () := by unfold inB; rw [if_pos ⟨v0, by omega⟩]
    obtain ⟨x, hx⟩ : ∃ x, c.kids[v.toNat]? = some x := ⟨_, List.getElem?_eq_getElem (by omega)⟩
    have hxm : x ∈ c.kids := List.mem_of_getElem? hx
    have hxw := wCs_mem hxm
    obtain ⟨y, r3, h3, s3, w3⟩ := l30 x (by omega) r2 (g1.to s2 (by omega))
    refine ⟨(⟨c.kind, c.id, c.name, c.n, c.ids, c.data, c.kids.set v.toNat y⟩ : Core), r3, .succ ?_, s1.trans (s2.trans s3 (D := 1 + 4 * ((wC x : Int) + 1)) (by omega)) (by omega), ?_⟩
    · simp only [m30]
      exact hcopy.bind (g := fun n k1 => _) (h1.bind (g := fun n o2 => _) (.pos rfl (h2.bind (g := fun n k4 => _) (Evt.bind (a := ()) (g := fun n u5 => _) (.const hin) (Evt.bind (a := x) (g := fun n e6 => _) (.const hx) (h3.bind (g := fun n k7 => _) (Evt.bind (a := ()) (g := fun n u8 => _) (.const hin) (.pure _))))))))
    · have := wCs_set c.kids v.toNat x y hx
      simp only [wC, List.length_set]; omega
  | false =>
    obtain ⟨v, r2, h2, s2, _⟩ := l29 (a := 12) g1 (by omega)
    have g2 : Gd r2 1 := g1.to s2 (by omega)
    obtain ⟨o, h3, s3, w1, w2⟩ : ∃ o : Int × Int × (List UInt8) × (List Int) × L15Rd, Evt (fun n => ((if v = 0 then (m28 n [0, 8, 3, 6] r2).bind fun k12 => some (k12.1, c.id, c.name, c.ids, k12.2) else (if v = 1 then (m28 n [0, 1, 1000, 2] r2).bind fun k14 => some (c.kind, k14.1, c.name, c.ids, k14.2) else (if v = 2 then (m28 n [1, 900, 0] r2).bind fun k16 => (apB 8 c.ids [k16.1]).bind fun z17 => some (c.kind, c.id, c.name, z17, k16.2) else (if v = 3 then (m35 n [[], [103], [65]] r2).bind fun k19 => some (c.kind, c.id, k19.1, c.ids, k19.2) else some (c.kind, c.id, c.name, c.ids, r2))))) : Option (Int × Int × (List UInt8) × (List Int) × L15Rd))) o ∧ Sp r2 o.2.2.2.2 1 ∧ o.2.2.1.length + o.2.2.2.1.length ≤ c.name.length + c.ids.length + 1 ∧ True := by
      by_cases e0 : v = 0
      · obtain ⟨x, r3, k1, k2, _⟩ := l28 (l := [0, 8, 3, 6]) (by simp) g2 (by omega)
        exact ⟨_, .pos e0 (k1.bind (g := fun _ k12 => some (k12.1, c.id, c.name, c.ids, k12.2)) (.pure _)), k2, by simp only; omega, trivial⟩
      by_cases e1 : v = 1
      · obtain ⟨x, r3, k1, k2, _⟩ := l28 (l := [0, 1, 1000, 2]) (by simp) g2 (by omega)
        exact ⟨_, .neg e0 (.pos e1 (k1.bind (g := fun _ k14 => some (c.kind, k14.1, c.name, c.ids, k14.2)) (.pure _))), k2, by simp only; omega, trivial⟩
      by_cases e2 : v = 2
      · obtain ⟨x, r3, k1, k2, _⟩ := l28 (l := [1, 900, 0]) (by simp) g2 (by omega)
        have hap : apB 8 c.ids [x] = some (c.ids ++ [x]) := by unfold apB; rw [if_pos (by simp; omega)]
        exact ⟨(c.kind, c.id, c.name, c.ids ++ [x], r3), .neg e0 (.neg e1 (.pos e2 (k1.bind (g := fun _ k16 => (apB 8 c.ids [k16.1]).bind fun z17 => some (c.kind, c.id, c.name, z17, k16.2)) (.const (by simp only; rw [hap, Option.bind_some]))))), k2, by simp; omega, trivial⟩
      by_cases e3 : v = 3
      · obtain ⟨x, r3, k1, k2, hm⟩ := l35 (l := [[], [103], [65]]) (by simp) g2 (by omega)
        refine ⟨_, .neg e0 (.neg e1 (.neg e2 (.pos e3 (k1.bind (g := fun _ k19 => some (c.kind, c.id, k19.1, c.ids, k19.2)) (.pure _))))), k2, ?_, trivial⟩
        simp only [List.mem_cons, List.not_mem_nil, or_false] at hm
        rcases hm with rfl | rfl | rfl <;> simp <;> omega
      · exact ⟨_, .neg e0 (.neg e1 (.neg e2 (.neg e3 (.pure _)))), .refl (by omega), by simp only; omega, trivial⟩
    refine ⟨(⟨o.1, o.2.1, o.2.2.1, c.n, o.2.2.2.1, c.data, c.kids⟩ : Core), o.2.2.2.2, .succ ?_, s1.trans (s2.trans s3 (D := 2) (by omega)) (by omega), by simp only [wC]; omega⟩
    simp only [m30]
    exact hcopy.bind (g := fun n k1 => _) (h1.bind (g := fun n o2 => _) (.neg (by simp) (h2.bind (g := fun n k9 => _) (h3.bind (g := fun n o10 => _) (.pure _)))))
termination_by SizeOf.sizeOf c
decreasing_by exact szC_lt hxm
theorem l14 (b : List UInt8) : ∃ c, Evt (fun n => m14 n b) c := by
  obtain ⟨r, h1, g1⟩ := l26 b
  obtain ⟨k, r2, h2, s2, hm⟩ := l28 (l := [3, 4, 2]) (by simp) g1 (by omega)
  have hk : ∃ d : Nat, d ≤ 4 ∧ k = (d : Int) := by
    simp only [List.mem_cons, List.not_mem_nil, or_false] at hm
    rcases hm with rfl | rfl | rfl
    · exact ⟨3, by omega, rfl⟩
    · exact ⟨4, by omega, rfl⟩
    · exact ⟨2, by omega, rfl⟩
  obtain ⟨d, hd, rfl⟩ := hk
  have g2 : Gd r2 900000000 := g1.to s2 (by omega)
  have hB : B27 d ≤ 100000 ∧ W27 d ≤ 100000 := by
    have : d = 0 ∨ d = 1 ∨ d = 2 ∨ d = 3 ∨ d = 4 := by omega
    rcases this with rfl | rfl | rfl | rfl | rfl <;> simp [B27, W27]
  obtain ⟨c, ct, r3, h3, s3, w3⟩ := l27 d (by omega) [] 0 r2 (by simp; omega) (g2.to (.refl (Int.le_refl 0)) (by omega))
  have g3 : Gd r3 800000000 := g2.to s3 (by omega)
  obtain ⟨v, r4, h4, s4, _⟩ := l29 (a := 8) g3 (by omega)
  have g4 : Gd r4 700000000 := g3.to s4 (by omega)
  by_cases hv : v = 0
  · obtain ⟨c5, r5, h5, s5, w5⟩ := l30 c (by omega) r4 (g4.to (.refl (Int.le_refl 0)) (by omega))
    obtain ⟨c6, r6, h6, s6, w6⟩ := l30 c5 (by omega) r5 (g4.to s5 (by omega))
    refine ⟨c6, ?_⟩
    simp only [m14]
    exact h1.bind (g := fun n k1 => _) (h2.bind (g := fun n k2 => _) (h3.bind (g := fun n k3 => _) (h4.bind (g := fun n k4 => _) (.pos hv (h5.bind (g := fun n k6 => _) (h6.bind (g := fun n k7 => _) (.pure _)))))))
  · refine ⟨c, ?_⟩
    simp only [m14]
    exact h1.bind (g := fun n k1 => _) (h2.bind (g := fun n k2 => _) (h3.bind (g := fun n k3 => _) (h4.bind (g := fun n k4 => _) (.neg hv (.pure _)))))
theorem l3 (b : List UInt8) : Evt (fun n => m3 n b) true := by
  simp only [m3]
  by_cases hb : (b.length : Int) > 1048576
  · exact .pos hb (.pure _)
  · refine .neg hb ?_
    obtain ⟨c, hc⟩ := l14 b
    have h6 : Evt (fun n => m6 n b) c := by
      simp only [m6]; exact hc.bind (g := fun _ k => some k) (.pure _)
    refine h6.bind (g := fun n k3 => _) ((l7 c).bind (g := fun n k4 => _) ((l8 c).bind (g := fun n k5 => _) (.neg (by simp) ?_)))
    refine Evt.bind (a := mx c.kids 0) (g := fun n s8 => _) (maxL c.kids (fun x hx s i => ?_) 0 0) ?_
    · refine Evt.bind (g := fun _ o => some o) (a := if dp x > s then dp x else s) ?_ (.pure _)
      refine (l7 x).bind (g := fun _ k11 => (if k11 > s then some k11 else some s)) ?_
      by_cases h : dp x > s
      · simp only [if_pos h]; exact .pure _
      · simp only [if_neg h]; exact .pure _
    · rw [dp_eq]
      by_cases h : c.kind = 5
      · simp only [if_pos h, decide_true]; exact .pure _
      · simp only [if_neg h, decide_true]; exact .pure _
theorem law3 (l : List Int) (h : l.length ≤ maxLen ∧ ∀ a ∈ l, (Lit.int .u8 a).wf = true) : Mx.ACall X.E 3 [.sl 1 .ro (l.map fun i => [.v (.int .u8 i)])] [] fun d _ => d = .v (.bool true) := by
  obtain ⟨N, hN⟩ := l3 (toB l)
  exact call_true (w3 N (toB l) (hN N (Nat.le_refl _))) (by simp only [ED.DL, ED.D, KD.D, bytes_D h.2]; rfl)
end Go.Ev
