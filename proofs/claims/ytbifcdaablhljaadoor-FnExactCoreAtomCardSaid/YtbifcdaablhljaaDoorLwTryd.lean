/- Plain laws. No condition. -/
import Derived.Test.YtbifcdaablhljaaDoorEvTwo
import Derived.Test.YtbifcdaablhljaaDoorMdTryd
namespace Go.Ev
open Go.Mx (KD ED EObj forL forI seqS iterM)
set_option linter.unusedVariables false
set_option linter.unusedSimpArgs false
theorem l45 (sc : List Int) (hs : sc.length ≤ mxL) (b : Int) (h0 : 0 ≤ b) (h1 : b ≤ 1048576) : Evt (fun n => m45 n sc b) (szR sc.length b) := by
  simp only [m45, sub_w h0 h1 hs]
  exact Evt.szA (w2 := 0) fun h => .szZ (by omega)
theorem l22 (f : Form) (hf : okF f) (b : Int) (h0 : 0 ≤ b) (h1 : b ≤ 1048576) : Evt (fun n => m22 n f b) (szR (wF f) b) := by
  obtain ⟨o1, o2, o3, o4⟩ := (okF_eq f).1 hf
  refine .succ ?_
  simp only [m22, sub_w h0 h1 o1]
  rw [wF_eq, show f.name.length + f.scopes.length + f.kids.length + wFs f.kids = f.name.length + (f.scopes.length + ((f.kids.length + wFs f.kids) + 0)) by omega]
  refine .szA fun q1 => .szB (l45 _ o2 _ (by omega) (by omega)) fun q2 => .szB ?_ fun q3 => .szZ (by omega)
  refine .succ ?_
  simp only [m52]
  rw [sub_w (by omega) (by omega) o3]
  refine .szA fun q4 => ?_
  exact szS_evt (m := fun n x b => m22 n x b) rfl (fun _ _ => by rw [wFs]) (fun x hx b h0 h1 => l22 x (okFs_iff.1 o4 x hx) b h0 h1) _ (by omega) (by omega)
termination_by SizeOf.sizeOf f
decreasing_by exact szF_lt hx
theorem l17 (f : Core) (hf : okC f) (b : Int) (h0 : 0 ≤ b) (h1 : b ≤ 1048576) : Evt (fun n => m17 n f b) (szR (wC f) b) := by
  obtain ⟨o1, o2, od, o3, o4⟩ := (okC_eq f).1 hf
  refine .succ ?_
  simp only [m17, sub_w h0 h1 o1]
  rw [wC_eq, show f.name.length + f.ids.length + wF f.data + f.kids.length + wCs f.kids = f.name.length + (f.ids.length + (wF f.data + ((f.kids.length + wCs f.kids) + 0))) by omega]
  refine .szA fun q1 => .szB (l45 _ o2 _ (by omega) (by omega)) fun q2 => .szB (l22 _ od _ (by omega) (by omega)) fun q5 => .szB ?_ fun q3 => .szZ (by omega)
  refine .succ ?_
  simp only [m46]
  rw [sub_w (by omega) (by omega) o3]
  refine .szA fun q4 => ?_
  exact szS_evt (m := fun n x b => m17 n x b) rfl (fun _ _ => by rw [wCs]) (fun x hx b h0 h1 => l17 x (okCs_iff.1 o4 x hx) b h0 h1) _ (by omega) (by omega)
termination_by SizeOf.sizeOf f
decreasing_by exact szC_lt hx
theorem l48 (l : List Int) (h : l.length ≤ 1048576) : Evt (fun n => m48 n l) l := by
  simp only [m48]
  exact copyS_evt (m := fun _ x => some x) (be := 8) (by omega) (by unfold mxL; omega) (fun x _ => .pure x)
theorem l24 (f : Form) (h : wF f ≤ 1048576) : Evt (fun n => m24 n f) f := by
  have hw := wF_eq f
  refine .succ ?_
  simp only [m24]
  refine .bind (l48 _ (by omega)) (.bind (a := f.kids) ?_ (.const (by cases f; rfl)))
  refine .succ ?_
  simp only [m54]
  exact copyS_evt (m := fun n x => m24 n x) (be := 80) (by omega) (by unfold mxL; omega) (fun x hx => l24 x (by have := wFs_mem hx; omega))
termination_by SizeOf.sizeOf f
decreasing_by exact szF_lt hx
theorem l19 (f : Core) (h : wC f ≤ 1048576) : Evt (fun n => m19 n f) f := by
  have hw := wC_eq f
  refine .succ ?_
  simp only [m19]
  refine .bind (l48 _ (by omega)) (.bind (l24 _ (by omega)) (.bind (a := f.kids) ?_ (.const (by cases f; rfl))))
  refine .succ ?_
  simp only [m49]
  exact copyS_evt (m := fun n x => m19 n x) (be := 168) (by omega) (by unfold mxL; omega) (fun x hx => l19 x (by have := wCs_mem hx; omega))
termination_by SizeOf.sizeOf f
decreasing_by exact szC_lt hx
theorem l30 (l : List Int) : Evt (fun n => m30 n l l) true := by
  simp only [m30, not_true_eq_false, if_false]
  have := eqS_evt (e := fun _ (x y : Int) => some (decide (x = y))) (xs := l) (fun x _ => by simpa using Evt.pure true)
  simpa only [Option.bind_some, Bool.not_eq_true', decide_eq_false_iff_not] using this
theorem l26 (f : Form) : Evt (fun n => m26 n f f) true := by
  refine .succ ?_
  simp only [m26, not_true_eq_false, if_false]
  refine .bind (l30 _) (.neg (by simp) (.bind (a := true) ?_ (.neg (by simp) (.pure _))))
  refine .succ ?_
  simp only [m58, not_true_eq_false, if_false]
  exact eqS_evt (e := fun n x y => m26 n x y) (fun x hx => l26 x)
termination_by SizeOf.sizeOf f
decreasing_by exact szF_lt hx
theorem l21 (f : Core) : Evt (fun n => m21 n f f) true := by
  refine .succ ?_
  simp only [m21, not_true_eq_false, if_false]
  refine .bind (l30 _) (.neg (by simp) (.bind (l26 _) (.neg (by simp) (.bind (a := true) ?_ (.neg (by simp) (.pure _))))))
  refine .succ ?_
  simp only [m51, not_true_eq_false, if_false]
  exact eqS_evt (e := fun n x y => m21 n x y) (fun x hx => l21 x)
termination_by SizeOf.sizeOf f
decreasing_by exact szC_lt hx
theorem l65 (xs : List (List UInt8)) (y : List UInt8) : Evt (fun n => m65 n xs y) (decide (y ∈ xs)) := by
  simp only [m65]; exact mem_evt
theorem l57 (xs : List (List UInt8)) (y : List UInt8) : Evt (fun n => m57 n xs y) (decide (y ∈ xs)) := by
  simp only [m57, m42]
  obtain ⟨k, h1, h2⟩ := idx_evt (xs := xs) (y := y)
  exact h1.bind (g := fun _ k => some (decide (k ≥ 0))) (.const (by simp only [h2]))
def atom (c : Core) : Bool := if (c.kids.length : Int) = 0 then (if c.kind = 1 then true else if c.kind = 3 then true else if c.kind = 4 then true else if c.kind = 2 then decide (c.name ∈ lp2) else false) else false
theorem l18 (c : Core) : Evt (fun n => m18 n c) (atom c) := by
  simp only [m18, m47, m66]
  unfold atom
  refine .bind (g := fun _ o => some o) (a := _) ?_ (.pure _)
  by_cases h0 : (c.kids.length : Int) = 0
  · rw [if_pos h0]
    refine .pos h0 (.bind (g := fun _ o => some o) (a := _) (.bind (g := fun _ o => some o) (a := _) ?_ (.pure _)) (.pure _))
    by_cases h1 : c.kind = 1
    · rw [if_pos h1]; exact .pos h1 (.pure _)
    rw [if_neg h1]; refine .neg h1 ?_
    by_cases h3 : c.kind = 3
    · rw [if_pos h3]; exact .pos h3 (.pure _)
    rw [if_neg h3]; refine .neg h3 ?_
    by_cases h4 : c.kind = 4
    · rw [if_pos h4]; exact .pos h4 (.pure _)
    rw [if_neg h4]; refine .neg h4 ?_
    by_cases h2 : c.kind = 2
    · rw [if_pos h2]
      refine .pos h2 ?_
      simp only [Option.bind_some]
      refine (l65 _ _).bind (g := fun _ o => some o) (.const ?_)
      congr 1
      simp only [lp2, List.mem_cons, List.not_mem_nil, or_false, decide_eq_decide]
      constructor <;> (intro h; rcases h with h | h | h | h | h | h <;> simp [h])
    · rw [if_neg h2]; exact .neg h2 (.pure _)
  · rw [if_neg h0]; exact .neg h0 (.pure _)
theorem l20 (c : Core) : Evt (fun n => m20 n c) (atom c) := by
  simp only [m20, m50]
  unfold atom
  refine .bind (g := fun _ o => some o) (a := _) ?_ (.pure _)
  by_cases h0 : (c.kids.length : Int) = 0
  · rw [if_pos h0]
    refine .pos h0 ?_
    by_cases h1 : c.kind = 1
    · rw [if_pos h1]; exact .pos h1 (.pure _)
    rw [if_neg h1]; refine .neg h1 ?_
    by_cases h3 : c.kind = 3
    · rw [if_pos h3]; exact .pos h3 (.pure _)
    rw [if_neg h3]; refine .neg h3 ?_
    by_cases h4 : c.kind = 4
    · rw [if_pos h4]; exact .pos h4 (.pure _)
    rw [if_neg h4]; refine .neg h4 ?_
    refine .bind (g := fun _ o => some o) (a := _) (.bind (g := fun _ o => some o) (a := _) ?_ (.pure _)) (.pure _)
    by_cases h2 : c.kind = 2
    · rw [if_pos h2]
      exact .pos h2 ((l57 _ _).bind (g := fun _ o => some o) (.pure _))
    · rw [if_neg h2]; exact .neg h2 (.pure _)
  · rw [if_neg h0]; exact .neg h0 (.pure _)
theorem l5 (c : Core) (h : okC c) : Evt (fun n => m5 n c) true := by
  simp only [m5]
  refine .bind (l17 c h _ (by omega) (by omega)) ?_
  by_cases hw : (wC c : Int) ≤ 1048576
  · have e : szR (wC c) 1048576 = 1048576 - wC c := if_pos hw
    rw [e]
    have l19 := l19 c (by omega)
    refine .neg (by omega) (.bind l19 (.bind (l18 c) (.bind l19 (.bind (l20 c) (.neg (by simp) (.bind l19 (.bind (l21 c) (.neg (by simp) (.pure _)))))))))
  · have e : szR (wC c) 1048576 = -1 := if_neg hw
    rw [e]
    exact .pos (by omega) (.pure _)
theorem law5 (c : Mx.Core) (ho : Mx.okCore c) {w : World} {cs : Array Go.Value} (hr : Mx.Rd Mx.cx0 w (.agg (Mx.cCore c)) (.agg cs)) : Mx.ACall X.E 5 [.agg (Mx.cCore c)] [] fun d _ => d = .v (.bool true) := by
  obtain ⟨N, h⟩ := l5 (toC c) (okC_agg c ho hr)
  exact call_true (w5 N (toC c) (h N (Nat.le_refl _))) (by simp only [ED.DL, ED.D, KD.D, core_D])
end Go.Ev
