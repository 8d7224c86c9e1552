/- FnExactUnusedVars answers true for every argument, and the arguments read afterwards as they read before. No condition beyond the given statement's. -/
import Derived.Test.YtencoplhomeleaaRlExactUnusedVars
import Derived.Test.YtencoplhomeleaaRows
namespace Go.Proofs.Ytencoplhomeleaa.fnExactUnusedVars
open Go.ChangeShapes Go.WideShapes Go.ChangeAt Go.RowKit Go.Mx
set_option linter.unusedVariables false
set_option maxRecDepth 100000
theorem own : ownKnob Try.prog.godebug = none := by kernel_rfl
theorem laid : laidOutB Try.prog = true := by kernel_rfl
theorem formTy : FormTy Try.prog 25 9 22 23 3 :=
  ⟨Try.underlying3, Try.underlying9, Try.underlying22, by kernel_rfl, by kernel_rfl, by kernel_rfl, by kernel_rfl, Try.underlying23, by kernel_rfl, ⟨_, _, _, _, _, Try.underlying25, rfl, rfl, rfl, rfl, rfl⟩⟩
theorem coreTy : CoreTy Try.prog 28 26 25 9 22 23 3 :=
  ⟨formTy, Try.underlying26, by kernel_rfl, by kernel_rfl, ⟨_, _, _, _, _, _, _, Try.underlying28, rfl, rfl, rfl, rfl, rfl, rfl, rfl⟩⟩
theorem contract (H : Type) (enc : TypeId × Value → H) (W : World) (base : Nat) (args : Array Value) (ds gs : List (DataW H)) (before : List MemPlace)
    (hval : ∀ (j : Nat) t v, Try.f3.params[j]? = some t → args[j]? = some v → Value.okWide Try.prog W .any base t v)
    (hW : DataW.Whole enc Try.prog Try.f3.params.toList Rows.fnExactUnusedVarsSpec.vars false W args.toList ds gs before) :
    Calls Try.prog 3 args W fun e W' => ∃ v, e = .returned v ∧ Rows.fnExactUnusedVarsSpec.post enc Try.prog Try.f3 false true false false W args v W' := by
  have hW' := hW
  obtain ⟨p, q, hA0, hV, rfl, hfz, hnd⟩ := hW
  have hA : DataW.TrodAll enc Try.prog W 0 (fun _ => true) true Try.f3.params.toList args.toList ds p := hA0
  rw [Try.params3] at hA hval
  obtain ⟨v0, vs0, d0, ds0, p0, q0, hargs0, rfl, rfl, h0, r0⟩ := trodAll_cons hA
  obtain ⟨rfl, rfl, rfl⟩ := trodAll_nil r0
  obtain rfl : args = #[v0] := by cases args; simp_all
  obtain ⟨rfl, rfl⟩ := trodVars_none hV
  obtain ⟨cs0, rfl, hsz0⟩ := okWide_struct Try.underlying28 (hval 0 28 v0 rfl rfl)
  obtain ⟨fuel0, hf0⟩ := h0
  obtain ⟨c0, hok0, hrd0⟩ := op_core (cx := cx0) (fun _ _ h => h) coreTy fuel0 fuel0 (Nat.le_refl _) _ _ hf0
  have hd0 : Rd cx0 W (.agg (cCore c0)) (.agg cs0) := by
    have : (.agg cs0 : Value) = .agg cs0.toList.toArray := by simp
    rw [this]
    exact .agg hrd0.1 hrd0.2
  have hd : RdL cx0 W [.agg (cCore c0)] [.agg cs0] := RdL.one hd0
  have HL := Go.Raw.law c0 (cs := cs0.toList) (fun g => .any _) hrd0 (Go.Ev.okC_agg c0 hok0 hd0)
  simp only [Array.toArray_toList] at HL
  refine HL.mono fun e W' ⟨he, hb⟩ => ?_
  exact ⟨_, he, post_true (tb := 4) hW' (by kernel_rfl) Try.underlying4 rfl rfl laid (by rw [Try.params3]; intro t ht; simp at ht; subst ht; exact ⟨by kernel_rfl, by decide⟩) hb⟩
theorem lifted (os : Os) (started : os.Started) (H : Type) (enc : TypeId × Value → H) :
    ReturnsInHanded {} Try.checked os 3 .any (Rows.fnExactUnusedVarsSpec.pre6 enc Try.prog Try.f3 Rows.fnExactUnusedVarsRow.domain false) (Rows.fnExactUnusedVarsSpec.post enc Try.prog Try.f3 false true false false) := by
  refine returnsInHanded_of_change (C := Try.checked) own started (by kernel_rfl) Try.func3
    (ChangeSpec.witness6 (enc := enc) (C := Try.checked) false ⟨#[], #[.agg #[.int .i64 0, .int .i64 0, .string ⟨#[]⟩, .int .i64 0, .slice none 0 0, .int .i64 0, .string ⟨#[]⟩, .int .i64 0, .slice none 0 0, .slice none 0 0, .slice none 0 0]], []⟩ 8 (by kernel_rfl) (by kernel_rfl) (by kernel_rfl) (by kernel_rfl)) ?_
  intro W base args ds gs before hval hW _ _
  exact contract H enc W base args ds gs before hval hW
theorem proved : Rows.FnExactUnusedVarsSaid :=
  OpenClaim.holds_of_wide 3 Try.f3 rfl rfl rfl rfl rfl rfl rfl ⟨rfl, rfl, rfl, rfl, rfl⟩ rfl rfl rfl rfl rfl (by kernel_rfl) Try.func3 (by kernel_rfl)
    (of_decide_eq_true (by kernel_rfl)) (by unfold Func.isWrapper; first | (rw [if_pos (by decide +kernel)]; kernel_rfl) | (rw [if_neg (by decide +kernel)]; exact ⟨rfl, rfl⟩))
    (fun os started H enc _ => lifted os started H enc)
#print axioms proved
end Go.Proofs.Ytencoplhomeleaa.fnExactUnusedVars
