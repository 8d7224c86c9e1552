/- FnExactCoreDepth answers true for every argument, and the argument reads afterwards as it read before. No condition beyond the given statement's. -/
import Derived.Test.YtbifcdaablhljaaMxR
import Derived.Test.YtbifcdaablhljaaMxV
import Derived.Test.YtbifcdaablhljaaRows
namespace Go.Proofs.Ytbifcdaablhljaa
open Go.ChangeShapes Go.WideShapes Go.ChangeAt Go.RowKit Go.Mx
set_option linter.unusedVariables false
theorem own : ownKnob Try.prog.godebug = none := by kernel_rfl
theorem laid : laidOutB Try.prog = true := by kernel_rfl
theorem formTy : FormTy Try.prog 35 9 23 33 3 :=
  ⟨Try.underlying3, Try.underlying9, Try.underlying23, by kernel_rfl, by kernel_rfl, by kernel_rfl, by kernel_rfl, Try.underlying33, by kernel_rfl, ⟨_, _, _, _, _, Try.underlying35, rfl, rfl, rfl, rfl, rfl⟩⟩
theorem coreTy : CoreTy Try.prog 38 36 35 9 23 33 3 :=
  ⟨formTy, Try.underlying36, by kernel_rfl, by kernel_rfl, ⟨_, _, _, _, _, _, _, Try.underlying38, rfl, rfl, rfl, rfl, rfl, rfl, rfl⟩⟩
theorem contract (H : Type) (enc : TypeId × Value → H) (W : World) (base : Nat) (args : Array Value) (ds gs : List (DataW H)) (before : List MemPlace)
    (hval : ∀ (j : Nat) t v, Try.f4.params[j]? = some t → args[j]? = some v → Value.okWide Try.prog W .any base t v)
    (hW : DataW.Whole enc Try.prog Try.f4.params.toList Rows.fnExactCoreDepthSpec.vars false W args.toList ds gs before) :
    Calls Try.prog 4 args W fun e W' => ∃ v, e = .returned v ∧ Rows.fnExactCoreDepthSpec.post enc Try.prog Try.f4 false true false false W args v W' := by
  have hW' := hW
  obtain ⟨p, q, hA0, hV, rfl, hfz, hnd⟩ := hW
  have hA : DataW.TrodAll enc Try.prog W 0 (fun _ => true) true Try.f4.params.toList args.toList ds p := hA0
  rw [Try.params4] at hA hval
  obtain ⟨v0, vs0, d0, ds0, p0, q0, hargs, rfl, rfl, h0, r0⟩ := trodAll_cons hA
  obtain ⟨rfl, rfl, rfl⟩ := trodAll_nil r0
  obtain rfl : args = #[v0] := by cases args; simp_all
  obtain ⟨rfl, rfl⟩ := trodVars_none hV
  obtain ⟨cs, rfl, hsz⟩ := okWide_struct Try.underlying38 (hval 0 38 v0 rfl rfl)
  obtain ⟨fuel, hf⟩ := h0
  obtain ⟨c, hok, hrd⟩ := op_core (cx := cx0) (fun _ _ h => h) coreTy fuel fuel (Nat.le_refl _) _ _ hf
  have hd : RdL cx0 W [.agg (cCore c)] [.agg cs] := RdL.one (by
    have : (.agg cs : Value) = .agg cs.toList.toArray := by simp
    rw [this]
    exact .agg hrd.1 hrd.2)
  refine (law_call (E := X) (f := 4) (args := #[.agg cs]) (fun g => .any _) hd (law4_ok c hok rfl)).mono fun e W' ⟨he, hb⟩ => ?_
  exact ⟨_, he, post_true (tb := 4) hW' (by kernel_rfl) Try.underlying4 rfl rfl laid (by rw [Try.params4]; intro t ht; simp at ht; subst ht; exact ⟨by kernel_rfl, by decide⟩) hb⟩
theorem lifted (os : Os) (started : os.Started) (H : Type) (enc : TypeId × Value → H) :
    ReturnsInHanded {} Try.checked os 4 .any (Rows.fnExactCoreDepthSpec.pre6 enc Try.prog Try.f4 Rows.fnExactCoreDepthRow.domain false) (Rows.fnExactCoreDepthSpec.post enc Try.prog Try.f4 false true false false) := by
  refine returnsInHanded_of_change (C := Try.checked) own started (by kernel_rfl) Try.func4
    (ChangeSpec.witness6 (enc := enc) (C := Try.checked) false ⟨#[], #[.agg #[.int .i64 0, .int .i64 0, .string ⟨#[]⟩, .int .i64 0, .slice none 0 0, .int .i64 0, .string ⟨#[]⟩, .int .i64 0, .slice none 0 0, .slice none 0 0, .slice none 0 0]], []⟩ 8 (by kernel_rfl) (by kernel_rfl) (by kernel_rfl) (by kernel_rfl)) ?_
  intro W base args ds gs before hval hW _ _
  exact contract H enc W base args ds gs before hval hW
theorem proved : Rows.FnExactCoreDepthSaid :=
  OpenClaim.holds_of_wide 4 Try.f4 rfl rfl rfl rfl rfl rfl rfl ⟨rfl, rfl, rfl, rfl, rfl⟩ rfl rfl rfl rfl rfl (by kernel_rfl) Try.func4 (by kernel_rfl)
    (of_decide_eq_true (by kernel_rfl)) (by unfold Func.isWrapper; first | (rw [if_pos (by decide +kernel)]; kernel_rfl) | (rw [if_neg (by decide +kernel)]; exact ⟨rfl, rfl⟩))
    (fun os started H enc _ => lifted os started H enc)
#print axioms proved
end Go.Proofs.Ytbifcdaablhljaa
