/- FnExactVarUses answers true for every argument, and the arguments read afterwards as they read before. No condition beyond the given statement's. -/
import Derived.Test.YtbifcdaablhljaaMxR
import Derived.Test.YtbifcdaablhljaaMxV
import Derived.Test.YtbifcdaablhljaaRows
namespace Go.Proofs.Ytbifcdaablhljaa.fnExactVarUses
open Go.ChangeShapes Go.WideShapes Go.ChangeAt Go.RowKit Go.Mx
set_option linter.unusedVariables false
theorem own : ownKnob Try.prog.godebug = none := by kernel_rfl
theorem laid : laidOutB Try.prog = true := by kernel_rfl
theorem formTy : FormTy Try.prog 35 9 23 33 3 :=
  ⟨Try.underlying3, Try.underlying9, Try.underlying23, by kernel_rfl, by kernel_rfl, by kernel_rfl, by kernel_rfl, Try.underlying33, by kernel_rfl, ⟨_, _, _, _, _, Try.underlying35, rfl, rfl, rfl, rfl, rfl⟩⟩
theorem coreTy : CoreTy Try.prog 38 36 35 9 23 33 3 :=
  ⟨formTy, Try.underlying36, by kernel_rfl, by kernel_rfl, ⟨_, _, _, _, _, _, _, Try.underlying38, rfl, rfl, rfl, rfl, rfl, rfl, rfl⟩⟩
theorem contract (H : Type) (enc : TypeId × Value → H) (W : World) (base : Nat) (args : Array Value) (ds gs : List (DataW H)) (before : List MemPlace)
    (hval : ∀ (j : Nat) t v, Try.f5.params[j]? = some t → args[j]? = some v → Value.okWide Try.prog W .any base t v)
    (hW : DataW.Whole enc Try.prog Try.f5.params.toList Rows.fnExactVarUsesSpec.vars false W args.toList ds gs before) :
    Calls Try.prog 5 args W fun e W' => ∃ v, e = .returned v ∧ Rows.fnExactVarUsesSpec.post enc Try.prog Try.f5 false true false false W args v W' := by
  have hW' := hW
  obtain ⟨p, q, hA0, hV, rfl, hfz, hnd⟩ := hW
  have hA : DataW.TrodAll enc Try.prog W 0 (fun _ => true) true Try.f5.params.toList args.toList ds p := hA0
  rw [Try.params5] at hA hval
  obtain ⟨v0, vs0, d0, ds0, p0, q0, hargs0, rfl, rfl, h0, r0⟩ := trodAll_cons hA
  obtain ⟨v1, vs1, d1, ds1, p1, q1, hargs1, rfl, rfl, h1, r1⟩ := trodAll_cons r0
  obtain ⟨rfl, rfl, rfl⟩ := trodAll_nil r1
  subst hargs1
  obtain rfl : args = #[v0, v1] := by cases args; simp_all
  obtain ⟨rfl, rfl⟩ := trodVars_none hV
  obtain ⟨cs0, rfl, hsz0⟩ := okWide_struct Try.underlying38 (hval 0 38 v0 rfl rfl)
  obtain ⟨fuel0, hf0⟩ := h0
  obtain ⟨c0, hok0, hrd0⟩ := op_core (cx := cx0) (fun _ _ h => h) coreTy fuel0 fuel0 (Nat.le_refl _) _ _ hf0
  have hd0 : Rd cx0 W (.agg (cCore c0)) (.agg cs0) := by
    have : (.agg cs0 : Value) = .agg cs0.toList.toArray := by simp
    rw [this]
    exact .agg hrd0.1 hrd0.2
  obtain ⟨c1, rfl, rfl, rfl, w1⟩ := open_int Try.underlying3 (hval 1 3 v1 rfl rfl) h1
  have hd1 : Rd cx0 W (.v (.int .i64 c1)) (.int .i64 c1) := .v _
  have hd : RdL cx0 W [.agg (cCore c0), .v (.int .i64 c1)] [.agg cs0, .int .i64 c1] := (RdL.one hd0).append (RdL.one hd1)
  refine (law_call (E := X) (f := 5) (args := #[.agg cs0, .int .i64 c1]) (fun g => .any _) hd (law5_ok c0 c1 hok0 rfl)).mono fun e W' ⟨he, hb⟩ => ?_
  exact ⟨_, he, post_true (tb := 4) hW' (by kernel_rfl) Try.underlying4 rfl rfl laid (by rw [Try.params5]; intro t ht; simp at ht; rcases ht with rfl | rfl <;> exact ⟨by kernel_rfl, by decide⟩) hb⟩
theorem lifted (os : Os) (started : os.Started) (H : Type) (enc : TypeId × Value → H) :
    ReturnsInHanded {} Try.checked os 5 .any (Rows.fnExactVarUsesSpec.pre6 enc Try.prog Try.f5 Rows.fnExactVarUsesRow.domain false) (Rows.fnExactVarUsesSpec.post enc Try.prog Try.f5 false true false false) := by
  refine returnsInHanded_of_change (C := Try.checked) own started (by kernel_rfl) Try.func5
    (ChangeSpec.witness6 (enc := enc) (C := Try.checked) false ⟨#[], #[.agg #[.int .i64 0, .int .i64 0, .string ⟨#[]⟩, .int .i64 0, .slice none 0 0, .int .i64 0, .string ⟨#[]⟩, .int .i64 0, .slice none 0 0, .slice none 0 0, .slice none 0 0], .int .i64 0], []⟩ 8 (by kernel_rfl) (by kernel_rfl) (by kernel_rfl) (by kernel_rfl)) ?_
  intro W base args ds gs before hval hW _ _
  exact contract H enc W base args ds gs before hval hW
theorem proved : Rows.FnExactVarUsesSaid :=
  OpenClaim.holds_of_wide 5 Try.f5 rfl rfl rfl rfl rfl rfl rfl ⟨rfl, rfl, rfl, rfl, rfl⟩ rfl rfl rfl rfl rfl (by kernel_rfl) Try.func5 (by kernel_rfl)
    (of_decide_eq_true (by kernel_rfl)) (by unfold Func.isWrapper; first | (rw [if_pos (by decide +kernel)]; kernel_rfl) | (rw [if_neg (by decide +kernel)]; exact ⟨rfl, rfl⟩))
    (fun os started H enc _ => lifted os started H enc)
#print axioms proved
end Go.Proofs.Ytbifcdaablhljaa.fnExactVarUses
