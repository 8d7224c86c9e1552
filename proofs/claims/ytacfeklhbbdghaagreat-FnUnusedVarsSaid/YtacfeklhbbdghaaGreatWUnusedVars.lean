/- FnUnusedVars answers true for every argument, and the arguments read afterwards as they read before. No condition beyond the given statement's. -/
import Derived.Test.YtacfeklhbbdghaaGreatLwUnusedVars
import Derived.Test.YtacfeklhbbdghaaGreatRows
namespace Go.Proofs.YtacfeklhbbdghaaGreat.fnUnusedVars
open Go.ChangeShapes Go.WideShapes Go.ChangeAt Go.RowKit Go.Mx
set_option linter.unusedVariables false
set_option maxRecDepth 100000
theorem own : ownKnob Tryz.prog.godebug = none := by kernel_rfl
theorem laid : laidOutB Tryz.prog = true := by kernel_rfl
theorem contract (H : Type) (enc : TypeId × Value → H) (W : World) (base : Nat) (args : Array Value) (ds gs : List (DataW H)) (before : List MemPlace)
    (hval : ∀ (j : Nat) t v, Tryz.f3.params[j]? = some t → args[j]? = some v → Value.okWide Tryz.prog W .any base t v)
    (hW : DataW.Whole enc Tryz.prog Tryz.f3.params.toList Rows.fnUnusedVarsSpec.vars false W args.toList ds gs before) :
    Calls Tryz.prog 3 args W fun e W' => ∃ v, e = .returned v ∧ Rows.fnUnusedVarsSpec.post enc Tryz.prog Tryz.f3 false true false false W args v W' := by
  have hW' := hW
  obtain ⟨p, q, hA0, hV, rfl, hfz, hnd⟩ := hW
  have hA : DataW.TrodAll enc Tryz.prog W 0 (fun _ => true) true Tryz.f3.params.toList args.toList ds p := hA0
  rw [Tryz.params3] at hA hval
  obtain ⟨v0, vs0, d0, ds0, p0, q0, hargs0, rfl, rfl, h0, r0⟩ := trodAll_cons hA
  obtain ⟨rfl, rfl, rfl⟩ := trodAll_nil r0
  obtain rfl : args = #[v0] := by cases args; simp_all
  obtain ⟨rfl, rfl⟩ := trodVars_none hV
  obtain ⟨b0, len0, cap0, rfl⟩ := okWide_slice Tryz.underlying22 (hval 0 22 v0 rfl rfl)
  obtain ⟨fuel0, hf0⟩ := h0
  obtain ⟨c0, hok0, akf⟩ := Go.Mx.Op.slice (n := fuel0) (sz := 1) (f := fun i : Int => [.v (.int .u8 i)]) (cx := zH) (fun _ _ h => h) Tryz.underlying22 (by kernel_rfl) (by decide) (fun _ => rfl) (Go.Mx.Op.int (n := fuel0) Tryz.underlying5) fuel0 (by omega) _ _ hf0
  have hd0 : Rd zH W (.sl 1 .ro (c0.map fun i => [.v (.int .u8 i)])) (.slice b0 len0 cap0) := akf.2 0 _ _ rfl rfl
  have hd : pJ zH W [.sl 1 .ro (c0.map fun i => [.v (.int .u8 i)])] [.slice b0 len0 cap0] := pJ.one hd0
  refine (YV (E := Go.Ev.X.E) (f := 3) (args := #[.slice b0 len0 cap0]) (fun g => .any _) hd (Go.Ev.Lj c0 hok0)).mono fun e W' ⟨he, hb⟩ => ?_
  exact ⟨_, he, Xl (tb := 4) hW' (by kernel_rfl) Tryz.underlying4 rfl rfl laid (by rw [Tryz.params3]; intro t ht; simp at ht; subst ht; exact ⟨by kernel_rfl, by decide⟩) hb⟩
theorem lifted (os : Os) (started : os.Started) (H : Type) (enc : TypeId × Value → H) :
    ReturnsInHanded {} Tryz.checked os 3 .any (Rows.fnUnusedVarsSpec.pre6 enc Tryz.prog Tryz.f3 Rows.fnUnusedVarsRow.domain false) (Rows.fnUnusedVarsSpec.post enc Tryz.prog Tryz.f3 false true false false) := by
  refine returnsInHanded_of_change (C := Tryz.checked) own started (by kernel_rfl) Tryz.func3
    (ChangeSpec.witness6 (enc := enc) (C := Tryz.checked) false ⟨#[], #[.slice none 0 0], []⟩ 8 (by kernel_rfl) (by kernel_rfl) (by kernel_rfl) (by kernel_rfl)) ?_
  intro W base args ds gs before hval hW _ _
  exact contract H enc W base args ds gs before hval hW
theorem proved : Rows.FnUnusedVarsSaid :=
  OpenClaim.holds_of_wide 3 Tryz.f3 rfl rfl rfl rfl rfl rfl rfl ⟨rfl, rfl, rfl, rfl, rfl⟩ rfl rfl rfl rfl rfl (by kernel_rfl) Tryz.func3 (by kernel_rfl)
    (of_decide_eq_true (by kernel_rfl)) (by unfold Func.isWrapper; first | (rw [if_pos (by decide +kernel)]; kernel_rfl) | (rw [if_neg (by decide +kernel)]; exact ⟨rfl, rfl⟩))
    (fun os started H enc _ => lifted os started H enc)
#print axioms proved
end Go.Proofs.YtacfeklhbbdghaaGreat.fnUnusedVars
