/- FnSubstituteBack answers true for every argument (its tables as the program lays them), and the arguments and the tables read afterwards as they read before. No condition beyond the given statement's. -/
import Derived.Test.YtencoplhomeleaaDoorEvTri
import Derived.Test.YtencoplhomeleaaDoorLwSubstituteBack
import Derived.Test.YtencoplhomeleaaDoorCards
import Derived.Test.YtencoplhomeleaaDoorTie
import Derived.WalkKit
import Derived.ProofKit
import Derived.OpenShut
import Derived.Deep.DeepHandedRow
import Derived.Lib.LaidTab
namespace Go.Proofs.YtencoplhomeleaaDoor.fnSubstituteBack
open Go.ChangeShapes Go.WideShapes Go.ChangeAt Go.ChangeMaps Go.RowKit Go.Mx
set_option linter.unusedVariables false
set_option maxRecDepth 100000
theorem own : ownKnob Tryd.prog.godebug = none := by kernel_rfl
theorem laidOut : laidOutB Tryd.prog = true := by kernel_rfl
theorem g0 : Tryd.prog.globalNamed "loop.example/macroexpander/impl.primitives" = some 0 := by kernel_rfl
theorem gt0 : (Tryd.prog.globals[0]?).map (·.type) = some 76 := by kernel_rfl
def tab_primitives : List ByteArray := [⟨#[108, 105, 115, 116]⟩, ⟨#[43]⟩, ⟨#[60]⟩, ⟨#[61]⟩, ⟨#[104, 101, 97, 100]⟩, ⟨#[116, 97, 105, 108]⟩]
theorem glob {W : World} (h : laidMetH Tryd.prog Rows.fnSubstituteBackRow.laid W) : ∀ g, Rd cx0 W (Go.Ev.X.E.G g) (.pointer (some ⟨g, 0, none⟩)) := by
  obtain ⟨ps, h0, _⟩ : laidMet Tryd.prog Rows.fnSubstituteBackRow.laid W := h
  obtain ⟨k0, q0, h1⟩ := laid_cons (l := tab_primitives) g0 gt0 Tryd.underlying76 Tryd.underlying9 (by kernel_rfl) (by kernel_rfl) h0
  intro g
  show Rd cx0 W (Go.Ev.globK g).D _
  unfold Go.Ev.globK
  split
  · exact k0
  · exact .any _
theorem contract (H : Type) (enc : TypeId × Value → H) (W : World) (base : Nat) (args : Array Value) (ds gs : List (DataW H)) (before : List MemPlace)
    (hval : ∀ (j : Nat) t v, Tryd.f5.params[j]? = some t → args[j]? = some v → Value.okWide Tryd.prog W .any base t v)
    (hW : DataW.Whole enc Tryd.prog Tryd.f5.params.toList Rows.fnSubstituteBackSpec.vars false W args.toList ds gs before) (hL : laidMetH Tryd.prog Rows.fnSubstituteBackRow.laid W) :
    Calls Tryd.prog 5 args W fun e W' => ∃ v, e = .returned v ∧ Rows.fnSubstituteBackSpec.post enc Tryd.prog Tryd.f5 false true false false W args v W' := by
  have hW' := hW
  obtain ⟨p, q, hA0, hV, rfl, hfz, hnd⟩ := hW
  have hA : DataW.TrodAll enc Tryd.prog W 0 (fun _ => true) true Tryd.f5.params.toList args.toList ds p := hA0
  rw [Tryd.params5] at hA hval
  obtain ⟨v0, vs0, d0, ds0, p0, q0, hargs0, rfl, rfl, h0, r0⟩ := trodAll_cons hA
  obtain ⟨hnil, rfl, rfl⟩ := trodAll_nil r0
  subst hnil
  obtain rfl : args = #[v0] := by cases args; simp_all
  obtain ⟨gl, hgl⟩ : ∃ gl : List (DataW H), gs = gl := ⟨gs, rfl⟩
  obtain ⟨b0, len0, cap0, rfl⟩ := okWide_slice Tryd.underlying22 (hval 0 22 v0 rfl rfl)
  obtain ⟨fuel0, hf0⟩ := h0
  obtain ⟨c0, hok0, hrd0⟩ := Go.Mx.Op.slice (n := fuel0) (sz := 1) (f := fun i : Int => [.v (.int .u8 i)]) (cx := cx0) (fun _ _ h => h) Tryd.underlying22 (by kernel_rfl) (by decide) (fun _ => rfl) (Go.Mx.Op.int (n := fuel0) Tryd.underlying5) fuel0 (by omega) _ _ hf0
  have hd0 : Rd cx0 W (.sl 1 .ro (c0.map fun i => [.v (.int .u8 i)])) (.slice b0 len0 cap0) := hrd0.2 0 _ _ rfl rfl
  have hd : RdL cx0 W [.sl 1 .ro (c0.map fun i => [.v (.int .u8 i)])] [.slice b0 len0 cap0] := RdL.one hd0
  refine (law_call (E := Go.Ev.X.E) (f := 5) (args := #[.slice b0 len0 cap0]) (glob hL) hd (Go.Ev.lawSubstituteBack c0 hok0 )).mono fun e W' ⟨he, hb⟩ => ?_
  have hfn : Rows.fnSubstituteBackSpec.fn H ([d0] ++ gs) = { results := [.lit (.bool true)], args := [d0], vars := gs } := by
    have hlen : gs.length = 1 := trodVars_len hV
    match gs, hlen with
    | [y0], _ => rfl
  exact ⟨_, he, post_trueV (tb := 4) hW' (by kernel_rfl) Tryd.underlying4 (by kernel_rfl) hfn laidOut (by rw [Tryd.params5]; intro t ht; simp at ht; subst ht; exact ⟨by kernel_rfl, by decide⟩) hb⟩
noncomputable def laidWorld (os : Os) : World :=
  { World.holding Tryd.prog os ⟨#[], #[], []⟩ with heap := (((World.holding Tryd.prog os ⟨#[], #[], []⟩).heap).modify 0 (fun
      | .cells _ t frozen => .cells (tab_primitives.map Value.string).toArray t frozen
      | o => o)) }
theorem laid_met (os : Os) : laidMet Tryd.prog Rows.fnSubstituteBackRow.laid ((laidWorld os).forCall (fun _ _ => 0) ⟨#[], #[.slice none 0 0], []⟩).memory :=
  laidMet_of_run' 8 (by kernel_rfl) (by kernel_rfl)
theorem reads (os : Os) {H : Type} (enc : TypeId × Value → H) : ∃ places, DataW.whole enc Tryd.prog ((laidWorld os).forCall (fun _ _ => 0) ⟨#[], #[.slice none 0 0], []⟩).memory Tryd.f5.params.toList Rows.fnSubstituteBackSpec.vars false (#[.slice none 0 0] : Array Value).toList 8 = some ([.nil], [strData tab_primitives], places) :=
  ⟨[.cell 0 0, .cell 0 1, .cell 0 2, .cell 0 3, .cell 0 4, .cell 0 5], by kernel_rfl⟩
set_option maxRecDepth 100000 in
theorem lifted (os : Os) (started : os.Started) (H : Type) (enc : TypeId × Value → H) (F : Stop.Interp) :
    ReturnsInHanded {} Tryd.checked os 5 .any ((OpenSpec.ofChange Rows.fnSubstituteBackSpec).preRow enc Tryd.prog Tryd.f5 Rows.fnSubstituteBackRow.domain false Rows.fnSubstituteBackRow.laid) (((OpenSpec.ofChange Rows.fnSubstituteBackSpec).at F).post enc Tryd.prog Tryd.f5 false true false false) := by
  obtain ⟨places, hx⟩ := reads os enc
  refine returnsInHanded_of_row (C := Tryd.checked) (s := OpenSpec.ofChange Rows.fnSubstituteBackSpec) own started (by kernel_rfl) Tryd.func5
    (witness_row_at (enc := enc) (C := Tryd.checked) false (laidWorld os) #[.slice none 0 0] rfl (by kernel_rfl) (by kernel_rfl) (by kernel_rfl)
      (OpenSpec.preRow_of_cond 8 hx (by kernel_rfl) (fun k hk => by cases hk) (by kernel_rfl) (laid_met os))) ?_
  intro W base args ds gs before hval hW _ _ _ hL _ _
  exact contract H enc W base args ds gs before hval hW hL
theorem said : Rows.FnSubstituteBackSaid :=
  OpenClaim.holds_of_cond 5 Tryd.f5 rfl rfl rfl rfl rfl rfl rfl ⟨rfl, rfl, rfl, rfl, rfl⟩ rfl rfl rfl rfl rfl (by kernel_rfl) Tryd.func5 (by kernel_rfl)
    (of_decide_eq_true (by kernel_rfl)) (by unfold Func.isWrapper; first | (rw [if_pos (by decide +kernel)]; kernel_rfl) | (rw [if_neg (by decide +kernel)]; exact ⟨rfl, rfl⟩))
    (fun os started H enc _ F => by rw [OpenClaim.pre_eq_preRow]; exact lifted os started H enc F)
theorem plain (f : FuncId) (fn : Func) (hf : Tryd.pinned.checked.prog.funcNamed "loop.example/macroexpander/laws.FnSubstituteBack" = some f) (hfn : Tryd.pinned.checked.prog.funcs[f]? = some fn) :
    false = Tryd.pinned.checked.prog.looks [] ∧ ∀ (j : Nat) t, fn.params[j]? = some t → Tryd.pinned.checked.prog.wantsStandIn t = false := by
  obtain rfl : f = 5 := Option.some.inj ((show Tryd.prog.funcNamed "loop.example/macroexpander/laws.FnSubstituteBack" = some 5 by kernel_rfl).symm.trans hf) |>.symm
  obtain rfl : fn = Tryd.f5 := (Option.some.inj (Tryd.func5.symm.trans hfn)).symm
  refine ⟨by kernel_rfl, fun j t ht => ?_⟩
  rw [Tryd.params5] at ht
  obtain rfl : t = 22 := by simpa using Array.mem_of_getElem? ht
  exact (show Tryd.prog.wantsStandIn 22 = false by kernel_rfl)
theorem card : Rows.FnSubstituteBackCardSaid :=
  Claim7.holds_tied_plain_at .later [] _ _ _ _ said (fun _ h => by cases h) (by kernel_rfl) (fun _ h => by cases h) fnSubstituteBack_row_tie rfl ⟨rfl, rfl⟩ (by kernel_rfl) rfl plain (by kernel_rfl)
#print axioms card
end Go.Proofs.YtencoplhomeleaaDoor.fnSubstituteBack
