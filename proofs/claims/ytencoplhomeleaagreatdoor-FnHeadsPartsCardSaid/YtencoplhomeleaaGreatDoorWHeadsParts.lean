/- FnHeadsParts answers true for every argument (its tables as the program lays them), and the arguments and the tables read afterwards as they read before. No condition beyond the given statement's. -/
import Derived.Test.YtencoplhomeleaaGreatDoorEvTri
import Derived.Test.YtencoplhomeleaaGreatDoorJHeadsParts
import Derived.Test.YtencoplhomeleaaGreatDoorLwHeadsParts
import Derived.Test.YtencoplhomeleaaGreatDoorCards
import Derived.Test.YtencoplhomeleaaGreatDoorTie
import Derived.WalkKit
import Derived.ProofKit
import Derived.OpenShut
import Derived.Deep.DeepHandedRow
import Derived.Lib.LaidTab
namespace Go.Proofs.YtencoplhomeleaaGreatDoor.fnHeadsParts
open Go.ChangeShapes Go.WideShapes Go.ChangeAt Go.ChangeMaps Go.RowKit Go.Mx
set_option linter.unusedVariables false
set_option maxRecDepth 100000
theorem own : ownKnob Tryz.prog.godebug = none := by kernel_rfl
theorem laidOut : laidOutB Tryz.prog = true := by kernel_rfl
theorem g2 : Tryz.prog.globalNamed "loop.example/macroexpander/impl.primitives" = some 2 := by kernel_rfl
theorem gt2 : (Tryz.prog.globals[2]?).map (·.type) = some 104 := by kernel_rfl
def tab_primitives : List ByteArray := [⟨#[108, 105, 115, 116]⟩, ⟨#[43]⟩, ⟨#[60]⟩, ⟨#[61]⟩, ⟨#[104, 101, 97, 100]⟩, ⟨#[116, 97, 105, 108]⟩]
theorem glob {W : World} (h : laidMetH Tryz.prog Rows.fnHeadsPartsRow.laid W) : ∀ g, Rd cx0 W (Go.Ev.X.E.G g) (.pointer (some ⟨g, 0, none⟩)) := by
  obtain ⟨ps, h0, _⟩ : laidMet Tryz.prog Rows.fnHeadsPartsRow.laid W := h
  obtain ⟨k2, q2, h1⟩ := laid_cons (l := tab_primitives) g2 gt2 Tryz.underlying104 Tryz.underlying9 (by kernel_rfl) (by kernel_rfl) h0
  intro g
  show Rd cx0 W (Go.Ev.globK g).D _
  unfold Go.Ev.globK
  split
  · exact k2
  · exact .any _
theorem contract (H : Type) (enc : TypeId × Value → H) (W : World) (base : Nat) (args : Array Value) (ds gs : List (DataW H)) (before : List MemPlace)
    (hval : ∀ (j : Nat) t v, Tryz.f5.params[j]? = some t → args[j]? = some v → Value.okWide Tryz.prog W .any base t v)
    (hW : DataW.Whole enc Tryz.prog Tryz.f5.params.toList Rows.fnHeadsPartsSpec.vars false W args.toList ds gs before) (hL : laidMetH Tryz.prog Rows.fnHeadsPartsRow.laid W) :
    Calls Tryz.prog 5 args W fun e W' => ∃ v, e = .returned v ∧ Rows.fnHeadsPartsSpec.post enc Tryz.prog Tryz.f5 false true false false W args v W' := by
  have hW' := hW
  obtain ⟨p, q, hA0, hV, rfl, hfz, hnd⟩ := hW
  have hA : DataW.TrodAll enc Tryz.prog W 0 (fun _ => true) true Tryz.f5.params.toList args.toList ds p := hA0
  rw [Tryz.params5] at hA hval
  obtain ⟨v0, vs0, d0, ds0, p0, q0, hargs0, rfl, rfl, h0, r0⟩ := trodAll_cons hA
  obtain ⟨hnil, rfl, rfl⟩ := trodAll_nil r0
  subst hnil
  obtain rfl : args = #[v0] := by cases args; simp_all
  obtain ⟨gl, hgl⟩ : ∃ gl : List (DataW H), gs = gl := ⟨gs, rfl⟩
  obtain ⟨b0, len0, cap0, rfl⟩ := okWide_slice Tryz.underlying44 (hval 0 44 v0 rfl rfl)
  obtain ⟨fuel0, hf0⟩ := h0
  obtain ⟨c0, hok0, hrd0⟩ := Go.Mx.Op.slice (n := fuel0) (sz := 1) (f := fun i : Int => [.v (.int .u8 i)]) (cx := cx0) (fun _ _ h => h) Tryz.underlying44 (by kernel_rfl) (by decide) (fun _ => rfl) (Go.Mx.Op.int (n := fuel0) Tryz.underlying5) fuel0 (by omega) _ _ hf0
  have hd0 : Rd cx0 W (.sl 1 .ro (c0.map fun i => [.v (.int .u8 i)])) (.slice b0 len0 cap0) := hrd0.2 0 _ _ rfl rfl
  have hd : RdL cx0 W [.sl 1 .ro (c0.map fun i => [.v (.int .u8 i)])] [.slice b0 len0 cap0] := RdL.one hd0
  refine (law_call (E := Go.Ev.X.E) (f := 5) (args := #[.slice b0 len0 cap0]) (glob hL) hd (Go.Ev.lawHeadsParts c0 hok0 )).mono fun e W' ⟨he, hb⟩ => ?_
  have hfn : Rows.fnHeadsPartsSpec.fn H ([d0] ++ gs) = { results := [.lit (.bool true)], args := [d0], vars := gs } := by
    have hlen : gs.length = 1 := trodVars_len hV
    match gs, hlen with
    | [y0], _ => rfl
  exact ⟨_, he, post_trueV (tb := 4) hW' (by kernel_rfl) Tryz.underlying4 (by kernel_rfl) hfn laidOut (by rw [Tryz.params5]; intro t ht; simp at ht; subst ht; exact ⟨by kernel_rfl, by decide⟩) hb⟩
noncomputable def laidWorld (os : Os) : World :=
  { World.holding Tryz.prog os ⟨#[], #[], []⟩ with heap := (((World.holding Tryz.prog os ⟨#[], #[], []⟩).heap).modify 2 (fun
      | .cells _ t frozen => .cells (tab_primitives.map Value.string).toArray t frozen
      | o => o)) }
theorem laid_met (os : Os) : laidMet Tryz.prog Rows.fnHeadsPartsRow.laid ((laidWorld os).forCall (fun _ _ => 0) ⟨#[], #[.slice none 0 0], []⟩).memory :=
  laidMet_of_run' 8 (by kernel_rfl) (by kernel_rfl)
theorem reads (os : Os) {H : Type} (enc : TypeId × Value → H) : ∃ places, DataW.whole enc Tryz.prog ((laidWorld os).forCall (fun _ _ => 0) ⟨#[], #[.slice none 0 0], []⟩).memory Tryz.f5.params.toList Rows.fnHeadsPartsSpec.vars false (#[.slice none 0 0] : Array Value).toList 8 = some ([.nil], [strData tab_primitives], places) :=
  ⟨[.cell 2 0, .cell 2 1, .cell 2 2, .cell 2 3, .cell 2 4, .cell 2 5], by kernel_rfl⟩
set_option maxRecDepth 100000 in
theorem lifted (os : Os) (started : os.Started) (H : Type) (enc : TypeId × Value → H) (F : Stop.Interp) :
    ReturnsInHanded {} Tryz.checked os 5 .any ((OpenSpec.ofChange Rows.fnHeadsPartsSpec).preRow enc Tryz.prog Tryz.f5 Rows.fnHeadsPartsRow.domain false Rows.fnHeadsPartsRow.laid) (((OpenSpec.ofChange Rows.fnHeadsPartsSpec).at F).post enc Tryz.prog Tryz.f5 false true false false) := by
  obtain ⟨places, hx⟩ := reads os enc
  refine returnsInHanded_of_row (C := Tryz.checked) (s := OpenSpec.ofChange Rows.fnHeadsPartsSpec) own started (by kernel_rfl) Tryz.func5
    (witness_row_at (enc := enc) (C := Tryz.checked) false (laidWorld os) #[.slice none 0 0] rfl (by kernel_rfl) (by kernel_rfl) (by kernel_rfl)
      (OpenSpec.preRow_of_cond 8 hx (by kernel_rfl) (fun k hk => by cases hk) (by kernel_rfl) (laid_met os))) ?_
  intro W base args ds gs before hval hW _ _ _ hL _ _
  exact contract H enc W base args ds gs before hval hW hL
theorem said : Rows.FnHeadsPartsSaid :=
  OpenClaim.holds_of_cond 5 Tryz.f5 rfl rfl rfl rfl rfl rfl rfl ⟨rfl, rfl, rfl, rfl, rfl⟩ rfl rfl rfl rfl rfl (by kernel_rfl) Tryz.func5 facts
    (of_decide_eq_true (by kernel_rfl)) (by unfold Func.isWrapper; first | (rw [if_pos (by decide +kernel)]; kernel_rfl) | (rw [if_neg (by decide +kernel)]; exact ⟨rfl, rfl⟩))
    (fun os started H enc _ F => by rw [OpenClaim.pre_eq_preRow]; exact lifted os started H enc F)
theorem plain (f : FuncId) (fn : Func) (hf : Tryz.pinned.checked.prog.funcNamed "loop.example/macroexpander/laws.FnHeadsParts" = some f) (hfn : Tryz.pinned.checked.prog.funcs[f]? = some fn) :
    true = Tryz.pinned.checked.prog.looks [] ∧ ∀ (j : Nat) t, fn.params[j]? = some t → Tryz.pinned.checked.prog.wantsStandIn t = false := by
  obtain rfl : f = 5 := Option.some.inj ((show Tryz.prog.funcNamed "loop.example/macroexpander/laws.FnHeadsParts" = some 5 by kernel_rfl).symm.trans hf) |>.symm
  obtain rfl : fn = Tryz.f5 := (Option.some.inj (Tryz.func5.symm.trans hfn)).symm
  refine ⟨by kernel_rfl, fun j t ht => ?_⟩
  rw [Tryz.params5] at ht
  obtain rfl : t = 44 := by simpa using Array.mem_of_getElem? ht
  exact (show Tryz.prog.wantsStandIn 44 = false by kernel_rfl)
theorem card : Rows.FnHeadsPartsCardSaid :=
  Claim7.holds_tied_plain_at .later [] _ _ _ _ said (fun _ h => by cases h) (by kernel_rfl) (fun _ h => by cases h) fnHeadsParts_row_tie rfl ⟨rfl, rfl⟩ (by kernel_rfl) rfl plain (by kernel_rfl)
#print axioms card
end Go.Proofs.YtencoplhomeleaaGreatDoor.fnHeadsParts
