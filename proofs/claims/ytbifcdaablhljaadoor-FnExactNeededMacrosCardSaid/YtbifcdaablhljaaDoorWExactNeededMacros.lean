/- FnExactNeededMacros answers true for every argument (its tables as the program lays them), and the arguments and the tables read afterwards as they read before. No condition beyond the given statement's. -/
import Derived.Test.YtbifcdaablhljaaDoorEvTri
import Derived.Test.YtbifcdaablhljaaDoorRlExactNeededMacros
import Derived.Test.YtbifcdaablhljaaDoorCards
import Derived.Test.YtbifcdaablhljaaDoorTie
import Derived.WalkKit
import Derived.ProofKit
import Derived.OpenShut
import Derived.Deep.DeepHandedRow
import Derived.Lib.LaidTab
namespace Go.Proofs.YtbifcdaablhljaaDoor.fnExactNeededMacros
open Go.ChangeShapes Go.WideShapes Go.ChangeAt Go.ChangeMaps Go.RowKit Go.Mx
set_option linter.unusedVariables false
set_option maxRecDepth 100000
theorem own : ownKnob Tryd.prog.godebug = none := by kernel_rfl
theorem laidOut : laidOutB Tryd.prog = true := by kernel_rfl
theorem formTy : FormTy Tryd.prog 33 9 30 31 3 :=
  ⟨Tryd.underlying3, Tryd.underlying9, Tryd.underlying30, by kernel_rfl, by kernel_rfl, by kernel_rfl, by kernel_rfl, Tryd.underlying31, by kernel_rfl, ⟨_, _, _, _, _, Tryd.underlying33, rfl, rfl, rfl, rfl, rfl⟩⟩
theorem g0 : Tryd.prog.globalNamed "loop.example/macroexpander/impl.libraryNames" = some 0 := by kernel_rfl
theorem gt0 : (Tryd.prog.globals[0]?).map (·.type) = some 64 := by kernel_rfl
def tab_libraryNames : List ByteArray := [⟨#[97, 110, 100]⟩, ⟨#[111, 114]⟩, ⟨#[110, 111, 116]⟩, ⟨#[119, 104, 101, 110]⟩, ⟨#[99, 111, 110, 100]⟩, ⟨#[108, 101, 116, 42]⟩, ⟨#[115, 119, 97, 112]⟩]
theorem glob {W : World} (h : laidMetH Tryd.prog Rows.fnExactNeededMacrosRow.laid W) : ∀ g, Rd cx0 W (Go.Ev.X.E.G g) (.pointer (some ⟨g, 0, none⟩)) := by
  obtain ⟨ps, h0, _⟩ : laidMet Tryd.prog Rows.fnExactNeededMacrosRow.laid W := h
  obtain ⟨k0, q0, h1⟩ := laid_cons (l := tab_libraryNames) g0 gt0 Tryd.underlying64 Tryd.underlying9 (by kernel_rfl) (by kernel_rfl) h0
  intro g
  show Rd cx0 W (Go.Ev.globK g).D _
  unfold Go.Ev.globK
  split
  · exact k0
  · exact .any _
theorem contract (H : Type) (enc : TypeId × Value → H) (W : World) (base : Nat) (args : Array Value) (ds gs : List (DataW H)) (before : List MemPlace)
    (hval : ∀ (j : Nat) t v, Tryd.f6.params[j]? = some t → args[j]? = some v → Value.okWide Tryd.prog W .any base t v)
    (hW : DataW.Whole enc Tryd.prog Tryd.f6.params.toList Rows.fnExactNeededMacrosSpec.vars false W args.toList ds gs before) (hL : laidMetH Tryd.prog Rows.fnExactNeededMacrosRow.laid W) :
    Calls Tryd.prog 6 args W fun e W' => ∃ v, e = .returned v ∧ Rows.fnExactNeededMacrosSpec.post enc Tryd.prog Tryd.f6 false true false false W args v W' := by
  have hW' := hW
  obtain ⟨p, q, hA0, hV, rfl, hfz, hnd⟩ := hW
  have hA : DataW.TrodAll enc Tryd.prog W 0 (fun _ => true) true Tryd.f6.params.toList args.toList ds p := hA0
  rw [Tryd.params6] at hA hval
  obtain ⟨v0, vs0, d0, ds0, p0, q0, hargs0, rfl, rfl, h0, r0⟩ := trodAll_cons hA
  obtain ⟨hnil, rfl, rfl⟩ := trodAll_nil r0
  subst hnil
  obtain rfl : args = #[v0] := by cases args; simp_all
  obtain ⟨gl, hgl⟩ : ∃ gl : List (DataW H), gs = gl := ⟨gs, rfl⟩
  obtain ⟨cs0, rfl, hsz0⟩ := okWide_struct Tryd.underlying33 (hval 0 33 v0 rfl rfl)
  obtain ⟨fuel0, hf0⟩ := h0
  obtain ⟨c0, hok0, hrd0⟩ := op_form (cx := cx0) (fun _ _ h => h) formTy fuel0 fuel0 (Nat.le_refl _) _ _ hf0
  have hd0 : Rd cx0 W (.agg (cForm c0)) (.agg cs0) := by
    have : (.agg cs0 : Value) = .agg cs0.toList.toArray := by simp
    rw [this]
    exact .agg hrd0.1 hrd0.2
  have hd : RdL cx0 W [.agg (cForm c0)] [.agg cs0] := RdL.one hd0
  have HL := Go.Raw.law c0 (cs := cs0.toList) (glob hL) hrd0 (Go.Ev.okF_agg c0 hok0 hd0)
  simp only [Array.toArray_toList] at HL
  refine HL.mono fun e W' ⟨he, hb⟩ => ?_
  have hfn : Rows.fnExactNeededMacrosSpec.fn H ([d0] ++ gs) = { results := [.lit (.bool true)], args := [d0], vars := gs } := by
    have hlen : gs.length = 1 := trodVars_len hV
    match gs, hlen with
    | [y0], _ => rfl
  exact ⟨_, he, post_trueV (tb := 4) hW' (by kernel_rfl) Tryd.underlying4 (by kernel_rfl) hfn laidOut (by rw [Tryd.params6]; intro t ht; simp at ht; subst ht; exact ⟨by kernel_rfl, by decide⟩) hb⟩
noncomputable def laidWorld (os : Os) : World :=
  { World.holding Tryd.prog os ⟨#[], #[], []⟩ with heap := (((World.holding Tryd.prog os ⟨#[], #[], []⟩).heap).modify 0 (fun
      | .cells _ t frozen => .cells (tab_libraryNames.map Value.string).toArray t frozen
      | o => o)) }
theorem laid_met (os : Os) : laidMet Tryd.prog Rows.fnExactNeededMacrosRow.laid ((laidWorld os).forCall (fun _ _ => 0) ⟨#[], #[.agg #[.int .i64 0, .string ⟨#[]⟩, .int .i64 0, .slice none 0 0, .slice none 0 0]], []⟩).memory :=
  laidMet_of_run' 8 (by kernel_rfl) (by kernel_rfl)
theorem reads (os : Os) {H : Type} (enc : TypeId × Value → H) : ∃ places, DataW.whole enc Tryd.prog ((laidWorld os).forCall (fun _ _ => 0) ⟨#[], #[.agg #[.int .i64 0, .string ⟨#[]⟩, .int .i64 0, .slice none 0 0, .slice none 0 0]], []⟩).memory Tryd.f6.params.toList Rows.fnExactNeededMacrosSpec.vars false (#[.agg #[.int .i64 0, .string ⟨#[]⟩, .int .i64 0, .slice none 0 0, .slice none 0 0]] : Array Value).toList 8 = some ([.agg [.lit (.int .i64 0), .lit (.string []), .lit (.int .i64 0), .nil, .nil]], [strData tab_libraryNames], places) :=
  ⟨[.cell 0 0, .cell 0 1, .cell 0 2, .cell 0 3, .cell 0 4, .cell 0 5, .cell 0 6], by kernel_rfl⟩
set_option maxRecDepth 100000 in
theorem lifted (os : Os) (started : os.Started) (H : Type) (enc : TypeId × Value → H) (F : Stop.Interp) :
    ReturnsInHanded {} Tryd.checked os 6 .any ((OpenSpec.ofChange Rows.fnExactNeededMacrosSpec).preRow enc Tryd.prog Tryd.f6 Rows.fnExactNeededMacrosRow.domain false Rows.fnExactNeededMacrosRow.laid) (((OpenSpec.ofChange Rows.fnExactNeededMacrosSpec).at F).post enc Tryd.prog Tryd.f6 false true false false) := by
  obtain ⟨places, hx⟩ := reads os enc
  refine returnsInHanded_of_row (C := Tryd.checked) (s := OpenSpec.ofChange Rows.fnExactNeededMacrosSpec) own started (by kernel_rfl) Tryd.func6
    (witness_row_at (enc := enc) (C := Tryd.checked) false (laidWorld os) #[.agg #[.int .i64 0, .string ⟨#[]⟩, .int .i64 0, .slice none 0 0, .slice none 0 0]] rfl (by kernel_rfl) (by kernel_rfl) (by kernel_rfl)
      (OpenSpec.preRow_of_cond 8 hx (by kernel_rfl) (fun k hk => by cases hk) (by kernel_rfl) (laid_met os))) ?_
  intro W base args ds gs before hval hW _ _ _ hL _ _
  exact contract H enc W base args ds gs before hval hW hL
theorem said : Rows.FnExactNeededMacrosSaid :=
  OpenClaim.holds_of_cond 6 Tryd.f6 rfl rfl rfl rfl rfl rfl rfl ⟨rfl, rfl, rfl, rfl, rfl⟩ rfl rfl rfl rfl rfl (by kernel_rfl) Tryd.func6 (by kernel_rfl)
    (of_decide_eq_true (by kernel_rfl)) (by unfold Func.isWrapper; first | (rw [if_pos (by decide +kernel)]; kernel_rfl) | (rw [if_neg (by decide +kernel)]; exact ⟨rfl, rfl⟩))
    (fun os started H enc _ F => by rw [OpenClaim.pre_eq_preRow]; exact lifted os started H enc F)
theorem plain (f : FuncId) (fn : Func) (hf : Tryd.pinned.checked.prog.funcNamed "loop.example/macroexpander/laws.FnExactNeededMacros" = some f) (hfn : Tryd.pinned.checked.prog.funcs[f]? = some fn) :
    false = Tryd.pinned.checked.prog.looks [] ∧ ∀ (j : Nat) t, fn.params[j]? = some t → Tryd.pinned.checked.prog.wantsStandIn t = false := by
  obtain rfl : f = 6 := Option.some.inj ((show Tryd.prog.funcNamed "loop.example/macroexpander/laws.FnExactNeededMacros" = some 6 by kernel_rfl).symm.trans hf) |>.symm
  obtain rfl : fn = Tryd.f6 := (Option.some.inj (Tryd.func6.symm.trans hfn)).symm
  refine ⟨by kernel_rfl, fun j t ht => ?_⟩
  rw [Tryd.params6] at ht
  obtain rfl : t = 33 := by simpa using Array.mem_of_getElem? ht
  exact (show Tryd.prog.wantsStandIn 33 = false by kernel_rfl)
theorem card : Rows.FnExactNeededMacrosCardSaid :=
  Claim7.holds_tied_plain_at .later [] _ _ _ _ said (fun _ h => by cases h) (by kernel_rfl) (fun _ h => by cases h) fnExactNeededMacros_row_tie rfl ⟨rfl, rfl⟩ (by kernel_rfl) rfl plain (by kernel_rfl)
#print axioms card
end Go.Proofs.YtbifcdaablhljaaDoor.fnExactNeededMacros
