/- FnExactUncoreForm answers true for every argument (its tables as the program lays them), and the arguments and the tables read afterwards as they read before. No condition beyond the given statement's. -/
import Derived.Test.YtomehndhbihfiaaGreatDoorEvTri
import Derived.Test.YtomehndhbihfiaaGreatDoorJExactUncoreForm
import Derived.Test.YtomehndhbihfiaaGreatDoorRlU
import Derived.Test.YtomehndhbihfiaaGreatDoorCards
import Derived.Test.YtomehndhbihfiaaGreatDoorTie
import Derived.WalkKit
import Derived.ProofKit
import Derived.OpenShut
import Derived.Deep.DeepHandedRow
import Derived.Lib.LaidTab
import Derived.Stop.LaidErr
namespace Go.Proofs.YtomehndhbihfiaaGreatDoor.fnExactUncoreForm
open Go.ChangeShapes Go.WideShapes Go.ChangeAt Go.ChangeMaps Go.RowKit Go.Mx
set_option linter.unusedVariables false
set_option maxRecDepth 100000
theorem own : ownKnob Tryz.prog.godebug = none := by kernel_rfl
theorem laidOut : laidOutB Tryz.prog = true := by kernel_rfl
theorem formTy : FormTy Tryz.prog 25 9 22 23 3 :=
  ⟨Tryz.underlying3, Tryz.underlying9, Tryz.underlying22, by kernel_rfl, by kernel_rfl, by kernel_rfl, by kernel_rfl, Tryz.underlying23, by kernel_rfl, ⟨_, _, _, _, _, Tryz.underlying25, rfl, rfl, rfl, rfl, rfl⟩⟩
theorem coreTy : CoreTy Tryz.prog 28 26 25 9 22 23 3 :=
  ⟨formTy, Tryz.underlying26, by kernel_rfl, by kernel_rfl, ⟨_, _, _, _, _, _, _, Tryz.underlying28, rfl, rfl, rfl, rfl, rfl, rfl, rfl⟩⟩
theorem g0 : Tryz.prog.globalNamed "loop.example/macroexpander/impl.coreForms" = some 0 := by kernel_rfl
theorem gt0 : (Tryz.prog.globals[0]?).map (·.type) = some 64 := by kernel_rfl
def tab_coreForms : List ByteArray := [⟨#[108, 97, 109, 98, 100, 97]⟩, ⟨#[105, 102]⟩, ⟨#[113, 117, 111, 116, 101]⟩, ⟨#[108, 101, 116]⟩, ⟨#[108, 101, 116, 45, 115, 121, 110, 116, 97, 120]⟩]
theorem g5 : Tryz.prog.globalNamed "math/bits.deBruijn32tab" = some 5 := by kernel_rfl
theorem gt5 : (Tryz.prog.globals[5]?).map (·.type) = some 196 := by kernel_rfl
theorem g6 : Tryz.prog.globalNamed "math/bits.deBruijn64tab" = some 6 := by kernel_rfl
theorem gt6 : (Tryz.prog.globals[6]?).map (·.type) = some 197 := by kernel_rfl
theorem g3 : Tryz.prog.globalNamed "internal/strconv.uint64pow10" = some 3 := by kernel_rfl
theorem gt3 : (Tryz.prog.globals[3]?).map (·.type) = some 158 := by kernel_rfl
theorem g2 : Tryz.prog.globalNamed "strconv.ErrRange" = some 2 := by kernel_rfl
theorem gt2 : (Tryz.prog.globals[2]?).map (·.type) = some 108 := by kernel_rfl
theorem g1 : Tryz.prog.globalNamed "strconv.ErrSyntax" = some 1 := by kernel_rfl
theorem gt1 : (Tryz.prog.globals[1]?).map (·.type) = some 108 := by kernel_rfl
theorem star : "*" ++ "errors.errorString" = "*errors.errorString" := by decide
theorem rowE (u : TypeId) (h : Tryz.prog.typeName? 3 u = some "*errors.errorString") : u = 177 :=
  typeName_ptr_named (nm := "errors.errorString") (by rw [star]; kernel_rfl) (by kernel_rfl) (by decide) u (by rw [star]; exact h)
theorem glob {W : World} (h : laidMetH Tryz.prog Rows.fnExactUncoreFormRow.laid W) : ∀ g, Rd cx0 W (Go.Ev.X.E.G g) (.pointer (some ⟨g, 0, none⟩)) := by
  have h0 : laidMet Tryz.prog Rows.fnExactUncoreFormRow.laid W := h
  have n3 : Lib.TabIs Tryz.prog W "internal/strconv.uint64pow10" .u64 Lib.pow10Tab := Lib.tabIs_of_head (zs := Lib.pow10Tab) g3 gt3 Tryz.underlying158 Tryz.underlying134 (by kernel_rfl) (by kernel_rfl) h0.tail.tail
  obtain ⟨a1, s1, n1, -⟩ := laid_sentinel (h0.tail.tail.tail.tail) g1 gt1 Tryz.underlying108 rowE Tryz.underlying177 Tryz.underlying179 rfl rfl Tryz.underlying9 (by kernel_rfl) (by kernel_rfl)
  obtain ⟨k0, _, _⟩ : Rd cx0 W (.ro (strsD tab_coreForms).flatten) (.pointer (some ⟨0, 0, none⟩)) ∧ _ := by
    obtain ⟨ps, hp, _⟩ := h0.tail.tail.tail.tail.tail
    exact laid_cons (l := tab_coreForms) g0 gt0 Tryz.underlying64 Tryz.underlying9 (by kernel_rfl) (by kernel_rfl) hp
  intro g
  show Rd cx0 W (Go.Ev.globK g).D _
  unfold Go.Ev.globK
  split
  · exact k0
  · exact gb_of_var g1 n1 ⟨_, _, rfl⟩
  · exact gb_of_var g3 n3 rfl
  · exact .any _
theorem contract (H : Type) (enc : TypeId × Value → H) (W : World) (base : Nat) (args : Array Value) (ds gs : List (DataW H)) (before : List MemPlace)
    (hval : ∀ (j : Nat) t v, Tryz.f3.params[j]? = some t → args[j]? = some v → Value.okWide Tryz.prog W .any base t v)
    (hW : DataW.Whole enc Tryz.prog Tryz.f3.params.toList Rows.fnExactUncoreFormSpec.vars false W args.toList ds gs before) (hL : laidMetH Tryz.prog Rows.fnExactUncoreFormRow.laid W) :
    Calls Tryz.prog 3 args W fun e W' => ∃ v, e = .returned v ∧ Rows.fnExactUncoreFormSpec.post enc Tryz.prog Tryz.f3 false true false false W args v W' := by
  have hW' := hW
  obtain ⟨p, q, hA0, hV, rfl, hfz, hnd⟩ := hW
  have hA : DataW.TrodAll enc Tryz.prog W 0 (fun _ => true) true Tryz.f3.params.toList args.toList ds p := hA0
  rw [Tryz.params3] at hA hval
  obtain ⟨v0, vs0, d0, ds0, p0, q0, hargs0, rfl, rfl, h0, r0⟩ := trodAll_cons hA
  obtain ⟨hnil, rfl, rfl⟩ := trodAll_nil r0
  subst hnil
  obtain rfl : args = #[v0] := by cases args; simp_all
  obtain ⟨gl, hgl⟩ : ∃ gl : List (DataW H), gs = gl := ⟨gs, rfl⟩
  obtain ⟨cs0, rfl, hsz0⟩ := okWide_struct Tryz.underlying28 (hval 0 28 v0 rfl rfl)
  obtain ⟨fuel0, hf0⟩ := h0
  obtain ⟨c0, hok0, hrd0⟩ := op_core (cx := cx0) (fun _ _ h => h) coreTy fuel0 fuel0 (Nat.le_refl _) _ _ hf0
  have hd0 : Rd cx0 W (.agg (cCore c0)) (.agg cs0) := by
    have : (.agg cs0 : Value) = .agg cs0.toList.toArray := by simp
    rw [this]
    exact .agg hrd0.1 hrd0.2
  have hd : RdL cx0 W [.agg (cCore c0)] [.agg cs0] := RdL.one hd0
  have HL := Go.Raw.law c0 (cs := cs0.toList) (glob hL) hrd0 (Go.Ev.okC_agg c0 hok0 hd0)
  simp only [Array.toArray_toList] at HL
  refine HL.mono fun e W' ⟨he, hb⟩ => ?_
  have hfn : Rows.fnExactUncoreFormSpec.fn H ([d0] ++ gs) = { results := [.lit (.bool true)], args := [d0], vars := gs } := by
    have hlen : gs.length = 1 := trodVars_len hV
    match gs, hlen with
    | [y0], _ => rfl
  exact ⟨_, he, post_trueV (tb := 4) hW' (by kernel_rfl) Tryz.underlying4 (by kernel_rfl) hfn laidOut (by rw [Tryz.params3]; intro t ht; simp at ht; subst ht; exact ⟨by kernel_rfl, by decide⟩) hb⟩
noncomputable def low : Nat := (World.holding Tryz.prog default ⟨#[], #[], []⟩).heap.size
noncomputable def laidWorld (os : Os) : World :=
  { World.holding Tryz.prog os ⟨#[.cells #[.string ⟨#[118, 97, 108, 117, 101, 32, 111, 117, 116, 32, 111, 102, 32, 114, 97, 110, 103, 101]⟩] 179, .cells #[.string ⟨#[105, 110, 118, 97, 108, 105, 100, 32, 115, 121, 110, 116, 97, 120]⟩] 179], #[], []⟩ with heap := (((((((((((((World.holding Tryz.prog os ⟨#[.cells #[.string ⟨#[118, 97, 108, 117, 101, 32, 111, 117, 116, 32, 111, 102, 32, 114, 97, 110, 103, 101]⟩] 179, .cells #[.string ⟨#[105, 110, 118, 97, 108, 105, 100, 32, 115, 121, 110, 116, 97, 120]⟩] 179], #[], []⟩).heap).modify 2 (fun
      | .cells _ t frozen => .cells #[.iface 177 (.pointer (some ⟨low + 0, 0, none⟩))] t frozen
      | o => o))).modify 1 (fun
      | .cells _ t frozen => .cells #[.iface 177 (.pointer (some ⟨low + 1, 0, none⟩))] t frozen
      | o => o))).modify 5 (fun
      | .cells _ t frozen => .cells #[.int .u8 0, .int .u8 1, .int .u8 28, .int .u8 2, .int .u8 29, .int .u8 14, .int .u8 24, .int .u8 3, .int .u8 30, .int .u8 22, .int .u8 20, .int .u8 15, .int .u8 25, .int .u8 17, .int .u8 4, .int .u8 8, .int .u8 31, .int .u8 27, .int .u8 13, .int .u8 23, .int .u8 21, .int .u8 19, .int .u8 16, .int .u8 7, .int .u8 26, .int .u8 12, .int .u8 18, .int .u8 6, .int .u8 11, .int .u8 5, .int .u8 10, .int .u8 9] t frozen
      | o => o))).modify 6 (fun
      | .cells _ t frozen => .cells #[.int .u8 0, .int .u8 1, .int .u8 56, .int .u8 2, .int .u8 57, .int .u8 49, .int .u8 28, .int .u8 3, .int .u8 61, .int .u8 58, .int .u8 42, .int .u8 50, .int .u8 38, .int .u8 29, .int .u8 17, .int .u8 4, .int .u8 62, .int .u8 47, .int .u8 59, .int .u8 36, .int .u8 45, .int .u8 43, .int .u8 51, .int .u8 22, .int .u8 53, .int .u8 39, .int .u8 33, .int .u8 30, .int .u8 24, .int .u8 18, .int .u8 12, .int .u8 5, .int .u8 63, .int .u8 55, .int .u8 48, .int .u8 27, .int .u8 60, .int .u8 41, .int .u8 37, .int .u8 16, .int .u8 46, .int .u8 35, .int .u8 44, .int .u8 21, .int .u8 52, .int .u8 32, .int .u8 23, .int .u8 11, .int .u8 54, .int .u8 26, .int .u8 40, .int .u8 15, .int .u8 34, .int .u8 20, .int .u8 31, .int .u8 10, .int .u8 25, .int .u8 14, .int .u8 19, .int .u8 9, .int .u8 13, .int .u8 8, .int .u8 7, .int .u8 6] t frozen
      | o => o))).modify 3 (fun
      | .cells _ t frozen => .cells #[.int .u64 1, .int .u64 10, .int .u64 100, .int .u64 1000, .int .u64 10000, .int .u64 100000, .int .u64 1000000, .int .u64 10000000, .int .u64 100000000, .int .u64 1000000000, .int .u64 10000000000, .int .u64 100000000000, .int .u64 1000000000000, .int .u64 10000000000000, .int .u64 100000000000000, .int .u64 1000000000000000, .int .u64 10000000000000000, .int .u64 100000000000000000, .int .u64 1000000000000000000, .int .u64 10000000000000000000] t frozen
      | o => o))).modify 0 (fun
      | .cells _ t frozen => .cells (tab_coreForms.map Value.string).toArray t frozen
      | o => o)) }
theorem laid_met (os : Os) : laidMet Tryz.prog Rows.fnExactUncoreFormRow.laid ((laidWorld os).forCall (fun _ _ => 0) ⟨#[], #[.agg #[.int .i64 0, .int .i64 0, .string ⟨#[]⟩, .int .i64 0, .slice none 0 0, .int .i64 0, .string ⟨#[]⟩, .int .i64 0, .slice none 0 0, .slice none 0 0, .slice none 0 0]], []⟩).memory :=
  laidMet_of_run' 8 (by kernel_rfl) (by kernel_rfl)
theorem reads (os : Os) {H : Type} (enc : TypeId × Value → H) : ∃ places, DataW.whole enc Tryz.prog ((laidWorld os).forCall (fun _ _ => 0) ⟨#[], #[.agg #[.int .i64 0, .int .i64 0, .string ⟨#[]⟩, .int .i64 0, .slice none 0 0, .int .i64 0, .string ⟨#[]⟩, .int .i64 0, .slice none 0 0, .slice none 0 0, .slice none 0 0]], []⟩).memory Tryz.f3.params.toList Rows.fnExactUncoreFormSpec.vars false (#[.agg #[.int .i64 0, .int .i64 0, .string ⟨#[]⟩, .int .i64 0, .slice none 0 0, .int .i64 0, .string ⟨#[]⟩, .int .i64 0, .slice none 0 0, .slice none 0 0, .slice none 0 0]] : Array Value).toList 8 = some ([.agg [.lit (.int .i64 0), .lit (.int .i64 0), .lit (.string []), .lit (.int .i64 0), .nil, .agg [.lit (.int .i64 0), .lit (.string []), .lit (.int .i64 0), .nil, .nil], .nil]], [strData tab_coreForms], places) :=
  ⟨[.cell 0 0, .cell 0 1, .cell 0 2, .cell 0 3, .cell 0 4], by kernel_rfl⟩
set_option maxRecDepth 100000 in
theorem lifted (os : Os) (started : os.Started) (H : Type) (enc : TypeId × Value → H) (F : Stop.Interp) :
    ReturnsInHanded {} Tryz.checked os 3 .any ((OpenSpec.ofChange Rows.fnExactUncoreFormSpec).preRow enc Tryz.prog Tryz.f3 Rows.fnExactUncoreFormRow.domain false Rows.fnExactUncoreFormRow.laid) (((OpenSpec.ofChange Rows.fnExactUncoreFormSpec).at F).post enc Tryz.prog Tryz.f3 false true false false) := by
  obtain ⟨places, hx⟩ := reads os enc
  refine returnsInHanded_of_row (C := Tryz.checked) (s := OpenSpec.ofChange Rows.fnExactUncoreFormSpec) own started (by kernel_rfl) Tryz.func3
    (witness_row_at (enc := enc) (C := Tryz.checked) false (laidWorld os) #[.agg #[.int .i64 0, .int .i64 0, .string ⟨#[]⟩, .int .i64 0, .slice none 0 0, .int .i64 0, .string ⟨#[]⟩, .int .i64 0, .slice none 0 0, .slice none 0 0, .slice none 0 0]] rfl (by kernel_rfl) (by kernel_rfl) (by kernel_rfl)
      (OpenSpec.preRow_of_cond 8 hx (by kernel_rfl) (fun k hk => by cases hk) (by kernel_rfl) (laid_met os))) ?_
  intro W base args ds gs before hval hW _ _ _ hL _ _
  exact contract H enc W base args ds gs before hval hW hL
theorem said : Rows.FnExactUncoreFormSaid :=
  OpenClaim.holds_of_cond 3 Tryz.f3 rfl rfl rfl rfl rfl rfl rfl ⟨rfl, rfl, rfl, rfl, rfl⟩ rfl rfl rfl rfl rfl (by kernel_rfl) Tryz.func3 facts
    (of_decide_eq_true (by kernel_rfl)) (by unfold Func.isWrapper; first | (rw [if_pos (by decide +kernel)]; kernel_rfl) | (rw [if_neg (by decide +kernel)]; exact ⟨rfl, rfl⟩))
    (fun os started H enc _ F => by rw [OpenClaim.pre_eq_preRow]; exact lifted os started H enc F)
theorem plain (f : FuncId) (fn : Func) (hf : Tryz.pinned.checked.prog.funcNamed "loop.example/macroexpander/laws.FnExactUncoreForm" = some f) (hfn : Tryz.pinned.checked.prog.funcs[f]? = some fn) :
    true = Tryz.pinned.checked.prog.looks [] ∧ ∀ (j : Nat) t, fn.params[j]? = some t → Tryz.pinned.checked.prog.wantsStandIn t = false := by
  obtain rfl : f = 3 := Option.some.inj ((show Tryz.prog.funcNamed "loop.example/macroexpander/laws.FnExactUncoreForm" = some 3 by kernel_rfl).symm.trans hf) |>.symm
  obtain rfl : fn = Tryz.f3 := (Option.some.inj (Tryz.func3.symm.trans hfn)).symm
  refine ⟨by kernel_rfl, fun j t ht => ?_⟩
  rw [Tryz.params3] at ht
  obtain rfl : t = 28 := by simpa using Array.mem_of_getElem? ht
  exact (show Tryz.prog.wantsStandIn 28 = false by kernel_rfl)
theorem card : Rows.FnExactUncoreFormCardSaid :=
  Claim7.holds_tied_plain_at .later [] _ _ _ _ said (fun _ h => by cases h) (by kernel_rfl) (fun _ h => by cases h) fnExactUncoreForm_row_tie rfl ⟨rfl, rfl⟩ (by kernel_rfl) rfl plain (by kernel_rfl)
#print axioms card
end Go.Proofs.YtomehndhbihfiaaGreatDoor.fnExactUncoreForm
