/- FnHeadsOf answers true for every argument (its tables as the program lays them), and the arguments and the tables read afterwards as they read before. No condition beyond the given statement's. -/
import Derived.Test.YtindmpmlodllmaaGreatDoorEvTri
import Derived.Test.YtindmpmlodllmaaGreatDoorJHeadsOf
import Derived.Test.YtindmpmlodllmaaGreatDoorLwHeadsOf
import Derived.Test.YtindmpmlodllmaaGreatDoorCards
import Derived.Test.YtindmpmlodllmaaGreatDoorTie
import Derived.WalkKit
import Derived.ProofKit
import Derived.OpenShut
import Derived.Deep.DeepHandedRow
import Derived.Lib.LaidTab
namespace Go.Proofs.YtindmpmlodllmaaGreatDoor.fnHeadsOf
open Go.ChangeShapes Go.WideShapes Go.ChangeAt Go.ChangeMaps Go.RowKit Go.Mx
set_option linter.unusedVariables false
set_option maxRecDepth 100000
theorem own : ownKnob Tryz.prog.godebug = none := by kernel_rfl
theorem laidOut : laidOutB Tryz.prog = true := by kernel_rfl
theorem g0 : Tryz.prog.globalNamed "loop.example/macroexpander/impl.primitives" = some 0 := by kernel_rfl
theorem gt0 : (Tryz.prog.globals[0]?).map (·.type) = some 52 := by kernel_rfl
def uD : List ByteArray := [⟨#[108, 105, 115, 116]⟩, ⟨#[43]⟩, ⟨#[60]⟩, ⟨#[61]⟩, ⟨#[104, 101, 97, 100]⟩, ⟨#[116, 97, 105, 108]⟩]
theorem glob {W : World} (h : laidMetH Tryz.prog Rows.fnHeadsOfRow.laid W) : ∀ g, Rd TV W (Go.Ev.X.E.G g) (.pointer (some ⟨g, 0, none⟩)) := by
  obtain ⟨ps, h0, _⟩ : laidMet Tryz.prog Rows.fnHeadsOfRow.laid W := h
  obtain ⟨k0, q0, h1⟩ := TY (l := uD) g0 gt0 Tryz.underlying52 Tryz.underlying9 (by kernel_rfl) (by kernel_rfl) h0
  intro g
  show Rd TV W (Go.Ev.RP g).D _
  unfold Go.Ev.RP
  split
  · exact k0
  · exact .any _
theorem contract (H : Type) (enc : TypeId × Value → H) (W : World) (base : Nat) (args : Array Value) (ds gs : List (DataW H)) (before : List MemPlace)
    (hval : ∀ (j : Nat) t v, Tryz.f3.params[j]? = some t → args[j]? = some v → Value.okWide Tryz.prog W .any base t v)
    (hW : DataW.Whole enc Tryz.prog Tryz.f3.params.toList Rows.fnHeadsOfSpec.vars false W args.toList ds gs before) (hL : laidMetH Tryz.prog Rows.fnHeadsOfRow.laid W) :
    Calls Tryz.prog 3 args W fun e W' => ∃ v, e = .returned v ∧ Rows.fnHeadsOfSpec.post enc Tryz.prog Tryz.f3 false true false false W args v W' := by
  have hW' := hW
  obtain ⟨p, q, hA0, hV, rfl, hfz, hnd⟩ := hW
  have hA : DataW.TrodAll enc Tryz.prog W 0 (fun _ => true) true Tryz.f3.params.toList args.toList ds p := hA0
  rw [Tryz.params3] at hA hval
  obtain ⟨v0, vs0, d0, ds0, p0, q0, hargs0, rfl, rfl, h0, r0⟩ := trodAll_cons hA
  obtain ⟨hnil, rfl, rfl⟩ := trodAll_nil r0
  subst hnil
  obtain rfl : args = #[v0] := by cases args; simp_all
  obtain ⟨gl, hgl⟩ : ∃ gl : List (DataW H), gs = gl := ⟨gs, rfl⟩
  obtain ⟨b0, len0, cap0, rfl⟩ := okWide_slice Tryz.underlying22 (hval 0 22 v0 rfl rfl)
  obtain ⟨fuel0, hf0⟩ := h0
  obtain ⟨c0, hok0, afB⟩ := Go.Mx.Op.slice (n := fuel0) (sz := 1) (f := fun i : Int => [.v (.int .u8 i)]) (cx := TV) (fun _ _ h => h) Tryz.underlying22 (by kernel_rfl) (by decide) (fun _ => rfl) (Go.Mx.Op.int (n := fuel0) Tryz.underlying5) fuel0 (by omega) _ _ hf0
  have hd0 : Rd TV W (.sl 1 .ro (c0.map fun i => [.v (.int .u8 i)])) (.slice b0 len0 cap0) := afB.2 0 _ _ rfl rfl
  have hd : Ji TV W [.sl 1 .ro (c0.map fun i => [.v (.int .u8 i)])] [.slice b0 len0 cap0] := Ji.one hd0
  refine (VT (E := Go.Ev.X.E) (f := 3) (args := #[.slice b0 len0 cap0]) (glob hL) hd (Go.Ev.QJ c0 hok0 )).mono fun e W' ⟨he, hb⟩ => ?_
  have hfn : Rows.fnHeadsOfSpec.fn H ([d0] ++ gs) = { results := [.lit (.bool true)], args := [d0], vars := gs } := by
    have hlen : gs.length = 1 := C9 hV
    match gs, hlen with
    | [y0], _ => rfl
  exact ⟨_, he, Qh (tb := 4) hW' (by kernel_rfl) Tryz.underlying4 (by kernel_rfl) hfn laidOut (by rw [Tryz.params3]; intro t ht; simp at ht; subst ht; exact ⟨by kernel_rfl, by decide⟩) hb⟩
noncomputable def laidWorld (os : Os) : World :=
  { World.holding Tryz.prog os ⟨#[], #[], []⟩ with heap := (((World.holding Tryz.prog os ⟨#[], #[], []⟩).heap).modify 0 (fun
      | .cells _ t frozen => .cells (uD.map Value.string).toArray t frozen
      | o => o)) }
theorem laid_met (os : Os) : laidMet Tryz.prog Rows.fnHeadsOfRow.laid ((laidWorld os).forCall (fun _ _ => 0) ⟨#[], #[.slice none 0 0], []⟩).memory :=
  laidMet_of_run' 8 (by kernel_rfl) (by kernel_rfl)
theorem reads (os : Os) {H : Type} (enc : TypeId × Value → H) : ∃ places, DataW.whole enc Tryz.prog ((laidWorld os).forCall (fun _ _ => 0) ⟨#[], #[.slice none 0 0], []⟩).memory Tryz.f3.params.toList Rows.fnHeadsOfSpec.vars false (#[.slice none 0 0] : Array Value).toList 8 = some ([.nil], [FY uD], places) :=
  ⟨[.cell 0 0, .cell 0 1, .cell 0 2, .cell 0 3, .cell 0 4, .cell 0 5], by kernel_rfl⟩
set_option maxRecDepth 100000 in
theorem lifted (os : Os) (started : os.Started) (H : Type) (enc : TypeId × Value → H) (F : Stop.Interp) :
    ReturnsInHanded {} Tryz.checked os 3 .any ((OpenSpec.ofChange Rows.fnHeadsOfSpec).preRow enc Tryz.prog Tryz.f3 Rows.fnHeadsOfRow.domain false Rows.fnHeadsOfRow.laid) (((OpenSpec.ofChange Rows.fnHeadsOfSpec).at F).post enc Tryz.prog Tryz.f3 false true false false) := by
  obtain ⟨places, hx⟩ := reads os enc
  refine returnsInHanded_of_row (C := Tryz.checked) (s := OpenSpec.ofChange Rows.fnHeadsOfSpec) own started (by kernel_rfl) Tryz.func3
    (witness_row_at (enc := enc) (C := Tryz.checked) false (laidWorld os) #[.slice none 0 0] rfl (by kernel_rfl) (by kernel_rfl) (by kernel_rfl)
      (OpenSpec.preRow_of_cond 8 hx (by kernel_rfl) (fun k hk => by cases hk) (by kernel_rfl) (laid_met os))) ?_
  intro W base args ds gs before hval hW _ _ _ hL _ _
  exact contract H enc W base args ds gs before hval hW hL
theorem said : Rows.FnHeadsOfSaid :=
  OpenClaim.holds_of_cond 3 Tryz.f3 rfl rfl rfl rfl rfl rfl rfl ⟨rfl, rfl, rfl, rfl, rfl⟩ rfl rfl rfl rfl rfl (by kernel_rfl) Tryz.func3 facts
    (of_decide_eq_true (by kernel_rfl)) (by unfold Func.isWrapper; first | (rw [if_pos (by decide +kernel)]; kernel_rfl) | (rw [if_neg (by decide +kernel)]; exact ⟨rfl, rfl⟩))
    (fun os started H enc _ F => by rw [OpenClaim.pre_eq_preRow]; exact lifted os started H enc F)
theorem plain (f : FuncId) (fn : Func) (hf : Tryz.pinned.checked.prog.funcNamed "loop.example/macroexpander/laws.FnHeadsOf" = some f) (hfn : Tryz.pinned.checked.prog.funcs[f]? = some fn) :
    false = Tryz.pinned.checked.prog.looks [] ∧ ∀ (j : Nat) t, fn.params[j]? = some t → Tryz.pinned.checked.prog.wantsStandIn t = false := by
  obtain rfl : f = 3 := Option.some.inj ((show Tryz.prog.funcNamed "loop.example/macroexpander/laws.FnHeadsOf" = some 3 by kernel_rfl).symm.trans hf) |>.symm
  obtain rfl : fn = Tryz.f3 := (Option.some.inj (Tryz.func3.symm.trans hfn)).symm
  refine ⟨by kernel_rfl, fun j t ht => ?_⟩
  rw [Tryz.params3] at ht
  obtain rfl : t = 22 := by simpa using Array.mem_of_getElem? ht
  exact (show Tryz.prog.wantsStandIn 22 = false by kernel_rfl)
theorem card : Rows.FnHeadsOfCardSaid :=
  Claim7.holds_tied_plain_at .later [] _ _ _ _ said (fun _ h => by cases h) (by kernel_rfl) (fun _ h => by cases h) fnHeadsOf_row_tie rfl ⟨rfl, rfl⟩ (by kernel_rfl) rfl plain (by kernel_rfl)
#print axioms card
end Go.Proofs.YtindmpmlodllmaaGreatDoor.fnHeadsOf
