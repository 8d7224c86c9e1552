/- Rows of strings are marked and held. No condition. -/
import Derived.Test.YtbifcdaablhljaaDoorRawT
import Derived.Test.YtbifcdaablhljaaDoorRawC
import Derived.Deep.RegionHeld3
import Derived.Lib.Hide
namespace Go.Raw
open Go.Mx Go.RowKit
set_option linter.unusedVariables false
set_option maxHeartbeats 1000000
def smarks (k n : Nat) : List Value := (List.range n).map fun j : Nat => Value.string (mT (k + j))
theorem smarks_all {k n : Nat} {l : List Value} (hl : l.length = n) (h : ∀ j, j < n → l[j]? = some (.string (mT (k + j)))) : l = smarks k n := by
  apply List.ext_getElem?
  intro j
  by_cases hj : j < n
  · rw [h j hj, smarks, List.getElem?_map, List.getElem?_range hj]; rfl
  · rw [List.getElem?_eq_none (by omega), List.getElem?_eq_none (by simp [smarks]; omega)]
def MarkSx (R : Nat → Prop) (v : Value) (n : Nat) (k : Nat) (w : World) (e : Ending) (w' : World) : Prop := e = .returned (.int .i64 ((k + n : Nat) : Int)) ∧ KS R w w' ∧ RowAt w' R v n (smarks k n)
theorem markStringSx {R : Nat → Prop} {n : Nat} {v : Value} {cells : List Value} {k : Nat} {w : World} (hv : RowAt w R v n cells) (hl : cells.length = n) (hI : ∀ x ∈ cells, isS x) (hk2 : k + n < 4611686018427387904) :
    Calls Go.Proofs.Tryd.prog 15 #[v, .int .i64 k] w (MarkSx R v n k w) := by
  have hv0 := hv
  obtain ⟨a, cap, rfl, h1, h2, h3⟩ := hv
  have hn : n ≤ 2 ^ 63 - 1 := by unfold maxLen at h2; omega
  clear h3 h1 h2
  have HV : Hid (∃ cells', RowAt w R (.slice a n cap) n cells' ∧ cells'.length = n ∧ (∀ x ∈ cells', isS x) ∧ ∀ j, j < 0 → cells'[j]? = some (.string (mT (k + j)))) := ⟨cells, hv0, hl, hI, fun j h => by omega⟩
  clear hv0 hl hI
  go_enter Go.Proofs.Tryd.func15, Go.Proofs.Tryd.ntmps15
  go_wp2
  go_loopw [1, 5] (fun kv iv wr => ∃ i : Nat, i ≤ n ∧ iv = .int .i64 i ∧ kv = .int .i64 ((k + i : Nat) : Int) ∧ Hid (KS R w wr) ∧ Hid (∃ cells', RowAt wr R (.slice a n cap) n cells' ∧ cells'.length = n ∧ (∀ x ∈ cells', isS x) ∧ ∀ j, j < i → cells'[j]? = some (.string (mT (k + j))))) (fun _ iv _ => n - (intOf iv).toNat)
  case atStart => exact ⟨0, by omega, rfl, by simp, KS.refl _ _, HV⟩
  case round =>
    obtain ⟨i, hi, rfl, rfl, HK, HL⟩ := hrel
    clear HV
    by_cases hlt : i < n
    · go_wp2_with fail
      have C := markText (k + i) wr (by omega)
      simp only [Int.natCast_add] at C
      refine C.mono ?_
      rintro e w2 ⟨rfl, hB⟩
      clear C
      obtain ⟨cells, hr0, hl, hI, hd⟩ := HL.out
      have hr := hr0.same' hB
      have hr' := hr
      obtain ⟨a', cap', ha, h1, h2, h3⟩ := hr
      cases ha
      obtain ⟨g, o, rfl, hg, hc⟩ := h3 (by intro h; subst h; simp at hl; omega)
      have hx : cells[i]? = some cells[i] := List.getElem?_eq_getElem (by omega)
      obtain ⟨y, hy⟩ := hI cells[i] (List.getElem_mem _)
      rw [hy] at hx
      obtain ⟨c1, f1⟩ := hc i _ hx
      have HL2 : Hid (∃ cells', RowAt (w2.setCell ⟨g, o + i, none⟩ (.string (mT (k + i)))) R (.slice (some ⟨g, o, none⟩) n cap) n cells' ∧ cells'.length = n ∧ (∀ x ∈ cells', isS x) ∧ ∀ j, j < i + 1 → cells'[j]? = some (.string (mT (k + j)))) := by
        refine ⟨_, hr'.set (i := i) (by omega) (.string (mT (k + i))), by simp [hl], fun x hx => ?_, fun j hj => ?_⟩
        · rcases List.mem_or_eq_of_mem_set hx with h | h
          · exact hI x h
          · exact ⟨_, h⟩
        · by_cases hji : j = i
          · subst hji; rw [List.getElem?_set_self (by omega)]
          · rw [List.getElem?_set_ne (by omega)]; exact hd j (by omega)
      have HK2 := Lib.hid (HK.out.trans (KS.of_below (R := R) hB))
      clear hc hx hy hI hl h3 h1 h2 hd hr' HL hr0 hB HK
      have HG : Hid (R g) := hg
      clear hg
      go_wp2_with fail
      go_roundw
      case rel => exact ⟨i + 1, by omega, by simp, by simp; omega, HK2.out.trans (KS.set HG.out c1 (.inr (.inr ⟨⟨_, rfl⟩, ⟨_, rfl⟩⟩))), HL2⟩
      case measure => simp [intOf]; omega
    · obtain rfl : i = n := by omega
      go_wp2
      go_ret
      obtain ⟨cells, hr, hl, hI, hd⟩ := HL.out
      refine ⟨rfl, HK.out, ?_⟩
      rw [← smarks_all hl hd]; exact hr
def HeldS (k : Nat) (w : World) (e : Ending) (w' : World) : Prop := e = .returned (.int .i64 (k : Int)) ∧ Below w.heap.size w w'
theorem heldStringS {R : Nat → Prop} {n : Nat} {v : Value} {k : Nat} {w : World} (hv : RowAt w R v n (smarks k n)) (hk2 : k + n < 4611686018427387904) :
    Calls Go.Proofs.Tryd.prog 16 #[v, .int .i64 k] w (HeldS (k + n) w) := by
  have hv0 := hv
  obtain ⟨a, cap, rfl, h1, h2, h3⟩ := hv
  have hn : n ≤ 2 ^ 63 - 1 := by unfold maxLen at h2; omega
  clear h3 h1 h2
  have HV := Lib.hid hv0
  clear hv0
  go_enter Go.Proofs.Tryd.func16, Go.Proofs.Tryd.ntmps16
  go_wp2
  go_loopw [1, 5] (fun kv iv wr => ∃ i : Nat, i ≤ n ∧ iv = .int .i64 i ∧ kv = .int .i64 ((k + i : Nat) : Int) ∧ Hid (Below w.heap.size w wr)) (fun _ iv _ => n - (intOf iv).toNat)
  case atStart => exact ⟨0, by omega, rfl, by simp, Below.refl _ _⟩
  case round =>
    obtain ⟨i, hi, rfl, rfl, HB⟩ := hrel
    by_cases hlt : i < n
    · have hr := HV.out.same' HB.out
      obtain ⟨a', cap', ha, h1, h2, h3⟩ := hr
      cases ha
      obtain ⟨g, o, rfl, hg, hc⟩ := h3 (by intro h; have := congrArg List.length h; simp [smarks] at this; omega)
      have hx : (smarks k n)[i]? = some (.string (mT (k + i))) := by rw [smarks, List.getElem?_map, List.getElem?_range hlt]; rfl
      obtain ⟨c1, f1⟩ := hc i _ hx
      have hgl := cell_lt c1
      clear hc hx h3 h1 h2 hg f1
      have e0 : (k : Int) + i = ((k + i : Nat) : Int) := by omega
      go_wp2_with fail
      clear e0
      go_region_held3 (fun w' => w'.cell? ⟨g, o + i, none⟩ = some (.string (mT (k + i)))) (go_keep)
        (first
          | (go_at_call 44; refine (markText (k + i) _ (by omega)).mono ?_; rintro e w2 ⟨rfl, hB⟩; have c2 := (hB.cell (p := ⟨g, o + i, none⟩) hgl).trans c1; have HB2 := Lib.hid hB; clear hB))
      go_wp2_with fail
      go_roundw
      case rel => exact ⟨i + 1, by omega, by simp, by simp; omega, HB.out.drew.trans (HB2.out.mono (show w.heap.size ≤ wr.heap.size from HB.out.size))⟩
      case measure => simp [intOf]; omega
    · obtain rfl : i = n := by omega
      go_wp2
      go_ret
      exact ⟨by simp, HB.out⟩
end Go.Raw
