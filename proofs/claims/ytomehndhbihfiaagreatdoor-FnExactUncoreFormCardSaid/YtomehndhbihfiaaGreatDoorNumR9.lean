/- A letter with a number behind it: what the program's function of that name answers. No condition. -/
import Derived.Test.YtomehndhbihfiaaGreatDoorEvTri
import Derived.Test.YtomehndhbihfiaaGreatDoorNumP
import Derived.Test.YtomehndhbihfiaaGreatDoorShR9
import Derived.Lib.Hide
import Derived.Deep.RegionHeld3
import Derived.Lib.AtoiBound
import Derived.Lib.LaidTab
namespace Go.Ev
open Go.Proofs Go.Mx Go.RowKit
set_option linter.unusedVariables false
set_option maxHeartbeats 1000000
set_option maxRecDepth 100000
theorem mkS_size (s : List UInt8) : (mkS s).size = s.length := by simp [mkS, ByteArray.size]
theorem mkS_cut (s : List UInt8) (i j : Nat) : (mkS s).extract i j = mkS ((s.drop i).take (j - i)) := by
  apply ByteArray.ext
  simp [mkS, List.extract_eq_take_drop]
theorem mkS_inj {a b : List UInt8} : mkS a = mkS b ↔ a = b := by
  constructor
  · intro h
    have := congrArg (fun x : ByteArray => x.data.toList) h
    simpa [mkS] using this
  · rintro rfl; rfl
theorem mkS_data (a : List UInt8) : (mkS a).data.toList = a := by simp [mkS]
theorem glob8 : Tryz.prog.globalNamed "internal/strconv.uint64pow10" = some 3 := by kernel_rfl
theorem bdN {B : Nat} {a w : World} (h : Below B a w) (n : Nat) : Below B a (w.drewN n) := ⟨h.os, h.tape, h.output, h.size, h.block⟩
theorem bgN (w : World) (k : Nat) (os : Array Go.Obj) : Below w.heap.size w (Go.Sort.grow (w.drewN k) os) :=
  ⟨rfl, rfl, rfl, by simp [Go.Sort.grow, World.drewN], fun b hb => by simp only [Go.Sort.grow, World.drewN]; exact Array.getElem?_append_left hb⟩
/-- What the function leaves behind. -/
def NumPost (s l : List UInt8) (w : World) (e : Ending) (w' : World) : Prop := e = .returned (.bool (numB s l)) ∧ Below w.heap.size w w'
theorem bl_eq {a b : ByteArray} : a.toList = b.toList ↔ a = b :=
  ⟨fun h => by rw [ByteArray.toList_eq, ByteArray.toList_eq] at h; exact Go.WideShapes.bytes_inj (by simpa using h), fun h => by rw [h]⟩
theorem numbered_raw (s l : List UInt8) (w : World) (hs : s.length ≤ 9223372036854775807) (tp : TypeId) (x : Go.Value) (hv : w.cell? ⟨1, 0, none⟩ = some (.iface tp x)) (hT : Lib.TabIs Tryz.prog w "internal/strconv.uint64pow10" .u64 Lib.pow10Tab) (h8 : 3 < w.heap.size) :
    Calls Tryz.prog 68 #[.string (mkS s), .string (mkS l)] w (NumPost s l w) := by
  have hz := mkS_size s
  have HV := Lib.hid (And.intro hv hT)
  clear hv hT
  by_cases h1 : s.length < 2
  · have hn : numB s l = false := by unfold numB; rw [decide_eq_false (by omega)]; rfl
    go_enter Tryz.func68, Tryz.ntmps68
    go_wp2_with fail
    go_ret
    exact ⟨by rw [hn]; rfl, Below.refl _ _⟩
  have e0 : (mkS s).extract 0 1 = mkS (s.take 1) := mkS_cut s 0 1
  have e1 : (mkS s).extract 1 s.length = mkS (s.drop 1) := by
    rw [mkS_cut, List.take_of_length_le (by simp)]
  rcases Classical.em (s.take 1 = l) with h2 | h2
  rotate_left
  · have hn : numB s l = false := by unfold numB; rw [decide_eq_false h2]; simp
    have h2' : ¬ ((mkS s).extract 0 1).toList = (mkS l).toList := by rw [bl_eq, e0, mkS_inj]; exact h2
    clear e0 e1 h2
    go_enter Tryz.func68, Tryz.ntmps68
    go_wp2_with fail
    go_ret
    exact ⟨by rw [hn]; rfl, Below.refl _ _⟩
  have h2' : ((mkS s).extract 0 1).toList = (mkS l).toList := by rw [bl_eq, e0, mkS_inj]; exact h2
  have E1 := Lib.hid e1
  clear e0 e1
  rcases Nat.lt_or_ge 18 s.length with h3 | h3
  · have hn : numB s l = false := by unfold numB; rw [decide_eq_false (Nat.not_le.2 h3)]; simp
    clear h2 E1
    go_enter Tryz.func68, Tryz.ntmps68
    go_wp2_with fail
    go_ret
    exact ⟨by rw [hn]; rfl, Below.refl _ _⟩
  have hn : numB s l = canB (s.drop 1) := by
    unfold numB; rw [decide_eq_true h2, decide_eq_true h3, decide_eq_true (show 2 ≤ s.length by omega)]; simp
  have hl : (mkS (s.drop 1)).size ≤ 18 := by rw [mkS_size]; simp; omega
  have hiff := can_iff (s.drop 1)
  cases ha : Lib.atoi (s.drop 1) with
  | none =>
    have hc : canB (s.drop 1) = false := by
      rw [Bool.eq_false_iff, ne_eq, ← hiff, ha]
      rintro ⟨n, h, _⟩; cases h
    have hA : Calls Tryz.prog 86 #[.string ((mkS s).extract 1 s.length)] w (fun e w' => ∃ N, e = .returned (.tuple #[.int .i64 0, .iface 130 (.pointer (some ⟨N, 0, none⟩))]) ∧ Below w.heap.size w w') := by
      rw [E1.out]
      refine (Tryz.strconv_Atoi_err (mkS (s.drop 1)) hl (by rw [mkS_data]; exact ha) _ w HV.out.1 (.inr ⟨_, _, rfl⟩)).mono ?_
      rintro e w' ⟨N, rfl, _, _, h⟩
      exact ⟨N, rfl, h⟩
    have HA := Lib.hid hA
    clear hA ha hiff hl h2 E1
    go_enter Tryz.func68, Tryz.ntmps68
    go_wp2_with (go_at_call 86; refine Calls.mono HA.out ?_; rintro e w1 ⟨N, rfl, hB⟩; have HB := Lib.hid hB; clear hB)
    go_wp2_with fail
    go_quiet (fail)
    go_wp2_with fail
    go_ret
    exact ⟨by rw [hn, hc]; rfl, bdN HB.out _⟩
  | some n =>
    have hA : Calls Tryz.prog 86 #[.string ((mkS s).extract 1 s.length)] w (fun e w' => e = .returned (.tuple #[.int .i64 n, .nilIface]) ∧ Below w.heap.size w w') := by
      rw [E1.out]
      refine (Tryz.strconv_Atoi (mkS (s.drop 1)) n hl (by rw [mkS_data]; exact ha) w).mono ?_
      rintro e w' ⟨rfl, t, rfl⟩
      exact ⟨rfl, Lib.bytesWorld_below _ _ _⟩
    have HA := Lib.hid hA
    have hb := Lib.atoi_bound ha (by simp; omega)
    rcases Int.lt_or_le n 0 with hn0 | hn0
    · have hc : canB (s.drop 1) = false := by
        rw [Bool.eq_false_iff, ne_eq, ← hiff, ha]
        rintro ⟨m, h, h', _⟩; cases h; omega
      obtain ⟨k, rfl⟩ := Int.eq_negSucc_of_lt_zero hn0
      clear hn0 hb
      clear hA ha hiff hl h2 E1
      go_enter Tryz.func68, Tryz.ntmps68
      go_wp2_with (go_at_call 86; refine Calls.mono HA.out ?_; rintro e w1 ⟨rfl, hB⟩; have HB := Lib.hid hB; clear hB)
      go_wp2_with fail
      go_quiet (fail)
      go_wp2_with fail
      go_ret
      exact ⟨by rw [hn, hc]; rfl, bdN HB.out _⟩
    · have hq : (Lib.itoa n == ((mkS s).extract 1 s.length).toList) = canB (s.drop 1) := by
        rw [E1.out, ByteArray.toList_eq, mkS_data, Bool.eq_iff_iff, ← hiff, beq_iff_eq]
        constructor
        · intro h
          exact ⟨n, ha, hn0, h⟩
        · rintro ⟨m, h, _, h'⟩
          rw [ha] at h; cases h
          exact h'
      have HQ := Lib.hid hq
      clear hA ha hiff hl h2 E1 hq
      go_enter Tryz.func68, Tryz.ntmps68
      go_wp2_with (go_at_call 86; refine Calls.mono HA.out ?_; rintro e w1 ⟨rfl, hB⟩; have HB := Lib.hid hB; clear hB)
      go_wp2_with fail
      have hT1 : Hid (∀ w', Below w1.heap.size w1 w' → Lib.TabIs Tryz.prog w' "internal/strconv.uint64pow10" .u64 Lib.pow10Tab) := fun w' h => by
        have h0 := HV.out.2
        unfold Lib.TabIs World.var? at h0 ⊢
        rw [glob8] at h0 ⊢
        simp only [Option.bind_some] at h0 ⊢
        rw [h.block 3 (Nat.lt_of_lt_of_le h8 HB.out.size), HB.out.block 3 h8]
        exact h0
      go_region_held3 (fun w' => Below w1.heap.size w1 w') (first | exact Below.refl _ _ | exact (Below.refl _ _).drew | exact bdN (Below.refl _ _) _ | exact bgN _ _ _ | exact (bgN _ _ _).drew | exact bdN (bgN _ _ _) _ | assumption)
        (first
          | (go_at_call 75; refine (Tryz.strconv_Itoa n (by omega) (by omega) _ (hT1.out _ ?_)).mono ?_; (first | exact Below.refl _ _ | exact (Below.refl _ _).drew | exact bdN (Below.refl _ _) _ | exact bgN _ _ _ | exact (bgN _ _ _).drew | exact bdN (bgN _ _ _) _ | assumption); rintro e w2 ⟨rfl, k, os, rfl⟩))
      go_wp2_with fail
      go_ret
      exact ⟨by rw [hn, ← HQ.out]; rfl, HB.out.trans ((bgN w1 _ _).mono HB.out.size)⟩
end Go.Ev
