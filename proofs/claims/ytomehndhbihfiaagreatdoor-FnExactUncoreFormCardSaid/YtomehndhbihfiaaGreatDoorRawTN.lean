/- The text of a mark. No condition. -/
import Derived.Test.YtomehndhbihfiaaGreatDoorRawBN
import Derived.Laws.IdiomStrings
namespace Go.Raw
open Go.Mx Go.RowKit
set_option linter.unusedVariables false
set_option maxHeartbeats 1000000
def mtx (n : Nat) (out : ByteArray) : ByteArray := if h : n = 0 then out else mtx (n / 10) (⟨#[48 + UInt8.ofNat (n % 10)]⟩ ++ out)
termination_by n
decreasing_by omega
def mT (n : Nat) : ByteArray := if n = 0 then ⟨#[109, 48]⟩ else ⟨#[109]⟩ ++ mtx n ⟨#[]⟩
set_option maxRecDepth 100000 in
theorem markText (k : Nat) (w : World) (hk2 : k < 4611686018427387904) :
    Calls Go.Proofs.Tryz.prog 77 #[.int .i64 k] w (MarkS (mT k) w) := by
  by_cases h0 : k = 0
  · subst h0
    go_enter Go.Proofs.Tryz.func77, Go.Proofs.Tryz.ntmps77
    go_wp2
    go_ret
    exact ⟨rfl, Below.refl _ _⟩
  · have hp : (0 : Int) < k := by omega
    have HT : Hid (mT k = ⟨#[109]⟩ ++ mtx k ⟨#[]⟩) := by show mT k = _; unfold mT; rw [if_neg h0]
    clear h0
    go_enter Go.Proofs.Tryz.func77, Go.Proofs.Tryz.ntmps77
    go_wp2
    go_loopw [0, 3] (fun kv ov wr => ∃ (i : Nat) (out : ByteArray), kv = .int .i64 i ∧ ov = .string out ∧ out.size + i ≤ k ∧ Hid (mtx i out = mtx k ⟨#[]⟩) ∧ Hid (Below w.heap.size w wr)) (fun kv _ _ => (intOf kv).toNat)
    case atStart => exact ⟨k, ⟨#[]⟩, rfl, rfl, by show 0 + k ≤ k; omega, rfl, Below.refl _ _⟩
    case round =>
      obtain ⟨i, out, rfl, rfl, hs, HX, HB⟩ := hrel
      by_cases hlt : 0 < i
      · have hi : (0 : Int) < i := by omega
        have hb : (48 + UInt8.ofNat (i % 10)).toNat = 48 + i % 10 := by rw [UInt8.toNat_add, UInt8.toNat_ofNat']; show (48 + _) % 256 = _; omega
        have hconv : (convert 44 9 (.slice (some ⟨wr.heap.size, 0, none⟩) 1 1)).run Go.Proofs.Tryz.prog (wr.alloc (.cells #[.int .u8 (48 + (i : Int) % 10)] 5)) = .ok (.string ⟨#[48 + UInt8.ofNat (i % 10)]⟩) (wr.alloc (.cells #[.int .u8 (48 + (i : Int) % 10)] 5)) :=
          run_convert_bytes_back (P := Go.Proofs.Tryz.prog) _ 44 9 5 ⟨wr.heap.size, 0, none⟩ 1 [48 + UInt8.ofNat (i % 10)] Go.Proofs.Tryz.underlying44 Go.Proofs.Tryz.underlying5 Go.Proofs.Tryz.underlying9 (fun j hj => by
            match j, hj with
            | 0, _ =>
              refine cell_new (j := 0) ?_
              show some (Value.int .u8 (48 + (i : Int) % 10)) = some (.int .u8 ((48 + UInt8.ofNat (i % 10)).toNat : Int))
              rw [hb]; congr 2)
        have HN : Hid (mtx (i / 10) (⟨#[48 + UInt8.ofNat (i % 10)]⟩ ++ out) = mtx k ⟨#[]⟩) := by
          show mtx _ _ = _
          rw [← HX.out]; conv => rhs; rw [mtx]
          rw [dif_neg (by omega)]
        have hsz : (⟨#[48 + UInt8.ofNat (i % 10)]⟩ : ByteArray).size = 1 := rfl
        clear hb
        go_wp2
        go_roundw
        case rel => exact ⟨i / 10, _, by simp, rfl, by show ByteArray.size (_ ++ out) + i / 10 ≤ k; rw [ByteArray.size_append, hsz]; omega, HN, HB.out.alloc (by have := HB.out.size; omega) _⟩
        case measure => simp [intOf]; omega
      · obtain rfl : i = 0 := by omega
        go_wp2
        go_ret
        refine ⟨?_, HB.out⟩
        rw [HT.out, ← HX.out, mtx]
        rfl
end Go.Raw
