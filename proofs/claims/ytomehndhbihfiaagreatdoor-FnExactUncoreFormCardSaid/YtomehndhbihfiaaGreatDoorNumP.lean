/- Numerals of at most 17 digits without a leading zero. No condition. -/
import Derived.Lib.Atoi
import Derived.Lib.ItoaNum
namespace Go.Ev
open Go.Lib
def dgB (b : UInt8) : Bool := decide (48 ≤ b.toNat ∧ b.toNat ≤ 57)
def canB : List UInt8 → Bool
  | [] => false
  | b :: r => dgB b && r.all dgB && (decide (b ≠ 48) || r.isEmpty)
theorem digitVal_of {b : UInt8} (h : dgB b = true) : digitVal b = some (b.toNat - 48) := by
  unfold dgB at h; simp only [decide_eq_true_eq] at h; unfold digitVal; rw [if_pos h]
theorem digitVal_some {b : UInt8} {d : Nat} (h : digitVal b = some d) : dgB b = true ∧ d = b.toNat - 48 := by
  unfold digitVal at h; split at h
  · rename_i hb; cases h; exact ⟨by unfold dgB; simpa using hb, rfl⟩
  · cases h
theorem dec_step {a d : Nat} (h : 1 ≤ a) (hd : d < 10) : decDigits (a * 10 + d) = decDigits a ++ [UInt8.ofNat (48 + d)] := by
  rw [decDigits, dif_neg (by omega), show (a * 10 + d) / 10 = a by omega, show (a * 10 + d) % 10 = d by omega]
theorem dig_back {b : UInt8} (h : dgB b = true) : UInt8.ofNat (48 + (b.toNat - 48)) = b := by
  unfold dgB at h; simp only [decide_eq_true_eq] at h
  rw [show 48 + (b.toNat - 48) = b.toNat by omega]; simp
theorem dec_back : ∀ {l : List UInt8} {acc n : Nat}, 1 ≤ acc → decFrom acc l = some n → decDigits n = decDigits acc ++ l
  | [], acc, n, h, e => by simp only [decFrom, Option.some.injEq] at e; subst e; simp
  | b :: r, acc, n, h, e => by
    simp only [decFrom] at e
    cases hb : digitVal b with
    | none => rw [hb] at e; cases e
    | some d =>
      rw [hb] at e; simp only at e
      obtain ⟨g1, rfl⟩ := digitVal_some hb
      have g2 := g1
      unfold dgB at g2; simp only [decide_eq_true_eq] at g2
      rw [dec_back (by omega) e, dec_step h (by omega), dig_back g1]; simp
theorem decFrom_all : ∀ {l : List UInt8} (acc : Nat), l.all dgB = true → ∃ n, decFrom acc l = some n
  | [], acc, _ => ⟨acc, rfl⟩
  | b :: r, acc, h => by
    simp only [List.all_cons, Bool.and_eq_true] at h
    obtain ⟨n, hn⟩ := decFrom_all (acc * 10 + (b.toNat - 48)) h.2
    exact ⟨n, by simp only [decFrom, digitVal_of h.1, hn]⟩
theorem all_of_decFrom : ∀ {l : List UInt8} {acc n : Nat}, decFrom acc l = some n → l.all dgB = true
  | [], _, _, _ => rfl
  | b :: r, acc, n, h => by
    simp only [decFrom] at h
    cases hb : digitVal b with
    | none => rw [hb] at h; cases h
    | some d => rw [hb] at h; simp only [List.all_cons, Bool.and_eq_true]; exact ⟨(digitVal_some hb).1, all_of_decFrom h⟩
/-- Digits of a number begin with no zero, unless it is one. -/
theorem decDigits_head : ∀ (u : Nat), ∃ c t, decDigits u = c :: t ∧ dgB c = true ∧ (1 ≤ u → c ≠ 48)
  | u => by
    by_cases h : u < 10
    · rw [decDigits, dif_pos h]
      refine ⟨_, [], rfl, ?_, ?_⟩
      · unfold dgB; simp only [decide_eq_true_eq, UInt8.toNat_ofNat']; omega
      · intro h1 e
        have := congrArg UInt8.toNat e
        simp only [UInt8.toNat_ofNat'] at this
        have e48 : (48 : UInt8).toNat = 48 := rfl
        omega
    · rw [decDigits, dif_neg h]
      obtain ⟨c, t, h1, h2, h3⟩ := decDigits_head (u / 10)
      exact ⟨c, t ++ [UInt8.ofNat (48 + u % 10)], by rw [h1]; rfl, h2, fun _ => h3 (by omega)⟩
termination_by u => u
decreasing_by omega
theorem can_iff (l : List UInt8) : (∃ n : Int, atoi l = some n ∧ 0 ≤ n ∧ itoa n = l) ↔ canB l = true := by
  constructor
  · rintro ⟨n, h1, h2, h3⟩
    obtain ⟨c, t, e1, e2, e3⟩ := decDigits_head n.toNat
    have hd : itoa n = decDigits n.toNat := by unfold itoa; rw [if_neg (by omega)]
    rw [hd, e1] at h3
    subst h3
    have c45 : (c == 45) = false := by cases hc : c == 45 with
      | false => rfl
      | true => rw [beq_iff_eq] at hc; subst hc; cases e2
    have c43 : (c == 43) = false := by cases hc : c == 43 with
      | false => rfl
      | true => rw [beq_iff_eq] at hc; subst hc; cases e2
    simp only [atoi, c45, c43, decNat, List.isEmpty_cons, Bool.false_eq_true, if_false, Option.map_eq_some_iff] at h1
    obtain ⟨m, hm, rfl⟩ := h1
    have ha := all_of_decFrom hm
    simp only [List.all_cons, Bool.and_eq_true] at ha
    simp only [canB, Bool.and_eq_true, Bool.or_eq_true, decide_eq_true_eq, ha, true_and]
    by_cases hz : c = 48
    · right
      have hm0 : ¬ 1 ≤ m := fun h => e3 (by simpa using h) hz
      have : m = 0 := by omega
      subst this
      have : decDigits (0 : Int).toNat = [48] := by rw [decDigits]; rfl
      rw [show ((0 : Nat) : Int) = 0 by rfl, this] at e1
      cases e1; rfl
    · exact .inl hz
  · intro h
    cases l with
    | nil => cases h
    | cons b r =>
      simp only [canB, Bool.and_eq_true, Bool.or_eq_true, decide_eq_true_eq] at h
      obtain ⟨⟨h1, h2⟩, h3⟩ := h
      have g1 := h1
      unfold dgB at g1; simp only [decide_eq_true_eq] at g1
      have c45 : (b == 45) = false := by cases hc : b == 45 with
        | false => rfl
        | true => rw [beq_iff_eq] at hc; subst hc; cases h1
      have c43 : (b == 43) = false := by cases hc : b == 43 with
        | false => rfl
        | true => rw [beq_iff_eq] at hc; subst hc; cases h1
      obtain ⟨n, hn⟩ := decFrom_all (b.toNat - 48) h2
      refine ⟨(n : Int), ?_, by omega, ?_⟩
      · simp only [atoi, c45, c43, decNat, List.isEmpty_cons, Bool.false_eq_true, if_false, decFrom, digitVal_of h1, Nat.zero_mul, Nat.zero_add, hn, Option.map_some]
      · unfold itoa
        rw [if_neg (by omega), Int.toNat_natCast]
        rcases h3 with h3 | h3
        · have hb : 1 ≤ b.toNat - 48 := by
            by_cases hx : b.toNat = 48
            · exact absurd (UInt8.toNat_inj.1 (show b.toNat = (48 : UInt8).toNat from hx)) h3
            · omega
          rw [dec_back hb hn, decDigits_one (by omega), dig_back h1]; rfl
        · obtain rfl : r = [] := by simpa using h3
          simp only [decFrom, Option.some.injEq] at hn
          rw [← hn, decDigits_one (by omega), dig_back h1]
/-- A letter with a number behind it. -/
def numB (s l : List UInt8) : Bool := decide (2 ≤ s.length) && (decide (s.take 1 = l) && (decide (s.length ≤ 18) && canB (s.drop 1)))
end Go.Ev
