/- Plain laws of models. No condition. -/
import Derived.Test.YtencoplhomeleaaDoorMdAtomValue
import Derived.Test.YtencoplhomeleaaDoorEvTri
namespace Go.Ev
open Go.Mx (KD ED EObj forL forI seqS iterM)
set_option linter.unusedVariables false
set_option linter.unusedSimpArgs false
/-- A loop over places that looks for one that does not serve. -/
theorem Evt.scan {ω : Type} {step : Nat → Int → Option (ω ⊕ Int)} {p : Nat → Bool} {L : Nat} {no yes : ω} (h1 : ∀ i, i < L → p i = true → Evt (fun n => step n (i : Int)) (.inr ((i + 1 : Nat) : Int))) (h2 : ∀ i, i < L → p i = false → Evt (fun n => step n (i : Int)) (.inl no)) (h3 : Evt (fun n => step n (L : Int)) (.inl yes)) :
    Evt (fun n => iterM n (step n) 0) (if (List.range L).all p = true then yes else no) := by
  obtain ⟨w, k1, k2⟩ := iter_ev (step := step) (fun s => L - s.toNat) (fun s => ∃ i : Nat, i ≤ L ∧ s = i ∧ ∀ j, j < i → p j = true) (fun w => w = if (List.range L).all p = true then yes else no) (fun s ⟨i, i1, i2, i3⟩ => by
    subst i2
    rcases Nat.lt_or_ge i L with h | h
    · cases hp : p i with
      | true => exact .inr ⟨_, h1 i h hp, ⟨i + 1, by omega, rfl, fun j hj => by rcases Nat.lt_or_eq_of_le (Nat.le_of_lt_succ hj) with q | q; exact i3 j q; rw [q]; exact hp⟩, by simp; omega⟩
      | false =>
        refine .inl ⟨_, h2 i h hp, ?_⟩
        rw [if_neg]
        intro hall
        rw [List.all_eq_true] at hall
        rw [hall i (List.mem_range.2 h)] at hp; cases hp
    · have : i = L := by omega
      subst this
      refine .inl ⟨_, h3, ?_⟩
      rw [if_pos]
      rw [List.all_eq_true]
      exact fun j hj => i3 j (List.mem_range.1 hj)) 0 ⟨0, Nat.zero_le _, rfl, fun j hj => by omega⟩
  exact k2 ▸ k1
/-- A loop over a list that looks for one that does not serve. -/
theorem scanI {α ω : Type} {step : Unit → Nat → α → Option (ω ⊕ Unit)} {p : α → Bool} {no : ω} {f : Unit → Option ω} : ∀ {xs : List α} {i : Nat}, (∀ i x, x ∈ xs → step () i x = if p x = true then some (.inr ()) else some (.inl no)) → seqS (Mx.forI step i xs ()) f = if xs.all p = true then f () else some no
  | [], i, _ => by simp [Mx.forI, Mx.seqS]
  | x :: r, i, h => by
    have hx := h i x (List.mem_cons_self)
    have ih := scanI (step := step) (p := p) (no := no) (f := f) (xs := r) (i := i + 1) (fun i y hy => h i y (List.mem_cons_of_mem _ hy))
    simp only [Mx.forI, hx, List.all_cons, Bool.and_eq_true]
    cases hp : p x with
    | true => simpa [hp] using ih
    | false => simp [Mx.seqS]
theorem w64_nat {i : Nat} (h : i < 9223372036854775807) : w64 ((i : Int) + 1) = ((i + 1 : Nat) : Int) := by rw [w_id (by omega) (by omega)]; omega
theorem scanIx {α ω : Type} {step : Unit → Nat → α → Option (ω ⊕ Unit)} {p : Nat → Bool} {no : ω} {f : Unit → Option ω} : ∀ {xs : List α} {i : Nat}, (∀ j x, xs[j]? = some x → step () (i + j) x = if p (i + j) = true then some (.inr ()) else some (.inl no)) → seqS (Mx.forI step i xs ()) f = if (List.range xs.length).all (fun j => p (i + j)) = true then f () else some no
  | [], i, _ => by simp [Mx.forI, Mx.seqS]
  | x :: r, i, h => by
    have hx := h 0 x rfl
    have ih := scanIx (step := step) (p := p) (no := no) (f := f) (xs := r) (i := i + 1) (fun j y hy => by have := h (j + 1) y (by simpa using hy); rwa [show i + (j + 1) = i + 1 + j by omega] at this)
    simp only [Nat.add_zero] at hx
    simp only [Mx.forI, hx, List.length_cons, List.range_succ_eq_map, List.all_cons, List.all_map, Bool.and_eq_true, Nat.add_zero]
    have e : ((fun j => p (i + j)) ∘ Nat.succ) = fun j => p (i + 1 + j) := by funext j; simp only [Function.comp]; congr 1; omega
    rw [e]
    cases hp : p i with
    | true => simpa [hp] using ih
    | false => simp [Mx.seqS]
def chrB (c : UInt8) : Bool := (decide (97 ≤ c.toNat) && decide (c.toNat ≤ 122)) || c == 42 || c == 63 || c == 61 || c == 43 || c == 60
def digB (c : UInt8) : Bool := (decide (48 ≤ c.toNat) && decide (c.toNat ≤ 57)) || c == 45
def letB (s : List UInt8) (i : Nat) : Bool := match s[i]? with
  | some c => chrB c || (!(i == 0) && digB c)
  | none => false
def nameB (s : List UInt8) : Bool := (decide (s = [46, 46, 46]) || decide (s = [95])) || ((List.range s.length).all (letB s) && (decide (1 ≤ s.length) && decide (s.length ≤ 12)))
theorem u8_toNat_eq {c d : UInt8} : c = d ↔ c.toNat = d.toNat := ⟨fun h => by rw [h], fun h => UInt8.toNat_inj.1 h⟩
theorem iw_eq (n : Nat) (a b c : Int) : im_within n a b c = some (decide (b ≤ a) && decide (a ≤ c)) := by
  unfold im_within
  by_cases h : a ≥ b
  · rw [if_pos h]; simp [show b ≤ a from h]
  · rw [if_neg h]; simp [show ¬ b ≤ a from h]
theorem ix_iff : ∀ (l : List UInt8) (c : UInt8), 0 ≤ Lib.indexByte l c ↔ c ∈ l
  | [], c => by simp [Lib.indexByte]
  | b :: l, c => by
    have ih := ix_iff l c
    have hg := Lib.indexByte_ge l c
    unfold Lib.indexByte
    by_cases hb : b = c
    · subst hb; simp
    · have hb' : (b == c) = false := by simpa using hb
      rw [hb', List.mem_cons, ← ih]
      have hbc : ¬ c = b := fun h => hb h.symm
      simp only [Bool.false_eq_true, if_false, hbc, false_or]
      by_cases h1 : Lib.indexByte l c = -1
      · simp [h1]
      · simp only [beq_iff_eq, h1, if_false]; omega
theorem ix_mem (l : List UInt8) (c : UInt8) : decide (Lib.indexByte l c ≥ 0) = l.contains c := by
  rw [Bool.eq_iff_iff]; simp only [decide_eq_true_eq, List.contains_iff_mem]; exact ix_iff l c
theorem nv_chr (y : UInt8) : ((if (y.toNat : Int) ≥ 97 then (if (y.toNat : Int) ≤ 122 then some true else some (decide (Lib.indexByte [42, 63, 61, 43, 60] y ≥ 0))) else some (decide (Lib.indexByte [42, 63, 61, 43, 60] y ≥ 0))) : Option Bool) = some (chrB y) := by
  have e : decide (Lib.indexByte [42, 63, 61, 43, 60] y ≥ 0) = (y == 42 || y == 63 || y == 61 || y == 43 || y == 60) := by
    rw [ix_mem]; simp only [List.contains_cons, List.contains_nil, Bool.or_false, Bool.or_assoc]
  rw [e]
  unfold chrB
  by_cases h1 : (y.toNat : Int) ≥ 97
  · rw [if_pos h1]
    by_cases h2 : (y.toNat : Int) ≤ 122
    · rw [if_pos h2]
      simp [show 97 ≤ y.toNat by omega, show y.toNat ≤ 122 by omega]
    · rw [if_neg h2]
      simp [show ¬ y.toNat ≤ 122 by omega]
  · rw [if_neg h1]
    simp [show ¬ 97 ≤ y.toNat by omega]
theorem nv_dig (y : UInt8) : ((if (y.toNat : Int) ≥ 48 then (if (y.toNat : Int) ≤ 57 then some true else some (decide ((y.toNat : Int) = 45))) else some (decide ((y.toNat : Int) = 45))) : Option Bool) = some (digB y) := by
  have e : decide ((y.toNat : Int) = 45) = (y == 45) := by
    by_cases h : y = 45
    · subst h; rfl
    · have : ¬ (y.toNat : Int) = 45 := fun h' => h (u8_toNat_eq.2 (by show y.toNat = 45; omega))
      simp [h, this]
  rw [e]
  unfold digB
  by_cases h1 : (y.toNat : Int) ≥ 48
  · rw [if_pos h1]
    by_cases h2 : (y.toNat : Int) ≤ 57
    · rw [if_pos h2]; simp [show 48 ≤ y.toNat by omega, show y.toNat ≤ 57 by omega]
    · rw [if_neg h2]; simp [show ¬ y.toNat ≤ 57 by omega]
  · rw [if_neg h1]; simp [show ¬ 48 ≤ y.toNat by omega]
theorem u8_back (y : UInt8) : ((y.toNat : Int).toNat).toUInt8 = y := by
  rw [Int.toNat_natCast]; exact UInt8.ofNat_toNat
theorem inv_evt (s : List UInt8) (hs : s.length ≤ mxL) : Evt (fun n => im_NameValid n s) (nameB s) := by
  unfold mxL at hs
  unfold im_NameValid
  simp only [strings_IndexByte, u8_back, Option.bind_some, nv_chr, nv_dig]
  by_cases h0 : s = [46, 46, 46]
  · simp only [h0, if_true, Option.bind_some]; exact .pure _
  rw [if_neg h0]
  simp only [Option.bind_some]
  by_cases h1 : s = [95]
  · simp only [h1, decide_true, if_true]; exact .pure _
  simp only [h1, decide_false, Bool.false_eq_true, if_false]
  have e : nameB s = if (List.range s.length).all (letB s) = true then (decide (1 ≤ s.length) && decide (s.length ≤ 12)) else false := by
    unfold nameB; simp only [h0, h1, decide_false, Bool.false_or, Bool.or_self]
    cases (List.range s.length).all (letB s) <;> simp
  rw [e]
  refine Evt.scan (L := s.length) (p := letB s) (fun i hi hp => ?_) (fun i hi hp => ?_) ?_
  · refine .pos (by omega) ?_
    have hy := List.getElem?_eq_getElem hi
    unfold letB at hp
    rw [hy] at hp
    simp only at hp
    refine Evt.const ?_
    rw [atI_nat hy]
    simp only [Option.bind_some]
    cases hc : chrB s[i] with
    | true => simp only [if_true, Mx.seqS, Option.bind_some, w64_nat (i := i) (by omega)]
    | false =>
      rw [hc, Bool.false_or, Bool.and_eq_true] at hp
      have hi0 : (i : Int) > 0 := by
        have : i ≠ 0 := by simpa using hp.1
        omega
      simp only [Bool.false_eq_true, if_false, if_pos hi0, nv_dig, hp.2, Option.bind_some, if_true, Mx.seqS, w64_nat (i := i) (by omega)]
  · refine .pos (by omega) ?_
    have hy := List.getElem?_eq_getElem hi
    unfold letB at hp
    rw [hy] at hp
    simp only [Bool.or_eq_false_iff] at hp
    refine Evt.const ?_
    rw [atI_nat hy]
    simp only [Option.bind_some, hp.1, Bool.false_eq_true, if_false]
    by_cases hi0 : (i : Int) > 0
    · have : (i == 0) = false := by simp; omega
      have hd : digB s[i] = false := by simpa [this] using hp.2
      simp only [if_pos hi0, nv_dig, hd, Option.bind_some, Bool.false_eq_true, if_false, Mx.seqS]
    · simp only [if_neg hi0, Option.bind_some, Bool.false_eq_true, if_false, Mx.seqS]
  · refine .neg (by omega) ?_
    simp only [iw_eq, Option.bind_some]
    refine .const ?_
    have a1 : decide ((1 : Int) ≤ (s.length : Int)) = decide (1 ≤ s.length) := by simp only [decide_eq_decide]; omega
    have a2 : decide ((s.length : Int) ≤ 12) = decide (s.length ≤ 12) := by simp only [decide_eq_decide]; omega
    rw [a1, a2]
def scP (l : List Int) (i : Nat) : Bool := match l[i]? with
  | some x => (decide (1 ≤ x) && decide (x ≤ 99)) && (i == 0 || (match l[i - 1]? with
    | some y => decide (y < x)
    | none => false))
  | none => false
def scB (l : List Int) : Bool := (List.range l.length).all (scP l) && decide (l.length ≤ 24)
def fmB : Nat → Form → Bool
  | 0, _ => false
  | d + 1, f => if f.kind = 1 then nameB f.name && (decide (f.n = 0) && (scB f.scopes && decide (f.kids.length = 0))) else
      if f.kind = 2 then decide (f.name = []) && ((decide (0 ≤ f.n) && decide (f.n ≤ 999)) && (decide (f.scopes.length = 0) && decide (f.kids.length = 0))) else
      if f.kind = 3 then decide (f.name = []) && (decide (f.n = 0) && (decide (f.scopes.length = 0) && f.kids.all (fmB d))) else false
mutual
def cF : Form → Nat
  | ⟨_, _, _, _, kids⟩ => 1 + cFs kids
def cFs : List Form → Nat
  | [] => 0
  | x :: r => cF x + cFs r
end
theorem cF_eq (f : Form) : cF f = 1 + cFs f.kids := by cases f; simp only [cF]
mutual
theorem cF_le : ∀ f : Form, cF f ≤ wF f + 1
  | ⟨k, nm, n, sc, kids⟩ => by have := cFs_le kids; simp only [cF, wF]; omega
theorem cFs_le : ∀ l : List Form, cFs l ≤ wFs l + l.length
  | [] => by simp [cFs]
  | x :: r => by have := cF_le x; have := cFs_le r; simp only [cFs, wFs, List.length_cons]; omega
end
theorem cFs_mem : ∀ {l : List Form} {x : Form}, x ∈ l → cF x ≤ cFs l
  | y :: r, x, h => by
    simp only [cFs]
    rcases List.mem_cons.1 h with rfl | h
    · omega
    · have := cFs_mem h; omega
def validF (f : Form) : Bool := fmB 40 f && decide (cF f ≤ 400)
theorem isc_eq (n : Nat) (l : List Int) (hl : l.length ≤ mxL) : im_scopesOk n l = some (scB l) := by
  unfold mxL at hl
  unfold im_scopesOk
  rw [scanIx (p := scP l) (no := false)]
  · simp only [Nat.zero_add]
    unfold scB
    have a2 : decide ((l.length : Int) ≤ 24) = decide (l.length ≤ 24) := by simp only [decide_eq_decide]; omega
    show (if (List.range l.length).all (scP l) = true then _ else _) = _
    rw [a2]
    cases (List.range l.length).all (scP l) <;> simp
  · intro j x hx
    simp only [Nat.zero_add]
    have hj : j < l.length := (List.getElem?_eq_some_iff.1 hx).1
    simp only [iw_eq, Option.bind_some, scP, hx]
    by_cases h1 : (decide (1 ≤ x) && decide (x ≤ 99)) = true
    · simp only [h1, Bool.not_true, Bool.false_eq_true, if_false, Bool.true_and]
      by_cases h0 : (j : Int) > 0
      · have e : w64 ((j : Int) - 1) = ((j - 1 : Nat) : Int) := by rw [w_id (by omega) (by omega)]; omega
        have hy := List.getElem?_eq_getElem (l := l) (i := j - 1) (by omega)
        have hj0 : (j == 0) = false := by simp; omega
        rw [if_pos h0, e, atI_nat hy, hj0]
        simp only [Option.bind_some, hy, Bool.false_or]
        by_cases hlt : l[j - 1] < x
        · simp [hlt]
        · simp [hlt, show l[j - 1] ≥ x by omega]
      · have hj0 : j = 0 := by omega
        subst hj0
        simp
    · have h1' : (decide (1 ≤ x) && decide (x ≤ 99)) = false := by simpa using h1
      simp [h1']
theorem ifo_ex (f : Form) (hf : okF f) (d : Nat) (hd : d ≤ 40) (L : Nat) (hL : L ≤ 400) : Ex (fun n => im_formOk n f ((41 - d : Nat) : Int) (L : Int)) (fun r => (r.1 = true ↔ fmB d f = true ∧ cF f ≤ L) ∧ (r.1 = true → r.2 = ((L - cF f : Nat) : Int))) := by
  obtain ⟨o1, o2, o3, o4⟩ := (okF_eq f).1 hf
  have hc := cF_eq f
  refine .succ ?_
  simp only [im_formOk]
  have e1 : w64 ((L : Int) - 1) = (L : Int) - 1 := w_id (by omega) (by omega)
  rw [e1]
  by_cases h0 : (L : Int) - 1 < 0
  · simp only [if_pos h0, Option.bind_some, if_true]
    refine .pure ⟨⟨fun h => (by cases h), fun h => (by omega)⟩, fun h => (by cases h)⟩
  rw [if_neg h0]
  by_cases hd0 : d = 0
  · subst hd0
    simp only [show decide (((41 - 0 : Nat) : Int) > 40) = true from rfl, Option.bind_some, if_true]
    refine .pure ⟨⟨fun h => (by cases h), fun h => (by simp [fmB] at h)⟩, fun h => (by cases h)⟩
  obtain ⟨d, rfl⟩ : ∃ e, d = e + 1 := ⟨d - 1, by omega⟩
  have hdd : decide (((41 - (d + 1) : Nat) : Int) > 40) = false := by simp; omega
  simp only [hdd, Option.bind_some, Bool.false_eq_true, if_false, fmB]
  have kz : decide ((f.kids.length : Int) = 0) = decide (f.kids.length = 0) := by simp only [decide_eq_decide]; omega
  have sz : decide ((f.scopes.length : Int) = 0) = decide (f.scopes.length = 0) := by simp only [decide_eq_decide]; omega
  have fin : ∀ b : Bool, (f.kids.length = 0 ∨ b = false) → ((b, (L : Int) - 1).1 = true ↔ b = true ∧ cF f ≤ L) ∧ ((b, (L : Int) - 1).1 = true → (b, (L : Int) - 1).2 = ((L - cF f : Nat) : Int)) := fun b hb => by
    rcases hb with hb | hb
    · have hk : f.kids = [] := List.eq_nil_of_length_eq_zero hb
      have hc1 : cF f = 1 := by rw [hc, hk]; rfl
      exact ⟨⟨fun h => ⟨h, by omega⟩, fun h => h.1⟩, fun _ => by simp only; omega⟩
    · subst hb
      exact ⟨⟨fun h => (by cases h), fun h => (by cases h.1)⟩, fun h => (by cases h)⟩
  by_cases k1 : f.kind = 1
  · rw [if_pos k1]
    simp only [if_pos k1]
    refine Ex.bind (P := fun b => b = (nameB f.name && (decide (f.n = 0) && (scB f.scopes && decide (f.kids.length = 0))))) ?_ ?_
    · refine .bv (inv_evt _ o1) ?_
      cases hn : nameB f.name with
      | false => exact .neg (by simp) (.pure (by simp))
      | true =>
        refine .pos rfl ?_
        by_cases h2 : f.n = 0
        · refine .pos h2 ?_
          simp only [isc_eq _ _ o2, Option.bind_some]
          cases hs : scB f.scopes with
          | false => exact .neg (by simp) (.pure (by simp))
          | true => exact .pos rfl (.pure (by simp [kz, h2]))
        · exact .neg h2 (.pure (by simp [h2]))
    · rintro b rfl
      refine .pure (fin _ ?_)
      by_cases hk : f.kids.length = 0
      · exact .inl hk
      · exact .inr (by simp [hk])
  rw [if_neg k1]
  simp only [if_neg k1]
  by_cases k2 : f.kind = 2
  · rw [if_pos k2]
    simp only [if_pos k2]
    refine Ex.bind (P := fun b => b = (decide (f.name = []) && ((decide (0 ≤ f.n) && decide (f.n ≤ 999)) && (decide (f.scopes.length = 0) && decide (f.kids.length = 0))))) ?_ ?_
    · by_cases h1 : f.name = []
      · refine .pos h1 ?_
        simp only [iw_eq, Option.bind_some]
        by_cases h2 : (decide (0 ≤ f.n) && decide (f.n ≤ 999)) = true
        · refine .pos h2 ?_
          by_cases h3 : f.scopes.length = 0
          · exact .pos (by omega) (.pure (by rw [kz, h2]; simp only [h1, h3, decide_true, Bool.true_and]))
          · exact .neg (by omega) (.pure (by simp only [h3, decide_false, Bool.false_and, Bool.and_false]))
        · exact .neg h2 (.pure (by simp only [Bool.not_eq_true] at h2; rw [h2]; simp))
      · exact .neg h1 (.pure (by simp [h1]))
    · rintro b rfl
      refine .pure (fin _ ?_)
      by_cases hk : f.kids.length = 0
      · exact .inl hk
      · exact .inr (by simp [hk])
  rw [if_neg k2]
  simp only [if_neg k2]
  by_cases k3 : f.kind = 3
  · rw [if_pos k3]
    simp only [if_pos k3]
    refine Ex.bind (P := fun b => b = !(decide (f.name = []) && (decide (f.n = 0) && decide (f.scopes.length = 0)))) ?_ ?_
    · by_cases h1 : f.name = []
      · refine .neg (by simp [h1]) ?_
        by_cases h2 : f.n = 0
        · refine .neg (by simp [h2]) (.pure ?_)
          by_cases h3 : f.scopes.length = 0
          · have h3' : ¬ (f.scopes.length : Int) > 0 := by omega
            rw [decide_eq_false h3', decide_eq_true h1, decide_eq_true h2, decide_eq_true h3]; rfl
          · have h3' : (f.scopes.length : Int) > 0 := by omega
            rw [decide_eq_true h3', decide_eq_true h1, decide_eq_true h2, decide_eq_false h3]; rfl
        · exact .pos h2 (.pure (by simp [h1, h2]))
      · exact .pos h1 (.pure (by simp [h1]))
    · rintro b rfl
      cases hq : (decide (f.name = []) && (decide (f.n = 0) && decide (f.scopes.length = 0))) with
      | false =>
        refine .pos rfl (.pure ⟨⟨fun h => (by cases h), fun h => ?_⟩, fun h => (by cases h)⟩)
        have := h.1
        simp only [Bool.and_eq_true] at this
        rw [this.1, this.2.1, this.2.2.1] at hq; cases hq
      | true =>
        have hq' : ∀ b, (decide (f.name = []) && (decide (f.n = 0) && (decide (f.scopes.length = 0) && b))) = b := fun b => by
          simp only [Bool.and_eq_true] at hq
          rw [hq.1, hq.2.1, hq.2.2]; simp
        rw [hq']
        refine .neg (by simp) ?_
        have e2 : w64 (((41 - (d + 1) : Nat) : Int) + 1) = ((41 - d : Nat) : Int) := by rw [w_id (by omega) (by omega)]; omega
        rw [e2]
        refine Ex.seqS (P := fun o => match o with
          | .inl w => w.1 = false ∧ ¬ (f.kids.all (fmB d) = true ∧ cFs f.kids ≤ L - 1)
          | .inr s => f.kids.all (fmB d) = true ∧ cFs f.kids ≤ L - 1 ∧ s = ((L - 1 - cFs f.kids : Nat) : Int)) ?_ ?_ ?_
        · refine Ex.forI (I := fun i q s => ∃ u : Nat, s = (u : Int) ∧ u ≤ 400 ∧ (f.kids.all (fmB d) = true ∧ cFs f.kids ≤ L - 1 ↔ q.all (fmB d) = true ∧ cFs q ≤ u) ∧ u + cFs f.kids = L - 1 + cFs q ∧ ∀ x ∈ q, x ∈ f.kids) ?_ ?_ ?_
          · exact ⟨L - 1, by omega, by omega, Iff.rfl, rfl, fun _ h => h⟩
          · rintro i x q s ⟨u, rfl, hu, hiff, hsum, hmem⟩
            have hx := hmem x (List.mem_cons_self)
            refine Ex.bind (ifo_ex x (okFs_iff.1 o4 x hx) d (by omega) u hu) ?_
            rintro ⟨b, s'⟩ ⟨r1, r2⟩
            simp only at r1 r2
            cases b with
            | false =>
              refine .pos rfl (.fo ⟨rfl, fun h => ?_⟩)
              have h' := hiff.1 h
              simp only [List.all_cons, Bool.and_eq_true, cFs] at h'
              have := r1.2 ⟨h'.1.1, by omega⟩
              cases this
            | true =>
              obtain ⟨q1, q2⟩ := r1.1 rfl
              refine .neg (by simp) (.fg ⟨u - cF x, r2 rfl, by omega, ?_, by simp only [cFs] at hsum; omega, fun y hy => hmem y (List.mem_cons_of_mem _ hy)⟩)
              rw [hiff]
              simp only [List.all_cons, Bool.and_eq_true, cFs, q1, true_and]
              constructor <;> intro h <;> exact ⟨h.1, by omega⟩
          · rintro s ⟨u, rfl, hu, hiff, hsum, _⟩
            have h := hiff.2 ⟨rfl, by simp [cFs]⟩
            simp only [cFs] at hsum
            exact ⟨h.1, h.2, by omega⟩
        · rintro ⟨b, s⟩ ⟨h1, h2⟩
          simp only at h1
          subst h1
          refine ⟨⟨fun h => (by cases h), fun h => absurd ⟨h.1, by omega⟩ h2⟩, fun h => (by cases h)⟩
        · rintro s ⟨h1, h2, h3⟩
          exact .pure ⟨⟨fun _ => ⟨h1, by omega⟩, fun _ => rfl⟩, fun _ => by simp only; omega⟩
  · rw [if_neg k3]
    simp only [if_neg k3]
    exact .pure ⟨⟨fun h => (by cases h), fun h => (by cases h.1)⟩, fun h => (by cases h)⟩
termination_by SizeOf.sizeOf f
decreasing_by exact szF_lt hx
theorem ifv_evt (f : Form) (hf : okF f) : Evt (fun n => im_FormValid n f) (validF f) := by
  refine Ex.evt ?_
  unfold im_FormValid
  refine Ex.bind (ifo_ex f hf 40 (by omega) 400 (by omega)) ?_
  rintro ⟨b, s⟩ ⟨r1, _⟩
  refine .pure ?_
  simp only at r1 ⊢
  unfold validF
  rw [Bool.eq_iff_iff, r1]
  simp
def all2 {α β : Type} (p : α → β → Bool) : List α → List β → Bool
  | [], [] => true
  | x :: r, y :: s => p x y && all2 p r s
  | _, _ => false
theorem all2_len {α β : Type} {p : α → β → Bool} : ∀ {xs : List α} {ys : List β}, all2 p xs ys = true → xs.length = ys.length
  | [], [], _ => rfl
  | x :: r, y :: s, h => by simp only [all2, Bool.and_eq_true] at h; simp [all2_len h.2]
  | [], _ :: _, h => by cases h
  | _ :: _, [], h => by cases h
theorem Ex.eqI {α : Type} {m : Nat → α → α → Option Bool} {p : α → α → Bool} {xs ys : List α} (hl : xs.length = ys.length) (h : ∀ x ∈ xs, ∀ y, Evt (fun n => m n x y) (p x y)) :
    Evt (fun n => Mx.seqS (Mx.forI (fun (_ : Unit) (i : Nat) (x : α) => ((atI ys (i : Int)).bind fun e => (m n x e).bind fun k => (if (!k) = true then some (Sum.inl false) else some (Sum.inr ())) : Option (Bool ⊕ Unit))) 0 xs ()) (fun _ => some true)) (all2 p xs ys) := by
  refine Ex.evt ?_
  refine Ex.seqS (P := fun o => match o with
    | .inl w => w = false ∧ all2 p xs ys = false
    | .inr _ => all2 p xs ys = true) ?_ ?_ ?_
  · refine Ex.forI (I := fun i q s => (∀ x ∈ q, x ∈ xs) ∧ ∃ z, ys.drop i = z ∧ q.length = z.length ∧ all2 p xs ys = all2 p q z) ⟨fun _ h => h, ys, rfl, hl, rfl⟩ ?_ ?_
    · rintro i x q s ⟨h1, z, hz, h3, h2⟩
      cases z with
      | nil => simp at h3
      | cons y z =>
        obtain ⟨g1, g2, _, _⟩ := drop_hd hz
        refine .bp y (atI_nat g1) (.bv (h x (h1 x (List.mem_cons_self)) y) ?_)
        cases hp : p x y with
        | true => exact .neg (by simp) (.fg ⟨fun w hw => h1 w (List.mem_cons_of_mem _ hw), z, g2, by simpa using h3, by rw [h2]; simp only [all2, hp, Bool.true_and]⟩)
        | false => exact .pos rfl (.fo ⟨rfl, by rw [h2]; simp only [all2, hp, Bool.false_and]⟩)
    · rintro s ⟨_, z, hz, h3, h2⟩
      have : z = [] := List.eq_nil_of_length_eq_zero (by simpa using h3.symm)
      subst this
      exact h2
  · rintro w ⟨rfl, h⟩; exact h.symm
  · rintro ⟨⟩ h; exact .pure h.symm
theorem all2_eq {α : Type} [DecidableEq α] : ∀ {xs ys : List α}, all2 (fun x y => decide (x = y)) xs ys = decide (xs = ys)
  | [], [] => rfl
  | x :: r, y :: s => by
    simp only [all2, all2_eq (xs := r) (ys := s)]
    rw [Bool.eq_iff_iff]; simp
  | [], _ :: _ => by simp [all2]
  | _ :: _, [] => by simp [all2]
theorem eqIntsE {a b : List Int} : Evt (fun (_ : Nat) => (if ¬ (a.length : Int) = (b.length : Int) then some false else seqS (forI (fun (s5 : Unit) (i4 : Nat) (x7 : Int) => ((atI b (i4 : Int)).bind fun e12 => (if ¬ x7 = e12 then some (Sum.inl false) else some (Sum.inr ())) : Option (Bool ⊕ Unit))) 0 a ()) (fun (s5 : Unit) => some true))) (decide (a = b)) := by
  by_cases h : a.length = b.length
  · refine .neg (by omega) ?_
    have := Ex.eqI (m := fun _ (x y : Int) => some (decide (x = y))) (p := fun x y => decide (x = y)) h (fun x _ y => .pure _)
    rw [all2_eq] at this
    simpa only [Option.bind_some, Bool.not_eq_true', decide_eq_false_iff_not] using this
  · refine .pos (by omega) ?_
    have : ¬ a = b := fun e => h (by rw [e])
    simp only [this, decide_false]; exact .pure _
mutual
def sameF : Form → Form → Bool
  | ⟨k, nm, n, sc, kids⟩, b => decide (k = b.kind) && (decide (nm = b.name) && (decide (n = b.n) && (decide (sc = b.scopes) && sameFs kids b.kids)))
def sameFs : List Form → List Form → Bool
  | [], [] => true
  | x :: r, y :: s => sameF x y && sameFs r s
  | _, _ => false
end
mutual
def sameC : Core → Core → Bool
  | ⟨k, id, nm, n, ids, dt, kids⟩, b => decide (k = b.kind) && (decide (id = b.id) && (decide (nm = b.name) && (decide (n = b.n) && (decide (ids = b.ids) && (sameF dt b.data && sameCs kids b.kids)))))
def sameCs : List Core → List Core → Bool
  | [], [] => true
  | x :: r, y :: s => sameC x y && sameCs r s
  | _, _ => false
end
mutual
theorem sameF_iff : ∀ {a b : Form}, sameF a b = true ↔ a = b
  | ⟨k, nm, n, sc, kids⟩, ⟨k', nm', n', sc', kids'⟩ => by
    simp only [sameF, Bool.and_eq_true, decide_eq_true_eq, sameFs_iff, Form.mk.injEq]
theorem sameFs_iff : ∀ {a b : List Form}, sameFs a b = true ↔ a = b
  | [], [] => by simp [sameFs]
  | x :: r, y :: s => by simp only [sameFs, Bool.and_eq_true, sameF_iff, sameFs_iff, List.cons.injEq]
  | [], _ :: _ => by simp [sameFs]
  | _ :: _, [] => by simp [sameFs]
end
mutual
theorem sameC_iff : ∀ {a b : Core}, sameC a b = true ↔ a = b
  | ⟨k, id, nm, n, ids, dt, kids⟩, ⟨k', id', nm', n', ids', dt', kids'⟩ => by
    simp only [sameC, Bool.and_eq_true, decide_eq_true_eq, sameCs_iff, sameF_iff, Core.mk.injEq]
theorem sameCs_iff : ∀ {a b : List Core}, sameCs a b = true ↔ a = b
  | [], [] => by simp [sameCs]
  | x :: r, y :: s => by simp only [sameCs, Bool.and_eq_true, sameC_iff, sameCs_iff, List.cons.injEq]
  | [], _ :: _ => by simp [sameCs]
  | _ :: _, [] => by simp [sameCs]
end
theorem sameFs_all : ∀ {a b : List Form}, sameFs a b = all2 sameF a b
  | [], [] => by simp [sameFs, all2]
  | x :: r, y :: s => by simp only [sameFs, all2, sameFs_all (a := r)]
  | [], _ :: _ => by simp [sameFs, all2]
  | _ :: _, [] => by simp [sameFs, all2]
theorem sameCs_all : ∀ {a b : List Core}, sameCs a b = all2 sameC a b
  | [], [] => by simp [sameCs, all2]
  | x :: r, y :: s => by simp only [sameCs, all2, sameCs_all (a := r)]
  | [], _ :: _ => by simp [sameCs, all2]
  | _ :: _, [] => by simp [sameCs, all2]
theorem sameF_eq (a b : Form) : sameF a b = (decide (a.kind = b.kind) && (decide (a.name = b.name) && (decide (a.n = b.n) && (decide (a.scopes = b.scopes) && sameFs a.kids b.kids)))) := by cases a; simp only [sameF]
theorem sameC_eq (a b : Core) : sameC a b = (decide (a.kind = b.kind) && (decide (a.id = b.id) && (decide (a.name = b.name) && (decide (a.n = b.n) && (decide (a.ids = b.ids) && (sameF a.data b.data && sameCs a.kids b.kids)))))) := by cases a; simp only [sameC]
theorem sameFs_len {a b : List Form} (h : ¬ a.length = b.length) : sameFs a b = false := by
  cases hs : sameFs a b with
  | false => rfl
  | true => exact absurd (by rw [sameFs_iff.1 hs]) h
theorem sameCs_len {a b : List Core} (h : ¬ a.length = b.length) : sameCs a b = false := by
  cases hs : sameCs a b with
  | false => rfl
  | true => exact absurd (by rw [sameCs_iff.1 hs]) h
theorem ieqi_evt (a b : List Int) : Evt (fun n => slices_Equal_int n a b) (decide (a = b)) := eqIntsE
theorem ifs_evt (a b : Form) : Evt (fun n => im_FormSame n a b) (sameF a b) := by
  refine .succ ?_
  simp only [im_FormSame]
  rw [sameF_eq]
  refine Ex.evt ?_
  refine Ex.bind (P := fun o => o = (decide (a.kind = b.kind) && (decide (a.name = b.name) && (decide (a.n = b.n) && (decide (a.scopes = b.scopes) && sameFs a.kids b.kids))))) ?_ (fun _ h => .pure h)
  by_cases h1 : a.kind = b.kind
  · refine .pos h1 ?_
    by_cases h2 : a.name = b.name
    · refine .pos h2 ?_
      by_cases h3 : a.n = b.n
      · refine .pos h3 (.bv (ieqi_evt _ _) ?_)
        rw [decide_eq_true h1, decide_eq_true h2, decide_eq_true h3]
        simp only [Bool.true_and]
        by_cases h4 : a.scopes = b.scopes
        · rw [decide_eq_true h4]
          refine .pos rfl ?_
          have hk : Evt (fun n => slices_EqualFunc_impl_Form__im_FormSame n a.kids b.kids) (sameFs a.kids b.kids) := by
            refine .succ ?_
            simp only [slices_EqualFunc_impl_Form__im_FormSame]
            by_cases hl : a.kids.length = b.kids.length
            · refine .neg (by omega) ?_
              rw [sameFs_all]
              exact Ex.eqI (m := fun n x e => im_FormSame n x e) hl (fun x hx y => ifs_evt x y)
            · rw [sameFs_len hl]; exact .pos (by omega) (.pure _)
          exact .bv hk (.pure rfl)
        · rw [decide_eq_false h4]
          exact .neg (by simp) (.pure rfl)
      · exact .neg h3 (.pure (by rw [decide_eq_false h3]; simp))
    · exact .neg h2 (.pure (by rw [decide_eq_false h2]; simp))
  · exact .neg h1 (.pure (by rw [decide_eq_false h1]; rfl))
termination_by SizeOf.sizeOf a
decreasing_by exact szF_lt hx
theorem isc_evt (a b : Core) : Evt (fun n => im_sameCore n a b) (sameC a b) := by
  refine .succ ?_
  simp only [im_sameCore]
  rw [sameC_eq]
  refine Ex.evt ?_
  refine Ex.bind (P := fun o => o = (decide (a.kind = b.kind) && (decide (a.id = b.id) && (decide (a.name = b.name) && (decide (a.n = b.n) && (decide (a.ids = b.ids) && (sameF a.data b.data && sameCs a.kids b.kids))))))) ?_ (fun _ h => .pure h)
  by_cases h1 : a.kind = b.kind
  · refine .pos h1 ?_
    by_cases h0 : a.id = b.id
    · refine .pos h0 ?_
      by_cases h2 : a.name = b.name
      · refine .pos h2 ?_
        by_cases h3 : a.n = b.n
        · refine .pos h3 (.bv (ieqi_evt _ _) ?_)
          rw [decide_eq_true h1, decide_eq_true h2, decide_eq_true h3, decide_eq_true h0]
          simp only [Bool.true_and]
          by_cases h4 : a.ids = b.ids
          · rw [decide_eq_true h4]
            refine .pos rfl (.bv (ifs_evt _ _) ?_)
            cases hd : sameF a.data b.data with
            | false => exact .neg (by simp) (.pure rfl)
            | true =>
              refine .pos rfl ?_
              have hk : Evt (fun n => slices_EqualFunc_impl_Core__im_sameCore n a.kids b.kids) (sameCs a.kids b.kids) := by
                refine .succ ?_
                simp only [slices_EqualFunc_impl_Core__im_sameCore]
                by_cases hl : a.kids.length = b.kids.length
                · refine .neg (by omega) ?_
                  rw [sameCs_all]
                  exact Ex.eqI (m := fun n x e => im_sameCore n x e) hl (fun x hx y => isc_evt x y)
                · rw [sameCs_len hl]; exact .pos (by omega) (.pure _)
              exact .bv hk (.pure rfl)
          · rw [decide_eq_false h4]
            exact .neg (by simp) (.pure rfl)
        · exact .neg h3 (.pure (by rw [decide_eq_false h3]; simp))
      · exact .neg h2 (.pure (by rw [decide_eq_false h2]; simp))
    · exact .neg h0 (.pure (by rw [decide_eq_false h0]; simp))
  · exact .neg h1 (.pure (by rw [decide_eq_false h1]; rfl))
termination_by SizeOf.sizeOf a
decreasing_by exact szC_lt hx
def zF : Form := ⟨0, [], 0, [], []⟩
mutual
def allSc : Form → List Int
  | ⟨_, _, _, sc, kids⟩ => sc ++ allScs kids
def allScs : List Form → List Int
  | [] => []
  | x :: r => allSc x ++ allScs r
end
mutual
def strF : Form → Form
  | ⟨k, nm, n, _, kids⟩ => ⟨k, nm, n, [], strFs kids⟩
def strFs : List Form → List Form
  | [] => []
  | x :: r => strF x :: strFs r
end
def noSc (f : Form) : Bool := decide (allSc f = [])
theorem allSc_eq (f : Form) : allSc f = f.scopes ++ allScs f.kids := by cases f; simp only [allSc]
theorem strF_eq (f : Form) : strF f = ⟨f.kind, f.name, f.n, [], strFs f.kids⟩ := by cases f; simp only [strF]
theorem strFs_map : ∀ l : List Form, strFs l = l.map strF
  | [] => rfl
  | x :: r => by simp only [strFs, List.map_cons, strFs_map r]
mutual
theorem allSc_le : ∀ f : Form, (allSc f).length ≤ wF f
  | ⟨k, nm, n, sc, kids⟩ => by have := allScs_le kids; simp only [allSc, wF, List.length_append]; omega
theorem allScs_le : ∀ l : List Form, (allScs l).length ≤ wFs l
  | [] => by simp [allScs]
  | x :: r => by have := allSc_le x; have := allScs_le r; simp only [allScs, wFs, List.length_append]; omega
end
mutual
theorem str_same : ∀ f : Form, sameF (strF f) f = noSc f
  | ⟨k, nm, n, sc, kids⟩ => by
    have ih := str_sames kids
    rw [Bool.eq_iff_iff]
    simp only [strF, sameF, noSc, allSc, ih, decide_true, Bool.true_and, Bool.and_eq_true, decide_eq_true_eq, List.append_eq_nil_iff]
    exact ⟨fun ⟨a, b⟩ => ⟨a.symm, b⟩, fun ⟨a, b⟩ => ⟨a.symm, b⟩⟩
theorem str_sames : ∀ l : List Form, sameFs (strFs l) l = decide (allScs l = [])
  | [] => rfl
  | x :: r => by
    have ih := str_same x
    have ih2 := str_sames r
    rw [Bool.eq_iff_iff]
    simp only [strFs, sameFs, ih, ih2, noSc, allScs, Bool.and_eq_true, decide_eq_true_eq, List.append_eq_nil_iff]
end
def flB (c : Core) : Bool :=
  (if c.kind = 1 then decide (1 ≤ c.id) && decide (c.id ≤ 999) else decide (c.id = 0)) &&
  ((if c.kind = 2 then nameB c.name else decide (c.name = [])) &&
  ((if c.kind = 3 then decide (0 ≤ c.n) && decide (c.n ≤ 999) else decide (c.n = 0)) &&
  ((if c.kind = 4 then validF c.data && noSc c.data else sameF c.data zF) &&
   (decide (c.kind = 5) || decide (c.ids = [])))))
def kdB (k : Int) (m : Nat) : Bool := if k = 1 ∨ k = 2 ∨ k = 3 ∨ k = 4 then decide (m = 0) else if k = 5 then decide (m = 1) else if k = 6 then decide (1 ≤ m) else if k = 7 then decide (m = 3) else false
def adB : List Int → List Int → Option (List Int)
  | sc, [] => some sc
  | sc, x :: r => if (1 ≤ x ∧ x ≤ 999) ∧ x ∉ sc then adB (sc ++ [x]) r else none
theorem adB_len : ∀ {ids sc s : List Int}, adB sc ids = some s → s.length = sc.length + ids.length
  | [], sc, s, h => by cases h; rfl
  | x :: r, sc, s, h => by
    simp only [adB] at h
    split at h
    · have := adB_len h; simp at this ⊢; omega
    · cases h
def crB : Nat → List Int → Core → Bool
  | 0, _, _ => false
  | d + 1, sc, c => kdB c.kind c.kids.length && (flB c && ((!decide (c.kind = 1) || decide (c.id ∈ sc)) && (match adB sc c.ids with
    | none => false
    | some s => c.kids.all (crB d s))))
mutual
def cC : Core → Nat
  | ⟨_, _, _, _, _, _, kids⟩ => 1 + cCs kids
def cCs : List Core → Nat
  | [] => 0
  | x :: r => cC x + cCs r
end
theorem cC_eq (f : Core) : cC f = 1 + cCs f.kids := by cases f; simp only [cC]
mutual
theorem cC_le : ∀ f : Core, cC f ≤ wC f + 1
  | ⟨k, id, nm, n, ids, dt, kids⟩ => by have := cCs_le kids; simp only [cC, wC]; omega
theorem cCs_le : ∀ l : List Core, cCs l ≤ wCs l + l.length
  | [] => by simp [cCs]
  | x :: r => by have := cC_le x; have := cCs_le r; simp only [cCs, wCs, List.length_cons]; omega
end
theorem cCs_mem : ∀ {l : List Core} {x : Core}, x ∈ l → cC x ≤ cCs l
  | y :: r, x, h => by
    simp only [cCs]
    rcases List.mem_cons.1 h with rfl | h
    · omega
    · have := cCs_mem h; omega
def validC (c : Core) : Bool := crB 120 [] c && decide (cC c ≤ 600)
mutual
theorem okF_w : ∀ f : Form, wF f ≤ 1073741824 → okF f
  | ⟨k, nm, n, sc, kids⟩, h => by simp only [wF] at h; simp only [okF, mxL]; exact ⟨by omega, by omega, by omega, okFs_w kids (by omega)⟩
theorem okFs_w : ∀ l : List Form, wFs l ≤ 1073741824 → okFs l
  | [], _ => trivial
  | x :: r, h => by simp only [wFs] at h; simp only [okFs]; exact ⟨okF_w x (by omega), okFs_w r (by omega)⟩
end
theorem icon_eq (n : Nat) (l : List Int) (x : Int) : slices_Contains_int n l x = some (decide (x ∈ l)) := by
  unfold slices_Contains_int slices_Index_int
  have main : ∀ (l : List Int) (i : Nat), ∃ k : Int, seqS (Mx.forI (fun (_ : Unit) (i : Nat) (y : Int) => ((if x = y then some (Sum.inl (i : Int)) else some (Sum.inr ())) : Option (Int ⊕ Unit))) i l ()) (fun _ => some (-1)) = some k ∧ (k ≥ 0 ↔ x ∈ l) := by
    intro l
    induction l with
    | nil => intro i; exact ⟨-1, rfl, by simp⟩
    | cons y r ih =>
      intro i
      by_cases h : x = y
      · subst h
        exact ⟨(i : Int), by simp [Mx.forI, Mx.seqS], by simp⟩
      · obtain ⟨k, h1, h2⟩ := ih (i + 1)
        refine ⟨k, ?_, by rw [h2]; simp [h]⟩
        rw [← h1]
        simp [Mx.forI, h]
  obtain ⟨k, h1, h2⟩ := main l 0
  rw [h1, Option.bind_some]
  congr 1
  rw [Bool.eq_iff_iff, decide_eq_true_eq, decide_eq_true_eq]; exact h2
theorem iconv_eq (n : Nat) (l : List Int) (x : Int) : slices_Contains_int_v n l x = some (decide (x ∈ l)) := icon_eq n l x
theorem ies_evt (f : Form) (w : List Int) (hw : w.length + wF f ≤ 1073741824) : Evt (fun n => im_eachForm__im_ScopesOf_1 n f w) (w ++ allSc f) := by
  have he := wF_eq f
  refine .succ ?_
  simp only [im_eachForm__im_ScopesOf_1, im_ScopesOf_1]
  refine Ex.evt ?_
  rw [apB_ok (by omega)]
  simp only [Option.bind_some]
  refine Ex.bind (P := fun s => s = w ++ allSc f) ?_ (fun s hs => .pure hs)
  refine Ex.forL (I := fun i q s => s ++ allScs q = w ++ allSc f ∧ s.length + wFs q + q.length ≤ 1073741824 ∧ ∀ x ∈ q, x ∈ f.kids) ⟨by rw [allSc_eq, List.append_assoc], by simp; omega, fun _ h => h⟩ ?_ ?_
  · rintro i x q s ⟨h1, h2, h3⟩
    simp only [wFs, List.length_cons] at h2
    have g4 := h3 x (List.mem_cons_self)
    refine .bv (ies_evt x s (by omega)) (.pure ⟨?_, ?_, fun y hy => h3 y (List.mem_cons_of_mem _ hy)⟩)
    · rw [← h1]; simp only [allScs, List.append_assoc]
    · have := allSc_le x
      simp only [List.length_append]; omega
  · rintro s ⟨h1, _, _⟩
    simpa [allScs] using h1
termination_by SizeOf.sizeOf f
decreasing_by exact szF_lt g4
theorem compact_nil {l : List Int} : (Lib.compact l).length = 0 ↔ l = [] := by
  constructor
  · intro h
    cases l with
    | nil => rfl
    | cons x r =>
      exfalso
      have h : Lib.compact (x :: r) = [] := List.eq_nil_of_length_eq_zero h
      unfold Lib.compact Lib.compactUpTo at h
      rw [List.map_eq_nil_iff, List.filter_eq_nil_iff] at h
      exact h 0 (by simp) (by simp [Lib.keeps])
  · rintro rfl; rfl
theorem iso_evt (f : Form) (hw : wF f ≤ 1073741824) (hv : validF f = true) : Ex (fun n => im_ScopesOf n f) (fun r => decide ((r.length : Int) > 0) = !noSc f) := by
  unfold im_ScopesOf
  refine .bv (ifv_evt f (okF_w f hw)) ?_
  rw [hv]
  refine .neg (by simp) (.bv (ies_evt f [] (by simp; omega)) ?_)
  have hl := allSc_le f
  rw [List.nil_append]
  unfold slices_Sort_int_v slices_Compact_int_v
  refine .bp _ (if_pos (by omega)) (.bp () (lenB_of (by simp)) (.bp _ rfl (.pure ?_)))
  unfold noSc
  generalize hs : (allSc f).mergeSort (fun x y => decide (x ≤ y)) = s
  have hsl : s.length = (allSc f).length := by rw [← hs]; simp
  by_cases h : allSc f = []
  · have : s = [] := List.eq_nil_of_length_eq_zero (by rw [hsl, h]; rfl)
    rw [this, h]; rfl
  · have h1 : s ≠ [] := fun e => h (List.eq_nil_of_length_eq_zero (by rw [← hsl, e]; rfl))
    have h2 : (Lib.compact s).length ≠ 0 := fun e => h1 (compact_nil.1 e)
    rw [decide_eq_true (by omega), decide_eq_false h]; rfl
theorem iad_ex (sc ids : List Int) (hl : sc.length + ids.length ≤ 1073741824) {ω : Type} (no : ω) (N : Nat) : Mx.forI (fun (s41 : List Int) (i40 : Nat) (x43 : Int) => (Option.bind ((im_within N x43 1 999).bind fun k51 => (if (!k51) = true then some true else (slices_Contains_int_v N s41 x43).bind fun k53 => some k53) : Option (Bool)) (fun (o48 : Bool) => (if o48 = true then some (Sum.inl no) else (apB 8 s41 [x43]).bind fun z50 => some (Sum.inr z50))) : Option (ω ⊕ (List Int)))) 0 ids sc = some (match adB sc ids with
    | none => .inl no
    | some s => .inr s) := by
  have main : ∀ (ids sc : List Int) (i : Nat), sc.length + ids.length ≤ 1073741824 → Mx.forI (fun (s41 : List Int) (i40 : Nat) (x43 : Int) => (Option.bind ((im_within N x43 1 999).bind fun k51 => (if (!k51) = true then some true else (slices_Contains_int_v N s41 x43).bind fun k53 => some k53) : Option (Bool)) (fun (o48 : Bool) => (if o48 = true then some (Sum.inl no) else (apB 8 s41 [x43]).bind fun z50 => some (Sum.inr z50))) : Option (ω ⊕ (List Int)))) i ids sc = some (match adB sc ids with
    | none => .inl no
    | some s => .inr s) := by
    simp only [iw_eq, iconv_eq, Option.bind_some]
    intro ids
    induction ids with
    | nil => intro sc i _; rfl
    | cons x r ih =>
      intro sc i hb
      simp only [List.length_cons] at hb
      simp only [Mx.forI, adB]
      by_cases h1 : 1 ≤ x ∧ x ≤ 999
      · simp only [h1.1, h1.2, decide_true, Bool.and_self, Bool.not_true, Bool.false_eq_true, if_false, Option.bind_some, true_and, and_self]
        by_cases h2 : x ∈ sc
        · simp only [h2, decide_true, if_true, Option.bind_some, not_true_eq_false, if_false]
        · simp only [h2, decide_false, Bool.false_eq_true, if_false, not_false_eq_true, if_true]
          rw [apB_ok (by simp; omega)]
          simp only [Option.bind_some]
          exact ih (sc ++ [x]) (i + 1) (by simp; omega)
      · have h1' : (decide (1 ≤ x) && decide (x ≤ 999)) = false := by
          rw [Bool.eq_false_iff]; simpa using h1
        simp only [h1', Bool.not_false, if_true, Option.bind_some, h1, false_and, if_false]
  exact main ids sc 0 hl
def fl4 (c : Core) : Bool :=
  (if c.kind = 1 then decide (1 ≤ c.id) && decide (c.id ≤ 999) else decide (c.id = 0)) &&
  ((if c.kind = 2 then nameB c.name else decide (c.name = [])) &&
  ((if c.kind = 3 then decide (0 ≤ c.n) && decide (c.n ≤ 999) else decide (c.n = 0)) &&
  (if c.kind = 4 then validF c.data && noSc c.data else sameF c.data zF)))
theorem flB_eq (c : Core) : flB c = (fl4 c && (decide (c.kind = 5) || decide (c.ids = []))) := by simp only [flB, fl4, Bool.and_assoc]
theorem crB_no5 {c : Core} (h : c.kind ≠ 5) (d : Nat) (sc : List Int) : crB (d + 1) sc c = (kdB c.kind c.kids.length && (fl4 c && ((!decide (c.kind = 1) || decide (c.id ∈ sc)) && (decide (c.ids = []) && c.kids.all (crB d sc))))) := by
  simp only [crB, flB_eq, decide_eq_false h, Bool.false_or]
  by_cases hi : c.ids = []
  · rw [hi]
    simp only [adB, decide_true, Bool.and_true, Bool.true_and]
  · rw [decide_eq_false hi]; simp
theorem bare_eq (c : Core) (a : Int) (b : List UInt8) (e : Int) (g : List Int) (dt : Form) : sameC c ⟨c.kind, a, b, e, g, dt, c.kids⟩ = (decide (c.id = a) && (decide (c.name = b) && (decide (c.n = e) && (decide (c.ids = g) && sameF c.data dt)))) := by
  rw [sameC_eq]
  simp only [decide_true, Bool.true_and, sameCs_iff.2, Bool.and_true]
theorem kd1 (m : Nat) : kdB 1 m = decide (m = 0) := by simp [kdB]
theorem kd2 (m : Nat) : kdB 2 m = decide (m = 0) := by simp [kdB]
theorem kd3 (m : Nat) : kdB 3 m = decide (m = 0) := by simp [kdB]
theorem kd4 (m : Nat) : kdB 4 m = decide (m = 0) := by simp [kdB]
theorem kd5 (m : Nat) : kdB 5 m = decide (m = 1) := by simp [kdB]
theorem kd6 (m : Nat) : kdB 6 m = decide (1 ≤ m) := by simp [kdB]
theorem kd7 (m : Nat) : kdB 7 m = decide (m = 3) := by simp [kdB]
theorem len_dec (c : Core) (k : Nat) : decide ((c.kids.length : Int) = (k : Int)) = decide (c.kids.length = k) := by simp only [decide_eq_decide]; omega
theorem ico_ex (c : Core) (d : Nat) (hd : d ≤ 120) (sc : List Int) (hw : sc.length + wC c ≤ 1073741824) (L : Nat) (hL : L ≤ 600) : Ex (fun n => im_coreOk n c sc ((121 - d : Nat) : Int) (L : Int)) (fun r => (r.1 = true ↔ crB d sc c = true ∧ cC c ≤ L) ∧ (r.1 = true → r.2 = ((L - cC c : Nat) : Int))) := by
  have he := wC_eq c
  have hc := cC_eq c
  refine .succ ?_
  simp only [im_coreOk]
  have e1 : w64 ((L : Int) - 1) = (L : Int) - 1 := w_id (by omega) (by omega)
  rw [e1]
  by_cases h0 : (L : Int) - 1 < 0
  · simp only [if_pos h0, Option.bind_some, if_true]
    refine .pure ⟨⟨fun h => (by cases h), fun h => (by omega)⟩, fun h => (by cases h)⟩
  rw [if_neg h0]
  by_cases hd0 : d = 0
  · subst hd0
    simp only [show decide (((121 - 0 : Nat) : Int) > 120) = true from rfl, Option.bind_some, if_true]
    refine .pure ⟨⟨fun h => (by cases h), fun h => (by simp [crB] at h)⟩, fun h => (by cases h)⟩
  obtain ⟨d, rfl⟩ : ∃ e, d = e + 1 := ⟨d - 1, by omega⟩
  have hdd : decide (((121 - (d + 1) : Nat) : Int) > 120) = false := by simp; omega
  simp only [hdd, Option.bind_some, Bool.false_eq_true, if_false]
  have l0 : decide ((c.kids.length : Int) = 0) = decide (c.kids.length = 0) := len_dec c 0
  have l1 : decide ((c.kids.length : Int) = 1) = decide (c.kids.length = 1) := len_dec c 1
  have l3 : decide ((c.kids.length : Int) = 3) = decide (c.kids.length = 3) := len_dec c 3
  refine Ex.seqS (P := fun o => match o with
    | .inl w => w = (false, (L : Int) - 1) ∧ crB (d + 1) sc c = false
    | .inr t => crB (d + 1) sc c = (decide ((c.kids.length : Int) = t.1) && (sameC c ⟨c.kind, t.2.2.1, t.2.2.2.1, t.2.2.2.2.1, t.2.2.2.2.2.1, ⟨t.2.2.2.2.2.2.1, t.2.2.2.2.2.2.2.1, t.2.2.2.2.2.2.2.2.1, t.2.2.2.2.2.2.2.2.2.1, t.2.2.2.2.2.2.2.2.2.2⟩, c.kids⟩ && c.kids.all (crB d t.2.1))) ∧ t.2.1.length ≤ sc.length + c.ids.length) ?_ ?_ ?_
  · by_cases k1 : c.kind = 1
    · refine .pos k1 ?_
      have hcr := crB_no5 (c := c) (by omega) d sc
      simp only [iw_eq, icon_eq, Option.bind_some]
      rw [k1] at hcr
      simp only [decide_true, Bool.not_true, Bool.false_or] at hcr
      refine Ex.bind (P := fun o => o = !((decide (1 ≤ c.id) && decide (c.id ≤ 999)) && decide (c.id ∈ sc))) ?_ ?_
      · cases (decide (1 ≤ c.id) && decide (c.id ≤ 999)) with
        | false => exact .pos rfl (.pure rfl)
        | true => exact .neg (by simp) (.pure (by simp))
      · rintro o rfl
        have hf : fl4 c = ((decide (1 ≤ c.id) && decide (c.id ≤ 999)) && (decide (c.name = []) && (decide (c.n = 0) && sameF c.data zF))) := by unfold fl4; simp [k1]
        rw [hf] at hcr
        cases hq : ((decide (1 ≤ c.id) && decide (c.id ≤ 999)) && decide (c.id ∈ sc)) with
        | false =>
          refine .pos rfl (.pure ⟨rfl, ?_⟩)
          rw [hcr]
          rcases Bool.and_eq_false_iff.1 hq with h | h <;> rw [h] <;> simp
        | true =>
          obtain ⟨h1, h2⟩ := (Bool.and_eq_true _ _ ▸ hq : _ ∧ _)
          refine .neg (by simp) (.pure ⟨?_, by simp⟩)
          rw [hcr, bare_eq, h1, h2]
          simp only [decide_true, Bool.true_and, l0, l1, l3, kd1, kd2, kd3, kd4, kd6, kd7, zF]
          ac_rfl
    refine .neg k1 ?_
    by_cases k2 : c.kind = 2
    · refine .pos k2 (.bv (inv_evt _ (by unfold mxL; omega)) ?_)
      have hcr := crB_no5 (c := c) (by omega) d sc
      have hf : fl4 c = (decide (c.id = 0) && (nameB c.name && (decide (c.n = 0) && sameF c.data zF))) := by unfold fl4; simp [k2]
      rw [hf, k2] at hcr
      cases hq : nameB c.name with
      | false => exact .pos rfl (.pure ⟨rfl, by rw [hcr, hq]; simp⟩)
      | true =>
        refine .neg (by simp) (.pure ⟨?_, by simp⟩)
        rw [hcr, bare_eq, hq]
        simp only [decide_true, Bool.true_and, l0, l1, l3, kd1, kd2, kd3, kd4, kd6, kd7, zF, show decide ((2 : Int) = 1) = false from rfl, Bool.not_false, Bool.true_or]
        ac_rfl
    refine .neg k2 ?_
    by_cases k3 : c.kind = 3
    · refine .pos k3 ?_
      have hcr := crB_no5 (c := c) (by omega) d sc
      have hf : fl4 c = (decide (c.id = 0) && (decide (c.name = []) && ((decide (0 ≤ c.n) && decide (c.n ≤ 999)) && sameF c.data zF))) := by unfold fl4; simp [k3]
      rw [hf, k3] at hcr
      simp only [iw_eq, Option.bind_some]
      cases hq : (decide (0 ≤ c.n) && decide (c.n ≤ 999)) with
      | false => exact .pos rfl (.pure ⟨rfl, by rw [hcr, hq]; simp⟩)
      | true =>
        refine .neg (by simp) (.pure ⟨?_, by simp⟩)
        rw [hcr, bare_eq, hq]
        simp only [decide_true, Bool.true_and, l0, l1, l3, kd1, kd2, kd3, kd4, kd6, kd7, zF, show decide ((3 : Int) = 1) = false from rfl, Bool.not_false, Bool.true_or]
        ac_rfl
    refine .neg k3 ?_
    by_cases k4 : c.kind = 4
    · refine .pos k4 ?_
      have hcr := crB_no5 (c := c) (by omega) d sc
      have hf : fl4 c = (decide (c.id = 0) && (decide (c.name = []) && (decide (c.n = 0) && (validF c.data && noSc c.data)))) := by unfold fl4; simp [k4]
      rw [hf, k4] at hcr
      refine Ex.bind (P := fun o => o = !(validF c.data && noSc c.data)) ?_ ?_
      · refine .bv (ifv_evt _ (okF_w _ (by omega))) ?_
        cases hv : validF c.data with
        | false => exact .pos rfl (.pure rfl)
        | true =>
          refine .neg (by simp) (Ex.bind (iso_evt _ (by omega) hv) ?_)
          intro r hr
          exact .pure (by rw [hr, Bool.true_and])
      · rintro o rfl
        cases hq : (validF c.data && noSc c.data) with
        | false => exact .pos rfl (.pure ⟨rfl, by rw [hcr, hq]; simp⟩)
        | true =>
          refine .neg (by simp) (.pure ⟨?_, by simp⟩)
          have hd0 : sameF c.data ⟨c.data.kind, c.data.name, c.data.n, c.data.scopes, c.data.kids⟩ = true := sameF_iff.2 (by cases c.data; rfl)
          rw [hcr, bare_eq, hq]
          simp only []
          rw [hd0]
          simp only [decide_true, Bool.true_and, l0, l1, l3, kd1, kd2, kd3, kd4, kd6, kd7, show decide ((4 : Int) = 1) = false from rfl, Bool.not_false, Bool.true_or, Bool.and_true]
          ac_rfl
    refine .neg k4 ?_
    by_cases k5 : c.kind = 5
    · refine .pos k5 ?_
      unfold slices_Clone_int
      rw [apB_nil (by omega)]
      simp only [Option.bind_some]
      have hf : flB c = (decide (c.id = 0) && (decide (c.name = []) && (decide (c.n = 0) && sameF c.data zF))) := by unfold flB; simp [k5]
      have hcr : crB (d + 1) sc c = (decide (c.kids.length = 1) && ((decide (c.id = 0) && (decide (c.name = []) && (decide (c.n = 0) && sameF c.data zF))) && (match adB sc c.ids with
        | none => false
        | some s => c.kids.all (crB d s)))) := by
        simp only [crB, hf, k5, kd5, show decide ((5 : Int) = 1) = false from rfl, Bool.not_false, Bool.true_or, Bool.true_and]
      simp only [iad_ex sc c.ids (by omega)]
      cases hq : adB sc c.ids with
      | none => exact .pure ⟨rfl, by rw [hcr, hq]; simp⟩
      | some s =>
        refine .pure ⟨?_, by rw [adB_len hq]; exact Nat.le_refl _⟩
        rw [hcr, hq, bare_eq]
        simp only [decide_true, Bool.true_and, l1, zF]
    refine .neg k5 ?_
    have hcr := crB_no5 (c := c) k5 d sc
    have hf : fl4 c = (decide (c.id = 0) && (decide (c.name = []) && (decide (c.n = 0) && sameF c.data zF))) := by unfold fl4; simp [k1, k2, k3, k4]
    rw [hf, decide_eq_false k1] at hcr
    by_cases k6 : c.kind = 6
    · refine .pos k6 (.pure ⟨?_, by simp⟩)
      have hm : decide ((c.kids.length : Int) = (if (c.kids.length : Int) > 1 then (c.kids.length : Int) else 1)) = decide (1 ≤ c.kids.length) := by
        rw [Bool.eq_iff_iff, decide_eq_true_eq, decide_eq_true_eq]
        split <;> constructor <;> intro h <;> omega
      rw [hcr, bare_eq]
      simp only []
      rw [hm, k6]
      simp only [decide_true, Bool.true_and, l0, l1, l3, kd1, kd2, kd3, kd4, kd6, kd7, zF, Bool.not_false, Bool.true_or]
      ac_rfl
    refine .neg k6 ?_
    by_cases k7 : c.kind = 7
    · refine .pos k7 (.pure ⟨?_, by simp⟩)
      rw [hcr, bare_eq, k7]
      simp only [decide_true, Bool.true_and, l0, l1, l3, kd1, kd2, kd3, kd4, kd6, kd7, zF, Bool.not_false, Bool.true_or]
      ac_rfl
    · refine .neg k7 (.pure ⟨rfl, ?_⟩)
      rw [hcr]
      have : kdB c.kind c.kids.length = false := by unfold kdB; simp [k1, k2, k3, k4, k5, k6, k7]
      rw [this]; rfl
  · rintro w ⟨rfl, h⟩
    exact ⟨⟨fun h => (by cases h), fun h' => by rw [h] at h'; cases h'.1⟩, fun h => (by cases h)⟩
  · rintro ⟨m, s, a, b, e, g, dk, dn, dm, ds, dl⟩ ⟨hcr, hsl⟩
    simp only at hcr hsl ⊢
    refine Ex.bind (P := fun o => o = !(decide ((c.kids.length : Int) = m) && sameC c ⟨c.kind, a, b, e, g, ⟨dk, dn, dm, ds, dl⟩, c.kids⟩)) ?_ ?_
    · by_cases hm : (c.kids.length : Int) = m
      · refine .neg (fun h => h hm) (.bv (isc_evt _ _) (.pure ?_))
        rw [decide_eq_true hm, Bool.true_and]
      · refine .pos hm (.pure ?_)
        rw [decide_eq_false hm]; rfl
    · rintro o rfl
      rw [← Bool.and_assoc] at hcr
      cases hq : (decide ((c.kids.length : Int) = m) && sameC c ⟨c.kind, a, b, e, g, ⟨dk, dn, dm, ds, dl⟩, c.kids⟩) with
      | false =>
        rw [hq, Bool.false_and] at hcr
        exact .pos rfl (.pure ⟨⟨fun h => (by cases h), fun h' => by rw [hcr] at h'; cases h'.1⟩, fun h => (by cases h)⟩)
      | true =>
        rw [hq, Bool.true_and] at hcr
        refine .neg (by simp) ?_
        have e2 : w64 (((121 - (d + 1) : Nat) : Int) + 1) = ((121 - d : Nat) : Int) := by rw [w_id (by omega) (by omega)]; omega
        rw [e2]
        refine Ex.seqS (P := fun o => match o with
          | .inl w => w.1 = false ∧ ¬ (c.kids.all (crB d s) = true ∧ cCs c.kids ≤ L - 1)
          | .inr t => c.kids.all (crB d s) = true ∧ cCs c.kids ≤ L - 1 ∧ t = ((L - 1 - cCs c.kids : Nat) : Int)) ?_ ?_ ?_
        · refine Ex.forI (I := fun i q t => ∃ u : Nat, t = (u : Int) ∧ u ≤ 600 ∧ (c.kids.all (crB d s) = true ∧ cCs c.kids ≤ L - 1 ↔ q.all (crB d s) = true ∧ cCs q ≤ u) ∧ u + cCs c.kids = L - 1 + cCs q ∧ ∀ x ∈ q, x ∈ c.kids) ?_ ?_ ?_
          · exact ⟨L - 1, by omega, by omega, Iff.rfl, rfl, fun _ h => h⟩
          · rintro i x q t ⟨u, rfl, hu, hiff, hsum, hmem⟩
            have hx := hmem x (List.mem_cons_self)
            refine Ex.bind (ico_ex x d (by omega) s (by have := wCs_mem hx; omega) u hu) ?_
            rintro ⟨b, s'⟩ ⟨r1, r2⟩
            simp only at r1 r2
            cases b with
            | false =>
              refine .pos rfl (.fo ⟨rfl, fun h => ?_⟩)
              have h' := hiff.1 h
              simp only [List.all_cons, Bool.and_eq_true, cCs] at h'
              have := r1.2 ⟨h'.1.1, by omega⟩
              cases this
            | true =>
              obtain ⟨q1, q2⟩ := r1.1 rfl
              refine .neg (by simp) (.fg ⟨u - cC x, r2 rfl, by omega, ?_, by simp only [cCs] at hsum; omega, fun y hy => hmem y (List.mem_cons_of_mem _ hy)⟩)
              rw [hiff]
              simp only [List.all_cons, Bool.and_eq_true, cCs, q1, true_and]
              constructor <;> intro h <;> exact ⟨h.1, by omega⟩
          · rintro t ⟨u, rfl, hu, hiff, hsum, _⟩
            have h := hiff.2 ⟨rfl, by simp [cCs]⟩
            simp only [cCs] at hsum
            exact ⟨h.1, h.2, by omega⟩
        · rintro ⟨b, t⟩ ⟨h1, h2⟩
          simp only at h1
          subst h1
          refine ⟨⟨fun h => (by cases h), fun h => absurd ⟨hcr ▸ h.1, by omega⟩ h2⟩, fun h => (by cases h)⟩
        · rintro t ⟨h1, h2, h3⟩
          exact .pure ⟨⟨fun _ => ⟨hcr.trans h1, by omega⟩, fun _ => rfl⟩, fun _ => by simp only; omega⟩
termination_by SizeOf.sizeOf c
decreasing_by exact szC_lt hx
theorem icv_evt (c : Core) (hw : wC c ≤ 1073741824) : Evt (fun n => im_CoreValid n c) (validC c) := by
  refine Ex.evt ?_
  unfold im_CoreValid
  refine Ex.bind (ico_ex c 120 (by omega) [] (by simp; omega) 600 (by omega)) ?_
  rintro ⟨b, s⟩ ⟨r1, _⟩
  refine .pure ?_
  simp only at r1 ⊢
  unfold validC
  rw [Bool.eq_iff_iff, r1]
  simp
theorem exPick {a : Int} {r : L15Rd} {B : Int} (h : Gd r B) (hB : 1 ≤ B) : Ex (fun n => sp_l15Rd_pick n a r) (fun k => Sp r k.2 1 ∧ (1 ≤ a → 0 ≤ k.1 ∧ k.1 < a)) := by
  obtain ⟨v, r', h1, h2, h3⟩ := pick_ev (a := a) h hB
  exact ⟨(v, r'), h1, h2, h3⟩
theorem exNum {l : List Int} {r : L15Rd} {B : Int} (hl : 1 ≤ l.length) (h : Gd r B) (hB : 1 ≤ B) : Ex (fun n => sp_l15Rd_num n l r) (fun k => Sp r k.2 1 ∧ k.1 ∈ l) := by
  obtain ⟨v, r', h1, h2, h3⟩ := num_ev hl h hB
  exact ⟨(v, r'), h1, h2, h3⟩
theorem exOf {l : List (List UInt8)} {r : L15Rd} {B : Int} (hl : 1 ≤ l.length) (h : Gd r B) (hB : 1 ≤ B) : Ex (fun n => sp_l15Rd_of n l r) (fun k => Sp r k.2 1 ∧ k.1 ∈ l) := by
  obtain ⟨v, r', h1, h2, h3⟩ := num_ev hl h hB
  exact ⟨(v, r'), h1, h2, h3⟩
theorem exOpen (b : List UInt8) : Ex (fun n => sp_l15Open n b) (fun r => Gd r 1000000000) := by
  unfold sp_l15Open
  by_cases h : (b.length : Int) > 2000
  · have hs : slI b 0 2000 = some (b.take 2000) := by
      unfold slI
      rw [if_pos ⟨by omega, by omega, by omega⟩]; simp
    refine Ex.bind (P := fun o => o.length ≤ 2000) (.pos h (.bp _ hs (.pure (by simp; omega)))) ?_
    intro o ho
    exact .pure ⟨by show (0 : Int) ≤ 0; omega, by show (0 : Int) + 1000000000 ≤ _; omega, ho⟩
  · refine Ex.bind (P := fun o => o.length ≤ 2000) (.neg h (.pure (by omega))) ?_
    intro o ho
    exact .pure ⟨by show (0 : Int) ≤ 0; omega, by show (0 : Int) + 1000000000 ≤ _; omega, ho⟩
/-- How many picks a drawn form takes. -/
def bF : Nat → Int
  | 0 => 3
  | d + 1 => 3 + 3 * bF d
theorem bF_pos : ∀ d, 3 ≤ bF d
  | 0 => by simp [bF]
  | d + 1 => by have := bF_pos d; simp only [bF]; omega
/-- What a drawn form is like. -/
def drawnF : Nat → Form → Prop
  | 0, f => (f.kind = 1 ∧ f.n = 0 ∧ f.scopes = [] ∧ f.kids = [] ∧ f.name ∈ ([[97], [98], [120], [121], [102], [105, 102], [108, 101, 116], [43]] : List (List UInt8))) ∨ (f.kind = 2 ∧ f.name = [] ∧ f.scopes = [] ∧ f.kids = [] ∧ f.n ∈ ([0, 1, 2, 7, 42, 999] : List Int))
  | d + 1, f => ((f.kind = 1 ∧ f.n = 0 ∧ f.scopes = [] ∧ f.kids = [] ∧ f.name ∈ ([[97], [98], [120], [121], [102], [105, 102], [108, 101, 116], [43]] : List (List UInt8))) ∨ (f.kind = 2 ∧ f.name = [] ∧ f.scopes = [] ∧ f.kids = [] ∧ f.n ∈ ([0, 1, 2, 7, 42, 999] : List Int))) ∨ (f.kind = 3 ∧ f.name = [] ∧ f.n = 0 ∧ f.scopes = [] ∧ f.kids.length ≤ 3 ∧ ∀ x ∈ f.kids, drawnF d x)
theorem drawnF_leaf {d : Nat} {f : Form} (h : drawnF 0 f) : drawnF d f := by
  cases d with
  | zero => exact h
  | succ d => exact .inl h
theorem exLeafF {r : L15Rd} (h : Gd r 2) : Ex (fun n => (sp_l15Rd_pick n 4 r).bind fun k3 => (if k3.1 = 0 then (sp_l15Rd_num n [0, 1, 2, 7, 42, 999] k3.2).bind fun k5 => some ((⟨2, [], k5.1, [], []⟩ : Form), k5.2) else (sp_l15Rd_of n [[97], [98], [120], [121], [102], [105, 102], [108, 101, 116], [43]] k3.2).bind fun k6 => (sp_l1Name n k6.1).bind fun k7 => some (k7, k6.2))) (fun k => Sp r k.2 2 ∧ drawnF 0 k.1) := by
  refine .bind (exPick h (by omega)) fun k3 ⟨s1, _⟩ => ?_
  refine .ite (fun _ => ?_) (fun _ => ?_)
  · refine .bind (exNum (by simp) (h.to s1 (D := 1) (by omega)) (by omega)) fun k5 ⟨s2, hm⟩ => .pure ⟨s1.trans s2 (by omega), .inr ⟨rfl, rfl, rfl, rfl, hm⟩⟩
  · refine .bind (exOf (by simp) (h.to s1 (D := 1) (by omega)) (by omega)) fun k6 ⟨s2, hm⟩ => ?_
    unfold sp_l1Name
    exact .pure ⟨s1.trans s2 (by omega), .inl ⟨rfl, rfl, rfl, rfl, hm⟩⟩
theorem exSomeF : ∀ (d : Nat), d ≤ 10 → ∀ (r : L15Rd), Gd r (bF d) → Ex (fun n => sp_l1Some n (d : Int) r) (fun k => Sp r k.2 (bF d) ∧ drawnF d k.1) := by
  intro d
  induction d with
  | zero =>
    intro _ r h
    have h : Gd r 3 := h
    refine .succ ?_
    simp only [sp_l1Some]
    refine Ex.bind (P := fun o => o = (true, r)) (.pos rfl (.pure rfl)) ?_
    rintro o rfl
    exact .pos rfl ((exLeafF (h.to (.refl (Int.le_refl 0)) (D := 2) (by omega))).mono fun k ⟨a, b⟩ => ⟨a.mono (by simp [bF]), b⟩)
  | succ d ih =>
    intro hd r h
    have ih := ih (by omega)
    have hB := bF_pos d
    have h : Gd r (3 + 3 * bF d) := h
    refine .succ ?_
    simp only [sp_l1Some]
    refine Ex.bind (P := fun o => Sp r o.2 1) (.neg (by omega) (.bind (exPick h (by omega)) fun k15 ⟨s1, _⟩ => .pure s1)) ?_
    rintro ⟨b, r1⟩ s1
    have g1 : Gd r1 (2 + 3 * bF d) := h.to s1 (by omega)
    refine .ite (fun _ => ?_) (fun _ => ?_)
    · exact (exLeafF (g1.to (.refl (Int.le_refl 0)) (D := 2) (by omega))).mono fun k ⟨a, b⟩ => ⟨s1.trans a (by simp only [bF]; omega), drawnF_leaf b⟩
    · refine .bind (exPick g1 (by omega)) fun k8 ⟨s2, hc⟩ => ?_
      obtain ⟨hc0, hc1⟩ := hc (by omega)
      obtain ⟨c, r2⟩ := k8
      simp only at s2 hc0 hc1 ⊢
      have g2 : Gd r2 (3 * bF d) := g1.to s2 (by omega)
      have e1 : w64 (((d + 1 : Nat) : Int) - 1) = (d : Int) := by rw [w_id (by omega) (by omega)]; omega
      rw [e1]
      refine Ex.iter (fun s => s.1.toNat) (fun s => ∃ j : Nat, (j : Int) ≤ c ∧ s.1 = c - j ∧ Sp r2 ⟨s.2.2.1, s.2.2.2⟩ (j * bF d) ∧ s.2.1.length = j ∧ ∀ x ∈ s.2.1, drawnF d x) _ ⟨0, by omega, by simp, by simpa using (Sp.refl (r := r2) (Int.le_refl 0)), rfl, by simp⟩ ?_
      rintro ⟨cnt, l, b, p⟩ ⟨j, j0, j1, j2, j3, j4⟩
      simp only at j1 j2 j3 j4 ⊢
      have hj : j = 0 ∨ j = 1 ∨ j = 2 ∨ j = 3 := by omega
      refine .ite (fun hp => ?_) (fun hp => ?_)
      · have gj : Gd ⟨b, p⟩ (bF d) := g2.to j2 (by rcases hj with rfl | rfl | rfl | rfl <;> simp <;> omega)
        refine .bind (ih _ gj) fun k12 ⟨k2, k3⟩ => ?_
        have e2 : w64 (cnt - 1) = cnt - 1 := w_id (by omega) (by omega)
        rw [e2]
        refine .bp _ (apB_ok (by simp; omega)) (Ex.pure ⟨fun _ e => (by cases e), fun s' e => ?_⟩)
        cases e
        refine ⟨⟨j + 1, by omega, by simp only; omega, ?_, by simp; omega, ?_⟩, by simp only; omega⟩
        · refine j2.trans (D := ((j + 1 : Nat) : Int) * bF d) k2 ?_
          rcases hj with rfl | rfl | rfl | rfl <;> simp <;> omega
        · intro x hx
          rcases List.mem_append.1 hx with h | h
          · exact j4 x h
          · rw [List.mem_singleton.1 h]; exact k3
      · refine Ex.pure ⟨fun w e => ?_, fun s' e => (by cases e)⟩
        cases e
        refine ⟨?_, .inr ⟨rfl, rfl, rfl, rfl, by simp only; omega, j4⟩⟩
        refine s1.trans (s2.trans (j2.mono (C := 3 * bF d) ?_) (D := 1 + 3 * bF d) (by omega)) (by simp only [bF]; omega)
        rcases hj with rfl | rfl | rfl | rfl <;> simp <;> omega
def wD : Nat → Nat
  | 0 => 3
  | d + 1 => 6 + 3 * wD d
theorem wD_pos : ∀ d, 3 ≤ wD d
  | 0 => by simp [wD]
  | d + 1 => by simp only [wD]; omega
theorem wFs_le {w : Nat} : ∀ {l : List Form}, (∀ x ∈ l, wF x ≤ w) → wFs l ≤ l.length * w
  | [], _ => by simp [wFs]
  | x :: r, h => by
    have h1 := h x (List.mem_cons_self)
    have h2 := wFs_le (l := r) (fun y hy => h y (List.mem_cons_of_mem _ hy))
    simp only [wFs, List.length_cons, Nat.succ_mul]; omega
theorem drawnF0_w {f : Form} (h : drawnF 0 f) : wF f ≤ 3 := by
  have hw := wF_eq f
  rcases h with ⟨h1, h2, h3, h4, h5⟩ | ⟨h1, h2, h3, h4, h5⟩
  · rw [h3, h4] at hw
    simp only [List.length_nil, wFs, Nat.add_zero] at hw
    simp only [List.mem_cons, List.not_mem_nil, or_false] at h5
    rcases h5 with h | h | h | h | h | h | h | h <;> rw [h] at hw <;> simp at hw <;> omega
  · rw [h2, h3, h4] at hw
    simp [wFs] at hw; omega
theorem drawnF_w : ∀ (d : Nat) {f : Form}, drawnF d f → wF f ≤ wD d
  | 0, f, h => drawnF0_w h
  | d + 1, f, h => by
    rcases h with h | ⟨h1, h2, h3, h4, h5, h6⟩
    · have := drawnF0_w (f := f) h
      simp only [wD]; omega
    · have hw := wF_eq f
      have := wFs_le (fun x hx => drawnF_w d (h6 x hx))
      have : f.kids.length * wD d ≤ 3 * wD d := Nat.mul_le_mul_right _ h5
      rw [h2, h4] at hw
      simp only [List.length_nil] at hw
      simp only [wD]; omega
/-- A leaf of a drawn core program. -/
def leafC (sc : List Int) (c : Core) : Prop :=
  (∃ i, i ∈ sc ∧ c = ⟨1, i, [], 0, [], ⟨0, [], 0, [], []⟩, []⟩) ∨ (∃ f, drawnF 1 f ∧ c = ⟨4, 0, [], 0, [], f, []⟩) ∨ (∃ s, s ∈ ([[102], [43], [108, 105, 115, 116]] : List (List UInt8)) ∧ c = ⟨2, 0, s, 0, [], ⟨0, [], 0, [], []⟩, []⟩) ∨ (∃ i, i ∈ ([0, 1, 5, 42] : List Int) ∧ c = ⟨3, 0, [], i, [], ⟨0, [], 0, [], []⟩, []⟩)
theorem leafC_w {sc : List Int} {c : Core} (h : leafC sc c) : wC c ≤ 20 := by
  rcases h with ⟨i, _, rfl⟩ | ⟨f, hf, rfl⟩ | ⟨s, hs, rfl⟩ | ⟨i, _, rfl⟩
  · simp [wC, wCs, wF, wFs]
  · have := drawnF_w 1 hf
    simp only [wD] at this
    simp only [wC, wCs, List.length_nil]; omega
  · simp only [List.mem_cons, List.not_mem_nil, or_false] at hs
    rcases hs with rfl | rfl | rfl <;> simp [wC, wCs, wF, wFs]
  · simp [wC, wCs, wF, wFs]
theorem leafC_kids {sc : List Int} {c : Core} (h : leafC sc c) : c.kids = [] := by
  rcases h with ⟨i, _, rfl⟩ | ⟨f, hf, rfl⟩ | ⟨s, hs, rfl⟩ | ⟨i, _, rfl⟩ <;> rfl
theorem exLeafC {a1 : List Int} {a3 : Int} {r : L15Rd} (h : Gd r 19) : Ex (fun n => Option.bind ((if (a1.length : Int) > 0 then (sp_l15Rd_pick n 3 r).bind fun k15 => some ((decide (k15.1 > 0)), k15.2) else some (false, r)) : Option (Bool × L15Rd)) (fun (o3 : Bool × L15Rd) => (if o3.1 = true then (sp_l15Rd_pick n (a1.length : Int) o3.2).bind fun k5 => (atI a1 k5.1).bind fun e6 => some ((⟨1, e6, [], 0, [], (⟨0, [], 0, [], []⟩ : Form), []⟩ : Core), a3, k5.2) else (sp_l15Rd_pick n 4 o3.2).bind fun k8 => (if k8.1 = 0 then (sp_l1Some n 1 k8.2).bind fun k10 => some ((⟨4, 0, [], 0, [], k10.1, []⟩ : Core), a3, k10.2) else (if k8.1 = 1 then (sp_l15Rd_of n [[102], [43], [108, 105, 115, 116]] k8.2).bind fun k12 => some ((⟨2, 0, k12.1, 0, [], (⟨0, [], 0, [], []⟩ : Form), []⟩ : Core), a3, k12.2) else (sp_l15Rd_num n [0, 1, 5, 42] k8.2).bind fun k13 => some ((⟨3, 0, [], k13.1, [], (⟨0, [], 0, [], []⟩ : Form), []⟩ : Core), a3, k13.2)))))) (fun k => Sp r k.2.2 19 ∧ leafC a1 k.1) := by
  refine Ex.bind (P := fun o => Sp r o.2 1 ∧ (o.1 = true → 1 ≤ a1.length)) ?_ ?_
  · refine .ite (fun hl => .bind (exPick h (by omega)) fun k15 ⟨s1, _⟩ => .pure ⟨s1, fun _ => by omega⟩) (fun hl => .pure ⟨.refl (by omega), fun h => by cases h⟩)
  rintro ⟨b0, r1⟩ ⟨s1, hb⟩
  simp only at s1 hb ⊢
  have g1 : Gd r1 18 := h.to s1 (by omega)
  refine .ite (fun hb0 => ?_) (fun _ => ?_)
  · have hl := hb hb0
    refine .bind (exPick g1 (by omega)) fun k5 ⟨s2, hv⟩ => ?_
    obtain ⟨v0, v1⟩ := hv (by omega)
    obtain ⟨x, hx, hm⟩ := elem_ok v0 v1
    exact .bp x hx (.pure ⟨(s1.trans s2 (D := 2) (by omega)).mono (by omega), .inl ⟨x, hm, rfl⟩⟩)
  · refine .bind (exPick g1 (by omega)) fun k8 ⟨s2, _⟩ => ?_
    have g2 : Gd k8.2 17 := g1.to s2 (by omega)
    refine .ite (fun _ => ?_) (fun _ => .ite (fun _ => ?_) (fun _ => ?_))
    · have e34 : bF 1 = 12 := by simp [bF]
      refine .bind (exSomeF 1 (by omega) k8.2 (by rw [e34]; exact ⟨g2.1, by have := g2.2.1; omega, g2.2.2⟩)) fun k10 ⟨s3, hf⟩ => ?_
      rw [e34] at s3
      exact .pure ⟨(s1.trans (s2.trans s3 (D := 13) (by omega)) (D := 14) (by omega)).mono (by omega), .inr (.inl ⟨_, hf, rfl⟩)⟩
    · refine .bind (exOf (by simp) g2 (by omega)) fun k12 ⟨s3, hm⟩ => .pure ⟨(s1.trans (s2.trans s3 (D := 2) (by omega)) (D := 3) (by omega)).mono (by omega), .inr (.inr (.inl ⟨_, hm, rfl⟩))⟩
    · refine .bind (exNum (by simp) g2 (by omega)) fun k13 ⟨s3, hm⟩ => .pure ⟨(s1.trans (s2.trans s3 (D := 2) (by omega)) (D := 3) (by omega)).mono (by omega), .inr (.inr (.inr ⟨_, hm, rfl⟩))⟩
def bC : Nat → Int
  | 0 => 20
  | d + 1 => 24 + 3 * bC d
def wDC : Nat → Nat
  | 0 => 20
  | d + 1 => 20 + 3 * wDC d
theorem bC_pos : ∀ d, 20 ≤ bC d
  | 0 => by simp [bC]
  | d + 1 => by have := bC_pos d; simp only [bC]; omega
theorem wDC_pos : ∀ d, 20 ≤ wDC d
  | 0 => by simp [wDC]
  | d + 1 => by simp only [wDC]; omega
theorem wCs_le {w : Nat} : ∀ {l : List Core}, (∀ x ∈ l, wC x ≤ w) → wCs l ≤ l.length * w
  | [], _ => by simp [wCs]
  | x :: r, h => by
    have h1 := h x (List.mem_cons_self)
    have h2 := wCs_le (l := r) (fun y hy => h y (List.mem_cons_of_mem _ hy))
    simp only [wCs, List.length_cons, Nat.succ_mul]; omega
theorem exSomeC : ∀ (d : Nat), d ≤ 10 → ∀ (sc : List Int) (last : Int) (r : L15Rd), sc.length ≤ 1000000 - 2 * d → Gd r (bC d) → Ex (fun n => sp_l6Some n sc (d : Int) last r) (fun k => Sp r k.2.2 (bC d) ∧ wC k.1 ≤ wDC d ∧ (leafC sc k.1 ∨ k.1.kids ≠ [])) := by
  intro d
  induction d with
  | zero =>
    intro _ sc last r hl h
    have h : Gd r 20 := h
    refine .succ ?_
    simp only [sp_l6Some]
    refine Ex.bind (P := fun o => o = (true, r)) (.pos rfl (.pure rfl)) ?_
    rintro o rfl
    exact .pos rfl ((exLeafC (h.to (.refl (Int.le_refl 0)) (D := 19) (by omega))).mono fun k ⟨a, b⟩ => ⟨a.mono (by simp [bC]), leafC_w b, .inl b⟩)
  | succ d ih =>
    intro hd sc last r hl h
    have ih := ih (by omega)
    have hB := bC_pos d
    have hW := wDC_pos d
    have h : Gd r (24 + 3 * bC d) := h
    refine .succ ?_
    simp only [sp_l6Some]
    refine Ex.bind (P := fun o => Sp r o.2 1) (.neg (by omega) (.bind (exPick h (by omega)) fun k15 ⟨s1, _⟩ => .pure s1)) ?_
    rintro ⟨b, r1⟩ s1
    have g1 : Gd r1 (23 + 3 * bC d) := h.to s1 (by omega)
    refine .ite (fun _ => ?_) (fun _ => ?_)
    · exact (exLeafC (g1.to (.refl (Int.le_refl 0)) (D := 19) (by omega))).mono fun k ⟨a, b⟩ => ⟨s1.trans a (by simp only [bC]; omega), by have := leafC_w b; simp only [wDC]; omega, .inl b⟩
    · refine .bind (exNum (by simp) g1 (by omega)) fun k18 ⟨s2, hk⟩ => ?_
      obtain ⟨kd, r2⟩ := k18
      simp only at s2 hk ⊢
      have g2 : Gd r2 (22 + 3 * bC d) := g1.to s2 (by omega)
      refine Ex.bind (P := fun o => Sp r2 ⟨o.2.2.2.2.1, o.2.2.2.2.2⟩ 3 ∧ o.1.length ≤ sc.length + 2 ∧ 1 ≤ o.2.2.1 ∧ o.2.2.1 ≤ 3 ∧ o.2.2.2.1.length ≤ 2) ?_ ?_
      · refine .ite (fun _ => ?_) (fun _ => .ite (fun _ => ?_) (fun _ => ?_))
        · refine .bind (exNum (by simp) g2 (by omega)) fun k26 ⟨s3, hm⟩ => ?_
          obtain ⟨c, r3⟩ := k26
          simp only at s3 hm ⊢
          have hc : 0 ≤ c ∧ c ≤ 2 := by
            simp only [List.mem_cons, List.not_mem_nil, or_false] at hm
            rcases hm with rfl | rfl | rfl <;> simp
          have g3 : Gd r3 2 := g2.to s3 (by omega)
          refine Ex.iter (fun s => s.2.2.1.toNat) (fun s => ∃ j : Nat, (j : Int) ≤ c ∧ s.2.2.1 = c - j ∧ Sp r3 ⟨s.2.2.2.2.1, s.2.2.2.2.2⟩ j ∧ s.2.2.2.1.length = j ∧ s.1.length = sc.length + j) _ ⟨0, by omega, by simp, by simpa using (Sp.refl (r := r3) (Int.le_refl 0)), rfl, rfl⟩ ?_
          rintro ⟨l, ct, cnt, nl, b, p⟩ ⟨j, j0, j1, j2, j3, j4⟩
          simp only at j1 j2 j3 j4 ⊢
          refine .ite (fun hp => ?_) (fun hp => ?_)
          · refine .bind (exNum (B := 1) (by simp) (g3.to j2 (by omega)) (by omega)) fun k30 ⟨s4, _⟩ => ?_
            have e2 : w64 (cnt - 1) = cnt - 1 := w_id (by omega) (by omega)
            rw [e2]
            refine .bp _ (apB_ok (by simp; omega)) (.bp _ (apB_nil (by omega)) (.bp _ (apB_ok (by simp; omega)) (Ex.pure ⟨fun _ e => (by cases e), fun s' e => ?_⟩)))
            cases e
            exact ⟨⟨j + 1, by omega, by simp only; omega, j2.trans s4 (by omega), by simp; omega, by simp; omega⟩, by simp only; omega⟩
          · refine Ex.pure ⟨fun w e => ?_, fun s' e => (by cases e)⟩
            cases e
            exact ⟨s3.trans (j2.mono (C := 2) (by omega)) (by omega), by simp only; omega, by simp, by simp, by simp only; omega⟩
        · refine .bind (exNum (by simp) g2 (by omega)) fun k35 ⟨s3, hm⟩ => ?_
          have hc : 1 ≤ k35.1 ∧ k35.1 ≤ 3 := by
            have hm := hm
            simp only [List.mem_cons, List.not_mem_nil, or_false] at hm
            rcases hm with h | h | h <;> rw [h] <;> simp
          exact .pure ⟨s3.mono (by omega), by simp, hc.1, hc.2, by simp⟩
        · exact .pure ⟨.refl (by omega), by simp, by simp, by simp, by simp⟩
      · rintro ⟨l2, ct2, c, nl, b3, p3⟩ ⟨s3, hl2, hc1, hc3, hnl⟩
        simp only at s3 hl2 hc1 hc3 hnl ⊢
        have g3 : Gd ⟨b3, p3⟩ (3 * bC d) := g2.to s3 (by omega)
        have e1 : w64 (((d + 1 : Nat) : Int) - 1) = (d : Int) := by rw [w_id (by omega) (by omega)]; omega
        rw [e1]
        refine Ex.iter (fun s => (c - s.2.1).toNat) (fun s => ∃ j : Nat, (j : Int) ≤ c ∧ s.2.1 = (j : Int) ∧ Sp ⟨b3, p3⟩ ⟨s.2.2.2.1, s.2.2.2.2⟩ (j * bC d) ∧ s.2.2.1.length = j ∧ ∀ x ∈ s.2.2.1, wC x ≤ wDC d) _ ⟨0, by omega, by simp, by simpa using (Sp.refl (r := ⟨b3, p3⟩) (Int.le_refl 0)), rfl, by simp⟩ ?_
        rintro ⟨ct, cnt, l, b, p⟩ ⟨j, j0, j1, j2, j3, j4⟩
        simp only at j1 j2 j3 j4 ⊢
        have hj : j = 0 ∨ j = 1 ∨ j = 2 ∨ j = 3 := by omega
        refine .ite (fun hp => ?_) (fun hp => ?_)
        · have gj : Gd ⟨b, p⟩ (bC d) := g3.to j2 (by rcases hj with rfl | rfl | rfl | rfl <;> simp <;> omega)
          refine .bind (ih l2 ct _ (by omega) gj) fun k23 ⟨k2, k3, _⟩ => ?_
          have e2 : w64 (cnt + 1) = cnt + 1 := w_id (by omega) (by omega)
          rw [e2]
          refine .bp _ (apB_ok (by simp; omega)) (Ex.pure ⟨fun _ e => (by cases e), fun s' e => ?_⟩)
          cases e
          refine ⟨⟨j + 1, by omega, by simp only; omega, ?_, by simp; omega, ?_⟩, by simp only; omega⟩
          · refine j2.trans (D := ((j + 1 : Nat) : Int) * bC d) k2 ?_
            rcases hj with rfl | rfl | rfl | rfl <;> simp <;> omega
          · intro x hx
            rcases List.mem_append.1 hx with h | h
            · exact j4 x h
            · rw [List.mem_singleton.1 h]; exact k3
        · refine Ex.pure ⟨fun w e => ?_, fun s' e => (by cases e)⟩
          cases e
          have hjc : (j : Int) = c := by omega
          refine ⟨?_, ?_, .inr ?_⟩
          · refine s1.trans (s2.trans (s3.trans (j2.mono (C := 3 * bC d) ?_) (D := 3 + 3 * bC d) (by omega)) (D := 4 + 3 * bC d) (by omega)) (by simp only [bC]; omega)
            rcases hj with rfl | rfl | rfl | rfl <;> simp <;> omega
          · have := wCs_le j4
            have : l.length * wDC d ≤ 3 * wDC d := Nat.mul_le_mul_right _ (by omega)
            simp only [wC, wF, wFs, wDC, List.length_nil]; omega
          · intro e
            simp only at e
            rw [e] at j3
            simp at j3; omega
theorem exDrawCoreAtom (b : List UInt8) : Ex (fun n => sp_DrawCoreAtom n b) (fun c => wC c ≤ 1000 ∧ (leafC [1] c ∨ c.kids ≠ [])) := by
  unfold sp_DrawCoreAtom
  refine .bind (exOpen b) fun r g1 => ?_
  refine .bind (exNum (by simp) g1 (by omega)) fun k2 ⟨s2, hm⟩ => ?_
  have g2 : Gd k2.2 900000000 := g1.to s2 (by omega)
  obtain ⟨d, hd, hk⟩ : ∃ d : Nat, d ≤ 1 ∧ k2.1 = (d : Int) := by
    simp only [List.mem_cons, List.not_mem_nil, or_false] at hm
    rcases hm with h | h | h
    · exact ⟨0, by omega, h⟩
    · exact ⟨0, by omega, h⟩
    · exact ⟨1, by omega, h⟩
  rw [hk]
  have hB : bC d ≤ 1000 ∧ wDC d ≤ 1000 := by
    have : d = 0 ∨ d = 1 := by omega
    rcases this with rfl | rfl <;> simp [bC, wDC]
  refine .bind (exSomeC d (by omega) [1] 1 k2.2 (by simp; omega) (g2.to (.refl (Int.le_refl 0)) (by omega))) fun k3 ⟨s3, w3, h3⟩ => .pure ⟨by omega, h3⟩
def primB (s : List UInt8) : Bool := decide (s ∈ lp0)
def atomB (c : Core) : Bool := decide (c.kids.length = 0) && (decide (c.kind = 1) || (decide (c.kind = 3) || (decide (c.kind = 4) || (decide (c.kind = 2) && primB c.name))))
theorem cont_eq (n : Nat) (l : List (List UInt8)) (x : List UInt8) : slices_Contains_string n l x = some (decide (x ∈ l)) := by
  unfold slices_Contains_string slices_Index_string
  have main : ∀ (l : List (List UInt8)) (i : Nat), ∃ k : Int, seqS (Mx.forI (fun (_ : Unit) (i : Nat) (y : List UInt8) => ((if x = y then some (Sum.inl (i : Int)) else some (Sum.inr ())) : Option (Int ⊕ Unit))) i l ()) (fun _ => some (-1)) = some k ∧ (k ≥ 0 ↔ x ∈ l) := by
    intro l
    induction l with
    | nil => intro i; exact ⟨-1, rfl, by simp⟩
    | cons y r ih =>
      intro i
      by_cases h : x = y
      · subst h
        exact ⟨(i : Int), by simp [Mx.forI, Mx.seqS], by simp⟩
      · obtain ⟨k, h1, h2⟩ := ih (i + 1)
        refine ⟨k, ?_, by rw [h2]; simp [h]⟩
        rw [← h1]
        simp [Mx.forI, h]
  obtain ⟨k, h1, h2⟩ := main l 0
  rw [h1, Option.bind_some]
  congr 1
  rw [Bool.eq_iff_iff, decide_eq_true_eq, decide_eq_true_eq]; exact h2
theorem sin_eq (n : Nat) (l : List (List UInt8)) (x : List UInt8) : sp_l1In n l x = some (decide (x ∈ l)) := by
  unfold sp_l1In
  have := scanI (step := fun (_ : Unit) (_ : Nat) (y : List UInt8) => ((if y = x then some (Sum.inl true) else some (Sum.inr ())) : Option (Bool ⊕ Unit))) (p := fun y => !decide (y = x)) (no := true) (f := fun _ => some false) (xs := l) (i := 0) (fun i y _ => by by_cases h : y = x <;> simp [h])
  rw [this]
  by_cases h : x ∈ l
  · rw [if_neg]
    · simp [h]
    · intro hall
      rw [List.all_eq_true] at hall
      have := hall x h
      simp at this
  · rw [if_pos]
    · simp [h]
    · rw [List.all_eq_true]
      intro y hy
      have : ¬ y = x := fun e => h (e ▸ hy)
      simp [this]
theorem iat_eq (n : Nat) (c : Core) : im_CoreAtom n c = some (atomB c) := by
  unfold im_CoreAtom im_isPrimitive atomB primB
  simp only [cont_eq, Option.bind_some]
  by_cases h0 : c.kids.length = 0
  · rw [if_pos (by omega), decide_eq_true h0]
    by_cases h1 : c.kind = 1
    · simp [h1]
    by_cases h3 : c.kind = 3
    · simp [h3]
    by_cases h4 : c.kind = 4
    · simp [h4]
    by_cases h2 : c.kind = 2
    · simp [h2]
    · simp [h1, h2, h3, h4]
  · rw [if_neg (by omega), decide_eq_false h0]; rfl
theorem sat_eq (n : Nat) (c : Core) : sp_CoreAtom n c = some (atomB c) := by
  unfold sp_CoreAtom sp_l13Atom sp_l8Prims atomB primB
  simp only [sin_eq, Option.bind_some]
  by_cases h0 : c.kids.length = 0
  · rw [if_pos (by omega), decide_eq_true h0]
    by_cases h1 : c.kind = 1
    · simp [h1]
    by_cases h3 : c.kind = 3
    · simp [h3]
    by_cases h4 : c.kind = 4
    · simp [h4]
    by_cases h2 : c.kind = 2
    · simp only [h2, show ¬ ((2 : Int) = 1) by decide, show ¬ ((2 : Int) = 3) by decide, show ¬ ((2 : Int) = 4) by decide, if_false, if_true, decide_false, decide_true, Bool.false_or, Bool.true_and, Option.bind_some]
      congr 1
      simp only [decide_eq_decide, lp0, List.mem_cons, List.not_mem_nil, or_false]
      constructor
      · rintro (h | h | h | h | h | h) <;> simp [h]
      · rintro (h | h | h | h | h | h) <;> simp [h]
    · simp [h1, h2, h3, h4]
  · rw [if_neg (by omega), decide_eq_false h0]; rfl
def zC : Core := ⟨0, 0, [], 0, [], ⟨0, [], 0, [], []⟩, []⟩
mutual
def dvF : Form → Value
  | ⟨k, nm, n, sc, kids⟩ => if k = 2 then ⟨1, n, [], [], zC, []⟩ else if k = 1 then ⟨2, 0, nm, [], zC, []⟩ else ⟨3, 0, [], dvFs kids, zC, []⟩
def dvFs : List Form → List Value
  | [] => []
  | x :: r => dvF x :: dvFs r
end
theorem dvF_eq (f : Form) : dvF f = if f.kind = 2 then ⟨1, f.n, [], [], zC, []⟩ else if f.kind = 1 then ⟨2, 0, f.name, [], zC, []⟩ else ⟨3, 0, [], dvFs f.kids, zC, []⟩ := by cases f; simp only [dvF]
theorem dvFs_map : ∀ l : List Form, dvFs l = l.map dvF
  | [] => rfl
  | x :: r => by simp only [dvFs, List.map_cons, dvFs_map r]
theorem idv_evt (f : Form) (hw : wF f ≤ 100000) : Evt (fun n => im_dataValue n f) (dvF f) := by
  have he := wF_eq f
  refine .succ ?_
  simp only [im_dataValue]
  rw [dvF_eq]
  refine Ex.evt ?_
  by_cases h2 : f.kind = 2
  · rw [if_pos h2]; exact .pos h2 (.pure rfl)
  rw [if_neg h2]
  refine .neg h2 ?_
  by_cases h1 : f.kind = 1
  · rw [if_pos h1]; exact .pos h1 (.pure rfl)
  rw [if_neg h1]
  refine .neg h1 ?_
  rw [dvFs_map]
  refine Ex.bind (P := fun s => s = f.kids.map dvF) ?_ (fun s hs => .pure (by rw [hs]; rfl))
  refine Ex.forL (I := fun i q s => s = (f.kids.take i).map dvF ∧ f.kids.drop i = q) ⟨rfl, rfl⟩ ?_ ?_
  · rintro i x q s ⟨rfl, hd⟩
    obtain ⟨g1, g2, g3, g4⟩ := drop_hd hd
    have hm := wFs_mem g4
    refine .bv (idv_evt x (by omega)) (.bp _ (apB_ok (by simp; omega)) (.pure ⟨?_, g2⟩))
    rw [List.take_add_one, g1]; simp
  · rintro s ⟨rfl, _⟩; simp
termination_by SizeOf.sizeOf f
decreasing_by exact szF_lt g4
theorem icf0 (f : Form) (hf : f.scopes = [] ∧ f.kids = []) : Evt (fun n => im_copyForm n f) f := by
  refine .succ ?_
  simp only [im_copyForm, slices_Clone_int, hf.1, hf.2]
  refine Ex.evt (.bp [] rfl (.bv (a := []) (.pure _) (.pure ?_)))
  cases f; simp only [Form.mk.injEq, true_and, and_self] at hf ⊢; exact ⟨hf.1.symm, hf.2.symm⟩
theorem icc0 : Evt (fun n => im_copyCore n zC) zC := by
  refine .succ ?_
  simp only [im_copyCore, slices_Clone_int, zC]
  refine Ex.evt (.bp [] rfl (.bv (icf0 _ ⟨rfl, rfl⟩) (.bv (a := []) (.pure _) (.pure rfl))))
theorem icp_evt (f : Form) (hw : wF f ≤ 100000) : Evt (fun n => im_copyValue n (dvF f)) (dvF f) := by
  have he := wF_eq f
  refine .succ ?_
  have main : ∀ v : Value, v.fun_ = zC → v.env = [] → Evt (fun n => Mx.forL (fun (s4 : List Value) (i3 : Nat) (x6 : Value) => (im_copyValue n x6).bind fun k11 => (apB 248 s4 [k11]).bind fun z12 => some z12) 0 v.items []) v.items →
      Evt (fun n => im_copyValue (n + 1) v) v := by
    intro v h1 h2 h3
    simp only [im_copyValue]
    rw [h1, h2]
    refine Ex.evt (.bv icc0 (.bv h3 (.bv (a := []) (.pure _) (.pure ?_))))
    cases v; simp only at h1 h2; rw [h1, h2]
  rw [dvF_eq]
  by_cases h2 : f.kind = 2
  · rw [if_pos h2]; exact main _ rfl rfl (.pure _)
  rw [if_neg h2]
  by_cases h1 : f.kind = 1
  · rw [if_pos h1]; exact main _ rfl rfl (.pure _)
  rw [if_neg h1]
  refine main _ rfl rfl ?_
  simp only
  refine copyA_ev (m := fun n x => im_copyValue n x) (be := 248) ?_ ?_
  · rw [dvFs_map]; simp; omega
  · rw [dvFs_map]
    intro v hv
    obtain ⟨x, hx, rfl⟩ := List.mem_map.1 hv
    have hm := wFs_mem hx
    exact icp_evt x (by omega)
termination_by SizeOf.sizeOf f
decreasing_by exact szF_lt hx
theorem isz_ex (f : Form) (L : Nat) (h1 : cF f ≤ L) (h2 : L ≤ 2000) : Ex (fun n => im_sizeOf n (dvF f) (L : Int)) (fun r => r.1 = true ∧ ∃ u : Nat, r.2 = (u : Int) ∧ L ≤ u + cF f ∧ u ≤ 2000) := by
  have hc := cF_eq f
  refine .succ ?_
  have e1 : w64 ((L : Int) - 1) = ((L - 1 : Nat) : Int) := by rw [w_id (by omega) (by omega)]; omega
  simp only [im_sizeOf, e1]
  refine .neg (by omega) ?_
  have main : ∀ v : Value, v.env = [] → Ex (fun n => seqS (Mx.forI (fun (s4 : Int) (i3 : Nat) (x6 : Value) => ((im_sizeOf n x6 s4).bind fun k11 => (if (!k11.1) = true then some (Sum.inl (false, k11.2)) else some (Sum.inr k11.2)) : Option ((Bool × Int) ⊕ Int))) 0 v.items ((L - 1 : Nat) : Int)) (fun t => some (true, t))) (fun r => r.1 = true ∧ ∃ u : Nat, r.2 = (u : Int) ∧ L ≤ u + cF f ∧ u ≤ 2000) →
      Ex (fun n => seqS (Mx.forI (fun (s4 : Int) (i3 : Nat) (x6 : Value) => ((im_sizeOf n x6 s4).bind fun k11 => (if (!k11.1) = true then some (Sum.inl (false, k11.2)) else some (Sum.inr k11.2)) : Option ((Bool × Int) ⊕ Int))) 0 v.items ((L - 1 : Nat) : Int)) (fun (s4 : Int) => seqS (Mx.forI (fun (s15 : Int) (i14 : Nat) (x17 : Slot) => ((im_sizeOf n x17.2 s15).bind fun k22 => (if (!k22.1) = true then some (Sum.inl (false, k22.2)) else some (Sum.inr k22.2)) : Option ((Bool × Int) ⊕ Int))) 0 v.env s4) (fun (s15 : Int) => some (true, s15)))) (fun r => r.1 = true ∧ ∃ u : Nat, r.2 = (u : Int) ∧ L ≤ u + cF f ∧ u ≤ 2000) := by
    intro v hv h
    rw [hv]
    exact h
  rw [dvF_eq]
  by_cases k2 : f.kind = 2
  · rw [if_pos k2]; exact main _ rfl (.pure ⟨rfl, L - 1, rfl, by omega, by omega⟩)
  rw [if_neg k2]
  by_cases k1 : f.kind = 1
  · rw [if_pos k1]; exact main _ rfl (.pure ⟨rfl, L - 1, rfl, by omega, by omega⟩)
  rw [if_neg k1]
  refine main _ rfl ?_
  simp only
  refine Ex.seqS (P := fun o => match o with
    | .inl w => False
    | .inr s => ∃ u : Nat, s = (u : Int) ∧ L ≤ u + cF f ∧ u ≤ 2000) ?_ (fun w h => h.elim) (fun s h => .pure ⟨rfl, h⟩)
  refine Ex.forI (I := fun i q s => ∃ p : List Form, q = p.map dvF ∧ (∀ x ∈ p, x ∈ f.kids) ∧ ∃ u : Nat, s = (u : Int) ∧ L + cFs p ≤ u + cF f ∧ cFs p ≤ u ∧ u ≤ 2000) ?_ ?_ ?_
  · exact ⟨f.kids, dvFs_map _, fun _ h => h, L - 1, rfl, by omega, by omega, by omega⟩
  · rintro i x q s ⟨p, hp, hmem, u, rfl, q1, q2, q3⟩
    cases p with
    | nil => cases hp
    | cons y p =>
      simp only [List.map_cons, List.cons.injEq] at hp
      obtain ⟨rfl, rfl⟩ := hp
      simp only [cFs] at q1 q2
      have hx := hmem y (List.mem_cons_self)
      refine .bind (isz_ex y u (by omega) q3) ?_
      rintro ⟨b, s'⟩ ⟨rfl, v, rfl, r1, r2⟩
      exact .neg (by simp) (.fg ⟨p, rfl, fun x hx => hmem x (List.mem_cons_of_mem _ hx), v, rfl, by omega, by omega, by omega⟩)
  · rintro s ⟨p, hp, _, u, rfl, q1, q2, q3⟩
    have : p = [] := by simpa using hp
    subst this
    simp only [cFs] at q1
    exact ⟨u, rfl, by omega, q3⟩
termination_by SizeOf.sizeOf f
decreasing_by exact szF_lt hx
theorem nameB8 : ∀ s ∈ ([[97], [98], [120], [121], [102], [105, 102], [108, 101, 116], [43]] : List (List UInt8)), nameB s = true := by decide
theorem drawn_ok : ∀ (d e : Nat) (f : Form), drawnF d f → fmB (d + 1 + e) f = true ∧ allSc f = []
  | 0, e, f, h => by
    rw [show 0 + 1 + e = e + 1 by omega, fmB, allSc_eq]
    rcases h with ⟨h1, h2, h3, h4, h5⟩ | ⟨h1, h2, h3, h4, h5⟩
    · rw [if_pos h1, nameB8 _ h5, h2, h3, h4]; exact ⟨rfl, rfl⟩
    · rw [if_neg (by omega), if_pos h1, h2, h3, h4]
      simp only [List.mem_cons, List.not_mem_nil, or_false] at h5
      rcases h5 with h | h | h | h | h | h <;> rw [h] <;> exact ⟨rfl, rfl⟩
  | d + 1, e, f, h => by
    rcases h with h | ⟨h1, h2, h3, h4, h5, h6⟩
    · have := drawn_ok 0 (d + 1 + e) f h
      rwa [show 0 + 1 + (d + 1 + e) = d + 1 + 1 + e by omega] at this
    · have ih := fun x hx => drawn_ok d e x (h6 x hx)
      refine ⟨?_, ?_⟩
      · rw [show d + 1 + 1 + e = (d + 1 + e) + 1 by omega, fmB, if_neg (by omega), if_neg (by omega), if_pos h1, h2, h3, h4]
        simp only [decide_true, List.length_nil, Bool.true_and]
        exact List.all_eq_true.2 fun x hx => (ih x hx).1
      · rw [allSc_eq, h4]
        have : ∀ l : List Form, (∀ x ∈ l, allSc x = []) → allScs l = [] := fun l => by
          induction l with
          | nil => intro _; rfl
          | cons x r ihl => intro h; simp only [allScs, h x (List.mem_cons_self), ihl fun y hy => h y (List.mem_cons_of_mem _ hy)]; rfl
        exact this _ fun x hx => (ih x hx).2
theorem leaf_cr {c : Core} (hk : c.kids = []) (hi : c.ids = []) (d : Nat) : crB (d + 1) [] c = (kdB c.kind 0 && (flB c && (!decide (c.kind = 1) || decide (c.id ∈ ([] : List Int))))) := by
  simp only [crB, hi, adB, hk, List.length_nil, List.all_nil, Bool.and_true]
theorem leaf_valid {c : Core} (hk : c.kids = []) (hi : c.ids = []) : validC c = (kdB c.kind 0 && (flB c && (!decide (c.kind = 1) || decide (c.id ∈ ([] : List Int))))) := by
  unfold validC
  have h1 : crB 120 [] c = (kdB c.kind 0 && (flB c && (!decide (c.kind = 1) || decide (c.id ∈ ([] : List Int))))) := by
    exact leaf_cr hk hi 119
  rw [h1, cC_eq, hk]
  simp [cCs]
theorem exFnAtomValue (b : List UInt8) : Evt (fun n => la_FnAtomValue n b) true := by
  refine Ex.evt ?_
  unfold la_FnAtomValue
  refine .ite (fun _ => .pure rfl) (fun _ => ?_)
  refine .bind (exDrawCoreAtom b) fun c ⟨hw, hl⟩ => ?_
  simp only [iat_eq, sat_eq, Option.bind_some]
  simp only [beq_self_eq_true, Bool.not_true, Bool.false_eq_true, if_false, Option.bind_some]
  cases ha : atomB c with
  | false => exact .pos rfl (.pure rfl)
  | true =>
    refine .neg (by simp) ?_
    have hk : c.kids = [] := by
      unfold atomB at ha
      simp only [Bool.and_eq_true, decide_eq_true_eq] at ha
      exact List.eq_nil_of_length_eq_zero ha.1
    rcases hl with hl | hl
    · have hv := icv_evt c (by omega)
      have hfin : ∀ v : Value × Int, (c.kind = 1 ∨ v.2 = 0) → Ex (fun _ : Nat => (Option.bind ((if c.kind = 1 then some true else (if v.2 = 0 then some (decide ((c.kids.length : Int) = 0)) else some false)) : Option (Bool)) (fun (o9 : Bool) => some o9))) (fun r => r = true) := by
        intro v h
        by_cases h1 : c.kind = 1
        · rw [if_pos h1]; exact .pure rfl
        · rw [if_neg h1, if_pos (h.resolve_left h1), hk]; exact .pure rfl
      refine Ex.bind (P := fun v => c.kind = 1 ∨ v.2 = 0) ?_ hfin
      unfold im_EvalCore
      have hcp : ∀ v : Value, (∃ f, wF f ≤ 100000 ∧ cF f ≤ 2000 ∧ v = dvF f) ∨ (v.items = [] ∧ v.env = [] ∧ v.fun_ = zC) → Ex (fun n => (im_sizeOf n v 2000).bind fun k5 => (if (!k5.1) = true then some ((⟨0, 0, [], [], (⟨0, 0, [], 0, [], (⟨0, [], 0, [], []⟩ : Form), []⟩ : Core), []⟩ : Value), (4 : Int)) else (im_copyValue n v).bind fun k7 => some (k7, 0))) (fun r => c.kind = 1 ∨ r.2 = 0) := by
        intro v hv
        rcases hv with ⟨f, q1, q2, rfl⟩ | ⟨q1, q2, q3⟩
        · refine .bind (isz_ex f 2000 q2 (by omega)) fun r hr => ?_
          rw [hr.1]
          exact .neg (by simp) (.bv (icp_evt f q1) (.pure (.inr rfl)))
        · have hs : Evt (fun n => im_sizeOf n v 2000) (true, 1999) := by
            refine .succ ?_
            simp only [im_sizeOf, q1, q2]
            exact .const rfl
          have hcv : Evt (fun n => im_copyValue n v) v := by
            refine .succ ?_
            simp only [im_copyValue, q1, q2, q3]
            refine Ex.evt (.bv icc0 (.bv (a := []) (.pure _) (.bv (a := []) (.pure _) (.pure ?_))))
            cases v; simp only at q1 q2 q3; rw [q1, q2, q3]
          exact .bv hs (.neg (by simp) (.bv hcv (.pure (.inr rfl))))
      cases hvc : validC c with
      | false =>
        rw [hvc] at hv
        refine Ex.bind (P := fun o => o = true) (.bv hv (.pos rfl (.pure rfl))) ?_
        rintro o rfl
        refine .pos rfl (.pure (.inl ?_))
        rcases hl with ⟨i, _, rfl⟩ | ⟨f, hf, rfl⟩ | ⟨s, hs, rfl⟩ | ⟨i, hi, rfl⟩
        · rfl
        · exfalso
          obtain ⟨d1, d2⟩ := drawn_ok 1 38 f hf
          have d3 : cF f ≤ 16 := by
            have := drawnF_w 1 hf
            have := cF_le f
            simp only [wD] at *; omega
          have : validC ⟨4, 0, [], 0, [], f, []⟩ = true := by
            rw [leaf_valid rfl rfl]
            have e1 : validF f = true := by unfold validF; rw [show (40 : Nat) = 1 + 1 + 38 from rfl, d1, decide_eq_true (by omega)]; rfl
            have e2 : noSc f = true := by unfold noSc; rw [d2]; rfl
            simp [flB, e1, e2, kd4]
          rw [this] at hvc; cases hvc
        · exfalso
          simp only [List.mem_cons, List.not_mem_nil, or_false] at hs
          rcases hs with rfl | rfl | rfl
          · revert ha; decide
          · revert hvc; decide
          · revert hvc; decide
        · exfalso
          simp only [List.mem_cons, List.not_mem_nil, or_false] at hi
          rcases hi with rfl | rfl | rfl | rfl <;> revert hvc <;> decide
      | true =>
        rw [hvc] at hv
        refine Ex.bind (P := fun o => o = false) (.bv hv (.neg (by simp) ?_)) ?_
        · simp only [iw_eq, Option.bind_some]; exact .pure rfl
        rintro o rfl
        refine .neg (by simp) ?_
        rcases hl with ⟨i, _, rfl⟩ | ⟨f, hf, rfl⟩ | ⟨s, hs, rfl⟩ | ⟨i, hi, rfl⟩
        · exfalso
          rw [leaf_valid rfl rfl] at hvc
          simp at hvc
        · have hw2 := drawnF_w 1 hf
          have hc2 := cF_le f
          simp only [wD] at hw2
          have he : Evt (fun n => im_machine_eval n ⟨4, 0, [], 0, [], f, []⟩ [] ⟨1, 0⟩) (dvF f, ⟨0, 0⟩) := by
            refine .succ ?_
            simp only [im_machine_eval, im_numValue]
            refine Ex.evt (.neg (by simp) (.neg (by simp) (.neg (by simp) (.neg (by simp) (.pos (by simp) (.bv (idv_evt f (by omega)) (.pure rfl)))))))
          refine .bv he (.neg (by simp) (hcp _ (.inl ⟨f, by omega, by omega, rfl⟩)))
        · have hp : decide (s ∈ lp0) = true := by
            unfold atomB primB at ha
            simpa using ha
          have he : Evt (fun n => im_machine_eval n ⟨2, 0, s, 0, [], ⟨0, [], 0, [], []⟩, []⟩ [] ⟨1, 0⟩) (⟨5, 0, s, [], zC, []⟩, ⟨0, 0⟩) := by
            refine .succ ?_
            simp only [im_machine_eval, im_numValue, cont_eq, hp]
            exact .const rfl
          refine .bv he (.neg (by simp) (hcp _ (.inr ⟨rfl, rfl, rfl⟩)))
        · have he : Evt (fun n => im_machine_eval n ⟨3, 0, [], i, [], ⟨0, [], 0, [], []⟩, []⟩ [] ⟨1, 0⟩) (⟨1, i, [], [], zC, []⟩, ⟨0, 0⟩) := by
            refine .succ ?_
            simp only [im_machine_eval, im_numValue]
            exact .const rfl
          refine .bv he (.neg (by simp) (hcp _ (.inr ⟨rfl, rfl, rfl⟩)))
    · exact absurd hk hl
theorem lawAtomValue (l : List Int) (h : l.length ≤ maxLen ∧ ∀ a ∈ l, (Lit.int .u8 a).wf = true) : Mx.ACall X.E 3 [.sl 1 .ro (l.map fun i => [.v (.int .u8 i)])] [] fun d _ => d = .v (.bool true) := by
  obtain ⟨N, hN⟩ := exFnAtomValue (toB l)
  exact call_true (w_la_FnAtomValue N (toB l) (hN N (Nat.le_refl _))) (by simp only [ED.DL, ED.D, KD.D, bytes_D h.2]; rfl)
end Go.Ev
