/- Plain laws of models. No condition. -/
import Derived.Test.YtencoplhomeleaaDoorMdSubstituteBack
import Derived.Test.YtencoplhomeleaaDoorEvTri
namespace Go.Ev
open Go.Mx (KD ED EObj forL forI seqS iterM)
set_option linter.unusedVariables false
set_option linter.unusedSimpArgs false
/-- A loop over places that looks for one that does not serve. -/
theorem Evt.scan {ω : Type} {step : Nat → Int → Option (ω ⊕ Int)} {p : Nat → Bool} {L : Nat} {no yes : ω} (h1 : ∀ i, i < L → p i = true → Evt (fun n => step n (i : Int)) (.inr ((i + 1 : Nat) : Int))) (h2 : ∀ i, i < L → p i = false → Evt (fun n => step n (i : Int)) (.inl no)) (h3 : Evt (fun n => step n (L : Int)) (.inl yes)) :
    Evt (fun n => iterM n (step n) 0) (if (List.range L).all p = true then yes else no) := by
  obtain ⟨w, k1, k2⟩ := iter_ev (step := step) (fun s => L - s.toNat) (fun s => ∃ i : Nat, i ≤ L ∧ s = i ∧ ∀ j, j < i → p j = true) (fun w => w = if (List.range L).all p = true then yes else no) (fun s ⟨i, i1, i2, i3⟩ => by
    subst i2
    rcases Nat.lt_or_ge i L with h | h
    · cases hp : p i with
      | true => exact .inr ⟨_, h1 i h hp, ⟨i + 1, by omega, rfl, fun j hj => by rcases Nat.lt_or_eq_of_le (Nat.le_of_lt_succ hj) with q | q; exact i3 j q; rw [q]; exact hp⟩, by simp; omega⟩
      | false =>
        refine .inl ⟨_, h2 i h hp, ?_⟩
        rw [if_neg]
        intro hall
        rw [List.all_eq_true] at hall
        rw [hall i (List.mem_range.2 h)] at hp; cases hp
    · have : i = L := by omega
      subst this
      refine .inl ⟨_, h3, ?_⟩
      rw [if_pos]
      rw [List.all_eq_true]
      exact fun j hj => i3 j (List.mem_range.1 hj)) 0 ⟨0, Nat.zero_le _, rfl, fun j hj => by omega⟩
  exact k2 ▸ k1
/-- A loop over a list that looks for one that does not serve. -/
theorem scanI {α ω : Type} {step : Unit → Nat → α → Option (ω ⊕ Unit)} {p : α → Bool} {no : ω} {f : Unit → Option ω} : ∀ {xs : List α} {i : Nat}, (∀ i x, x ∈ xs → step () i x = if p x = true then some (.inr ()) else some (.inl no)) → seqS (Mx.forI step i xs ()) f = if xs.all p = true then f () else some no
  | [], i, _ => by simp [Mx.forI, Mx.seqS]
  | x :: r, i, h => by
    have hx := h i x (List.mem_cons_self)
    have ih := scanI (step := step) (p := p) (no := no) (f := f) (xs := r) (i := i + 1) (fun i y hy => h i y (List.mem_cons_of_mem _ hy))
    simp only [Mx.forI, hx, List.all_cons, Bool.and_eq_true]
    cases hp : p x with
    | true => simpa [hp] using ih
    | false => simp [Mx.seqS]
theorem w64_nat {i : Nat} (h : i < 9223372036854775807) : w64 ((i : Int) + 1) = ((i + 1 : Nat) : Int) := by rw [w_id (by omega) (by omega)]; omega
theorem scanIx {α ω : Type} {step : Unit → Nat → α → Option (ω ⊕ Unit)} {p : Nat → Bool} {no : ω} {f : Unit → Option ω} : ∀ {xs : List α} {i : Nat}, (∀ j x, xs[j]? = some x → step () (i + j) x = if p (i + j) = true then some (.inr ()) else some (.inl no)) → seqS (Mx.forI step i xs ()) f = if (List.range xs.length).all (fun j => p (i + j)) = true then f () else some no
  | [], i, _ => by simp [Mx.forI, Mx.seqS]
  | x :: r, i, h => by
    have hx := h 0 x rfl
    have ih := scanIx (step := step) (p := p) (no := no) (f := f) (xs := r) (i := i + 1) (fun j y hy => by have := h (j + 1) y (by simpa using hy); rwa [show i + (j + 1) = i + 1 + j by omega] at this)
    simp only [Nat.add_zero] at hx
    simp only [Mx.forI, hx, List.length_cons, List.range_succ_eq_map, List.all_cons, List.all_map, Bool.and_eq_true, Nat.add_zero]
    have e : ((fun j => p (i + j)) ∘ Nat.succ) = fun j => p (i + 1 + j) := by funext j; simp only [Function.comp]; congr 1; omega
    rw [e]
    cases hp : p i with
    | true => simpa [hp] using ih
    | false => simp [Mx.seqS]
def chrB (c : UInt8) : Bool := (decide (97 ≤ c.toNat) && decide (c.toNat ≤ 122)) || c == 42 || c == 63 || c == 61 || c == 43 || c == 60
def digB (c : UInt8) : Bool := (decide (48 ≤ c.toNat) && decide (c.toNat ≤ 57)) || c == 45
def letB (s : List UInt8) (i : Nat) : Bool := match s[i]? with
  | some c => chrB c || (!(i == 0) && digB c)
  | none => false
def nameB (s : List UInt8) : Bool := (decide (s = [46, 46, 46]) || decide (s = [95])) || ((List.range s.length).all (letB s) && (decide (1 ≤ s.length) && decide (s.length ≤ 12)))
theorem u8_toNat_eq {c d : UInt8} : c = d ↔ c.toNat = d.toNat := ⟨fun h => by rw [h], fun h => UInt8.toNat_inj.1 h⟩
theorem nv_dig (y : UInt8) : ((if (y.toNat : Int) ≥ 48 then (if (y.toNat : Int) ≤ 57 then some true else some (decide ((y.toNat : Int) = 45))) else some (decide ((y.toNat : Int) = 45))) : Option Bool) = some (digB y) := by
  have e : decide ((y.toNat : Int) = 45) = (y == 45) := by
    by_cases h : y = 45
    · subst h; rfl
    · have : ¬ (y.toNat : Int) = 45 := fun h' => h (u8_toNat_eq.2 (by show y.toNat = 45; omega))
      simp [h, this]
  rw [e]
  unfold digB
  by_cases h1 : (y.toNat : Int) ≥ 48
  · rw [if_pos h1]
    by_cases h2 : (y.toNat : Int) ≤ 57
    · rw [if_pos h2]; simp [show 48 ≤ y.toNat by omega, show y.toNat ≤ 57 by omega]
    · rw [if_neg h2]; simp [show ¬ y.toNat ≤ 57 by omega]
  · rw [if_neg h1]; simp [show ¬ 48 ≤ y.toNat by omega]
theorem iw_eq (n : Nat) (a b c : Int) : im_within n a b c = some (decide (b ≤ a) && decide (a ≤ c)) := by
  unfold im_within
  by_cases h : a ≥ b
  · rw [if_pos h]; simp [show b ≤ a from h]
  · rw [if_neg h]; simp [show ¬ b ≤ a from h]
theorem ix_iff : ∀ (l : List UInt8) (c : UInt8), 0 ≤ Lib.indexByte l c ↔ c ∈ l
  | [], c => by simp [Lib.indexByte]
  | b :: l, c => by
    have ih := ix_iff l c
    have hg := Lib.indexByte_ge l c
    unfold Lib.indexByte
    by_cases hb : b = c
    · subst hb; simp
    · have hb' : (b == c) = false := by simpa using hb
      rw [hb', List.mem_cons, ← ih]
      have hbc : ¬ c = b := fun h => hb h.symm
      simp only [Bool.false_eq_true, if_false, hbc, false_or]
      by_cases h1 : Lib.indexByte l c = -1
      · simp [h1]
      · simp only [beq_iff_eq, h1, if_false]; omega
theorem ix_mem (l : List UInt8) (c : UInt8) : decide (Lib.indexByte l c ≥ 0) = l.contains c := by
  rw [Bool.eq_iff_iff]; simp only [decide_eq_true_eq, List.contains_iff_mem]; exact ix_iff l c
theorem nv_chr (y : UInt8) : ((if (y.toNat : Int) ≥ 97 then (if (y.toNat : Int) ≤ 122 then some true else some (decide (Lib.indexByte [42, 63, 61, 43, 60] y ≥ 0))) else some (decide (Lib.indexByte [42, 63, 61, 43, 60] y ≥ 0))) : Option Bool) = some (chrB y) := by
  have e : decide (Lib.indexByte [42, 63, 61, 43, 60] y ≥ 0) = (y == 42 || y == 63 || y == 61 || y == 43 || y == 60) := by
    rw [ix_mem]; simp only [List.contains_cons, List.contains_nil, Bool.or_false, Bool.or_assoc]
  rw [e]
  unfold chrB
  by_cases h1 : (y.toNat : Int) ≥ 97
  · rw [if_pos h1]
    by_cases h2 : (y.toNat : Int) ≤ 122
    · rw [if_pos h2]
      simp [show 97 ≤ y.toNat by omega, show y.toNat ≤ 122 by omega]
    · rw [if_neg h2]
      simp [show ¬ y.toNat ≤ 122 by omega]
  · rw [if_neg h1]
    simp [show ¬ 97 ≤ y.toNat by omega]
theorem u8_back (y : UInt8) : ((y.toNat : Int).toNat).toUInt8 = y := by
  rw [Int.toNat_natCast]; exact UInt8.ofNat_toNat
theorem inv_evt (s : List UInt8) (hs : s.length ≤ mxL) : Evt (fun n => im_NameValid n s) (nameB s) := by
  unfold mxL at hs
  unfold im_NameValid
  simp only [strings_IndexByte, u8_back, Option.bind_some, nv_chr, nv_dig]
  by_cases h0 : s = [46, 46, 46]
  · simp only [h0, if_true, Option.bind_some]; exact .pure _
  rw [if_neg h0]
  simp only [Option.bind_some]
  by_cases h1 : s = [95]
  · simp only [h1, decide_true, if_true]; exact .pure _
  simp only [h1, decide_false, Bool.false_eq_true, if_false]
  have e : nameB s = if (List.range s.length).all (letB s) = true then (decide (1 ≤ s.length) && decide (s.length ≤ 12)) else false := by
    unfold nameB; simp only [h0, h1, decide_false, Bool.false_or, Bool.or_self]
    cases (List.range s.length).all (letB s) <;> simp
  rw [e]
  refine Evt.scan (L := s.length) (p := letB s) (fun i hi hp => ?_) (fun i hi hp => ?_) ?_
  · refine .pos (by omega) ?_
    have hy := List.getElem?_eq_getElem hi
    unfold letB at hp
    rw [hy] at hp
    simp only at hp
    refine Evt.const ?_
    rw [atI_nat hy]
    simp only [Option.bind_some]
    cases hc : chrB s[i] with
    | true => simp only [if_true, Mx.seqS, Option.bind_some, w64_nat (i := i) (by omega)]
    | false =>
      rw [hc, Bool.false_or, Bool.and_eq_true] at hp
      have hi0 : (i : Int) > 0 := by
        have : i ≠ 0 := by simpa using hp.1
        omega
      simp only [Bool.false_eq_true, if_false, if_pos hi0, nv_dig, hp.2, Option.bind_some, if_true, Mx.seqS, w64_nat (i := i) (by omega)]
  · refine .pos (by omega) ?_
    have hy := List.getElem?_eq_getElem hi
    unfold letB at hp
    rw [hy] at hp
    simp only [Bool.or_eq_false_iff] at hp
    refine Evt.const ?_
    rw [atI_nat hy]
    simp only [Option.bind_some, hp.1, Bool.false_eq_true, if_false]
    by_cases hi0 : (i : Int) > 0
    · have : (i == 0) = false := by simp; omega
      have hd : digB s[i] = false := by simpa [this] using hp.2
      simp only [if_pos hi0, nv_dig, hd, Option.bind_some, Bool.false_eq_true, if_false, Mx.seqS]
    · simp only [if_neg hi0, Option.bind_some, Bool.false_eq_true, if_false, Mx.seqS]
  · refine .neg (by omega) ?_
    simp only [iw_eq, Option.bind_some]
    refine .const ?_
    have a1 : decide ((1 : Int) ≤ (s.length : Int)) = decide (1 ≤ s.length) := by simp only [decide_eq_decide]; omega
    have a2 : decide ((s.length : Int) ≤ 12) = decide (s.length ≤ 12) := by simp only [decide_eq_decide]; omega
    rw [a1, a2]
theorem sl_eq (n : Nat) (y : UInt8) (f : Bool) : sp_l1Letter n (y.toNat : Int) f = some (chrB y || (!f && digB y)) := by
  unfold sp_l1Letter
  simp only [nv_dig]
  have q : ∀ k : Nat, decide ((y.toNat : Int) = (k : Int)) = decide (y.toNat = k) := fun k => by simp only [decide_eq_decide]; omega
  have e : ((if (y.toNat : Int) = 42 then some true else (if (y.toNat : Int) = 63 then some true else (if (y.toNat : Int) = 61 then some true else (if (y.toNat : Int) = 43 then some true else some (decide ((y.toNat : Int) = 60)))))) : Option Bool) = some (y == 42 || y == 63 || y == 61 || y == 43 || y == 60) := by
    have w : ∀ (k : Nat) (d : UInt8), d.toNat = k → ((y.toNat : Int) = (k : Int) ↔ y = d) := fun k d hd => by rw [u8_toNat_eq, hd]; omega
    have w1 : (y.toNat : Int) = 42 ↔ y = 42 := w 42 42 rfl
    have w2 : (y.toNat : Int) = 63 ↔ y = 63 := w 63 63 rfl
    have w3 : (y.toNat : Int) = 61 ↔ y = 61 := w 61 61 rfl
    have w4 : (y.toNat : Int) = 43 ↔ y = 43 := w 43 43 rfl
    have w5 : (y.toNat : Int) = 60 ↔ y = 60 := w 60 60 rfl
    by_cases h1 : y = 42
    · rw [if_pos (w1.2 h1), h1]; rfl
    rw [if_neg (fun h => h1 (w1.1 h))]
    by_cases h2 : y = 63
    · rw [if_pos (w2.2 h2), h2]; rfl
    rw [if_neg (fun h => h2 (w2.1 h))]
    by_cases h3 : y = 61
    · rw [if_pos (w3.2 h3), h3]; rfl
    rw [if_neg (fun h => h3 (w3.1 h))]
    by_cases h4 : y = 43
    · rw [if_pos (w4.2 h4), h4]; rfl
    rw [if_neg (fun h => h4 (w4.1 h))]
    have : decide ((y.toNat : Int) = 60) = (y == 60) := by rw [Bool.eq_iff_iff]; simp only [decide_eq_true_eq, beq_iff_eq]; exact w5
    rw [this]
    simp [h1, h2, h3, h4]
  rw [e]
  have e2 : ((if (y.toNat : Int) ≥ 97 then (if (y.toNat : Int) ≤ 122 then some true else some (y == 42 || y == 63 || y == 61 || y == 43 || y == 60)) else some (y == 42 || y == 63 || y == 61 || y == 43 || y == 60)) : Option Bool) = some (chrB y) := by
    unfold chrB
    by_cases h1 : (y.toNat : Int) ≥ 97
    · rw [if_pos h1]
      by_cases h2 : (y.toNat : Int) ≤ 122
      · rw [if_pos h2]; simp [show 97 ≤ y.toNat by omega, show y.toNat ≤ 122 by omega]
      · rw [if_neg h2]; simp [show ¬ y.toNat ≤ 122 by omega]
    · rw [if_neg h1]; simp [show ¬ 97 ≤ y.toNat by omega]
  rw [e2]
  cases chrB y <;> cases f <;> simp
theorem snv_evt (s : List UInt8) (hs : s.length ≤ mxL) : Evt (fun n => sp_NameValid n s) (nameB s) := by
  unfold mxL at hs
  unfold sp_NameValid
  simp only [sl_eq, Option.bind_some]
  by_cases h0 : s = [46, 46, 46]
  · simp only [h0, if_true, Option.bind_some]; exact .pure _
  rw [if_neg h0]
  simp only [Option.bind_some]
  by_cases h1 : s = [95]
  · simp only [h1, decide_true, if_true]; exact .pure _
  simp only [h1, decide_false, Bool.false_eq_true, if_false]
  have hb : nameB s = if (List.range (min s.length 13)).all (letB s) = true then (decide (1 ≤ s.length) && decide (s.length ≤ 12)) else false := by
    unfold nameB; simp only [h0, h1, decide_false, Bool.false_or, Bool.or_self]
    by_cases hl : s.length ≤ 12
    · rw [Nat.min_eq_left (by omega)]
      cases (List.range s.length).all (letB s) <;> simp
    · simp [hl]
  rw [hb]
  refine Evt.scan (L := min s.length 13) (p := letB s) (fun i hi hp => ?_) (fun i hi hp => ?_) ?_
  · have hi' : i < s.length := by omega
    have hy := List.getElem?_eq_getElem hi'
    unfold letB at hp
    rw [hy] at hp
    simp only at hp
    refine Evt.const ?_
    have c1 : (i : Int) < (s.length : Int) := by omega
    have c2 : decide ((i : Int) ≤ 12) = true := by simp; omega
    have c3 : decide ((i : Int) = 0) = (i == 0) := by rw [Bool.eq_iff_iff]; simp
    rw [if_pos c1, c2, c3]
    simp only [Option.bind_some, if_true, atI_nat hy, hp, Bool.not_true, Bool.false_eq_true, if_false, w64_nat (i := i) (by omega)]
  · have hi' : i < s.length := by omega
    have hy := List.getElem?_eq_getElem hi'
    unfold letB at hp
    rw [hy] at hp
    simp only at hp
    refine Evt.const ?_
    have c1 : (i : Int) < (s.length : Int) := by omega
    have c2 : decide ((i : Int) ≤ 12) = true := by simp; omega
    have c3 : decide ((i : Int) = 0) = (i == 0) := by rw [Bool.eq_iff_iff]; simp
    rw [if_pos c1, c2, c3]
    simp only [Option.bind_some, if_true, atI_nat hy, hp, Bool.not_false]
  · refine Evt.const ?_
    have e : ((if ((min s.length 13 : Nat) : Int) < (s.length : Int) then some (decide (((min s.length 13 : Nat) : Int) ≤ 12)) else some false) : Option Bool) = some false := by
      by_cases h : ((min s.length 13 : Nat) : Int) < (s.length : Int)
      · rw [if_pos h]; congr 1; simp; omega
      · rw [if_neg h]
    rw [e]
    have a1 : decide ((s.length : Int) ≤ 12) = decide (s.length ≤ 12) := by simp only [decide_eq_decide]; omega
    by_cases h : (s.length : Int) ≥ 1
    · simp only [Option.bind_some, Bool.false_eq_true, if_false, if_pos h, a1, show decide (1 ≤ s.length) = true from decide_eq_true (by omega), Bool.true_and]
    · simp only [Option.bind_some, Bool.false_eq_true, if_false, if_neg h, show decide (1 ≤ s.length) = false from decide_eq_false (by omega), Bool.false_and]
def scP (l : List Int) (i : Nat) : Bool := match l[i]? with
  | some x => (decide (1 ≤ x) && decide (x ≤ 99)) && (i == 0 || (match l[i - 1]? with
    | some y => decide (y < x)
    | none => false))
  | none => false
def scB (l : List Int) : Bool := (List.range l.length).all (scP l) && decide (l.length ≤ 24)
def fmB : Nat → Form → Bool
  | 0, _ => false
  | d + 1, f => if f.kind = 1 then nameB f.name && (decide (f.n = 0) && (scB f.scopes && decide (f.kids.length = 0))) else
      if f.kind = 2 then decide (f.name = []) && ((decide (0 ≤ f.n) && decide (f.n ≤ 999)) && (decide (f.scopes.length = 0) && decide (f.kids.length = 0))) else
      if f.kind = 3 then decide (f.name = []) && (decide (f.n = 0) && (decide (f.scopes.length = 0) && f.kids.all (fmB d))) else false
mutual
def cF : Form → Nat
  | ⟨_, _, _, _, kids⟩ => 1 + cFs kids
def cFs : List Form → Nat
  | [] => 0
  | x :: r => cF x + cFs r
end
theorem cF_eq (f : Form) : cF f = 1 + cFs f.kids := by cases f; simp only [cF]
mutual
theorem cF_le : ∀ f : Form, cF f ≤ wF f + 1
  | ⟨k, nm, n, sc, kids⟩ => by have := cFs_le kids; simp only [cF, wF]; omega
theorem cFs_le : ∀ l : List Form, cFs l ≤ wFs l + l.length
  | [] => by simp [cFs]
  | x :: r => by have := cF_le x; have := cFs_le r; simp only [cFs, wFs, List.length_cons]; omega
end
theorem cFs_mem : ∀ {l : List Form} {x : Form}, x ∈ l → cF x ≤ cFs l
  | y :: r, x, h => by
    simp only [cFs]
    rcases List.mem_cons.1 h with rfl | h
    · omega
    · have := cFs_mem h; omega
def validF (f : Form) : Bool := fmB 40 f && decide (cF f ≤ 400)
mutual
theorem okF_w : ∀ f : Form, wF f ≤ 1073741824 → okF f
  | ⟨k, nm, n, sc, kids⟩, h => by simp only [wF] at h; simp only [okF, mxL]; exact ⟨by omega, by omega, by omega, okFs_w kids (by omega)⟩
theorem okFs_w : ∀ l : List Form, wFs l ≤ 1073741824 → okFs l
  | [], _ => trivial
  | x :: r, h => by simp only [wFs] at h; simp only [okFs]; exact ⟨okF_w x (by omega), okFs_w r (by omega)⟩
end
theorem isc_eq (n : Nat) (l : List Int) (hl : l.length ≤ mxL) : im_scopesOk n l = some (scB l) := by
  unfold mxL at hl
  unfold im_scopesOk
  rw [scanIx (p := scP l) (no := false)]
  · simp only [Nat.zero_add]
    unfold scB
    have a2 : decide ((l.length : Int) ≤ 24) = decide (l.length ≤ 24) := by simp only [decide_eq_decide]; omega
    show (if (List.range l.length).all (scP l) = true then _ else _) = _
    rw [a2]
    cases (List.range l.length).all (scP l) <;> simp
  · intro j x hx
    simp only [Nat.zero_add]
    have hj : j < l.length := (List.getElem?_eq_some_iff.1 hx).1
    simp only [iw_eq, Option.bind_some, scP, hx]
    by_cases h1 : (decide (1 ≤ x) && decide (x ≤ 99)) = true
    · simp only [h1, Bool.not_true, Bool.false_eq_true, if_false, Bool.true_and]
      by_cases h0 : (j : Int) > 0
      · have e : w64 ((j : Int) - 1) = ((j - 1 : Nat) : Int) := by rw [w_id (by omega) (by omega)]; omega
        have hy := List.getElem?_eq_getElem (l := l) (i := j - 1) (by omega)
        have hj0 : (j == 0) = false := by simp; omega
        rw [if_pos h0, e, atI_nat hy, hj0]
        simp only [Option.bind_some, hy, Bool.false_or]
        by_cases hlt : l[j - 1] < x
        · simp [hlt]
        · simp [hlt, show l[j - 1] ≥ x by omega]
      · have hj0 : j = 0 := by omega
        subst hj0
        simp
    · have h1' : (decide (1 ≤ x) && decide (x ≤ 99)) = false := by simpa using h1
      simp [h1']
theorem ifo_ex (f : Form) (hf : okF f) (d : Nat) (hd : d ≤ 40) (L : Nat) (hL : L ≤ 400) : Ex (fun n => im_formOk n f ((41 - d : Nat) : Int) (L : Int)) (fun r => (r.1 = true ↔ fmB d f = true ∧ cF f ≤ L) ∧ (r.1 = true → r.2 = ((L - cF f : Nat) : Int))) := by
  obtain ⟨o1, o2, o3, o4⟩ := (okF_eq f).1 hf
  have hc := cF_eq f
  refine .succ ?_
  simp only [im_formOk]
  have e1 : w64 ((L : Int) - 1) = (L : Int) - 1 := w_id (by omega) (by omega)
  rw [e1]
  by_cases h0 : (L : Int) - 1 < 0
  · simp only [if_pos h0, Option.bind_some, if_true]
    refine .pure ⟨⟨fun h => (by cases h), fun h => (by omega)⟩, fun h => (by cases h)⟩
  rw [if_neg h0]
  by_cases hd0 : d = 0
  · subst hd0
    simp only [show decide (((41 - 0 : Nat) : Int) > 40) = true from rfl, Option.bind_some, if_true]
    refine .pure ⟨⟨fun h => (by cases h), fun h => (by simp [fmB] at h)⟩, fun h => (by cases h)⟩
  obtain ⟨d, rfl⟩ : ∃ e, d = e + 1 := ⟨d - 1, by omega⟩
  have hdd : decide (((41 - (d + 1) : Nat) : Int) > 40) = false := by simp; omega
  simp only [hdd, Option.bind_some, Bool.false_eq_true, if_false, fmB]
  have kz : decide ((f.kids.length : Int) = 0) = decide (f.kids.length = 0) := by simp only [decide_eq_decide]; omega
  have sz : decide ((f.scopes.length : Int) = 0) = decide (f.scopes.length = 0) := by simp only [decide_eq_decide]; omega
  have fin : ∀ b : Bool, (f.kids.length = 0 ∨ b = false) → ((b, (L : Int) - 1).1 = true ↔ b = true ∧ cF f ≤ L) ∧ ((b, (L : Int) - 1).1 = true → (b, (L : Int) - 1).2 = ((L - cF f : Nat) : Int)) := fun b hb => by
    rcases hb with hb | hb
    · have hk : f.kids = [] := List.eq_nil_of_length_eq_zero hb
      have hc1 : cF f = 1 := by rw [hc, hk]; rfl
      exact ⟨⟨fun h => ⟨h, by omega⟩, fun h => h.1⟩, fun _ => by simp only; omega⟩
    · subst hb
      exact ⟨⟨fun h => (by cases h), fun h => (by cases h.1)⟩, fun h => (by cases h)⟩
  by_cases k1 : f.kind = 1
  · rw [if_pos k1]
    simp only [if_pos k1]
    refine Ex.bind (P := fun b => b = (nameB f.name && (decide (f.n = 0) && (scB f.scopes && decide (f.kids.length = 0))))) ?_ ?_
    · refine .bv (inv_evt _ o1) ?_
      cases hn : nameB f.name with
      | false => exact .neg (by simp) (.pure (by simp))
      | true =>
        refine .pos rfl ?_
        by_cases h2 : f.n = 0
        · refine .pos h2 ?_
          simp only [isc_eq _ _ o2, Option.bind_some]
          cases hs : scB f.scopes with
          | false => exact .neg (by simp) (.pure (by simp))
          | true => exact .pos rfl (.pure (by simp [kz, h2]))
        · exact .neg h2 (.pure (by simp [h2]))
    · rintro b rfl
      refine .pure (fin _ ?_)
      by_cases hk : f.kids.length = 0
      · exact .inl hk
      · exact .inr (by simp [hk])
  rw [if_neg k1]
  simp only [if_neg k1]
  by_cases k2 : f.kind = 2
  · rw [if_pos k2]
    simp only [if_pos k2]
    refine Ex.bind (P := fun b => b = (decide (f.name = []) && ((decide (0 ≤ f.n) && decide (f.n ≤ 999)) && (decide (f.scopes.length = 0) && decide (f.kids.length = 0))))) ?_ ?_
    · by_cases h1 : f.name = []
      · refine .pos h1 ?_
        simp only [iw_eq, Option.bind_some]
        by_cases h2 : (decide (0 ≤ f.n) && decide (f.n ≤ 999)) = true
        · refine .pos h2 ?_
          by_cases h3 : f.scopes.length = 0
          · exact .pos (by omega) (.pure (by rw [kz, h2]; simp only [h1, h3, decide_true, Bool.true_and]))
          · exact .neg (by omega) (.pure (by simp only [h3, decide_false, Bool.false_and, Bool.and_false]))
        · exact .neg h2 (.pure (by simp only [Bool.not_eq_true] at h2; rw [h2]; simp))
      · exact .neg h1 (.pure (by simp [h1]))
    · rintro b rfl
      refine .pure (fin _ ?_)
      by_cases hk : f.kids.length = 0
      · exact .inl hk
      · exact .inr (by simp [hk])
  rw [if_neg k2]
  simp only [if_neg k2]
  by_cases k3 : f.kind = 3
  · rw [if_pos k3]
    simp only [if_pos k3]
    refine Ex.bind (P := fun b => b = !(decide (f.name = []) && (decide (f.n = 0) && decide (f.scopes.length = 0)))) ?_ ?_
    · by_cases h1 : f.name = []
      · refine .neg (by simp [h1]) ?_
        by_cases h2 : f.n = 0
        · refine .neg (by simp [h2]) (.pure ?_)
          by_cases h3 : f.scopes.length = 0
          · have h3' : ¬ (f.scopes.length : Int) > 0 := by omega
            rw [decide_eq_false h3', decide_eq_true h1, decide_eq_true h2, decide_eq_true h3]; rfl
          · have h3' : (f.scopes.length : Int) > 0 := by omega
            rw [decide_eq_true h3', decide_eq_true h1, decide_eq_true h2, decide_eq_false h3]; rfl
        · exact .pos h2 (.pure (by simp [h1, h2]))
      · exact .pos h1 (.pure (by simp [h1]))
    · rintro b rfl
      cases hq : (decide (f.name = []) && (decide (f.n = 0) && decide (f.scopes.length = 0))) with
      | false =>
        refine .pos rfl (.pure ⟨⟨fun h => (by cases h), fun h => ?_⟩, fun h => (by cases h)⟩)
        have := h.1
        simp only [Bool.and_eq_true] at this
        rw [this.1, this.2.1, this.2.2.1] at hq; cases hq
      | true =>
        have hq' : ∀ b, (decide (f.name = []) && (decide (f.n = 0) && (decide (f.scopes.length = 0) && b))) = b := fun b => by
          simp only [Bool.and_eq_true] at hq
          rw [hq.1, hq.2.1, hq.2.2]; simp
        rw [hq']
        refine .neg (by simp) ?_
        have e2 : w64 (((41 - (d + 1) : Nat) : Int) + 1) = ((41 - d : Nat) : Int) := by rw [w_id (by omega) (by omega)]; omega
        rw [e2]
        refine Ex.seqS (P := fun o => match o with
          | .inl w => w.1 = false ∧ ¬ (f.kids.all (fmB d) = true ∧ cFs f.kids ≤ L - 1)
          | .inr s => f.kids.all (fmB d) = true ∧ cFs f.kids ≤ L - 1 ∧ s = ((L - 1 - cFs f.kids : Nat) : Int)) ?_ ?_ ?_
        · refine Ex.forI (I := fun i q s => ∃ u : Nat, s = (u : Int) ∧ u ≤ 400 ∧ (f.kids.all (fmB d) = true ∧ cFs f.kids ≤ L - 1 ↔ q.all (fmB d) = true ∧ cFs q ≤ u) ∧ u + cFs f.kids = L - 1 + cFs q ∧ ∀ x ∈ q, x ∈ f.kids) ?_ ?_ ?_
          · exact ⟨L - 1, by omega, by omega, Iff.rfl, rfl, fun _ h => h⟩
          · rintro i x q s ⟨u, rfl, hu, hiff, hsum, hmem⟩
            have hx := hmem x (List.mem_cons_self)
            refine Ex.bind (ifo_ex x (okFs_iff.1 o4 x hx) d (by omega) u hu) ?_
            rintro ⟨b, s'⟩ ⟨r1, r2⟩
            simp only at r1 r2
            cases b with
            | false =>
              refine .pos rfl (.fo ⟨rfl, fun h => ?_⟩)
              have h' := hiff.1 h
              simp only [List.all_cons, Bool.and_eq_true, cFs] at h'
              have := r1.2 ⟨h'.1.1, by omega⟩
              cases this
            | true =>
              obtain ⟨q1, q2⟩ := r1.1 rfl
              refine .neg (by simp) (.fg ⟨u - cF x, r2 rfl, by omega, ?_, by simp only [cFs] at hsum; omega, fun y hy => hmem y (List.mem_cons_of_mem _ hy)⟩)
              rw [hiff]
              simp only [List.all_cons, Bool.and_eq_true, cFs, q1, true_and]
              constructor <;> intro h <;> exact ⟨h.1, by omega⟩
          · rintro s ⟨u, rfl, hu, hiff, hsum, _⟩
            have h := hiff.2 ⟨rfl, by simp [cFs]⟩
            simp only [cFs] at hsum
            exact ⟨h.1, h.2, by omega⟩
        · rintro ⟨b, s⟩ ⟨h1, h2⟩
          simp only at h1
          subst h1
          refine ⟨⟨fun h => (by cases h), fun h => absurd ⟨h.1, by omega⟩ h2⟩, fun h => (by cases h)⟩
        · rintro s ⟨h1, h2, h3⟩
          exact .pure ⟨⟨fun _ => ⟨h1, by omega⟩, fun _ => rfl⟩, fun _ => by simp only; omega⟩
  · rw [if_neg k3]
    simp only [if_neg k3]
    exact .pure ⟨⟨fun h => (by cases h), fun h => (by cases h.1)⟩, fun h => (by cases h)⟩
termination_by SizeOf.sizeOf f
decreasing_by exact szF_lt hx
theorem ifv_evt (f : Form) (hf : okF f) : Evt (fun n => im_FormValid n f) (validF f) := by
  refine Ex.evt ?_
  unfold im_FormValid
  refine Ex.bind (ifo_ex f hf 40 (by omega) 400 (by omega)) ?_
  rintro ⟨b, s⟩ ⟨r1, _⟩
  refine .pure ?_
  simp only at r1 ⊢
  unfold validF
  rw [Bool.eq_iff_iff, r1]
  simp
theorem ssc_evt (l : List Int) (hl : l.length ≤ mxL) : Evt (fun n => sp_l1Scopes n l) (scB l) := by
  unfold mxL at hl
  unfold sp_l1Scopes
  have hb : scB l = if (List.range (min l.length 25)).all (scP l) = true then decide (l.length ≤ 24) else false := by
    unfold scB
    by_cases h : l.length ≤ 24
    · rw [Nat.min_eq_left (by omega)]
      cases (List.range l.length).all (scP l) <;> simp
    · simp [h]
  rw [hb]
  have step : ∀ i, i < min l.length 25 → (Option.bind ((if (i : Int) < (l.length : Int) then some (decide ((i : Int) ≤ 24)) else some false) : Option (Bool)) (fun (o3 : Bool) => (if o3 = true then Option.bind ((atI l (i : Int)).bind fun e7 => (if e7 < 1 then some true else (if e7 > 99 then some true else (if (i : Int) > 0 then (atI l (w64 ((i : Int) - 1))).bind fun e11 => some (decide (e7 ≤ e11)) else some false))) : Option (Bool)) (fun (o5 : Bool) => (if o5 = true then some (Sum.inl false) else some (Sum.inr (w64 ((i : Int) + 1))))) else some (Sum.inl (decide ((l.length : Int) ≤ 24))))) : Option (Bool ⊕ Int)) = if scP l i = true then some (.inr ((i + 1 : Nat) : Int)) else some (.inl false) := fun i hi => by
    have hi' : i < l.length := by omega
    have hy := List.getElem?_eq_getElem hi'
    rw [if_pos (by omega), decide_eq_true (by omega : (i : Int) ≤ 24)]
    simp only [Option.bind_some, if_true, atI_nat hy, w64_nat (i := i) (by omega), scP, hy]
    by_cases h1 : l[i] < 1
    · rw [if_pos h1]; simp [show ¬ 1 ≤ l[i] by omega]
    rw [if_neg h1]
    by_cases h2 : l[i] > 99
    · rw [if_pos h2]; simp [show ¬ l[i] ≤ 99 by omega]
    rw [if_neg h2]
    by_cases h0 : (i : Int) > 0
    · have e : w64 ((i : Int) - 1) = ((i - 1 : Nat) : Int) := by rw [w_id (by omega) (by omega)]; omega
      have hz := List.getElem?_eq_getElem (l := l) (i := i - 1) (by omega)
      have hi0 : (i == 0) = false := by simp; omega
      rw [if_pos h0, e, atI_nat hz, hi0]
      simp only [Option.bind_some, hz, Bool.false_or]
      by_cases hlt : l[i - 1] < l[i]
      · simp [hlt, show 1 ≤ l[i] by omega, show l[i] ≤ 99 by omega]
      · simp [hlt, show l[i] ≤ l[i - 1] by omega]
    · have hi0 : (i == 0) = true := by simp; omega
      rw [if_neg h0, hi0]
      simp [show 1 ≤ l[i] by omega, show l[i] ≤ 99 by omega]
  refine Evt.scan (L := min l.length 25) (p := scP l) (fun i hi hp => .const ?_) (fun i hi hp => .const ?_) (.const ?_)
  · rw [step i hi, if_pos hp]
  · rw [step i hi, if_neg (by simp [hp])]
  · have e : ((if ((min l.length 25 : Nat) : Int) < (l.length : Int) then some (decide (((min l.length 25 : Nat) : Int) ≤ 24)) else some false) : Option Bool) = some false := by
      by_cases h : ((min l.length 25 : Nat) : Int) < (l.length : Int)
      · rw [if_pos h]; congr 1; simp; omega
      · rw [if_neg h]
    have a1 : decide ((l.length : Int) ≤ 24) = decide (l.length ≤ 24) := by simp only [decide_eq_decide]; omega
    rw [e, a1]; rfl
/-- A loop over a list that looks for one that does not serve. -/
theorem Ex.allI {α ω : Type} {m : Nat → α → Option Bool} {p : α → Bool} {no : ω} {xs : List α} {f : Nat → Unit → Option ω} {Q : ω → Prop} (h : ∀ x ∈ xs, Evt (fun n => m n x) (p x)) (hy : xs.all p = true → Ex (fun n => f n ()) Q) (hn : xs.all p = false → Q no) :
    Ex (fun n => Mx.seqS (Mx.forI (fun (_ : Unit) (_ : Nat) (x : α) => ((m n x).bind fun k => (if (!k) = true then some (Sum.inl no) else some (Sum.inr ())) : Option (ω ⊕ Unit))) 0 xs ()) (f n)) Q := by
  refine Ex.seqS (P := fun o => match o with
    | .inl w => w = no ∧ xs.all p = false
    | .inr _ => xs.all p = true) ?_ ?_ ?_
  · refine Ex.forI (I := fun i q s => (∀ x ∈ q, x ∈ xs) ∧ xs.all p = q.all p) ⟨fun _ h => h, rfl⟩ ?_ ?_
    · rintro i x q s ⟨h1, h2⟩
      refine .bv (h x (h1 x (List.mem_cons_self))) ?_
      cases hp : p x with
      | true => exact .neg (by simp) (.fg ⟨fun y hy => h1 y (List.mem_cons_of_mem _ hy), by rw [h2, List.all_cons, hp, Bool.true_and]⟩)
      | false => exact .pos rfl (.fo ⟨rfl, by rw [h2, List.all_cons, hp, Bool.false_and]⟩)
    · rintro s ⟨_, h2⟩
      exact h2
  · rintro w ⟨rfl, h⟩; exact hn h
  · rintro ⟨⟩ h; exact hy h
theorem sis_evt (f : Form) (hf : okF f) (d : Nat) (hd : d ≤ 40) : Evt (fun n => sp_l1Is n f (d : Int)) (fmB d f) := by
  obtain ⟨o1, o2, o3, o4⟩ := (okF_eq f).1 hf
  refine .succ ?_
  simp only [sp_l1Is]
  by_cases hd0 : d = 0
  · subst hd0
    exact .pos rfl (.pure _)
  obtain ⟨d, rfl⟩ : ∃ e, d = e + 1 := ⟨d - 1, by omega⟩
  refine .neg (by omega) ?_
  have kz : decide ((f.kids.length : Int) = 0) = decide (f.kids.length = 0) := by simp only [decide_eq_decide]; omega
  simp only [fmB]
  refine Ex.evt ?_
  by_cases k1 : f.kind = 1
  · rw [if_pos k1]
    simp only [if_pos k1]
    refine Ex.bind (P := fun b => b = (nameB f.name && (decide (f.n = 0) && (scB f.scopes && decide (f.kids.length = 0))))) ?_ (fun b hb => .pure hb)
    refine .bv (snv_evt _ o1) ?_
    cases hn : nameB f.name with
    | false => exact .neg (by simp) (.pure (by simp))
    | true =>
      refine .pos rfl ?_
      by_cases h2 : f.n = 0
      · refine .pos h2 (.bv (ssc_evt _ o2) ?_)
        cases hs : scB f.scopes with
        | false => exact .neg (by simp) (.pure (by simp))
        | true => exact .pos rfl (.pure (by simp [kz, h2]))
      · exact .neg h2 (.pure (by simp [h2]))
  rw [if_neg k1]
  simp only [if_neg k1]
  by_cases k2 : f.kind = 2
  · rw [if_pos k2]
    simp only [if_pos k2]
    refine Ex.bind (P := fun b => b = (decide (f.name = []) && ((decide (0 ≤ f.n) && decide (f.n ≤ 999)) && (decide (f.scopes.length = 0) && decide (f.kids.length = 0))))) ?_ (fun b hb => .pure hb)
    by_cases h1 : f.name = []
    · refine .pos h1 ?_
      by_cases h2 : f.n ≥ 0
      · refine .pos h2 ?_
        by_cases h4 : f.n ≤ 999
        · refine .pos h4 ?_
          by_cases h3 : f.scopes.length = 0
          · exact .pos (by omega) (.pure (by rw [kz, decide_eq_true h1, decide_eq_true (show 0 ≤ f.n from h2), decide_eq_true h4, decide_eq_true h3]; simp))
          · exact .neg (by omega) (.pure (by rw [decide_eq_false h3]; simp))
        · exact .neg h4 (.pure (by rw [decide_eq_false h4]; simp))
      · exact .neg h2 (.pure (by rw [decide_eq_false (show ¬ 0 ≤ f.n from h2)]; simp))
    · exact .neg h1 (.pure (by simp [h1]))
  rw [if_neg k2]
  simp only [if_neg k2]
  by_cases k3 : f.kind = 3
  · simp only [k3, not_true_eq_false, if_false, if_true]
    refine Ex.bind (P := fun b => b = !(decide (f.name = []) && (decide (f.n = 0) && decide (f.scopes.length = 0)))) ?_ ?_
    · by_cases h1 : f.name = []
      · refine .neg (by simp [h1]) ?_
        by_cases h2 : f.n = 0
        · refine .neg (by simp [h2]) (.pure ?_)
          by_cases h3 : f.scopes.length = 0
          · have h3' : ¬ ¬ (f.scopes.length : Int) = 0 := by omega
            rw [decide_eq_false h3', decide_eq_true h1, decide_eq_true h2, decide_eq_true h3]; rfl
          · have h3' : ¬ (f.scopes.length : Int) = 0 := by omega
            rw [decide_eq_true h3', decide_eq_true h1, decide_eq_true h2, decide_eq_false h3]; rfl
        · exact .pos h2 (.pure (by simp [h1, h2]))
      · exact .pos h1 (.pure (by simp [h1]))
    · rintro b rfl
      have hq' : (decide (f.name = []) && (decide (f.n = 0) && (decide (f.scopes.length = 0) && f.kids.all (fmB d)))) = ((decide (f.name = []) && (decide (f.n = 0) && decide (f.scopes.length = 0))) && f.kids.all (fmB d)) := by simp only [Bool.and_assoc]
      rw [hq']
      cases (decide (f.name = []) && (decide (f.n = 0) && decide (f.scopes.length = 0))) with
      | false => exact .pos rfl (.pure rfl)
      | true =>
        refine .neg (by simp) ?_
        have e2 : w64 (((d + 1 : Nat) : Int) - 1) = (d : Int) := by rw [w_id (by omega) (by omega)]; omega
        rw [e2]
        exact Ex.allI (m := fun n x => sp_l1Is n x (d : Int)) (p := fmB d) (fun x hx => sis_evt x (okFs_iff.1 o4 x hx) d (by omega)) (fun h => .pure (by rw [h]; rfl)) (fun h => by rw [h]; rfl)
  · simp only [if_neg k3]
    refine Ex.bind (P := fun b => b = true) (.pos k3 (.pure rfl)) ?_
    rintro b rfl
    exact .pos rfl (.pure rfl)
termination_by SizeOf.sizeOf f
decreasing_by exact szF_lt hx
/-- A sum over a list. -/
theorem Ex.sumL {α : Type} {m : Nat → α → Option Int} {c : α → Nat} {cs : List α → Nat} (hn : cs [] = 0) (hc : ∀ x r, cs (x :: r) = c x + cs r) {xs : List α} {b : Nat} (hb : b + cs xs ≤ 4611686018427387904) (h : ∀ x ∈ xs, Evt (fun n => m n x) (c x : Int)) :
    Evt (fun n => Mx.forL (fun (s : Int) (_ : Nat) (x : α) => (m n x).bind fun k => some (w64 (s + k))) 0 xs (b : Int)) ((b + cs xs : Nat) : Int) := by
  refine Ex.evt ?_
  refine Ex.forL (I := fun i q s => ∃ u : Nat, s = (u : Int) ∧ u + cs q = b + cs xs ∧ ∀ x ∈ q, x ∈ xs) ⟨b, rfl, rfl, fun _ h => h⟩ ?_ ?_
  · rintro i x q s ⟨u, rfl, h1, h2⟩
    refine .bv (h x (h2 x (List.mem_cons_self))) (.pure ⟨u + c x, ?_, by rw [hc] at h1; omega, fun y hy => h2 y (List.mem_cons_of_mem _ hy)⟩)
    rw [hc] at h1
    rw [w_id (by omega) (by omega)]; omega
  · rintro s ⟨u, rfl, h1, _⟩
    rw [hn] at h1
    rw [← h1]; rfl
theorem sct_evt (f : Form) (hw : cF f ≤ 4611686018427387904) : Evt (fun n => sp_l1Count n f) (cF f : Int) := by
  have hc := cF_eq f
  refine .succ ?_
  simp only [sp_l1Count]
  rw [hc]
  refine .bind (a := ((1 + cFs f.kids : Nat) : Int)) ?_ (.pure _)
  exact Ex.sumL (b := 1) (c := cF) (cs := cFs) rfl (fun _ _ => rfl) (by omega) (fun x hx => sct_evt x (by have := cFs_mem hx; omega))
termination_by SizeOf.sizeOf f
decreasing_by exact szF_lt hx
theorem sfv_evt (f : Form) (hf : okF f) (hw : cF f ≤ 4611686018427387904) : Evt (fun n => sp_FormValid n f) (validF f) := by
  refine Ex.evt ?_
  unfold sp_FormValid validF
  refine Ex.bind (P := fun b => b = (fmB 40 f && decide (cF f ≤ 400))) ?_ (fun b hb => .pure hb)
  refine .bv (sis_evt f hf 40 (by omega)) ?_
  cases fmB 40 f with
  | false => exact .neg (by simp) (.pure rfl)
  | true =>
    refine .pos rfl (.bv (sct_evt f hw) (.pure ?_))
    rw [Bool.true_and]; simp only [decide_eq_decide]; omega
def all2 {α β : Type} (p : α → β → Bool) : List α → List β → Bool
  | [], [] => true
  | x :: r, y :: s => p x y && all2 p r s
  | _, _ => false
theorem Ex.eqI {α : Type} {m : Nat → α → α → Option Bool} {p : α → α → Bool} {xs ys : List α} (hl : xs.length = ys.length) (h : ∀ x ∈ xs, ∀ y, Evt (fun n => m n x y) (p x y)) :
    Evt (fun n => Mx.seqS (Mx.forI (fun (_ : Unit) (i : Nat) (x : α) => ((atI ys (i : Int)).bind fun e => (m n x e).bind fun k => (if (!k) = true then some (Sum.inl false) else some (Sum.inr ())) : Option (Bool ⊕ Unit))) 0 xs ()) (fun _ => some true)) (all2 p xs ys) := by
  refine Ex.evt ?_
  refine Ex.seqS (P := fun o => match o with
    | .inl w => w = false ∧ all2 p xs ys = false
    | .inr _ => all2 p xs ys = true) ?_ ?_ ?_
  · refine Ex.forI (I := fun i q s => (∀ x ∈ q, x ∈ xs) ∧ ∃ z, ys.drop i = z ∧ q.length = z.length ∧ all2 p xs ys = all2 p q z) ⟨fun _ h => h, ys, rfl, hl, rfl⟩ ?_ ?_
    · rintro i x q s ⟨h1, z, hz, h3, h2⟩
      cases z with
      | nil => simp at h3
      | cons y z =>
        obtain ⟨g1, g2, _, _⟩ := drop_hd hz
        refine .bp y (atI_nat g1) (.bv (h x (h1 x (List.mem_cons_self)) y) ?_)
        cases hp : p x y with
        | true => exact .neg (by simp) (.fg ⟨fun w hw => h1 w (List.mem_cons_of_mem _ hw), z, g2, by simpa using h3, by rw [h2]; simp only [all2, hp, Bool.true_and]⟩)
        | false => exact .pos rfl (.fo ⟨rfl, by rw [h2]; simp only [all2, hp, Bool.false_and]⟩)
    · rintro s ⟨_, z, hz, h3, h2⟩
      have : z = [] := List.eq_nil_of_length_eq_zero (by simpa using h3.symm)
      subst this
      exact h2
  · rintro w ⟨rfl, h⟩; exact h.symm
  · rintro ⟨⟩ h; exact .pure h.symm
theorem all2_eq {α : Type} [DecidableEq α] : ∀ {xs ys : List α}, all2 (fun x y => decide (x = y)) xs ys = decide (xs = ys)
  | [], [] => rfl
  | x :: r, y :: s => by
    simp only [all2, all2_eq (xs := r) (ys := s)]
    rw [Bool.eq_iff_iff]; simp
  | [], _ :: _ => by simp [all2]
  | _ :: _, [] => by simp [all2]
theorem eqIntsE {a b : List Int} : Evt (fun (_ : Nat) => (if ¬ (a.length : Int) = (b.length : Int) then some false else seqS (forI (fun (s5 : Unit) (i4 : Nat) (x7 : Int) => ((atI b (i4 : Int)).bind fun e12 => (if ¬ x7 = e12 then some (Sum.inl false) else some (Sum.inr ())) : Option (Bool ⊕ Unit))) 0 a ()) (fun (s5 : Unit) => some true))) (decide (a = b)) := by
  by_cases h : a.length = b.length
  · refine .neg (by omega) ?_
    have := Ex.eqI (m := fun _ (x y : Int) => some (decide (x = y))) (p := fun x y => decide (x = y)) h (fun x _ y => .pure _)
    rw [all2_eq] at this
    simpa only [Option.bind_some, Bool.not_eq_true', decide_eq_false_iff_not] using this
  · refine .pos (by omega) ?_
    have : ¬ a = b := fun e => h (by rw [e])
    simp only [this, decide_false]; exact .pure _
mutual
def sameF : Form → Form → Bool
  | ⟨k, nm, n, sc, kids⟩, b => decide (k = b.kind) && (decide (nm = b.name) && (decide (n = b.n) && (decide (sc = b.scopes) && sameFs kids b.kids)))
def sameFs : List Form → List Form → Bool
  | [], [] => true
  | x :: r, y :: s => sameF x y && sameFs r s
  | _, _ => false
end
mutual
def sameC : Core → Core → Bool
  | ⟨k, id, nm, n, ids, dt, kids⟩, b => decide (k = b.kind) && (decide (id = b.id) && (decide (nm = b.name) && (decide (n = b.n) && (decide (ids = b.ids) && (sameF dt b.data && sameCs kids b.kids)))))
def sameCs : List Core → List Core → Bool
  | [], [] => true
  | x :: r, y :: s => sameC x y && sameCs r s
  | _, _ => false
end
mutual
theorem sameF_iff : ∀ {a b : Form}, sameF a b = true ↔ a = b
  | ⟨k, nm, n, sc, kids⟩, ⟨k', nm', n', sc', kids'⟩ => by
    simp only [sameF, Bool.and_eq_true, decide_eq_true_eq, sameFs_iff, Form.mk.injEq]
theorem sameFs_iff : ∀ {a b : List Form}, sameFs a b = true ↔ a = b
  | [], [] => by simp [sameFs]
  | x :: r, y :: s => by simp only [sameFs, Bool.and_eq_true, sameF_iff, sameFs_iff, List.cons.injEq]
  | [], _ :: _ => by simp [sameFs]
  | _ :: _, [] => by simp [sameFs]
end
mutual
theorem sameC_iff : ∀ {a b : Core}, sameC a b = true ↔ a = b
  | ⟨k, id, nm, n, ids, dt, kids⟩, ⟨k', id', nm', n', ids', dt', kids'⟩ => by
    simp only [sameC, Bool.and_eq_true, decide_eq_true_eq, sameCs_iff, sameF_iff, Core.mk.injEq]
theorem sameCs_iff : ∀ {a b : List Core}, sameCs a b = true ↔ a = b
  | [], [] => by simp [sameCs]
  | x :: r, y :: s => by simp only [sameCs, Bool.and_eq_true, sameC_iff, sameCs_iff, List.cons.injEq]
  | [], _ :: _ => by simp [sameCs]
  | _ :: _, [] => by simp [sameCs]
end
theorem sameFs_all : ∀ {a b : List Form}, sameFs a b = all2 sameF a b
  | [], [] => by simp [sameFs, all2]
  | x :: r, y :: s => by simp only [sameFs, all2, sameFs_all (a := r)]
  | [], _ :: _ => by simp [sameFs, all2]
  | _ :: _, [] => by simp [sameFs, all2]
theorem sameCs_all : ∀ {a b : List Core}, sameCs a b = all2 sameC a b
  | [], [] => by simp [sameCs, all2]
  | x :: r, y :: s => by simp only [sameCs, all2, sameCs_all (a := r)]
  | [], _ :: _ => by simp [sameCs, all2]
  | _ :: _, [] => by simp [sameCs, all2]
theorem sameF_eq (a b : Form) : sameF a b = (decide (a.kind = b.kind) && (decide (a.name = b.name) && (decide (a.n = b.n) && (decide (a.scopes = b.scopes) && sameFs a.kids b.kids)))) := by cases a; simp only [sameF]
theorem sameC_eq (a b : Core) : sameC a b = (decide (a.kind = b.kind) && (decide (a.id = b.id) && (decide (a.name = b.name) && (decide (a.n = b.n) && (decide (a.ids = b.ids) && (sameF a.data b.data && sameCs a.kids b.kids)))))) := by cases a; simp only [sameC]
theorem sameFs_len {a b : List Form} (h : ¬ a.length = b.length) : sameFs a b = false := by
  cases hs : sameFs a b with
  | false => rfl
  | true => exact absurd (by rw [sameFs_iff.1 hs]) h
theorem sameCs_len {a b : List Core} (h : ¬ a.length = b.length) : sameCs a b = false := by
  cases hs : sameCs a b with
  | false => rfl
  | true => exact absurd (by rw [sameCs_iff.1 hs]) h
theorem ieqi_evt (a b : List Int) : Evt (fun n => slices_Equal_int n a b) (decide (a = b)) := eqIntsE
theorem ifs_evt (a b : Form) : Evt (fun n => im_FormSame n a b) (sameF a b) := by
  refine .succ ?_
  simp only [im_FormSame]
  rw [sameF_eq]
  refine Ex.evt ?_
  refine Ex.bind (P := fun o => o = (decide (a.kind = b.kind) && (decide (a.name = b.name) && (decide (a.n = b.n) && (decide (a.scopes = b.scopes) && sameFs a.kids b.kids))))) ?_ (fun _ h => .pure h)
  by_cases h1 : a.kind = b.kind
  · refine .pos h1 ?_
    by_cases h2 : a.name = b.name
    · refine .pos h2 ?_
      by_cases h3 : a.n = b.n
      · refine .pos h3 (.bv (ieqi_evt _ _) ?_)
        rw [decide_eq_true h1, decide_eq_true h2, decide_eq_true h3]
        simp only [Bool.true_and]
        by_cases h4 : a.scopes = b.scopes
        · rw [decide_eq_true h4]
          refine .pos rfl ?_
          have hk : Evt (fun n => slices_EqualFunc_impl_Form__im_FormSame n a.kids b.kids) (sameFs a.kids b.kids) := by
            refine .succ ?_
            simp only [slices_EqualFunc_impl_Form__im_FormSame]
            by_cases hl : a.kids.length = b.kids.length
            · refine .neg (by omega) ?_
              rw [sameFs_all]
              exact Ex.eqI (m := fun n x e => im_FormSame n x e) hl (fun x hx y => ifs_evt x y)
            · rw [sameFs_len hl]; exact .pos (by omega) (.pure _)
          exact .bv hk (.pure rfl)
        · rw [decide_eq_false h4]
          exact .neg (by simp) (.pure rfl)
      · exact .neg h3 (.pure (by rw [decide_eq_false h3]; simp))
    · exact .neg h2 (.pure (by rw [decide_eq_false h2]; simp))
  · exact .neg h1 (.pure (by rw [decide_eq_false h1]; rfl))
termination_by SizeOf.sizeOf a
decreasing_by exact szF_lt hx
theorem isc_evt (a b : Core) : Evt (fun n => im_sameCore n a b) (sameC a b) := by
  refine .succ ?_
  simp only [im_sameCore]
  rw [sameC_eq]
  refine Ex.evt ?_
  refine Ex.bind (P := fun o => o = (decide (a.kind = b.kind) && (decide (a.id = b.id) && (decide (a.name = b.name) && (decide (a.n = b.n) && (decide (a.ids = b.ids) && (sameF a.data b.data && sameCs a.kids b.kids))))))) ?_ (fun _ h => .pure h)
  by_cases h1 : a.kind = b.kind
  · refine .pos h1 ?_
    by_cases h0 : a.id = b.id
    · refine .pos h0 ?_
      by_cases h2 : a.name = b.name
      · refine .pos h2 ?_
        by_cases h3 : a.n = b.n
        · refine .pos h3 (.bv (ieqi_evt _ _) ?_)
          rw [decide_eq_true h1, decide_eq_true h2, decide_eq_true h3, decide_eq_true h0]
          simp only [Bool.true_and]
          by_cases h4 : a.ids = b.ids
          · rw [decide_eq_true h4]
            refine .pos rfl (.bv (ifs_evt _ _) ?_)
            cases hd : sameF a.data b.data with
            | false => exact .neg (by simp) (.pure rfl)
            | true =>
              refine .pos rfl ?_
              have hk : Evt (fun n => slices_EqualFunc_impl_Core__im_sameCore n a.kids b.kids) (sameCs a.kids b.kids) := by
                refine .succ ?_
                simp only [slices_EqualFunc_impl_Core__im_sameCore]
                by_cases hl : a.kids.length = b.kids.length
                · refine .neg (by omega) ?_
                  rw [sameCs_all]
                  exact Ex.eqI (m := fun n x e => im_sameCore n x e) hl (fun x hx y => isc_evt x y)
                · rw [sameCs_len hl]; exact .pos (by omega) (.pure _)
              exact .bv hk (.pure rfl)
          · rw [decide_eq_false h4]
            exact .neg (by simp) (.pure rfl)
        · exact .neg h3 (.pure (by rw [decide_eq_false h3]; simp))
      · exact .neg h2 (.pure (by rw [decide_eq_false h2]; simp))
    · exact .neg h0 (.pure (by rw [decide_eq_false h0]; simp))
  · exact .neg h1 (.pure (by rw [decide_eq_false h1]; rfl))
termination_by SizeOf.sizeOf a
decreasing_by exact szC_lt hx
theorem seqi_evt (a b : List Int) : Evt (fun n => sp_l1Ints n a b) (decide (a = b)) := eqIntsE
theorem sfs_evt (a b : Form) : Evt (fun n => sp_FormSame n a b) (sameF a b) := by
  refine .succ ?_
  simp only [sp_FormSame]
  rw [sameF_eq]
  refine Ex.evt ?_
  refine Ex.bind (P := fun o => o = !(decide (a.kind = b.kind) && (decide (a.name = b.name) && (decide (a.n = b.n) && (decide (a.scopes = b.scopes) && decide (a.kids.length = b.kids.length)))))) ?_ ?_
  · by_cases h1 : a.kind = b.kind
    · refine .neg (fun h => h h1) ?_
      by_cases h2 : a.name = b.name
      · refine .neg (fun h => h h2) ?_
        by_cases h3 : a.n = b.n
        · refine .neg (fun h => h h3) (.bv (seqi_evt _ _) ?_)
          rw [decide_eq_true h1, decide_eq_true h2, decide_eq_true h3]
          simp only [Bool.true_and]
          by_cases h4 : a.scopes = b.scopes
          · rw [decide_eq_true h4]
            refine .neg (by simp) (.pure ?_)
            by_cases h5 : a.kids.length = b.kids.length
            · rw [decide_eq_true h5, decide_eq_false (show ¬ ¬ (a.kids.length : Int) = (b.kids.length : Int) by omega)]; rfl
            · rw [decide_eq_false h5, decide_eq_true (show ¬ (a.kids.length : Int) = (b.kids.length : Int) by omega)]; rfl
          · rw [decide_eq_false h4]
            exact .pos rfl (.pure rfl)
        · exact .pos h3 (.pure (by rw [decide_eq_false h3]; simp))
      · exact .pos h2 (.pure (by rw [decide_eq_false h2]; simp))
    · exact .pos h1 (.pure (by rw [decide_eq_false h1]; rfl))
  · rintro o rfl
    by_cases h5 : a.kids.length = b.kids.length
    · rw [decide_eq_true h5]
      cases e1 : decide (a.kind = b.kind) with
      | false => exact .pos rfl (.pure rfl)
      | true =>
        cases e2 : decide (a.name = b.name) with
        | false => exact .pos rfl (.pure rfl)
        | true =>
          cases e3 : decide (a.n = b.n) with
          | false => exact .pos rfl (.pure rfl)
          | true =>
            cases e4 : decide (a.scopes = b.scopes) with
            | false => exact .pos rfl (.pure rfl)
            | true =>
              refine .neg (by simp) ?_
              simp only [Bool.true_and]
              rw [sameFs_all]
              exact (Ex.eqI (m := fun n x e => sp_FormSame n x e) h5 (fun x hx y => sfs_evt x y)).ex
    · rw [decide_eq_false h5, sameFs_len h5]
      refine .pos (by simp) (.pure (by simp))
termination_by SizeOf.sizeOf a
decreasing_by exact szF_lt hx
def zF : Form := ⟨0, [], 0, [], []⟩
mutual
def allSc : Form → List Int
  | ⟨_, _, _, sc, kids⟩ => sc ++ allScs kids
def allScs : List Form → List Int
  | [] => []
  | x :: r => allSc x ++ allScs r
end
mutual
def strF : Form → Form
  | ⟨k, nm, n, _, kids⟩ => ⟨k, nm, n, [], strFs kids⟩
def strFs : List Form → List Form
  | [] => []
  | x :: r => strF x :: strFs r
end
def noSc (f : Form) : Bool := decide (allSc f = [])
theorem allSc_eq (f : Form) : allSc f = f.scopes ++ allScs f.kids := by cases f; simp only [allSc]
theorem strF_eq (f : Form) : strF f = ⟨f.kind, f.name, f.n, [], strFs f.kids⟩ := by cases f; simp only [strF]
theorem strFs_map : ∀ l : List Form, strFs l = l.map strF
  | [] => rfl
  | x :: r => by simp only [strFs, List.map_cons, strFs_map r]
mutual
theorem allSc_le : ∀ f : Form, (allSc f).length ≤ wF f
  | ⟨k, nm, n, sc, kids⟩ => by have := allScs_le kids; simp only [allSc, wF, List.length_append]; omega
theorem allScs_le : ∀ l : List Form, (allScs l).length ≤ wFs l
  | [] => by simp [allScs]
  | x :: r => by have := allSc_le x; have := allScs_le r; simp only [allScs, wFs, List.length_append]; omega
end
mutual
theorem str_same : ∀ f : Form, sameF (strF f) f = noSc f
  | ⟨k, nm, n, sc, kids⟩ => by
    have ih := str_sames kids
    rw [Bool.eq_iff_iff]
    simp only [strF, sameF, noSc, allSc, ih, decide_true, Bool.true_and, Bool.and_eq_true, decide_eq_true_eq, List.append_eq_nil_iff]
    exact ⟨fun ⟨a, b⟩ => ⟨a.symm, b⟩, fun ⟨a, b⟩ => ⟨a.symm, b⟩⟩
theorem str_sames : ∀ l : List Form, sameFs (strFs l) l = decide (allScs l = [])
  | [] => rfl
  | x :: r => by
    have ih := str_same x
    have ih2 := str_sames r
    rw [Bool.eq_iff_iff]
    simp only [strFs, sameFs, ih, ih2, noSc, allScs, Bool.and_eq_true, decide_eq_true_eq, List.append_eq_nil_iff]
end
def flB (c : Core) : Bool :=
  (if c.kind = 1 then decide (1 ≤ c.id) && decide (c.id ≤ 999) else decide (c.id = 0)) &&
  ((if c.kind = 2 then nameB c.name else decide (c.name = [])) &&
  ((if c.kind = 3 then decide (0 ≤ c.n) && decide (c.n ≤ 999) else decide (c.n = 0)) &&
  ((if c.kind = 4 then validF c.data && noSc c.data else sameF c.data zF) &&
   (decide (c.kind = 5) || decide (c.ids = [])))))
def kdB (k : Int) (m : Nat) : Bool := if k = 1 ∨ k = 2 ∨ k = 3 ∨ k = 4 then decide (m = 0) else if k = 5 then decide (m = 1) else if k = 6 then decide (1 ≤ m) else if k = 7 then decide (m = 3) else false
def adB : List Int → List Int → Option (List Int)
  | sc, [] => some sc
  | sc, x :: r => if (1 ≤ x ∧ x ≤ 999) ∧ x ∉ sc then adB (sc ++ [x]) r else none
theorem adB_len : ∀ {ids sc s : List Int}, adB sc ids = some s → s.length = sc.length + ids.length
  | [], sc, s, h => by cases h; rfl
  | x :: r, sc, s, h => by
    simp only [adB] at h
    split at h
    · have := adB_len h; simp at this ⊢; omega
    · cases h
def crB : Nat → List Int → Core → Bool
  | 0, _, _ => false
  | d + 1, sc, c => kdB c.kind c.kids.length && (flB c && ((!decide (c.kind = 1) || decide (c.id ∈ sc)) && (match adB sc c.ids with
    | none => false
    | some s => c.kids.all (crB d s))))
mutual
def cC : Core → Nat
  | ⟨_, _, _, _, _, _, kids⟩ => 1 + cCs kids
def cCs : List Core → Nat
  | [] => 0
  | x :: r => cC x + cCs r
end
theorem cC_eq (f : Core) : cC f = 1 + cCs f.kids := by cases f; simp only [cC]
mutual
theorem cC_le : ∀ f : Core, cC f ≤ wC f + 1
  | ⟨k, id, nm, n, ids, dt, kids⟩ => by have := cCs_le kids; simp only [cC, wC]; omega
theorem cCs_le : ∀ l : List Core, cCs l ≤ wCs l + l.length
  | [] => by simp [cCs]
  | x :: r => by have := cC_le x; have := cCs_le r; simp only [cCs, wCs, List.length_cons]; omega
end
theorem cCs_mem : ∀ {l : List Core} {x : Core}, x ∈ l → cC x ≤ cCs l
  | y :: r, x, h => by
    simp only [cCs]
    rcases List.mem_cons.1 h with rfl | h
    · omega
    · have := cCs_mem h; omega
def validC (c : Core) : Bool := crB 120 [] c && decide (cC c ≤ 600)
theorem icon_eq (n : Nat) (l : List Int) (x : Int) : slices_Contains_int n l x = some (decide (x ∈ l)) := by
  unfold slices_Contains_int slices_Index_int
  have main : ∀ (l : List Int) (i : Nat), ∃ k : Int, seqS (Mx.forI (fun (_ : Unit) (i : Nat) (y : Int) => ((if x = y then some (Sum.inl (i : Int)) else some (Sum.inr ())) : Option (Int ⊕ Unit))) i l ()) (fun _ => some (-1)) = some k ∧ (k ≥ 0 ↔ x ∈ l) := by
    intro l
    induction l with
    | nil => intro i; exact ⟨-1, rfl, by simp⟩
    | cons y r ih =>
      intro i
      by_cases h : x = y
      · subst h
        exact ⟨(i : Int), by simp [Mx.forI, Mx.seqS], by simp⟩
      · obtain ⟨k, h1, h2⟩ := ih (i + 1)
        refine ⟨k, ?_, by rw [h2]; simp [h]⟩
        rw [← h1]
        simp [Mx.forI, h]
  obtain ⟨k, h1, h2⟩ := main l 0
  rw [h1, Option.bind_some]
  congr 1
  rw [Bool.eq_iff_iff, decide_eq_true_eq, decide_eq_true_eq]; exact h2
theorem iconv_eq (n : Nat) (l : List Int) (x : Int) : slices_Contains_int_v n l x = some (decide (x ∈ l)) := icon_eq n l x
theorem ies_evt (f : Form) (w : List Int) (hw : w.length + wF f ≤ 1073741824) : Evt (fun n => im_eachForm__im_ScopesOf_1 n f w) (w ++ allSc f) := by
  have he := wF_eq f
  refine .succ ?_
  simp only [im_eachForm__im_ScopesOf_1, im_ScopesOf_1]
  refine Ex.evt ?_
  rw [apB_ok (by omega)]
  simp only [Option.bind_some]
  refine Ex.bind (P := fun s => s = w ++ allSc f) ?_ (fun s hs => .pure hs)
  refine Ex.forL (I := fun i q s => s ++ allScs q = w ++ allSc f ∧ s.length + wFs q + q.length ≤ 1073741824 ∧ ∀ x ∈ q, x ∈ f.kids) ⟨by rw [allSc_eq, List.append_assoc], by simp; omega, fun _ h => h⟩ ?_ ?_
  · rintro i x q s ⟨h1, h2, h3⟩
    simp only [wFs, List.length_cons] at h2
    have g4 := h3 x (List.mem_cons_self)
    refine .bv (ies_evt x s (by omega)) (.pure ⟨?_, ?_, fun y hy => h3 y (List.mem_cons_of_mem _ hy)⟩)
    · rw [← h1]; simp only [allScs, List.append_assoc]
    · have := allSc_le x
      simp only [List.length_append]; omega
  · rintro s ⟨h1, _, _⟩
    simpa [allScs] using h1
termination_by SizeOf.sizeOf f
decreasing_by exact szF_lt g4
theorem compact_nil {l : List Int} : (Lib.compact l).length = 0 ↔ l = [] := by
  constructor
  · intro h
    cases l with
    | nil => rfl
    | cons x r =>
      exfalso
      have h : Lib.compact (x :: r) = [] := List.eq_nil_of_length_eq_zero h
      unfold Lib.compact Lib.compactUpTo at h
      rw [List.map_eq_nil_iff, List.filter_eq_nil_iff] at h
      exact h 0 (by simp) (by simp [Lib.keeps])
  · rintro rfl; rfl
theorem iso_evt (f : Form) (hw : wF f ≤ 1073741824) (hv : validF f = true) : Ex (fun n => im_ScopesOf n f) (fun r => decide ((r.length : Int) > 0) = !noSc f) := by
  unfold im_ScopesOf
  refine .bv (ifv_evt f (okF_w f hw)) ?_
  rw [hv]
  refine .neg (by simp) (.bv (ies_evt f [] (by simp; omega)) ?_)
  have hl := allSc_le f
  rw [List.nil_append]
  unfold slices_Sort_int_v slices_Compact_int_v
  refine .bp _ (if_pos (by omega)) (.bp () (lenB_of (by simp)) (.bp _ rfl (.pure ?_)))
  unfold noSc
  generalize hs : (allSc f).mergeSort (fun x y => decide (x ≤ y)) = s
  have hsl : s.length = (allSc f).length := by rw [← hs]; simp
  by_cases h : allSc f = []
  · have : s = [] := List.eq_nil_of_length_eq_zero (by rw [hsl, h]; rfl)
    rw [this, h]; rfl
  · have h1 : s ≠ [] := fun e => h (List.eq_nil_of_length_eq_zero (by rw [← hsl, e]; rfl))
    have h2 : (Lib.compact s).length ≠ 0 := fun e => h1 (compact_nil.1 e)
    rw [decide_eq_true (by omega), decide_eq_false h]; rfl
theorem iad_ex (sc ids : List Int) (hl : sc.length + ids.length ≤ 1073741824) {ω : Type} (no : ω) (N : Nat) : Mx.forI (fun (s41 : List Int) (i40 : Nat) (x43 : Int) => (Option.bind ((im_within N x43 1 999).bind fun k51 => (if (!k51) = true then some true else (slices_Contains_int_v N s41 x43).bind fun k53 => some k53) : Option (Bool)) (fun (o48 : Bool) => (if o48 = true then some (Sum.inl no) else (apB 8 s41 [x43]).bind fun z50 => some (Sum.inr z50))) : Option (ω ⊕ (List Int)))) 0 ids sc = some (match adB sc ids with
    | none => .inl no
    | some s => .inr s) := by
  have main : ∀ (ids sc : List Int) (i : Nat), sc.length + ids.length ≤ 1073741824 → Mx.forI (fun (s41 : List Int) (i40 : Nat) (x43 : Int) => (Option.bind ((im_within N x43 1 999).bind fun k51 => (if (!k51) = true then some true else (slices_Contains_int_v N s41 x43).bind fun k53 => some k53) : Option (Bool)) (fun (o48 : Bool) => (if o48 = true then some (Sum.inl no) else (apB 8 s41 [x43]).bind fun z50 => some (Sum.inr z50))) : Option (ω ⊕ (List Int)))) i ids sc = some (match adB sc ids with
    | none => .inl no
    | some s => .inr s) := by
    simp only [iw_eq, iconv_eq, Option.bind_some]
    intro ids
    induction ids with
    | nil => intro sc i _; rfl
    | cons x r ih =>
      intro sc i hb
      simp only [List.length_cons] at hb
      simp only [Mx.forI, adB]
      by_cases h1 : 1 ≤ x ∧ x ≤ 999
      · simp only [h1.1, h1.2, decide_true, Bool.and_self, Bool.not_true, Bool.false_eq_true, if_false, Option.bind_some, true_and, and_self]
        by_cases h2 : x ∈ sc
        · simp only [h2, decide_true, if_true, Option.bind_some, not_true_eq_false, if_false]
        · simp only [h2, decide_false, Bool.false_eq_true, if_false, not_false_eq_true, if_true]
          rw [apB_ok (by simp; omega)]
          simp only [Option.bind_some]
          exact ih (sc ++ [x]) (i + 1) (by simp; omega)
      · have h1' : (decide (1 ≤ x) && decide (x ≤ 999)) = false := by
          rw [Bool.eq_false_iff]; simpa using h1
        simp only [h1', Bool.not_false, if_true, Option.bind_some, h1, false_and, if_false]
  exact main ids sc 0 hl
def fl4 (c : Core) : Bool :=
  (if c.kind = 1 then decide (1 ≤ c.id) && decide (c.id ≤ 999) else decide (c.id = 0)) &&
  ((if c.kind = 2 then nameB c.name else decide (c.name = [])) &&
  ((if c.kind = 3 then decide (0 ≤ c.n) && decide (c.n ≤ 999) else decide (c.n = 0)) &&
  (if c.kind = 4 then validF c.data && noSc c.data else sameF c.data zF)))
theorem flB_eq (c : Core) : flB c = (fl4 c && (decide (c.kind = 5) || decide (c.ids = []))) := by simp only [flB, fl4, Bool.and_assoc]
theorem crB_no5 {c : Core} (h : c.kind ≠ 5) (d : Nat) (sc : List Int) : crB (d + 1) sc c = (kdB c.kind c.kids.length && (fl4 c && ((!decide (c.kind = 1) || decide (c.id ∈ sc)) && (decide (c.ids = []) && c.kids.all (crB d sc))))) := by
  simp only [crB, flB_eq, decide_eq_false h, Bool.false_or]
  by_cases hi : c.ids = []
  · rw [hi]
    simp only [adB, decide_true, Bool.and_true, Bool.true_and]
  · rw [decide_eq_false hi]; simp
theorem bare_eq (c : Core) (a : Int) (b : List UInt8) (e : Int) (g : List Int) (dt : Form) : sameC c ⟨c.kind, a, b, e, g, dt, c.kids⟩ = (decide (c.id = a) && (decide (c.name = b) && (decide (c.n = e) && (decide (c.ids = g) && sameF c.data dt)))) := by
  rw [sameC_eq]
  simp only [decide_true, Bool.true_and, sameCs_iff.2, Bool.and_true]
theorem kd1 (m : Nat) : kdB 1 m = decide (m = 0) := by simp [kdB]
theorem kd2 (m : Nat) : kdB 2 m = decide (m = 0) := by simp [kdB]
theorem kd3 (m : Nat) : kdB 3 m = decide (m = 0) := by simp [kdB]
theorem kd4 (m : Nat) : kdB 4 m = decide (m = 0) := by simp [kdB]
theorem kd5 (m : Nat) : kdB 5 m = decide (m = 1) := by simp [kdB]
theorem kd6 (m : Nat) : kdB 6 m = decide (1 ≤ m) := by simp [kdB]
theorem kd7 (m : Nat) : kdB 7 m = decide (m = 3) := by simp [kdB]
theorem len_dec (c : Core) (k : Nat) : decide ((c.kids.length : Int) = (k : Int)) = decide (c.kids.length = k) := by simp only [decide_eq_decide]; omega
theorem ico_ex (c : Core) (d : Nat) (hd : d ≤ 120) (sc : List Int) (hw : sc.length + wC c ≤ 1073741824) (L : Nat) (hL : L ≤ 600) : Ex (fun n => im_coreOk n c sc ((121 - d : Nat) : Int) (L : Int)) (fun r => (r.1 = true ↔ crB d sc c = true ∧ cC c ≤ L) ∧ (r.1 = true → r.2 = ((L - cC c : Nat) : Int))) := by
  have he := wC_eq c
  have hc := cC_eq c
  refine .succ ?_
  simp only [im_coreOk]
  have e1 : w64 ((L : Int) - 1) = (L : Int) - 1 := w_id (by omega) (by omega)
  rw [e1]
  by_cases h0 : (L : Int) - 1 < 0
  · simp only [if_pos h0, Option.bind_some, if_true]
    refine .pure ⟨⟨fun h => (by cases h), fun h => (by omega)⟩, fun h => (by cases h)⟩
  rw [if_neg h0]
  by_cases hd0 : d = 0
  · subst hd0
    simp only [show decide (((121 - 0 : Nat) : Int) > 120) = true from rfl, Option.bind_some, if_true]
    refine .pure ⟨⟨fun h => (by cases h), fun h => (by simp [crB] at h)⟩, fun h => (by cases h)⟩
  obtain ⟨d, rfl⟩ : ∃ e, d = e + 1 := ⟨d - 1, by omega⟩
  have hdd : decide (((121 - (d + 1) : Nat) : Int) > 120) = false := by simp; omega
  simp only [hdd, Option.bind_some, Bool.false_eq_true, if_false]
  have l0 : decide ((c.kids.length : Int) = 0) = decide (c.kids.length = 0) := len_dec c 0
  have l1 : decide ((c.kids.length : Int) = 1) = decide (c.kids.length = 1) := len_dec c 1
  have l3 : decide ((c.kids.length : Int) = 3) = decide (c.kids.length = 3) := len_dec c 3
  refine Ex.seqS (P := fun o => match o with
    | .inl w => w = (false, (L : Int) - 1) ∧ crB (d + 1) sc c = false
    | .inr t => crB (d + 1) sc c = (decide ((c.kids.length : Int) = t.1) && (sameC c ⟨c.kind, t.2.2.1, t.2.2.2.1, t.2.2.2.2.1, t.2.2.2.2.2.1, ⟨t.2.2.2.2.2.2.1, t.2.2.2.2.2.2.2.1, t.2.2.2.2.2.2.2.2.1, t.2.2.2.2.2.2.2.2.2.1, t.2.2.2.2.2.2.2.2.2.2⟩, c.kids⟩ && c.kids.all (crB d t.2.1))) ∧ t.2.1.length ≤ sc.length + c.ids.length) ?_ ?_ ?_
  · by_cases k1 : c.kind = 1
    · refine .pos k1 ?_
      have hcr := crB_no5 (c := c) (by omega) d sc
      simp only [iw_eq, icon_eq, Option.bind_some]
      rw [k1] at hcr
      simp only [decide_true, Bool.not_true, Bool.false_or] at hcr
      refine Ex.bind (P := fun o => o = !((decide (1 ≤ c.id) && decide (c.id ≤ 999)) && decide (c.id ∈ sc))) ?_ ?_
      · cases (decide (1 ≤ c.id) && decide (c.id ≤ 999)) with
        | false => exact .pos rfl (.pure rfl)
        | true => exact .neg (by simp) (.pure (by simp))
      · rintro o rfl
        have hf : fl4 c = ((decide (1 ≤ c.id) && decide (c.id ≤ 999)) && (decide (c.name = []) && (decide (c.n = 0) && sameF c.data zF))) := by unfold fl4; simp [k1]
        rw [hf] at hcr
        cases hq : ((decide (1 ≤ c.id) && decide (c.id ≤ 999)) && decide (c.id ∈ sc)) with
        | false =>
          refine .pos rfl (.pure ⟨rfl, ?_⟩)
          rw [hcr]
          rcases Bool.and_eq_false_iff.1 hq with h | h <;> rw [h] <;> simp
        | true =>
          obtain ⟨h1, h2⟩ := (Bool.and_eq_true _ _ ▸ hq : _ ∧ _)
          refine .neg (by simp) (.pure ⟨?_, by simp⟩)
          rw [hcr, bare_eq, h1, h2]
          simp only [decide_true, Bool.true_and, l0, l1, l3, kd1, kd2, kd3, kd4, kd6, kd7, zF]
          ac_rfl
    refine .neg k1 ?_
    by_cases k2 : c.kind = 2
    · refine .pos k2 (.bv (inv_evt _ (by unfold mxL; omega)) ?_)
      have hcr := crB_no5 (c := c) (by omega) d sc
      have hf : fl4 c = (decide (c.id = 0) && (nameB c.name && (decide (c.n = 0) && sameF c.data zF))) := by unfold fl4; simp [k2]
      rw [hf, k2] at hcr
      cases hq : nameB c.name with
      | false => exact .pos rfl (.pure ⟨rfl, by rw [hcr, hq]; simp⟩)
      | true =>
        refine .neg (by simp) (.pure ⟨?_, by simp⟩)
        rw [hcr, bare_eq, hq]
        simp only [decide_true, Bool.true_and, l0, l1, l3, kd1, kd2, kd3, kd4, kd6, kd7, zF, show decide ((2 : Int) = 1) = false from rfl, Bool.not_false, Bool.true_or]
        ac_rfl
    refine .neg k2 ?_
    by_cases k3 : c.kind = 3
    · refine .pos k3 ?_
      have hcr := crB_no5 (c := c) (by omega) d sc
      have hf : fl4 c = (decide (c.id = 0) && (decide (c.name = []) && ((decide (0 ≤ c.n) && decide (c.n ≤ 999)) && sameF c.data zF))) := by unfold fl4; simp [k3]
      rw [hf, k3] at hcr
      simp only [iw_eq, Option.bind_some]
      cases hq : (decide (0 ≤ c.n) && decide (c.n ≤ 999)) with
      | false => exact .pos rfl (.pure ⟨rfl, by rw [hcr, hq]; simp⟩)
      | true =>
        refine .neg (by simp) (.pure ⟨?_, by simp⟩)
        rw [hcr, bare_eq, hq]
        simp only [decide_true, Bool.true_and, l0, l1, l3, kd1, kd2, kd3, kd4, kd6, kd7, zF, show decide ((3 : Int) = 1) = false from rfl, Bool.not_false, Bool.true_or]
        ac_rfl
    refine .neg k3 ?_
    by_cases k4 : c.kind = 4
    · refine .pos k4 ?_
      have hcr := crB_no5 (c := c) (by omega) d sc
      have hf : fl4 c = (decide (c.id = 0) && (decide (c.name = []) && (decide (c.n = 0) && (validF c.data && noSc c.data)))) := by unfold fl4; simp [k4]
      rw [hf, k4] at hcr
      refine Ex.bind (P := fun o => o = !(validF c.data && noSc c.data)) ?_ ?_
      · refine .bv (ifv_evt _ (okF_w _ (by omega))) ?_
        cases hv : validF c.data with
        | false => exact .pos rfl (.pure rfl)
        | true =>
          refine .neg (by simp) (Ex.bind (iso_evt _ (by omega) hv) ?_)
          intro r hr
          exact .pure (by rw [hr, Bool.true_and])
      · rintro o rfl
        cases hq : (validF c.data && noSc c.data) with
        | false => exact .pos rfl (.pure ⟨rfl, by rw [hcr, hq]; simp⟩)
        | true =>
          refine .neg (by simp) (.pure ⟨?_, by simp⟩)
          have hd0 : sameF c.data ⟨c.data.kind, c.data.name, c.data.n, c.data.scopes, c.data.kids⟩ = true := sameF_iff.2 (by cases c.data; rfl)
          rw [hcr, bare_eq, hq]
          simp only []
          rw [hd0]
          simp only [decide_true, Bool.true_and, l0, l1, l3, kd1, kd2, kd3, kd4, kd6, kd7, show decide ((4 : Int) = 1) = false from rfl, Bool.not_false, Bool.true_or, Bool.and_true]
          ac_rfl
    refine .neg k4 ?_
    by_cases k5 : c.kind = 5
    · refine .pos k5 ?_
      unfold slices_Clone_int
      rw [apB_nil (by omega)]
      simp only [Option.bind_some]
      have hf : flB c = (decide (c.id = 0) && (decide (c.name = []) && (decide (c.n = 0) && sameF c.data zF))) := by unfold flB; simp [k5]
      have hcr : crB (d + 1) sc c = (decide (c.kids.length = 1) && ((decide (c.id = 0) && (decide (c.name = []) && (decide (c.n = 0) && sameF c.data zF))) && (match adB sc c.ids with
        | none => false
        | some s => c.kids.all (crB d s)))) := by
        simp only [crB, hf, k5, kd5, show decide ((5 : Int) = 1) = false from rfl, Bool.not_false, Bool.true_or, Bool.true_and]
      simp only [iad_ex sc c.ids (by omega)]
      cases hq : adB sc c.ids with
      | none => exact .pure ⟨rfl, by rw [hcr, hq]; simp⟩
      | some s =>
        refine .pure ⟨?_, by rw [adB_len hq]; exact Nat.le_refl _⟩
        rw [hcr, hq, bare_eq]
        simp only [decide_true, Bool.true_and, l1, zF]
    refine .neg k5 ?_
    have hcr := crB_no5 (c := c) k5 d sc
    have hf : fl4 c = (decide (c.id = 0) && (decide (c.name = []) && (decide (c.n = 0) && sameF c.data zF))) := by unfold fl4; simp [k1, k2, k3, k4]
    rw [hf, decide_eq_false k1] at hcr
    by_cases k6 : c.kind = 6
    · refine .pos k6 (.pure ⟨?_, by simp⟩)
      have hm : decide ((c.kids.length : Int) = (if (c.kids.length : Int) > 1 then (c.kids.length : Int) else 1)) = decide (1 ≤ c.kids.length) := by
        rw [Bool.eq_iff_iff, decide_eq_true_eq, decide_eq_true_eq]
        split <;> constructor <;> intro h <;> omega
      rw [hcr, bare_eq]
      simp only []
      rw [hm, k6]
      simp only [decide_true, Bool.true_and, l0, l1, l3, kd1, kd2, kd3, kd4, kd6, kd7, zF, Bool.not_false, Bool.true_or]
      ac_rfl
    refine .neg k6 ?_
    by_cases k7 : c.kind = 7
    · refine .pos k7 (.pure ⟨?_, by simp⟩)
      rw [hcr, bare_eq, k7]
      simp only [decide_true, Bool.true_and, l0, l1, l3, kd1, kd2, kd3, kd4, kd6, kd7, zF, Bool.not_false, Bool.true_or]
      ac_rfl
    · refine .neg k7 (.pure ⟨rfl, ?_⟩)
      rw [hcr]
      have : kdB c.kind c.kids.length = false := by unfold kdB; simp [k1, k2, k3, k4, k5, k6, k7]
      rw [this]; rfl
  · rintro w ⟨rfl, h⟩
    exact ⟨⟨fun h => (by cases h), fun h' => by rw [h] at h'; cases h'.1⟩, fun h => (by cases h)⟩
  · rintro ⟨m, s, a, b, e, g, dk, dn, dm, ds, dl⟩ ⟨hcr, hsl⟩
    simp only at hcr hsl ⊢
    refine Ex.bind (P := fun o => o = !(decide ((c.kids.length : Int) = m) && sameC c ⟨c.kind, a, b, e, g, ⟨dk, dn, dm, ds, dl⟩, c.kids⟩)) ?_ ?_
    · by_cases hm : (c.kids.length : Int) = m
      · refine .neg (fun h => h hm) (.bv (isc_evt _ _) (.pure ?_))
        rw [decide_eq_true hm, Bool.true_and]
      · refine .pos hm (.pure ?_)
        rw [decide_eq_false hm]; rfl
    · rintro o rfl
      rw [← Bool.and_assoc] at hcr
      cases hq : (decide ((c.kids.length : Int) = m) && sameC c ⟨c.kind, a, b, e, g, ⟨dk, dn, dm, ds, dl⟩, c.kids⟩) with
      | false =>
        rw [hq, Bool.false_and] at hcr
        exact .pos rfl (.pure ⟨⟨fun h => (by cases h), fun h' => by rw [hcr] at h'; cases h'.1⟩, fun h => (by cases h)⟩)
      | true =>
        rw [hq, Bool.true_and] at hcr
        refine .neg (by simp) ?_
        have e2 : w64 (((121 - (d + 1) : Nat) : Int) + 1) = ((121 - d : Nat) : Int) := by rw [w_id (by omega) (by omega)]; omega
        rw [e2]
        refine Ex.seqS (P := fun o => match o with
          | .inl w => w.1 = false ∧ ¬ (c.kids.all (crB d s) = true ∧ cCs c.kids ≤ L - 1)
          | .inr t => c.kids.all (crB d s) = true ∧ cCs c.kids ≤ L - 1 ∧ t = ((L - 1 - cCs c.kids : Nat) : Int)) ?_ ?_ ?_
        · refine Ex.forI (I := fun i q t => ∃ u : Nat, t = (u : Int) ∧ u ≤ 600 ∧ (c.kids.all (crB d s) = true ∧ cCs c.kids ≤ L - 1 ↔ q.all (crB d s) = true ∧ cCs q ≤ u) ∧ u + cCs c.kids = L - 1 + cCs q ∧ ∀ x ∈ q, x ∈ c.kids) ?_ ?_ ?_
          · exact ⟨L - 1, by omega, by omega, Iff.rfl, rfl, fun _ h => h⟩
          · rintro i x q t ⟨u, rfl, hu, hiff, hsum, hmem⟩
            have hx := hmem x (List.mem_cons_self)
            refine Ex.bind (ico_ex x d (by omega) s (by have := wCs_mem hx; omega) u hu) ?_
            rintro ⟨b, s'⟩ ⟨r1, r2⟩
            simp only at r1 r2
            cases b with
            | false =>
              refine .pos rfl (.fo ⟨rfl, fun h => ?_⟩)
              have h' := hiff.1 h
              simp only [List.all_cons, Bool.and_eq_true, cCs] at h'
              have := r1.2 ⟨h'.1.1, by omega⟩
              cases this
            | true =>
              obtain ⟨q1, q2⟩ := r1.1 rfl
              refine .neg (by simp) (.fg ⟨u - cC x, r2 rfl, by omega, ?_, by simp only [cCs] at hsum; omega, fun y hy => hmem y (List.mem_cons_of_mem _ hy)⟩)
              rw [hiff]
              simp only [List.all_cons, Bool.and_eq_true, cCs, q1, true_and]
              constructor <;> intro h <;> exact ⟨h.1, by omega⟩
          · rintro t ⟨u, rfl, hu, hiff, hsum, _⟩
            have h := hiff.2 ⟨rfl, by simp [cCs]⟩
            simp only [cCs] at hsum
            exact ⟨h.1, h.2, by omega⟩
        · rintro ⟨b, t⟩ ⟨h1, h2⟩
          simp only at h1
          subst h1
          refine ⟨⟨fun h => (by cases h), fun h => absurd ⟨hcr ▸ h.1, by omega⟩ h2⟩, fun h => (by cases h)⟩
        · rintro t ⟨h1, h2, h3⟩
          exact .pure ⟨⟨fun _ => ⟨hcr.trans h1, by omega⟩, fun _ => rfl⟩, fun _ => by simp only; omega⟩
termination_by SizeOf.sizeOf c
decreasing_by exact szC_lt hx
theorem icv_evt (c : Core) (hw : wC c ≤ 1073741824) : Evt (fun n => im_CoreValid n c) (validC c) := by
  refine Ex.evt ?_
  unfold im_CoreValid
  refine Ex.bind (ico_ex c 120 (by omega) [] (by simp; omega) 600 (by omega)) ?_
  rintro ⟨b, s⟩ ⟨r1, _⟩
  refine .pure ?_
  simp only at r1 ⊢
  unfold validC
  rw [Bool.eq_iff_iff, r1]
  simp
theorem shas_eq (n : Nat) (l : List Int) (x : Int) : sp_l2Has n l x = some (decide (x ∈ l)) := by
  unfold sp_l2Has
  have := scanI (step := fun (_ : Unit) (_ : Nat) (y : Int) => ((if y = x then some (Sum.inl true) else some (Sum.inr ())) : Option (Bool ⊕ Unit))) (p := fun y => !decide (y = x)) (no := true) (f := fun _ => some false) (xs := l) (i := 0) (fun i y _ => by by_cases h : y = x <;> simp [h])
  rw [this]
  by_cases h : x ∈ l
  · rw [if_neg]
    · simp [h]
    · intro hall
      rw [List.all_eq_true] at hall
      have := hall x h
      simp at this
  · rw [if_pos]
    · simp [h]
    · rw [List.all_eq_true]
      intro y hy
      have : ¬ y = x := fun e => h (e ▸ hy)
      simp [this]
theorem strip_evt (f : Form) (hw : wF f ≤ 1073741824) : Evt (fun n => sp_StripForm n f) (strF f) := by
  have he := wF_eq f
  refine .succ ?_
  simp only [sp_StripForm]
  rw [strF_eq, strFs_map]
  refine Ex.evt ?_
  refine Ex.bind (P := fun s => s = f.kids.map strF) ?_ (fun s hs => .pure (by rw [hs]))
  refine Ex.forL (I := fun i q s => s = (f.kids.take i).map strF ∧ f.kids.drop i = q) ⟨rfl, rfl⟩ ?_ ?_
  · rintro i x q s ⟨rfl, hd⟩
    obtain ⟨g1, g2, g3, g4⟩ := drop_hd hd
    have hm := wFs_mem g4
    refine .bv (strip_evt x (by omega)) (.bp _ (apB_ok (by simp; omega)) (.pure ⟨?_, g2⟩))
    rw [List.take_add_one, g1]; simp
  · rintro s ⟨rfl, _⟩; simp
termination_by SizeOf.sizeOf f
decreasing_by exact szF_lt g4
theorem skd_eq (n : Nat) (k : Int) (m : Nat) : sp_l6Kids n k (m : Int) = some (kdB k m) := by
  unfold sp_l6Kids kdB
  have a0 : decide ((m : Int) = 0) = decide (m = 0) := by simp only [decide_eq_decide]; omega
  have a1 : decide ((m : Int) = 1) = decide (m = 1) := by simp only [decide_eq_decide]; omega
  have a3 : decide ((m : Int) = 3) = decide (m = 3) := by simp only [decide_eq_decide]; omega
  have a6 : decide ((m : Int) ≥ 1) = decide (1 ≤ m) := by simp only [decide_eq_decide]; omega
  rw [a0, a1, a3, a6]
  by_cases h1 : k = 1
  · subst h1; rfl
  by_cases h2 : k = 2
  · subst h2; rfl
  by_cases h3 : k = 3
  · subst h3; rfl
  by_cases h4 : k = 4
  · subst h4; rfl
  simp only [h1, h2, h3, h4, if_false, decide_false, Option.bind_some, Bool.false_eq_true, or_self]
  by_cases h5 : k = 5
  · subst h5; rfl
  by_cases h6 : k = 6
  · subst h6; rfl
  by_cases h7 : k = 7
  · subst h7; rfl
  simp only [h5, h6, h7, if_false, Option.bind_some]
theorem sfl_evt (c : Core) (hw : wC c ≤ 1073741824) : Evt (fun n => sp_l6Fields n c) (flB c) := by
  have he := wC_eq c
  have hn : c.name.length ≤ mxL := by unfold mxL; omega
  refine Ex.evt ?_
  unfold sp_l6Fields flB
  refine Ex.bind (P := fun o => o = !(if c.kind = 1 then decide (1 ≤ c.id) && decide (c.id ≤ 999) else decide (c.id = 0))) ?_ ?_
  · by_cases k : c.kind = 1
    · simp only [k, if_true, not_true_eq_false, if_false]
      by_cases h1 : c.id < 1
      · exact .pos h1 (.pure (by rw [decide_eq_false (show ¬ 1 ≤ c.id by omega)]; rfl))
      · refine .neg h1 ?_
        by_cases h2 : c.id > 999
        · exact .pos h2 (.pure (by rw [decide_eq_false (show ¬ c.id ≤ 999 by omega)]; simp))
        · exact .neg h2 (.pure (by rw [decide_eq_true (show c.id ≤ 999 by omega), decide_eq_true (show 1 ≤ c.id by omega)]; rfl))
    · simp only [k, if_false, not_false_eq_true, if_true]
      exact .pure (by simp)
  rintro o rfl
  cases (if c.kind = 1 then decide (1 ≤ c.id) && decide (c.id ≤ 999) else decide (c.id = 0)) with
  | false => exact .pos rfl (.pure rfl)
  | true =>
  refine .neg (by simp) ?_
  simp only [Bool.true_and]
  refine Ex.bind (P := fun o => o = !(if c.kind = 2 then nameB c.name else decide (c.name = []))) ?_ ?_
  · by_cases k : c.kind = 2
    · simp only [k, if_true, not_true_eq_false, if_false]
      refine .bv (snv_evt _ hn) ?_
      cases nameB c.name with
      | false => exact .pos rfl (.pure rfl)
      | true => exact .neg (by simp) (.pure rfl)
    · simp only [k, if_false, not_false_eq_true, if_true]
      exact .pure (by simp)
  rintro o rfl
  cases (if c.kind = 2 then nameB c.name else decide (c.name = [])) with
  | false => exact .pos rfl (.pure rfl)
  | true =>
  refine .neg (by simp) ?_
  simp only [Bool.true_and]
  refine Ex.bind (P := fun o => o = !(if c.kind = 3 then decide (0 ≤ c.n) && decide (c.n ≤ 999) else decide (c.n = 0))) ?_ ?_
  · by_cases k : c.kind = 3
    · simp only [k, if_true, not_true_eq_false, if_false]
      by_cases h1 : c.n < 0
      · exact .pos h1 (.pure (by rw [decide_eq_false (show ¬ 0 ≤ c.n by omega)]; rfl))
      · refine .neg h1 ?_
        by_cases h2 : c.n > 999
        · exact .pos h2 (.pure (by rw [decide_eq_false (show ¬ c.n ≤ 999 by omega)]; simp))
        · exact .neg h2 (.pure (by rw [decide_eq_true (show c.n ≤ 999 by omega), decide_eq_true (show 0 ≤ c.n by omega)]; rfl))
    · simp only [k, if_false, not_false_eq_true, if_true]
      exact .pure (by simp)
  rintro o rfl
  cases (if c.kind = 3 then decide (0 ≤ c.n) && decide (c.n ≤ 999) else decide (c.n = 0)) with
  | false => exact .pos rfl (.pure rfl)
  | true =>
  refine .neg (by simp) ?_
  simp only [Bool.true_and]
  refine Ex.bind (P := fun o => o = !(if c.kind = 4 then validF c.data && noSc c.data else sameF c.data zF)) ?_ ?_
  · by_cases k : c.kind = 4
    · simp only [k, if_true, not_true_eq_false, if_false]
      refine .bv (sfv_evt _ (okF_w _ (by omega)) (by have := cF_le c.data; omega)) ?_
      cases validF c.data with
      | false => exact .pos rfl (.pure rfl)
      | true =>
        refine .neg (by simp) (.bv (strip_evt _ (by omega)) (.bv (sfs_evt _ _) ?_))
        rw [str_same]
        cases noSc c.data with
        | false => exact .pos rfl (.pure rfl)
        | true => exact .neg (by simp) (.pure rfl)
    · simp only [k, if_false, not_false_eq_true, if_true]
      exact .bv (sfs_evt _ _) (.pure rfl)
  rintro o rfl
  cases (if c.kind = 4 then validF c.data && noSc c.data else sameF c.data zF) with
  | false => exact .pos rfl (.pure rfl)
  | true =>
  refine .neg (by simp) ?_
  simp only [Bool.true_and]
  refine Ex.bind (P := fun o => o = (decide (c.kind = 5) || decide (c.ids = []))) ?_ (fun o ho => .pure ho)
  by_cases k : c.kind = 5
  · exact .pos k (.pure (by simp [k]))
  · refine .neg k (.pure ?_)
    rw [decide_eq_false k, Bool.false_or, Bool.eq_iff_iff]
    simp
theorem s6i_evt (c : Core) (d : Nat) (hd : d ≤ 120) (sc : List Int) (hw : sc.length + wC c ≤ 1073741824) : Evt (fun n => sp_l6Is n c sc (d : Int)) (crB d sc c) := by
  have he := wC_eq c
  refine .succ ?_
  simp only [sp_l6Is]
  refine Ex.evt ?_
  by_cases hd0 : d = 0
  · subst hd0
    simp only [show ((0 : Nat) : Int) = 0 from rfl, if_true, Option.bind_some]
    exact .pure rfl
  obtain ⟨d, rfl⟩ : ∃ e, d = e + 1 := ⟨d - 1, by omega⟩
  refine Ex.bind (P := fun o => o = !(kdB c.kind c.kids.length && (flB c && (!decide (c.kind = 1) || decide (c.id ∈ sc))))) ?_ ?_
  · refine .neg (by omega) ?_
    simp only [skd_eq, Option.bind_some]
    cases kdB c.kind c.kids.length with
    | false => exact .pos rfl (.pure rfl)
    | true =>
      refine .neg (by simp) (.bv (sfl_evt c (by omega)) ?_)
      cases flB c with
      | false => exact .pos rfl (.pure rfl)
      | true =>
        refine .neg (by simp) ?_
        by_cases k : c.kind = 1
        · refine .pos k ?_
          simp only [shas_eq, Option.bind_some]
          exact .pure (by simp [k])
        · exact .neg k (.pure (by simp [k]))
  rintro o rfl
  have hq : crB (d + 1) sc c = ((kdB c.kind c.kids.length && (flB c && (!decide (c.kind = 1) || decide (c.id ∈ sc)))) && (match adB sc c.ids with
    | none => false
    | some s => c.kids.all (crB d s))) := by simp only [crB, Bool.and_assoc]
  rw [hq]
  cases (kdB c.kind c.kids.length && (flB c && (!decide (c.kind = 1) || decide (c.id ∈ sc)))) with
  | false => exact .pos rfl (.pure rfl)
  | true =>
  refine .neg (by simp) ?_
  rw [Bool.true_and]
  refine Ex.seqS (P := fun o => match o with
    | .inl w => w = false ∧ adB sc c.ids = none
    | .inr s => adB sc c.ids = some s) ?_ ?_ ?_
  · refine Ex.forI (I := fun i q s => adB sc c.ids = adB s q ∧ s.length + q.length = sc.length + c.ids.length) ⟨rfl, rfl⟩ ?_ ?_
    · rintro i x q s ⟨h1, h2⟩
      simp only [List.length_cons] at h2
      simp only [adB] at h1
      simp only [shas_eq, Option.bind_some]
      by_cases a1 : x < 1
      · simp only [if_pos a1, Option.bind_some, if_true]
        exact .fo ⟨rfl, by rw [h1, if_neg (fun h => by have := h.1.1; omega)]⟩
      rw [if_neg a1]
      by_cases a2 : x > 999
      · simp only [if_pos a2, Option.bind_some, if_true]
        exact .fo ⟨rfl, by rw [h1, if_neg (fun h => by have := h.1.2; omega)]⟩
      rw [if_neg a2]
      by_cases a3 : x ∈ s
      · simp only [a3, decide_true, Option.bind_some, if_true]
        exact .fo ⟨rfl, by rw [h1, if_neg (fun h => h.2 a3)]⟩
      · simp only [a3, decide_false, Option.bind_some, Bool.false_eq_true, if_false]
        refine .bp s (apB_nil (by omega)) (.bp (s ++ [x]) (apB_ok (by simp; omega)) (.fg ⟨?_, by simp; omega⟩))
        rw [h1, if_pos ⟨⟨by omega, by omega⟩, a3⟩]
    · rintro s ⟨h1, _⟩
      rw [h1]; rfl
  · rintro w ⟨rfl, h⟩
    rw [h]
  · intro s hs
    have hs : adB sc c.ids = some s := hs
    rw [hs]
    have hl := adB_len hs
    have e2 : w64 (((d + 1 : Nat) : Int) - 1) = (d : Int) := by rw [w_id (by omega) (by omega)]; omega
    rw [e2]
    exact Ex.allI (m := fun n x => sp_l6Is n x s (d : Int)) (p := crB d s) (fun x hx => s6i_evt x d (by omega) s (by have := wCs_mem hx; omega)) (fun h => .pure h.symm) (fun h => h.symm)
termination_by SizeOf.sizeOf c
decreasing_by exact szC_lt hx
theorem s6c_evt (f : Core) (hw : cC f ≤ 4611686018427387904) : Evt (fun n => sp_l6Count n f) (cC f : Int) := by
  have hc := cC_eq f
  refine .succ ?_
  simp only [sp_l6Count]
  rw [hc]
  refine .bind (a := ((1 + cCs f.kids : Nat) : Int)) ?_ (.pure _)
  exact Ex.sumL (b := 1) (c := cC) (cs := cCs) rfl (fun _ _ => rfl) (by omega) (fun x hx => s6c_evt x (by have := cCs_mem hx; omega))
termination_by SizeOf.sizeOf f
decreasing_by exact szC_lt hx
theorem scv_evt (c : Core) (hw : wC c ≤ 1073741824) : Evt (fun n => sp_CoreValid n c) (validC c) := by
  refine Ex.evt ?_
  unfold sp_CoreValid validC
  refine Ex.bind (P := fun b => b = (crB 120 [] c && decide (cC c ≤ 600))) ?_ (fun b hb => .pure hb)
  refine .bv (s6i_evt c 120 (by omega) [] (by simp; omega)) ?_
  cases crB 120 [] c with
  | false => exact .neg (by simp) (.pure rfl)
  | true =>
    refine .pos rfl (.bv (s6c_evt c (by have := cC_le c; omega)) (.pure ?_))
    rw [Bool.true_and]; simp only [decide_eq_decide]; omega
theorem exPick {a : Int} {r : L15Rd} {B : Int} (h : Gd r B) (hB : 1 ≤ B) : Ex (fun n => sp_l15Rd_pick n a r) (fun k => Sp r k.2 1 ∧ (1 ≤ a → 0 ≤ k.1 ∧ k.1 < a)) := by
  obtain ⟨v, r', h1, h2, h3⟩ := pick_ev (a := a) h hB
  exact ⟨(v, r'), h1, h2, h3⟩
theorem exNum {l : List Int} {r : L15Rd} {B : Int} (hl : 1 ≤ l.length) (h : Gd r B) (hB : 1 ≤ B) : Ex (fun n => sp_l15Rd_num n l r) (fun k => Sp r k.2 1 ∧ k.1 ∈ l) := by
  obtain ⟨v, r', h1, h2, h3⟩ := num_ev hl h hB
  exact ⟨(v, r'), h1, h2, h3⟩
theorem exOf {l : List (List UInt8)} {r : L15Rd} {B : Int} (hl : 1 ≤ l.length) (h : Gd r B) (hB : 1 ≤ B) : Ex (fun n => sp_l15Rd_of n l r) (fun k => Sp r k.2 1 ∧ k.1 ∈ l) := by
  obtain ⟨v, r', h1, h2, h3⟩ := num_ev hl h hB
  exact ⟨(v, r'), h1, h2, h3⟩
theorem exOpen (b : List UInt8) : Ex (fun n => sp_l15Open n b) (fun r => Gd r 1000000000) := by
  unfold sp_l15Open
  by_cases h : (b.length : Int) > 2000
  · have hs : slI b 0 2000 = some (b.take 2000) := by
      unfold slI
      rw [if_pos ⟨by omega, by omega, by omega⟩]; simp
    refine Ex.bind (P := fun o => o.length ≤ 2000) (.pos h (.bp _ hs (.pure (by simp; omega)))) ?_
    intro o ho
    exact .pure ⟨by show (0 : Int) ≤ 0; omega, by show (0 : Int) + 1000000000 ≤ _; omega, ho⟩
  · refine Ex.bind (P := fun o => o.length ≤ 2000) (.neg h (.pure (by omega))) ?_
    intro o ho
    exact .pure ⟨by show (0 : Int) ≤ 0; omega, by show (0 : Int) + 1000000000 ≤ _; omega, ho⟩
/-- How many picks a drawn form takes. -/
def bF : Nat → Int
  | 0 => 3
  | d + 1 => 3 + 3 * bF d
theorem bF_pos : ∀ d, 3 ≤ bF d
  | 0 => by simp [bF]
  | d + 1 => by have := bF_pos d; simp only [bF]; omega
/-- What a drawn form is like. -/
def drawnF : Nat → Form → Prop
  | 0, f => (f.kind = 1 ∧ f.n = 0 ∧ f.scopes = [] ∧ f.kids = [] ∧ f.name ∈ ([[97], [98], [120], [121], [102], [105, 102], [108, 101, 116], [43]] : List (List UInt8))) ∨ (f.kind = 2 ∧ f.name = [] ∧ f.scopes = [] ∧ f.kids = [] ∧ f.n ∈ ([0, 1, 2, 7, 42, 999] : List Int))
  | d + 1, f => ((f.kind = 1 ∧ f.n = 0 ∧ f.scopes = [] ∧ f.kids = [] ∧ f.name ∈ ([[97], [98], [120], [121], [102], [105, 102], [108, 101, 116], [43]] : List (List UInt8))) ∨ (f.kind = 2 ∧ f.name = [] ∧ f.scopes = [] ∧ f.kids = [] ∧ f.n ∈ ([0, 1, 2, 7, 42, 999] : List Int))) ∨ (f.kind = 3 ∧ f.name = [] ∧ f.n = 0 ∧ f.scopes = [] ∧ f.kids.length ≤ 3 ∧ ∀ x ∈ f.kids, drawnF d x)
theorem drawnF_leaf {d : Nat} {f : Form} (h : drawnF 0 f) : drawnF d f := by
  cases d with
  | zero => exact h
  | succ d => exact .inl h
theorem exLeafF {r : L15Rd} (h : Gd r 2) : Ex (fun n => (sp_l15Rd_pick n 4 r).bind fun k3 => (if k3.1 = 0 then (sp_l15Rd_num n [0, 1, 2, 7, 42, 999] k3.2).bind fun k5 => some ((⟨2, [], k5.1, [], []⟩ : Form), k5.2) else (sp_l15Rd_of n [[97], [98], [120], [121], [102], [105, 102], [108, 101, 116], [43]] k3.2).bind fun k6 => (sp_l1Name n k6.1).bind fun k7 => some (k7, k6.2))) (fun k => Sp r k.2 2 ∧ drawnF 0 k.1) := by
  refine .bind (exPick h (by omega)) fun k3 ⟨s1, _⟩ => ?_
  refine .ite (fun _ => ?_) (fun _ => ?_)
  · refine .bind (exNum (by simp) (h.to s1 (D := 1) (by omega)) (by omega)) fun k5 ⟨s2, hm⟩ => .pure ⟨s1.trans s2 (by omega), .inr ⟨rfl, rfl, rfl, rfl, hm⟩⟩
  · refine .bind (exOf (by simp) (h.to s1 (D := 1) (by omega)) (by omega)) fun k6 ⟨s2, hm⟩ => ?_
    unfold sp_l1Name
    exact .pure ⟨s1.trans s2 (by omega), .inl ⟨rfl, rfl, rfl, rfl, hm⟩⟩
theorem exSomeF : ∀ (d : Nat), d ≤ 10 → ∀ (r : L15Rd), Gd r (bF d) → Ex (fun n => sp_l1Some n (d : Int) r) (fun k => Sp r k.2 (bF d) ∧ drawnF d k.1) := by
  intro d
  induction d with
  | zero =>
    intro _ r h
    have h : Gd r 3 := h
    refine .succ ?_
    simp only [sp_l1Some]
    refine Ex.bind (P := fun o => o = (true, r)) (.pos rfl (.pure rfl)) ?_
    rintro o rfl
    exact .pos rfl ((exLeafF (h.to (.refl (Int.le_refl 0)) (D := 2) (by omega))).mono fun k ⟨a, b⟩ => ⟨a.mono (by simp [bF]), b⟩)
  | succ d ih =>
    intro hd r h
    have ih := ih (by omega)
    have hB := bF_pos d
    have h : Gd r (3 + 3 * bF d) := h
    refine .succ ?_
    simp only [sp_l1Some]
    refine Ex.bind (P := fun o => Sp r o.2 1) (.neg (by omega) (.bind (exPick h (by omega)) fun k15 ⟨s1, _⟩ => .pure s1)) ?_
    rintro ⟨b, r1⟩ s1
    have g1 : Gd r1 (2 + 3 * bF d) := h.to s1 (by omega)
    refine .ite (fun _ => ?_) (fun _ => ?_)
    · exact (exLeafF (g1.to (.refl (Int.le_refl 0)) (D := 2) (by omega))).mono fun k ⟨a, b⟩ => ⟨s1.trans a (by simp only [bF]; omega), drawnF_leaf b⟩
    · refine .bind (exPick g1 (by omega)) fun k8 ⟨s2, hc⟩ => ?_
      obtain ⟨hc0, hc1⟩ := hc (by omega)
      obtain ⟨c, r2⟩ := k8
      simp only at s2 hc0 hc1 ⊢
      have g2 : Gd r2 (3 * bF d) := g1.to s2 (by omega)
      have e1 : w64 (((d + 1 : Nat) : Int) - 1) = (d : Int) := by rw [w_id (by omega) (by omega)]; omega
      rw [e1]
      refine Ex.iter (fun s => s.1.toNat) (fun s => ∃ j : Nat, (j : Int) ≤ c ∧ s.1 = c - j ∧ Sp r2 ⟨s.2.2.1, s.2.2.2⟩ (j * bF d) ∧ s.2.1.length = j ∧ ∀ x ∈ s.2.1, drawnF d x) _ ⟨0, by omega, by simp, by simpa using (Sp.refl (r := r2) (Int.le_refl 0)), rfl, by simp⟩ ?_
      rintro ⟨cnt, l, b, p⟩ ⟨j, j0, j1, j2, j3, j4⟩
      simp only at j1 j2 j3 j4 ⊢
      have hj : j = 0 ∨ j = 1 ∨ j = 2 ∨ j = 3 := by omega
      refine .ite (fun hp => ?_) (fun hp => ?_)
      · have gj : Gd ⟨b, p⟩ (bF d) := g2.to j2 (by rcases hj with rfl | rfl | rfl | rfl <;> simp <;> omega)
        refine .bind (ih _ gj) fun k12 ⟨k2, k3⟩ => ?_
        have e2 : w64 (cnt - 1) = cnt - 1 := w_id (by omega) (by omega)
        rw [e2]
        refine .bp _ (apB_ok (by simp; omega)) (Ex.pure ⟨fun _ e => (by cases e), fun s' e => ?_⟩)
        cases e
        refine ⟨⟨j + 1, by omega, by simp only; omega, ?_, by simp; omega, ?_⟩, by simp only; omega⟩
        · refine j2.trans (D := ((j + 1 : Nat) : Int) * bF d) k2 ?_
          rcases hj with rfl | rfl | rfl | rfl <;> simp <;> omega
        · intro x hx
          rcases List.mem_append.1 hx with h | h
          · exact j4 x h
          · rw [List.mem_singleton.1 h]; exact k3
      · refine Ex.pure ⟨fun w e => ?_, fun s' e => (by cases e)⟩
        cases e
        refine ⟨?_, .inr ⟨rfl, rfl, rfl, rfl, by simp only; omega, j4⟩⟩
        refine s1.trans (s2.trans (j2.mono (C := 3 * bF d) ?_) (D := 1 + 3 * bF d) (by omega)) (by simp only [bF]; omega)
        rcases hj with rfl | rfl | rfl | rfl <;> simp <;> omega
def wD : Nat → Nat
  | 0 => 3
  | d + 1 => 6 + 3 * wD d
theorem wFs_le {w : Nat} : ∀ {l : List Form}, (∀ x ∈ l, wF x ≤ w) → wFs l ≤ l.length * w
  | [], _ => by simp [wFs]
  | x :: r, h => by
    have h1 := h x (List.mem_cons_self)
    have h2 := wFs_le (l := r) (fun y hy => h y (List.mem_cons_of_mem _ hy))
    simp only [wFs, List.length_cons, Nat.succ_mul]; omega
theorem drawnF0_w {f : Form} (h : drawnF 0 f) : wF f ≤ 3 := by
  have hw := wF_eq f
  rcases h with ⟨h1, h2, h3, h4, h5⟩ | ⟨h1, h2, h3, h4, h5⟩
  · rw [h3, h4] at hw
    simp only [List.length_nil, wFs, Nat.add_zero] at hw
    simp only [List.mem_cons, List.not_mem_nil, or_false] at h5
    rcases h5 with h | h | h | h | h | h | h | h <;> rw [h] at hw <;> simp at hw <;> omega
  · rw [h2, h3, h4] at hw
    simp [wFs] at hw; omega
theorem drawnF_w : ∀ (d : Nat) {f : Form}, drawnF d f → wF f ≤ wD d
  | 0, f, h => drawnF0_w h
  | d + 1, f, h => by
    rcases h with h | ⟨h1, h2, h3, h4, h5, h6⟩
    · have := drawnF0_w (f := f) h
      simp only [wD]; omega
    · have hw := wF_eq f
      have := wFs_le (fun x hx => drawnF_w d (h6 x hx))
      have : f.kids.length * wD d ≤ 3 * wD d := Nat.mul_le_mul_right _ h5
      rw [h2, h4] at hw
      simp only [List.length_nil] at hw
      simp only [wD]; omega
/-- A leaf of a drawn core program. -/
def leafC (sc : List Int) (c : Core) : Prop :=
  (∃ i, i ∈ sc ∧ c = ⟨1, i, [], 0, [], ⟨0, [], 0, [], []⟩, []⟩) ∨ (∃ f, drawnF 1 f ∧ c = ⟨4, 0, [], 0, [], f, []⟩) ∨ (∃ s, s ∈ ([[102], [43], [108, 105, 115, 116]] : List (List UInt8)) ∧ c = ⟨2, 0, s, 0, [], ⟨0, [], 0, [], []⟩, []⟩) ∨ (∃ i, i ∈ ([0, 1, 5, 42] : List Int) ∧ c = ⟨3, 0, [], i, [], ⟨0, [], 0, [], []⟩, []⟩)
theorem leafC_w {sc : List Int} {c : Core} (h : leafC sc c) : wC c ≤ 20 := by
  rcases h with ⟨i, _, rfl⟩ | ⟨f, hf, rfl⟩ | ⟨s, hs, rfl⟩ | ⟨i, _, rfl⟩
  · simp [wC, wCs, wF, wFs]
  · have := drawnF_w 1 hf
    simp only [wD] at this
    simp only [wC, wCs, List.length_nil]; omega
  · simp only [List.mem_cons, List.not_mem_nil, or_false] at hs
    rcases hs with rfl | rfl | rfl <;> simp [wC, wCs, wF, wFs]
  · simp [wC, wCs, wF, wFs]
theorem exLeafC {a1 : List Int} {a3 : Int} {r : L15Rd} (h : Gd r 19) : Ex (fun n => Option.bind ((if (a1.length : Int) > 0 then (sp_l15Rd_pick n 3 r).bind fun k15 => some ((decide (k15.1 > 0)), k15.2) else some (false, r)) : Option (Bool × L15Rd)) (fun (o3 : Bool × L15Rd) => (if o3.1 = true then (sp_l15Rd_pick n (a1.length : Int) o3.2).bind fun k5 => (atI a1 k5.1).bind fun e6 => some ((⟨1, e6, [], 0, [], (⟨0, [], 0, [], []⟩ : Form), []⟩ : Core), a3, k5.2) else (sp_l15Rd_pick n 4 o3.2).bind fun k8 => (if k8.1 = 0 then (sp_l1Some n 1 k8.2).bind fun k10 => some ((⟨4, 0, [], 0, [], k10.1, []⟩ : Core), a3, k10.2) else (if k8.1 = 1 then (sp_l15Rd_of n [[102], [43], [108, 105, 115, 116]] k8.2).bind fun k12 => some ((⟨2, 0, k12.1, 0, [], (⟨0, [], 0, [], []⟩ : Form), []⟩ : Core), a3, k12.2) else (sp_l15Rd_num n [0, 1, 5, 42] k8.2).bind fun k13 => some ((⟨3, 0, [], k13.1, [], (⟨0, [], 0, [], []⟩ : Form), []⟩ : Core), a3, k13.2)))))) (fun k => Sp r k.2.2 19 ∧ leafC a1 k.1) := by
  refine Ex.bind (P := fun o => Sp r o.2 1 ∧ (o.1 = true → 1 ≤ a1.length)) ?_ ?_
  · refine .ite (fun hl => .bind (exPick h (by omega)) fun k15 ⟨s1, _⟩ => .pure ⟨s1, fun _ => by omega⟩) (fun hl => .pure ⟨.refl (by omega), fun h => by cases h⟩)
  rintro ⟨b0, r1⟩ ⟨s1, hb⟩
  simp only at s1 hb ⊢
  have g1 : Gd r1 18 := h.to s1 (by omega)
  refine .ite (fun hb0 => ?_) (fun _ => ?_)
  · have hl := hb hb0
    refine .bind (exPick g1 (by omega)) fun k5 ⟨s2, hv⟩ => ?_
    obtain ⟨v0, v1⟩ := hv (by omega)
    obtain ⟨x, hx, hm⟩ := elem_ok v0 v1
    exact .bp x hx (.pure ⟨(s1.trans s2 (D := 2) (by omega)).mono (by omega), .inl ⟨x, hm, rfl⟩⟩)
  · refine .bind (exPick g1 (by omega)) fun k8 ⟨s2, _⟩ => ?_
    have g2 : Gd k8.2 17 := g1.to s2 (by omega)
    refine .ite (fun _ => ?_) (fun _ => .ite (fun _ => ?_) (fun _ => ?_))
    · have e34 : bF 1 = 12 := by simp [bF]
      refine .bind (exSomeF 1 (by omega) k8.2 (by rw [e34]; exact ⟨g2.1, by have := g2.2.1; omega, g2.2.2⟩)) fun k10 ⟨s3, hf⟩ => ?_
      rw [e34] at s3
      exact .pure ⟨(s1.trans (s2.trans s3 (D := 13) (by omega)) (D := 14) (by omega)).mono (by omega), .inr (.inl ⟨_, hf, rfl⟩)⟩
    · refine .bind (exOf (by simp) g2 (by omega)) fun k12 ⟨s3, hm⟩ => .pure ⟨(s1.trans (s2.trans s3 (D := 2) (by omega)) (D := 3) (by omega)).mono (by omega), .inr (.inr (.inl ⟨_, hm, rfl⟩))⟩
    · refine .bind (exNum (by simp) g2 (by omega)) fun k13 ⟨s3, hm⟩ => .pure ⟨(s1.trans (s2.trans s3 (D := 2) (by omega)) (D := 3) (by omega)).mono (by omega), .inr (.inr (.inr ⟨_, hm, rfl⟩))⟩
def bC : Nat → Int
  | 0 => 20
  | d + 1 => 24 + 3 * bC d
def wDC : Nat → Nat
  | 0 => 20
  | d + 1 => 20 + 3 * wDC d
theorem bC_pos : ∀ d, 20 ≤ bC d
  | 0 => by simp [bC]
  | d + 1 => by have := bC_pos d; simp only [bC]; omega
theorem wDC_pos : ∀ d, 20 ≤ wDC d
  | 0 => by simp [wDC]
  | d + 1 => by simp only [wDC]; omega
theorem wCs_le {w : Nat} : ∀ {l : List Core}, (∀ x ∈ l, wC x ≤ w) → wCs l ≤ l.length * w
  | [], _ => by simp [wCs]
  | x :: r, h => by
    have h1 := h x (List.mem_cons_self)
    have h2 := wCs_le (l := r) (fun y hy => h y (List.mem_cons_of_mem _ hy))
    simp only [wCs, List.length_cons, Nat.succ_mul]; omega
theorem exSomeC : ∀ (d : Nat), d ≤ 10 → ∀ (sc : List Int) (last : Int) (r : L15Rd), sc.length ≤ 1000000 - 2 * d → Gd r (bC d) → Ex (fun n => sp_l6Some n sc (d : Int) last r) (fun k => Sp r k.2.2 (bC d) ∧ wC k.1 ≤ wDC d ∧ (leafC sc k.1 ∨ k.1.kids ≠ [])) := by
  intro d
  induction d with
  | zero =>
    intro _ sc last r hl h
    have h : Gd r 20 := h
    refine .succ ?_
    simp only [sp_l6Some]
    refine Ex.bind (P := fun o => o = (true, r)) (.pos rfl (.pure rfl)) ?_
    rintro o rfl
    exact .pos rfl ((exLeafC (h.to (.refl (Int.le_refl 0)) (D := 19) (by omega))).mono fun k ⟨a, b⟩ => ⟨a.mono (by simp [bC]), leafC_w b, .inl b⟩)
  | succ d ih =>
    intro hd sc last r hl h
    have ih := ih (by omega)
    have hB := bC_pos d
    have hW := wDC_pos d
    have h : Gd r (24 + 3 * bC d) := h
    refine .succ ?_
    simp only [sp_l6Some]
    refine Ex.bind (P := fun o => Sp r o.2 1) (.neg (by omega) (.bind (exPick h (by omega)) fun k15 ⟨s1, _⟩ => .pure s1)) ?_
    rintro ⟨b, r1⟩ s1
    have g1 : Gd r1 (23 + 3 * bC d) := h.to s1 (by omega)
    refine .ite (fun _ => ?_) (fun _ => ?_)
    · exact (exLeafC (g1.to (.refl (Int.le_refl 0)) (D := 19) (by omega))).mono fun k ⟨a, b⟩ => ⟨s1.trans a (by simp only [bC]; omega), by have := leafC_w b; simp only [wDC]; omega, .inl b⟩
    · refine .bind (exNum (by simp) g1 (by omega)) fun k18 ⟨s2, hk⟩ => ?_
      obtain ⟨kd, r2⟩ := k18
      simp only at s2 hk ⊢
      have g2 : Gd r2 (22 + 3 * bC d) := g1.to s2 (by omega)
      refine Ex.bind (P := fun o => Sp r2 ⟨o.2.2.2.2.1, o.2.2.2.2.2⟩ 3 ∧ o.1.length ≤ sc.length + 2 ∧ 1 ≤ o.2.2.1 ∧ o.2.2.1 ≤ 3 ∧ o.2.2.2.1.length ≤ 2) ?_ ?_
      · refine .ite (fun _ => ?_) (fun _ => .ite (fun _ => ?_) (fun _ => ?_))
        · refine .bind (exNum (by simp) g2 (by omega)) fun k26 ⟨s3, hm⟩ => ?_
          obtain ⟨c, r3⟩ := k26
          simp only at s3 hm ⊢
          have hc : 0 ≤ c ∧ c ≤ 2 := by
            simp only [List.mem_cons, List.not_mem_nil, or_false] at hm
            rcases hm with rfl | rfl | rfl <;> simp
          have g3 : Gd r3 2 := g2.to s3 (by omega)
          refine Ex.iter (fun s => s.2.2.1.toNat) (fun s => ∃ j : Nat, (j : Int) ≤ c ∧ s.2.2.1 = c - j ∧ Sp r3 ⟨s.2.2.2.2.1, s.2.2.2.2.2⟩ j ∧ s.2.2.2.1.length = j ∧ s.1.length = sc.length + j) _ ⟨0, by omega, by simp, by simpa using (Sp.refl (r := r3) (Int.le_refl 0)), rfl, rfl⟩ ?_
          rintro ⟨l, ct, cnt, nl, b, p⟩ ⟨j, j0, j1, j2, j3, j4⟩
          simp only at j1 j2 j3 j4 ⊢
          refine .ite (fun hp => ?_) (fun hp => ?_)
          · refine .bind (exNum (B := 1) (by simp) (g3.to j2 (by omega)) (by omega)) fun k30 ⟨s4, _⟩ => ?_
            have e2 : w64 (cnt - 1) = cnt - 1 := w_id (by omega) (by omega)
            rw [e2]
            refine .bp _ (apB_ok (by simp; omega)) (.bp _ (apB_nil (by omega)) (.bp _ (apB_ok (by simp; omega)) (Ex.pure ⟨fun _ e => (by cases e), fun s' e => ?_⟩)))
            cases e
            exact ⟨⟨j + 1, by omega, by simp only; omega, j2.trans s4 (by omega), by simp; omega, by simp; omega⟩, by simp only; omega⟩
          · refine Ex.pure ⟨fun w e => ?_, fun s' e => (by cases e)⟩
            cases e
            exact ⟨s3.trans (j2.mono (C := 2) (by omega)) (by omega), by simp only; omega, by simp, by simp, by simp only; omega⟩
        · refine .bind (exNum (by simp) g2 (by omega)) fun k35 ⟨s3, hm⟩ => ?_
          have hc : 1 ≤ k35.1 ∧ k35.1 ≤ 3 := by
            have hm := hm
            simp only [List.mem_cons, List.not_mem_nil, or_false] at hm
            rcases hm with h | h | h <;> rw [h] <;> simp
          exact .pure ⟨s3.mono (by omega), by simp, hc.1, hc.2, by simp⟩
        · exact .pure ⟨.refl (by omega), by simp, by simp, by simp, by simp⟩
      · rintro ⟨l2, ct2, c, nl, b3, p3⟩ ⟨s3, hl2, hc1, hc3, hnl⟩
        simp only at s3 hl2 hc1 hc3 hnl ⊢
        have g3 : Gd ⟨b3, p3⟩ (3 * bC d) := g2.to s3 (by omega)
        have e1 : w64 (((d + 1 : Nat) : Int) - 1) = (d : Int) := by rw [w_id (by omega) (by omega)]; omega
        rw [e1]
        refine Ex.iter (fun s => (c - s.2.1).toNat) (fun s => ∃ j : Nat, (j : Int) ≤ c ∧ s.2.1 = (j : Int) ∧ Sp ⟨b3, p3⟩ ⟨s.2.2.2.1, s.2.2.2.2⟩ (j * bC d) ∧ s.2.2.1.length = j ∧ ∀ x ∈ s.2.2.1, wC x ≤ wDC d) _ ⟨0, by omega, by simp, by simpa using (Sp.refl (r := ⟨b3, p3⟩) (Int.le_refl 0)), rfl, by simp⟩ ?_
        rintro ⟨ct, cnt, l, b, p⟩ ⟨j, j0, j1, j2, j3, j4⟩
        simp only at j1 j2 j3 j4 ⊢
        have hj : j = 0 ∨ j = 1 ∨ j = 2 ∨ j = 3 := by omega
        refine .ite (fun hp => ?_) (fun hp => ?_)
        · have gj : Gd ⟨b, p⟩ (bC d) := g3.to j2 (by rcases hj with rfl | rfl | rfl | rfl <;> simp <;> omega)
          refine .bind (ih l2 ct _ (by omega) gj) fun k23 ⟨k2, k3, _⟩ => ?_
          have e2 : w64 (cnt + 1) = cnt + 1 := w_id (by omega) (by omega)
          rw [e2]
          refine .bp _ (apB_ok (by simp; omega)) (Ex.pure ⟨fun _ e => (by cases e), fun s' e => ?_⟩)
          cases e
          refine ⟨⟨j + 1, by omega, by simp only; omega, ?_, by simp; omega, ?_⟩, by simp only; omega⟩
          · refine j2.trans (D := ((j + 1 : Nat) : Int) * bC d) k2 ?_
            rcases hj with rfl | rfl | rfl | rfl <;> simp <;> omega
          · intro x hx
            rcases List.mem_append.1 hx with h | h
            · exact j4 x h
            · rw [List.mem_singleton.1 h]; exact k3
        · refine Ex.pure ⟨fun w e => ?_, fun s' e => (by cases e)⟩
          cases e
          have hjc : (j : Int) = c := by omega
          refine ⟨?_, ?_, .inr ?_⟩
          · refine s1.trans (s2.trans (s3.trans (j2.mono (C := 3 * bC d) ?_) (D := 3 + 3 * bC d) (by omega)) (D := 4 + 3 * bC d) (by omega)) (by simp only [bC]; omega)
            rcases hj with rfl | rfl | rfl | rfl <;> simp <;> omega
          · have := wCs_le j4
            have : l.length * wDC d ≤ 3 * wDC d := Nat.mul_le_mul_right _ (by omega)
            simp only [wC, wF, wFs, wDC, List.length_nil]; omega
          · intro e
            simp only at e
            rw [e] at j3
            simp at j3; omega
theorem exDrawCoreAtom (b : List UInt8) : Ex (fun n => sp_DrawCoreAtom n b) (fun c => wC c ≤ 1000 ∧ (leafC [1] c ∨ c.kids ≠ [])) := by
  unfold sp_DrawCoreAtom
  refine .bind (exOpen b) fun r g1 => ?_
  refine .bind (exNum (by simp) g1 (by omega)) fun k2 ⟨s2, hm⟩ => ?_
  have g2 : Gd k2.2 900000000 := g1.to s2 (by omega)
  obtain ⟨d, hd, hk⟩ : ∃ d : Nat, d ≤ 1 ∧ k2.1 = (d : Int) := by
    simp only [List.mem_cons, List.not_mem_nil, or_false] at hm
    rcases hm with h | h | h
    · exact ⟨0, by omega, h⟩
    · exact ⟨0, by omega, h⟩
    · exact ⟨1, by omega, h⟩
  rw [hk]
  have hB : bC d ≤ 1000 ∧ wDC d ≤ 1000 := by
    have : d = 0 ∨ d = 1 := by omega
    rcases this with rfl | rfl <;> simp [bC, wDC]
  refine .bind (exSomeC d (by omega) [1] 1 k2.2 (by simp; omega) (g2.to (.refl (Int.le_refl 0)) (by omega))) fun k3 ⟨s3, w3, h3⟩ => .pure ⟨by omega, h3⟩
def primB (s : List UInt8) : Bool := decide (s ∈ lp0)
def atomB (c : Core) : Bool := decide (c.kids.length = 0) && (decide (c.kind = 1) || (decide (c.kind = 3) || (decide (c.kind = 4) || (decide (c.kind = 2) && primB c.name))))
theorem cont_eq (n : Nat) (l : List (List UInt8)) (x : List UInt8) : slices_Contains_string n l x = some (decide (x ∈ l)) := by
  unfold slices_Contains_string slices_Index_string
  have main : ∀ (l : List (List UInt8)) (i : Nat), ∃ k : Int, seqS (Mx.forI (fun (_ : Unit) (i : Nat) (y : List UInt8) => ((if x = y then some (Sum.inl (i : Int)) else some (Sum.inr ())) : Option (Int ⊕ Unit))) i l ()) (fun _ => some (-1)) = some k ∧ (k ≥ 0 ↔ x ∈ l) := by
    intro l
    induction l with
    | nil => intro i; exact ⟨-1, rfl, by simp⟩
    | cons y r ih =>
      intro i
      by_cases h : x = y
      · subst h
        exact ⟨(i : Int), by simp [Mx.forI, Mx.seqS], by simp⟩
      · obtain ⟨k, h1, h2⟩ := ih (i + 1)
        refine ⟨k, ?_, by rw [h2]; simp [h]⟩
        rw [← h1]
        simp [Mx.forI, h]
  obtain ⟨k, h1, h2⟩ := main l 0
  rw [h1, Option.bind_some]
  congr 1
  rw [Bool.eq_iff_iff, decide_eq_true_eq, decide_eq_true_eq]; exact h2
theorem sin_eq (n : Nat) (l : List (List UInt8)) (x : List UInt8) : sp_l1In n l x = some (decide (x ∈ l)) := by
  unfold sp_l1In
  have := scanI (step := fun (_ : Unit) (_ : Nat) (y : List UInt8) => ((if y = x then some (Sum.inl true) else some (Sum.inr ())) : Option (Bool ⊕ Unit))) (p := fun y => !decide (y = x)) (no := true) (f := fun _ => some false) (xs := l) (i := 0) (fun i y _ => by by_cases h : y = x <;> simp [h])
  rw [this]
  by_cases h : x ∈ l
  · rw [if_neg]
    · simp [h]
    · intro hall
      rw [List.all_eq_true] at hall
      have := hall x h
      simp at this
  · rw [if_pos]
    · simp [h]
    · rw [List.all_eq_true]
      intro y hy
      have : ¬ y = x := fun e => h (e ▸ hy)
      simp [this]
theorem iat_eq (n : Nat) (c : Core) : im_CoreAtom n c = some (atomB c) := by
  unfold im_CoreAtom im_isPrimitive atomB primB
  simp only [cont_eq, Option.bind_some]
  by_cases h0 : c.kids.length = 0
  · rw [if_pos (by omega), decide_eq_true h0]
    by_cases h1 : c.kind = 1
    · simp [h1]
    by_cases h3 : c.kind = 3
    · simp [h3]
    by_cases h4 : c.kind = 4
    · simp [h4]
    by_cases h2 : c.kind = 2
    · simp [h2]
    · simp [h1, h2, h3, h4]
  · rw [if_neg (by omega), decide_eq_false h0]; rfl
theorem sat_eq (n : Nat) (c : Core) : sp_CoreAtom n c = some (atomB c) := by
  unfold sp_CoreAtom sp_l13Atom sp_l8Prims atomB primB
  simp only [sin_eq, Option.bind_some]
  by_cases h0 : c.kids.length = 0
  · rw [if_pos (by omega), decide_eq_true h0]
    by_cases h1 : c.kind = 1
    · simp [h1]
    by_cases h3 : c.kind = 3
    · simp [h3]
    by_cases h4 : c.kind = 4
    · simp [h4]
    by_cases h2 : c.kind = 2
    · simp only [h2, show ¬ ((2 : Int) = 1) by decide, show ¬ ((2 : Int) = 3) by decide, show ¬ ((2 : Int) = 4) by decide, if_false, if_true, decide_false, decide_true, Bool.false_or, Bool.true_and, Option.bind_some]
      congr 1
      simp only [decide_eq_decide, lp0, List.mem_cons, List.not_mem_nil, or_false]
      constructor
      · rintro (h | h | h | h | h | h) <;> simp [h]
      · rintro (h | h | h | h | h | h) <;> simp [h]
    · simp [h1, h2, h3, h4]
  · rw [if_neg (by omega), decide_eq_false h0]; rfl
mutual
/-- A program in which the variable id is the program a. -/
def putC (id : Int) (a : Core) : Core → Core
  | ⟨k, i, nm, n, ids, dt, kids⟩ => if k = 1 ∧ i = id then a else ⟨k, i, nm, n, ids, dt, putCs id a kids⟩
def putCs (id : Int) (a : Core) : List Core → List Core
  | [] => []
  | x :: r => putC id a x :: putCs id a r
end
theorem putC_eq (id : Int) (a c : Core) : putC id a c = if c.kind = 1 ∧ c.id = id then a else ⟨c.kind, c.id, c.name, c.n, c.ids, c.data, putCs id a c.kids⟩ := by cases c; simp only [putC]
theorem putCs_map (id : Int) (a : Core) : ∀ l : List Core, putCs id a l = l.map (putC id a)
  | [] => rfl
  | x :: r => by simp only [putCs, List.map_cons, putCs_map id a r]
mutual
def usC (id : Int) : Core → Nat
  | ⟨k, i, _, _, _, _, kids⟩ => (if k = 1 ∧ i = id then 1 else 0) + usCs id kids
def usCs (id : Int) : List Core → Nat
  | [] => 0
  | x :: r => usC id x + usCs id r
end
theorem usC_eq (id : Int) (c : Core) : usC id c = (if c.kind = 1 ∧ c.id = id then 1 else 0) + usCs id c.kids := by cases c; simp only [usC]
theorem usCs_mem {id : Int} : ∀ {l : List Core} {x : Core}, x ∈ l → usC id x ≤ usCs id l
  | y :: r, x, h => by
    simp only [usCs]
    rcases List.mem_cons.1 h with rfl | h
    · omega
    · have := usCs_mem (id := id) h; omega
mutual
theorem usC_le (id : Int) : ∀ c : Core, usC id c ≤ cC c
  | ⟨k, i, nm, n, ids, dt, kids⟩ => by have := usCs_le id kids; simp only [usC, cC]; split <;> omega
theorem usCs_le (id : Int) : ∀ l : List Core, usCs id l ≤ cCs l
  | [] => by simp [usCs]
  | x :: r => by have := usC_le id x; have := usCs_le id r; simp only [usCs, cCs]; omega
end
mutual
/-- The variables of all functions. -/
def idC : Core → List Int
  | ⟨_, _, _, _, ids, _, kids⟩ => ids ++ idCs kids
def idCs : List Core → List Int
  | [] => []
  | x :: r => idC x ++ idCs r
end
theorem idC_eq (c : Core) : idC c = c.ids ++ idCs c.kids := by cases c; simp only [idC]
mutual
theorem idC_le : ∀ c : Core, (idC c).length ≤ wC c
  | ⟨k, i, nm, n, ids, dt, kids⟩ => by have := idCs_le kids; simp only [idC, wC, List.length_append]; omega
theorem idCs_le : ∀ l : List Core, (idCs l).length ≤ wCs l
  | [] => by simp [idCs]
  | x :: r => by have := idC_le x; have := idCs_le r; simp only [idCs, wCs, List.length_append]; omega
end
def varC (i : Int) : Core := ⟨1, i, [], 0, [], zF, []⟩
/-- What a valid program is made of. -/
theorem crB_parts {d : Nat} {sc : List Int} {c : Core} (h : crB d sc c = true) : ∃ e s, d = e + 1 ∧ kdB c.kind c.kids.length = true ∧ flB c = true ∧ (c.kind = 1 → c.id ∈ sc) ∧ adB sc c.ids = some s ∧ ∀ x ∈ c.kids, crB e s x = true := by
  cases d with
  | zero => cases h
  | succ e =>
    simp only [crB, Bool.and_eq_true] at h
    obtain ⟨h1, h2, h3, h4⟩ := h
    split at h4
    · cases h4
    · rename_i s hs
      refine ⟨e, s, rfl, h1, h2, ?_, hs, List.all_eq_true.1 h4⟩
      intro hk
      simpa [hk] using h3
theorem flB_var {c : Core} (h : flB c = true) (hk : c.kind = 1) (hl : kdB c.kind c.kids.length = true) : c = varC c.id := by
  unfold flB at h
  simp only [hk, if_true, show ¬ ((1 : Int) = 2) by decide, show ¬ ((1 : Int) = 3) by decide, show ¬ ((1 : Int) = 4) by decide, show ¬ ((1 : Int) = 5) by decide, if_false, Bool.and_eq_true, decide_eq_true_eq, decide_false, Bool.false_or, sameF_iff] at h
  rw [hk] at hl
  have hl : c.kids.length = 0 := by simpa [kdB] using hl
  cases c
  simp only at h hk hl
  simp only [varC, Core.mk.injEq, true_and]
  exact ⟨hk, h.2.1, h.2.2.1, h.2.2.2.2, h.2.2.2.1, List.eq_nil_of_length_eq_zero hl⟩
theorem crB_var {d : Nat} {sc : List Int} {c : Core} (h : crB d sc c = true) (hk : c.kind = 1) : c = varC c.id := by
  obtain ⟨e, s, _, h1, h2, _, _, _⟩ := crB_parts h
  exact flB_var h2 hk h1
theorem map_id_of {α : Type} {f : α → α} : ∀ {l : List α}, (∀ x ∈ l, f x = x) → l.map f = l
  | [], _ => rfl
  | x :: r, h => by rw [List.map_cons, h x List.mem_cons_self, map_id_of fun y hy => h y (List.mem_cons_of_mem _ hy)]
theorem adB_perm : ∀ {ids sc sc' : List Int}, (∀ x, x ∈ sc ↔ x ∈ sc') → (adB sc ids = none ↔ adB sc' ids = none) ∧ ∀ s s', adB sc ids = some s → adB sc' ids = some s' → ∀ x, x ∈ s ↔ x ∈ s'
  | [], sc, sc', h => ⟨by simp [adB], fun s s' h1 h2 => by cases h1; cases h2; exact h⟩
  | y :: r, sc, sc', h => by
    have ih := adB_perm (ids := r) (sc := sc ++ [y]) (sc' := sc' ++ [y]) (fun x => by simp [h x])
    simp only [adB]
    by_cases hc : (1 ≤ y ∧ y ≤ 999) ∧ y ∉ sc
    · rw [if_pos hc, if_pos ⟨hc.1, fun hm => hc.2 ((h y).2 hm)⟩]; exact ih
    · rw [if_neg hc, if_neg (fun hm => hc ⟨hm.1, fun hx => hm.2 ((h y).1 hx)⟩)]; exact ⟨by simp, fun s s' h1 => by cases h1⟩
theorem crB_perm : ∀ {d : Nat} {sc sc' : List Int} {c : Core}, (∀ x, x ∈ sc ↔ x ∈ sc') → crB d sc c = crB d sc' c := by
  intro d
  induction d with
  | zero => intros; rfl
  | succ d ih =>
    intro sc sc' c h
    obtain ⟨g1, g2⟩ := adB_perm (ids := c.ids) h
    simp only [crB]
    congr 1; congr 1
    congr 1
    · congr 1; simp only [decide_eq_decide]; exact h c.id
    · cases h1 : adB sc c.ids with
      | none => rw [g1.1 h1]
      | some s =>
        cases h2 : adB sc' c.ids with
        | none => rw [g1.2 h2] at h1; cases h1
        | some s' =>
          simp only
          rw [Bool.eq_iff_iff, List.all_eq_true, List.all_eq_true]
          exact ⟨fun q x hx => (ih (g2 s s' h1 h2)) ▸ q x hx, fun q x hx => (ih (g2 s s' h1 h2)).symm ▸ q x hx⟩
theorem usCs_zero {id : Int} : ∀ {l : List Core}, usCs id l = 0 → ∀ x ∈ l, usC id x = 0 := fun h x hx => by have := usCs_mem (id := id) hx; omega
theorem put_back {id b : Int} (hn : id ≠ b) : ∀ {d : Nat} {sc : List Int} {c : Core}, crB d sc c = true → usC b c = 0 → putC b (varC id) (putC id (varC b) c) = c := by
  intro d
  induction d with
  | zero => intro sc c h; cases h
  | succ d ih =>
    intro sc c h hu
    rw [putC_eq id]
    rw [usC_eq] at hu
    by_cases hk : c.kind = 1 ∧ c.id = id
    · rw [if_pos hk, crB_var h hk.1, hk.2, putC_eq]
      simp [varC]
    · rw [if_neg hk, putCs_map, putC_eq]
      have hb : ¬ (c.kind = 1 ∧ c.id = b) := fun h => by rw [if_pos h] at hu; omega
      obtain ⟨e, s, he, _, _, _, _, h6⟩ := crB_parts h
      obtain rfl : d = e := by omega
      simp only
      rw [if_neg hb, putCs_map, List.map_map]
      have := map_id_of (f := putC b (varC id) ∘ putC id (varC b)) (l := c.kids) fun x hx => ih (h6 x hx) (usCs_zero (by omega) x hx)
      rw [this]
      cases c; rfl
theorem idCs_map {f : Core → Core} : ∀ {l : List Core}, (∀ x ∈ l, idC (f x) = idC x) → idCs (l.map f) = idCs l
  | [], _ => rfl
  | x :: r, h => by simp only [List.map_cons, idCs, h x List.mem_cons_self, idCs_map fun y hy => h y (List.mem_cons_of_mem _ hy)]
theorem put_ids {id : Int} {a : Core} (ha : a.kids = []) (hi : a.ids = []) : ∀ {d : Nat} {sc : List Int} {c : Core}, crB d sc c = true → idC (putC id a c) = idC c := by
  intro d
  induction d with
  | zero => intro sc c h; cases h
  | succ d ih =>
    intro sc c h
    rw [putC_eq]
    by_cases hk : c.kind = 1 ∧ c.id = id
    · rw [if_pos hk, idC_eq, ha, hi, crB_var h hk.1]; rfl
    · rw [if_neg hk, putCs_map, idC_eq, idC_eq c]
      obtain ⟨e, s, he, _, _, _, _, h6⟩ := crB_parts h
      obtain rfl : d = e := by omega
      simp only
      rw [idCs_map fun x hx => ih (h6 x hx)]
theorem mapA_ev {α β : Type} {m : Nat → α → Option β} {g : α → β} {xs : List α} {be : Nat} (hb : xs.length * be ≤ 140737488355328) (h : ∀ x ∈ xs, Evt (fun n => m n x) (g x)) :
    Evt (fun n => Mx.forL (fun (s : List β) (_ : Nat) (x : α) => (m n x).bind fun k => (apB be s [k]).bind fun z => some z) 0 xs []) (xs.map g) := by
  refine Ex.evt ?_
  refine Ex.forL (I := fun i q s => s = (xs.take i).map g ∧ xs.drop i = q) ⟨rfl, rfl⟩ ?_ ?_
  · rintro i x q s ⟨rfl, hd⟩
    obtain ⟨g1, g2, g3, g4⟩ := drop_hd hd
    refine .bv (h x g4) (.bp _ (apB_ok ?_) (.pure ⟨?_, g2⟩))
    · refine Nat.le_trans (Nat.mul_le_mul_right _ ?_) hb
      simp; omega
    · rw [List.take_add_one, g1]; simp
  · rintro s ⟨rfl, _⟩; simp
theorem iclo_eq {n : Nat} {l : List Int} (h : l.length ≤ 1000000000000) : slices_Clone_int n l = some l := by
  unfold slices_Clone_int
  rw [apB_ok (by simp; omega)]; simp
theorem iclo_ev {l : List Int} (h : l.length ≤ 1000000000000) : Evt (fun n => slices_Clone_int n l) l := ⟨0, fun n _ => iclo_eq h⟩
theorem icf_evt (f : Form) (hw : wF f ≤ 1000000000) : Evt (fun n => im_copyForm n f) f := by
  have he := wF_eq f
  refine .succ ?_
  simp only [im_copyForm]
  refine Ex.evt (.bv (iclo_ev (by omega)) ?_)
  refine .bv (copyA_ev (m := fun n x => im_copyForm n x) (be := 80) (by omega) (fun x hx => icf_evt x (by have := wFs_mem hx; omega))) (.pure (by cases f; rfl))
termination_by SizeOf.sizeOf f
decreasing_by exact szF_lt hx
theorem icc_evt (c : Core) (hw : wC c ≤ 1000000000) : Evt (fun n => im_copyCore n c) c := by
  have he := wC_eq c
  refine .succ ?_
  simp only [im_copyCore]
  refine Ex.evt (.bv (iclo_ev (by omega)) (.bv (icf_evt c.data (by omega)) ?_))
  refine .bv (copyA_ev (m := fun n x => im_copyCore n x) (be := 168) (by omega) (fun x hx => icc_evt x (by have := wCs_mem hx; omega))) (.pure (by cases c; rfl))
termination_by SizeOf.sizeOf c
decreasing_by exact szC_lt hx
theorem scf_evt (f : Form) (hw : wF f ≤ 1000000000) : Evt (fun n => sp_l1Copy n f) f := by
  have he := wF_eq f
  refine .succ ?_
  simp only [sp_l1Copy]
  refine Ex.evt (.bp _ (apB_nil (by omega)) ?_)
  refine .bv (copyA_ev (m := fun n x => sp_l1Copy n x) (be := 80) (by omega) (fun x hx => scf_evt x (by have := wFs_mem hx; omega))) (.pure (by cases f; rfl))
termination_by SizeOf.sizeOf f
decreasing_by exact szF_lt hx
theorem scc_evt (c : Core) (hw : wC c ≤ 1000000000) : Evt (fun n => sp_l6Copy n c) c := by
  have he := wC_eq c
  refine .succ ?_
  simp only [sp_l6Copy]
  refine Ex.evt (.bp _ (apB_nil (by omega)) (.bv (scf_evt c.data (by omega)) ?_))
  refine .bv (copyA_ev (m := fun n x => sp_l6Copy n x) (be := 168) (by omega) (fun x hx => scc_evt x (by have := wCs_mem hx; omega))) (.pure (by cases c; rfl))
termination_by SizeOf.sizeOf c
decreasing_by exact szC_lt hx
def funC (ids : List Int) (c : Core) : Core := ⟨5, 0, [], 0, ids, ⟨0, [], 0, [], []⟩, [c]⟩
mutual
theorem put_w (id : Int) (a : Core) : ∀ c : Core, wC (putC id a c) ≤ wC c + cC c * wC a
  | ⟨k, i, nm, n, ids, dt, kids⟩ => by
    have := put_ws id a kids
    simp only [putC, cC, wC]
    split
    · rw [Nat.add_mul]; omega
    · simp only [wC, Nat.add_mul, putCs_map, List.length_map] at *; omega
theorem put_ws (id : Int) (a : Core) : ∀ l : List Core, wCs (putCs id a l) ≤ wCs l + cCs l * wC a
  | [] => by simp [putCs, wCs]
  | x :: r => by
    have := put_w id a x
    have := put_ws id a r
    simp only [putCs, wCs, cCs, Nat.add_mul]; omega
end
theorem isub_evt (id : Int) (a : Core) (ha : wC a ≤ 1000000000) (c : Core) (hw : wC c ≤ 1000000000) : Evt (fun n => im_substituted n c id a) (putC id a c) := by
  have he := wC_eq c
  refine .succ ?_
  simp only [im_substituted]
  rw [putC_eq]
  refine Ex.evt ?_
  by_cases h1 : c.kind = 1 ∧ c.id = id
  · rw [if_pos h1]
    obtain ⟨ak, ai, an, ann, aids, ⟨dk, dn, dnn, ds, dks⟩, akids⟩ := a
    refine Ex.seqS (P := fun o => o = .inl ⟨ak, ai, an, ann, aids, ⟨dk, dn, dnn, ds, dks⟩, akids⟩) (.pos h1.1 (.bp _ (if_pos h1.2) (.pos rfl (.bv (icc_evt _ ha) (.pure rfl))))) (fun w h => by cases h; rfl) (fun t h => by cases h)
  · rw [if_neg h1]
    refine Ex.seqS (P := fun o => o = .inr ()) ?_ (fun w h => by cases h) ?_
    · by_cases h : c.kind = 1
      · exact .pos h (.bp _ (if_neg (fun e => h1 ⟨h, e⟩)) (.neg (by simp) (.pure rfl)))
      · exact .neg h (.pure rfl)
    · rintro ⟨⟩ _
      refine .bv (iclo_ev (by omega)) (.bv (icf_evt c.data (by omega)) ?_)
      refine .bv (mapA_ev (m := fun n x => im_substituted n x id a) (g := putC id a) (be := 168) (by omega) (fun x hx => isub_evt id a ha x (by have := wCs_mem hx; omega))) (.pure ?_)
      rw [putCs_map]
termination_by SizeOf.sizeOf c
decreasing_by exact szC_lt hx
theorem sput_evt (id : Int) (a : Core) (ha : wC a ≤ 1000000000) (c : Core) (hw : wC c ≤ 1000000000) : Evt (fun n => sp_l13Put n c id a) (putC id a c) := by
  have he := wC_eq c
  refine .succ ?_
  simp only [sp_l13Put]
  rw [putC_eq]
  refine Ex.evt ?_
  refine Ex.bind (P := fun o => o = decide (c.kind = 1 ∧ c.id = id)) ?_ ?_
  · by_cases h : c.kind = 1
    · exact .pos h (.pure (by simp [h]))
    · exact .neg h (.pure (by simp [h]))
  rintro o rfl
  by_cases h1 : c.kind = 1 ∧ c.id = id
  · rw [if_pos h1]; exact .pos (by simpa using h1) (.bv (scc_evt a ha) (.pure rfl))
  · rw [if_neg h1]
    refine .neg (by simpa using h1) (.bp _ (apB_nil (by omega)) (.bv (scf_evt c.data (by omega)) ?_))
    refine .bv (mapA_ev (m := fun n x => sp_l13Put n x id a) (g := putC id a) (be := 168) (by omega) (fun x hx => sput_evt id a ha x (by have := wCs_mem hx; omega))) (.pure ?_)
    rw [putCs_map]
termination_by SizeOf.sizeOf c
decreasing_by exact szC_lt hx
theorem sids_evt (c : Core) (w : List Int) (hw : w.length + wC c ≤ 1000000000) : Evt (fun n => sp_l13Ids n w c) (w ++ idC c) := by
  have he := wC_eq c
  refine .succ ?_
  simp only [sp_l13Ids]
  refine Ex.evt (.bp _ (apB_ok (by omega)) ?_)
  refine Ex.bind (P := fun s => s = w ++ idC c) ?_ (fun s hs => .pure hs)
  refine Ex.forL (I := fun i q s => s ++ idCs q = w ++ idC c ∧ s.length + wCs q ≤ 1000000000 ∧ ∀ x ∈ q, x ∈ c.kids) ⟨by rw [idC_eq, List.append_assoc], by simp; omega, fun _ h => h⟩ ?_ ?_
  · rintro i x q s ⟨h1, h2, h3⟩
    simp only [wCs] at h2
    have g4 := h3 x (List.mem_cons_self)
    refine .bv (sids_evt x s (by omega)) (.pure ⟨?_, ?_, fun y hy => h3 y (List.mem_cons_of_mem _ hy)⟩)
    · rw [← h1]; simp only [idCs, List.append_assoc]
    · have := idC_le x
      simp only [List.length_append]; omega
  · rintro s ⟨h1, _, _⟩
    simpa [idCs] using h1
termination_by SizeOf.sizeOf c
decreasing_by exact szC_lt g4
theorem shasv_eq (n : Nat) (l : List Int) (x : Int) : sp_l2Has_v n l x = some (decide (x ∈ l)) := shas_eq n l x
theorem icf11_eq (n : Nat) (l w : List Int) : slices_ContainsFunc_int__im_SubstituteVar_1_1 n l w = some (l.any fun x => decide (x ∈ w)) := by
  unfold slices_ContainsFunc_int__im_SubstituteVar_1_1 slices_IndexFunc_int__im_SubstituteVar_1_1 im_SubstituteVar_1_1
  simp only [icon_eq, Option.bind_some]
  have main : ∀ (l : List Int) (i : Nat), ∃ k : Int, seqS (Mx.forI (fun (_ : Unit) (i : Nat) (y : Int) => ((if decide (y ∈ w) = true then some (Sum.inl (i : Int)) else some (Sum.inr ())) : Option (Int ⊕ Unit))) i l ()) (fun _ => some (-1)) = some k ∧ (k ≥ 0 ↔ l.any (fun x => decide (x ∈ w)) = true) := by
    intro l
    induction l with
    | nil => intro i; exact ⟨-1, rfl, by simp⟩
    | cons y r ih =>
      intro i
      by_cases h : y ∈ w
      · exact ⟨(i : Int), by simp [Mx.forI, Mx.seqS, h], by simp [h]⟩
      · obtain ⟨k, h1, h2⟩ := ih (i + 1)
        refine ⟨k, ?_, by rw [h2]; simp [h]⟩
        rw [← h1]
        simp [Mx.forI, h]
  obtain ⟨k, h1, h2⟩ := main l 0
  rw [h1, Option.bind_some]
  congr 1
  rw [Bool.eq_iff_iff, decide_eq_true_eq]; exact h2
theorem iecl_evt (w : List Int) (c : Core) (b : Bool) : Evt (fun n => im_eachCore__im_SubstituteVar_1 n c b w) (b || (idC c).any fun x => decide (x ∈ w)) := by
  refine .succ ?_
  simp only [im_eachCore__im_SubstituteVar_1, im_SubstituteVar_1, icf11_eq, Option.bind_some]
  refine Ex.evt ?_
  refine Ex.bind (P := fun s => s = (b || c.ids.any fun x => decide (x ∈ w))) ?_ ?_
  · refine Ex.bind (P := fun s => s = (b || c.ids.any fun x => decide (x ∈ w))) ?_ (fun s hs => .pure hs)
    cases b with
    | true => exact .pos rfl (.pure rfl)
    | false => exact .neg (by simp) (.pure (by simp))
  rintro s rfl
  refine Ex.bind (P := fun s => s = (b || (idC c).any fun x => decide (x ∈ w))) ?_ (fun s hs => .pure hs)
  refine Ex.forL (I := fun i q s => (s || (idCs q).any fun x => decide (x ∈ w)) = (b || (idC c).any fun x => decide (x ∈ w)) ∧ ∀ x ∈ q, x ∈ c.kids) ⟨by rw [idC_eq, List.any_append, Bool.or_assoc], fun _ h => h⟩ ?_ ?_
  · rintro i x q s ⟨h1, h3⟩
    have g4 := h3 x (List.mem_cons_self)
    refine .bv (iecl_evt w x s) (.pure ⟨?_, fun y hy => h3 y (List.mem_cons_of_mem _ hy)⟩)
    rw [← h1]; simp only [idCs, List.any_append, Bool.or_assoc]
  · rintro s ⟨h1, _⟩
    simpa [idCs] using h1
termination_by SizeOf.sizeOf c
decreasing_by exact szC_lt g4
def zeC : Core := ⟨0, 0, [], 0, [], ⟨0, [], 0, [], []⟩, []⟩
/-- The numbers that must not clash. -/
def idsB (id : Int) (a : Core) : List Int := if a.kind = 1 ∧ ¬ a.id = id then [id, a.id] else [id]
theorem idsB_len (id : Int) (a : Core) : (idsB id a).length ≤ 2 := by unfold idsB; split <;> simp
/-- Whether a replacing succeeds. -/
def subOk (c : Core) (id : Int) (a : Core) : Bool := atomB a && (!((idC c).any fun x => decide (x ∈ idsB id a)) && (validC (funC (idsB id a) c) && validC (funC (idsB id a) (putC id a c))))
def subV (c : Core) (id : Int) (a : Core) : Core × Bool := if subOk c id a = true then (putC id a c, true) else (zeC, false)
theorem wC_fun (ids : List Int) (c : Core) : wC (funC ids c) = ids.length + 1 + wC c := by simp [funC, wC, wCs, wF, wFs]
theorem sub_small {c a : Core} {id : Int} (hc : wC c ≤ 30000) (ha : wC a ≤ 3000) : wC (putC id a c) ≤ 100000000 := by
  have h1 := put_w id a c
  have h2 := cC_le c
  have h3 : cC c * wC a ≤ 30001 * 3000 := Nat.mul_le_mul (by omega) ha
  omega
theorem i2_ev (ids : List Int) (c : Core) (h : wC (funC ids c) ≤ 1073741824) : Evt (fun n => im_SubstituteVar_2 n c ids) (validC (funC ids c)) := Ex.evt (.bv (icv_evt (funC ids c) h) (.pure rfl))
theorem mem_idsB {id : Int} {a : Core} {x : Int} : x ∈ idsB id a ↔ x = id ∨ (a.kind = 1 ∧ x = a.id) := by
  unfold idsB
  by_cases h : a.kind = 1 ∧ ¬ a.id = id
  · rw [if_pos h]; simp [h.1]
  · rw [if_neg h]
    simp only [List.mem_cons, List.not_mem_nil, or_false]
    constructor
    · exact .inl
    · rintro (rfl | ⟨h1, rfl⟩)
      · rfl
      · exact Classical.byContradiction fun e => h ⟨h1, e⟩
theorem isv_evt (c a : Core) (id : Int) (hc : wC c ≤ 30000) (ha : wC a ≤ 3000) : Evt (fun n => im_SubstituteVar n c id a) (subV c id a) := by
  have hp := sub_small (id := id) hc ha
  have hl := idsB_len id a
  refine Ex.evt ?_
  unfold im_SubstituteVar subV subOk
  simp only [iat_eq, Option.bind_some]
  cases atomB a with
  | false => exact .pos rfl (.pure rfl)
  | true =>
  refine .neg (by simp) ?_
  refine Ex.bind (P := fun o => o = decide (a.kind = 1 ∧ ¬ a.id = id)) ?_ ?_
  · by_cases h : a.kind = 1
    · exact .pos h (.pure (by simp [h]))
    · exact .neg h (.pure (by simp [h]))
  rintro o rfl
  refine Ex.bind (P := fun o => o = idsB id a) ?_ ?_
  · unfold idsB
    by_cases h : a.kind = 1 ∧ ¬ a.id = id
    · rw [if_pos h]; exact .pos (by simpa using h) (.bp _ (apB_ok (by simp)) (.pure rfl))
    · rw [if_neg h]; exact .neg (by simpa using h) (.pure rfl)
  rintro o rfl
  refine .bv (iecl_evt (idsB id a) c false) (.bv (isub_evt id a (by omega) c (by omega)) ?_)
  rw [Bool.false_or]
  refine Ex.bind (P := fun o => o = !(!((idC c).any fun x => decide (x ∈ idsB id a)) && (validC (funC (idsB id a) c) && validC (funC (idsB id a) (putC id a c))))) ?_ ?_
  · cases (idC c).any fun x => decide (x ∈ idsB id a) with
    | true => exact .pos rfl (.pure rfl)
    | false =>
      refine .neg (by simp) (.bv (i2_ev (idsB id a) c (by rw [wC_fun]; omega)) ?_)
      cases validC (funC (idsB id a) c) with
      | false => exact .pos rfl (.pure rfl)
      | true => exact .neg (by simp) (.bv (i2_ev (idsB id a) (putC id a c) (by rw [wC_fun]; omega)) (.pure (by simp)))
  rintro o rfl
  cases (!((idC c).any fun x => decide (x ∈ idsB id a)) && (validC (funC (idsB id a) c) && validC (funC (idsB id a) (putC id a c)))) with
  | false => exact .pos rfl (.pure rfl)
  | true => exact .neg (by simp) (.pure rfl)
theorem ssv_evt (c a : Core) (id : Int) (hc : wC c ≤ 30000) (ha : wC a ≤ 3000) : Evt (fun n => sp_SubstituteVar n c id a) (subV c id a) := by
  have hp := sub_small (id := id) hc ha
  have hl := idsB_len id a
  refine Ex.evt ?_
  unfold sp_SubstituteVar subV subOk
  simp only [sat_eq, Option.bind_some]
  have hi : Evt (fun n => sp_l13Ids n [] c) (idC c) := sids_evt c [] (by simp; omega)
  have hany : ((idC c).any fun x => decide (x ∈ idsB id a)) = (decide (id ∈ idC c) || (decide (a.kind = 1) && decide (a.id ∈ idC c))) := by
    rw [Bool.eq_iff_iff]
    simp only [List.any_eq_true, Bool.or_eq_true, Bool.and_eq_true, decide_eq_true_eq, mem_idsB]
    constructor
    · rintro ⟨x, hx, rfl | ⟨h1, rfl⟩⟩
      · exact .inl hx
      · exact .inr ⟨h1, hx⟩
    · rintro (h | ⟨h1, h2⟩)
      · exact ⟨id, h, .inl rfl⟩
      · exact ⟨a.id, h2, .inr ⟨h1, rfl⟩⟩
  rw [hany]
  refine Ex.bind (P := fun o => o = !(atomB a && !(decide (id ∈ idC c) || (decide (a.kind = 1) && decide (a.id ∈ idC c))))) ?_ ?_
  · cases atomB a with
    | false => exact .pos rfl (.pure rfl)
    | true =>
      refine .neg (by simp) (.bv hi ?_)
      simp only [shasv_eq, Option.bind_some]
      by_cases h1 : id ∈ idC c
      · exact .pos (by simpa using h1) (.pure (by simp [h1]))
      · refine .neg (by simpa using h1) ?_
        by_cases k : a.kind = 1
        · exact .pos k (.bv hi (.pure (by simp [h1, k])))
        · exact .neg k (.pure (by simp [h1, k]))
  rintro o rfl
  cases h0 : (atomB a && !(decide (id ∈ idC c) || (decide (a.kind = 1) && decide (a.id ∈ idC c)))) with
  | false =>
    refine .pos rfl (.pure ?_)
    rw [if_neg]
    · rfl
    · intro h
      rw [← Bool.and_assoc, h0] at h; cases h
  | true =>
  refine .neg (by simp) ?_
  rw [← Bool.and_assoc, h0, Bool.true_and]
  refine Ex.bind (P := fun o => o = decide (a.kind = 1 ∧ ¬ a.id = id)) ?_ ?_
  · by_cases h : a.kind = 1
    · exact .pos h (.pure (by simp [h]))
    · exact .neg h (.pure (by simp [h]))
  rintro o rfl
  refine Ex.bind (P := fun o => o = idsB id a) ?_ ?_
  · unfold idsB
    by_cases h : a.kind = 1 ∧ ¬ a.id = id
    · rw [if_pos h]; exact .pos (by simpa using h) (.bp _ (apB_ok (by simp)) (.pure rfl))
    · rw [if_neg h]; exact .neg (by simpa using h) (.pure rfl)
  rintro o rfl
  refine .bv (sput_evt id a (by omega) c (by omega)) ?_
  refine Ex.bind (P := fun o => o = !(validC (funC (idsB id a) c) && validC (funC (idsB id a) (putC id a c)))) ?_ ?_
  · refine .bv (scv_evt (funC (idsB id a) c) (by rw [wC_fun]; omega)) ?_
    cases validC (funC (idsB id a) c) with
    | false => exact .pos rfl (.pure rfl)
    | true => exact .neg (by simp) (.bv (scv_evt (funC (idsB id a) (putC id a c)) (by rw [wC_fun]; omega)) (.pure (by simp)))
  rintro o rfl
  cases (validC (funC (idsB id a) c) && validC (funC (idsB id a) (putC id a c))) with
  | false => exact .pos rfl (.pure rfl)
  | true => exact .neg (by simp) (.pure rfl)
/-- What a valid function has as its body. -/
theorem valid_fun {ids : List Int} {c : Core} (h : validC (funC ids c) = true) : ∃ s, adB [] ids = some s ∧ crB 119 s c = true := by
  unfold validC at h
  rw [Bool.and_eq_true] at h
  obtain ⟨e, s, he, _, _, _, h5, h6⟩ := crB_parts h.1
  obtain rfl : e = 119 := by omega
  exact ⟨s, h5, h6 c (by simp [funC])⟩
theorem adB_mem : ∀ {ids sc s : List Int}, adB sc ids = some s → ∀ x, x ∈ s ↔ x ∈ sc ∨ x ∈ ids
  | [], sc, s, h => by cases h; simp
  | y :: r, sc, s, h => by
    simp only [adB] at h
    split at h
    · intro x; rw [adB_mem h x]; simp [or_assoc]
    · cases h
theorem iuse_evt (id : Int) (c : Core) (w : Nat) (hw : w + cC c ≤ 1000000000) : Evt (fun n => im_eachCore__im_VarUses_1 n c id (w : Int)) ((w + usC id c : Nat) : Int) := by
  have hc := cC_eq c
  have hu := usC_le id c
  refine .succ ?_
  simp only [im_eachCore__im_VarUses_1, im_VarUses_1]
  refine Ex.evt ?_
  refine Ex.bind (P := fun s => s = ((w + (if c.kind = 1 ∧ c.id = id then 1 else 0) : Nat) : Int)) ?_ ?_
  · refine Ex.bind (P := fun o => o = decide (c.kind = 1 ∧ c.id = id)) ?_ ?_
    · by_cases h : c.kind = 1
      · exact .pos h (.pure (by simp [h]))
      · exact .neg h (.pure (by simp [h]))
    rintro o rfl
    by_cases h : c.kind = 1 ∧ c.id = id
    · refine .pos (by simpa using h) (.pure ?_)
      rw [if_pos h, w_id (by omega) (by omega)]; omega
    · refine .neg (by simpa using h) (.pure ?_)
      rw [if_neg h]; rfl
  rintro s rfl
  refine Ex.bind (P := fun s => s = ((w + usC id c : Nat) : Int)) ?_ (fun s hs => .pure hs)
  refine Ex.forL (I := fun i q s => ∃ v : Nat, s = (v : Int) ∧ v + usCs id q = w + usC id c ∧ v + cCs q ≤ 1000000000 ∧ ∀ x ∈ q, x ∈ c.kids) ⟨_, rfl, by rw [usC_eq]; omega, by split <;> omega, fun _ h => h⟩ ?_ ?_
  · rintro i x q s ⟨v, rfl, h1, h2, h3⟩
    have g4 := h3 x (List.mem_cons_self)
    have hx := usC_le id x
    simp only [usCs, cCs] at h1 h2
    exact .bv (iuse_evt id x v (by omega)) (.pure ⟨_, rfl, by omega, by omega, fun y hy => h3 y (List.mem_cons_of_mem _ hy)⟩)
  · rintro s ⟨v, rfl, h1, _, _⟩
    simp only [usCs] at h1
    rw [← h1]; rfl
termination_by SizeOf.sizeOf c
decreasing_by exact szC_lt g4
theorem ivu_evt (id : Int) (c : Core) (hw : cC c ≤ 1000000000) : Evt (fun n => im_VarUses n c id) (usC id c : Int) := by
  have h := iuse_evt id c 0 (by omega)
  rw [Nat.zero_add] at h
  exact Ex.evt (.bv h (.pure rfl))
theorem isame_evt (a b : Core) : Evt (fun n => im_CoreSame n a b) (sameC a b) := Ex.evt (.bv (isc_evt a b) (.pure rfl))
theorem sameC_refl (c : Core) : sameC c c = true := sameC_iff.2 rfl
theorem exDrawSubst (b : List UInt8) : Ex (fun n => sp_DrawSubstituteVar n b) (fun k => wC k.1 ≤ 1000 ∧ wC k.2.2 ≤ 1000 ∧ (leafC [1] k.2.2 ∨ k.2.2.kids ≠ [])) := by
  unfold sp_DrawSubstituteVar
  refine .bind (exOpen b) fun r g1 => ?_
  refine .bind (exNum (by simp) g1 (by omega)) fun k2 ⟨s2, hm⟩ => ?_
  have g2 : Gd k2.2 900000000 := g1.to s2 (by omega)
  obtain ⟨d, hd, hk⟩ : ∃ d : Nat, d ≤ 3 ∧ k2.1 = (d : Int) := by
    simp only [List.mem_cons, List.not_mem_nil, or_false] at hm
    rcases hm with h | h
    · exact ⟨3, by omega, h⟩
    · exact ⟨2, by omega, h⟩
  rw [hk]
  have hB : bC d ≤ 2000 ∧ wDC d ≤ 1000 := by
    have : d = 0 ∨ d = 1 ∨ d = 2 ∨ d = 3 := by omega
    rcases this with rfl | rfl | rfl | rfl <;> simp [bC, wDC]
  refine .bind (exSomeC d (by omega) [1, 2] 2 k2.2 (by simp; omega) (g2.to (.refl (Int.le_refl 0)) (by omega))) fun k3 ⟨s3, w3, h3⟩ => ?_
  have g3 : Gd k3.2.2 800000000 := g2.to (s3.mono (C := 2000) (by omega)) (by omega)
  refine .bind (exPick g3 (by omega)) fun k4 ⟨s4, _⟩ => ?_
  have g4 : Gd k4.2 700000000 := g3.to s4 (by omega)
  refine Ex.bind (P := fun o => wC o ≤ 1000) ?_ ?_
  · refine .ite (fun _ => .bv (sput_evt 2 _ (by simp [wC, wCs, wF, wFs]) k3.1 (by omega)) (.pure ?_)) (fun _ => .pure (by omega))
    have := put_w 2 ⟨1, 1, [], 0, [], ⟨0, [], 0, [], []⟩, []⟩ k3.1
    have e : wC ⟨1, 1, [], 0, [], ⟨0, [], 0, [], []⟩, []⟩ = 0 := by simp [wC, wCs, wF, wFs]
    rw [e] at this; omega
  intro o ho
  refine .bind (exNum (by simp) g4 (by omega)) fun k6 ⟨s6, _⟩ => ?_
  exact .bind (exDrawCoreAtom b) fun k7 ⟨h7, l7⟩ => .pure ⟨ho, h7, l7⟩
theorem mxin_eq (n : Nat) (l : List Int) (x : Int) : la_mxIn n l x = some (decide (x ∈ l)) := shas_eq n l x
theorem mxhas_evt (x : Int) (c : Core) : Evt (fun n => la_mxCoreHas n c x) (decide (x ∈ idC c)) := by
  refine .succ ?_
  simp only [la_mxCoreHas, mxin_eq, Option.bind_some]
  refine Ex.evt ?_
  by_cases h : x ∈ c.ids
  · exact .pos (by simpa using h) (.pure (by simp [idC_eq, h]))
  · refine .neg (by simpa using h) ?_
    refine Ex.seqS (P := fun o => match o with
      | .inl w => w = true ∧ x ∈ idC c
      | .inr _ => x ∉ idC c) ?_ ?_ ?_
    · refine Ex.forI (I := fun i q s => (x ∈ idC c ↔ x ∈ idCs q) ∧ ∀ y ∈ q, y ∈ c.kids) ⟨by rw [idC_eq]; simp [h], fun _ h => h⟩ ?_ ?_
      · rintro i y q s ⟨h1, h3⟩
        have g4 := h3 y (List.mem_cons_self)
        refine .bv (mxhas_evt x y) ?_
        simp only [idCs, List.mem_append] at h1
        by_cases hy : x ∈ idC y
        · exact .pos (by simpa using hy) (.fo ⟨rfl, h1.2 (.inl hy)⟩)
        · exact .neg (by simpa using hy) (.fg ⟨by rw [h1]; simp [hy], fun z hz => h3 z (List.mem_cons_of_mem _ hz)⟩)
      · rintro s ⟨h1, _⟩
        simpa [idCs] using h1
    · rintro w ⟨rfl, h1⟩; simp [h1]
    · rintro ⟨⟩ h1
      have h1 : x ∉ idC c := h1
      exact .pure (by simp [h1])
termination_by SizeOf.sizeOf c
decreasing_by exact szC_lt g4
theorem crB_mk {d : Nat} {sc s : List Int} {c : Core} (h1 : kdB c.kind c.kids.length = true) (h2 : flB c = true) (h3 : c.kind = 1 → c.id ∈ sc) (h4 : adB sc c.ids = some s) (h5 : ∀ x ∈ c.kids, crB d s x = true) : crB (d + 1) sc c = true := by
  rw [crB, h1, h2, h4]
  simp only [Bool.true_and, Bool.and_eq_true, Bool.or_eq_true, Bool.not_eq_true', decide_eq_false_iff_not, decide_eq_true_eq]
  exact ⟨by by_cases h : c.kind = 1; { exact .inr (h3 h) }; { exact .inl h }, List.all_eq_true.2 h5⟩
theorem exFnSubstituteBack (b : List UInt8) : Evt (fun n => la_FnSubstituteBack n b) true := by
  refine Ex.evt ?_
  unfold la_FnSubstituteBack
  refine .ite (fun _ => .pure rfl) (fun _ => ?_)
  refine .bind (exDrawSubst b) ?_
  rintro ⟨c, id, a⟩ ⟨hc, ha, hl⟩
  simp only at hc ha hl ⊢
  refine .bv (isv_evt c a id (by omega) (by omega)) (.bv (ssv_evt c a id (by omega) (by omega)) ?_)
  have hsr := sameC_refl (subV c id a).1
  refine Ex.bind (P := fun o => o = !(subV c id a).2) ?_ ?_
  · refine .bv (isame_evt _ _) ?_
    rw [hsr]
    refine .neg (by simp) (.neg (by simp) (.pure rfl))
  rintro o rfl
  cases hok : subOk c id a with
  | false =>
    have e : (subV c id a).2 = false := by simp [subV, hok]
    rw [e]
    refine .pos rfl ?_
    refine Ex.bind (P := fun o => o = true) ?_ (fun o ho => .pure ho)
    refine .bv (isame_evt _ _) ?_
    rw [hsr]
    exact .pos rfl (.pure (by simp))
  | true =>
    have e : (subV c id a).2 = true := by simp [subV, hok]
    rw [e]
    refine .neg (by simp) ?_
    have hcc := cC_le c
    refine Ex.bind (P := fun o => o = decide (990 ∈ idC c ∨ 0 < usC 990 c ∨ id = 990)) ?_ ?_
    · refine .bv (mxhas_evt 990 c) ?_
      by_cases h1 : (990 : Int) ∈ idC c
      · exact .pos (by simpa using h1) (.pure (by simp [h1]))
      · refine .neg (by simpa using h1) (.bv (ivu_evt 990 c (by omega)) ?_)
        by_cases h2 : 0 < usC 990 c
        · exact .pos (by omega) (.pure (by simp [h2]))
        · refine .neg (by omega) (.pure ?_)
          simp only [decide_eq_decide]
          constructor
          · exact fun h => .inr (.inr h)
          · rintro (h | h | h)
            · exact absurd h h1
            · exact absurd h h2
            · exact h
    rintro o rfl
    by_cases h0 : (990 : Int) ∈ idC c ∨ 0 < usC 990 c ∨ id = 990
    · exact .pos (decide_eq_true h0) (.pure rfl)
    · refine .neg (fun h => h0 (of_decide_eq_true h)) ?_
      have n1 : (990 : Int) ∉ idC c := fun h => h0 (.inl h)
      have n2 : usC 990 c = 0 := by
        rcases Nat.eq_zero_or_pos (usC 990 c) with h | h
        · exact h
        · exact absurd (.inr (.inl h)) h0
      have n3 : ¬ id = 990 := fun h => h0 (.inr (.inr h))
      have wv : ∀ i : Int, wC (varC i) = 0 := fun i => by simp [varC, zF, wC, wCs, wF, wFs]
      have hw1 : wC (putC id (varC 990) c) ≤ 1000 := by
        have := put_w id (varC 990) c
        rw [wv] at this; omega
      refine .bv (isv_evt c (varC 990) id (by omega) (by rw [wv]; omega)) ?_
      cases hf : subOk c id (varC 990) with
      | false =>
        have e1 : subV c id (varC 990) = (zeC, false) := by simp [subV, hf]
        rw [e1]
        have hz : wC zeC = 0 := by simp [zeC, wC, wCs, wF, wFs]
        refine .bv (isv_evt zeC (varC id) 990 (by rw [hz]; omega) (by rw [wv]; omega)) ?_
        refine Ex.bind (P := fun o => o = true) (.pos rfl (.pure rfl)) (fun o ho => .pure ho)
      | true =>
        have e1 : subV c id (varC 990) = (putC id (varC 990) c, true) := by simp [subV, hf]
        rw [e1]
        refine .bv (isv_evt (putC id (varC 990) c) (varC id) 990 (by show wC (putC id (varC 990) c) ≤ _; omega) (by rw [wv]; omega)) ?_
        unfold subOk at hf
        simp only [Bool.and_eq_true, Bool.not_eq_true', List.any_eq_false, decide_eq_true_eq] at hf
        obtain ⟨_, hcl, hv, hv2⟩ := hf
        obtain ⟨s, hs, hcr⟩ := valid_fun hv
        have hback := put_back (b := 990) n3 hcr n2
        have hids := put_ids (id := id) (a := varC 990) rfl rfl hcr
        have i1 : ∀ x, x ∈ idsB id (varC 990) ↔ x = id ∨ x = 990 := fun x => by rw [mem_idsB]; simp [varC]
        have i2 : ∀ x, x ∈ idsB 990 (varC id) ↔ x = 990 ∨ x = id := fun x => by rw [mem_idsB]; simp [varC]
        have e2 : idsB id (varC 990) = [id, 990] := by unfold idsB; rw [if_pos ⟨rfl, fun h => n3 h.symm⟩]; rfl
        have e3 : idsB 990 (varC id) = [990, id] := by unfold idsB; rw [if_pos ⟨rfl, n3⟩]; rfl
        have hsw : ∀ x : Core, validC (funC [id, 990] x) = true → validC (funC [990, id] x) = true := by
          intro x hx
          unfold validC at hx ⊢
          rw [Bool.and_eq_true] at hx ⊢
          refine ⟨?_, hx.2⟩
          obtain ⟨e', s', he', p1, p2, p3, p4, p5⟩ := crB_parts hx.1
          have p4 : adB [] [id, 990] = some s' := p4
          have hh : 1 ≤ id ∧ id ≤ 999 := by
            simp only [adB] at p4
            split at p4
            · rename_i h; exact h.1
            · cases p4
          have q4 : adB [] [990, id] = some [990, id] := by
            simp only [adB, List.nil_append]
            rw [if_pos ⟨by omega, by simp⟩, if_pos ⟨hh, by simp [n3]⟩]; rfl
          have he'' : e' = 119 := by omega
          subst he''
          have := p5 x (by simp [funC])
          refine crB_mk (d := 119) (s := [990, id]) p1 p2 (fun h => by cases h) q4 (fun y hy => ?_)
          have hy : y = x := by simpa [funC] using hy
          subst hy
          rw [crB_perm (sc' := s')]
          · exact this
          · intro z
            rw [adB_mem p4 z]; simp [funC, or_comm]
        have hg : subOk (putC id (varC 990) c) 990 (varC id) = true := by
          unfold subOk
          simp only [Bool.and_eq_true, Bool.not_eq_true', List.any_eq_false, decide_eq_true_eq]
          refine ⟨rfl, fun x hx => ?_, ?_, ?_⟩
          · rw [hids] at hx
            rw [i2]
            rintro (rfl | rfl)
            · exact n1 hx
            · exact hcl x hx ((i1 x).2 (.inl rfl))
          · rw [e3]; rw [e2] at hv2; exact hsw _ hv2
          · rw [hback, e3]; rw [e2] at hv; exact hsw _ hv
        have e4 : subV (putC id (varC 990) c) 990 (varC id) = (c, true) := by
          unfold subV; rw [if_pos hg, hback]
        rw [e4]
        refine Ex.bind (P := fun o => o = true) ?_ (fun o ho => .pure ho)
        refine .neg (by simp) (.pos rfl (.bv (isame_evt c c) (.pure ?_)))
        exact sameC_refl c
theorem lawSubstituteBack (l : List Int) (h : l.length ≤ maxLen ∧ ∀ a ∈ l, (Lit.int .u8 a).wf = true) : Mx.ACall X.E 5 [.sl 1 .ro (l.map fun i => [.v (.int .u8 i)])] [] fun d _ => d = .v (.bool true) := by
  obtain ⟨N, hN⟩ := exFnSubstituteBack (toB l)
  exact call_true (w_la_FnSubstituteBack N (toB l) (hN N (Nat.le_refl _))) (by simp only [ED.DL, ED.D, KD.D, bytes_D h.2]; rfl)
end Go.Ev
