/- Plain laws of models. No condition. -/
import Derived.Test.YtbifcdaablhljaaDoorMdNeededMacros
import Derived.Test.YtbifcdaablhljaaDoorEvTri
namespace Go.Ev
open Go.Mx (KD ED EObj forL forI seqS iterM)
set_option linter.unusedVariables false
set_option linter.unusedSimpArgs false
/-- A loop over places that looks for one that does not serve. -/
theorem Evt.scan {ω : Type} {step : Nat → Int → Option (ω ⊕ Int)} {p : Nat → Bool} {L : Nat} {no yes : ω} (h1 : ∀ i, i < L → p i = true → Evt (fun n => step n (i : Int)) (.inr ((i + 1 : Nat) : Int))) (h2 : ∀ i, i < L → p i = false → Evt (fun n => step n (i : Int)) (.inl no)) (h3 : Evt (fun n => step n (L : Int)) (.inl yes)) :
    Evt (fun n => iterM n (step n) 0) (if (List.range L).all p = true then yes else no) := by
  obtain ⟨w, k1, k2⟩ := iter_ev (step := step) (fun s => L - s.toNat) (fun s => ∃ i : Nat, i ≤ L ∧ s = i ∧ ∀ j, j < i → p j = true) (fun w => w = if (List.range L).all p = true then yes else no) (fun s ⟨i, i1, i2, i3⟩ => by
    subst i2
    rcases Nat.lt_or_ge i L with h | h
    · cases hp : p i with
      | true => exact .inr ⟨_, h1 i h hp, ⟨i + 1, by omega, rfl, fun j hj => by rcases Nat.lt_or_eq_of_le (Nat.le_of_lt_succ hj) with q | q; exact i3 j q; rw [q]; exact hp⟩, by simp; omega⟩
      | false =>
        refine .inl ⟨_, h2 i h hp, ?_⟩
        rw [if_neg]
        intro hall
        rw [List.all_eq_true] at hall
        rw [hall i (List.mem_range.2 h)] at hp; cases hp
    · have : i = L := by omega
      subst this
      refine .inl ⟨_, h3, ?_⟩
      rw [if_pos]
      rw [List.all_eq_true]
      exact fun j hj => i3 j (List.mem_range.1 hj)) 0 ⟨0, Nat.zero_le _, rfl, fun j hj => by omega⟩
  exact k2 ▸ k1
/-- A loop over a list that looks for one that does not serve. -/
theorem scanI {α ω : Type} {step : Unit → Nat → α → Option (ω ⊕ Unit)} {p : α → Bool} {no : ω} {f : Unit → Option ω} : ∀ {xs : List α} {i : Nat}, (∀ i x, x ∈ xs → step () i x = if p x = true then some (.inr ()) else some (.inl no)) → seqS (Mx.forI step i xs ()) f = if xs.all p = true then f () else some no
  | [], i, _ => by simp [Mx.forI, Mx.seqS]
  | x :: r, i, h => by
    have hx := h i x (List.mem_cons_self)
    have ih := scanI (step := step) (p := p) (no := no) (f := f) (xs := r) (i := i + 1) (fun i y hy => h i y (List.mem_cons_of_mem _ hy))
    simp only [Mx.forI, hx, List.all_cons, Bool.and_eq_true]
    cases hp : p x with
    | true => simpa [hp] using ih
    | false => simp [Mx.seqS]
theorem w64_nat {i : Nat} (h : i < 9223372036854775807) : w64 ((i : Int) + 1) = ((i + 1 : Nat) : Int) := by rw [w_id (by omega) (by omega)]; omega
theorem scanIx {α ω : Type} {step : Unit → Nat → α → Option (ω ⊕ Unit)} {p : Nat → Bool} {no : ω} {f : Unit → Option ω} : ∀ {xs : List α} {i : Nat}, (∀ j x, xs[j]? = some x → step () (i + j) x = if p (i + j) = true then some (.inr ()) else some (.inl no)) → seqS (Mx.forI step i xs ()) f = if (List.range xs.length).all (fun j => p (i + j)) = true then f () else some no
  | [], i, _ => by simp [Mx.forI, Mx.seqS]
  | x :: r, i, h => by
    have hx := h 0 x rfl
    have ih := scanIx (step := step) (p := p) (no := no) (f := f) (xs := r) (i := i + 1) (fun j y hy => by have := h (j + 1) y (by simpa using hy); rwa [show i + (j + 1) = i + 1 + j by omega] at this)
    simp only [Nat.add_zero] at hx
    simp only [Mx.forI, hx, List.length_cons, List.range_succ_eq_map, List.all_cons, List.all_map, Bool.and_eq_true, Nat.add_zero]
    have e : ((fun j => p (i + j)) ∘ Nat.succ) = fun j => p (i + 1 + j) := by funext j; simp only [Function.comp]; congr 1; omega
    rw [e]
    cases hp : p i with
    | true => simpa [hp] using ih
    | false => simp [Mx.seqS]
def chrB (c : UInt8) : Bool := (decide (97 ≤ c.toNat) && decide (c.toNat ≤ 122)) || c == 42 || c == 63 || c == 61 || c == 43 || c == 60
def digB (c : UInt8) : Bool := (decide (48 ≤ c.toNat) && decide (c.toNat ≤ 57)) || c == 45
def letB (s : List UInt8) (i : Nat) : Bool := match s[i]? with
  | some c => chrB c || (!(i == 0) && digB c)
  | none => false
def nameB (s : List UInt8) : Bool := (decide (s = [46, 46, 46]) || decide (s = [95])) || ((List.range s.length).all (letB s) && (decide (1 ≤ s.length) && decide (s.length ≤ 12)))
theorem u8_toNat_eq {c d : UInt8} : c = d ↔ c.toNat = d.toNat := ⟨fun h => by rw [h], fun h => UInt8.toNat_inj.1 h⟩
theorem nv_dig (y : UInt8) : ((if (y.toNat : Int) ≥ 48 then (if (y.toNat : Int) ≤ 57 then some true else some (decide ((y.toNat : Int) = 45))) else some (decide ((y.toNat : Int) = 45))) : Option Bool) = some (digB y) := by
  have e : decide ((y.toNat : Int) = 45) = (y == 45) := by
    by_cases h : y = 45
    · subst h; rfl
    · have : ¬ (y.toNat : Int) = 45 := fun h' => h (u8_toNat_eq.2 (by show y.toNat = 45; omega))
      simp [h, this]
  rw [e]
  unfold digB
  by_cases h1 : (y.toNat : Int) ≥ 48
  · rw [if_pos h1]
    by_cases h2 : (y.toNat : Int) ≤ 57
    · rw [if_pos h2]; simp [show 48 ≤ y.toNat by omega, show y.toNat ≤ 57 by omega]
    · rw [if_neg h2]; simp [show ¬ y.toNat ≤ 57 by omega]
  · rw [if_neg h1]; simp [show ¬ 48 ≤ y.toNat by omega]
theorem sl_eq (n : Nat) (y : UInt8) (f : Bool) : sp_l1Letter n (y.toNat : Int) f = some (chrB y || (!f && digB y)) := by
  unfold sp_l1Letter
  simp only [nv_dig]
  have q : ∀ k : Nat, decide ((y.toNat : Int) = (k : Int)) = decide (y.toNat = k) := fun k => by simp only [decide_eq_decide]; omega
  have e : ((if (y.toNat : Int) = 42 then some true else (if (y.toNat : Int) = 63 then some true else (if (y.toNat : Int) = 61 then some true else (if (y.toNat : Int) = 43 then some true else some (decide ((y.toNat : Int) = 60)))))) : Option Bool) = some (y == 42 || y == 63 || y == 61 || y == 43 || y == 60) := by
    have w : ∀ (k : Nat) (d : UInt8), d.toNat = k → ((y.toNat : Int) = (k : Int) ↔ y = d) := fun k d hd => by rw [u8_toNat_eq, hd]; omega
    have w1 : (y.toNat : Int) = 42 ↔ y = 42 := w 42 42 rfl
    have w2 : (y.toNat : Int) = 63 ↔ y = 63 := w 63 63 rfl
    have w3 : (y.toNat : Int) = 61 ↔ y = 61 := w 61 61 rfl
    have w4 : (y.toNat : Int) = 43 ↔ y = 43 := w 43 43 rfl
    have w5 : (y.toNat : Int) = 60 ↔ y = 60 := w 60 60 rfl
    by_cases h1 : y = 42
    · rw [if_pos (w1.2 h1), h1]; rfl
    rw [if_neg (fun h => h1 (w1.1 h))]
    by_cases h2 : y = 63
    · rw [if_pos (w2.2 h2), h2]; rfl
    rw [if_neg (fun h => h2 (w2.1 h))]
    by_cases h3 : y = 61
    · rw [if_pos (w3.2 h3), h3]; rfl
    rw [if_neg (fun h => h3 (w3.1 h))]
    by_cases h4 : y = 43
    · rw [if_pos (w4.2 h4), h4]; rfl
    rw [if_neg (fun h => h4 (w4.1 h))]
    have : decide ((y.toNat : Int) = 60) = (y == 60) := by rw [Bool.eq_iff_iff]; simp only [decide_eq_true_eq, beq_iff_eq]; exact w5
    rw [this]
    simp [h1, h2, h3, h4]
  rw [e]
  have e2 : ((if (y.toNat : Int) ≥ 97 then (if (y.toNat : Int) ≤ 122 then some true else some (y == 42 || y == 63 || y == 61 || y == 43 || y == 60)) else some (y == 42 || y == 63 || y == 61 || y == 43 || y == 60)) : Option Bool) = some (chrB y) := by
    unfold chrB
    by_cases h1 : (y.toNat : Int) ≥ 97
    · rw [if_pos h1]
      by_cases h2 : (y.toNat : Int) ≤ 122
      · rw [if_pos h2]; simp [show 97 ≤ y.toNat by omega, show y.toNat ≤ 122 by omega]
      · rw [if_neg h2]; simp [show ¬ y.toNat ≤ 122 by omega]
    · rw [if_neg h1]; simp [show ¬ 97 ≤ y.toNat by omega]
  rw [e2]
  cases chrB y <;> cases f <;> simp
theorem snv_evt (s : List UInt8) (hs : s.length ≤ mxL) : Evt (fun n => sp_NameValid n s) (nameB s) := by
  unfold mxL at hs
  unfold sp_NameValid
  simp only [sl_eq, Option.bind_some]
  by_cases h0 : s = [46, 46, 46]
  · simp only [h0, if_true, Option.bind_some]; exact .pure _
  rw [if_neg h0]
  simp only [Option.bind_some]
  by_cases h1 : s = [95]
  · simp only [h1, decide_true, if_true]; exact .pure _
  simp only [h1, decide_false, Bool.false_eq_true, if_false]
  have hb : nameB s = if (List.range (min s.length 13)).all (letB s) = true then (decide (1 ≤ s.length) && decide (s.length ≤ 12)) else false := by
    unfold nameB; simp only [h0, h1, decide_false, Bool.false_or, Bool.or_self]
    by_cases hl : s.length ≤ 12
    · rw [Nat.min_eq_left (by omega)]
      cases (List.range s.length).all (letB s) <;> simp
    · simp [hl]
  rw [hb]
  refine Evt.scan (L := min s.length 13) (p := letB s) (fun i hi hp => ?_) (fun i hi hp => ?_) ?_
  · have hi' : i < s.length := by omega
    have hy := List.getElem?_eq_getElem hi'
    unfold letB at hp
    rw [hy] at hp
    simp only at hp
    refine Evt.const ?_
    have c1 : (i : Int) < (s.length : Int) := by omega
    have c2 : decide ((i : Int) ≤ 12) = true := by simp; omega
    have c3 : decide ((i : Int) = 0) = (i == 0) := by rw [Bool.eq_iff_iff]; simp
    rw [if_pos c1, c2, c3]
    simp only [Option.bind_some, if_true, atI_nat hy, hp, Bool.not_true, Bool.false_eq_true, if_false, w64_nat (i := i) (by omega)]
  · have hi' : i < s.length := by omega
    have hy := List.getElem?_eq_getElem hi'
    unfold letB at hp
    rw [hy] at hp
    simp only at hp
    refine Evt.const ?_
    have c1 : (i : Int) < (s.length : Int) := by omega
    have c2 : decide ((i : Int) ≤ 12) = true := by simp; omega
    have c3 : decide ((i : Int) = 0) = (i == 0) := by rw [Bool.eq_iff_iff]; simp
    rw [if_pos c1, c2, c3]
    simp only [Option.bind_some, if_true, atI_nat hy, hp, Bool.not_false]
  · refine Evt.const ?_
    have e : ((if ((min s.length 13 : Nat) : Int) < (s.length : Int) then some (decide (((min s.length 13 : Nat) : Int) ≤ 12)) else some false) : Option Bool) = some false := by
      by_cases h : ((min s.length 13 : Nat) : Int) < (s.length : Int)
      · rw [if_pos h]; congr 1; simp; omega
      · rw [if_neg h]
    rw [e]
    have a1 : decide ((s.length : Int) ≤ 12) = decide (s.length ≤ 12) := by simp only [decide_eq_decide]; omega
    by_cases h : (s.length : Int) ≥ 1
    · simp only [Option.bind_some, Bool.false_eq_true, if_false, if_pos h, a1, show decide (1 ≤ s.length) = true from decide_eq_true (by omega), Bool.true_and]
    · simp only [Option.bind_some, Bool.false_eq_true, if_false, if_neg h, show decide (1 ≤ s.length) = false from decide_eq_false (by omega), Bool.false_and]
def scP (l : List Int) (i : Nat) : Bool := match l[i]? with
  | some x => (decide (1 ≤ x) && decide (x ≤ 99)) && (i == 0 || (match l[i - 1]? with
    | some y => decide (y < x)
    | none => false))
  | none => false
def scB (l : List Int) : Bool := (List.range l.length).all (scP l) && decide (l.length ≤ 24)
def fmB : Nat → Form → Bool
  | 0, _ => false
  | d + 1, f => if f.kind = 1 then nameB f.name && (decide (f.n = 0) && (scB f.scopes && decide (f.kids.length = 0))) else
      if f.kind = 2 then decide (f.name = []) && ((decide (0 ≤ f.n) && decide (f.n ≤ 999)) && (decide (f.scopes.length = 0) && decide (f.kids.length = 0))) else
      if f.kind = 3 then decide (f.name = []) && (decide (f.n = 0) && (decide (f.scopes.length = 0) && f.kids.all (fmB d))) else false
mutual
def cF : Form → Nat
  | ⟨_, _, _, _, kids⟩ => 1 + cFs kids
def cFs : List Form → Nat
  | [] => 0
  | x :: r => cF x + cFs r
end
theorem cF_eq (f : Form) : cF f = 1 + cFs f.kids := by cases f; simp only [cF]
mutual
theorem cF_le : ∀ f : Form, cF f ≤ wF f + 1
  | ⟨k, nm, n, sc, kids⟩ => by have := cFs_le kids; simp only [cF, wF]; omega
theorem cFs_le : ∀ l : List Form, cFs l ≤ wFs l + l.length
  | [] => by simp [cFs]
  | x :: r => by have := cF_le x; have := cFs_le r; simp only [cFs, wFs, List.length_cons]; omega
end
theorem cFs_mem : ∀ {l : List Form} {x : Form}, x ∈ l → cF x ≤ cFs l
  | y :: r, x, h => by
    simp only [cFs]
    rcases List.mem_cons.1 h with rfl | h
    · omega
    · have := cFs_mem h; omega
def validF (f : Form) : Bool := fmB 40 f && decide (cF f ≤ 400)
mutual
theorem okF_w : ∀ f : Form, wF f ≤ 1073741824 → okF f
  | ⟨k, nm, n, sc, kids⟩, h => by simp only [wF] at h; simp only [okF, mxL]; exact ⟨by omega, by omega, by omega, okFs_w kids (by omega)⟩
theorem okFs_w : ∀ l : List Form, wFs l ≤ 1073741824 → okFs l
  | [], _ => trivial
  | x :: r, h => by simp only [wFs] at h; simp only [okFs]; exact ⟨okF_w x (by omega), okFs_w r (by omega)⟩
end
theorem ssc_evt (l : List Int) (hl : l.length ≤ mxL) : Evt (fun n => sp_l1Scopes n l) (scB l) := by
  unfold mxL at hl
  unfold sp_l1Scopes
  have hb : scB l = if (List.range (min l.length 25)).all (scP l) = true then decide (l.length ≤ 24) else false := by
    unfold scB
    by_cases h : l.length ≤ 24
    · rw [Nat.min_eq_left (by omega)]
      cases (List.range l.length).all (scP l) <;> simp
    · simp [h]
  rw [hb]
  have step : ∀ i, i < min l.length 25 → (Option.bind ((if (i : Int) < (l.length : Int) then some (decide ((i : Int) ≤ 24)) else some false) : Option (Bool)) (fun (o3 : Bool) => (if o3 = true then Option.bind ((atI l (i : Int)).bind fun e7 => (if e7 < 1 then some true else (if e7 > 99 then some true else (if (i : Int) > 0 then (atI l (w64 ((i : Int) - 1))).bind fun e11 => some (decide (e7 ≤ e11)) else some false))) : Option (Bool)) (fun (o5 : Bool) => (if o5 = true then some (Sum.inl false) else some (Sum.inr (w64 ((i : Int) + 1))))) else some (Sum.inl (decide ((l.length : Int) ≤ 24))))) : Option (Bool ⊕ Int)) = if scP l i = true then some (.inr ((i + 1 : Nat) : Int)) else some (.inl false) := fun i hi => by
    have hi' : i < l.length := by omega
    have hy := List.getElem?_eq_getElem hi'
    rw [if_pos (by omega), decide_eq_true (by omega : (i : Int) ≤ 24)]
    simp only [Option.bind_some, if_true, atI_nat hy, w64_nat (i := i) (by omega), scP, hy]
    by_cases h1 : l[i] < 1
    · rw [if_pos h1]; simp [show ¬ 1 ≤ l[i] by omega]
    rw [if_neg h1]
    by_cases h2 : l[i] > 99
    · rw [if_pos h2]; simp [show ¬ l[i] ≤ 99 by omega]
    rw [if_neg h2]
    by_cases h0 : (i : Int) > 0
    · have e : w64 ((i : Int) - 1) = ((i - 1 : Nat) : Int) := by rw [w_id (by omega) (by omega)]; omega
      have hz := List.getElem?_eq_getElem (l := l) (i := i - 1) (by omega)
      have hi0 : (i == 0) = false := by simp; omega
      rw [if_pos h0, e, atI_nat hz, hi0]
      simp only [Option.bind_some, hz, Bool.false_or]
      by_cases hlt : l[i - 1] < l[i]
      · simp [hlt, show 1 ≤ l[i] by omega, show l[i] ≤ 99 by omega]
      · simp [hlt, show l[i] ≤ l[i - 1] by omega]
    · have hi0 : (i == 0) = true := by simp; omega
      rw [if_neg h0, hi0]
      simp [show 1 ≤ l[i] by omega, show l[i] ≤ 99 by omega]
  refine Evt.scan (L := min l.length 25) (p := scP l) (fun i hi hp => .const ?_) (fun i hi hp => .const ?_) (.const ?_)
  · rw [step i hi, if_pos hp]
  · rw [step i hi, if_neg (by simp [hp])]
  · have e : ((if ((min l.length 25 : Nat) : Int) < (l.length : Int) then some (decide (((min l.length 25 : Nat) : Int) ≤ 24)) else some false) : Option Bool) = some false := by
      by_cases h : ((min l.length 25 : Nat) : Int) < (l.length : Int)
      · rw [if_pos h]; congr 1; simp; omega
      · rw [if_neg h]
    have a1 : decide ((l.length : Int) ≤ 24) = decide (l.length ≤ 24) := by simp only [decide_eq_decide]; omega
    rw [e, a1]; rfl
/-- A loop over a list that looks for one that does not serve. -/
theorem Ex.allI {α ω : Type} {m : Nat → α → Option Bool} {p : α → Bool} {no : ω} {xs : List α} {f : Nat → Unit → Option ω} {Q : ω → Prop} (h : ∀ x ∈ xs, Evt (fun n => m n x) (p x)) (hy : xs.all p = true → Ex (fun n => f n ()) Q) (hn : xs.all p = false → Q no) :
    Ex (fun n => Mx.seqS (Mx.forI (fun (_ : Unit) (_ : Nat) (x : α) => ((m n x).bind fun k => (if (!k) = true then some (Sum.inl no) else some (Sum.inr ())) : Option (ω ⊕ Unit))) 0 xs ()) (f n)) Q := by
  refine Ex.seqS (P := fun o => match o with
    | .inl w => w = no ∧ xs.all p = false
    | .inr _ => xs.all p = true) ?_ ?_ ?_
  · refine Ex.forI (I := fun i q s => (∀ x ∈ q, x ∈ xs) ∧ xs.all p = q.all p) ⟨fun _ h => h, rfl⟩ ?_ ?_
    · rintro i x q s ⟨h1, h2⟩
      refine .bv (h x (h1 x (List.mem_cons_self))) ?_
      cases hp : p x with
      | true => exact .neg (by simp) (.fg ⟨fun y hy => h1 y (List.mem_cons_of_mem _ hy), by rw [h2, List.all_cons, hp, Bool.true_and]⟩)
      | false => exact .pos rfl (.fo ⟨rfl, by rw [h2, List.all_cons, hp, Bool.false_and]⟩)
    · rintro s ⟨_, h2⟩
      exact h2
  · rintro w ⟨rfl, h⟩; exact hn h
  · rintro ⟨⟩ h; exact hy h
theorem sis_evt (f : Form) (hf : okF f) (d : Nat) (hd : d ≤ 40) : Evt (fun n => sp_l1Is n f (d : Int)) (fmB d f) := by
  obtain ⟨o1, o2, o3, o4⟩ := (okF_eq f).1 hf
  refine .succ ?_
  simp only [sp_l1Is]
  by_cases hd0 : d = 0
  · subst hd0
    exact .pos rfl (.pure _)
  obtain ⟨d, rfl⟩ : ∃ e, d = e + 1 := ⟨d - 1, by omega⟩
  refine .neg (by omega) ?_
  have kz : decide ((f.kids.length : Int) = 0) = decide (f.kids.length = 0) := by simp only [decide_eq_decide]; omega
  simp only [fmB]
  refine Ex.evt ?_
  by_cases k1 : f.kind = 1
  · rw [if_pos k1]
    simp only [if_pos k1]
    refine Ex.bind (P := fun b => b = (nameB f.name && (decide (f.n = 0) && (scB f.scopes && decide (f.kids.length = 0))))) ?_ (fun b hb => .pure hb)
    refine .bv (snv_evt _ o1) ?_
    cases hn : nameB f.name with
    | false => exact .neg (by simp) (.pure (by simp))
    | true =>
      refine .pos rfl ?_
      by_cases h2 : f.n = 0
      · refine .pos h2 (.bv (ssc_evt _ o2) ?_)
        cases hs : scB f.scopes with
        | false => exact .neg (by simp) (.pure (by simp))
        | true => exact .pos rfl (.pure (by simp [kz, h2]))
      · exact .neg h2 (.pure (by simp [h2]))
  rw [if_neg k1]
  simp only [if_neg k1]
  by_cases k2 : f.kind = 2
  · rw [if_pos k2]
    simp only [if_pos k2]
    refine Ex.bind (P := fun b => b = (decide (f.name = []) && ((decide (0 ≤ f.n) && decide (f.n ≤ 999)) && (decide (f.scopes.length = 0) && decide (f.kids.length = 0))))) ?_ (fun b hb => .pure hb)
    by_cases h1 : f.name = []
    · refine .pos h1 ?_
      by_cases h2 : f.n ≥ 0
      · refine .pos h2 ?_
        by_cases h4 : f.n ≤ 999
        · refine .pos h4 ?_
          by_cases h3 : f.scopes.length = 0
          · exact .pos (by omega) (.pure (by rw [kz, decide_eq_true h1, decide_eq_true (show 0 ≤ f.n from h2), decide_eq_true h4, decide_eq_true h3]; simp))
          · exact .neg (by omega) (.pure (by rw [decide_eq_false h3]; simp))
        · exact .neg h4 (.pure (by rw [decide_eq_false h4]; simp))
      · exact .neg h2 (.pure (by rw [decide_eq_false (show ¬ 0 ≤ f.n from h2)]; simp))
    · exact .neg h1 (.pure (by simp [h1]))
  rw [if_neg k2]
  simp only [if_neg k2]
  by_cases k3 : f.kind = 3
  · simp only [k3, not_true_eq_false, if_false, if_true]
    refine Ex.bind (P := fun b => b = !(decide (f.name = []) && (decide (f.n = 0) && decide (f.scopes.length = 0)))) ?_ ?_
    · by_cases h1 : f.name = []
      · refine .neg (by simp [h1]) ?_
        by_cases h2 : f.n = 0
        · refine .neg (by simp [h2]) (.pure ?_)
          by_cases h3 : f.scopes.length = 0
          · have h3' : ¬ ¬ (f.scopes.length : Int) = 0 := by omega
            rw [decide_eq_false h3', decide_eq_true h1, decide_eq_true h2, decide_eq_true h3]; rfl
          · have h3' : ¬ (f.scopes.length : Int) = 0 := by omega
            rw [decide_eq_true h3', decide_eq_true h1, decide_eq_true h2, decide_eq_false h3]; rfl
        · exact .pos h2 (.pure (by simp [h1, h2]))
      · exact .pos h1 (.pure (by simp [h1]))
    · rintro b rfl
      have hq' : (decide (f.name = []) && (decide (f.n = 0) && (decide (f.scopes.length = 0) && f.kids.all (fmB d)))) = ((decide (f.name = []) && (decide (f.n = 0) && decide (f.scopes.length = 0))) && f.kids.all (fmB d)) := by simp only [Bool.and_assoc]
      rw [hq']
      cases (decide (f.name = []) && (decide (f.n = 0) && decide (f.scopes.length = 0))) with
      | false => exact .pos rfl (.pure rfl)
      | true =>
        refine .neg (by simp) ?_
        have e2 : w64 (((d + 1 : Nat) : Int) - 1) = (d : Int) := by rw [w_id (by omega) (by omega)]; omega
        rw [e2]
        exact Ex.allI (m := fun n x => sp_l1Is n x (d : Int)) (p := fmB d) (fun x hx => sis_evt x (okFs_iff.1 o4 x hx) d (by omega)) (fun h => .pure (by rw [h]; rfl)) (fun h => by rw [h]; rfl)
  · simp only [if_neg k3]
    refine Ex.bind (P := fun b => b = true) (.pos k3 (.pure rfl)) ?_
    rintro b rfl
    exact .pos rfl (.pure rfl)
termination_by SizeOf.sizeOf f
decreasing_by exact szF_lt hx
/-- A sum over a list. -/
theorem Ex.sumL {α : Type} {m : Nat → α → Option Int} {c : α → Nat} {cs : List α → Nat} (hn : cs [] = 0) (hc : ∀ x r, cs (x :: r) = c x + cs r) {xs : List α} {b : Nat} (hb : b + cs xs ≤ 4611686018427387904) (h : ∀ x ∈ xs, Evt (fun n => m n x) (c x : Int)) :
    Evt (fun n => Mx.forL (fun (s : Int) (_ : Nat) (x : α) => (m n x).bind fun k => some (w64 (s + k))) 0 xs (b : Int)) ((b + cs xs : Nat) : Int) := by
  refine Ex.evt ?_
  refine Ex.forL (I := fun i q s => ∃ u : Nat, s = (u : Int) ∧ u + cs q = b + cs xs ∧ ∀ x ∈ q, x ∈ xs) ⟨b, rfl, rfl, fun _ h => h⟩ ?_ ?_
  · rintro i x q s ⟨u, rfl, h1, h2⟩
    refine .bv (h x (h2 x (List.mem_cons_self))) (.pure ⟨u + c x, ?_, by rw [hc] at h1; omega, fun y hy => h2 y (List.mem_cons_of_mem _ hy)⟩)
    rw [hc] at h1
    rw [w_id (by omega) (by omega)]; omega
  · rintro s ⟨u, rfl, h1, _⟩
    rw [hn] at h1
    rw [← h1]; rfl
theorem sct_evt (f : Form) (hw : cF f ≤ 4611686018427387904) : Evt (fun n => sp_l1Count n f) (cF f : Int) := by
  have hc := cF_eq f
  refine .succ ?_
  simp only [sp_l1Count]
  rw [hc]
  refine .bind (a := ((1 + cFs f.kids : Nat) : Int)) ?_ (.pure _)
  exact Ex.sumL (b := 1) (c := cF) (cs := cFs) rfl (fun _ _ => rfl) (by omega) (fun x hx => sct_evt x (by have := cFs_mem hx; omega))
termination_by SizeOf.sizeOf f
decreasing_by exact szF_lt hx
theorem sfv_evt (f : Form) (hf : okF f) (hw : cF f ≤ 4611686018427387904) : Evt (fun n => sp_FormValid n f) (validF f) := by
  refine Ex.evt ?_
  unfold sp_FormValid validF
  refine Ex.bind (P := fun b => b = (fmB 40 f && decide (cF f ≤ 400))) ?_ (fun b hb => .pure hb)
  refine .bv (sis_evt f hf 40 (by omega)) ?_
  cases fmB 40 f with
  | false => exact .neg (by simp) (.pure rfl)
  | true =>
    refine .pos rfl (.bv (sct_evt f hw) (.pure ?_))
    rw [Bool.true_and]; simp only [decide_eq_decide]; omega
theorem exPick {a : Int} {r : L15Rd} {B : Int} (h : Gd r B) (hB : 1 ≤ B) : Ex (fun n => sp_l15Rd_pick n a r) (fun k => Sp r k.2 1 ∧ (1 ≤ a → 0 ≤ k.1 ∧ k.1 < a)) := by
  obtain ⟨v, r', h1, h2, h3⟩ := pick_ev (a := a) h hB
  exact ⟨(v, r'), h1, h2, h3⟩
theorem exNum {l : List Int} {r : L15Rd} {B : Int} (hl : 1 ≤ l.length) (h : Gd r B) (hB : 1 ≤ B) : Ex (fun n => sp_l15Rd_num n l r) (fun k => Sp r k.2 1 ∧ k.1 ∈ l) := by
  obtain ⟨v, r', h1, h2, h3⟩ := num_ev hl h hB
  exact ⟨(v, r'), h1, h2, h3⟩
theorem exOf {l : List (List UInt8)} {r : L15Rd} {B : Int} (hl : 1 ≤ l.length) (h : Gd r B) (hB : 1 ≤ B) : Ex (fun n => sp_l15Rd_of n l r) (fun k => Sp r k.2 1 ∧ k.1 ∈ l) := by
  obtain ⟨v, r', h1, h2, h3⟩ := num_ev hl h hB
  exact ⟨(v, r'), h1, h2, h3⟩
theorem exOpen (b : List UInt8) : Ex (fun n => sp_l15Open n b) (fun r => Gd r 1000000000) := by
  unfold sp_l15Open
  by_cases h : (b.length : Int) > 2000
  · have hs : slI b 0 2000 = some (b.take 2000) := by
      unfold slI
      rw [if_pos ⟨by omega, by omega, by omega⟩]; simp
    refine Ex.bind (P := fun o => o.length ≤ 2000) (.pos h (.bp _ hs (.pure (by simp; omega)))) ?_
    intro o ho
    exact .pure ⟨by show (0 : Int) ≤ 0; omega, by show (0 : Int) + 1000000000 ≤ _; omega, ho⟩
  · refine Ex.bind (P := fun o => o.length ≤ 2000) (.neg h (.pure (by omega))) ?_
    intro o ho
    exact .pure ⟨by show (0 : Int) ≤ 0; omega, by show (0 : Int) + 1000000000 ≤ _; omega, ho⟩
/-- How many picks a drawn form takes. -/
def bF : Nat → Int
  | 0 => 3
  | d + 1 => 3 + 3 * bF d
theorem bF_pos : ∀ d, 3 ≤ bF d
  | 0 => by simp [bF]
  | d + 1 => by have := bF_pos d; simp only [bF]; omega
/-- What a drawn form is like. -/
def drawnF : Nat → Form → Prop
  | 0, f => (f.kind = 1 ∧ f.n = 0 ∧ f.scopes = [] ∧ f.kids = [] ∧ f.name ∈ ([[97], [98], [120], [121], [102], [105, 102], [108, 101, 116], [43]] : List (List UInt8))) ∨ (f.kind = 2 ∧ f.name = [] ∧ f.scopes = [] ∧ f.kids = [] ∧ f.n ∈ ([0, 1, 2, 7, 42, 999] : List Int))
  | d + 1, f => ((f.kind = 1 ∧ f.n = 0 ∧ f.scopes = [] ∧ f.kids = [] ∧ f.name ∈ ([[97], [98], [120], [121], [102], [105, 102], [108, 101, 116], [43]] : List (List UInt8))) ∨ (f.kind = 2 ∧ f.name = [] ∧ f.scopes = [] ∧ f.kids = [] ∧ f.n ∈ ([0, 1, 2, 7, 42, 999] : List Int))) ∨ (f.kind = 3 ∧ f.name = [] ∧ f.n = 0 ∧ f.scopes = [] ∧ f.kids.length ≤ 3 ∧ ∀ x ∈ f.kids, drawnF d x)
theorem drawnF_leaf {d : Nat} {f : Form} (h : drawnF 0 f) : drawnF d f := by
  cases d with
  | zero => exact h
  | succ d => exact .inl h
theorem exLeafF {r : L15Rd} (h : Gd r 2) : Ex (fun n => (sp_l15Rd_pick n 4 r).bind fun k3 => (if k3.1 = 0 then (sp_l15Rd_num n [0, 1, 2, 7, 42, 999] k3.2).bind fun k5 => some ((⟨2, [], k5.1, [], []⟩ : Form), k5.2) else (sp_l15Rd_of n [[97], [98], [120], [121], [102], [105, 102], [108, 101, 116], [43]] k3.2).bind fun k6 => (sp_l1Name n k6.1).bind fun k7 => some (k7, k6.2))) (fun k => Sp r k.2 2 ∧ drawnF 0 k.1) := by
  refine .bind (exPick h (by omega)) fun k3 ⟨s1, _⟩ => ?_
  refine .ite (fun _ => ?_) (fun _ => ?_)
  · refine .bind (exNum (by simp) (h.to s1 (D := 1) (by omega)) (by omega)) fun k5 ⟨s2, hm⟩ => .pure ⟨s1.trans s2 (by omega), .inr ⟨rfl, rfl, rfl, rfl, hm⟩⟩
  · refine .bind (exOf (by simp) (h.to s1 (D := 1) (by omega)) (by omega)) fun k6 ⟨s2, hm⟩ => ?_
    unfold sp_l1Name
    exact .pure ⟨s1.trans s2 (by omega), .inl ⟨rfl, rfl, rfl, rfl, hm⟩⟩
theorem exSomeF : ∀ (d : Nat), d ≤ 10 → ∀ (r : L15Rd), Gd r (bF d) → Ex (fun n => sp_l1Some n (d : Int) r) (fun k => Sp r k.2 (bF d) ∧ drawnF d k.1) := by
  intro d
  induction d with
  | zero =>
    intro _ r h
    have h : Gd r 3 := h
    refine .succ ?_
    simp only [sp_l1Some]
    refine Ex.bind (P := fun o => o = (true, r)) (.pos rfl (.pure rfl)) ?_
    rintro o rfl
    exact .pos rfl ((exLeafF (h.to (.refl (Int.le_refl 0)) (D := 2) (by omega))).mono fun k ⟨a, b⟩ => ⟨a.mono (by simp [bF]), b⟩)
  | succ d ih =>
    intro hd r h
    have ih := ih (by omega)
    have hB := bF_pos d
    have h : Gd r (3 + 3 * bF d) := h
    refine .succ ?_
    simp only [sp_l1Some]
    refine Ex.bind (P := fun o => Sp r o.2 1) (.neg (by omega) (.bind (exPick h (by omega)) fun k15 ⟨s1, _⟩ => .pure s1)) ?_
    rintro ⟨b, r1⟩ s1
    have g1 : Gd r1 (2 + 3 * bF d) := h.to s1 (by omega)
    refine .ite (fun _ => ?_) (fun _ => ?_)
    · exact (exLeafF (g1.to (.refl (Int.le_refl 0)) (D := 2) (by omega))).mono fun k ⟨a, b⟩ => ⟨s1.trans a (by simp only [bF]; omega), drawnF_leaf b⟩
    · refine .bind (exPick g1 (by omega)) fun k8 ⟨s2, hc⟩ => ?_
      obtain ⟨hc0, hc1⟩ := hc (by omega)
      obtain ⟨c, r2⟩ := k8
      simp only at s2 hc0 hc1 ⊢
      have g2 : Gd r2 (3 * bF d) := g1.to s2 (by omega)
      have e1 : w64 (((d + 1 : Nat) : Int) - 1) = (d : Int) := by rw [w_id (by omega) (by omega)]; omega
      rw [e1]
      refine Ex.iter (fun s => s.1.toNat) (fun s => ∃ j : Nat, (j : Int) ≤ c ∧ s.1 = c - j ∧ Sp r2 ⟨s.2.2.1, s.2.2.2⟩ (j * bF d) ∧ s.2.1.length = j ∧ ∀ x ∈ s.2.1, drawnF d x) _ ⟨0, by omega, by simp, by simpa using (Sp.refl (r := r2) (Int.le_refl 0)), rfl, by simp⟩ ?_
      rintro ⟨cnt, l, b, p⟩ ⟨j, j0, j1, j2, j3, j4⟩
      simp only at j1 j2 j3 j4 ⊢
      have hj : j = 0 ∨ j = 1 ∨ j = 2 ∨ j = 3 := by omega
      refine .ite (fun hp => ?_) (fun hp => ?_)
      · have gj : Gd ⟨b, p⟩ (bF d) := g2.to j2 (by rcases hj with rfl | rfl | rfl | rfl <;> simp <;> omega)
        refine .bind (ih _ gj) fun k12 ⟨k2, k3⟩ => ?_
        have e2 : w64 (cnt - 1) = cnt - 1 := w_id (by omega) (by omega)
        rw [e2]
        refine .bp _ (apB_ok (by simp; omega)) (Ex.pure ⟨fun _ e => (by cases e), fun s' e => ?_⟩)
        cases e
        refine ⟨⟨j + 1, by omega, by simp only; omega, ?_, by simp; omega, ?_⟩, by simp only; omega⟩
        · refine j2.trans (D := ((j + 1 : Nat) : Int) * bF d) k2 ?_
          rcases hj with rfl | rfl | rfl | rfl <;> simp <;> omega
        · intro x hx
          rcases List.mem_append.1 hx with h | h
          · exact j4 x h
          · rw [List.mem_singleton.1 h]; exact k3
      · refine Ex.pure ⟨fun w e => ?_, fun s' e => (by cases e)⟩
        cases e
        refine ⟨?_, .inr ⟨rfl, rfl, rfl, rfl, by simp only; omega, j4⟩⟩
        refine s1.trans (s2.trans (j2.mono (C := 3 * bF d) ?_) (D := 1 + 3 * bF d) (by omega)) (by simp only [bF]; omega)
        rcases hj with rfl | rfl | rfl | rfl <;> simp <;> omega
def wD : Nat → Nat
  | 0 => 3
  | d + 1 => 6 + 3 * wD d
theorem wD_pos : ∀ d, 3 ≤ wD d
  | 0 => by simp [wD]
  | d + 1 => by simp only [wD]; omega
theorem wFs_le {w : Nat} : ∀ {l : List Form}, (∀ x ∈ l, wF x ≤ w) → wFs l ≤ l.length * w
  | [], _ => by simp [wFs]
  | x :: r, h => by
    have h1 := h x (List.mem_cons_self)
    have h2 := wFs_le (l := r) (fun y hy => h y (List.mem_cons_of_mem _ hy))
    simp only [wFs, List.length_cons, Nat.succ_mul]; omega
theorem drawnF0_w {f : Form} (h : drawnF 0 f) : wF f ≤ 3 := by
  have hw := wF_eq f
  rcases h with ⟨h1, h2, h3, h4, h5⟩ | ⟨h1, h2, h3, h4, h5⟩
  · rw [h3, h4] at hw
    simp only [List.length_nil, wFs, Nat.add_zero] at hw
    simp only [List.mem_cons, List.not_mem_nil, or_false] at h5
    rcases h5 with h | h | h | h | h | h | h | h <;> rw [h] at hw <;> simp at hw <;> omega
  · rw [h2, h3, h4] at hw
    simp [wFs] at hw; omega
theorem drawnF_w : ∀ (d : Nat) {f : Form}, drawnF d f → wF f ≤ wD d
  | 0, f, h => drawnF0_w h
  | d + 1, f, h => by
    rcases h with h | ⟨h1, h2, h3, h4, h5, h6⟩
    · have := drawnF0_w (f := f) h
      simp only [wD]; omega
    · have hw := wF_eq f
      have := wFs_le (fun x hx => drawnF_w d (h6 x hx))
      have : f.kids.length * wD d ≤ 3 * wD d := Nat.mul_le_mul_right _ h5
      rw [h2, h4] at hw
      simp only [List.length_nil] at hw
      simp only [wD]; omega
/-- A scan over places that goes on as long as it may. -/
theorem Ex.skip {L : Nat} (hL : L ≤ 1000000) {step : Nat → Int → Option (Int ⊕ Int)} {at_ : Nat} (ha : at_ ≤ L) (h1 : ∀ i : Nat, i < L → Ex (fun n => step n (i : Int)) (fun r => r = .inr ((i + 1 : Nat) : Int) ∨ r = .inl (i : Int))) (h2 : Ex (fun n => step n (L : Int)) (fun r => r = .inl (L : Int))) :
    Ex (fun n => iterM n (step n) (at_ : Int)) (fun r => ∃ k : Nat, r = (k : Int) ∧ at_ ≤ k ∧ k ≤ L) := by
  refine Ex.iter (fun s => L - s.toNat) (fun s => ∃ i : Nat, s = (i : Int) ∧ at_ ≤ i ∧ i ≤ L) _ ⟨at_, rfl, Nat.le_refl _, ha⟩ ?_
  rintro s ⟨i, rfl, h3, h4⟩
  rcases Nat.lt_or_ge i L with h | h
  · refine (h1 i h).mono ?_
    rintro r (rfl | rfl)
    · exact ⟨fun w e => (by cases e), fun s' e => by cases e; exact ⟨⟨i + 1, rfl, by omega, by omega⟩, by simp; omega⟩⟩
    · exact ⟨fun w e => by cases e; exact ⟨i, rfl, h3, h4⟩, fun s' e => (by cases e)⟩
  · have : i = L := by omega
    subst this
    refine h2.mono ?_
    rintro r rfl
    exact ⟨fun w e => by cases e; exact ⟨_, rfl, h3, h4⟩, fun s' e => (by cases e)⟩
theorem exSkip (s : List UInt8) (hs : s.length ≤ 1000000) (a : Nat) (ha : a ≤ s.length) : Ex (fun n => sp_l1Skip n s (a : Int)) (fun r => ∃ k : Nat, r = (k : Int) ∧ a ≤ k ∧ k ≤ s.length) := by
  unfold sp_l1Skip
  refine Ex.skip hs ha (fun i hi => ?_) ?_
  · have hy := List.getElem?_eq_getElem hi
    rw [if_pos (by omega), atI_nat hy]
    simp only [Option.bind_some]
    by_cases h : ((s[i].toNat : Int) = 32)
    · rw [decide_eq_true h]; exact .pos rfl (.pure (.inl (by rw [w64_nat (by omega)])))
    · rw [decide_eq_false h]; exact .neg (by simp) (.pure (.inr rfl))
  · rw [if_neg (by omega)]; simp only [Option.bind_some]; exact .neg (by simp) (.pure rfl)
theorem exWord (s : List UInt8) (hs : s.length ≤ 1000000) (a : Nat) (ha : a ≤ s.length) : Ex (fun n => sp_l1Word n s (a : Int)) (fun r => ∃ k : Nat, r = (k : Int) ∧ a ≤ k ∧ k ≤ s.length) := by
  unfold sp_l1Word
  refine Ex.skip hs ha (fun i hi => ?_) ?_
  · have hy := List.getElem?_eq_getElem hi
    rw [if_pos (by omega), atI_nat hy]
    simp only [Option.bind_some]
    refine Ex.bind (P := fun _ => True) (.ite (fun _ => .ite (fun _ => .ite (fun _ => .pure trivial) (fun _ => .pure trivial)) (fun _ => .pure trivial)) (fun _ => .pure trivial)) ?_
    intro b _
    exact .ite (fun _ => .pure (.inl (by rw [w64_nat (by omega)]))) (fun _ => .pure (.inr rfl))
  · rw [if_neg (by omega)]; simp only [Option.bind_some]; exact .neg (by simp) (.pure rfl)
theorem slI_nat {α : Type} {l : List α} {a b : Nat} (h : a ≤ b) (hb : b ≤ l.length) : slI l (a : Int) (b : Int) = some ((l.drop a).take (b - a)) := by
  unfold slI
  rw [if_pos ⟨by omega, by omega, by omega⟩]
  simp
theorem exNumT (s : List UInt8) (hs : s.length ≤ 1000000) : Ex (fun n => sp_l15Num n s) (fun r => r.2 = true → s ≠ []) := by
  unfold sp_l15Num
  by_cases h0 : s = []
  · subst h0
    simp only [List.length_nil, Option.bind_some]
    exact .pure (fun h => by cases h)
  have hl : 0 < s.length := List.length_pos_iff.2 h0
  refine Ex.mono (Q := fun _ => True) ?_ (fun _ _ _ => h0)
  have hy := List.getElem?_eq_getElem hl
  refine Ex.bind (P := fun b => b = decide ((s[0].toNat : Int) = 45)) (.pos (by omega) (.bp _ (atI_nat (i := 0) hy) (.pure rfl))) ?_
  rintro o1 rfl
  refine Ex.bind (P := fun t => t.length ≤ 1000000) ?_ ?_
  · refine .ite (fun _ => ?_) (fun _ => .pure hs)
    have := slI_nat (l := s) (a := 1) (b := s.length) (by omega) (Nat.le_refl _)
    exact .bp _ this (.pure (by simp; omega))
  intro t ht
  refine Ex.bind (P := fun b => b = false → 0 < t.length) ?_ ?_
  · refine .ite (fun _ => .pure (fun h => by cases h)) (fun h1 => .ite (fun _ => .pure (fun h => by cases h)) (fun _ => ?_))
    have ht0 : 0 < t.length := by omega
    refine .bp _ (atI_nat (i := 0) (List.getElem?_eq_getElem ht0)) ?_
    exact .ite (fun _ => .ite (fun _ => .pure (fun h => by cases h)) (fun _ => .pure fun _ => ht0)) (fun _ => .pure fun _ => ht0)
  intro o3 ho3
  refine .ite (fun _ => .pure trivial) (fun h3 => ?_)
  refine Ex.iter (fun s => t.length - s.2.toNat) (fun s => ∃ i : Nat, s.2 = (i : Int) ∧ i ≤ t.length) _ ⟨0, rfl, Nat.zero_le _⟩ ?_
  rintro ⟨k, p⟩ ⟨i, hi, hil⟩
  simp only at hi
  subst hi
  simp only
  refine .ite (fun h => ?_) (fun h => ?_)
  · have hi : i < t.length := by omega
    have hy := List.getElem?_eq_getElem hi
    rw [atI_nat hy]
    simp only [Option.bind_some]
    refine Ex.bind (P := fun _ => True) (.ite (fun _ => .pure trivial) (fun _ => .pure trivial)) ?_
    intro b _
    refine .ite (fun _ => .pure ⟨fun _ _ => trivial, fun _ e => (by cases e)⟩) (fun _ => .pure ⟨fun _ e => (by cases e), fun s' e => ?_⟩)
    cases e
    exact ⟨⟨i + 1, by simp only; rw [w64_nat (by omega)], by omega⟩, by simp only; rw [w64_nat (by omega)]; simp; omega⟩
  · refine Ex.bind (P := fun _ => True) (.ite (fun _ => .pure trivial) (fun _ => .pure trivial)) ?_
    intro b _
    exact .pure ⟨fun _ _ => trivial, fun _ e => (by cases e)⟩
theorem exCut (s : List UInt8) (hs : s.length ≤ 1000000) (c : Int) : Ex (fun n => sp_l15Cut n s c) (fun r => r.length ≤ s.length + 1 ∧ ∀ x ∈ r, x.length ≤ s.length) := by
  unfold sp_l15Cut
  refine Ex.iter (fun t => s.length + 1 - t.2.2.toNat) (fun t => ∃ a i : Nat, t.2.1 = (a : Int) ∧ t.2.2 = (i : Int) ∧ a ≤ i ∧ i ≤ s.length + 1 ∧ t.1.length ≤ i ∧ ∀ x ∈ t.1, x.length ≤ s.length) _ ⟨0, 0, rfl, rfl, Nat.le_refl _, by omega, by simp, by simp⟩ ?_
  rintro ⟨l, p, q⟩ ⟨a, i, ha, hi, h1, h2, h3, h4⟩
  simp only at ha hi h3 h4
  subst ha; subst hi
  simp only
  refine .ite (fun h => ?_) (fun h => .pure ⟨fun w e => by cases e; exact ⟨by omega, h4⟩, fun _ e => (by cases e)⟩)
  have hil : i ≤ s.length := by omega
  refine Ex.bind (P := fun o => ∃ a : Nat, o.2 = (a : Int) ∧ a ≤ i + 1 ∧ o.1.length ≤ i + 1 ∧ ∀ x ∈ o.1, x.length ≤ s.length) ?_ ?_
  · refine Ex.bind (P := fun _ => True) ?_ ?_
    · refine .ite (fun _ => .pure trivial) (fun hne => ?_)
      exact .bp _ (atI_nat (List.getElem?_eq_getElem (by omega))) (.pure trivial)
    intro b _
    refine .ite (fun _ => ?_) (fun _ => .pure ⟨a, rfl, by omega, by simp only; omega, h4⟩)
    refine .bp _ (slI_nat h1 hil) (.bp _ (apB_ok (by simp; omega)) (.pure ⟨i + 1, by rw [w64_nat (by omega)], Nat.le_refl _, by simp; omega, ?_⟩))
    intro x hx
    rcases List.mem_append.1 hx with hx | hx
    · exact h4 x hx
    · rw [List.mem_singleton.1 hx]; simp; omega
  rintro ⟨l', p'⟩ ⟨a', ha', h5, h6, h7⟩
  simp only at ha' h6 h7
  subst ha'
  refine .pure ⟨fun _ e => (by cases e), fun s' e => ?_⟩
  cases e
  exact ⟨⟨a', i + 1, rfl, by simp only; rw [w64_nat (by omega)], h5, by omega, h6, h7⟩, by simp only; rw [w64_nat (by omega)]; simp; omega⟩
theorem exSets (s : List UInt8) (hs : s.length ≤ 1000000) (a : Nat) (ha : a ≤ s.length) : Ex (fun n => sp_l1Sets n s (a : Int)) (fun r => r.1.length ≤ 25 ∧ (r.2 = -1 ∨ ∃ k : Nat, r.2 = (k : Int) ∧ a ≤ k ∧ k ≤ s.length)) := by
  unfold sp_l1Sets
  refine Ex.bind (P := fun b => b = false → ∃ h : a < s.length, (s[a].toNat : Int) = 123) ?_ ?_
  · refine .ite (fun _ => .pure (fun h => by cases h)) (fun h => ?_)
    refine .bp _ (atI_nat (List.getElem?_eq_getElem (by omega))) (.pure (fun hd => ⟨by omega, ?_⟩))
    have := of_decide_eq_false hd
    exact Classical.not_not.1 this
  intro b hb
  refine .ite (fun _ => .pure ⟨by simp, .inr ⟨a, rfl, Nat.le_refl _, ha⟩⟩) (fun hb1 => ?_)
  obtain ⟨hal, h123⟩ := hb (by simpa using hb1)
  have hw1 : w64 ((a : Int) + 1) = ((a + 1 : Nat) : Int) := w64_nat (by omega)
  refine Ex.iter (fun t => s.length - t.toNat) (fun t => ∃ i : Nat, t = (i : Int) ∧ a ≤ i ∧ i ≤ s.length) _ ⟨a, rfl, Nat.le_refl _, by omega⟩ ?_
  rintro t ⟨i, rfl, h1, h2⟩
  refine Ex.bind (P := fun o => (o = true → i < s.length) ∧ (o = false → a + 1 ≤ i)) ?_ ?_
  · refine .ite (fun h => ?_) (fun h => .pure ⟨fun h => (by cases h), fun _ => by omega⟩)
    have hi : i < s.length := by omega
    refine .bp _ (atI_nat (List.getElem?_eq_getElem hi)) (.pure ⟨fun _ => hi, fun hd => ?_⟩)
    have h125 : (s[i].toNat : Int) = 125 := Classical.not_not.1 (of_decide_eq_false hd)
    rcases Nat.lt_or_eq_of_le h1 with h | h
    · omega
    · subst h; rw [h123] at h125; cases h125
  rintro o ⟨o1, o2⟩
  refine .ite (fun h => .pure ⟨fun _ e => (by cases e), fun s' e => ?_⟩) (fun h => ?_)
  · cases e
    have := o1 h
    exact ⟨⟨i + 1, by rw [w64_nat (by omega)], by omega, by omega⟩, by rw [w64_nat (by omega)]; simp; omega⟩
  have hai := o2 (by simpa using h)
  refine .ite (fun _ => .pure ⟨fun w e => by cases e; exact ⟨by simp, .inl rfl⟩, fun _ e => (by cases e)⟩) (fun hne => ?_)
  have hil : i < s.length := by omega
  rw [hw1]
  refine .bp _ (slI_nat hai h2) (.bind (exCut _ (by simp; omega) 44) fun parts ⟨p1, p2⟩ => ?_)
  have hz : ((s.drop (a + 1)).take (i - (a + 1))).length ≤ 1000000 := by simp; omega
  refine Ex.mono (Q := fun r : (List Int × Int) ⊕ Int => ∃ w, r = .inl w ∧ w.1.length ≤ 25 ∧ (w.2 = -1 ∨ ∃ k : Nat, w.2 = (k : Int) ∧ a ≤ k ∧ k ≤ s.length)) ?_ ?_
  · refine Ex.iter (fun t => 26 - t.2.toNat) (fun t => ∃ j : Nat, t.2 = (j : Int) ∧ j ≤ 25 ∧ j ≤ parts.length ∧ t.1.length ≤ j) _ ⟨0, rfl, by omega, by omega, by simp⟩ ?_
    rintro ⟨l, q⟩ ⟨j, hj, j1, j2, j3⟩
    simp only at hj j3
    subst hj
    simp only
    refine Ex.bind (P := fun o => o = true → j < parts.length ∧ j ≤ 24) (.ite (fun h => .pure fun hd => ⟨by omega, by have := of_decide_eq_true hd; omega⟩) (fun h => .pure fun h => by cases h)) ?_
    intro o ho
    refine .ite (fun h => ?_) (fun h => .pure ⟨fun w e => by cases e; exact ⟨_, rfl, by simp only; omega, .inr ⟨i + 1, by simp only; rw [w64_nat (by omega)], by omega, by omega⟩⟩, fun _ e => (by cases e)⟩)
    obtain ⟨hj1, hj2⟩ := ho h
    have hmem : parts[j] ∈ parts := List.getElem_mem hj1
    refine .bp _ (atI_nat (List.getElem?_eq_getElem hj1)) (.bind (exNumT _ (by have := p2 _ hmem; omega)) fun k15 _ => ?_)
    refine .ite (fun _ => .pure ⟨fun w e => by cases e; exact ⟨_, rfl, by simp only; omega, .inl rfl⟩, fun _ e => (by cases e)⟩) (fun _ => ?_)
    refine .bp _ (apB_ok (by simp; omega)) (.pure ⟨fun _ e => (by cases e), fun s' e => ?_⟩)
    cases e
    exact ⟨⟨j + 1, by simp only; rw [w64_nat (by omega)], by omega, by omega, by simp; omega⟩, by simp only; rw [w64_nat (by omega)]; simp; omega⟩
  · rintro r ⟨w, rfl, hw⟩
    exact ⟨fun w' e => by cases e; exact hw, fun _ e => (by cases e)⟩
theorem exAtom (s : List UInt8) (hs : s.length ≤ 1000000) (a : Nat) (ha : a ≤ s.length) : Ex (fun n => sp_l1Atom n s (a : Int)) (fun r => r.2 = -1 ∨ ∃ k : Nat, r.2 = (k : Int) ∧ a < k ∧ k ≤ s.length ∧ wF r.1 + 1 ≤ 30 * (k - a)) := by
  unfold sp_l1Atom
  refine .bind (exWord s hs a ha) fun k1 ⟨k, hk, h1, h2⟩ => ?_
  subst hk
  refine .bp _ (slI_nat h1 h2) (.bind (exNumT _ (by simp; omega)) fun k3 h3 => ?_)
  have hlen : ((s.drop a).take (k - a)).length = k - a := by simp; omega
  have hne : ((s.drop a).take (k - a)) ≠ [] → a < k := fun h => by
    have := List.length_pos_iff.2 h
    omega
  refine .ite (fun h => .pure (.inr ⟨k, rfl, hne (h3 h), h2, ?_⟩)) (fun _ => .ite (fun _ => .pure (.inl rfl)) (fun h => ?_))
  · have := hne (h3 h)
    simp [wF, wFs]; omega
  · have hak := hne h
    refine .bind (exSets s hs k h2) fun k6 ⟨q1, q2⟩ => .pure ?_
    rcases q2 with q2 | ⟨m, q2, q3, q4⟩
    · exact .inl q2
    · refine .inr ⟨m, q2, by omega, q4, ?_⟩
      simp only [wF, wFs, List.length_nil, hlen]; omega
theorem exRead : ∀ (d : Nat), d ≤ 40 → ∀ (s : List UInt8), s.length ≤ 1000000 → ∀ (a : Nat), a ≤ s.length → Ex (fun n => sp_l1Read n s (a : Int) (d : Int)) (fun r => r.2 = -1 ∨ ∃ k : Nat, r.2 = (k : Int) ∧ a < k ∧ k ≤ s.length ∧ wF r.1 + 1 ≤ 30 * (k - a)) := by
  intro d
  induction d with
  | zero =>
    intro _ s hs a ha
    refine .succ ?_
    simp only [sp_l1Read]
    refine .bind (exSkip s hs a ha) fun k1 ⟨k, hk, h1, h2⟩ => ?_
    refine Ex.bind (P := fun b => b = true) (.ite (fun _ => .pure rfl) (fun _ => .pure rfl)) ?_
    rintro b rfl
    exact .pos rfl (.pure (.inl rfl))
  | succ d ih =>
    intro hd s hs a ha
    have ih := ih (by omega) s hs
    refine .succ ?_
    simp only [sp_l1Read]
    refine .bind (exSkip s hs a ha) fun k1 ⟨k, hk, h1, h2⟩ => ?_
    subst hk
    refine Ex.bind (P := fun b => b = false → k < s.length) (.ite (fun _ => .pure (fun h => by cases h)) (fun _ => .pure (fun _ => by omega))) ?_
    intro b hb
    refine .ite (fun _ => .pure (.inl rfl)) (fun hb1 => ?_)
    have hk := hb (by simpa using hb1)
    refine .bp _ (atI_nat (List.getElem?_eq_getElem hk)) ?_
    refine .ite (fun _ => ?_) (fun _ => ?_)
    · refine .bind (exAtom s hs k h2) fun k6 h6 => .pure ?_
      rcases h6 with h6 | ⟨m, q1, q2, q3, q4⟩
      · exact .inl h6
      · exact .inr ⟨m, q1, by omega, q3, by simp only; omega⟩
    · have hw1 : w64 ((k : Int) + 1) = ((k + 1 : Nat) : Int) := w64_nat (by omega)
      have hw2 : w64 (((d + 1 : Nat) : Int) - 1) = (d : Int) := by rw [w_id (by omega) (by omega)]; omega
      rw [hw1, hw2]
      refine .bind (exSkip s hs (k + 1) (by omega)) fun k7 ⟨m, hm, q1, q2⟩ => ?_
      subst hm
      refine Ex.iter (fun t => s.length - t.1.toNat) (fun t => ∃ i : Nat, t.1 = (i : Int) ∧ k + 1 ≤ i ∧ i ≤ s.length ∧ t.2.length ≤ 400 ∧ wFs t.2 + t.2.length ≤ 30 * (i - (k + 1))) _ ⟨m, rfl, q1, q2, by simp, by simp [wFs]⟩ ?_
      rintro ⟨p, l⟩ ⟨i, hi, i1, i2, i3, i4⟩
      simp only at hi i3 i4
      subst hi
      simp only
      refine Ex.bind (P := fun o => o = true → i < s.length ∧ l.length < 400) ?_ ?_
      · refine .ite (fun h => ?_) (fun _ => .pure fun h => by cases h)
        refine .bp _ (atI_nat (List.getElem?_eq_getElem (by omega))) ?_
        exact .ite (fun _ => .pure fun hd => ⟨by omega, by have := of_decide_eq_true hd; omega⟩) (fun _ => .pure fun h => by cases h)
      intro o ho
      refine .ite (fun h => ?_) (fun h => ?_)
      · obtain ⟨ho1, ho2⟩ := ho h
        refine .bind (ih i i2) fun k12 h12 => ?_
        rcases h12 with h12 | ⟨j, r1, r2, r3, r4⟩
        · rw [h12]
          exact .pos (by omega) (.pure ⟨fun w e => by cases e; exact .inl rfl, fun _ e => (by cases e)⟩)
        · rw [r1]
          refine .neg (by omega) (.bp _ (apB_ok (by simp; omega)) (.bind (exSkip s hs j r3) fun k15 ⟨u, hu, u1, u2⟩ => ?_))
          subst hu
          refine .pure ⟨fun _ e => (by cases e), fun s' e => ?_⟩
          cases e
          refine ⟨⟨u, rfl, by omega, u2, by simp; omega, ?_⟩, by simp; omega⟩
          have happ : ∀ (x y : List Form), wFs (x ++ y) = wFs x + wFs y := fun x y => by
            induction x with
            | nil => simp [wFs]
            | cons z x ih => simp only [List.cons_append, wFs, ih]; omega
          simp only [happ, wFs, List.length_append, List.length_singleton]
          omega
      · refine Ex.bind (P := fun o => o = false → i < s.length) ?_ ?_
        · refine .ite (fun _ => .pure (fun h => by cases h)) (fun h => ?_)
          exact .bp _ (atI_nat (List.getElem?_eq_getElem (by omega))) (.pure fun _ => by omega)
        intro o2 ho2
        refine .ite (fun _ => .pure ⟨fun w e => by cases e; exact .inl rfl, fun _ e => (by cases e)⟩) (fun h2' => ?_)
        have hi := ho2 (by simpa using h2')
        refine .pure ⟨fun w e => ?_, fun _ e => (by cases e)⟩
        cases e
        refine .inr ⟨i + 1, by simp only; rw [w64_nat (by omega)], by omega, by omega, ?_⟩
        simp only [wF, List.length_nil]; omega
theorem exParse (s : List UInt8) (hs : s.length ≤ 1000000) : Ex (fun n => sp_l1Parse n s) (fun f => wF f ≤ 30 * s.length) := by
  unfold sp_l1Parse
  refine Ex.bind (P := fun r => wF r.1 ≤ 30 * s.length) ?_ (fun r hr => .pure hr)
  unfold sp_ParseForm
  refine .bind (exRead 40 (by omega) s hs 0 (Nat.zero_le _)) fun k1 h1 => ?_
  refine Ex.bind (P := fun b => b = false → wF k1.1 ≤ 30 * s.length) ?_ ?_
  · rcases h1 with h1 | ⟨k, q1, q2, q3, q4⟩
    · rw [h1]; exact .pos (by omega) (.pure fun h => by cases h)
    · rw [q1]
      refine .neg (by omega) (.bind (exSkip s hs k q3) fun k5 _ => .ite (fun _ => .pure fun h => by cases h) (fun _ => ?_))
      have hw : wF k1.1 ≤ 30 * s.length := by omega
      exact .bv (sfv_evt k1.1 (okF_w _ (by omega)) (by have := cF_le k1.1; omega)) (.pure fun _ => hw)
  intro b hb
  exact .ite (fun _ => .pure (by simp [wF, wFs])) (fun h => .pure (hb (by simpa using h)))
theorem exCopyF (f : Form) (h : wF f ≤ 1073741824) : Evt (fun n => sp_l1Copy n f) f := by
  have hw := wF_eq f
  refine .succ ?_
  simp only [sp_l1Copy]
  refine .bind (a := f.scopes) (.const (apB_nil (by omega))) (.bind (a := f.kids) ?_ (.const (by cases f; rfl)))
  exact copyA_ev (m := fun n x => sp_l1Copy n x) (be := 80) (by omega) (fun x hx => exCopyF x (by have := wFs_mem hx; omega))
termination_by SizeOf.sizeOf f
decreasing_by exact szF_lt hx
theorem wFs_set : ∀ (l : List Form) (i : Nat) (x y : Form), l[i]? = some x → wFs (l.set i y) + wF x = wFs l + wF y
  | [], i, x, y, h => by simp at h
  | a :: l, 0, x, y, h => by simp at h; subst h; simp only [List.set_cons_zero, wFs]; omega
  | a :: l, i + 1, x, y, h => by
    have := wFs_set l i x y (by simpa using h)
    simp only [List.set_cons_succ, wFs]; omega
theorem exMutF (f : Form) (hw : wF f ≤ 10000000) (r : L15Rd) (h : Gd r (4 * ((wF f : Int) + 1))) : Ex (fun n => sp_l1Mutate n f r) (fun k => Sp r k.2 (4 * ((wF f : Int) + 1)) ∧ wF k.1 ≤ wF f + 13) := by
  have he := wF_eq f
  refine .succ ?_
  simp only [sp_l1Mutate]
  refine .bv (exCopyF f (by omega)) ?_
  refine Ex.bind (P := fun o => Sp r o.2 1 ∧ (o.1 = true → 1 ≤ f.kids.length)) ?_ ?_
  · refine .ite (fun hl => .bind (exPick h (by omega)) fun k15 ⟨s1, _⟩ => .pure ⟨s1, fun _ => by omega⟩) (fun hl => .pure ⟨.refl (by omega), fun h => by cases h⟩)
  rintro ⟨b0, r1⟩ ⟨s1, hb⟩
  simp only at s1 hb ⊢
  have g1 : Gd r1 (4 * ((wF f : Int) + 1) - 1) := h.to s1 (by omega)
  refine .ite (fun hb0 => ?_) (fun _ => ?_)
  · have hl := hb hb0
    refine .bind (exPick g1 (by omega)) fun k4 ⟨s2, hv⟩ => ?_
    obtain ⟨v0, v1⟩ := hv (by omega)
    have hv : k4.1.toNat < f.kids.length := by omega
    have hx := List.getElem?_eq_getElem hv
    have hxm : f.kids[k4.1.toNat] ∈ f.kids := List.getElem_mem hv
    have hxw := wFs_mem hxm
    refine .bp () (inB_ok v0 hv) (.bp _ hx (.bind (exMutF _ (by omega) k4.2 (g1.to s2 (by omega))) fun k8 ⟨s3, w3⟩ => .bp () (inB_ok v0 hv) (.pure ⟨?_, ?_⟩)))
    · exact s1.trans (s2.trans s3 (D := 1 + 4 * ((wF (f.kids[k4.1.toNat]) : Int) + 1)) (by omega)) (by omega)
    · have := wFs_set f.kids k4.1.toNat _ k8.1 hx
      simp only [wF, List.length_set]; omega
  · refine .bind (exPick g1 (by omega)) fun k11 ⟨s2, _⟩ => ?_
    have g2 : Gd k11.2 1 := g1.to s2 (by omega)
    refine Ex.bind (P := fun o => Sp k11.2 o.2.2.2.2 1 ∧ o.2.1.length ≤ f.name.length + 13 ∧ o.2.2.2.1.length + o.2.1.length ≤ f.scopes.length + f.name.length + 13) ?_ ?_
    · refine .ite (fun _ => ?_) (fun _ => .ite (fun _ => ?_) (fun _ => .ite (fun _ => ?_) (fun _ => .ite (fun _ => ?_) (fun _ => ?_))))
      · refine .bind (exNum (by simp) g2 (by omega)) fun k ⟨s3, _⟩ => .pure ⟨s3, by simp only; omega, by simp only; omega⟩
      · refine .bind (exOf (by simp) g2 (by omega)) fun k ⟨s3, hm⟩ => ?_
        have : k.1.length ≤ 13 := by
          simp only [List.mem_cons, List.not_mem_nil, or_false] at hm
          rcases hm with h | h | h | h | h <;> rw [h] <;> decide
        exact .pure ⟨s3, by simp only; omega, by simp only; omega⟩
      · refine .bind (exNum (by simp) g2 (by omega)) fun k ⟨s3, _⟩ => .pure ⟨s3, by simp only; omega, by simp only; omega⟩
      · refine .bind (exNum (by simp) g2 (by omega)) fun k ⟨s3, _⟩ => .bp _ (apB_ok (by simp; omega)) (.pure ⟨s3, by simp only; omega, by simp; omega⟩)
      · exact .pure ⟨.refl (by omega), by simp only; omega, by simp only; omega⟩
    · rintro o ⟨s3, _, w3⟩
      exact .pure ⟨s1.trans (s2.trans s3 (D := 2) (by omega)) (by omega), by simp only [wF]; omega⟩
termination_by SizeOf.sizeOf f
decreasing_by exact szF_lt hxm
def b7 : Nat → Int
  | 0 => 3
  | d + 1 => 24 + 3 * b7 d
def w7 : Nat → Nat
  | 0 => 20
  | d + 1 => 60 + 3 * w7 d
theorem b7_pos : ∀ d, 3 ≤ b7 d
  | 0 => by simp [b7]
  | d + 1 => by have := b7_pos d; simp only [b7]; omega
theorem w7_pos : ∀ d, 20 ≤ w7 d
  | 0 => by simp [w7]
  | d + 1 => by simp only [w7]; omega
theorem exSome7 : ∀ (d : Nat), d ≤ 10 → ∀ (ns : List (List UInt8)) (r : L15Rd), 1 ≤ ns.length → ns.length ≤ 1000 - d → (∀ x ∈ ns, x.length ≤ 20) → Gd r (b7 d) → Ex (fun n => sp_l7Some n ns (d : Int) r) (fun k => Sp r k.2 (b7 d) ∧ wF k.1 ≤ w7 d) := by
  intro d
  have leaf : ∀ (ns : List (List UInt8)) (r : L15Rd), 1 ≤ ns.length → (∀ x ∈ ns, x.length ≤ 20) → Gd r 2 → Ex (fun n => (sp_l15Rd_pick n 3 r).bind fun k3 => (if k3.1 = 0 then (sp_l15Rd_num n [0, 1, 2, 7] k3.2).bind fun k5 => some ((⟨2, [], k5.1, [], []⟩ : Form), k5.2) else (sp_l15Rd_pick n (ns.length : Int) k3.2).bind fun k6 => (atI ns k6.1).bind fun e7 => (sp_l1Name n e7).bind fun k8 => some (k8, k6.2))) (fun k => Sp r k.2 2 ∧ wF k.1 ≤ 20) := by
    intro ns r h1 h2 g
    refine .bind (exPick g (by omega)) fun k3 ⟨s1, _⟩ => .ite (fun _ => ?_) (fun _ => ?_)
    · refine .bind (exNum (by simp) (g.to s1 (D := 1) (by omega)) (by omega)) fun k5 ⟨s2, _⟩ => .pure ⟨s1.trans s2 (by omega), by simp [wF, wFs]⟩
    · refine .bind (exPick (g.to s1 (D := 1) (by omega)) (by omega)) fun k6 ⟨s2, hv⟩ => ?_
      obtain ⟨v0, v1⟩ := hv (by omega)
      obtain ⟨x, hx, hm⟩ := elem_ok v0 v1
      unfold sp_l1Name
      exact .bp x hx (.pure ⟨s1.trans s2 (by omega), by have := h2 x hm; simp [wF, wFs]; omega⟩)
  induction d with
  | zero =>
    intro _ ns r h1 _ h2 g
    have g : Gd r 3 := g
    refine .succ ?_
    simp only [sp_l7Some]
    refine Ex.bind (P := fun o => o = (true, r)) (.pos rfl (.pure rfl)) ?_
    rintro o rfl
    exact .pos rfl ((leaf ns r h1 h2 (g.to (.refl (Int.le_refl 0)) (by omega))).mono fun k ⟨a, b⟩ => ⟨a.mono (by simp [b7]), b⟩)
  | succ d ih =>
    intro hd ns r h1 hl h2 g
    have ih := ih (by omega)
    have hB := b7_pos d
    have hW := w7_pos d
    have g : Gd r (24 + 3 * b7 d) := g
    refine .succ ?_
    simp only [sp_l7Some]
    refine Ex.bind (P := fun o => Sp r o.2 1) (.neg (by omega) (.bind (exPick g (by omega)) fun k15 ⟨s1, _⟩ => .pure s1)) ?_
    rintro ⟨b, r1⟩ s1
    have g1 : Gd r1 (23 + 3 * b7 d) := g.to s1 (by omega)
    refine .ite (fun _ => ?_) (fun _ => ?_)
    · exact (leaf ns r1 h1 h2 (g1.to (.refl (Int.le_refl 0)) (by omega))).mono fun k ⟨a, b⟩ => ⟨s1.trans a (by simp only [b7]; omega), by simp only [w7]; omega⟩
    · refine .bind (exOf (by simp) g1 (by omega)) fun k10 ⟨s2, hm⟩ => ?_
      obtain ⟨x, r2⟩ := k10
      simp only at s2 hm ⊢
      have hx : x.length = 1 := by
        simp only [List.mem_cons, List.not_mem_nil, or_false] at hm
        rcases hm with rfl | rfl | rfl <;> rfl
      have g2 : Gd r2 (22 + 3 * b7 d) := g1.to s2 (by omega)
      refine .bp _ (apB_nil (by omega)) (.bp _ (apB_ok (by simp; omega)) (.bind (exPick g2 (by omega)) fun k13 ⟨s3, _⟩ => ?_))
      obtain ⟨v, r3⟩ := k13
      simp only at s3 ⊢
      have g3 : Gd r3 (21 + 3 * b7 d) := g2.to s3 (by omega)
      have s03 : Sp r r3 3 := s1.trans (s2.trans s3 (D := 2) (by omega)) (by omega)
      have e1 : w64 (((d + 1 : Nat) : Int) - 1) = (d : Int) := by rw [w_id (by omega) (by omega)]; omega
      rw [e1]
      simp only [sp_l1Name, sp_l1List, Option.bind_some]
      have h2' : ∀ y ∈ ns ++ [x], y.length ≤ 20 := fun y hy => by
        rcases List.mem_append.1 hy with hy | hy
        · exact h2 y hy
        · rw [List.mem_singleton.1 hy]; omega
      have i1 : ∀ r', Gd r' (b7 d) → _ := fun r' gr => ih ns r' h1 (by omega) h2 gr
      have i2 : ∀ r', Gd r' (b7 d) → _ := fun r' gr => ih (ns ++ [x]) r' (by simp) (by simp; omega) h2' gr
      refine Ex.bind (P := fun _ => True) (.ite (fun _ => .pure trivial) (fun _ => .pure trivial)) ?_
      intro b1 _
      refine .ite (fun _ => ?_) (fun _ => ?_)
      · refine .bind (i2 r3 (g3.to (.refl (Int.le_refl 0)) (by omega))) fun k19 ⟨t1, u1⟩ => .pure ⟨s03.trans t1 (by simp only [b7]; omega), ?_⟩
        simp only [wF, wFs, w7, List.length_cons, List.length_nil]; omega
      refine Ex.bind (P := fun _ => True) (.ite (fun _ => .pure trivial) (fun _ => .pure trivial)) ?_
      intro b2 _
      refine .ite (fun _ => ?_) (fun _ => .ite (fun _ => ?_) (fun _ => .ite (fun _ => ?_) (fun _ => ?_)))
      · refine .bind (i1 r3 (g3.to (.refl (Int.le_refl 0)) (by omega))) fun k24 ⟨t1, u1⟩ => ?_
        refine .bind (i2 k24.2 (g3.to t1 (by omega))) fun k28 ⟨t2, u2⟩ => .pure ⟨s03.trans (t1.trans t2 (D := 2 * b7 d) (by omega)) (by simp only [b7]; omega), ?_⟩
        simp only [wF, wFs, w7, List.length_cons, List.length_nil]; omega
      · refine .bind (i1 r3 (g3.to (.refl (Int.le_refl 0)) (by omega))) fun k32 ⟨t1, u1⟩ => ?_
        refine .bind (i1 k32.2 (g3.to t1 (by omega))) fun k33 ⟨t2, u2⟩ => ?_
        have z : Ex (fun n => sp_l7Some n ns 0 k33.2) (fun k => Sp k33.2 k.2 3 ∧ wF k.1 ≤ 20) := by
          have g4 : Gd k33.2 3 := (g3.to t1 (D := 21 + 2 * b7 d) (by omega)).to t2 (by omega)
          refine .succ ?_
          simp only [sp_l7Some]
          refine Ex.bind (P := fun o => o = (true, k33.2)) (.pos trivial (.pure rfl)) ?_
          rintro o rfl
          exact .pos rfl ((leaf ns k33.2 h1 h2 (g4.to (.refl (Int.le_refl 0)) (by omega))).mono fun k ⟨a, b⟩ => ⟨a.mono (by omega), b⟩)
        refine .bind z fun k34 ⟨t3, u3⟩ => .pure ⟨s03.trans (t1.trans (t2.trans t3 (D := 3 + b7 d) (by omega)) (D := 3 + 2 * b7 d) (by omega)) (by simp only [b7]; omega), ?_⟩
        simp only [wF, wFs, w7, List.length_cons, List.length_nil]; omega
      · have e34 : bF 1 = 12 := by simp [bF]
        refine .bind (exSomeF 1 (by omega) r3 (by rw [e34]; exact g3.to (.refl (Int.le_refl 0)) (by omega))) fun k38 ⟨t1, hf⟩ => .pure ⟨s03.trans t1 (by rw [e34]; simp only [b7]; omega), ?_⟩
        have := drawnF_w 1 hf
        simp only [wD] at this
        simp only [wF, wFs, w7, List.length_cons, List.length_nil]; omega
      · refine .bind (i1 r3 (g3.to (.refl (Int.le_refl 0)) (by omega))) fun k40 ⟨t1, u1⟩ => ?_
        refine .bind (i1 k40.2 (g3.to t1 (by omega))) fun k41 ⟨t2, u2⟩ => .pure ⟨s03.trans (t1.trans t2 (D := 2 * b7 d) (by omega)) (by simp only [b7]; omega), ?_⟩
        simp only [wF, wFs, w7, List.length_cons, List.length_nil]; omega
def t7 : List (List UInt8) := [qletx1y2la01a, qlettmp5ze0b0, qletsynta6432, qletsyntaba1c, qletiflis93a4, qletsynta3586, qletsynta4596, qletsynta299d, qletsynta9c06, qletsyntae69a, qlambdaxl5d0d, qletsynta0fb6, qletsyntae5c9, qletsynta7279, qletsyntac7f1]
theorem t7_len : ∀ x ∈ t7, x.length ≤ 500 := by decide
theorem exDraw7 (r : L15Rd) (g : Gd r 100000) : Ex (fun n => sp_l7Draw n r) (fun k => Sp r k.2 100000 ∧ wF k.1 ≤ 100000) := by
  unfold sp_l7Draw sp_l7Texts
  refine .bp t7 rfl (.bind (exPick g (by omega)) fun k2 ⟨s1, _⟩ => ?_)
  have g1 : Gd k2.2 99999 := g.to s1 (by omega)
  refine .ite (fun _ => ?_) (fun _ => ?_)
  · refine .bind (exPick g1 (by omega)) fun k4 ⟨s2, hv⟩ => ?_
    obtain ⟨v0, v1⟩ := hv (by decide)
    obtain ⟨x, hx, hm⟩ := elem_ok v0 v1
    have hl := t7_len x hm
    refine .bp x hx (.bind (exParse x (by omega)) fun k6 hk => .pure ⟨s1.trans s2 (by omega), by simp only; omega⟩)
  · refine .bind (exNum (by simp) g1 (by omega)) fun k8 ⟨s2, hm⟩ => ?_
    have g2 : Gd k8.2 99998 := g1.to s2 (by omega)
    obtain ⟨d, hd, hk⟩ : ∃ d : Nat, d ≤ 4 ∧ k8.1 = (d : Int) := by
      simp only [List.mem_cons, List.not_mem_nil, or_false] at hm
      rcases hm with h | h | h
      · exact ⟨4, by omega, h⟩
      · exact ⟨3, by omega, h⟩
      · exact ⟨2, by omega, h⟩
    rw [hk]
    have hB : b7 d ≤ 10000 ∧ w7 d ≤ 10000 := by
      have : d = 0 ∨ d = 1 ∨ d = 2 ∨ d = 3 ∨ d = 4 := by omega
      rcases this with rfl | rfl | rfl | rfl | rfl <;> simp [b7, w7]
    refine .bind (exSome7 d (by omega) [[43], [108, 105, 115, 116], [103]] k8.2 (by simp) (by simp; omega) (by decide) (g2.to (.refl (Int.le_refl 0)) (by omega))) fun k9 ⟨s3, w3⟩ => ?_
    have g3 : Gd k9.2 80000 := g2.to s3 (by omega)
    refine .bind (exPick g3 (by omega)) fun k10 ⟨s4, _⟩ => ?_
    refine Ex.bind (P := fun f => wF f ≤ 100000) (.ite (fun _ => ?_) (fun _ => .pure (by omega))) ?_
    · have hl : qrulesabl4b2b.length ≤ 500 := by decide
      refine .bind (exParse _ (by omega)) fun k13 hk => ?_
      have hl2 : qletsynta5388.length ≤ 20 := by decide
      simp only [sp_l1Name, sp_l1List, Option.bind_some]
      refine .pure ?_
      simp only [wF, wFs, List.length_cons, List.length_nil]; omega
    · intro f hf
      exact .pure ⟨s1.trans (s2.trans (s3.trans s4 (D := 10001) (by omega)) (D := 10002) (by omega)) (by omega), hf⟩
def t11 : List (List UInt8) := [qand12377ad, qlett7or0924b, qcond215165ee, qletx1yx12e87, qlettmp1z1b94, qwhennot0e6d9, qletnotlifa37, [40, 111, 114, 41], qlistando50f9, qletelse0177b, [40, 97, 110, 100, 41], [40, 110, 111, 116, 41]]
theorem t11_len : ∀ x ∈ t11, x.length ≤ 500 := by decide
theorem exDraw11 (r : L15Rd) (g : Gd r 1000000) : Ex (fun n => sp_l11Draw n r) (fun k => Sp r k.2 1000000 ∧ wF k.1 ≤ 200000) := by
  unfold sp_l11Draw sp_l11Texts
  refine .bp t11 rfl (.bind (exPick g (by omega)) fun k2 ⟨s1, _⟩ => ?_)
  have g1 : Gd k2.2 999999 := g.to s1 (by omega)
  refine .ite (fun _ => ?_) (fun _ => ?_)
  · refine .bind (exPick g1 (by omega)) fun k4 ⟨s2, hv⟩ => ?_
    obtain ⟨v0, v1⟩ := hv (by decide)
    obtain ⟨x, hx, hm⟩ := elem_ok v0 v1
    have hl := t11_len x hm
    refine .bp x hx (.bind (exParse x (by omega)) fun k6 hk => .pure ⟨s1.trans s2 (by omega), by simp only; omega⟩)
  · refine .bind (exPick g1 (by omega)) fun k8 ⟨s2, _⟩ => ?_
    have g2 : Gd k8.2 999998 := g1.to s2 (by omega)
    refine .ite (fun _ => ?_) (fun _ => ?_)
    · refine .bind (exDraw7 k8.2 (g2.to (.refl (Int.le_refl 0)) (by omega))) fun k10 ⟨s3, w3⟩ => .pure ⟨s1.trans (s2.trans s3 (D := 100001) (by omega)) (by omega), by simp only; omega⟩
    · refine .bind (exPick g2 (by omega)) fun k11 ⟨s3, hv⟩ => ?_
      obtain ⟨v0, v1⟩ := hv (by decide)
      obtain ⟨x, hx, hm⟩ := elem_ok v0 v1
      have hl := t11_len x hm
      have g3 : Gd k11.2 999997 := g2.to s3 (by omega)
      refine .bp x hx (.bind (exParse x (by omega)) fun k13 hk => ?_)
      refine .bind (exMutF k13 (by omega) k11.2 (g3.to (.refl (Int.le_refl 0)) (by omega))) fun k15 ⟨s4, w4⟩ => ?_
      have g4 : Gd k15.2 900000 := g3.to s4 (by omega)
      refine .bind (exMutF k15.1 (by omega) k15.2 (g4.to (.refl (Int.le_refl 0)) (by omega))) fun k16 ⟨s5, w5⟩ => .pure ⟨?_, by simp only; omega⟩
      exact s1.trans (s2.trans (s3.trans (s4.trans s5 (D := 200000) (by omega)) (D := 200001) (by omega)) (D := 200002) (by omega)) (by omega)
mutual
def hasN : Form → List UInt8 → Bool
  | ⟨k, nm, _, _, kids⟩, x => (decide (k = 1) && decide (nm = x)) || hasNs kids x
def hasNs : List Form → List UInt8 → Bool
  | [], _ => false
  | f :: r, x => hasN f x || hasNs r x
end
theorem hasN_eq (f : Form) (x : List UInt8) : hasN f x = ((decide (f.kind = 1) && decide (f.name = x)) || hasNs f.kids x) := by cases f; simp only [hasN]
mutual
def cnN : Form → List UInt8 → Nat
  | ⟨k, nm, _, _, kids⟩, x => (if k = 1 ∧ nm = x then 1 else 0) + cnNs kids x
def cnNs : List Form → List UInt8 → Nat
  | [], _ => 0
  | f :: r, x => cnN f x + cnNs r x
end
theorem cnN_eq (f : Form) (x : List UInt8) : cnN f x = (if f.kind = 1 ∧ f.name = x then 1 else 0) + cnNs f.kids x := by cases f; simp only [cnN]
mutual
theorem cnN_has : ∀ (f : Form) (x : List UInt8), (0 < cnN f x ↔ hasN f x = true) ∧ cnN f x ≤ cF f
  | ⟨k, nm, n, sc, kids⟩, x => by
    obtain ⟨h1, h2⟩ := cnNs_has kids x
    simp only [cnN, hasN, cF, Bool.or_eq_true, Bool.and_eq_true, decide_eq_true_eq]
    rw [← h1]
    by_cases h : k = 1 ∧ nm = x
    · rw [if_pos h]; exact ⟨⟨fun _ => .inl h, fun _ => by omega⟩, by omega⟩
    · rw [if_neg h]; exact ⟨⟨fun h' => .inr (by omega), fun h' => by rcases h' with h' | h'; exact absurd h' h; omega⟩, by omega⟩
theorem cnNs_has : ∀ (l : List Form) (x : List UInt8), (0 < cnNs l x ↔ hasNs l x = true) ∧ cnNs l x ≤ cFs l
  | [], x => by simp [cnNs, hasNs]
  | f :: r, x => by
    obtain ⟨h1, h2⟩ := cnN_has f x
    obtain ⟨h3, h4⟩ := cnNs_has r x
    simp only [cnNs, hasNs, cFs, Bool.or_eq_true]
    rw [← h1, ← h3]
    exact ⟨by omega, by omega⟩
end
theorem cntN_evt (f : Form) (x : List UInt8) (hw : cF f ≤ 1000000000) : Evt (fun n => sp_CountName n f x) (cnN f x : Int) := by
  have hc := cF_eq f
  have hb := (cnNs_has f.kids x).2
  refine .succ ?_
  simp only [sp_CountName]
  rw [cnN_eq]
  have hk : ∀ b : Nat, b ≤ 1 → Evt (fun n => Mx.forL (fun (s : Int) (_ : Nat) (y : Form) => (sp_CountName n y x).bind fun k => some (w64 (s + k))) 0 f.kids (b : Int)) ((b + cnNs f.kids x : Nat) : Int) := fun b hb1 =>
    Ex.sumL (b := b) (c := fun y => cnN y x) (cs := fun l => cnNs l x) rfl (fun _ _ => rfl) (by omega) (fun y hy => cntN_evt y x (by have := cFs_mem hy; omega))
  by_cases h1 : f.kind = 1
  · rw [if_pos h1]
    simp only [Option.bind_some]
    by_cases h2 : f.name = x
    · rw [decide_eq_true h2, if_pos rfl, if_pos ⟨h1, h2⟩]
      simp only [Option.bind_some]
      exact .bind (hk 1 (by omega)) (.pure _)
    · rw [decide_eq_false h2, if_neg (by simp), if_neg (fun h => h2 h.2)]
      simp only [Option.bind_some]
      exact .bind (hk 0 (by omega)) (.pure _)
  · rw [if_neg h1, if_neg (fun h => h1 h.1)]
    simp only [Option.bind_some, Bool.false_eq_true, if_false]
    exact .bind (hk 0 (by omega)) (.pure _)
termination_by SizeOf.sizeOf f
decreasing_by exact szF_lt hy
theorem contS_eq (n : Nat) (l : List (List UInt8)) (x : List UInt8) : slices_Contains_string n l x = some (decide (x ∈ l)) := by
  unfold slices_Contains_string slices_Index_string
  have main : ∀ (l : List (List UInt8)) (i : Nat), ∃ k : Int, seqS (Mx.forI (fun (_ : Unit) (i : Nat) (y : List UInt8) => ((if x = y then some (Sum.inl (i : Int)) else some (Sum.inr ())) : Option (Int ⊕ Unit))) i l ()) (fun _ => some (-1)) = some k ∧ (k ≥ 0 ↔ x ∈ l) := by
    intro l
    induction l with
    | nil => intro i; exact ⟨-1, rfl, by simp⟩
    | cons y r ih =>
      intro i
      by_cases h : x = y
      · subst h
        exact ⟨(i : Int), by simp [Mx.forI, Mx.seqS], by simp⟩
      · obtain ⟨k, h1, h2⟩ := ih (i + 1)
        refine ⟨k, ?_, by rw [h2]; simp [h]⟩
        rw [← h1]
        simp [Mx.forI, h]
  obtain ⟨k, h1, h2⟩ := main l 0
  rw [h1, Option.bind_some]
  congr 1
  rw [Bool.eq_iff_iff, decide_eq_true_eq, decide_eq_true_eq]; exact h2
theorem contSv_eq (n : Nat) (l : List (List UInt8)) (x : List UInt8) : slices_Contains_string_v n l x = some (decide (x ∈ l)) := contS_eq n l x
theorem eachN_ex (f : Form) (w : List (List UInt8)) (hw : w.length + cF f ≤ 1000000000) : Ex (fun n => im_eachForm__im_NamesOf_1 n f w) (fun r => (∀ x, x ∈ r ↔ x ∈ w ∨ hasN f x = true) ∧ r.length ≤ w.length + cF f) := by
  have hc := cF_eq f
  refine .succ ?_
  simp only [im_eachForm__im_NamesOf_1, im_NamesOf_1, contSv_eq, Option.bind_some]
  refine Ex.bind (P := fun r => (∀ x, x ∈ r ↔ x ∈ w ∨ (decide (f.kind = 1) && decide (f.name = x)) = true) ∧ r.length ≤ w.length + 1) ?_ ?_
  · by_cases h1 : f.kind = 1
    · rw [if_pos h1]
      simp only [Option.bind_some]
      by_cases h2 : f.name ∈ w
      · rw [decide_eq_true h2]
        refine .neg (by simp) (.pure ⟨fun x => ?_, by omega⟩)
        simp only [h1, decide_true, Bool.true_and, decide_eq_true_eq]
        exact ⟨.inl, fun h => by rcases h with h | h; exact h; exact h ▸ h2⟩
      · rw [decide_eq_false h2]
        refine .pos rfl (.bp _ (apB_ok (by simp; omega)) (.pure ⟨fun x => ?_, by simp⟩))
        simp only [h1, decide_true, Bool.true_and, decide_eq_true_eq, List.mem_append, List.mem_singleton]
        exact ⟨fun h => h.imp id Eq.symm, fun h => h.imp id Eq.symm⟩
    · rw [if_neg h1]
      simp only [Option.bind_some]
      refine .neg (by simp) (.pure ⟨fun x => ?_, by omega⟩)
      simp [h1]
  rintro r1 ⟨m1, l1⟩
  refine Ex.bind (P := fun r => (∀ x, x ∈ r ↔ x ∈ w ∨ hasN f x = true) ∧ r.length ≤ w.length + cF f) ?_ (fun r hr => .pure hr)
  refine Ex.forL (I := fun i q s => (∀ x, (x ∈ s ∨ hasNs q x = true) ↔ x ∈ w ∨ hasN f x = true) ∧ s.length + cFs q ≤ w.length + cF f ∧ ∀ y ∈ q, y ∈ f.kids) ⟨fun x => ?_, by omega, fun _ h => h⟩ ?_ ?_
  · rw [m1, hasN_eq, Bool.or_eq_true, or_assoc]
  · rintro i y q s ⟨a1, a2, a3⟩
    simp only [cFs] at a2
    have hy := a3 y (List.mem_cons_self)
    refine .bind (eachN_ex y s (by omega)) fun k ⟨b1, b2⟩ => .pure ⟨fun x => ?_, by omega, fun z hz => a3 z (List.mem_cons_of_mem _ hz)⟩
    rw [← a1 x, b1]
    simp only [hasNs, Bool.or_eq_true, or_assoc]
  · rintro s ⟨a1, a2, _⟩
    simp only [cFs] at a2
    exact ⟨fun x => by rw [← a1 x]; simp [hasNs], by omega⟩
termination_by SizeOf.sizeOf f
decreasing_by exact szF_lt hy
theorem namesOf_ex (f : Form) (hw : cF f ≤ 1000000000) : Ex (fun n => im_NamesOf n f) (fun r => ∀ x, x ∈ r ↔ hasN f x = true) := by
  unfold im_NamesOf
  refine .bind (eachN_ex f [] (by simp; omega)) fun r ⟨h, _⟩ => .pure fun x => by rw [h]; simp
/-- Whatever a predicate keeps of a list, in order (a loop that moves what stays to the front). -/
theorem delF_evt (l names : List (List UInt8)) (hl : l.length ≤ 1000000) : Evt (fun n => slices_DeleteFunc_string__im_NeededMacros_1_v n l names) (l.filter fun x => decide (x ∈ names)) := by
  unfold slices_DeleteFunc_string__im_NeededMacros_1_v slices_IndexFunc_string__im_NeededMacros_1_v im_NeededMacros_1
  simp only [contS_eq, Option.bind_some]
  have hidx : ∀ (q : List (List UInt8)) (i : Nat), (∃ k : Nat, k < q.length ∧ seqS (Mx.forI (fun (_ : Unit) (i2 : Nat) (x5 : List UInt8) => ((if (!decide (x5 ∈ names)) = true then some (Sum.inl (i2 : Int)) else some (Sum.inr ())) : Option (Int ⊕ Unit))) i q ()) (fun _ => some (-1)) = some ((i + k : Nat) : Int) ∧ (q.take k).filter (fun x => decide (x ∈ names)) = q.take k ∧ (q.take (k + 1)).filter (fun x => decide (x ∈ names)) = q.take k) ∨
      (seqS (Mx.forI (fun (_ : Unit) (i2 : Nat) (x5 : List UInt8) => ((if (!decide (x5 ∈ names)) = true then some (Sum.inl (i2 : Int)) else some (Sum.inr ())) : Option (Int ⊕ Unit))) i q ()) (fun _ => some (-1)) = some (-1) ∧ q.filter (fun x => decide (x ∈ names)) = q) := by
    intro q
    induction q with
    | nil => intro i; exact .inr ⟨rfl, rfl⟩
    | cons x r ih =>
      intro i
      by_cases hx : x ∈ names
      · rcases ih (i + 1) with ⟨k, k1, k2, k3, k4⟩ | ⟨k2, k3⟩
        · refine .inl ⟨k + 1, by simp; omega, ?_, ?_, ?_⟩
          · simp only [Mx.forI, hx, decide_true, Bool.not_true, Bool.false_eq_true, if_false, Option.bind_some]
            rw [k2]; congr 2; omega
          · simp only [List.take_succ_cons, List.filter_cons, hx, decide_true, if_true, k3]
          · simp only [List.take_succ_cons, List.filter_cons, hx, decide_true, if_true]
            rw [k4]
        · refine .inr ⟨?_, ?_⟩
          · simp only [Mx.forI, hx, decide_true, Bool.not_true, Bool.false_eq_true, if_false, Option.bind_some]
            exact k2
          · simp only [List.filter_cons, hx, decide_true, if_true, k3]
      · refine .inl ⟨0, by simp, ?_, rfl, ?_⟩
        · simp [Mx.forI, Mx.seqS, hx]
        · simp [hx]
  refine Ex.evt ?_
  rcases hidx l 0 with ⟨k, k1, k2, k3, k4⟩ | ⟨k2, k3⟩
  · rw [Nat.zero_add] at k2
    refine .bp _ k2 (.neg (by omega) ?_)
    have hw : w64 ((k : Int) + 1) = ((k + 1 : Nat) : Int) := w64_nat (by omega)
    rw [hw]
    refine Ex.iter (fun t => l.length - t.2.1.toNat) (fun t => ∃ i j : Nat, t.1 = (i : Int) ∧ t.2.1 = (j : Int) ∧ i < j ∧ j ≤ l.length ∧ t.2.2.length = l.length ∧ t.2.2.take i = (l.take j).filter (fun x => decide (x ∈ names)) ∧ t.2.2.drop j = l.drop j) _ ⟨k, k + 1, rfl, rfl, by omega, by omega, rfl, k4.symm, rfl⟩ ?_
    rintro ⟨p, q, s⟩ ⟨i, j, hi, hj, h1, h2, h3, h4, h5⟩
    simp only at hi hj h3 h4 h5
    subst hi; subst hj
    simp only
    refine .ite (fun h => ?_) (fun h => ?_)
    · have hjl : j < l.length := by omega
      have hjs : j < s.length := by omega
      have hx : s[j] = l[j] := by
        have e1 := List.drop_eq_getElem_cons hjs
        have e2 := List.drop_eq_getElem_cons hjl
        rw [h5, e2] at e1
        exact (List.cons.inj e1).1.symm
      have ht : l.take (j + 1) = l.take j ++ [l[j]] := by rw [List.take_add_one, List.getElem?_eq_getElem hjl]; rfl
      have hd : s.drop (j + 1) = l.drop (j + 1) := by
        have := congrArg (List.drop 1) h5
        simpa [List.drop_drop, Nat.add_comm] using this
      refine Ex.bind (P := fun o => ∃ i' : Nat, o.1 = (i' : Int) ∧ i' < j + 1 ∧ o.2.length = l.length ∧ o.2.take i' = (l.take (j + 1)).filter (fun x => decide (x ∈ names)) ∧ o.2.drop (j + 1) = l.drop (j + 1)) ?_ ?_
      · refine .bp () (inB_ok (by omega) (by simpa using hjs)) (.bp s[j] (by rw [Int.toNat_natCast]; exact List.getElem?_eq_getElem hjs) ?_)
        by_cases hm : s[j] ∈ names
        · rw [decide_eq_true hm]
          have his : i < s.length := by omega
          refine .pos rfl (.bp () (inB_ok (by omega) (by simpa using his)) (.bp s[i] (by rw [Int.toNat_natCast]; exact List.getElem?_eq_getElem his) (.pure ?_)))
          refine ⟨i + 1, by simp only; rw [w64_nat (by omega)], by omega, by simp; omega, ?_, ?_⟩
          · simp only [Int.toNat_natCast]
            rw [ht, List.filter_append, ← h4, List.take_add_one]
            have a1 : (s.set i s[j]).take i = s.take i := by rw [List.take_set_of_le (by omega)]
            have a2 : (s.set i s[j])[i]? = some s[j] := by simp [his]
            rw [a1, a2, ← hx]
            simp [hm]
          · simp only [Int.toNat_natCast]
            rw [List.drop_set_of_lt (by omega)]; exact hd
        · rw [decide_eq_false hm]
          refine .neg (by simp) (.pure ⟨i, rfl, by omega, h3, ?_, hd⟩)
          simp only
          rw [ht, List.filter_append, ← h4, ← hx]
          simp [hm]
      · rintro ⟨p', s'⟩ ⟨i', hi', q1, q2, q3, q4⟩
        simp only at hi' q2 q3 q4
        subst hi'
        refine .pure ⟨fun _ e => (by cases e), fun t e => ?_⟩
        cases e
        exact ⟨⟨i', j + 1, rfl, by simp only; rw [w64_nat (by omega)], q1, by omega, q2, q3, q4⟩, by simp only; rw [w64_nat (by omega)]; simp; omega⟩
    · have hj : j = l.length := by omega
      subst hj
      rw [List.take_length] at h4
      have his : i ≤ s.length := by omega
      unfold clI takeI
      refine .bp _ (if_pos ⟨by omega, by omega⟩) (.bp _ (if_pos ⟨by omega, by simp; omega⟩) (.pure ⟨fun w e => ?_, fun _ e => (by cases e)⟩))
      cases e
      rw [← h4]
      simp [List.take_append_of_le_length, his]
  · exact .bp _ k2 (.pos rfl (.pure k3.symm))
theorem libN_eq (n : Nat) : im_LibraryNames n = some lp0 := by
  unfold im_LibraryNames slices_Clone_string
  rw [apB_nil (by decide)]; rfl
theorem mxN_eq (n : Nat) (l : List (List UInt8)) (x : List UInt8) : la_mxName n l x = some (decide (x ∈ l)) := by
  unfold la_mxName
  have := scanI (step := fun (_ : Unit) (_ : Nat) (y : List UInt8) => ((if y = x then some (Sum.inl true) else some (Sum.inr ())) : Option (Bool ⊕ Unit))) (p := fun y => !decide (y = x)) (no := true) (f := fun _ => some false) (xs := l) (i := 0) (fun i y _ => by by_cases h : y = x <;> simp [h])
  rw [this]
  by_cases h : x ∈ l
  · rw [if_neg]
    · simp [h]
    · intro hall
      rw [List.all_eq_true] at hall
      have := hall x h
      simp at this
  · rw [if_pos]
    · simp [h]
    · rw [List.all_eq_true]
      intro y hy
      have : ¬ y = x := fun e => h (e ▸ hy)
      simp [this]
theorem mxT_evt (l : List (List UInt8)) : Evt (fun n => la_mxTexts n l l) true := by
  unfold la_mxTexts
  simp only [not_true_eq_false, if_false]
  have := eqS_evt (e := fun _ (x y : List UInt8) => some (decide (x = y))) (xs := l) (fun x _ => by simpa using Evt.pure true)
  simpa only [Option.bind_some, Bool.not_eq_true', decide_eq_false_iff_not] using this
theorem needS_evt (f : Form) (hw : cF f ≤ 1000000000) : Evt (fun n => sp_NeededMacros n f) (lp0.filter fun x => hasN f x) := by
  refine Ex.evt ?_
  unfold sp_NeededMacros sp_l11Needed sp_l11Names
  refine Ex.bind (P := fun r => r = lp0.filter fun x => hasN f x) (.bp lp0 rfl ?_) (fun r hr => .pure hr)
  refine Ex.bind (P := fun r => r = lp0.filter fun x => hasN f x) ?_ (fun r hr => .pure hr)
  refine Ex.forL (I := fun i q s => s ++ q.filter (fun x => hasN f x) = lp0.filter (fun x => hasN f x) ∧ s.length + q.length ≤ 7) ⟨rfl, by decide⟩ ?_ ?_
  · rintro i x q s ⟨h1, h2⟩
    simp only [List.length_cons] at h2
    refine Ex.bind (P := fun r => r ++ q.filter (fun x => hasN f x) = lp0.filter (fun x => hasN f x) ∧ r.length + q.length ≤ 7) ?_ (fun r hr => .pure hr)
    refine .bv (cntN_evt f x hw) ?_
    have hc := (cnN_has f x).1
    rw [List.filter_cons] at h1
    by_cases h : 0 < cnN f x
    · have hh := hc.1 h
      rw [hh, if_pos rfl] at h1
      exact .pos (by omega) (.bp _ (apB_ok (by simp; omega)) (.pure ⟨by rw [← h1]; simp, by simp; omega⟩))
    · have hh : hasN f x = false := by
        cases hq : hasN f x with
        | false => rfl
        | true => exact absurd (hc.2 hq) h
      rw [hh, if_neg (by simp)] at h1
      exact .neg (by omega) (.pure ⟨h1, by omega⟩)
  · rintro s ⟨h1, _⟩
    simpa using h1
theorem exFnNeededMacros (b : List UInt8) : Evt (fun n => la_FnNeededMacros n b) true := by
  refine Ex.evt ?_
  unfold la_FnNeededMacros
  refine .ite (fun _ => .pure rfl) (fun _ => ?_)
  have hdraw : Ex (fun n => sp_DrawNeededMacros n b) (fun f => wF f ≤ 200000) := by
    unfold sp_DrawNeededMacros
    exact .bind (exOpen b) fun r g => .bind (exDraw11 r (g.to (.refl (Int.le_refl 0)) (by omega))) fun k hk => .pure hk.2
  refine .bind hdraw fun f hf => ?_
  have hcf : cF f ≤ 1000000000 := by have := cF_le f; omega
  refine Ex.bind (P := fun r => r = lp0.filter fun x => hasN f x) ?_ ?_
  · unfold im_NeededMacros
    refine .bind (namesOf_ex f hcf) fun ns hns => ?_
    simp only [libN_eq, Option.bind_some]
    refine .bv (delF_evt lp0 ns (by decide)) (.pure ?_)
    congr 1
    funext x
    rw [Bool.eq_iff_iff, decide_eq_true_eq]; exact hns x
  rintro list rfl
  refine .bv (needS_evt f hcf) (.bv (mxT_evt _) (.neg (by simp) ?_))
  refine .bind (namesOf_ex f hcf) fun ns hns => ?_
  simp only [libN_eq, mxN_eq, Option.bind_some]
  have hd : ∀ x, decide (x ∈ ns) = hasN f x := fun x => by rw [Bool.eq_iff_iff, decide_eq_true_eq]; exact hns x
  simp only [hd]
  refine Ex.bind (P := fun s => s = ((lp0.filter fun x => hasN f x).length : Int)) ?_ ?_
  · refine Ex.forL (I := fun i q s => ∃ u : Nat, s = (u : Int) ∧ u + (q.filter fun x => hasN f x).length = (lp0.filter fun x => hasN f x).length ∧ u + q.length ≤ 7) ⟨0, rfl, by simp, by decide⟩ ?_ ?_
    · rintro i x q s ⟨u, rfl, h1, h2⟩
      simp only [List.length_cons] at h2
      rw [List.filter_cons] at h1
      cases hx : hasN f x with
      | true =>
        rw [hx, if_pos rfl, List.length_cons] at h1
        simp only [if_true, Option.bind_some]
        exact .pure ⟨u + 1, by rw [w64_nat (by omega)], by omega, by omega⟩
      | false =>
        rw [hx, if_neg (by simp)] at h1
        simp only [Bool.false_eq_true, if_false, Option.bind_some]
        exact .pure ⟨u, rfl, h1, by omega⟩
    · rintro s ⟨u, rfl, h1, _⟩
      simp only [List.filter_nil, List.length_nil, Nat.add_zero] at h1
      rw [h1]
  rintro s rfl
  have := scanI (ω := Bool) (step := fun (_ : Unit) (_ : Nat) (y : List UInt8) => (Option.bind ((if (!hasN f y) = true then some true else some (!decide (y ∈ lp0))) : Option (Bool)) (fun (o31 : Bool) => (if o31 = true then some (Sum.inl false) else some (Sum.inr ()))) : Option (Bool ⊕ Unit))) (p := fun y => hasN f y && decide (y ∈ lp0)) (no := false) (f := fun _ => some (decide (((lp0.filter fun x => hasN f x).length : Int) = ((lp0.filter fun x => hasN f x).length : Int)))) (xs := lp0.filter fun x => hasN f x) (i := 0) (fun i y _ => by
    cases h : hasN f y with
    | false => simp
    | true => by_cases h2 : y ∈ lp0 <;> simp [h2])
  refine .prim true ?_ rfl
  rw [this, if_pos]
  · simp
  · rw [List.all_eq_true]
    intro y hy
    rw [List.mem_filter] at hy
    simp [hy.1, hy.2]
theorem lawNeededMacros (l : List Int) (h : l.length ≤ maxLen ∧ ∀ a ∈ l, (Lit.int .u8 a).wf = true) : Mx.ACall X.E 9 [.sl 1 .ro (l.map fun i => [.v (.int .u8 i)])] [] fun d _ => d = .v (.bool true) := by
  obtain ⟨N, hN⟩ := exFnNeededMacros (toB l)
  exact call_true (w_la_FnNeededMacros N (toB l) (hN N (Nat.le_refl _))) (by simp only [ED.DL, ED.D, KD.D, bytes_D h.2]; rfl)
end Go.Ev
