/- Forms and core programs as Lean data, their measures and comparisons. No condition. -/
import Derived.Test.YtbifcdaablhljaaDoorMxQ
namespace Go.Mx
/-! ### the program's data -/
structure Form where
  kind : Int
  name : ByteArray
  n : Int
  scopes : List Int
  kids : List Form
def intsD (l : List Int) : List (List D) := l.map fun i => [.v (.int .i64 i)]
def strsD (l : List ByteArray) : List (List D) := l.map fun i => [.v (.string i)]
mutual
def formD : Form → List D
  | ⟨k, nm, n, sc, kids⟩ => [.v (.int .i64 k), .v (.string nm), .v (.int .i64 n), .sl 1 .ro (intsD sc), .sl 5 .ro (formsD kids)]
def formsD : List Form → List (List D)
  | [] => []
  | f :: r => formD f :: formsD r
end
def cForm (f : Form) : List D := [.v (.int .i64 f.kind), .v (.string f.name), .v (.int .i64 f.n), .sl 1 .ro (intsD f.scopes), .sl 5 .ro (formsD f.kids)]
theorem formD_eq (f : Form) : formD f = cForm f := by cases f; rfl
theorem formsD_eq (l : List Form) : formsD l = l.map cForm := by
  induction l with
  | nil => rfl
  | cons f r ih => rw [formsD, formD_eq, ih]; rfl
theorem formsD_length (l : List Form) : (formsD l).length = l.length := by rw [formsD_eq]; simp
theorem formsD_get (l : List Form) (i : Nat) : (formsD l)[i]? = (l[i]?).map cForm := by rw [formsD_eq]; simp
structure Core where
  kind : Int
  id : Int
  name : ByteArray
  n : Int
  ids : List Int
  data : Form
  kids : List Core
mutual
def coreD : Core → List D
  | ⟨k, id, nm, n, ids, dt, kids⟩ => [.v (.int .i64 k), .v (.int .i64 id), .v (.string nm), .v (.int .i64 n), .sl 1 .ro (intsD ids), .v (.int .i64 dt.kind), .v (.string dt.name), .v (.int .i64 dt.n), .sl 1 .ro (intsD dt.scopes), .sl 5 .ro (formsD dt.kids), .sl 11 .ro (coresD kids)]
def coresD : List Core → List (List D)
  | [] => []
  | f :: r => coreD f :: coresD r
end
def cCore (c : Core) : List D := [.v (.int .i64 c.kind), .v (.int .i64 c.id), .v (.string c.name), .v (.int .i64 c.n), .sl 1 .ro (intsD c.ids), .v (.int .i64 c.data.kind), .v (.string c.data.name), .v (.int .i64 c.data.n), .sl 1 .ro (intsD c.data.scopes), .sl 5 .ro (formsD c.data.kids), .sl 11 .ro (coresD c.kids)]
theorem coreD_eq (f : Core) : coreD f = cCore f := by cases f; rfl
theorem coresD_eq (l : List Core) : coresD l = l.map cCore := by
  induction l with
  | nil => rfl
  | cons f r ih => rw [coresD, coreD_eq, ih]; rfl
theorem coresD_length (l : List Core) : (coresD l).length = l.length := by rw [coresD_eq]; simp
theorem coresD_get (l : List Core) (i : Nat) : (coresD l)[i]? = (l[i]?).map cCore := by rw [coresD_eq]; simp
theorem intsD_length (l : List Int) : (intsD l).length = l.length := by simp [intsD]
theorem strsD_length (l : List ByteArray) : (strsD l).length = l.length := by simp [strsD]
theorem intsD_get (l : List Int) (i : Nat) : (intsD l)[i]? = (l[i]?).map fun i => [.v (.int .i64 i)] := by simp [intsD]
theorem strsD_get (l : List ByteArray) (i : Nat) : (strsD l)[i]? = (l[i]?).map fun i => [.v (.string i)] := by simp [strsD]
@[simp] theorem intsD_all (p : Key → Bool) (l : List Int) : allLL p (intsD l) = true := by
  induction l with
  | nil => rfl
  | cons x r ih => simp only [intsD, List.map_cons, allLL, allL, D.all, Bool.true_and, Bool.and_true] at *; exact ih
@[simp] theorem strsD_all (p : Key → Bool) (l : List ByteArray) : allLL p (strsD l) = true := by
  induction l with
  | nil => rfl
  | cons x r ih => simp only [strsD, List.map_cons, allLL, allL, D.all, Bool.true_and, Bool.and_true] at *; exact ih
mutual
theorem formD_all (p : Key → Bool) : ∀ f : Form, allL p (formD f) = true
  | ⟨k, nm, n, sc, kids⟩ => by simp only [formD, allL, D.all, Tok.all, intsD_all, formsD_all p kids, Bool.and_self]
@[simp] theorem formsD_all (p : Key → Bool) : ∀ l : List Form, allLL p (formsD l) = true
  | [] => rfl
  | f :: r => by simp only [formsD, allLL, formD_all p f, formsD_all p r, Bool.and_self]
end
@[simp] theorem cForm_all (p : Key → Bool) (f : Form) : allL p (cForm f) = true := by rw [← formD_eq]; exact formD_all p f
mutual
theorem coreD_all (p : Key → Bool) : ∀ f : Core, allL p (coreD f) = true
  | ⟨k, id, nm, n, ids, dt, kids⟩ => by simp only [coreD, allL, D.all, Tok.all, intsD_all, formsD_all, coresD_all p kids, Bool.and_self]
@[simp] theorem coresD_all (p : Key → Bool) : ∀ l : List Core, allLL p (coresD l) = true
  | [] => rfl
  | f :: r => by simp only [coresD, allLL, coreD_all p f, coresD_all p r, Bool.and_self]
end
@[simp] theorem cCore_all (p : Key → Bool) (f : Core) : allL p (cCore f) = true := by rw [← coreD_eq]; exact coreD_all p f
theorem sz_get {α : Type} [SizeOf α] {l : List α} {i : Nat} {x : α} (h : l[i]? = some x) : SizeOf.sizeOf x < SizeOf.sizeOf l := List.sizeOf_lt_of_mem (List.mem_of_getElem? h)
theorem sz_kids (c : Core) : SizeOf.sizeOf c.kids < SizeOf.sizeOf c := by cases c; simp; omega
theorem sz_fkids (c : Form) : SizeOf.sizeOf c.kids < SizeOf.sizeOf c := by cases c; simp; omega
/-- A row that is filled from its beginning. -/
def rows {α : Type} (f : α → List D) (z : List D) (xs : List α) (i : Nat) : List (List D) := (xs.take i).map f ++ List.replicate (xs.length - i) z
theorem rows_set {α : Type} {f : α → List D} {z : List D} {xs : List α} {i : Nat} {x : α} (h : xs[i]? = some x) : (rows f z xs i).set i (f x) = rows f z xs (i + 1) := by
  obtain ⟨hlt, rfl⟩ := List.getElem?_eq_some_iff.1 h
  unfold rows
  have h1 : ((xs.take i).map f).length = i := by simp; omega
  rw [List.set_append_right _ _ (by omega), h1, Nat.sub_self]
  have h2 : xs.length - i = (xs.length - (i + 1)) + 1 := by omega
  rw [h2, List.replicate_succ, List.set_cons_zero, List.take_add_one, List.getElem?_eq_getElem hlt, List.map_append]
  simp only [Option.toList_some, List.map_cons, List.map_nil, List.append_assoc, List.singleton_append]
theorem rows_end {α : Type} {f : α → List D} {z : List D} {xs : List α} {i : Nat} (h : xs.length ≤ i) : rows f z xs i = xs.map f := by
  unfold rows
  rw [List.take_of_length_le h, show xs.length - i = 0 by omega]; simp
theorem rows_len {α : Type} {f : α → List D} {z : List D} {xs : List α} {i : Nat} (h : i ≤ xs.length) : (rows f z xs i).length = xs.length := by
  unfold rows; simp; omega
theorem rows_sz {α : Type} {f : α → List D} {z : List D} {xs : List α} {i n : Nat} (hf : ∀ x, (f x).length = n) (hz : z.length = n) : ∀ cs ∈ rows f z xs i, cs.length = n := fun cs h => by
  unfold rows at h
  rcases List.mem_append.1 h with h | h
  · obtain ⟨x, _, rfl⟩ := List.mem_map.1 h; exact hf x
  · rw [List.eq_of_mem_replicate h]; exact hz
def cInt (i : Int) : List D := [.v (.int .i64 i)]
def cStr (i : ByteArray) : List D := [.v (.string i)]
theorem intsD_eq (l : List Int) : intsD l = l.map cInt := rfl
theorem strsD_eq (l : List ByteArray) : strsD l = l.map cStr := rfl
theorem intsD_sz (l : List Int) : ∀ cs ∈ intsD l, cs.length = 1 := fun cs h => by obtain ⟨x, _, rfl⟩ := List.mem_map.1 h; rfl
theorem strsD_sz (l : List ByteArray) : ∀ cs ∈ strsD l, cs.length = 1 := fun cs h => by obtain ⟨x, _, rfl⟩ := List.mem_map.1 h; rfl
theorem formsD_sz (l : List Form) : ∀ cs ∈ formsD l, cs.length = 5 := fun cs h => by rw [formsD_eq] at h; obtain ⟨x, _, rfl⟩ := List.mem_map.1 h; rfl
theorem coresD_sz (l : List Core) : ∀ cs ∈ coresD l, cs.length = 11 := fun cs h => by rw [coresD_eq] at h; obtain ⟨x, _, rfl⟩ := List.mem_map.1 h; rfl
theorem sz_scopes (c : Form) : SizeOf.sizeOf c.scopes < SizeOf.sizeOf c := by cases c; simp; omega
theorem sz_data (c : Core) : SizeOf.sizeOf c.data < SizeOf.sizeOf c := by cases c; simp; omega
/-! ### what the laws measure -/
mutual
def okForm : Form → Prop
  | ⟨_, nm, _, _, kids⟩ => nm.size ≤ 9223372036854775807 ∧ okForms kids
def okForms : List Form → Prop
  | [] => True
  | f :: r => okForm f ∧ okForms r
end
mutual
def okCore : Core → Prop
  | ⟨_, _, nm, _, _, dt, kids⟩ => nm.size ≤ 9223372036854775807 ∧ okForm dt ∧ okCores kids
def okCores : List Core → Prop
  | [] => True
  | f :: r => okCore f ∧ okCores r
end
theorem okForm_eq (f : Form) : okForm f ↔ f.name.size ≤ 9223372036854775807 ∧ okForms f.kids := by cases f; simp only [okForm]
theorem okCore_eq (f : Core) : okCore f ↔ f.name.size ≤ 9223372036854775807 ∧ okForm f.data ∧ okCores f.kids := by cases f; simp only [okCore]
theorem okForms_get {l : List Form} (h : okForms l) {i : Nat} {x : Form} (hx : l[i]? = some x) : okForm x := by
  induction l generalizing i with
  | nil => simp at hx
  | cons c r ih =>
    simp only [okForms] at h
    cases i with
    | zero => simp at hx; subst hx; exact h.1
    | succ i => exact ih h.2 (by simpa using hx)
theorem okCores_get {l : List Core} (h : okCores l) {i : Nat} {x : Core} (hx : l[i]? = some x) : okCore x := by
  induction l generalizing i with
  | nil => simp at hx
  | cons c r ih =>
    simp only [okCores] at h
    cases i with
    | zero => simp at hx; subst hx; exact h.1
    | succ i => exact ih h.2 (by simpa using hx)
def szInts (l : List Int) (n : Int) : Int := if n - l.length < 0 then -1 else n - l.length
mutual
def szForm : Form → Int → Int
  | ⟨_, nm, _, sc, kids⟩, n =>
    if n - nm.size < 0 then -1 else
    if szInts sc (n - nm.size) < 0 then -1 else
    if szForms kids (szInts sc (n - nm.size) - kids.length) < 0 then -1 else
    szForms kids (szInts sc (n - nm.size) - kids.length)
def szForms : List Form → Int → Int
  | [], n => if n < 0 then -1 else n
  | f :: r, n => if n < 0 then -1 else if szForm f n < 0 then -1 else szForms r (szForm f n)
end
mutual
def szCore : Core → Int → Int
  | ⟨_, _, nm, _, ids, dt, kids⟩, n =>
    if n - nm.size < 0 then -1 else
    if szInts ids (n - nm.size) < 0 then -1 else
    if szForm dt (szInts ids (n - nm.size)) < 0 then -1 else
    if szCores kids (szForm dt (szInts ids (n - nm.size)) - kids.length) < 0 then -1 else
    szCores kids (szForm dt (szInts ids (n - nm.size)) - kids.length)
def szCores : List Core → Int → Int
  | [], n => if n < 0 then -1 else n
  | f :: r, n => if n < 0 then -1 else if szCore f n < 0 then -1 else szCores r (szCore f n)
end
theorem szForm_eq (f : Form) (n : Int) : szForm f n = if n - f.name.size < 0 then -1 else
    if szInts f.scopes (n - f.name.size) < 0 then -1 else
    if szForms f.kids (szInts f.scopes (n - f.name.size) - f.kids.length) < 0 then -1 else
    szForms f.kids (szInts f.scopes (n - f.name.size) - f.kids.length) := by cases f; simp only [szForm]
theorem szCore_eq (f : Core) (n : Int) : szCore f n = if n - f.name.size < 0 then -1 else
    if szInts f.ids (n - f.name.size) < 0 then -1 else
    if szForm f.data (szInts f.ids (n - f.name.size)) < 0 then -1 else
    if szCores f.kids (szForm f.data (szInts f.ids (n - f.name.size)) - f.kids.length) < 0 then -1 else
    szCores f.kids (szForm f.data (szInts f.ids (n - f.name.size)) - f.kids.length) := by cases f; simp only [szCore]
theorem szInts_le (l : List Int) (n : Int) (h : 0 ≤ n) : szInts l n ≤ n := by unfold szInts; split <;> omega
theorem szForm_le (m : Nat) : (∀ f : Form, SizeOf.sizeOf f < m → ∀ n : Int, 0 ≤ n → szForm f n ≤ n) ∧ (∀ l : List Form, SizeOf.sizeOf l < m → ∀ n : Int, -1 ≤ n → szForms l n ≤ n) := by
  induction m with
  | zero => exact ⟨fun _ h => absurd h (Nat.not_lt_zero _), fun _ h => absurd h (Nat.not_lt_zero _)⟩
  | succ m ih =>
    constructor
    · intro f hf n hn
      have := sz_fkids f
      rw [szForm_eq]
      have h1 := szInts_le f.scopes (n - f.name.size)
      have h2 := ih.2 f.kids (by omega)
      split; omega
      split; omega
      split; omega
      rename_i a b c
      have h3 := h1 (by omega)
      by_cases h4 : -1 ≤ szInts f.scopes (n - f.name.size) - f.kids.length
      · have := h2 _ h4; omega
      · exfalso
        apply c
        cases hk : f.kids with
        | nil => rw [hk] at h4; simp at h4; omega
        | cons g r => rw [hk] at h4; simp only [szForms]; rw [if_pos (by omega)]; omega
    · intro l hl n hn
      cases l with
      | nil => simp only [szForms]; split <;> omega
      | cons f r =>
        simp only [szForms]
        simp at hl
        split
        · omega
        · rename_i h0
          have h1 := ih.1 f (by omega) n (by omega)
          split
          · omega
          · have := ih.2 r (by omega) (szForm f n) (by omega)
            omega
theorem szCore_le (m : Nat) : (∀ f : Core, SizeOf.sizeOf f < m → ∀ n : Int, 0 ≤ n → szCore f n ≤ n) ∧ (∀ l : List Core, SizeOf.sizeOf l < m → ∀ n : Int, -1 ≤ n → szCores l n ≤ n) := by
  induction m with
  | zero => exact ⟨fun _ h => absurd h (Nat.not_lt_zero _), fun _ h => absurd h (Nat.not_lt_zero _)⟩
  | succ m ih =>
    constructor
    · intro f hf n hn
      have := sz_kids f
      rw [szCore_eq]
      have h1 := szInts_le f.ids (n - f.name.size)
      have h2 := ih.2 f.kids (by omega)
      have h5 := (szForm_le (SizeOf.sizeOf f.data + 1)).1 f.data (by omega) (szInts f.ids (n - f.name.size))
      split; omega
      split; omega
      split; omega
      split; omega
      rename_i a b c d
      have h3 := h1 (by omega)
      have h6 := h5 (by omega)
      by_cases h4 : -1 ≤ szForm f.data (szInts f.ids (n - f.name.size)) - f.kids.length
      · have := h2 _ h4; omega
      · exfalso
        apply d
        cases hk : f.kids with
        | nil => rw [hk] at h4; simp at h4; omega
        | cons g r => rw [hk] at h4; simp only [szCores]; rw [if_pos (by omega)]; omega
    · intro l hl n hn
      cases l with
      | nil => simp only [szCores]; split <;> omega
      | cons f r =>
        simp only [szCores]
        simp at hl
        split
        · omega
        · rename_i h0
          have h1 := ih.1 f (by omega) n (by omega)
          split
          · omega
          · have := ih.2 r (by omega) (szCore f n) (by omega)
            omega
theorem szForm_leq (f : Form) (n : Int) (h : 0 ≤ n) : szForm f n ≤ n := (szForm_le _).1 f (Nat.lt_succ_self _) n h
theorem szForms_leq (f : List Form) (n : Int) (h : -1 ≤ n) : szForms f n ≤ n := (szForm_le _).2 f (Nat.lt_succ_self _) n h
theorem szCore_leq (f : Core) (n : Int) (h : 0 ≤ n) : szCore f n ≤ n := (szCore_le _).1 f (Nat.lt_succ_self _) n h
theorem szCores_leq (f : List Core) (n : Int) (h : -1 ≤ n) : szCores f n ≤ n := (szCore_le _).2 f (Nat.lt_succ_self _) n h
mutual
def bdForm : Form → Prop
  | ⟨_, _, _, sc, kids⟩ => sc.length ≤ 1048576 ∧ kids.length ≤ 1048576 ∧ bdForms kids
def bdForms : List Form → Prop
  | [] => True
  | f :: r => bdForm f ∧ bdForms r
end
mutual
def bdCore : Core → Prop
  | ⟨_, _, _, _, ids, dt, kids⟩ => ids.length ≤ 1048576 ∧ bdForm dt ∧ kids.length ≤ 1048576 ∧ bdCores kids
def bdCores : List Core → Prop
  | [] => True
  | f :: r => bdCore f ∧ bdCores r
end
theorem bdForm_eq (f : Form) : bdForm f ↔ f.scopes.length ≤ 1048576 ∧ f.kids.length ≤ 1048576 ∧ bdForms f.kids := by cases f; simp only [bdForm]
theorem bdCore_eq (f : Core) : bdCore f ↔ f.ids.length ≤ 1048576 ∧ bdForm f.data ∧ f.kids.length ≤ 1048576 ∧ bdCores f.kids := by cases f; simp only [bdCore]
theorem bdForms_get {l : List Form} (h : bdForms l) {i : Nat} {x : Form} (hx : l[i]? = some x) : bdForm x := by
  induction l generalizing i with
  | nil => simp at hx
  | cons c r ih =>
    simp only [bdForms] at h
    cases i with
    | zero => simp at hx; subst hx; exact h.1
    | succ i => exact ih h.2 (by simpa using hx)
theorem bdCores_get {l : List Core} (h : bdCores l) {i : Nat} {x : Core} (hx : l[i]? = some x) : bdCore x := by
  induction l generalizing i with
  | nil => simp at hx
  | cons c r ih =>
    simp only [bdCores] at h
    cases i with
    | zero => simp at hx; subst hx; exact h.1
    | succ i => exact ih h.2 (by simpa using hx)
theorem szInts_bd {l : List Int} {n : Int} (h : ¬ szInts l n < 0) (hn : n ≤ 1048576) : l.length ≤ 1048576 ∧ szInts l n ≤ n := by
  unfold szInts at *; split at h
  · omega
  · rename_i h2; rw [if_neg h2]; omega
theorem szForm_bd (m : Nat) : (∀ f : Form, SizeOf.sizeOf f < m → ∀ n : Int, n ≤ 1048576 → ¬ szForm f n < 0 → bdForm f ∧ szForm f n ≤ n) ∧ (∀ l : List Form, SizeOf.sizeOf l < m → ∀ n : Int, n ≤ 1048576 → ¬ szForms l n < 0 → bdForms l ∧ 0 ≤ n ∧ szForms l n ≤ n) := by
  induction m with
  | zero => exact ⟨fun _ h => absurd h (Nat.not_lt_zero _), fun _ h => absurd h (Nat.not_lt_zero _)⟩
  | succ m ih =>
    constructor
    · intro f hf n hn h
      have hs := sz_fkids f
      rw [szForm_eq] at h ⊢
      split at h; omega
      split at h; omega
      split at h; omega
      rename_i a b c
      obtain ⟨h1, h2⟩ := szInts_bd b (by omega)
      obtain ⟨h3, h4, h5⟩ := ih.2 f.kids (by omega) _ (by omega) c
      rw [if_neg a, if_neg b, if_neg c, bdForm_eq]
      exact ⟨⟨h1, by omega, h3⟩, by omega⟩
    · intro l hl n hn h
      cases l with
      | nil => simp only [szForms] at h ⊢; split at h; omega; rename_i h0; rw [if_neg h0]; exact ⟨by simp only [bdForms], by omega, by omega⟩
      | cons f r =>
        simp only [szForms] at h ⊢
        simp at hl
        split at h; omega
        split at h; omega
        rename_i a b
        obtain ⟨h1, h2⟩ := ih.1 f (by omega) n hn b
        obtain ⟨h3, h4, h5⟩ := ih.2 r (by omega) _ (by omega) h
        rw [if_neg a, if_neg b]
        simp only [bdForms]
        exact ⟨⟨h1, h3⟩, by omega, by omega⟩
theorem szCore_bd (m : Nat) : (∀ f : Core, SizeOf.sizeOf f < m → ∀ n : Int, n ≤ 1048576 → ¬ szCore f n < 0 → bdCore f ∧ szCore f n ≤ n) ∧ (∀ l : List Core, SizeOf.sizeOf l < m → ∀ n : Int, n ≤ 1048576 → ¬ szCores l n < 0 → bdCores l ∧ 0 ≤ n ∧ szCores l n ≤ n) := by
  induction m with
  | zero => exact ⟨fun _ h => absurd h (Nat.not_lt_zero _), fun _ h => absurd h (Nat.not_lt_zero _)⟩
  | succ m ih =>
    constructor
    · intro f hf n hn h
      have hs := sz_kids f
      rw [szCore_eq] at h ⊢
      split at h; omega
      split at h; omega
      split at h; omega
      split at h; omega
      rename_i a b d c
      obtain ⟨h1, h2⟩ := szInts_bd b (by omega)
      obtain ⟨h6, h7⟩ := (szForm_bd _).1 f.data (Nat.lt_succ_self _) _ (by omega) d
      obtain ⟨h3, h4, h5⟩ := ih.2 f.kids (by omega) _ (by omega) c
      rw [if_neg a, if_neg b, if_neg d, if_neg c, bdCore_eq]
      exact ⟨⟨h1, h6, by omega, h3⟩, by omega⟩
    · intro l hl n hn h
      cases l with
      | nil => simp only [szCores] at h ⊢; split at h; omega; rename_i h0; rw [if_neg h0]; exact ⟨by simp only [bdCores], by omega, by omega⟩
      | cons f r =>
        simp only [szCores] at h ⊢
        simp at hl
        split at h; omega
        split at h; omega
        rename_i a b
        obtain ⟨h1, h2⟩ := ih.1 f (by omega) n hn b
        obtain ⟨h3, h4, h5⟩ := ih.2 r (by omega) _ (by omega) h
        rw [if_neg a, if_neg b]
        simp only [bdCores]
        exact ⟨⟨h1, h3⟩, by omega, by omega⟩
/-! ### what the laws compare -/
def eqInts (l m : List Int) : Bool := decide (l = m)
mutual
def eqForm : Form → Form → Bool
  | ⟨k, nm, n, sc, kids⟩, b => decide (k = b.kind) && (decide (nm = b.name) && (decide (n = b.n) && (eqInts sc b.scopes && eqForms kids b.kids)))
def eqForms : List Form → List Form → Bool
  | [], [] => true
  | f :: r, g :: s => eqForm f g && eqForms r s
  | _, _ => false
end
mutual
def eqCore : Core → Core → Bool
  | ⟨k, id, nm, n, ids, dt, kids⟩, b => decide (k = b.kind) && (decide (id = b.id) && (decide (nm = b.name) && (decide (n = b.n) && (eqInts ids b.ids && (eqForm dt b.data && eqCores kids b.kids)))))
def eqCores : List Core → List Core → Bool
  | [], [] => true
  | f :: r, g :: s => eqCore f g && eqCores r s
  | _, _ => false
end
theorem eqForm_eq (a b : Form) : eqForm a b = (decide (a.kind = b.kind) && (decide (a.name = b.name) && (decide (a.n = b.n) && (eqInts a.scopes b.scopes && eqForms a.kids b.kids)))) := by cases a; simp only [eqForm]
theorem eqCore_eq (a b : Core) : eqCore a b = (decide (a.kind = b.kind) && (decide (a.id = b.id) && (decide (a.name = b.name) && (decide (a.n = b.n) && (eqInts a.ids b.ids && (eqForm a.data b.data && eqCores a.kids b.kids)))))) := by cases a; simp only [eqCore]
theorem eqInts_len {l m : List Int} (h : ¬ l.length = m.length) : eqInts l m = false := decide_eq_false (fun e => h (by rw [e]))
theorem eqInts_cons (x y : Int) (l m : List Int) : eqInts (x :: l) (y :: m) = (decide (x = y) && eqInts l m) := by simp [eqInts]
theorem eqForms_len : ∀ {l m : List Form}, ¬ l.length = m.length → eqForms l m = false
  | [], [], h => absurd rfl h
  | [], _ :: _, _ => by simp only [eqForms]
  | _ :: _, [], _ => by simp only [eqForms]
  | f :: r, g :: s, h => by simp only [eqForms, eqForms_len (l := r) (m := s) (by simpa using h), Bool.and_false]
theorem eqCores_len : ∀ {l m : List Core}, ¬ l.length = m.length → eqCores l m = false
  | [], [], h => absurd rfl h
  | [], _ :: _, _ => by simp only [eqCores]
  | _ :: _, [], _ => by simp only [eqCores]
  | f :: r, g :: s, h => by simp only [eqCores, eqCores_len (l := r) (m := s) (by simpa using h), Bool.and_false]
mutual
theorem eqForm_refl : ∀ a : Form, eqForm a a = true
  | ⟨k, nm, n, sc, kids⟩ => by simp only [eqForm, eqInts, decide_true, eqForms_refl kids, Bool.and_self]
theorem eqForms_refl : ∀ a : List Form, eqForms a a = true
  | [] => rfl
  | f :: r => by simp only [eqForms, eqForm_refl f, eqForms_refl r, Bool.and_self]
end
mutual
theorem eqCore_refl : ∀ a : Core, eqCore a a = true
  | ⟨k, id, nm, n, ids, dt, kids⟩ => by simp only [eqCore, eqInts, decide_true, eqForm_refl dt, eqCores_refl kids, Bool.and_self]
theorem eqCores_refl : ∀ a : List Core, eqCores a a = true
  | [] => rfl
  | f :: r => by simp only [eqCores, eqCore_refl f, eqCores_refl r, Bool.and_self]
end
end Go.Mx
