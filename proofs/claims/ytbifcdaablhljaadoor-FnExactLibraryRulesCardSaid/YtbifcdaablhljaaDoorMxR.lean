/- Arguments read as the program's data, and how a law's row is closed. No condition. -/
import Derived.Test.YtbifcdaablhljaaDoorMxT
import Derived.WalkKit
import Derived.ProofKit
import Derived.OpenShut
import Derived.JoinedCond
import Derived.WideKeyArgs
import Derived.ChangeArms
namespace Go.Mx
open Go.ChangeShapes Go.WideShapes Go.ChangeAt Go.RowKit
set_option linter.unusedVariables false
set_option linter.unusedSimpArgs false
/-! ### what is handed in, read as the program's data -/
section
variable {H : Type} {enc : TypeId × Value → H} {P : Program} {w : World} {sp : Nat → Bool} {held : Bool} {cx : Cx} {α : Type}
def Op (enc : TypeId × Value → H) (P : Program) (w : World) (sp : Nat → Bool) (held : Bool) (cx : Cx) (n : Nat) (t : TypeId) (f : α → List D) (ok : α → Prop) : Prop :=
  ∀ fuel, fuel ≤ n → ∀ cs x, DataW.trod enc P w 0 sp held fuel t cs = some x → ∃ a, ok a ∧ RdL cx w (f a) cs
theorem RdL.one {d : D} {x : Value} (h : Rd cx w d x) : RdL cx w [d] [x] := ⟨rfl, fun j d' y hd hy => by
  cases j with
  | zero => simp at hd hy; subst hd; subst hy; exact h
  | succ j => simp at hd⟩
theorem RdL.append {a b : List D} {u v : List Value} (h : RdL cx w a u) (k : RdL cx w b v) : RdL cx w (a ++ b) (u ++ v) := ⟨by simp [h.1, k.1], fun j d x hd hx => by
  have hl := h.1
  by_cases hj : j < a.length
  · rw [List.getElem?_append_left hj] at hd
    rw [List.getElem?_append_left (by omega)] at hx
    exact h.2 j d x hd hx
  · rw [List.getElem?_append_right (by omega)] at hd
    rw [List.getElem?_append_right (by omega), ← hl] at hx
    exact k.2 _ d x hd hx⟩
theorem Op.mono {n m : Nat} (hnm : m ≤ n) {t : TypeId} {f : α → List D} {ok : α → Prop} (h : Op enc P w sp held cx n t f ok) : Op enc P w sp held cx m t f ok :=
  fun fuel hf cs x hx => h fuel (Nat.le_trans hf hnm) cs x hx
theorem Op.int {n : Nat} {t : TypeId} {k : IntKind} (ht : P.underlying t = some (.int k)) : Op enc P w sp held cx n t (fun i => [.v (.int k i)]) (fun i => (Lit.int k i).wf = true) := fun fuel _ cs x h => by
  obtain ⟨i, rfl, _, hw⟩ := DataW.trod_int ht h
  exact ⟨i, hw, .one (.v _)⟩
theorem Op.bool {n : Nat} {t : TypeId} (ht : P.underlying t = some .bool) : Op enc P w sp held cx n t (fun i => [.v (.bool i)]) (fun _ => True) := fun fuel _ cs x h => by
  obtain ⟨i, rfl, _⟩ := DataW.trod_bool ht h
  exact ⟨i, trivial, .one (.v _)⟩
theorem Op.string {n : Nat} {t : TypeId} (ht : P.underlying t = some .string) : Op enc P w sp held cx n t (fun i => [.v (.string i)]) (fun i => i.size ≤ maxLen) := fun fuel _ cs x h => by
  obtain ⟨i, rfl, _, hs⟩ := DataW.trod_string ht h
  exact ⟨i, hs, .one (.v _)⟩
theorem pick_range {p : Nat → α → Prop} : ∀ (n : Nat), (∀ i, i < n → ∃ a, p i a) → ∃ l : List α, l.length = n ∧ ∀ (i : Nat) a, l[i]? = some a → p i a
  | 0, _ => ⟨[], rfl, by simp⟩
  | n + 1, h => by
    obtain ⟨l, h1, h2⟩ := pick_range n (fun i hi => h i (by omega))
    obtain ⟨a, ha⟩ := h n (by omega)
    refine ⟨l ++ [a], by simp [h1], fun i b hi => ?_⟩
    by_cases hin : i < l.length
    · rw [List.getElem?_append_left hin] at hi; exact h2 i b hi
    · rw [List.getElem?_append_right (by omega)] at hi
      have : i - l.length = 0 := by
        rcases Nat.eq_zero_or_pos (i - l.length) with h' | h'
        · exact h'
        · rw [List.getElem?_eq_none (by simp; omega)] at hi; cases hi
      rw [this] at hi; simp at hi; subst hi
      have : i = n := by omega
      rw [this]; exact ha
theorem Op.slice {n : Nat} {t e : TypeId} {sz : Nat} {f : α → List D} {ok : α → Prop} (hM : ∀ b o, ¬ cx.M b o) (ht : P.underlying t = some (.slice e)) (hc : P.cellsOf e = sz) (hsz : 0 < sz) (hf : ∀ a, (f a).length = sz) (h : Op enc P w sp held cx n e f ok) :
    Op enc P w sp held cx (n + 1) t (fun l : List α => [.sl sz .ro (l.map f)]) (fun l => l.length ≤ maxLen ∧ ∀ a ∈ l, ok a) := fun fuel hfu cs x hx => by
  rcases DataW.trod_slice ht hx with ⟨rfl, _⟩ | ⟨a, len, cap, elems, rest, m, rfl, rfl, _, hb, hl, hm, hlen, hel, _, _⟩
  · exact ⟨[], ⟨by simp, by simp⟩, .one (.sl (0, 0) (fun _ _ => undef) (by simp) (by unfold maxLen; omega) (by simp) (by simp) (by simp) (by simp) trivial)⟩
  · have hi : ∀ i, i < len → ∃ b, ok b ∧ ∃ cells, w.cells? 0 (a.add (i * sz)) sz = some cells ∧ RdL cx w (f b) cells := fun i hi => by
      have h1 := hel i hi
      rw [hc] at h1
      have h2 : elems[i]? = some elems[i] := List.getElem?_eq_getElem (by omega)
      rw [h2, Option.bind_eq_some_iff] at h1
      obtain ⟨cells, h3, h4⟩ := h1
      obtain ⟨b, h5, h6⟩ := h m (by omega) cells _ h4
      exact ⟨b, h5, cells, h3, h6⟩
    obtain ⟨l, h1, h2⟩ := pick_range (p := fun i b => ok b ∧ ∃ cells, w.cells? 0 (a.add (i * sz)) sz = some cells ∧ RdL cx w (f b) cells) len hi
    refine ⟨l, ⟨by omega, fun b hb => ?_⟩, .one ?_⟩
    · obtain ⟨i, hi, rfl⟩ := List.getElem_of_mem hb
      exact (h2 i _ (List.getElem?_eq_getElem hi)).1
    · subst h1
      have hcell : ∀ (i j : Nat) cs d, (l.map f)[i]? = some cs → cs[j]? = some d → ∃ y, w.cell? ((a.add (i * sz)).add j) = some y ∧ Rd cx w d y := fun i j cs d hi hj => by
        rw [List.getElem?_map, Option.map_eq_some_iff] at hi
        obtain ⟨b, hb, rfl⟩ := hi
        obtain ⟨_, cells, h3, h4⟩ := h2 i b hb
        obtain ⟨_, h5, h6⟩ := World.cells?_some h3
        have hjl : j < sz := by have := (List.getElem?_eq_some_iff.1 hj).1; rw [hf] at this; exact this
        have h7 : cells[j]? = some cells[j] := List.getElem?_eq_getElem (by omega)
        exact ⟨_, (h6 j hjl).trans h7, h4.2 j d _ hj h7⟩
      have hspot : l ≠ [] → a.spot = none := fun hne => by
        have hpos := List.length_pos_iff.2 hne
        have e1 : (l.map f)[0]? = some (f l[0]) := by rw [List.getElem?_map, List.getElem?_eq_getElem hpos]; rfl
        have hlt : 0 < (f l[0]).length := by rw [hf]; exact hsz
        obtain ⟨d0, e2⟩ : ∃ d, (f l[0])[0]? = some d := ⟨_, List.getElem?_eq_getElem hlt⟩
        obtain ⟨y, hy, _⟩ := hcell 0 0 _ _ e1 e2
        cases hs : a.spot with
        | none => rfl
        | some s =>
          rw [Nat.zero_mul] at hy
          have e0 : (a.add 0).add 0 = a := by simp [Addr.add]
          rw [e0] at hy
          simp only [World.cell?, hs] at hy
          split at hy <;> simp at hy
      have hadd : l ≠ [] → ∀ i j, (a.add (i * sz)).add j = ⟨a.block, a.off + i * sz + j, none⟩ := fun hne i j => by
        have hs := hspot hne
        obtain ⟨b, o, s⟩ := a
        simp only at hs; subst hs
        rw [addr_add, addr_add]
      have hlm : (l.map f).length = l.length := by simp
      rw [← hlm]
      refine .sl (a.block, a.off) (fun i j => (w.cell? ⟨a.block, a.off + i * sz + j, none⟩).getD undef) (by simpa using hl) hm (fun i cs hi => ?_) (fun hne => ?_) (fun i j cs d hi hj => ?_) (fun i j cs d hi hj => ?_) trivial
      · rw [List.getElem?_map, Option.map_eq_some_iff] at hi
        obtain ⟨b, hb, rfl⟩ := hi
        exact hf b
      · have hs := hspot (fun h => hne (by rw [h]; rfl))
        obtain ⟨b, o, s⟩ := a
        simp only at hs; subst hs; rfl
      · have hne : l ≠ [] := fun h => by rw [h] at hi; simp at hi
        obtain ⟨y, hy, _⟩ := hcell i j cs d hi hj
        rw [hadd hne] at hy
        simp only [hy]
        exact ⟨rfl, hM _ _⟩
      · have hne : l ≠ [] := fun h => by rw [h] at hi; simp at hi
        obtain ⟨y, hy, hr⟩ := hcell i j cs d hi hj
        rw [hadd hne] at hy
        simp only [hy]
        exact hr
/-- One field of a struct. -/
theorem Op.field {n m : Nat} {t : TypeId} {f : α → List D} {ok : α → Prop} (h : Op enc P w sp held cx n t f ok) (hm : m ≤ n) {cs : List Value} {xs : List (DataW H × List MemPlace)} {i : Nat} (hx : DataW.trod enc P w 0 sp held m t cs = xs[i]?) (hi : i < xs.length) :
    ∃ a, ok a ∧ RdL cx w (f a) cs := by
  rw [List.getElem?_eq_getElem hi] at hx
  exact h m hm cs _ hx
end
/-- The types of the program's data. -/
structure FormTy (P : Program) (tf ts ti tk tn : TypeId) : Prop where
  int : P.underlying tn = some (.int .i64)
  str : P.underlying ts = some .string
  ints : P.underlying ti = some (.slice tn)
  c1 : P.cellsOf tn = 1
  cs : P.cellsOf ts = 1
  ci : P.cellsOf ti = 1
  ck : P.cellsOf tk = 1
  kids : P.underlying tk = some (.slice tf)
  c5 : P.cellsOf tf = 5
  form : ∃ f0 f1 f2 f3 f4 : Field, P.underlying tf = some (.struct #[f0, f1, f2, f3, f4]) ∧ (f0.type, f0.offset) = (tn, 0) ∧ (f1.type, f1.offset) = (ts, 1) ∧ (f2.type, f2.offset) = (tn, 2) ∧ (f3.type, f3.offset) = (ti, 3) ∧ (f4.type, f4.offset) = (tk, 4)
structure CoreTy (P : Program) (tc tck tf ts ti tk tn : TypeId) : Prop where
  f : FormTy P tf ts ti tk tn
  kids : P.underlying tck = some (.slice tc)
  ck : P.cellsOf tck = 1
  c11 : P.cellsOf tc = 11
  core : ∃ f0 f1 f2 f3 f4 f5 f6 : Field, P.underlying tc = some (.struct #[f0, f1, f2, f3, f4, f5, f6]) ∧ (f0.type, f0.offset) = (tn, 0) ∧ (f1.type, f1.offset) = (tn, 1) ∧ (f2.type, f2.offset) = (ts, 2) ∧ (f3.type, f3.offset) = (tn, 3) ∧ (f4.type, f4.offset) = (ti, 4) ∧ (f5.type, f5.offset) = (tf, 5) ∧ (f6.type, f6.offset) = (tck, 10)
section
variable {H : Type} {enc : TypeId × Value → H} {P : Program} {w : World} {sp : Nat → Bool} {held : Bool} {cx : Cx}
theorem okForms_of {l : List Form} (h : ∀ a ∈ l, okForm a) : okForms l := by
  induction l with
  | nil => simp only [okForms]
  | cons f r ih => simp only [okForms]; exact ⟨h f (by simp), ih fun a ha => h a (by simp [ha])⟩
theorem okCores_of {l : List Core} (h : ∀ a ∈ l, okCore a) : okCores l := by
  induction l with
  | nil => simp only [okCores]
  | cons f r ih => simp only [okCores]; exact ⟨h f (by simp), ih fun a ha => h a (by simp [ha])⟩
theorem op_form (hM : ∀ b o, ¬ cx.M b o) {tf ts ti tk tn : TypeId} (T : FormTy P tf ts ti tk tn) : ∀ n, Op enc P w sp held cx n tf cForm okForm
  | 0 => fun fuel hf cs x hx => by
    have : fuel = 0 := by omega
    subst this; simp [DataW.trod] at hx
  | n + 1 => fun fuel hf cs x hx => by
    have ih := op_form hM T n
    obtain ⟨f0, f1, f2, f3, f4, hu, e0, e1, e2, e3, e4⟩ := T.form
    simp only [Prod.mk.injEq] at e0 e1 e2 e3 e4
    obtain ⟨xs, m, rfl, _, hl, hxl, hall⟩ := DataW.trod_struct hu hx
    rw [T.c5] at hl
    simp only [List.size_toArray, List.length_cons, List.length_nil] at hxl
    have hmn : m ≤ n := by omega
    have g0 := hall 0 f0 rfl
    have g1 := hall 1 f1 rfl
    have g2 := hall 2 f2 rfl
    have g3 := hall 3 f3 rfl
    have g4 := hall 4 f4 rfl
    rw [e0.1, e0.2, T.c1] at g0
    rw [e1.1, e1.2, T.cs] at g1
    rw [e2.1, e2.2, T.c1] at g2
    rw [e3.1, e3.2, T.ci] at g3
    rw [e4.1, e4.2, T.ck] at g4
    obtain ⟨k, _, r0⟩ := (Op.int (cx := cx) (n := n) T.int).field hmn g0 (by omega)
    obtain ⟨nm, hnm, r1⟩ := (Op.string (cx := cx) (n := n) T.str).field hmn g1 (by omega)
    obtain ⟨nn, _, r2⟩ := (Op.int (cx := cx) (n := n) T.int).field hmn g2 (by omega)
    obtain ⟨sc, _, r3⟩ := ((Op.slice hM T.ints T.c1 (by omega) (fun _ => rfl) (Op.int (cx := cx) (n := n) T.int)).mono (m := n) (by omega)).field hmn g3 (by omega)
    obtain ⟨kids, hk, r4⟩ := ((Op.slice hM T.kids T.c5 (by omega) (fun _ => rfl) ih).mono (m := n) (by omega)).field hmn g4 (by omega)
    match cs, hl, r0, r1, r2, r3, r4 with
    | [a, b, c, d, e], _, r0, r1, r2, r3, r4 =>
      refine ⟨⟨k, nm, nn, sc, kids⟩, ?_, ?_⟩
      · rw [okForm_eq]; exact ⟨hnm, okForms_of hk.2⟩
      · have := r0.append (r1.append (r2.append (r3.append r4)))
        unfold cForm
        rw [formsD_eq]
        exact this
theorem op_core (hM : ∀ b o, ¬ cx.M b o) {tc tck tf ts ti tk tn : TypeId} (T : CoreTy P tc tck tf ts ti tk tn) : ∀ n, Op enc P w sp held cx n tc cCore okCore
  | 0 => fun fuel hf cs x hx => by
    have : fuel = 0 := by omega
    subst this; simp [DataW.trod] at hx
  | n + 1 => fun fuel hf cs x hx => by
    have ih := op_core hM T n
    obtain ⟨f0, f1, f2, f3, f4, f5, f6, hu, e0, e1, e2, e3, e4, e5, e6⟩ := T.core
    simp only [Prod.mk.injEq] at e0 e1 e2 e3 e4 e5 e6
    obtain ⟨xs, m, rfl, _, hl, hxl, hall⟩ := DataW.trod_struct hu hx
    rw [T.c11] at hl
    simp only [List.size_toArray, List.length_cons, List.length_nil] at hxl
    have hmn : m ≤ n := by omega
    have g0 := hall 0 f0 rfl
    have g1 := hall 1 f1 rfl
    have g2 := hall 2 f2 rfl
    have g3 := hall 3 f3 rfl
    have g4 := hall 4 f4 rfl
    have g5 := hall 5 f5 rfl
    have g6 := hall 6 f6 rfl
    rw [e0.1, e0.2, T.f.c1] at g0
    rw [e1.1, e1.2, T.f.c1] at g1
    rw [e2.1, e2.2, T.f.cs] at g2
    rw [e3.1, e3.2, T.f.c1] at g3
    rw [e4.1, e4.2, T.f.ci] at g4
    rw [e5.1, e5.2, T.f.c5] at g5
    rw [e6.1, e6.2, T.ck] at g6
    obtain ⟨k, _, r0⟩ := (Op.int (cx := cx) (n := n) T.f.int).field hmn g0 (by omega)
    obtain ⟨id, _, r1⟩ := (Op.int (cx := cx) (n := n) T.f.int).field hmn g1 (by omega)
    obtain ⟨nm, hnm, r2⟩ := (Op.string (cx := cx) (n := n) T.f.str).field hmn g2 (by omega)
    obtain ⟨nn, _, r3⟩ := (Op.int (cx := cx) (n := n) T.f.int).field hmn g3 (by omega)
    obtain ⟨sc, _, r4⟩ := ((Op.slice hM T.f.ints T.f.c1 (by omega) (fun _ => rfl) (Op.int (cx := cx) (n := n) T.f.int)).mono (m := n) (by omega)).field hmn g4 (by omega)
    obtain ⟨dt, hdt, r5⟩ := (op_form hM T.f n).field hmn g5 (by omega)
    obtain ⟨kids, hk, r6⟩ := ((Op.slice hM T.kids T.c11 (by omega) (fun _ => rfl) ih).mono (m := n) (by omega)).field hmn g6 (by omega)
    match cs, hl, r0, r1, r2, r3, r4, r5, r6 with
    | [a, b, c, d, e, f, g, h, i, j, l], _, r0, r1, r2, r3, r4, r5, r6 =>
      refine ⟨⟨k, id, nm, nn, sc, dt, kids⟩, ?_, ?_⟩
      · rw [okCore_eq]; exact ⟨hnm, hdt, okCores_of hk.2⟩
      · have := r0.append (r1.append (r2.append (r3.append (r4.append (r5.append r6)))))
        unfold cCore
        rw [coresD_eq]
        exact this
end
/-- Where nothing is known but the memory. -/
def cx0 : Cx := { bx := fun _ => none, tk := fun _ => none, M := fun _ _ => False, Z := fun _ _ => False }
theorem rel0 {E : Setting} {w : World} (hg : ∀ g, Rd cx0 w (E.G g) (.pointer (some ⟨g, 0, none⟩))) : Rel E cx0 [] w where
  cells k cs h := by simp [St.get] at h
  tok k n e h := by simp [St.get] at h
  foot k b o h := by rcases h with ⟨cs, o0, h1, _⟩ | ⟨n, e, c, z, h1, _⟩ <;> simp [St.get] at h1
  sep k k' b o h := by rcases h with ⟨cs, o0, h1, _⟩ | ⟨n, e, c, z, h1, _⟩ <;> simp [St.get] at h1
  domb k l h := by cases h
  domt k l h := by cases h
  mlt b o h := h.elim
  nz k b o h := by rcases h with ⟨cs, o0, h1, _⟩ | ⟨n, e, c, z, h1, _⟩ <;> simp [St.get] at h1
  zm b o h := h.elim
  bxlt k b o h := by cases h
  apart k k' b o n e g c z h := by cases h
  rows k k' n e n' e' g c z c' z' h := by cases h
  glob := hg
theorem Ext.below {cx' : Cx} {w w' : World} {S : Key → Bool} (h : Ext S cx0 w cx' w') : Below w.heap.size w w' :=
  ⟨h.os, h.tape, h.output, h.size, fun k hk => h.block k hk (fun _ h => h)⟩
end Go.Mx
namespace Go.Mx
open Go.ChangeShapes Go.WideShapes Go.ChangeAt Go.RowKit
section
variable {H : Type} {enc : TypeId × Value → H} {P : Program}
theorem trodAll_stays (hl : laidOutB P = true) {W W' : World} {sp' : Nat → Bool} (hb : Below W.heap.size W W') : ∀ {ts : List TypeId} {vs : List Value} {ds : List (DataW H)} {ps : List MemPlace}, (∀ t ∈ ts, P.readableRec t = true ∧ t < P.types.size) →
    DataW.TrodAll enc P W 0 (fun _ => true) true ts vs ds ps → (∀ p ∈ ps, p.block < W.heap.size) → (∀ p ∈ ps, sp' p.block = true) → DataW.TrodAll enc P W' 0 sp' true ts vs ds ps
  | [], _, _, _, _, h, _, _ => by
    obtain ⟨rfl, rfl, rfl⟩ := trodAll_nil h
    exact h
  | t :: ts, _, _, _, ht, h, hlt, hs => by
    obtain ⟨v, vs1, d, ds1, a, b, rfl, rfl, rfl, h1, h2⟩ := trodAll_cons h
    refine ⟨a, b, WideElems.Trod_stays hl (ht t (by simp)).1 (ht t (by simp)).2 h1 (fun p hp => hb.same (hlt p (List.mem_append_left _ hp))) (fun p hp => hs p (List.mem_append_left _ hp)), ?_, rfl⟩
    exact trodAll_stays hl hb (fun t ht' => ht t (by simp [ht'])) h2 (fun p hp => hlt p (List.mem_append_right _ hp)) (fun p hp => hs p (List.mem_append_right _ hp))
/-- A law that answers true and leaves what was handed in as it was. -/
theorem post_true {f : Func} {s : ChangeSpec} {apart fresh handsOn again : Bool} {W W' : World} {args : Array Value} {ds gs : List (DataW H)} {before : List MemPlace} {tb : TypeId}
    (hW : DataW.Whole enc P f.params.toList s.vars apart W args.toList ds gs before) (hrt : f.resultTypes = #[tb]) (htb : P.underlying tb = some .bool) (hv : s.vars = []) (hfn : s.fn H (ds ++ gs) = { results := [.lit (.bool true)], args := ds })
    (hl : laidOutB P = true) (ht : ∀ t ∈ f.params.toList, P.readableRec t = true ∧ t < P.types.size) (hb : Below W.heap.size W W') : s.post enc P f apart fresh handsOn again W args (.bool true) W' := by
  have hlt : ∀ x ∈ before, x.block < W.heap.size := fun x hx => by simpa using hW.lt x hx
  have hold : ∀ p ∈ before, (fun b => decide (b < W.heap.size)) p.block = true := fun p hp => by simpa using hlt p hp
  have hW0 := hW
  obtain ⟨pa, pv, hA, hV, hps, hz, hn⟩ := hW
  rw [hv] at hV
  obtain ⟨hgs, hpv⟩ := trodVars_none hV
  subst hgs; subst hpv
  have hargs : ∀ sp : Nat → Bool, (∀ p ∈ before, sp p.block = true) → DataW.TrodAll enc P W' 0 sp true f.params.toList args.toList (s.fn H (ds ++ [])).args pa := fun sp hsp => by
    rw [hfn]
    exact trodAll_stays hl hb ht hA (fun p hp => hlt p (by rw [hps]; simpa using hp)) (fun p hp => hsp p (by rw [hps]; simpa using hp))
  have hres : ∀ (b : Nat) (sp : Nat → Bool) (hd : Bool), DataW.TrodAll enc P W' b sp hd f.resultTypes.toList ((Value.bool true).resultList f.resultTypes.size) (s.fn H (ds ++ [])).results [] := fun b sp hd => by
    rw [hfn, hrt]
    exact trodAll_cons_mk (shut_bool htb _) trodAll_mk0
  have hvars : ∀ sp : Nat → Bool, DataW.TrodVars enc P W' sp s.vars (s.fn H (ds ++ [])).vars [] := fun sp => by
    rw [hfn, hv]; exact rfl
  refine ⟨ds, [], before, [], pa, [], hW0, hres _ _ _, hargs _ hold, hvars _, World.keptBut_mono (fun p hp => ⟨hp, ?_⟩) (hb.frame (· ∈ before)), fun _ => ?_⟩
  · rw [hps] at hp
    simpa using hp
  · refine ⟨ok_one hrt rfl (okWide_bool_mk htb _), _, _, ([] ++ pa) ++ [], ⟨[] ++ pa, [], trodAll_append (hargs _ (fun _ _ => rfl)) (hres _ _ _), hvars _, rfl, ?_, ?_⟩, ?_⟩
    · intro b off hp
      have hmem : MemPlace.cell b off ∈ before := by rw [hps]; simpa using hp
      rw [hb.frozen (p := ⟨b, off, none⟩) (hlt _ hmem)]
      exact hz b off hmem
    · intro ha
      have := hn ha
      rw [hps] at this
      simpa using this
    · intro p hp _
      rw [hps]
      simpa using hp
end
/-- What a contract of a law says of a call out of nothing. -/
theorem law_call {E : Setting} {f : Nat} {ds : List D} {args : Array Value} {W : World} (hg : ∀ g, Rd cx0 W (E.G g) (.pointer (some ⟨g, 0, none⟩))) (hd : RdL cx0 W ds args.toList) (h : ACall E f ds [] fun d _ => d = .v (.bool true)) :
    Calls E.P f args W fun e W' => e = .returned (.bool true) ∧ Below W.heap.size W W' := by
  have := h cx0 W args.toList (rel0 hg) hd
  rw [Array.toArray_toList] at this
  refine this.mono fun e W' ⟨d, st', cx', v, he, hK, _, _, hr, hx⟩ => ?_
  subst hK
  refine ⟨?_, hx.below⟩
  rw [he, hr.v_inv]
end Go.Mx
