/- A new variable, for the abstract state. No condition. -/
import Derived.Test.YtbifcdaablhljaaDoorMxD
namespace Go.Mx
set_option linter.unusedVariables false
/-! ### new variables -/
theorem Fr.upd_same (fr : Fr) (t : Nat) (o : Option AObj) : fr.upd t o t = o := if_pos rfl
theorem Fr.upd_ne (fr : Fr) (t u : Nat) (o : Option AObj) (h : u ≠ t) : fr.upd t o u = fr u := if_neg h
theorem St.get_set : ∀ {st : St} {k k' : Key} {o : Option AObj}, k.1 < st.length → (st.set k o).get k' = if k' = k then o else st.get k'
  | [], _, _, _, h => by simp at h
  | fr :: r, k, k', o, h => by
    have hlen : ∀ {st : St} {k : Key} {o : Option AObj}, (St.set st k o).length = st.length := by
      intro st k o
      induction st with
      | nil => rfl
      | cons fr r ih => simp only [St.set]; split <;> simp [ih]
    simp only [St.set]
    by_cases hk : k.1 = r.length
    · rw [if_pos hk]
      simp only [St.get]
      by_cases hk' : k'.1 = r.length
      · rw [if_pos hk', if_pos hk']
        unfold Fr.upd
        by_cases he : k' = k
        · rw [if_pos he, if_pos (by rw [he])]
        · rw [if_neg he, if_neg (fun h2 => he (Prod.ext (by omega) h2))]
      · rw [if_neg hk', if_neg hk', if_neg (fun he => hk' (by rw [he]; exact hk))]
    · rw [if_neg hk]
      simp only [St.get, hlen]
      by_cases hk' : k'.1 = r.length
      · rw [if_pos hk', if_pos hk', if_neg (fun he => hk (by rw [← he]; exact hk'))]
      · rw [if_neg hk', if_neg hk']
        exact St.get_set (by simp at h; omega)
theorem St.length_set (st : St) (k : Key) (o : Option AObj) : (st.set k o).length = st.length := by
  induction st with
  | nil => rfl
  | cons fr r ih => simp only [St.set]; split <;> simp [ih]
theorem cell_new {w : World} {cs : Array Value} {e : TypeId} {j : Nat} {x : Value} (h : cs[j]? = some x) : (w.alloc (.cells cs e (0, 0))).cell? ⟨w.heap.size, j, none⟩ = some x := by
  simp only [World.cell?, World.alloc, Array.getElem?_push_size]; exact h
theorem frozen_new {w : World} {cs : Array Value} {e : TypeId} {j : Nat} : (w.alloc (.cells cs e (0, 0))).frozen? ⟨w.heap.size, j, none⟩ = false := by
  simp only [World.frozen?, World.alloc, Array.getElem?_push_size]; simp
theorem cell_old {w : World} {o : Go.Obj} {b j : Nat} (h : b < w.heap.size) : (w.alloc o).cell? ⟨b, j, none⟩ = w.cell? ⟨b, j, none⟩ := World.cell?_alloc_lt (w := w) (a := ⟨b, j, none⟩) (o := o) h
theorem frozen_old {w : World} {o : Go.Obj} {b j : Nat} (h : b < w.heap.size) : (w.alloc o).frozen? ⟨b, j, none⟩ = w.frozen? ⟨b, j, none⟩ := World.frozen?_alloc_old (w := w) (a := ⟨b, j, none⟩) (o := o) (Nat.ne_of_lt h)
theorem heap_old {w : World} {o : Go.Obj} {b : Nat} (h : b < w.heap.size) : (w.alloc o).heap[b]? = w.heap[b]? := by
  show (w.heap.push o)[b]? = _; rw [Array.getElem?_push, if_neg (by omega)]
theorem not_foot_new {E : Setting} {cx : Cx} {st : St} {w : World} (r : Rel E cx st w) {k : Key} {b o : Nat} (h : foot cx st k b o) : b < w.heap.size := by
  obtain ⟨⟨x, hx⟩, _⟩ := r.foot k b o h
  exact cell_lt hx
theorem Rel.row_lt {E : Setting} {cx : Cx} {st : St} {w : World} (r : Rel E cx st w) {k : Key} {n : Nat} {e : TypeId} {g c z : Nat} (h : cx.tk k = some (n, e, some (g, c, z))) : g < w.heap.size := by
  obtain ⟨n', e', h'⟩ := r.domt k _ h
  obtain ⟨tl, h1, h2⟩ := r.tok k n' e' h'
  rw [h] at h1
  simp only [Option.some.injEq, Prod.mk.injEq] at h1
  obtain ⟨_, _, rfl⟩ := h1
  obtain ⟨_, _, cur, q3, _⟩ := h2
  rcases Nat.lt_or_ge g w.heap.size with h' | h'
  · exact h'
  · simp [Array.getElem?_eq_none h'] at q3
/-- A new variable: its key, its cells, its place in memory. -/
theorem Rel.new {E : Setting} {cx : Cx} {st : St} {w : World} (r : Rel E cx st w) {key : Key} (hk : st.get key = none) (hlt : key.1 < st.length) {ds : List D} {vs : List Value} (e : TypeId)
    (hl : ds.length = vs.length) (hrd : ∀ (j : Nat) d x, ds[j]? = some d → vs[j]? = some x → Rd cx w d x) (hlev : allL (lv (key.1 + 1)) ds = true) :
    ∃ cx', Rel E cx' (st.set key (some (.cells ds))) (w.alloc (.cells vs.toArray e (0, 0))) ∧ cx'.bx key = some (w.heap.size, 0) ∧ Ext (fun _ => true) cx w cx' (w.alloc (.cells vs.toArray e (0, 0))) := by
  have hnb : cx.bx key = none := by
    cases h : cx.bx key with
    | none => rfl
    | some l => obtain ⟨cs, e⟩ := r.domb key l h; rw [hk] at e; cases e
  have hnt : cx.tk key = none := by
    cases h : cx.tk key with
    | none => rfl
    | some l => obtain ⟨n, _, e⟩ := r.domt key l h; rw [hk] at e; cases e
  let cx' : Cx := { bx := fun k => if k = key then some (w.heap.size, 0) else cx.bx k, tk := cx.tk, M := fun b o => cx.M b o ∨ b = w.heap.size, Z := cx.Z }
  have hext : Ext (fun _ => true) cx w cx' (w.alloc (.cells vs.toArray e (0, 0))) := by
    refine ⟨rfl, rfl, rfl, by simp only [World.alloc, Array.size_push]; omega, fun b hb _ => heap_old hb, fun b o hb _ => cell_old hb, fun b o hb hm h => ?_, fun k l _ h => ?_, fun k n l _ h => ⟨n, l, h, Nat.le_refl _, fun _ => rfl⟩, rfl, fun k n e g c z h _ => ⟨k, n, e, c, z, h⟩, fun b o hb => frozen_old hb⟩
    · rcases h with h | h
      · exact hm h
      · omega
    · show (if k = key then _ else cx.bx k) = _
      rw [if_neg (fun he => by subst he; rw [hnb] at h; cases h)]; exact h
  have hmono : ∀ {d x}, Rd cx w d x → Rd cx' (w.alloc (.cells vs.toArray e (0, 0))) d x := fun h => h.mono hext (RelF.ext.all_true _)
  have hfoot : ∀ k b o, Mx.foot cx' (st.set key (some (.cells ds))) k b o → (k = key ∧ b = w.heap.size ∧ o < ds.length) ∨ Mx.foot cx st k b o := fun k b o h => by
    rcases h with ⟨cs, o0, h1, h2, h3, h4⟩ | ⟨n, e', c, z, h1, h2, h3⟩
    · rw [St.get_set hlt] at h1
      by_cases hkk : k = key
      · rw [if_pos hkk] at h1
        simp only [cx', hkk, if_true] at h2
        cases h1; cases h2
        exact .inl ⟨hkk, rfl, by omega⟩
      · rw [if_neg hkk] at h1
        simp only [cx', hkk, if_false] at h2
        exact .inr (.inl ⟨cs, o0, h1, h2, h3, h4⟩)
    · rw [St.get_set hlt] at h1
      by_cases hkk : k = key
      · rw [if_pos hkk] at h1; cases h1
      · rw [if_neg hkk] at h1
        exact .inr (.inr ⟨n, e', c, z, h1, h2, h3⟩)
  refine ⟨cx', ⟨fun k cs h => ?_, fun k n e' h => ?_, fun k b o h => ?_, fun k k' b o h h' => ?_, fun k l h => ?_, fun k l h => ?_, fun b o h => by simp only [World.alloc, Array.size_push]; rcases h with h | h; (have := r.mlt b o h; omega); omega, fun k b o h hz => ?_, fun b o h => .inl (r.zm b o h), fun k b o h => ?_, fun k k' b o n e' g c z h h' => ?_, r.rows, fun g => hmono (r.glob g)⟩, if_pos rfl, hext⟩
  · rw [St.get_set hlt] at h
    by_cases hkk : k = key
    · rw [if_pos hkk] at h; cases h
      refine ⟨by rw [hkk]; exact hlev, w.heap.size, 0, if_pos hkk, fun j d hj => ?_⟩
      obtain ⟨x, hx⟩ := len_get hl.symm hj
      refine ⟨x, ?_, hmono (hrd j d x hj hx)⟩
      rw [Nat.zero_add]
      exact cell_new (by simpa using hx)
    · rw [if_neg hkk] at h
      obtain ⟨h1, b, o, h2, h3⟩ := r.cells k cs h
      refine ⟨h1, b, o, by show (if k = key then _ else cx.bx k) = _; rw [if_neg hkk]; exact h2, fun j d hj => ?_⟩
      obtain ⟨x, hx, hrd⟩ := h3 j d hj
      exact ⟨x, by rw [cell_old (cell_lt hx)]; exact hx, hmono hrd⟩
  · rw [St.get_set hlt] at h
    by_cases hkk : k = key
    · rw [if_pos hkk] at h; cases h
    · rw [if_neg hkk] at h
      obtain ⟨tl, h1, h2⟩ := r.tok k n e' h
      refine ⟨tl, h1, ?_⟩
      match tl, h2 with
      | none, _ => trivial
      | some (g, c, z), ⟨q1, q2, cur, q3, q4⟩ =>
        refine ⟨q1, q2, cur, ?_, q4⟩
        rw [heap_old (by rcases Nat.lt_or_ge g w.heap.size with h' | h'; exact h'; simp [Array.getElem?_eq_none h'] at q3)]; exact q3
  · rcases hfoot k b o h with ⟨_, rfl, h2⟩ | h
    · have hlt' : o < vs.length := by omega
      exact ⟨⟨vs[o], cell_new (by simp [hlt'])⟩, frozen_new, .inr rfl⟩
    · obtain ⟨⟨x, hx⟩, h2, h3⟩ := r.foot k b o h
      have hb := cell_lt hx
      exact ⟨⟨x, by rw [cell_old hb]; exact hx⟩, by rw [frozen_old hb]; exact h2, .inl h3⟩
  · rcases hfoot k b o h with ⟨e1, e0, _⟩ | h1 <;> rcases hfoot k' b o h' with ⟨e2, e3, _⟩ | h2
    · rw [e1, e2]
    · have := not_foot_new r h2; omega
    · have := not_foot_new r h1; omega
    · exact r.sep k k' b o h1 h2
  · by_cases hkk : k = key
    · exact ⟨ds, by rw [St.get_set hlt, if_pos hkk]⟩
    · have h' : cx.bx k = some l := by have h2 : (if k = key then some (w.heap.size, 0) else cx.bx k) = some l := h; rwa [if_neg hkk] at h2
      obtain ⟨cs, hcs⟩ := r.domb k l h'
      exact ⟨cs, by rw [St.get_set hlt, if_neg hkk]; exact hcs⟩
  · obtain ⟨n, e', hcs⟩ := r.domt k l h
    have hkk : k ≠ key := fun he => by subst he; rw [hk] at hcs; cases hcs
    exact ⟨n, e', by rw [St.get_set hlt, if_neg hkk]; exact hcs⟩
  · rcases hfoot k b o h with ⟨_, h1, _⟩ | h1
    · have := r.mlt _ _ (r.zm _ _ hz); omega
    · exact r.nz k b o h1 hz
  · have h2 : (if k = key then some (w.heap.size, 0) else cx.bx k) = some (b, o) := h
    simp only [World.alloc, Array.size_push]
    split at h2
    · cases h2; omega
    · have := r.bxlt k b o h2; omega
  · have h2 : (if k = key then some (w.heap.size, 0) else cx.bx k) = some (b, o) := h
    split at h2
    · cases h2
      have hg := r.row_lt h'
      omega
    · exact r.apart k k' b o n e' g c z h2 h'
/-- What is known of the keys of a datum that stands for a value. -/
theorem Rd.keys {cx : Cx} {w : World} {d : D} {x : Value} (h : Rd cx w d x) {p : Key → Bool} (hp : ∀ k, (∃ l, cx.bx k = some l) ∨ (∃ l, cx.tk k = some l) → p k = true) : d.all p = true := by
  have hL : ∀ (cs : List D), (∀ (j : Nat) d, cs[j]? = some d → d.all p = true) → allL p cs = true := fun cs => by
    induction cs with
    | nil => intro _; rfl
    | cons d r ih => intro h; simp only [allL, Bool.and_eq_true]; exact ⟨h 0 d rfl, ih fun j e hj => h (j + 1) e (by simpa using hj)⟩
  have hLL : ∀ (cs : List (List D)), (∀ (j : Nat) d, cs[j]? = some d → allL p d = true) → allLL p cs = true := fun cs => by
    induction cs with
    | nil => intro _; rfl
    | cons d r ih => intro h; simp only [allLL, Bool.and_eq_true]; exact ⟨h 0 d rfl, ih fun j e hj => h (j + 1) e (by simpa using hj)⟩
  induction h with
  | v x => rfl
  | any x => rfl
  | @sl sz tok xs a cap A vs hcap hcm hsz ha hc hr ht ih =>
    simp only [D.all, Bool.and_eq_true]
    refine ⟨?_, hLL _ fun i cs hi => hL _ fun j d hj => ih i j cs d hi hj⟩
    cases tok with
    | own k => obtain ⟨n, e, tl, h1, _⟩ := ht; exact hp k (.inr ⟨_, h1⟩)
    | _ => rfl
  | bx h => exact hp _ (.inl ⟨_, h⟩)
  | sb h _ => exact hp _ (.inl ⟨_, h⟩)
  | ro b o vs hc hr ih => exact hL _ fun j d hj => ih j d hj
  | agg hl hr ih => exact hL _ fun j d hj => by obtain ⟨y, hy⟩ := len_get hl.symm hj; exact ih j d y hj hy
  | tup hl hr ih => exact hL _ fun j d hj => by obtain ⟨y, hy⟩ := len_get hl.symm hj; exact ih j d y hj hy
  | clo hf hcl hrf hrc ih1 ih2 =>
    simp only [D.all, Bool.and_eq_true]
    exact ⟨hL _ fun j d hj => by obtain ⟨y, hy⟩ := len_get hf.symm hj; exact ih1 j d y hj hy, hL _ fun j d hj => by obtain ⟨y, hy⟩ := len_get hcl.symm hj; exact ih2 j d y hj hy⟩
theorem Rel.lev {E : Setting} {cx : Cx} {st : St} {w : World} (r : Rel E cx st w) {d : D} {x : Value} (h : Rd cx w d x) {n : Nat} (hn : st.length ≤ n) : d.all (lv n) = true :=
  h.keys fun k hk => by
    have : ¬ ¬ k.1 < st.length := fun hc => by
      have := r.noKey k hc
      rcases hk with ⟨l, hl⟩ | ⟨l, hl⟩
      · rw [this.1] at hl; cases hl
      · rw [this.2] at hl; cases hl
    simp only [lv, decide_eq_true_eq]; omega
section
variable {E : Setting} {U : Fun} {F : D → St → Prop} {k : List KI} {ρ : Env} {st : St} {all : Array Oper} {rest : List Oper}
variable {t : Nat} {ty : TypeId} {pos : String} {af : Array Edge} {nn bb : Nat} {ss : Shp}
/-- The cells of a value. -/
def cellsD : D → List D
  | .agg cs => cs
  | d => [d]
theorem cellsD_rd {cx : Cx} {w : World} {d : D} {x : Value} (h : Rd cx w d x) (hd : d ≠ .any) (hv : ∀ y, d = .v y → y.cells.size = 1 ∧ y.cells = #[y]) : (cellsD d).length = x.cells.toList.length ∧ ∀ (j : Nat) e y, (cellsD d)[j]? = some e → x.cells.toList[j]? = some y → Rd cx w e y := by
  have one : ∀ (d : D) (x : Value), Rd cx w d x → x.cells = #[x] → ([d] : List D).length = x.cells.toList.length ∧ ∀ (j : Nat) e y, ([d] : List D)[j]? = some e → x.cells.toList[j]? = some y → Rd cx w e y := fun d x h hx => by
    rw [hx]
    refine ⟨rfl, fun j e y he hy => ?_⟩
    cases j with
    | zero => simp at he hy; subst he; subst hy; exact h
    | succ j => simp at he
  cases h with
  | agg hl hr => exact ⟨by simpa [Value.cells, cellsD] using hl, fun j e y he hy => hr j e y he (by simpa [Value.cells] using hy)⟩
  | v x => exact one _ _ (.v x) (hv x rfl).2
  | any => exact absurd rfl hd
  | sl A vs h1 h2 h3 h4 h5 h6 h7 => exact one _ _ (.sl A vs h1 h2 h3 h4 h5 h6 h7) rfl
  | bx h => exact one _ _ (.bx h) rfl
  | sb h hn => exact one _ _ (.sb h hn) rfl
  | ro b o vs h1 h2 => exact one _ _ (.ro b o vs h1 h2) rfl
  | tup h1 h2 => exact one _ _ (.tup h1 h2) rfl
  | clo h1 h2 h3 h4 => exact one _ _ (.clo h1 h2 h3 h4) rfl
end
end Go.Mx
