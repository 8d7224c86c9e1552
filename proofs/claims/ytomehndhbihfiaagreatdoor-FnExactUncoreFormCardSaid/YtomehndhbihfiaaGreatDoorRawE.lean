/- Contracts of the evaluator told of memory itself. No condition. -/
import Derived.Test.YtomehndhbihfiaaGreatDoorRawC
import Derived.Test.YtomehndhbihfiaaGreatDoorEvTri
namespace Go.Raw
open Go.Mx Go.RowKit
set_option linter.unusedVariables false
def glob (E : Setting) (w : World) : Prop := ∀ g, Rd cx0 w (E.G g) (.pointer (some ⟨g, 0, none⟩))
theorem glob.below {E : Setting} {w w' : World} (h : glob E w) (hb : Below w.heap.size w w') : glob E w' := fun g => rd_below (h g) hb
theorem rd_cx0 {cx : Cx} {w : World} {d : D} {x : Value} (h : Rd cx w d x) (hd : d.all (fun _ => false) = true) : Rd cx0 w d x :=
  h.monoR (S := fun _ => false) (cx' := cx0) ⟨fun _ _ _ => rfl, fun _ _ _ _ => rfl, fun _ _ _ _ h => h, fun _ _ h => (by cases h), fun _ _ _ h => (by cases h)⟩ hd
theorem low0 : Low [] (fun _ => []) := ⟨fun os _ i k h => by simp at h, fun os _ i k o h => by simp at h, fun os i k h => by simp at h, fun _ _ => rfl⟩
/-- A contract without places. -/
def Out (dd : D) (w : World) (e : Ending) (w' : World) : Prop := ∃ v, e = .returned v ∧ Below w.heap.size w w' ∧ Rd cx0 w' dd v
theorem raw0 {E : Setting} {g : Nat} {args : List ED} {d : KD} {ds : List D} {dd : D} (h : Mx.SCall E g args [] (.d d) []) (he : ED.DL (kap 0 []) args = ds) (hd' : d.D = dd) {w : World} {vs : List Value} (hg : glob E w) (hd : RdL cx0 w ds vs) :
    Calls E.P g vs.toArray w (Out dd w) := by
  have := h.2 [] (fun _ => []) (fun x _ => x = dd) low0 rfl (by show d.D = dd; exact hd')
  rw [he] at this
  refine (this cx0 w vs (rel0 hg) hd).mono fun e w' ⟨d0, st', cx', v, he, hK, _, _, hr, hx⟩ => ?_
  subst hK
  refine ⟨v, he, hx.below, rd_cx0 hr ?_⟩
  rw [← hd']; exact KD.keyless _ _
theorem cells_of {w : World} {g : Nat} : ∀ (cs : List D) (o : Nat), (∀ (j : Nat) d, cs[j]? = some d → ∃ x, w.cell? ⟨g, o + j, none⟩ = some x ∧ Rd cx0 w d x) →
    ∃ cells : List Value, cells.length = cs.length ∧ (∀ (j : Nat) x, cells[j]? = some x → w.cell? ⟨g, o + j, none⟩ = some x) ∧ ∀ (j : Nat) d, cs[j]? = some d → ∃ x, cells[j]? = some x ∧ Rd cx0 w d x
  | [], o, h => ⟨[], rfl, fun j x hx => by simp at hx, fun j d hd => by simp at hd⟩
  | d :: cs, o, h => by
    obtain ⟨x, hx, hr⟩ := h 0 d rfl
    obtain ⟨cells, h1, h2, h3⟩ := cells_of cs (o + 1) (fun j e he => by
      obtain ⟨y, hy, hr⟩ := h (j + 1) e (by simpa using he)
      exact ⟨y, by rw [show o + 1 + j = o + (j + 1) by omega]; exact hy, hr⟩)
    refine ⟨x :: cells, by simp [h1], fun j y hy => ?_, fun j e he => ?_⟩
    · cases j with
      | zero => simp at hy; subst hy; exact hx
      | succ j => have := h2 j y (by simpa using hy); rwa [show o + 1 + j = o + (j + 1) by omega] at this
    · cases j with
      | zero => simp at he; subst he; exact ⟨x, rfl, hr⟩
      | succ j => obtain ⟨y, hy, hr⟩ := h3 j e (by simpa using he); exact ⟨y, by simpa using hy, hr⟩
def fr1 (os : List (Option AObj)) : St := [fun i => (os[i]?).getD none]
theorem low1 : Low [(0, 0)] fr1 where
  get os hl i k hk := by
    cases i with
    | zero => simp at hk; subst hk; simp [fr1, St.get]
    | succ i => simp at hk
  set os hl i k o hk := by
    cases i with
    | zero =>
      simp at hk; subst hk
      simp only [fr1, St.set, List.length_nil, if_true]
      congr 1
      funext j
      unfold Fr.upd
      by_cases hj : j = 0
      · subst hj
        rw [if_pos rfl, List.getElem?_set_self (by rw [hl]; decide)]; rfl
      · rw [if_neg hj, List.getElem?_set_ne (fun e => hj e.symm)]
    | succ i => simp at hk
  lt os i k hk := by
    cases i with
    | zero => simp at hk; subst hk; simp [fr1]
    | succ i => simp at hk
  len _ _ := rfl
/-- A contract that hands out a row of its own. -/
def OutRow (n : Nat) (ds : List D) (w : World) (e : Ending) (w' : World) : Prop :=
  ∃ v cells, e = .returned v ∧ Below w.heap.size w w' ∧ RowAt w' (Ge w.heap.size) v n cells ∧ cells.length = ds.length ∧ ∀ (j : Nat) d, ds[j]? = some d → ∃ x, cells[j]? = some x ∧ Rd cx0 w' d x
theorem raw1 {E : Setting} {g : Nat} {args : List ED} {ds : List D} {e : TypeId} {z n : Nat} {r : List (List KD)} (h : Mx.SCall E g args [none] (.vs (.low 0) z n) [.vec e z r]) (hn : r.length = n) (he : ED.DL (kap 0 [(0, 0)]) args = ds)
    {w : World} {vs : List Value} (hg : glob E w) (hd : RdL cx0 w ds vs) : Calls E.P g vs.toArray w (OutRow n (KD.DLL r).flatten w) := by
  have := h.2 [(0, 0)] fr1 (fun x st' => x = .vs (0, 0) z n ∧ st' = fr1 [some (.vec r.length e z (KD.DLL r).flatten)]) low1 rfl ⟨rfl, rfl⟩
  rw [he] at this
  have hrel : Rel E cx0 (fr1 [none]) w := (rel0 hg).congr (fun k => by
    simp only [St.get, fr1]
    split
    · rename_i hk
      cases hk2 : k.2 with
      | zero => rfl
      | succ i => rfl
    · rfl)
  refine (this cx0 w vs hrel hd).mono fun e' w' ⟨d0, st', cx', v, he', ⟨hK, hst⟩, _, hr', hrd, hx⟩ => ?_
  subst hK; subst hst; subst hn
  have hget : (fr1 [some (.vec r.length e z (KD.DLL r).flatten)]).get (0, 0) = some (.vec r.length e z (KD.DLL r).flatten) := by simp [fr1, St.get]
  obtain ⟨h1, h2, h3, h4⟩ := hr'.vec _ _ _ _ _ hget
  obtain ⟨tl, t1, t2⟩ := hr'.tok (0, 0) _ _ _ ⟨hget, rfl⟩
  cases hrd with
  | vs q1 q2 q3 =>
    obtain ⟨n', e2, tl', q4, q5, q6⟩ := q3
    rw [t1] at q4
    simp only [Option.some.injEq, Prod.mk.injEq] at q4
    obtain ⟨rfl, rfl, rfl⟩ := q4
    have q6 := q6 rfl
    match tl, t1, t2, q6 with
    | none, t1, t2, q6 =>
      have h0 := h3 t1
      have hc : (KD.DLL r).flatten = [] := by apply List.eq_nil_of_length_eq_zero; rw [h2, h0]; simp
      exact ⟨_, [], he', hx.below, ⟨_, _, rfl, q1, q2, fun hn => absurd rfl hn⟩, by rw [hc]; rfl, fun j d hd => by rw [hc] at hd; simp at hd⟩
    | some (b, c, z'), t1, t2, q6 =>
      obtain ⟨ha, rfl, rfl⟩ := q6
      obtain ⟨_, h5⟩ := h4 _ _ _ t1
      obtain ⟨cells, k1, k2, k3⟩ := cells_of (w := w') (g := b) (KD.DLL r).flatten 0 (fun j d hd => by
        obtain ⟨x, hx, hr⟩ := h5 j d hd
        refine ⟨x, by rw [Nat.zero_add]; exact hx, rd_cx0 hr ?_⟩
        have hall : ∀ (l : List (List KD)) (j : Nat) d, (KD.DLL l).flatten[j]? = some d → d.all (fun _ => false) = true := fun l j d hd => by
          have hm := List.mem_of_getElem? hd
          rw [List.mem_flatten] at hm
          obtain ⟨c, hc, hdc⟩ := hm
          rw [KD.DLL_map, List.mem_map] at hc
          obtain ⟨ks, _, rfl⟩ := hc
          first | rw [KD.DL_map, List.mem_map] at hdc | rw [List.mem_map] at hdc
          obtain ⟨k, _, rfl⟩ := hdc
          exact KD.keyless _ _
        exact hall r j d hd)
      refine ⟨_, cells, he', hx.below, ⟨_, _, rfl, q1, q2, fun hne => ⟨b, 0, ha, ?_, fun j x hx => ⟨k2 j x hx, ?_⟩⟩⟩, k1, k3⟩
      · show w.heap.size ≤ b
        rcases Nat.lt_or_ge b w.heap.size with hlt | hge
        · obtain ⟨k0, n0, e0, c0, z0, hk0⟩ := hx.rowold _ _ _ _ _ _ t1 hlt
          cases hk0
        · exact hge
      · have hj : j < r.length * z' := by
          have := (List.getElem?_eq_some_iff.1 hx).1
          rw [k1, h2] at this; exact this
        obtain ⟨t3, _⟩ := t2
        have hj2 : j < c * z' := Nat.lt_of_lt_of_le hj (Nat.mul_le_mul_right _ t3)
        rw [Nat.zero_add]
        exact (hr'.foot (0, 0) b j (.inr ⟨_, _, _, _, _, ⟨hget, rfl⟩, t1, Nat.zero_le _, hj2⟩)).2.1
mutual
theorem cntF_w : ∀ f : Mx.Form, cntF f ≤ 4 * Ev.wF (Ev.toF f)
  | ⟨_, _, _, sc, kids⟩ => by
    have := cntFs_w kids
    have e : (Ev.toFs kids).length = kids.length := toFs_len kids
    simp only [cntF, Ev.toF, Ev.wF]; omega
theorem cntFs_w : ∀ l : List Mx.Form, cntFs l ≤ 3 * l.length + 4 * Ev.wFs (Ev.toFs l)
  | [] => by simp [cntFs]
  | f :: r => by
    have := cntF_w f
    have := cntFs_w r
    simp only [cntFs, Ev.toFs, Ev.wFs, List.length_cons]; omega
theorem toFs_len : ∀ l : List Mx.Form, (Ev.toFs l).length = l.length
  | [] => rfl
  | f :: r => by rw [Ev.toFs, List.length_cons, List.length_cons, toFs_len r]
end
mutual
theorem cntC_w : ∀ f : Mx.Core, cntC f ≤ 8 * Ev.wC (Ev.toC f)
  | ⟨_, _, _, _, ids, d, kids⟩ => by
    have := cntCs_w kids
    have := cntF_w d
    have e : (Ev.toCs kids).length = kids.length := toCs_len kids
    simp only [cntC, Ev.toC, Ev.wC]; omega
theorem cntCs_w : ∀ l : List Mx.Core, cntCs l ≤ 7 * l.length + 8 * Ev.wCs (Ev.toCs l)
  | [] => by simp [cntCs]
  | f :: r => by
    have := cntC_w f
    have := cntCs_w r
    simp only [cntCs, Ev.toCs, Ev.wCs, List.length_cons]; omega
theorem toCs_len : ∀ l : List Mx.Core, (Ev.toCs l).length = l.length
  | [] => rfl
  | f :: r => by rw [Ev.toCs, List.length_cons, List.length_cons, toCs_len r]
end
def OutV (x : Value) (w : World) (e : Ending) (w' : World) : Prop := e = .returned x ∧ Below w.heap.size w w'
theorem raw0v {E : Setting} {g : Nat} {args : List ED} {d : KD} {ds : List D} {x : Value} (h : Mx.SCall E g args [] (.d d) []) (he : ED.DL (kap 0 []) args = ds) (hd' : d.D = .v x) {w : World} {vs : List Value} (hg : glob E w) (hd : RdL cx0 w ds vs) :
    Calls E.P g vs.toArray w (OutV x w) := (raw0 h he hd' hg hd).mono fun e w' ⟨v, he, hb, hr⟩ => by rw [he, hr.v_inv]; exact ⟨rfl, hb⟩
def OutI (l : List Int) (w : World) (e : Ending) (w' : World) : Prop := ∃ v, e = .returned v ∧ Below w.heap.size w w' ∧ RowAt w' (Ge w.heap.size) v l.length (ints l)
theorem ints_flat (l : List Int) : (KD.DLL (Ev.ksInt l)).flatten = l.map fun i => D.v (.int .i64 i) := by
  rw [Ev.ints_D]
  induction l with
  | nil => rfl
  | cons x r ih => simp only [intsD, List.map_cons, List.flatten_cons] at *; rw [ih]; rfl
theorem raw1i {E : Setting} {g : Nat} {args : List ED} {ds : List D} {e : TypeId} {n : Nat} {l : List Int} (h : Mx.SCall E g args [none] (.vs (.low 0) 1 n) [.vec e 1 (Ev.ksInt l)]) (hn : n = (Ev.ksInt l).length) (he : ED.DL (kap 0 [(0, 0)]) args = ds)
    {w : World} {vs : List Value} (hg : glob E w) (hd : RdL cx0 w ds vs) : Calls E.P g vs.toArray w (OutI l w) := by
  have hlen : (Ev.ksInt l).length = l.length := by have := congrArg List.length (Ev.ints_D l); rw [KD.DLL_map, List.length_map, intsD_length] at this; exact this
  refine (raw1 h hn.symm he hg hd).mono fun e w' ⟨v, cells, h1, h2, h3, h4, h5⟩ => ⟨v, h1, h2, ?_⟩
  have : cells = ints l := by
    rw [ints_flat] at h4 h5
    apply List.ext_getElem?
    intro j
    simp only [ints, List.getElem?_map]
    cases hj : l[j]? with
    | none => rw [List.getElem?_eq_none_iff] at hj; rw [List.getElem?_eq_none (by rw [h4]; simpa using hj)]; rfl
    | some i =>
      obtain ⟨x, hx, hr⟩ := h5 j (.v (.int .i64 i)) (by rw [List.getElem?_map, hj]; rfl)
      rw [hx, hr.v_inv]; rfl
  subst this
  rw [hn, hlen] at h3
  exact h3
theorem agg1 {w : World} {ds : List D} {vs : List Value} (h : RdL cx0 w ds vs) : Rd cx0 w (.agg ds) (.agg vs.toArray) := .agg h.1 h.2
theorem rdlB {w w' : World} {ds : List D} {vs : List Value} (h : RdL cx0 w ds vs) (hb : Below w.heap.size w w') : RdL cx0 w' ds vs := ⟨h.1, fun j d x hd hx => rd_below (h.2 j d x hd hx) hb⟩
theorem ints_K (l : List Int) : (KD.sl 1 false (Ev.ksInt l)).D = .sl 1 .ro (intsD l) := by simp only [KD.D, tkB, Ev.ints_D]
theorem strs_D (l : List (List UInt8)) : KD.DLL (Ev.ksStr l) = strsD (l.map Mx.mkS) := by
  rw [KD.DLL_map, strsD, Ev.ksStr, List.map_map, List.map_map]
  apply List.map_congr_left
  intro x _
  rfl
theorem strs_K (l : List (List UInt8)) : (KD.sl 1 false (Ev.ksStr l)).D = .sl 1 .ro (strsD (l.map Mx.mkS)) := by simp only [KD.D, tkB, strs_D]
end Go.Raw
