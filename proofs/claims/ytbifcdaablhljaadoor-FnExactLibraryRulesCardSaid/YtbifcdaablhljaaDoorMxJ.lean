/- What an append does, for the abstract state. No condition. -/
import Derived.Test.YtbifcdaablhljaaDoorMxI
namespace Go.Mx
set_option linter.unusedVariables false
set_option linter.unusedSimpArgs false
theorem Rel.tk_none {E : Setting} {cx : Cx} {st : St} {w : World} (r : Rel E cx st w) {key : Key} (h : st.get key = none) : cx.tk key = none := by
  cases hk : cx.tk key with
  | none => rfl
  | some l => obtain ⟨n, e, h'⟩ := r.domt key l hk; rw [h] at h'; cases h'
/-- The token of a slice that may be grown: either its key's own, of just this length, or none is laid yet and the slice is full. -/
def Grows (st : St) (key : Key) (e : TypeId) (len : Nat) : Tok → Prop
  | .ro => False
  | .full => st.get key = none
  | .own k => k = key ∧ st.get key = some (.tok len e)
theorem append_core {E : Setting} {cx : Cx} {st : St} {w : World} (r : Rel E cx st w) {sz : Nat} (hsz : 0 < sz) {tok toky : Tok} {xs ys : List (List D)} {v vy : Value}
    (hv : Rd cx w (.sl sz tok xs) v) (hy : Rd cx w (.sl sz toky ys) vy) {t e ty : TypeId} {n b be : Nat} {se : Shp} (hT : tShape E.P t = some (n, b, .slice e)) (hE : tShape E.P e = some (sz, be, se)) {zs : List Value} (hz : tZero E.P e = some zs) (hzl : zs.length = sz)
    (hone : ∀ cs ∈ ys, allB D.one cs = true) (hb1 : (xs.length + ys.length) * be ≤ 140737488355328) (hb2 : xs.length + ys.length ≤ 9223372036854775807)
    {key : Key} (hlt : key.1 < st.length) (hg : Grows st key e xs.length tok) :
    ∃ v' w' cx', (Builtin.append_ #[t, t] ty #[v, vy]).run E.P w = .ok v' w' ∧ Rel E cx' (st.set key (some (.tok (xs.length + ys.length) e))) w' ∧ Rd cx' w' (.sl sz (.own key) (xs ++ ys)) v' ∧ Ext (fun _ => true) cx w cx' w' := by
  obtain ⟨a, cap, rfl, p1, p2, p3, p4, fx, f1, f2, f3⟩ := flat_of hsz hv
  obtain ⟨a2, cap2, rfl, q1, q2, q3, q4, fy, g1, g2, g3⟩ := flat_of hsz hy
  obtain ⟨i, u, hi, hu, h1, h2, h3⟩ := tShape_parts hT
  obtain ⟨ie, ue, hie, hue, k1, k2, k3⟩ := tShape_parts hE
  have hu : E.P.underlying t = some (.slice e) := by
    cases u <;> simp only [shpOf, Shp.slice.injEq, reduceCtorEq] at h3
    rw [hu, h3]
  clear h3
  have hnc : ∀ cs, st.get key ≠ some (.cells cs) := fun cs hc => by
    cases tok with
    | ro => exact hg
    | full => simp only [Grows] at hg; rw [hc] at hg; cases hg
    | own k => have := hg.2; rw [hc] at this; cases this
  have hall : ∀ (c : Cx) (w' : World), (∀ d x, Rd cx w d x → Rd c w' d x) → ∀ (i j : Nat) cs d, (xs ++ ys)[i]? = some cs → cs[j]? = some d → ∃ y, (fx ++ fy)[i * sz + j]? = some y ∧ Rd c w' d y := fun c w' hm =>
    flat_append f1 p4 (fun i j cs d hi hj => by obtain ⟨y, hy, hr⟩ := f2 i j cs d hi hj; exact ⟨y, hy, hm _ _ hr⟩) (fun i j cs d hi hj => by obtain ⟨y, hy, hr⟩ := g2 i j cs d hi hj; exact ⟨y, hy, hm _ _ hr⟩)
  have hsall : ∀ (i : Nat) cs, (xs ++ ys)[i]? = some cs → cs.length = sz := fun i cs h => by
    rcases append_get h with ⟨_, h⟩ | ⟨_, h⟩
    · exact p4 _ _ h
    · exact q4 _ _ h
  have holdlen : ∀ n0 l0, cx.tk key = some (n0, l0) → n0 = xs.length ∧ ∃ tl, l0 = (e, tl) ∧ tok = .own key := fun n0 l0 h => by
    cases tok with
    | ro => exact hg.elim
    | full => rw [r.tk_none hg] at h; cases h
    | own k =>
      obtain ⟨rfl, hs⟩ := hg
      obtain ⟨tl, ht, _⟩ := r.tok _ _ _ hs
      rw [ht] at h
      cases h
      exact ⟨rfl, tl, rfl, rfl⟩
  by_cases hm : ys.length = 0
  · -- nothing is appended
    have hy0 : ys = [] := List.eq_nil_of_length_eq_zero hm
    subst hy0
    have hrun := run_append_empty (ty := ty) hT hE a xs.length cap p1 a2 cap2 w
    obtain ⟨tl, htl, htk⟩ : ∃ tl : Option (Nat × Nat × Nat), (∀ n0 l0, cx.tk key = some (n0, l0) → l0 = (e, tl)) ∧ (match tl with | none => cap = xs.length | some (g, c, z) => a = some ⟨g, 0, none⟩ ∧ c = cap ∧ z = sz ∧ cx.tk key = some (xs.length, e, tl)) := by
      cases tok with
      | ro => exact hg.elim
      | full => exact ⟨none, fun n0 l0 h => by (rw [r.tk_none hg] at h; cases h), p3⟩
      | own k =>
        obtain ⟨rfl, hs⟩ := hg
        obtain ⟨n0, e0, tl, ht, hle, hx⟩ := p3
        obtain ⟨tl', ht', _⟩ := r.tok _ _ _ hs
        rw [ht] at ht'
        cases ht'
        refine ⟨tl, fun n0 l0 h => by (rw [ht] at h; cases h; rfl), ?_⟩
        have := hx rfl
        cases tl with
        | none => exact this
        | some l => obtain ⟨g, c, z⟩ := l; exact ⟨this.1, this.2.1, this.2.2, ht⟩
    have hstep := r.tokStep (key := key) hlt hnc (n := xs.length) (e := e) (tl := tl) (w' := w) (M' := cx.M)
      (fun n0 l0 h => by
        have := (holdlen n0 l0 h).1
        exact ⟨by omega, fun _ => htl n0 l0 h⟩)
      rfl rfl rfl (Nat.le_refl _) (fun _ _ _ => rfl) (fun _ _ _ _ => rfl) (fun _ _ h => .inl h) r.mlt r.zm (fun _ _ _ => rfl) (fun g c z ht _ => by
        subst ht
        exact ⟨_, _, _, _, _, htk.2.2.2⟩)
      (fun k b o hk hf => ⟨rfl, rfl, (r.foot k b o hf).2.2⟩) (fun _ _ _ _ _ _ _ _ => rfl)
      (fun g c z ht => by
        subst ht
        obtain ⟨z1, z2, z3, z4⟩ := htk
        obtain ⟨n', e', hs⟩ := r.domt key _ z4
        obtain ⟨tl', ht', hb'⟩ := r.tok _ _ _ hs
        rw [z4] at ht'
        cases ht'
        obtain ⟨b1, b2, b3⟩ := hb'
        refine ⟨b1, b2, b3, fun o ho1 ho2 => ⟨(r.foot key g o (.inr ⟨_, _, c, z, hs, z4, ho1, ho2⟩)).2.2, r.nz key g o (.inr ⟨_, _, c, z, hs, z4, ho1, ho2⟩)⟩, fun k n' e' c' z' hk h => hk (r.rows _ _ _ _ _ _ _ _ _ _ _ h z4), fun k b o h => r.apart _ _ _ _ _ _ _ _ _ h z4⟩)
    obtain ⟨hrel, hext⟩ := hstep
    refine ⟨_, w, _, hrun, ?_, ?_, hext⟩
    · simpa using hrel
    · rw [List.append_nil]
      have hv' := hv.mono hext (RelF.ext.all_true _)
      obtain ⟨a', cap', he, s1, s2, s3, s4, A, s5, s6⟩ := rd_sl_inv hv'
      cases he
      refine .sl A (fun i j => (((xs[i]?).bind (·[j]?)).elim undef (fun d => (w.cell? ⟨A.1, A.2 + i * sz + j, none⟩).getD undef))) s1 s2 s3 s5 (fun i j cs d hi hj => ?_) (fun i j cs d hi hj => ?_) ?_
      · obtain ⟨y, c1, c2, c3⟩ := s6 i j cs d hi hj
        rw [hi]; simp only [Option.bind_some, hj, Option.elim_some]
        rw [c1]; exact ⟨rfl, c2⟩
      · obtain ⟨y, c1, c2, c3⟩ := s6 i j cs d hi hj
        rw [hi]; simp only [Option.bind_some, hj, Option.elim_some]
        rw [c1]; exact c3
      · refine ⟨xs.length, e, tl, if_pos rfl, Nat.le_refl _, fun _ => ?_⟩
        cases tl with
        | none => exact htk
        | some l => obtain ⟨g, c, z⟩ := l; exact ⟨htk.1, htk.2.1, htk.2.2.1⟩
  · -- something is appended
    have hyne : ys ≠ [] := fun h => hm (by rw [h]; rfl)
    obtain ⟨A2, rfl, hc2⟩ := g3 hyne
    have hnews : ∀ (j : Nat) y, fy[j]? = some y → w.cell? ((⟨A2.1, A2.2, none⟩ : Addr).add j) = some y := fun j y h => by rw [addr_add]; exact (hc2 j y h).1
    have hone' := allOne_flat hsz g1 q4 g2 hone
    obtain ⟨z, hz1, hz2⟩ : ∃ z, ie.zero = some z ∧ z.cells.size = sz := by
      unfold tZero at hz
      rw [hie] at hz
      simp only [Option.bind_some, Option.map_eq_some_iff] at hz
      obtain ⟨z, hz1, rfl⟩ := hz
      exact ⟨z, hz1, by simpa using hzl⟩
    by_cases hroom : ∃ g c zz, cx.tk key = some (xs.length, e, some (g, c, zz)) ∧ a = some ⟨g, 0, none⟩ ∧ c = cap ∧ zz = sz ∧ xs.length + ys.length ≤ cap
    · -- in place
      obtain ⟨g, c, zz, htk, rfl, rfl, rfl, hfit⟩ := hroom
      obtain ⟨n', e', hs⟩ := r.domt key _ htk
      obtain ⟨tl', ht', hb'⟩ := r.tok _ _ _ hs
      rw [htk] at ht'
      cases ht'
      obtain ⟨b1, b2, cur, hcur, hcs⟩ := hb'
      have hglt := r.row_lt htk
      have hfull : xs.length * zz + fy.length ≤ cur.size := by rw [g1, hcs, ← Nat.add_mul]; exact Nat.mul_le_mul_right _ hfit
      have hrun := run_append_room (P := E.P) w t ty e ie hu hie g xs.length c cur hcur ⟨A2.1, A2.2, none⟩ ys.length cap2 fy (by rw [g1, k1]) hnews hone' hfit (by rw [k1]; exact hfull)
      rw [k1] at hrun
      generalize hnew : (cur.toList.take (xs.length * zz) ++ fy ++ cur.toList.drop (xs.length * zz + fy.length)).toArray = new at hrun
      have hnsz : new.size = cur.size := by rw [← hnew]; simp; omega
      have hcellg : ∀ o, (w.setRow g new).cell? ⟨g, o, none⟩ = new[o]? := fun o => cell_setRow_same w g o cur new e (0, 0) hcur
      have hcello : ∀ o, w.cell? ⟨g, o, none⟩ = cur[o]? := fun o => by simp [World.cell?, hcur]
      have hlow : ∀ o, o < xs.length * zz → new[o]? = cur[o]? := fun o ho => by
        rw [← hnew, List.getElem?_toArray, List.append_assoc, List.getElem?_append_left (by simp; omega), List.getElem?_take, if_pos ho, Array.getElem?_toList]
      have hmid : ∀ q, q < fy.length → new[xs.length * zz + q]? = fy[q]? := fun q hq => by
        rw [← hnew, List.getElem?_toArray, List.append_assoc, List.getElem?_append_right (by simp; omega), List.getElem?_append_left (by simp; omega)]
        congr 1; simp; omega
      have hfootg : ∀ o, xs.length * zz ≤ o → o < c * zz → cx.M g o := fun o h1 h2 => (r.foot key g o (.inr ⟨_, _, c, zz, hs, htk, h1, h2⟩)).2.2
      have hblkne : ∀ k b o, k ≠ key → Mx.foot cx st k b o → b ≠ g := fun k b o hk hf => by
        rcases hf with ⟨cs, o0, y1, y2, _⟩ | ⟨n0, e0, c0, z0, y1, y2, _⟩
        · exact r.apart _ _ _ _ _ _ _ _ _ y2 htk
        · intro he; subst he; exact hk (r.rows _ _ _ _ _ _ _ _ _ _ _ y2 htk)
      have habs : ∀ o, o < xs.length * zz → ¬ cx.Z g o := fun o ho hz => by
        have hxne : xs ≠ [] := fun h => by rw [h] at ho; simp at ho
        obtain ⟨A, hA, hcA⟩ := f3 hxne
        simp only [Option.some.injEq, Addr.mk.injEq, and_true] at hA
        have := (hcA o _ (List.getElem?_eq_getElem (by omega))).2
        rw [← hA.1, ← hA.2, Nat.zero_add] at this
        exact this (r.zm _ _ hz)
      have hother : ∀ b o, b ≠ g → (w.setRow g new).cell? ⟨b, o, none⟩ = w.cell? ⟨b, o, none⟩ := fun b o h => cell_setRow_other w g new ⟨b, o, none⟩ h
      have hstep := r.tokStep (key := key) hlt hnc (n := xs.length + ys.length) (e := e) (tl := some (g, c, zz)) (w' := w.setRow g new) (M' := fun b o => cx.M b o ∧ ¬ (b = g ∧ o < (xs.length + ys.length) * zz))
        (fun n0 l0 h => by rw [htk] at h; cases h; exact ⟨by omega, fun h => by omega⟩)
        rfl rfl rfl (by simp)
        (fun b hb hm => setRow_other w g b new (fun he => by
          subst he
          have hpos : 0 < ys.length * zz := Nat.mul_pos (by omega) hsz
          have hle : (xs.length + ys.length) * zz ≤ c * zz := Nat.mul_le_mul_right _ hfit
          rw [Nat.add_mul] at hle
          exact hm (xs.length * zz) (hfootg _ (Nat.le_refl _) (by omega))))
        (fun b o hb hm => by
          by_cases he : b = g
          · subst he
            rw [hcellg, hcello]
            rcases Nat.lt_or_ge o (xs.length * zz) with h | h
            · exact hlow o h
            · rcases Nat.lt_or_ge o (c * zz) with h' | h'
              · exact absurd (hm (hfootg o h h')) (r.nz key _ o (.inr ⟨_, _, c, zz, hs, htk, h, h'⟩))
              · rw [Array.getElem?_eq_none (by omega), Array.getElem?_eq_none (by omega)]
          · exact hother b o he)
        (fun b o h => .inl h.1) (fun b o h => by rw [setRow_size]; exact r.mlt b o h.1)
        (fun b o h => ⟨r.zm b o h, fun h2 => by
          obtain ⟨rfl, h2⟩ := h2
          rcases Nat.lt_or_ge o (xs.length * zz) with h3 | h3
          · exact habs o h3 h
          · refine r.nz key _ o (.inr ⟨_, _, c, zz, hs, htk, h3, ?_⟩) h
            have : (xs.length + ys.length) * zz ≤ c * zz := Nat.mul_le_mul_right _ hfit
            omega⟩)
        (fun b o hb => by
          by_cases he : b = g
          · subst he
            simp only [World.frozen?, setRow_heap w b cur new e (0, 0) hcur, hcur]
          · exact World.frozen?_of_block (a := ⟨b, o, none⟩) (setRow_other w g b new he))
        (fun g' c' z' ht _ => by cases ht; exact ⟨_, _, _, _, _, htk⟩)
        (fun k b o hk hf => by
          have hne := hblkne k b o hk hf
          refine ⟨hother b o hne, ?_, (r.foot k b o hf).2.2, fun h => hne h.1⟩
          exact World.frozen?_of_block (a := ⟨b, o, none⟩) (setRow_other w g b new hne))
        (fun k n' e' g' c' z' hk h => setRow_other w g g' new (fun he => by subst he; exact hk (r.rows _ _ _ _ _ _ _ _ _ _ _ h htk)))
        (fun g' c' z' ht => by
          cases ht
          refine ⟨hfit, b2, ⟨new, setRow_heap w g cur new e (0, 0) hcur, by rw [hnsz, hcs]⟩, fun o h1 h2 => ⟨⟨hfootg o (by have : xs.length * zz ≤ (xs.length + ys.length) * zz := Nat.mul_le_mul_right _ (by omega); omega) h2, fun h => by omega⟩, r.nz key _ o (.inr ⟨_, _, c, zz, hs, htk, by have : xs.length * zz ≤ (xs.length + ys.length) * zz := Nat.mul_le_mul_right _ (by omega); omega, h2⟩)⟩,
            fun k n' e' c' z' hk h => hk (r.rows _ _ _ _ _ _ _ _ _ _ _ h htk), fun k b o h => r.apart _ _ _ _ _ _ _ _ _ h htk⟩)
      obtain ⟨hrel, hext⟩ := hstep
      refine ⟨_, _, _, hrun, hrel, ?_, hext⟩
      have hlen : (xs ++ ys).length = xs.length + ys.length := by simp
      refine rd_sl_mk' hlen (g, 0) (fx ++ fy) hfit p2 hsall (fun _ => rfl) (fun q y hq => ?_) (hall _ _ fun d x h => h.mono hext (RelF.ext.all_true _)) ?_
      · rw [Nat.zero_add, hcellg]
        have hqlt : q < (fx ++ fy).length := (List.getElem?_eq_some_iff.1 hq).1
        rw [List.length_append, f1, g1, ← Nat.add_mul] at hqlt
        refine ⟨?_, fun h => h.2 ⟨rfl, hqlt⟩⟩
        rcases append_get hq with ⟨l1, l2⟩ | ⟨l1, l2⟩
        · rw [hlow q (by omega), ← hcello]
          have hxne : xs ≠ [] := fun h => by rw [h] at f1; simp at f1; subst f1; simp at l1
          obtain ⟨A, hA, hcA⟩ := f3 hxne
          simp only [Option.some.injEq, Addr.mk.injEq, and_true] at hA
          have := (hcA q y l2).1
          rwa [← hA.1, ← hA.2, Nat.zero_add] at this
        · have := hmid (q - fx.length) (List.getElem?_eq_some_iff.1 l2).1
          rw [show xs.length * zz + (q - fx.length) = q by omega] at this
          rw [this]; exact l2
      · refine ⟨_, e, some (g, c, zz), if_pos rfl, Nat.le_refl _, fun _ => ⟨rfl, rfl, rfl⟩⟩
    · -- a new row
      have hnr : cap < xs.length + ys.length ∧ (a = none → xs.length = 0 ∧ cap = 0) := by
        refine ⟨?_, fun ha => ?_⟩
        · rcases Nat.lt_or_ge cap (xs.length + ys.length) with h | h
          · exact h
          · refine absurd ?_ hroom
            cases tok with
            | ro => exact hg.elim
            | full => have : cap = xs.length := p3; omega
            | own k =>
              obtain ⟨rfl, hs⟩ := hg
              obtain ⟨n0, e0, tl, ht, hle, hx⟩ := p3
              obtain ⟨tl', ht', _⟩ := r.tok _ _ _ hs
              rw [ht] at ht'
              cases ht'
              have := hx rfl
              cases tl with
              | none => have : cap = xs.length := this; omega
              | some l => obtain ⟨g, c, z⟩ := l; exact ⟨g, c, z, ht, this.1, this.2.1, this.2.2, h⟩
        · have hx0 : xs.length = 0 := by
            rcases Nat.eq_zero_or_pos xs.length with h | h
            · exact h
            · obtain ⟨A, hA, _⟩ := f3 (List.length_pos_iff.1 h)
              rw [ha] at hA; cases hA
          refine ⟨hx0, ?_⟩
          cases tok with
          | ro => exact hg.elim
          | full => have : cap = xs.length := p3; omega
          | own k =>
            obtain ⟨rfl, hs⟩ := hg
            obtain ⟨n0, e0, tl, ht, hle, hx⟩ := p3
            obtain ⟨tl', ht', _⟩ := r.tok _ _ _ hs
            rw [ht] at ht'
            cases ht'
            have := hx rfl
            cases tl with
            | none => have : cap = xs.length := this; omega
            | some l => obtain ⟨g, c, z⟩ := l; rw [ha] at this; exact absurd this.1 (by simp)
      generalize hcap' : grownCap w (xs.length + ys.length) cap e = cap'
      have hge : xs.length + ys.length ≤ cap' := by rw [← hcap']; exact grownCap_ge w _ _ e
      have hml : cap' ≤ maxLen := by rw [← hcap']; exact grownCap_le_maxLen w _ _ e (by unfold maxLen; omega)
      generalize hnew : (fx.toArray ++ fy.toArray ++ Builtin.zeroCells z.cells (cap' - (xs.length + ys.length))) = new
      have hnsz : new.size = cap' * sz := by
        rw [← hnew]
        simp only [Array.size_append, List.size_toArray, size_zeroCells, hz2, f1, g1, ← Nat.add_mul]
        congr 1; omega
      have hrun : (Builtin.append_ #[t, t] ty #[.slice a xs.length cap, .slice (some ⟨A2.1, A2.2, none⟩) ys.length cap2]).run E.P w = .ok (.slice (some ⟨w.heap.size, 0, none⟩) (xs.length + ys.length) cap') (w.drew.alloc (.cells new e (0, 0))) := by
        cases a with
        | none =>
          obtain ⟨hx0, hc0⟩ := hnr.2 rfl
          have hfx : fx = [] := List.eq_nil_of_length_eq_zero (by rw [f1, hx0]; simp)
          have := run_append_nil (P := E.P) w t ty e ie z hu hie hz1 ⟨A2.1, A2.2, none⟩ ys.length cap2 fy (by rw [g1, k1]) hnews (by omega) (by omega) (by rw [hx0] at hb1; simp at hb1; rw [k2]; omega)
          subst hfx
          subst hc0
          rw [hx0] at hcap' hnew ⊢
          simp only [Nat.zero_add] at hcap' hnew ⊢
          rw [this, hcap', ← hnew]
          simp
        | some ad =>
          have holds : ∀ (j : Nat) y, fx[j]? = some y → w.cell? (ad.add j) = some y := fun j y h => by
            have hxne : xs ≠ [] := fun h' => by rw [h'] at f1; simp at f1; subst f1; simp at h
            obtain ⟨A, hA, hcA⟩ := f3 hxne
            cases hA
            rw [addr_add]; exact (hcA j y h).1
          have := run_append_grow (P := E.P) w t ty e ie z hu hie hz1 ad xs.length cap fx (by rw [f1, k1]) holds ⟨A2.1, A2.2, none⟩ ys.length cap2 fy (by rw [g1, k1]) hnews hnr.1 (by omega) (growslice_fits hnr.1 (by rw [k2]; exact hb1))
          rw [this, hcap', hnew]
      have hcelln : ∀ o, (w.drew.alloc (.cells new e (0, 0))).cell? ⟨w.heap.size, o, none⟩ = new[o]? := fun o => by
        have : (w.drew.alloc (.cells new e (0, 0))).heap[w.heap.size]? = some (.cells new e (0, 0)) := heap_alloc_new w.drew _
        unfold World.cell?
        rw [this]; rfl
      have hcello : ∀ b o, b < w.heap.size → (w.drew.alloc (.cells new e (0, 0))).cell? ⟨b, o, none⟩ = w.cell? ⟨b, o, none⟩ := fun b o h => cell_old (w := w.drew) h
      have hheap : ∀ b, b < w.heap.size → (w.drew.alloc (.cells new e (0, 0))).heap[b]? = w.heap[b]? := fun b h => heap_old (w := w.drew) h
      have hstep := r.tokStep (key := key) hlt hnc (n := xs.length + ys.length) (e := e) (tl := some (w.heap.size, cap', sz)) (w' := w.drew.alloc (.cells new e (0, 0)))
        (M' := fun b o => cx.M b o ∨ (b = w.heap.size ∧ (xs.length + ys.length) * sz ≤ o ∧ o < cap' * sz))
        (fun n0 l0 h => by
          have := (holdlen n0 l0 h).1
          exact ⟨by omega, fun h => by omega⟩)
        rfl rfl rfl (by show w.heap.size ≤ (w.heap.push _).size; simp)
        (fun b hb _ => hheap b hb) (fun b o hb _ => hcello b o hb)
        (fun b o h => by
          rcases h with h | h
          · exact .inl h
          · exact .inr (by omega))
        (fun b o h => by
          show b < (w.heap.push _).size
          simp only [Array.size_push]
          rcases h with h | h
          · have := r.mlt b o h; omega
          · omega)
        (fun b o h => .inl (r.zm b o h)) (fun b o hb => World.frozen?_of_block (a := ⟨b, o, none⟩) (hheap b hb)) (fun g' c' z' ht hlt => by cases ht; omega)
        (fun k b o hk hf => by
          have hb := not_foot_new r hf
          exact ⟨hcello b o hb, World.frozen?_of_block (a := ⟨b, o, none⟩) (hheap b hb), .inl (r.foot k b o hf).2.2⟩)
        (fun k n' e' g' c' z' hk h => hheap _ (r.row_lt h))
        (fun g' c' z' ht => by
          cases ht
          refine ⟨hge, hml, ⟨new, heap_alloc_new w.drew _, hnsz⟩, fun o h1 h2 => ⟨.inr ⟨rfl, h1, h2⟩, fun h => by have := r.mlt _ _ (r.zm _ _ h); omega⟩, fun k n' e' c' z' hk h => ?_, fun k b o h he => ?_⟩
          · have := r.row_lt h; omega
          · have := r.bxlt k b o h; omega)
      obtain ⟨hrel, hext⟩ := hstep
      refine ⟨_, _, _, hrun, hrel, ?_, hext⟩
      have hlen : (xs ++ ys).length = xs.length + ys.length := by simp
      refine rd_sl_mk' hlen (w.heap.size, 0) (fx ++ fy) hge hml hsall (fun _ => rfl) (fun q y hq => ?_) (hall _ _ fun d x h => h.mono hext (RelF.ext.all_true _)) ?_
      · rw [Nat.zero_add, hcelln]
        have hqlt : q < (fx ++ fy).length := (List.getElem?_eq_some_iff.1 hq).1
        refine ⟨?_, fun h => ?_⟩
        · rw [← hnew, Array.getElem?_append_left (by simpa using hqlt)]
          rw [List.append_toArray, List.getElem?_toArray]; exact hq
        · rw [List.length_append, f1, g1, ← Nat.add_mul] at hqlt
          rcases h with h | h
          · have := r.mlt _ _ h; omega
          · omega
      · exact ⟨_, e, some (w.heap.size, cap', sz), if_pos rfl, Nat.le_refl _, fun _ => ⟨rfl, rfl, rfl⟩⟩
end Go.Mx
