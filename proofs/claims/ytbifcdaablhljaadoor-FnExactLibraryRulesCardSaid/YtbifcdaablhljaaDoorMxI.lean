/- Slices out of their cells. No condition. -/
import Derived.Test.YtbifcdaablhljaaDoorMxH
namespace Go.Mx
set_option linter.unusedVariables false
set_option linter.unusedSimpArgs false
theorem allOne_flat {cx : Cx} {w : World} {sz : Nat} {ys : List (List D)} {fl : List Value} (hsz : 0 < sz) (hl : fl.length = ys.length * sz) (hs : ∀ (i : Nat) cs, ys[i]? = some cs → cs.length = sz)
    (h : ∀ (i j : Nat) cs d, ys[i]? = some cs → cs[j]? = some d → ∃ y, fl[i * sz + j]? = some y ∧ Rd cx w d y) (h1 : ∀ cs ∈ ys, allB D.one cs = true) : ∀ u ∈ fl, u.oneCell' = true := fun u hu => by
  obtain ⟨q, hq, rfl⟩ := List.getElem_of_mem hu
  have hlt : q / sz < ys.length := (Nat.div_lt_iff_lt_mul hsz).2 (by omega)
  have hm : q % sz < sz := Nat.mod_lt _ hsz
  have e1 : ys[q / sz]? = some ys[q / sz] := List.getElem?_eq_getElem hlt
  have e2 := hs _ _ e1
  have e3 : ys[q / sz][q % sz]? = some ys[q / sz][q % sz] := List.getElem?_eq_getElem (by omega)
  obtain ⟨y, hy, hr⟩ := h _ _ _ _ e1 e3
  have e4 : q / sz * sz + q % sz = q := by rw [Nat.mul_comm]; exact Nat.div_add_mod q sz
  rw [e4, List.getElem?_eq_getElem hq] at hy
  cases hy
  exact hr.oneCell (allB_get (h1 _ (List.getElem_mem hlt)) e3)
/-- A slice out of its cells. -/
theorem rd_sl_mk {cx : Cx} {w : World} {sz : Nat} {tok : Tok} {zs : List (List D)} {a : Option Addr} {cap : Nat} (A : Nat × Nat) (fl : List Value) (hcap : zs.length ≤ cap) (hcm : cap ≤ maxLen) (hs : ∀ (i : Nat) cs, zs[i]? = some cs → cs.length = sz)
    (ha : zs ≠ [] → a = some ⟨A.1, A.2, none⟩) (hc : ∀ (q : Nat) y, fl[q]? = some y → w.cell? ⟨A.1, A.2 + q, none⟩ = some y ∧ ¬ cx.M A.1 (A.2 + q))
    (h : ∀ (i j : Nat) cs d, zs[i]? = some cs → cs[j]? = some d → ∃ y, fl[i * sz + j]? = some y ∧ Rd cx w d y) (ht : TokOk cx a zs.length cap sz tok) : Rd cx w (.sl sz tok zs) (.slice a zs.length cap) := by
  refine .sl A (fun i j => (fl[i * sz + j]?).getD undef) hcap hcm hs ha (fun i j cs d hi hj => ?_) (fun i j cs d hi hj => ?_) ht
  · obtain ⟨y, hy, _⟩ := h i j cs d hi hj
    have := hc _ y hy
    rw [hy, Nat.add_assoc]; exact this
  · obtain ⟨y, hy, hr⟩ := h i j cs d hi hj
    rw [hy]; exact hr
theorem rd_sl_mk' {cx : Cx} {w : World} {sz : Nat} {tok : Tok} {zs : List (List D)} {a : Option Addr} {cap n : Nat} (hn : zs.length = n) (A : Nat × Nat) (fl : List Value) (hcap : n ≤ cap) (hcm : cap ≤ maxLen) (hs : ∀ (i : Nat) cs, zs[i]? = some cs → cs.length = sz)
    (ha : zs ≠ [] → a = some ⟨A.1, A.2, none⟩) (hc : ∀ (q : Nat) y, fl[q]? = some y → w.cell? ⟨A.1, A.2 + q, none⟩ = some y ∧ ¬ cx.M A.1 (A.2 + q))
    (h : ∀ (i j : Nat) cs d, zs[i]? = some cs → cs[j]? = some d → ∃ y, fl[i * sz + j]? = some y ∧ Rd cx w d y) (ht : TokOk cx a n cap sz tok) : Rd cx w (.sl sz tok zs) (.slice a n cap) := by
  subst hn; exact rd_sl_mk A fl hcap hcm hs ha hc h ht
theorem append_get {α : Type} {xs ys : List α} {i : Nat} {c : α} (h : (xs ++ ys)[i]? = some c) : (i < xs.length ∧ xs[i]? = some c) ∨ (xs.length ≤ i ∧ ys[i - xs.length]? = some c) := by
  by_cases hi : i < xs.length
  · rw [List.getElem?_append_left hi] at h; exact .inl ⟨hi, h⟩
  · rw [List.getElem?_append_right (by omega)] at h; exact .inr ⟨by omega, h⟩
/-- The cells of two slices, one behind the other. -/
theorem flat_append {cx : Cx} {w : World} {sz : Nat} {xs ys : List (List D)} {fx fy : List Value} (hx : fx.length = xs.length * sz) (hsx : ∀ (i : Nat) cs, xs[i]? = some cs → cs.length = sz)
    (gx : ∀ (i j : Nat) cs d, xs[i]? = some cs → cs[j]? = some d → ∃ y, fx[i * sz + j]? = some y ∧ Rd cx w d y)
    (gy : ∀ (i j : Nat) cs d, ys[i]? = some cs → cs[j]? = some d → ∃ y, fy[i * sz + j]? = some y ∧ Rd cx w d y) :
    ∀ (i j : Nat) cs d, (xs ++ ys)[i]? = some cs → cs[j]? = some d → ∃ y, (fx ++ fy)[i * sz + j]? = some y ∧ Rd cx w d y := fun i j cs d hi hj => by
  rcases append_get hi with ⟨h1, h2⟩ | ⟨h1, h2⟩
  · obtain ⟨y, hy, hr⟩ := gx i j cs d h2 hj
    exact ⟨y, by rw [List.getElem?_append_left (List.getElem?_eq_some_iff.1 hy).1]; exact hy, hr⟩
  · obtain ⟨y, hy, hr⟩ := gy _ j cs d h2 hj
    have e : i * sz + j - fx.length = (i - xs.length) * sz + j := by
      rw [hx, Nat.sub_mul]
      have : xs.length * sz ≤ i * sz := Nat.mul_le_mul_right _ h1
      omega
    refine ⟨y, ?_, hr⟩
    rw [List.getElem?_append_right (by rw [hx]; have : xs.length * sz ≤ i * sz := Nat.mul_le_mul_right _ h1; omega), e]; exact hy
theorem run_append_empty {P : Program} {t e ty : TypeId} {n b : Nat} (hT : tShape P t = some (n, b, .slice e)) {ne be : Nat} {se : Shp} (hE : tShape P e = some (ne, be, se)) (a : Option Addr) (len cap : Nat) (hc : len ≤ cap) (a2 : Option Addr) (c2 : Nat) (w : World) :
    (Builtin.append_ #[t, t] ty #[.slice a len cap, .slice a2 0 c2]).run P w = .ok (.slice a len cap) w := by
  obtain ⟨i, u, hi, hu, h1, h2, h3⟩ := tShape_parts hT
  cases u <;> simp only [shpOf, Shp.slice.injEq, reduceCtorEq] at h3
  subst h3
  have hf : (Builtin.firstCells ne 0 (.slice a2 0 c2)).run P w = .ok #[] w := by
    cases a2 with
    | none => rfl
    | some x => exact run_firstCells_some (P := P) w ne 0 x 0 c2 [] (by simp) (by simp)
  have hz := run_sizeOf_shape hE w
  simp only [Builtin.append_, Sem.run_bind, run_underlying hu, Result.andThen_ok, hz, Builtin.lenOf, Sem.run_pure]
  simp only [List.getElem?_toArray, List.getElem?_cons_succ, List.getElem?_cons_zero, Sem.run_bind, run_underlying hu, Result.andThen_ok, hz, Sem.run_pure, Bool.false_eq_true, if_false, Nat.add_zero, hc, if_true, Bool.not_false, hf]
  cases a <;> simp [storeCells]
end Go.Mx
