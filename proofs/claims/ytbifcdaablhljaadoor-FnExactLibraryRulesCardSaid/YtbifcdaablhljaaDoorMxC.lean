/- Loads and addresses of fields, for the abstract state. No condition. -/
import Derived.Test.YtbifcdaablhljaaDoorMxB
import Derived.Laws.IdiomCopy
namespace Go.Mx
set_option linter.unusedVariables false
theorem run_loadVar_cell {P : Program} {t : TypeId} {n b : Nat} {s : Shp} (h : tShape P t = some (n, b, s)) (hs : s.agg = false) {w : World} {a : Addr} {x : Value} (hc : w.cell? a = some x) :
    (loadVar t a).run P w = .ok x w := by
  unfold loadVar
  rw [Sem.run_bind, run_isAgg_shape h, hs]
  simp only [Result.andThen_ok, Bool.false_eq_true, if_false, run_load, hc]
theorem run_loadVar_agg {P : Program} {t : TypeId} {n b : Nat} {s : Shp} (h : tShape P t = some (n, b, s)) (hs : s.agg = true) {w : World} {a : Addr} {vs : List Value} (hl : vs.length = n)
    (hc : ∀ j v, vs[j]? = some v → w.cell? (a.add j) = some v) : (loadVar t a).run P w = .ok (.agg vs.toArray) w := by
  unfold loadVar
  rw [Sem.run_bind, run_isAgg_shape h, hs]
  simp only [Result.andThen_ok, if_true, Sem.run_bind, run_sizeOf_shape h]
  rw [← hl, run_loadCells_list w a vs hc]; rfl
theorem pick_list {p : Nat → Value → Prop} : ∀ {ds : List D} {q : D → Value → Prop}, (∀ (j : Nat) d, ds[j]? = some d → ∃ x, p j x ∧ q d x) →
    ∃ vs : List Value, vs.length = ds.length ∧ ∀ (j : Nat) d x, ds[j]? = some d → vs[j]? = some x → p j x ∧ q d x := by
  intro ds
  induction ds generalizing p with
  | nil => intro q _; exact ⟨[], rfl, by simp⟩
  | cons d r ih =>
    intro q h
    obtain ⟨x, hx⟩ := h 0 d rfl
    obtain ⟨vs, h1, h2⟩ := ih (p := fun j => p (j + 1)) (q := q) (fun j e hj => h (j + 1) e (by simpa using hj))
    refine ⟨x :: vs, by simp [h1], fun j e y hj hy => ?_⟩
    cases j with
    | zero => simp at hj hy; subst hj; subst hy; exact hx
    | succ j => exact h2 j e y (by simpa using hj) (by simpa using hy)
theorem addr_add (b o j : Nat) : (⟨b, o, none⟩ : Addr).add j = ⟨b, o + j, none⟩ := by unfold Addr.add; split <;> simp_all
theorem len_get {α β : Type} {xs : List α} {ys : List β} (h : xs.length = ys.length) {j : Nat} {y : β} (hy : ys[j]? = some y) : ∃ x, xs[j]? = some x := by
  have hlt : j < ys.length := (List.getElem?_eq_some_iff.1 hy).1
  exact ⟨xs[j], List.getElem?_eq_getElem (by omega)⟩
section
variable {E : Setting} {U : Fun} {F : D → St → Prop} {k : List KI} {ρ : Env} {st : St} {all : Array Oper} {rest : List Oper}
variable {t : Nat} {ty : TypeId} {pos : String} {af : Array Edge} {nn bb : Nat} {ss : Shp} {H : Key → Bool}
theorem RelF.ptr {N : Nat} {cx : Cx} {a : Act} {w : World} (hr : RelF E N cx ρ st a w) {x : Operand} {key : Key} {off : Nat} (h : ev E ρ x = .bx key off) :
    ∃ b o, cx.bx key = some (b, o) ∧ a.eval x = .pointer (some ⟨b, o + off, none⟩) := by
  have := hr.eval x; rw [h] at this
  generalize a.eval x = v at this
  cases this with
  | bx hb => exact ⟨_, _, hb, rfl⟩
/-- A load of one cell out of a variable. -/
theorem L.load {ty' : TypeId} {x : Operand} {key : Key} {off : Nat} {cs : List D} {d : D} (hT : tShape E.P ty' = some (nn, bb, ss)) (ha : ss.agg = false)
    (hx : ev E ρ x = .bx key off) (hH : H key = true) (hs : st.get key = some (.cells cs)) (hd : cs[off]? = some d) : LOk E U ρ st H ⟨some t, .load ty' x, ty, pos, af, none⟩ d :=
  (fun cx a w hr => by
    obtain ⟨b, o, hb, he⟩ := hr.ptr hx
    obtain ⟨_, b', o', hb', hc⟩ := hr.rel.cells key cs hs
    rw [hb] at hb'; cases hb'
    obtain ⟨y, hy, hrd⟩ := hc off d hd
    refine ⟨y, hrd, fun w' hw => ?_⟩
    have hy' : w'.cell? ⟨b, o + off, none⟩ = some y := (hw _ _ (cell_lt hy) (.inr ⟨key, hH, .inl ⟨cs, o, hs, hb, by omega, by have := (List.getElem?_eq_some_iff.1 hd).1; omega⟩⟩)).trans hy
    simp only [execOp, he, Instr.loadAt, Instr.sureAddr, Sem.run_bind, Sem.run_pure, Result.andThen_ok, run_loadVar_cell hT ha hy'])
/-- A load of a struct out of a variable. -/
theorem L.loadS {ty' : TypeId} {x : Operand} {key : Key} {off : Nat} {cs ds : List D} (hT : tShape E.P ty' = some (nn, bb, ss)) (ha : ss.agg = true)
    (hx : ev E ρ x = .bx key off) (hH : H key = true) (hs : st.get key = some (.cells cs)) (hd : (cs.drop off).take nn = ds) (hl : ds.length = nn) : LOk E U ρ st H ⟨some t, .load ty' x, ty, pos, af, none⟩ (.agg ds) :=
  (fun cx a w hr => by
    obtain ⟨b, o, hb, he⟩ := hr.ptr hx
    obtain ⟨_, b', o', hb', hc⟩ := hr.rel.cells key cs hs
    rw [hb] at hb'; cases hb'
    have hds : ∀ (j : Nat) d, ds[j]? = some d → cs[off + j]? = some d := fun j d hj => by
      subst hd
      rw [List.getElem?_take] at hj
      split at hj
      · rwa [List.getElem?_drop] at hj
      · cases hj
    obtain ⟨vs, h1, h2⟩ := pick_list (p := fun j y => w.cell? ⟨b, o + off + j, none⟩ = some y) (q := Rd cx w) (ds := ds) (fun j d hj => by
      obtain ⟨y, hy, hrd⟩ := hc (off + j) d (hds j d hj)
      exact ⟨y, by rw [Nat.add_assoc]; exact hy, hrd⟩)
    refine ⟨.agg vs.toArray, .agg h1.symm (fun j d y hj hy => (h2 j d y hj hy).2), fun w' hw => ?_⟩
    simp only [execOp, he, Instr.loadAt, Instr.sureAddr, Sem.run_bind, Sem.run_pure, Result.andThen_ok]
    rw [run_loadVar_agg hT ha (vs := vs) (by omega) (fun j v hv => by
      obtain ⟨d, hd'⟩ := len_get h1.symm hv
      have := (List.getElem?_eq_some_iff.1 (hds j d hd')).1
      rw [addr_add]
      exact (hw _ _ (cell_lt (h2 j d v hd' hv).1) (.inr ⟨key, hH, .inl ⟨cs, o, hs, hb, by omega, by omega⟩⟩)).trans (h2 j d v hd' hv).1)]; rfl)
theorem RelF.roInv {N : Nat} {cx : Cx} {a : Act} {w : World} (hr : RelF E N cx ρ st a w) {x : Operand} {cells : List D} (h : ev E ρ x = .ro cells) :
    ∃ b o, a.eval x = .pointer (some ⟨b, o, none⟩) ∧ ∀ (j : Nat) d, cells[j]? = some d → ∃ y, w.cell? ⟨b, o + j, none⟩ = some y ∧ ¬ cx.M b (o + j) ∧ Rd cx w d y := by
  have := hr.eval x; rw [h] at this
  generalize a.eval x = v at this
  cases this with
  | ro b o vs hc hrd => exact ⟨b, o, rfl, fun j d hj => ⟨vs j, (hc j d hj).1, (hc j d hj).2, hrd j d hj⟩⟩
theorem L.loadR {ty' : TypeId} {x : Operand} {cs : List D} {d : D} (hT : tShape E.P ty' = some (nn, bb, ss)) (ha : ss.agg = false)
    (hx : ev E ρ x = .ro cs) (hd : cs[0]? = some d) : LOk E U ρ st H ⟨some t, .load ty' x, ty, pos, af, none⟩ d :=
  (fun cx a w hr => by
    obtain ⟨b, o, he, hc⟩ := hr.roInv hx
    obtain ⟨y, hy, hm, hrd⟩ := hc 0 d hd
    refine ⟨y, hrd, fun w' hw => ?_⟩
    have hy' : w'.cell? ⟨b, o, none⟩ = some y := (hw _ _ (cell_lt hy) (.inl hm)).trans hy
    simp only [execOp, he, Instr.loadAt, Instr.sureAddr, Sem.run_bind, Sem.run_pure, Result.andThen_ok, run_loadVar_cell hT ha hy'])
theorem L.loadRS {ty' : TypeId} {x : Operand} {cs ds : List D} (hT : tShape E.P ty' = some (nn, bb, ss)) (ha : ss.agg = true)
    (hx : ev E ρ x = .ro cs) (hd : cs.take nn = ds) (hl : ds.length = nn) : LOk E U ρ st H ⟨some t, .load ty' x, ty, pos, af, none⟩ (.agg ds) :=
  (fun cx a w hr => by
    obtain ⟨b, o, he, hc⟩ := hr.roInv hx
    have hds : ∀ (j : Nat) d, ds[j]? = some d → cs[j]? = some d := fun j d hj => by
      subst hd
      rw [List.getElem?_take] at hj
      split at hj
      · exact hj
      · cases hj
    obtain ⟨vs, h1, h2⟩ := pick_list (p := fun j y => w.cell? ⟨b, o + j, none⟩ = some y ∧ ¬ cx.M b (o + j)) (q := Rd cx w) (ds := ds) (fun j d hj => by
      obtain ⟨y, hy, hm, hrd⟩ := hc j d (hds j d hj)
      exact ⟨y, ⟨hy, hm⟩, hrd⟩)
    refine ⟨.agg vs.toArray, .agg h1.symm (fun j d y hj hy => (h2 j d y hj hy).2), fun w' hw => ?_⟩
    simp only [execOp, he, Instr.loadAt, Instr.sureAddr, Sem.run_bind, Sem.run_pure, Result.andThen_ok]
    rw [run_loadVar_agg hT ha (vs := vs) (by omega) (fun j v hv => by
      obtain ⟨d, hd'⟩ := len_get h1.symm hv
      rw [addr_add]
      exact (hw _ _ (cell_lt (h2 j d v hd' hv).1.1) (.inl (h2 j d v hd' hv).1.2)).trans (h2 j d v hd' hv).1.1)]; rfl)
/-- The address of a field. -/
theorem run_fieldAt {P : Program} {s : TypeId} {n b : Nat} {fs : List (Nat × Nat)} (h : tShape P s = some (n, b, .struct fs)) {f fo fz : Nat} (hf : fs[f]? = some (fo, fz)) (hz : fz ≠ 0) (w : World) (bl o : Nat) :
    (Instr.fieldAt s (.pointer (some ⟨bl, o, none⟩)) f).run P w = .ok (.pointer (some ⟨bl, o + fo, none⟩)) w := by
  obtain ⟨i, u, hi, hu, h1, h2, h3⟩ := tShape_parts h
  cases u <;> simp only [shpOf, Shp.struct.injEq, reduceCtorEq] at h3
  rename_i fields
  subst h3
  rw [List.getElem?_map, Option.map_eq_some_iff] at hf
  obtain ⟨fd, hfd, he⟩ := hf
  simp only [Prod.mk.injEq] at he
  obtain ⟨rfl, hc⟩ := he
  have hfd' : fields[f]? = some fd := by simpa using hfd
  unfold Instr.fieldAt
  rw [Sem.run_bind, run_underlying hu]
  simp only [Result.andThen_ok, hfd', Instr.sureAddr, Sem.run_bind, Sem.run_pure, fieldPlace]
  have hsz : (sizeOf fd.type).run P w = .ok fz w := by
    unfold sizeOf Program.cellsOf at *
    cases hi' : P.info? fd.type with
    | none => simp [hi'] at hc; omega
    | some j => simp only [hi', Option.map_some, Option.getD_some] at hc; rw [Sem.run_bind, run_typeInfo w hi']; simp [hc]
  rw [hsz]
  simp only [Result.andThen_ok, if_neg hz, Sem.run_pure, addr_add]
theorem P.fieldAddr {s : TypeId} {x : Operand} {f fo fz : Nat} {key : Key} {off : Nat} {fs : List (Nat × Nat)} (hT : tShape E.P s = some (nn, bb, .struct fs)) (hf : fs[f]? = some (fo, fz)) (hz : fz ≠ 0)
    (hx : ev E ρ x = .bx key off) : POk E U ρ st ⟨some t, .fieldAddr s x f, ty, pos, af, none⟩ (.bx key (off + fo)) :=
  (fun cx a w hr => by
    obtain ⟨b, o, hb, he⟩ := hr.ptr hx
    refine ⟨.pointer (some ⟨b, o + (off + fo), none⟩), fun w' => ?_, .bx hb⟩
    simp only [execOp, he, Sem.run_bind, run_fieldAt hT hf hz, Result.andThen_ok, Sem.run_pure, Nat.add_assoc])
theorem P.fieldAddrR {s : TypeId} {x : Operand} {f fo fz : Nat} {cs ds : List D} {fs : List (Nat × Nat)} (hT : tShape E.P s = some (nn, bb, .struct fs)) (hf : fs[f]? = some (fo, fz)) (hz : fz ≠ 0)
    (hx : ev E ρ x = .ro cs) (hd : cs.drop fo = ds) : POk E U ρ st ⟨some t, .fieldAddr s x f, ty, pos, af, none⟩ (.ro ds) :=
  (fun cx a w hr => by
    obtain ⟨b, o, he, hc⟩ := hr.roInv hx
    subst hd
    obtain ⟨vs, h1, h2⟩ := pick_list (p := fun j y => w.cell? ⟨b, o + j, none⟩ = some y ∧ ¬ cx.M b (o + j)) (q := Rd cx w) (ds := cs) (fun j d hj => by
      obtain ⟨y, hy, hm, hrd⟩ := hc j d hj
      exact ⟨y, ⟨hy, hm⟩, hrd⟩)
    refine ⟨.pointer (some ⟨b, o + fo, none⟩), fun w' => ?_, .ro b (o + fo) (fun j => vs.getD (fo + j) undef) (fun j d hj => ?_) (fun j d hj => ?_)⟩
    · simp only [execOp, he, Sem.run_bind, run_fieldAt hT hf hz, Result.andThen_ok, Sem.run_pure]
    · rw [List.getElem?_drop] at hj
      obtain ⟨y, hy⟩ := len_get h1 hj
      have := (h2 _ d y hj hy).1
      rw [Nat.add_assoc, List.getD_eq_getElem?_getD, hy]
      exact this
    · rw [List.getElem?_drop] at hj
      obtain ⟨y, hy⟩ := len_get h1 hj
      rw [List.getD_eq_getElem?_getD, hy]
      exact (h2 _ d y hj hy).2)
end
end Go.Mx
