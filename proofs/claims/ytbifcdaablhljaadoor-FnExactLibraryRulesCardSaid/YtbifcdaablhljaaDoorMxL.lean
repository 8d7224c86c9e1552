/- Structs and slices written out, for the abstract state. No condition. -/
import Derived.Test.YtbifcdaablhljaaDoorMxK
namespace Go.Mx
set_option linter.unusedVariables false
set_option linter.unusedSimpArgs false
def plS (fs : List (Nat × Nat)) : Nat → Option (Nat × Nat) := fun i => fs[i]?
def plE (sz : Nat) : Nat → Option (Nat × Nat) := fun i => some (i * sz, sz)
theorem run_sizeOf_cells {P : Program} {t : TypeId} {z : Nat} (h : P.cellsOf t = z) (hz : z ≠ 0) (w : World) : (sizeOf t).run P w = .ok z w := by
  unfold Program.cellsOf at h
  unfold sizeOf
  cases hi : P.info? t with
  | none => rw [hi] at h; simp at h; omega
  | some j => rw [hi] at h; simp only [Option.map_some, Option.getD_some] at h; rw [Sem.run_bind, run_typeInfo w hi]; simp [h]
theorem run_places {P : Program} (w : World) : ∀ (l : List Field), (∀ f ∈ l, P.cellsOf f.type ≠ 0) →
    (l.mapM (m := Sem) fun f => do pure (f.offset, ← sizeOf f.type)).run P w = .ok (l.map fun f => (f.offset, P.cellsOf f.type)) w
  | [], _ => rfl
  | f :: r, h => by
    rw [List.mapM_cons]
    simp only [Sem.run_bind, run_sizeOf_cells rfl (h f (by simp)), Result.andThen_ok, Sem.run_pure, run_places w r (fun g hg => h g (by simp [hg]))]
    rfl
section
variable {E : Setting} {U : Fun} {F : D → St → Prop} {k : List KI} {ρ : Env} {fr : Fr} {st : St} {all : Array Oper} {rest : List Oper}
variable {t : Nat} {ty : TypeId} {pos : String} {af : Array Edge} {nn bb : Nat} {ss : Shp}
theorem parts_rd {N : Nat} {cx : Cx} {a : Act} {w : World} (hr : RelF E N cx ρ st a w) {parts : Array (Nat × Operand)} :
    (parts.toList.map fun p => (p.1, ev E ρ p.2)).length = ((parts.map fun (i, x) => (i, a.eval x)).toList).length ∧
    ∀ (j : Nat) p q, (parts.toList.map fun p => (p.1, ev E ρ p.2))[j]? = some p → (parts.map fun (i, x) => (i, a.eval x)).toList[j]? = some q → p.1 = q.1 ∧ Rd cx w p.2 q.2 := by
  refine ⟨by simp, fun j p q hp hq => ?_⟩
  rw [Array.toList_map, List.getElem?_map, Option.map_eq_some_iff] at hq
  rw [List.getElem?_map, Option.map_eq_some_iff] at hp
  obtain ⟨x, hx, rfl⟩ := hp
  obtain ⟨y, hy, rfl⟩ := hq
  rw [hx] at hy; cases hy
  exact ⟨rfl, hr.eval _⟩
def allP : List (Nat × D) → Bool
  | [] => true
  | p :: r => p.2.simple && allP r
theorem allP_get {l : List (Nat × D)} (h : allP l = true) : ∀ p ∈ l, p.2.simple = true := by
  induction l with
  | nil => simp
  | cons q r ih =>
    simp only [allP, Bool.and_eq_true] at h
    intro p hp
    cases hp with
    | head => exact h.1
    | tail _ hp => exact ih h.2 p hp
def allZ : List (Nat × Nat) → Bool
  | [] => true
  | p :: r => (match p.2 with | 0 => false | _ => true) && allZ r
theorem allZ_get {l : List (Nat × Nat)} (h : allZ l = true) : ∀ p ∈ l, p.2 ≠ 0 := by
  induction l with
  | nil => simp
  | cons q r ih =>
    simp only [allZ, Bool.and_eq_true] at h
    intro p hp
    cases hp with
    | head => intro he; have := h.1; rw [he] at this; cases this
    | tail _ hp => exact ih h.2 p hp
/-- A struct written out. -/
theorem P.build {s : TypeId} {n b : Nat} {fs : List (Nat × Nat)} {parts : Array (Nat × Operand)} {zs : List Value} {zds ds : List D} {ps : List (Nat × D)} (hT : tShape E.P s = some (n, b, .struct fs)) (hfs : allZ fs = true)
    (hz : tZero E.P s = some zs) (hzd : ZeroL zds zs) (hps : (parts.toList.map fun p => (p.1, ev E ρ p.2)) = ps) (hsim : allP ps = true) (hf : fillD (plS fs) zds ps = some ds) : POk E U ρ st ⟨some t, .build s parts, ty, pos, af, none⟩ (.agg ds) :=
  (fun cx a w hr => by
    obtain ⟨i, u, hi, hu, h1, h2, h3⟩ := tShape_parts hT
    cases u <;> simp only [shpOf, Shp.struct.injEq, reduceCtorEq] at h3
    rename_i fields
    unfold tZero at hz
    rw [hi] at hz
    simp only [Option.bind_some, Option.map_eq_some_iff] at hz
    obtain ⟨z, hz1, hz2⟩ := hz
    obtain ⟨l1, l2⟩ := hzd.rd (cx := cx) (w := w)
    obtain ⟨p1, p2⟩ := parts_rd hr (parts := parts)
    rw [hps] at p1 p2
    obtain ⟨out, e1, e2, e3⟩ := fill_rd (vcells := z.cells) hf (allP_get hsim) (by rw [hz2]; exact l1) (by rw [hz2]; exact l2) p1 p2
    refine ⟨.agg out, fun w => ?_, ?_⟩
    · have hpl : (fields.mapM (m := Sem) fun f => do Pure.pure (f.offset, ← sizeOf f.type)).run E.P w = .ok fs.toArray w := by
        rw [← Array.toArray_toList (xs := fields), List.mapM_toArray, Sem.run_map, run_places w _ (fun f hf' => ?_)]
        · simp only [Result.andThen_ok]; rw [h3]
        · exact allZ_get hfs (f.offset, E.P.cellsOf f.type) (by rw [← h3]; exact List.mem_map.2 ⟨f, hf', rfl⟩)
      have hplf : (fun j => fs.toArray[j]?) = plS fs := by funext j; simp [plS]
      simp only [execOp, Instr.build, zeroValue, Sem.run_bind, run_typeInfo w hi, Result.andThen_ok, hz1, Sem.run_pure, run_underlying hu, hpl, hplf, e1]
    · have : (.agg out : Value) = .agg out.toList.toArray := by simp
      rw [this]
      exact .agg e2 e3)
theorem repZero {z : List Value} {len : Nat} (hz : z ≠ []) : ((Array.range (len * z.length)).map (fun j => z.toArray[j % z.toArray.size]!)).toList = (List.range (len * z.length)).map (fun j => z.getD (j % z.length) undef) := by
  simp only [Array.toList_map, Array.toList_range, List.size_toArray]
  refine List.map_congr_left fun j hj => ?_
  have : j % z.length < z.length := Nat.mod_lt _ (List.length_pos_iff.2 hz)
  simp [this]
/-- A slice written out. -/
theorem S.buildSlice {s e : TypeId} {n b be sz : Nat} {se : Shp} {len : Nat} {parts : Array (Nat × Operand)} {zs : List Value} {xs xs' : List (List D)} {ps : List (Nat × D)} (ht : Nat.blt t U.N = true) (hT : tShape E.P s = some (n, b, .slice e)) (hE : tShape E.P e = some (sz, be, se))
    (hz : tZero E.P e = some zs) (hzl : zs.length = sz) (hsz : 0 < sz) (hlen : len * sz ≤ 65536) (hps : (parts.toList.map fun p => (p.1, ev E ρ p.2)) = ps) (hsim : allP ps = true)
    (hf : fillD (plE sz) (List.replicate (len * sz) .any) ps = some xs.flatten) (hxl : xs.length = len) (hxs : ∀ cs ∈ xs, cs.length = sz) (hfog : xs.map (·.map fog1) = xs') :
    SOk E U ρ st ⟨some t, .buildSlice s len parts, ty, pos, af, none⟩ (upd ρ t (.sl sz .full xs')) st :=
  ⟨rfl, rfl, fun cx a w hr => by
    obtain ⟨i, u, hi, hu, h1, h2, h3⟩ := tShape_parts hT
    obtain ⟨ie, ue, hie, hue, k1, k2, k3⟩ := tShape_parts hE
    have hu : E.P.underlying s = some (.slice e) := by
      cases u <;> simp only [shpOf, Shp.slice.injEq, reduceCtorEq] at h3
      rw [hu, h3]
    unfold tZero at hz
    rw [hie] at hz
    simp only [Option.bind_some, Option.map_eq_some_iff] at hz
    obtain ⟨z, hz1, hz2⟩ := hz
    have hzne : z.cells.toList ≠ [] := by rw [hz2]; intro h; rw [h] at hzl; simp at hzl; omega
    obtain ⟨p1, p2⟩ := parts_rd hr (parts := parts)
    rw [hps] at p1 p2
    obtain ⟨out, e1, e2, e3⟩ := fill_rd (vcells := ((Array.range (len * sz)).map (fun j => z.cells[j % z.cells.size]!))) (cx := cx) (w := w) hf (allP_get hsim) (by simp) (fun j d x hd _ => by
      rw [List.getElem?_replicate] at hd
      split at hd
      · cases hd; exact .any x
      · cases hd) p1 p2
    have hflen : xs.flatten.length = len * sz := by
      rw [← hxl]
      clear hf hfog hxl hlen e2 e3
      induction xs with
      | nil => simp
      | cons c r ih => simp only [List.flatten_cons, List.length_append, List.length_cons, Nat.add_mul, Nat.one_mul]; rw [hxs c (by simp), ih (fun c hc => hxs c (by simp [hc]))]; omega
    have hflat : ∀ (l : List (List D)), (∀ cs ∈ l, cs.length = sz) → ∀ (i j : Nat) cs d, l[i]? = some cs → cs[j]? = some d → l.flatten[i * sz + j]? = some d := fun l => by
      induction l with
      | nil => intro _ i j cs d hi; simp at hi
      | cons c r ih =>
        intro hl i j cs d hi hj
        have hc := hl c (by simp)
        rw [List.flatten_cons]
        cases i with
        | zero =>
          simp only [List.getElem?_cons_zero, Option.some.injEq] at hi
          subst hi
          rw [List.getElem?_append_left (by have := (List.getElem?_eq_some_iff.1 hj).1; omega)]
          simpa using hj
        | succ i =>
          rw [List.getElem?_append_right (by rw [hc, Nat.add_mul]; omega), show (i + 1) * sz + j - c.length = i * sz + j by rw [hc, Nat.add_mul]; omega]
          exact ih (fun c hc => hl c (by simp [hc])) i j cs d (by simpa using hi) hj
    have hext : Ext (fun _ => true) cx w cx (w.alloc (.cells out e (0, 0))) :=
      ⟨rfl, rfl, rfl, by show _ ≤ (w.heap.push _).size; simp, fun b hb _ => heap_old hb, fun b o hb _ => cell_old hb, fun _ _ _ h => h, fun _ _ _ h => h, fun k n l _ h => ⟨n, l, h, Nat.le_refl _, fun _ => rfl⟩, rfl, fun k n e g c z h _ => ⟨k, n, e, c, z, h⟩, fun b o hb => frozen_old hb⟩
    have hrel : Rel E cx st (w.alloc (.cells out e (0, 0))) := by
      have r := hr.rel
      refine ⟨fun k cs h => ?_, fun k n0 e0 h => ?_, fun k b o h => ?_, r.sep, r.domb, r.domt, fun b o h => ?_, r.nz, r.zm, fun k b o h => ?_, r.apart, r.rows, fun g => (r.glob g).mono hext (RelF.ext.all_true _)⟩
      · obtain ⟨q1, b, o, q2, q3⟩ := r.cells k cs h
        refine ⟨q1, b, o, q2, fun j d hj => ?_⟩
        obtain ⟨x, hx, hrd⟩ := q3 j d hj
        exact ⟨x, by rw [cell_old (cell_lt hx)]; exact hx, hrd.mono hext (RelF.ext.all_true _)⟩
      · obtain ⟨tl, q1, q2⟩ := r.tok k n0 e0 h
        refine ⟨tl, q1, ?_⟩
        match tl, q1, q2 with
        | none, _, _ => trivial
        | some (g, c, z), q1, ⟨g1, g2, cur, g3, g4⟩ => exact ⟨g1, g2, cur, by rw [heap_old (r.row_lt q1)]; exact g3, g4⟩
      · obtain ⟨⟨x, hx⟩, q2, q3⟩ := r.foot k b o h
        have hb := cell_lt hx
        exact ⟨⟨x, by rw [cell_old hb]; exact hx⟩, by rw [frozen_old hb]; exact q2, q3⟩
      · show b < (w.heap.push _).size
        have := r.mlt b o h
        simp; omega
      · show b < (w.heap.push _).size
        have := r.bxlt k b o h
        simp; omega
    refine ⟨_, _, cx, .slice (some ⟨w.heap.size, 0, none⟩) len len, ?_, .inl rfl, put_rd (hr.ext hext hrel) ht ?_, hext⟩
    · have hsz2 := run_sizeOf_shape hE w
      have hle : ¬ (len * sz > 2 ^ 24) := by omega
      simp only [execOp, Instr.buildSlice, Sem.run_bind, run_underlying hu, Result.andThen_ok, hsz2]
      rw [if_neg hle]
      by_cases h0 : len * sz = 0
      · have hl0 : len = 0 := by
          rcases Nat.mul_eq_zero.1 h0 with h | h
          · exact h
          · omega
        subst hl0
        rw [Nat.zero_mul, show ∀ f : Nat → Value, Array.map f (Array.range 0) = #[] from fun f => by simp] at e1
        simp only [Nat.zero_mul, if_true, Sem.run_bind, Sem.run_pure, Result.andThen_ok]
        rw [show ∀ f : Nat → Value, Array.map f (Array.range 0) = #[] from fun f => by simp, show (fun i => some (i * sz, sz)) = plE sz from rfl, e1]
        simp only [newRow, Sem.run_bind, Sem.run_pure, Result.andThen_ok]
        rfl
      · rw [if_neg h0]
        simp only [zeroValue, Sem.run_bind, run_typeInfo w hie, Result.andThen_ok, hz1, Sem.run_pure]
        rw [show (fun i => some (i * sz, sz)) = plE sz from rfl, e1]
        simp only [newRow, Sem.run_bind, Sem.run_pure, Result.andThen_ok]
        rfl
    · have hl' : xs'.length = len := by rw [← hfog]; simpa using hxl
      have hxs' : ∀ (i : Nat) cs, xs'[i]? = some cs → ∃ cs0, xs[i]? = some cs0 ∧ cs = cs0.map fog1 := fun i cs h => by
        rw [← hfog, List.getElem?_map, Option.map_eq_some_iff] at h
        obtain ⟨c, hc, rfl⟩ := h
        exact ⟨c, hc, rfl⟩
      refine rd_sl_mk' hl' (w.heap.size, 0) out.toList (Nat.le_refl _) (by unfold maxLen; have : len * 1 ≤ len * sz := Nat.mul_le_mul_left _ hsz; omega) (fun i cs h => ?_) (fun _ => rfl) (fun q y hq => ?_) (fun i j cs d hi hj => ?_) rfl
      · obtain ⟨c, hc, rfl⟩ := hxs' i cs h
        simpa using hxs c (List.mem_of_getElem? hc)
      · rw [Nat.zero_add]
        exact ⟨cell_new (by simpa using hq), fun h => by have := hr.rel.mlt _ _ h; omega⟩
      · obtain ⟨c, hc, rfl⟩ := hxs' i cs hi
        rw [List.getElem?_map, Option.map_eq_some_iff] at hj
        obtain ⟨d0, hd0, rfl⟩ := hj
        have h2 := hflat xs hxs i j c d0 hc hd0
        obtain ⟨y, hy⟩ := len_get e2.symm h2
        exact ⟨y, hy, ((e3 _ d0 y h2 hy).mono hext (RelF.ext.all_true _)).fog1⟩⟩
end
end Go.Mx
