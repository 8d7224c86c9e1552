/- Data known by less, the rule of an append, parts laid into a row. No condition. -/
import Derived.Test.YtbifcdaablhljaaDoorMxJ
namespace Go.Mx
set_option linter.unusedVariables false
set_option linter.unusedSimpArgs false
/-! ### weaker data -/
def fog1 : D → D
  | .sl sz _ xs => .sl sz .ro xs
  | d => d
def fog : D → D
  | .sl sz _ xs => .sl sz .ro xs
  | .agg cs => .agg (cs.map fog1)
  | .tup cs => .tup (cs.map fun | .agg cs => .agg (cs.map fog1) | d => fog1 d)
  | d => d
theorem Rd.fog1 {cx : Cx} {w : World} {d : D} {x : Value} (h : Rd cx w d x) : Rd cx w (fog1 d) x := by
  cases h with
  | sl A vs h1 h2 h3 h4 h5 h6 h7 => exact .sl A vs h1 h2 h3 h4 h5 h6 trivial
  | v x => exact .v x
  | any x => exact .any x
  | bx h => exact .bx h
  | sb h hn => exact .sb h hn
  | ro b o vs h1 h2 => exact .ro b o vs h1 h2
  | agg h1 h2 => exact .agg h1 h2
  | tup h1 h2 => exact .tup h1 h2
  | clo h1 h2 h3 h4 => exact .clo h1 h2 h3 h4
theorem rd_map {cx : Cx} {w : World} {f : D → D} (hf : ∀ d x, Rd cx w d x → Rd cx w (f d) x) {cs : List D} {vs : List Value} (h : ∀ (j : Nat) d x, cs[j]? = some d → vs[j]? = some x → Rd cx w d x) :
    ∀ (j : Nat) d x, (cs.map f)[j]? = some d → vs[j]? = some x → Rd cx w d x := fun j d x hd hx => by
  rw [List.getElem?_map, Option.map_eq_some_iff] at hd
  obtain ⟨e, he, rfl⟩ := hd
  exact hf e x (h j e x he hx)
theorem Rd.fog {cx : Cx} {w : World} {d : D} {x : Value} (h : Rd cx w d x) : Rd cx w (fog d) x := by
  cases h with
  | sl A vs h1 h2 h3 h4 h5 h6 h7 => exact .sl A vs h1 h2 h3 h4 h5 h6 trivial
  | v x => exact .v x
  | any x => exact .any x
  | bx h => exact .bx h
  | sb h hn => exact .sb h hn
  | ro b o vs h1 h2 => exact .ro b o vs h1 h2
  | agg h1 h2 => exact .agg (by simpa using h1) (rd_map (fun d x h => h.fog1) h2)
  | tup h1 h2 =>
    refine .tup (by simpa using h1) (rd_map (fun d x h => ?_) h2)
    cases h with
    | agg g1 g2 => exact .agg (by simpa using g1) (rd_map (fun d x h => h.fog1) g2)
    | sl A vs h1 h2 h3 h4 h5 h6 h7 => exact .sl A vs h1 h2 h3 h4 h5 h6 trivial
    | v x => exact .v x
    | any x => exact .any x
    | bx h => exact .bx h
    | sb h hn => exact .sb h hn
    | ro b o vs h1 h2 => exact .ro b o vs h1 h2
    | tup h1 h2 => exact .tup h1 h2
    | clo h1 h2 h3 h4 => exact .clo h1 h2 h3 h4
  | clo h1 h2 h3 h4 => exact .clo h1 h2 h3 h4
/-- Whatever the first stands for, the second stands for. -/
def Wk (d d' : D) : Prop := ∀ cx w x, Rd cx w d x → Rd cx w d' x
def WkL (ds ds' : List D) : Prop := ∀ cx w vs, RdL cx w ds vs → RdL cx w ds' vs
theorem Wk.refl (d : D) : Wk d d := fun _ _ _ h => h
theorem Wk.fog {d d' : D} (h : Mx.fog d = d') : Wk d d' := fun _ _ _ hr => h ▸ hr.fog
theorem Wk.any (d : D) : Wk d .any := fun _ _ x _ => .any x
theorem WkL.refl (ds : List D) : WkL ds ds := fun _ _ _ h => h
theorem WkL.nil : WkL [] [] := WkL.refl _
theorem WkL.cons {d d' : D} {r r' : List D} (h : Wk d d') (hr : WkL r r') : WkL (d :: r) (d' :: r') := fun cx w vs ⟨h1, h2⟩ => by
  cases vs with
  | nil => simp at h1
  | cons v vs =>
    have := hr cx w vs ⟨by simpa using h1, fun j d x hd hx => h2 (j + 1) d x (by simpa using hd) (by simpa using hx)⟩
    refine ⟨by simp [this.1], fun j e x he hx => ?_⟩
    cases j with
    | zero => simp at he hx; subst he; subst hx; exact h cx w _ (h2 0 d _ rfl rfl)
    | succ j => exact this.2 j e x (by simpa using he) (by simpa using hx)
theorem WkL.same {d : D} {r r' : List D} (hr : WkL r r') : WkL (d :: r) (d :: r') := .cons (.refl d) hr
theorem WkL.fog {d d' : D} {r r' : List D} (h : Mx.fog d = d') (hr : WkL r r') : WkL (d :: r) (d' :: r') := .cons (.fog h) hr
theorem ACall.wk {E : Setting} {f : Nat} {ds ds' : List D} {st : St} {K : D → St → Prop} (hw : WkL ds ds') (h : ACall E f ds' st K) : ACall E f ds st K :=
  fun cx w vs hr hd => h cx w vs hr (hw cx w vs hd)
section
variable {E : Setting} {U : Fun} {F : D → St → Prop} {k : List KI} {ρ : Env} {fr : Fr} {st : St} {all : Array Oper} {rest : List Oper}
variable {t : Nat} {ty : TypeId} {pos : String} {af : Array Edge} {nn bb : Nat} {ss : Shp}
/-- A slot may be known by less. -/
theorem AW.less {u : Nat} {d' : D} (hw : Wk (ρ u) d') (h : AW E U k F (upd ρ u d') st) : AW E U k F ρ st :=
  fun B cx a w hB hl he hr => h B cx a w hB hl he ⟨hr.rel, hr.size, fun v => by
    unfold upd
    split
    · rename_i hv; subst hv; exact hw _ _ _ (hr.tmps v)
    · exact hr.tmps v, hr.defers⟩
theorem AW.retW {ds : List D} {d' : D} (hres : resD ρ U.fn.results.toList = some ds) (hw : Wk (resOf ds) d') (hall : d'.all (lv st.length) = true) (hF : F d' st) : AW E U (.code .ret :: k) F ρ (fr :: st) := by
  intro B cx a w hB hl he hr
  refine wp_ret (kpost_ret ?_)
  obtain ⟨v, h1, h2⟩ := run_results (P := E.P) (fn := U.fn) (w := w) (a := a) hres hr.tmps
  have hlen : st.length = B.L := by simp at hl; omega
  refine ⟨hr.defers, v, h1, d', st, cx.cut st.length, v, rfl, hF, hlen, hr.rel.cut, (hw _ _ _ h2).mono (Ext.cut cx w st.length) hall, ?_⟩
  have e2 := he.trans ((Ext.cut cx w st.length).weaken (fun k hk => by rw [hlen]; exact hk))
  refine ⟨e2.os, e2.tape, e2.output, e2.size, e2.block, e2.cell, e2.nomut, fun key l _ hl => ?_, fun key n l _ hl => ?_, e2.zz, e2.rowold, e2.fz⟩
  · by_cases hk : key.1 < B.L
    · exact e2.bx key l (by simp [lv, hk]) hl
    · rw [(B.dom key hk).1] at hl; cases hl
  · by_cases hk : key.1 < B.L
    · exact e2.tk key n l (by simp [lv, hk]) hl
    · rw [(B.dom key hk).2] at hl; cases hl
/-- An append. -/
theorem S.append {s e : TypeId} {n b be : Nat} {se : Shp} {x y : Operand} {sz : Nat} {tok toky : Tok} {xs ys : List (List D)} {zs : List Value} {key : Key} {st' : St} (ht : Nat.blt t U.N = true)
    (hT : tShape E.P s = some (n, b, .slice e)) (hE : tShape E.P e = some (sz, be, se)) (hz : tZero E.P e = some zs) (hzl : zs.length = sz) (hsz : 0 < sz)
    (hx : ev E ρ x = .sl sz tok xs) (hy : ev E ρ y = .sl sz toky ys) (hone : ∀ cs ∈ ys, allB D.one cs = true) (hbound : (xs.length + ys.length) * be ≤ 140737488355328) (hbe : 0 < be)
    (hlt : key.1 < st.length) (hg : Grows st key e xs.length tok) (hst : st.set key (some (.tok (xs.length + ys.length) e)) = st') :
    SOk E U ρ st ⟨some t, .call ⟨.builtin .append, #[x, y], #[s, s]⟩, ty, pos, af, none⟩ (upd ρ t (.sl sz (.own key) (xs ++ ys))) st' :=
  ⟨rfl, by rw [← hst, St.length_set], fun cx a w hr => by
    have hv := hr.eval x; rw [hx] at hv
    have hw := hr.eval y; rw [hy] at hw
    have hb2 : xs.length + ys.length ≤ 9223372036854775807 := by
      have : (xs.length + ys.length) * 1 ≤ (xs.length + ys.length) * be := Nat.mul_le_mul_left _ hbe
      omega
    obtain ⟨v', w', cx', h1, h2, h3, h4⟩ := append_core hr.rel hsz hv hw (ty := ty) hT hE hz hzl hone hbound hb2 hlt hg
    rw [hst] at h2
    refine ⟨_, w', cx', v', ?_, .inl rfl, put_rd (hr.ext h4 h2) ht h3, h4⟩
    simp only [execOp, resolve, Sem.run_bind, Sem.run_pure, Result.andThen_ok, invoke, builtin, List.map_toArray, List.map_cons, List.map_nil, h1]⟩
end
/-- Parts laid into a row of cells. -/
def fillD (pl : Nat → Option (Nat × Nat)) (cells : List D) : List (Nat × D) → Option (List D)
  | [] => some cells
  | (i, d) :: r =>
    match pl i with
    | none => none
    | some (o, z) => if Nat.beq (cellsD d).length z && Nat.ble (o + z) cells.length then fillD pl (splice cells o (cellsD d)) r else none
theorem foldl_splice (vs : List Value) : ∀ (off k : Nat) (cells : Array Value), off + k + vs.length ≤ cells.size →
    ((vs.zipIdx k).foldl (fun cs (x : Value × Nat) => cs.setIfInBounds (off + x.2) x.1) cells).toList = splice cells.toList (off + k) vs := by
  induction vs with
  | nil => intro off k cells h; simp [splice]
  | cons v r ih =>
    intro off k cells h
    rw [List.zipIdx_cons, List.foldl_cons, ih off (k + 1) _ (by simp at h ⊢; omega)]
    apply List.ext_getElem?
    intro j
    rw [splice_get (by simp at h ⊢; omega), splice_get (by simp at h ⊢; omega)]
    simp only [Array.toList_setIfInBounds, List.length_cons]
    by_cases h1 : off + (k + 1) ≤ j ∧ j < off + (k + 1) + r.length
    · rw [if_pos h1, if_pos (by omega), show j - (off + k) = (j - (off + (k + 1))) + 1 by omega, List.getElem?_cons_succ]
    · rw [if_neg h1]
      by_cases h2 : j = off + k
      · subst h2
        rw [if_pos (by omega)]
        have hlt : off + k < cells.toList.length := by simp at h ⊢; omega
        rw [List.getElem?_set_self hlt]
        simp
      · rw [if_neg (by omega), List.getElem?_set_ne (by omega)]
theorem fill_rd {cx : Cx} {w : World} {pl : Nat → Option (Nat × Nat)} : ∀ {parts : List (Nat × D)} {vparts : List (Nat × Value)} {cells : List D} {vcells : Array Value} {ds : List D},
    fillD pl cells parts = some ds → (∀ p ∈ parts, p.2.simple = true) → cells.length = vcells.toList.length → (∀ (j : Nat) d x, cells[j]? = some d → vcells.toList[j]? = some x → Rd cx w d x) →
    parts.length = vparts.length → (∀ (j : Nat) p q, parts[j]? = some p → vparts[j]? = some q → p.1 = q.1 ∧ Rd cx w p.2 q.2) →
    ∃ out : Array Value, Instr.fill pl vcells vparts = some out ∧ ds.length = out.toList.length ∧ ∀ (j : Nat) d x, ds[j]? = some d → out.toList[j]? = some x → Rd cx w d x := by
  intro parts
  induction parts with
  | nil =>
    intro vparts cells vcells ds h _ hl hr hp _
    cases vparts with
    | nil => simp only [fillD, Option.some.injEq] at h; subst h; exact ⟨vcells, rfl, hl, hr⟩
    | cons _ _ => simp at hp
  | cons p r ih =>
    intro vparts cells vcells ds h hs hl hr hp hpr
    cases vparts with
    | nil => simp at hp
    | cons q vr =>
      obtain ⟨i, d⟩ := p
      obtain ⟨i', v⟩ := q
      obtain ⟨hi, hd⟩ := hpr 0 (i, d) (i', v) rfl rfl
      simp only at hi hd
      subst hi
      simp only [fillD] at h
      cases hpl : pl i with
      | none => rw [hpl] at h; cases h
      | some oz =>
        obtain ⟨o, z⟩ := oz
        rw [hpl] at h
        simp only [Bool.and_eq_true] at h
        split at h
        · rename_i hc
          obtain ⟨hc1, hc2⟩ := hc
          have hc1 := Nat.eq_of_beq_eq_true hc1
          have hc2 := Nat.le_of_ble_eq_true hc2
          obtain ⟨g1, g2⟩ := cellsD_rd' hd (hs (i, d) (by simp))
          have hvz : v.cells.size = z := by simp at g1; omega
          have hfit : o + v.cells.toList.length ≤ vcells.size := by simp at hl ⊢; omega
          have hfold : (v.cells.zipIdx.foldl (fun cs (x : Value × Nat) => cs.setIfInBounds (o + x.2) x.1) vcells).toList = splice vcells.toList o v.cells.toList := by
            have := foldl_splice v.cells.toList o 0 vcells (by simpa using hfit)
            rw [Nat.add_zero] at this
            rw [← Array.foldl_toList, Array.toList_zipIdx]
            exact this
          obtain ⟨out, e1, e2, e3⟩ := ih (vparts := vr) (vcells := v.cells.zipIdx.foldl (fun cs (x : Value × Nat) => cs.setIfInBounds (o + x.2) x.1) vcells) h (fun p hp => hs p (by simp [hp]))
            (by rw [hfold, splice_length (by omega), splice_length (by simpa using hfit)]; exact hl)
            (fun j d x hd hx => by
              rw [hfold, splice_get (by simpa using hfit)] at hx
              rw [splice_get (by omega)] at hd
              have hle : (cellsD d).length = (cellsD d).length := rfl
              split at hd
              · rw [if_pos (by omega)] at hx; exact g2 _ d x hd hx
              · rw [if_neg (by omega)] at hx; exact hr j d x hd hx)
            (by simpa using hp) (fun j p q h1 h2 => hpr (j + 1) p q (by simpa using h1) (by simpa using h2))
          refine ⟨out, ?_, e2, e3⟩
          simp only [Instr.fill, hpl]
          rw [if_neg (by simp; simp at hfit; omega)]
          exact e1
        · cases h
end Go.Mx
