/- Boxes, stores and calls, for the abstract state. No condition. -/
import Derived.Test.YtbifcdaablhljaaDoorMxF
namespace Go.Mx
set_option linter.unusedVariables false
def D.simple : D → Bool
  | .any => false
  | .v (.agg _) => false
  | _ => true
theorem cellsD_rd' {cx : Cx} {w : World} {d : D} {x : Value} (h : Rd cx w d x) (hd : d.simple = true) : (cellsD d).length = x.cells.toList.length ∧ ∀ (j : Nat) e y, (cellsD d)[j]? = some e → x.cells.toList[j]? = some y → Rd cx w e y :=
  cellsD_rd h (by rintro rfl; cases hd) (fun y hy => by subst hy; cases y <;> first | exact ⟨rfl, rfl⟩ | cases hd)
theorem allL_cellsD {p : Key → Bool} {d : D} (h : d.all p = true) : allL p (cellsD d) = true := by
  cases d <;> first | exact h | (simp only [cellsD, allL, h]; rfl)
theorem get_top {fr : Fr} {st : St} {t : Nat} : St.get (fr :: st) (st.length, t) = fr t := if_pos rfl
theorem set_top {fr : Fr} {st : St} {t : Nat} {o : Option AObj} : St.set (fr :: st) (st.length, t) o = fr.upd t o :: st := if_pos rfl
theorem run_newVar (P : Program) (t : TypeId) (v : Value) (w : World) : (newVar t v).run P w = .ok ⟨w.heap.size, 0, none⟩ (w.alloc (.cells v.cells t (0, 0))) := by
  unfold newVar newRow
  rw [Sem.run_bind]
  rfl
inductive ZeroL : List D → List Value → Prop
  | nil : ZeroL [] []
  | v {x ds ys} (h : ZeroL ds ys) : ZeroL (.v x :: ds) (x :: ys)
  | sl {sz ds ys} (h : ZeroL ds ys) : ZeroL (.sl sz .full [] :: ds) (.slice none 0 0 :: ys)
theorem ZeroL.rd {cx : Cx} {w : World} {ds : List D} {ys : List Value} (h : ZeroL ds ys) : ds.length = ys.length ∧ ∀ (j : Nat) d x, ds[j]? = some d → ys[j]? = some x → Rd cx w d x := by
  induction h with
  | nil => exact ⟨rfl, by simp⟩
  | v h ih =>
    refine ⟨by simp [ih.1], fun j d x hd hx => ?_⟩
    cases j with
    | zero => simp at hd hx; subst hd; subst hx; exact .v _
    | succ j => exact ih.2 j d x (by simpa using hd) (by simpa using hx)
  | sl h ih =>
    refine ⟨by simp [ih.1], fun j d x hd hx => ?_⟩
    cases j with
    | zero => simp at hd hx; subst hd; subst hx; exact .sl (0, 0) (fun _ _ => undef) (by simp) (by unfold maxLen; omega) (by simp) (by simp) (by simp) (by simp) rfl
    | succ j => exact ih.2 j d x (by simpa using hd) (by simpa using hx)
section
variable {E : Setting} {U : Fun} {F : D → St → Prop} {k : List KI} {ρ : Env} {fr : Fr} {st : St} {all : Array Oper} {rest : List Oper}
variable {t : Nat} {ty : TypeId} {pos : String} {af : Array Edge} {nn bb : Nat} {ss : Shp}
/-- A new variable that holds a value. -/
theorem S.box {e : TypeId} {x : Operand} {d : D} (ht : Nat.blt t U.N = true) (hx : ev E ρ x = d) (hs : d.simple = true) (hf : fr t = none) :
    SOk E U ρ (fr :: st) ⟨some t, .box e x, ty, pos, af, none⟩ (upd ρ t (.bx (st.length, t) 0)) (fr.upd t (some (.cells (cellsD d))) :: st) :=
  ⟨rfl, by simp, fun cx a w hr => by
    have hv := hr.eval x
    rw [hx] at hv
    obtain ⟨h1, h2⟩ := cellsD_rd' hv hs
    obtain ⟨cx', r', hb, he⟩ := hr.rel.new (key := (st.length, t)) (get_top.trans hf) (by simp) (ds := cellsD d) (vs := (a.eval x).cells.toList) e h1 h2 (allL_cellsD (hr.rel.lev hv (by simp)))
    rw [Array.toArray_toList] at r' he
    rw [set_top] at r'
    refine ⟨_, _, cx', .pointer (some ⟨w.heap.size, 0, none⟩), ?_, .inl rfl, put_rd (hr.ext he r') ht ?_, he⟩
    · simp only [execOp, Instr.box, Sem.run_bind, run_newVar, Result.andThen_ok, Sem.run_pure]
    · exact Rd.bx (off := 0) hb⟩
theorem S.alloc {e : TypeId} {zs : List Value} {ds : List D} (ht : Nat.blt t U.N = true) (hz : tZero E.P e = some zs) (hd : ZeroL ds zs) (hlev : allL (fun _ => false) ds = true) (hf : fr t = none) :
    SOk E U ρ (fr :: st) ⟨some t, .alloc e, ty, pos, af, none⟩ (upd ρ t (.bx (st.length, t) 0)) (fr.upd t (some (.cells ds)) :: st) :=
  ⟨rfl, by simp, fun cx a w hr => by
    obtain ⟨h1, h2⟩ := hd.rd (cx := cx) (w := w)
    obtain ⟨cx', r', hb, he⟩ := hr.rel.new (key := (st.length, t)) (get_top.trans hf) (by simp) (ds := ds) (vs := zs) e h1 h2 ((all_mono (fun _ h => by cases h)).2.1 _ hlev)
    rw [set_top] at r'
    unfold tZero at hz
    cases hi : E.P.info? e with
    | none => rw [hi] at hz; cases hz
    | some i =>
      rw [hi] at hz
      simp only [Option.bind_some, Option.map_eq_some_iff] at hz
      obtain ⟨z, hz1, rfl⟩ := hz
      rw [Array.toArray_toList] at r' he
      refine ⟨_, _, cx', .pointer (some ⟨w.heap.size, 0, none⟩), ?_, .inl rfl, put_rd (hr.ext he r') ht (Rd.bx (off := 0) hb), he⟩
      simp only [execOp, Instr.alloc, zeroValue, Sem.run_bind, run_typeInfo w hi, Result.andThen_ok, hz1, Sem.run_pure, run_newVar]⟩
theorem run_storeVar {P : Program} {t : TypeId} {n b : Nat} {s : Shp} (h : tShape P t = some (n, b, s)) {w : World} {bl o : Nat} {v : Value} (hn : v.cells.toList.length = n)
    (hc : ∀ j, j < n → (w.cell? ⟨bl, o + j, none⟩).isSome = true) (hf : ∀ j, j < n → w.frozen? ⟨bl, o + j, none⟩ = false) (h1 : ∀ x ∈ v.cells.toList, x.oneCell' = true) :
    (storeVar t ⟨bl, o, none⟩ v).run P w = .ok () (w.setCells bl o v.cells.toList) := by
  unfold storeVar
  simp only [Sem.run_bind, run_sizeOf_shape h, Result.andThen_ok]
  rw [if_neg (by simp at hn; omega)]
  have := run_storeCells_cells (P := P) bl o v.cells.toList 0 w (by simpa [hn] using hc) (by simpa [hn] using hf) h1
  simpa using this
theorem oneL {cx : Cx} {w : World} {ds : List D} {vs : List Value} (hl : ds.length = vs.length) (h1 : allB D.one ds = true) (hr : ∀ (j : Nat) e y, ds[j]? = some e → vs[j]? = some y → Rd cx w e y) : ∀ x ∈ vs, x.oneCell' = true := fun x hx => by
  obtain ⟨j, hj, rfl⟩ := List.getElem_of_mem hx
  have h2 : vs[j]? = some vs[j] := List.getElem?_eq_getElem hj
  obtain ⟨e, he⟩ := len_get hl h2
  exact (hr j e _ he h2).oneCell (allB_get h1 he)
/-- A store into a variable of whatever function. -/
theorem S.storeK {st' : St} {e : TypeId} {p x : Operand} {d : D} {key : Key} {off : Nat} {cs ds : List D} (hT : tShape E.P e = some (nn, bb, ss)) (hp : ev E ρ p = .bx key off) (hx : ev E ρ x = d) (hs : d.simple = true) (hds : cellsD d = ds)
    (hn : ds.length = nn) (h1 : allB D.one ds = true) (hg : st.get key = some (.cells cs)) (hlt : key.1 < st.length) (hlev : key.1 + 1 = st.length ∨ allL (lv (key.1 + 1)) ds = true) (hfit : Nat.ble (off + nn) cs.length = true)
    (hst : st.set key (some (.cells (splice cs off ds))) = st') :
    SOk E U ρ st ⟨none, .store e p x, ty, pos, af, none⟩ ρ st' :=
  ⟨rfl, by rw [← hst, St.length_set], fun cx a w hr => by
    obtain ⟨b, o, hb, he⟩ := hr.ptr hp
    have hv := hr.eval x
    rw [hx] at hv
    obtain ⟨g1, g2⟩ := cellsD_rd' hv hs
    rw [hds] at g1 g2
    have hfit := Nat.le_of_ble_eq_true hfit
    have hl' : allL (lv (key.1 + 1)) ds = true := by
      rcases hlev with h | h
      · have := allL_cellsD (hr.rel.lev hv (n := key.1 + 1) (by omega))
        rwa [hds] at this
      · exact h
    obtain ⟨r', hext⟩ := hr.rel.store hg hlt (off := off) hb g1 g2 hl' (by omega)
    rw [hst] at r'
    have hfc : ∀ j, j < nn → Mx.foot cx st key b (o + off + j) := fun j hj => .inl ⟨cs, o, hg, hb, by omega, by omega⟩
    refine ⟨_, _, cx, undef, ?_, .inr ⟨rfl, rfl⟩, ?_, hext⟩
    · simp only [execOp, he, Instr.storeAt, Instr.sureAddr, Sem.run_bind, Sem.run_pure, Result.andThen_ok]
      rw [run_storeVar hT (by omega) (fun j hj => by obtain ⟨⟨y, hy⟩, _⟩ := hr.rel.foot _ _ _ (hfc j hj); rw [hy]; rfl) (fun j hj => (hr.rel.foot _ _ _ (hfc j hj)).2.1) (oneL g1 h1 g2)]
      rfl
    · have := hr.ext hext r'
      exact ⟨this.rel, this.size, this.tmps, this.defers⟩⟩
theorem S.store {e : TypeId} {p x : Operand} {d : D} {u off : Nat} {cs ds : List D} (hT : tShape E.P e = some (nn, bb, ss)) (hp : ev E ρ p = .bx (st.length, u) off) (hx : ev E ρ x = d) (hs : d.simple = true) (hds : cellsD d = ds)
    (hn : ds.length = nn) (h1 : allB D.one ds = true) (hg : fr u = some (.cells cs)) (hfit : Nat.ble (off + nn) cs.length = true) {cs' : List D} (hcs : splice cs off ds = cs') :
    SOk E U ρ (fr :: st) ⟨none, .store e p x, ty, pos, af, none⟩ ρ (fr.upd u (some (.cells cs')) :: st) :=
  S.storeK hT hp hx hs hds hn h1 (get_top.trans hg) (by simp) (.inl (by simp)) hfit (by rw [set_top, hcs])
/-- A call. -/
theorem AW.callF {g : Nat} {fn : Func} {args : Array Operand} {ats : Array TypeId} {c : Code} {fo : Operand} {fs cs : List D} {ds : List D} (ht : Nat.blt t U.N = true) (hg : E.P.funcs[g]? = some fn) (hb : fn.body = some c) (hn : (fn.name == "runtime.NumGoroutine") = false)
    (hfo : ev E ρ fo = .clo (.func g) fs cs) (hds : fs ++ args.toList.map (ev E ρ) ++ cs = ds)
    (hk : ACall E g ds st fun d st' => AW E U (.ops all rest :: k) F (upd ρ t d) st') :
    AW E U (.ops all (⟨some t, .call ⟨.value fo, args, ats⟩, ty, pos, af, none⟩ :: rest) :: k) F ρ st := by
  intro B cx a w hB hl he hr
  suffices goal : wpList E.P all (kpost E.P (Gc E U.N B) k (Fin E U.fn F B)) ((⟨some t, .call ⟨.value fo, args, ats⟩, ty, pos, af, none⟩ : Oper) :: rest) a w from goal
  unfold wpList
  rw [if_pos (by simp [Region.wanted])]
  left
  unfold Oper.wp
  have hv := hr.eval fo
  rw [hfo] at hv
  generalize hfv : a.eval fo = fv at hv
  cases hv with
  | clo hf hcl hrf hrc =>
    rename_i fvs cvs
    have hrun : (execOp a.eval ⟨some t, .call ⟨.value fo, args, ats⟩, ty, pos, af, none⟩).run E.P w = .ok (.enter g (fvs.toArray ++ args.map a.eval ++ cvs.toArray)) w := by
      simp only [execOp, resolve, hfv, Deferred.ofValue, Sem.run_bind, Sem.run_pure, Result.andThen_ok, invoke, callFunc, run_program, hg]
      rw [if_neg (by rw [hn]; decide)]
      rw [hb]; rfl
    rw [hrun]
    have harr : fvs.toArray ++ args.map a.eval ++ cvs.toArray = (fvs ++ args.toList.map a.eval ++ cvs).toArray := by
      apply Array.ext'; simp
    rw [harr]
    rw [Oper.upon_enter]
    have hrd : RdL cx w ds (fvs ++ args.toList.map a.eval ++ cvs) := by
      subst hds
      refine ⟨by simp [hf, hcl], fun j d x hd hx => ?_⟩
      have hmid : ∀ (j : Nat) d x, (args.toList.map (ev E ρ))[j]? = some d → (args.toList.map a.eval)[j]? = some x → Rd cx w d x := fun j d x hd hx => by
        rw [List.getElem?_map, Option.map_eq_some_iff] at hd hx
        obtain ⟨o, ho, rfl⟩ := hd
        obtain ⟨o', ho', rfl⟩ := hx
        rw [ho] at ho'; cases ho'
        exact hr.eval o
      rw [List.append_assoc] at hd hx
      by_cases h1 : j < fs.length
      · rw [List.getElem?_append_left h1] at hd
        rw [List.getElem?_append_left (by omega)] at hx
        exact hrf j d x hd hx
      · rw [List.getElem?_append_right (by omega)] at hd
        rw [List.getElem?_append_right (by omega), ← hf] at hx
        by_cases h2 : j - fs.length < args.toList.length
        · rw [List.getElem?_append_left (by simpa using h2)] at hd hx
          exact hmid _ d x hd hx
        · rw [List.getElem?_append_right (by simp at h2 ⊢; omega)] at hd hx
          simp only [List.length_map] at hd hx
          exact hrc _ d x hd hx
    refine Calls.mono (hk cx w _ hr.rel hrd) ?_
    rintro e w' ⟨d, st', cx', v, rfl, hK, hlen, hrel, hrdv, hext⟩
    refine hK B cx' _ w' hB (by omega) (he.trans (hext.weaken fun _ _ => rfl)) (put_rd (hr.ext hext hrel) ht hrdv)
theorem AW.call {g : Nat} {fn : Func} {args : Array Operand} {ats : Array TypeId} {c : Code} {ds : List D} (ht : Nat.blt t U.N = true) (hg : E.P.funcs[g]? = some fn) (hb : fn.body = some c) (hn : (fn.name == "runtime.NumGoroutine") = false)
    (hds : args.toList.map (ev E ρ) = ds)
    (hk : ACall E g ds st fun d st' => AW E U (.ops all rest :: k) F (upd ρ t d) st') :
    AW E U (.ops all (⟨some t, .call ⟨.value (.func g), args, ats⟩, ty, pos, af, none⟩ :: rest) :: k) F ρ st :=
  AW.callF ht hg hb hn (fs := []) (cs := []) rfl (by simpa using hds) hk
end
end Go.Mx
