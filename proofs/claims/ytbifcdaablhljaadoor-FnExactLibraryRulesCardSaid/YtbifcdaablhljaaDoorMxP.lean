/- Rows that are made and filled, results that stand in variables, for the abstract state. No condition. -/
import Derived.Test.YtbifcdaablhljaaDoorMxO
import Derived.Laws.MakeOwn
namespace Go.Mx
set_option linter.unusedVariables false
set_option linter.unusedSimpArgs false
/-! ### rows that are made and filled -/
theorem flat_len {α : Type} {sz : Nat} : ∀ {l : List (List α)}, (∀ cs ∈ l, cs.length = sz) → l.flatten.length = l.length * sz
  | [], _ => by simp
  | c :: r, h => by
    simp only [List.flatten_cons, List.length_append, List.length_cons, Nat.add_mul, Nat.one_mul]
    rw [h c (by simp), flat_len (l := r) (fun c hc => h c (by simp [hc]))]; omega
theorem flat_get {α : Type} {sz : Nat} : ∀ {l : List (List α)}, (∀ cs ∈ l, cs.length = sz) → ∀ {i j : Nat} {cs : List α} {d : α}, l[i]? = some cs → cs[j]? = some d → l.flatten[i * sz + j]? = some d
  | [], _, i, _, _, _, hi, _ => by simp at hi
  | c :: r, hl, i, j, cs, d, hi, hj => by
    have hc := hl c (by simp)
    rw [List.flatten_cons]
    cases i with
    | zero =>
      simp only [List.getElem?_cons_zero, Option.some.injEq] at hi
      subst hi
      rw [List.getElem?_append_left (by have := (List.getElem?_eq_some_iff.1 hj).1; omega)]
      simpa using hj
    | succ i =>
      rw [List.getElem?_append_right (by rw [hc, Nat.add_mul]; omega), show (i + 1) * sz + j - c.length = i * sz + j by rw [hc, Nat.add_mul]; omega]
      exact flat_get (l := r) (fun c hc => hl c (by simp [hc])) (by simpa using hi) hj
theorem flat_inv {α : Type} {sz : Nat} (hsz : 0 < sz) {l : List (List α)} (h : ∀ cs ∈ l, cs.length = sz) {q : Nat} {d : α} (hq : l.flatten[q]? = some d) : ∃ cs, l[q / sz]? = some cs ∧ cs[q % sz]? = some d := by
  have hlt : q < l.length * sz := by have := (List.getElem?_eq_some_iff.1 hq).1; rw [flat_len h] at this; exact this
  have h1 : q / sz < l.length := (Nat.div_lt_iff_lt_mul hsz).2 hlt
  have h2 : q % sz < sz := Nat.mod_lt _ hsz
  have e1 : l[q / sz]? = some l[q / sz] := List.getElem?_eq_getElem h1
  have e2 := h _ (List.getElem_mem h1)
  have e3 : (l[q / sz])[q % sz]? = some (l[q / sz])[q % sz] := List.getElem?_eq_getElem (by omega)
  have := flat_get h e1 e3
  rw [show q / sz * sz + q % sz = q by rw [Nat.mul_comm]; exact Nat.div_add_mod q sz, hq] at this
  cases this
  exact ⟨_, e1, e3⟩
theorem flat_splice {α : Type} {sz : Nat} : ∀ {l : List (List α)} {i : Nat} {ds : List α}, (∀ cs ∈ l, cs.length = sz) → i < l.length → ds.length = sz → splice l.flatten (i * sz) ds = (l.set i ds).flatten
  | [], _, _, _, h, _ => by simp at h
  | c :: r, 0, ds, hl, _, hd => by
    have hc := hl c (by simp)
    simp [splice, hd, hc]
  | c :: r, i + 1, ds, hl, hi, hd => by
    have hc := hl c (by simp)
    have ih := flat_splice (l := r) (i := i) (ds := ds) (fun c hc => hl c (by simp [hc])) (by simpa using hi) hd
    simp only [List.set_cons_succ, List.flatten_cons]
    rw [← ih]
    unfold splice
    rw [show (i + 1) * sz = c.length + i * sz by rw [hc, Nat.add_mul]; omega, Nat.add_assoc]
    simp only [List.take_length_add_append, List.drop_length_add_append, List.append_assoc]
section
variable {E : Setting} {U : Fun} {F : D → St → Prop} {k : List KI} {ρ : Env} {fr : Fr} {st : St} {all : Array Oper} {rest : List Oper}
variable {t : Nat} {ty : TypeId} {pos : String} {af : Array Edge} {nn bb : Nat} {ss : Shp} {H : Key → Bool}
theorem RelF.sbInv {N : Nat} {cx : Cx} {a : Act} {w : World} (hr : RelF E N cx ρ st a w) {x : Operand} {key : Key} {n : Nat} (h : ev E ρ x = .sb key n) :
    ∃ b o, cx.bx key = some (b, o) ∧ a.eval x = .slice (some ⟨b, o, none⟩) n n ∧ n ≤ maxLen := by
  have := hr.eval x; rw [h] at this
  generalize a.eval x = v at this
  cases this with
  | sb hb hn => exact ⟨_, _, hb, rfl, hn⟩
theorem S.makeSlice {s e : TypeId} {n b be sz : Nat} {se : Shp} {x y : Operand} {kk kk' : IntKind} {len : Nat} {zs : List Value} {zds : List D} (ht : Nat.blt t U.N = true) (hT : tShape E.P s = some (n, b, .slice e)) (hE : tShape E.P e = some (sz, be, se))
    (hz : tZero E.P e = some zs) (hzl : zs.length = sz) (hzd : ZeroL zds zs) (hlev : allL (fun _ => false) zds = true) (hx : ev E ρ x = .v (.int kk len)) (hy : ev E ρ y = .v (.int kk' len)) (hb : be * len ≤ 281474976710656) (hm : len ≤ 9223372036854775807) (hf : fr t = none) :
    SOk E U ρ (fr :: st) ⟨some t, .makeSlice s x y, ty, pos, af, none⟩ (upd ρ t (.sb (st.length, t) len)) (fr.upd t (some (.cells (List.replicate len zds).flatten)) :: st) :=
  ⟨rfl, by simp, fun cx a w hr => by
    obtain ⟨i, u, hi, hu, h1, h2, h3⟩ := tShape_parts hT
    obtain ⟨ie, ue, hie, hue, k1, k2, k3⟩ := tShape_parts hE
    have hu : E.P.underlying s = some (.slice e) := by
      cases u <;> simp only [shpOf, Shp.slice.injEq, reduceCtorEq] at h3
      rw [hu, h3]
    unfold tZero at hz
    rw [hie] at hz
    simp only [Option.bind_some, Option.map_eq_some_iff] at hz
    obtain ⟨z, hz1, hz2⟩ := hz
    have hb' : (ie.bytes : Int) * (len : Int) ≤ 281474976710656 := by
      have h : ((be * len : Nat) : Int) ≤ 281474976710656 := by omega
      rw [k2]; rwa [Int.natCast_mul] at h
    have hrun := run_make (P := E.P) w s e ie z hu hie hz1 kk kk' len len (by omega) (Int.le_refl _) hb' (by omega)
    simp only [Int.toNat_natCast] at hrun
    obtain ⟨l1, l2⟩ := hzd.rd (cx := cx) (w := w)
    have hmade : (madeCells z.cells (len * ie.size)).toList = (List.replicate len zs).flatten := by
      rw [k1]
      unfold madeCells
      apply List.ext_getElem?
      intro q
      by_cases hq : q < len * sz
      · have hsz : 0 < sz := by
          rcases Nat.eq_zero_or_pos sz with h | h
          · rw [h] at hq; simp at hq
          · exact h
        have hl2 : ∀ cs ∈ List.replicate len zs, cs.length = sz := fun cs hc => by rw [List.eq_of_mem_replicate hc]; exact hzl
        have e0 : (List.replicate len zs)[q / sz]? = some zs := by
          rw [List.getElem?_replicate, if_pos ((Nat.div_lt_iff_lt_mul hsz).2 hq)]
        have hml : q % sz < zs.length := by rw [hzl]; exact Nat.mod_lt _ hsz
        have := flat_get hl2 e0 (List.getElem?_eq_getElem hml)
        rw [show q / sz * sz + q % sz = q by rw [Nat.mul_comm]; exact Nat.div_add_mod q sz] at this
        rw [this]
        have hzs : z.cells.size = sz := by rw [← hzl, ← hz2]; simp
        have hzq : z.cells[q % sz]! = zs[q % sz] := by
          have : q % sz < z.cells.size := by omega
          simp only [← hz2, this, getElem!_pos, Array.getElem_toList]
        simp [hq, hzs, hzq]
      · have hl2 : ∀ cs ∈ List.replicate len zs, cs.length = sz := fun cs hc => by rw [List.eq_of_mem_replicate hc]; exact hzl
        rw [List.getElem?_eq_none (by simp; omega), List.getElem?_eq_none (by rw [flat_len hl2]; simp; omega)]
    have hlen2 : (List.replicate len zds).flatten.length = ((List.replicate len zs).flatten).length := by
      rw [flat_len (sz := sz) (fun cs hc => by rw [List.eq_of_mem_replicate hc]; omega), flat_len (sz := sz) (fun cs hc => by rw [List.eq_of_mem_replicate hc]; omega)]
      simp
    have hrd2 : ∀ (j : Nat) d x, (List.replicate len zds).flatten[j]? = some d → ((List.replicate len zs).flatten)[j]? = some x → Rd cx w d x := fun j d x hd hx => by
      rcases Nat.eq_zero_or_pos sz with h0 | hsz
      · have : (List.replicate len zds).flatten.length = 0 := by
          rw [flat_len (sz := sz) (fun cs hc => by rw [List.eq_of_mem_replicate hc]; omega), h0]; simp
        have := (List.getElem?_eq_some_iff.1 hd).1
        omega
      · obtain ⟨cs, e1, e2⟩ := flat_inv hsz (fun cs hc => by rw [List.eq_of_mem_replicate hc]; omega) hd
        obtain ⟨vs, f1, f2⟩ := flat_inv hsz (fun cs hc => by rw [List.eq_of_mem_replicate hc]; exact hzl) hx
        have g1 := List.eq_of_mem_replicate (List.mem_of_getElem? e1)
        have g2 := List.eq_of_mem_replicate (List.mem_of_getElem? f1)
        subst g1; subst g2
        exact l2 _ d x e2 f2
    have hkl : ∀ n, allL (fun _ => false) (List.replicate n zds).flatten = true := fun n => by
      induction n with
      | zero => rfl
      | succ n ih =>
        rw [List.replicate_succ, List.flatten_cons]
        have hap : ∀ (a b : List D), allL (fun _ => false) a = true → allL (fun _ => false) b = true → allL (fun _ => false) (a ++ b) = true := fun a b ha hb => by
          induction a with
          | nil => exact hb
          | cons d r ih => simp only [List.cons_append, allL, Bool.and_eq_true] at *; exact ⟨ha.1, ih ha.2⟩
        exact hap _ _ hlev ih
    obtain ⟨cx', r', hb2, he⟩ := hr.rel.new (key := (st.length, t)) (get_top.trans hf) (by simp) (ds := (List.replicate len zds).flatten) (vs := (List.replicate len zs).flatten) e hlen2 hrd2 ((all_mono (fun _ h => by cases h)).2.1 _ (hkl len))
    rw [set_top] at r'
    rw [← hmade, Array.toArray_toList] at r' he
    refine ⟨_, _, cx', _, ?_, .inl rfl, put_rd (hr.ext he r') ht (Rd.sb hb2 (by unfold maxLen; omega)), he⟩
    simp only [execOp, Sem.run_bind, hr.lit hx, hr.lit hy, hrun, Result.andThen_ok, Sem.run_pure]⟩
/-- The place of an element of a row that is being filled. -/
theorem P.indexAddrB {s e : TypeId} {n b be sz : Nat} {se : Shp} {x ix : Operand} {key : Key} {len : Nat} {kk : IntKind} {i : Nat}
    (h : tShape E.P s = some (n, b, .slice e)) (he : tShape E.P e = some (sz, be, se))
    (hx : ev E ρ x = .sb key len) (hi : ev E ρ ix = .v (.int kk i)) (hlt : i < len) : POk E U ρ st ⟨some t, .indexAddr s x ix, ty, pos, af, none⟩ (.bx key (i * sz)) :=
  (fun cx a w hr => by
    obtain ⟨bl, o, hb, hv, hn⟩ := hr.sbInv hx
    refine ⟨.pointer (some ⟨bl, o + i * sz, none⟩), fun w' => ?_, .bx hb⟩
    simp only [execOp, hv, hr.lit hi, Sem.run_bind, run_indexAt h he w' bl o len len kk i (by omega) (by omega), Result.andThen_ok, Sem.run_pure, Int.toNat_natCast])
theorem P.lenB {s e : TypeId} {n b : Nat} {x : Operand} {key : Key} {len : Nat} (h : tShape E.P s = some (n, b, .slice e)) (hx : ev E ρ x = .sb key len) : POk E U ρ st ⟨some t, .call ⟨.builtin .len, #[x], #[s]⟩, ty, pos, af, none⟩ (.v (.int .i64 len)) :=
  P.lit (fun a w0 w cx hr => by
    obtain ⟨bl, o, hb, hv, hn⟩ := hr.sbInv hx
    have := run_len_slice h ty (some ⟨bl, o, none⟩) len len w
    simp only [execOp, resolve, Sem.run_bind, Sem.run_pure, Result.andThen_ok, invoke, builtin, List.map_toArray, List.map_cons, List.map_nil, hv, this])
/-- A store into an element of a row that is being filled. -/
theorem S.storeE {e : TypeId} {p x : Operand} {d : D} {u i : Nat} {xs : List (List D)} {ds : List D} (hT : tShape E.P e = some (nn, bb, ss)) (hp : ev E ρ p = .bx (st.length, u) (i * nn)) (hx : ev E ρ x = d) (hs : d.simple = true) (hds : cellsD d = ds)
    (hn : ds.length = nn) (h1 : allB D.one ds = true) (hg : fr u = some (.cells xs.flatten)) (hxs : ∀ cs ∈ xs, cs.length = nn) (hi : i < xs.length) {xs' : List (List D)} (hset : xs.set i ds = xs') :
    SOk E U ρ (fr :: st) ⟨none, .store e p x, ty, pos, af, none⟩ ρ (fr.upd u (some (.cells xs'.flatten)) :: st) :=
  S.storeK hT hp hx hs hds hn h1 (get_top.trans hg) (by simp) (.inl (by simp)) (Nat.ble_eq_true_of_le (by
    rw [flat_len hxs]
    calc i * nn + nn = (i + 1) * nn := by rw [Nat.add_mul, Nat.one_mul]
      _ ≤ xs.length * nn := Nat.mul_le_mul_right _ hi)) (by rw [set_top, ← hset, flat_splice hxs hi hn])
/-- A load of an element of a row that is being filled. -/
theorem L.loadES {ty' : TypeId} {x : Operand} {key : Key} {i : Nat} {xs : List (List D)} {ds : List D} (hT : tShape E.P ty' = some (nn, bb, ss)) (ha : ss.agg = true)
    (hx : ev E ρ x = .bx key (i * nn)) (hH : H key = true) (hs : st.get key = some (.cells xs.flatten)) (hxs : ∀ cs ∈ xs, cs.length = nn) (hd : xs[i]? = some ds) : LOk E U ρ st H ⟨some t, .load ty' x, ty, pos, af, none⟩ (.agg ds) :=
  L.loadS hT ha hx hH hs (ds := ds) (by
    have hl := hxs ds (List.mem_of_getElem? hd)
    apply List.ext_getElem?
    intro j
    rw [List.getElem?_take]
    by_cases hj : j < nn
    · rw [if_pos hj, List.getElem?_drop]
      rw [flat_get hxs hd (List.getElem?_eq_getElem (by omega))]
      rw [List.getElem?_eq_getElem (by omega)]
    · rw [if_neg hj, List.getElem?_eq_none (by omega)]) (hxs ds (List.mem_of_getElem? hd))
theorem L.loadE1 {ty' : TypeId} {x : Operand} {key : Key} {i : Nat} {xs : List (List D)} {d : D} (hT : tShape E.P ty' = some (1, bb, ss)) (ha : ss.agg = false)
    (hx : ev E ρ x = .bx key (i * 1)) (hH : H key = true) (hs : st.get key = some (.cells xs.flatten)) (hxs : ∀ cs ∈ xs, cs.length = 1) (hd : xs[i]? = some [d]) : LOk E U ρ st H ⟨some t, .load ty' x, ty, pos, af, none⟩ d :=
  L.load hT ha hx hH hs (by
    have := flat_get hxs hd (j := 0) (d := d) rfl
    simpa using this)
/-! ### a variable of this frame that nobody may write any more -/
theorem Rel.unkey {cx : Cx} {w : World} {u : Nat} (r : Rel E cx (fr :: st) w) (hF : FrAll (notKey st.length u) (fr.upd u none)) :
    ∃ cx', Rel E cx' (fr.upd u none :: st) w ∧ Ext (notKey st.length u) cx w cx' w ∧ (∀ b o, Mx.foot cx (fr :: st) (st.length, u) b o → ¬ cx'.M b o) ∧ (∀ b o, cx'.M b o → cx.M b o) := by
  have hget : ∀ key, key ≠ (st.length, u) → St.get (fr.upd u none :: st) key = St.get (fr :: st) key := fun key hk => by
    simp only [St.get]
    split
    · rename_i h1
      exact Fr.upd_ne _ _ _ _ (fun h2 => hk (Prod.ext h1 h2))
    · rfl
  have hget0 : St.get (fr.upd u none :: st) (st.length, u) = none := get_top.trans (Fr.upd_same _ _ _)
  let cx' : Cx := { bx := fun k => if k = (st.length, u) then none else cx.bx k, tk := fun k => if k = (st.length, u) then none else cx.tk k, M := fun b o => cx.M b o ∧ ¬ Mx.foot cx (fr :: st) (st.length, u) b o, Z := cx.Z }
  have hext : Ext (notKey st.length u) cx w cx' w := by
    refine ⟨rfl, rfl, rfl, Nat.le_refl _, fun _ _ _ => rfl, fun _ _ _ _ => rfl, fun _ _ _ h h2 => h h2.1, fun key l hk h => ?_, fun key n l hk h => ⟨n, l, ?_, Nat.le_refl _, fun _ => rfl⟩, rfl, fun key n e g c z h _ => ⟨key, n, e, c, z, ?_⟩, fun _ _ _ => rfl⟩
    · show (if key = (st.length, u) then none else cx.bx key) = _
      rw [if_neg (notKey_spec.1 hk)]; exact h
    · show (if key = (st.length, u) then none else cx.tk key) = _
      rw [if_neg (notKey_spec.1 hk)]; exact h
    · have h : (if key = (st.length, u) then none else cx.tk key) = some (n, e, some (g, c, z)) := h
      split at h
      · cases h
      · exact h
  have hcontent : ∀ key cs, key ≠ (st.length, u) → St.get (fr :: st) key = some (.cells cs) → allL (notKey st.length u) cs = true := fun key cs hk hg => by
    by_cases h1 : key.1 = st.length
    · have : fr.upd u none key.2 = some (.cells cs) := by
        rw [Fr.upd_ne _ _ _ _ (fun h2 => hk (Prod.ext h1 h2))]
        simp only [St.get, h1, if_true] at hg; exact hg
      exact hF _ _ this
    · have h2 := (r.cells key cs hg).1
      have h3 : key.1 < (fr :: st).length := by
        rcases Nat.lt_or_ge key.1 (fr :: st).length with h | h
        · exact h
        · rw [St.get_ge h] at hg; cases hg
      refine (all_mono (fun q hq => notKey_spec.2 (fun e => ?_))).2.1 _ h2
      simp only [lv, decide_eq_true_eq, e] at hq
      simp at h3
      omega
  have hfoot : ∀ key b o, Mx.foot cx' (fr.upd u none :: st) key b o → key ≠ (st.length, u) ∧ Mx.foot cx (fr :: st) key b o := fun key b o h => by
    have hne : key ≠ (st.length, u) := fun e => by
      subst e
      rcases h with ⟨cs, o0, h1, _⟩ | ⟨n, e, c, z, h1, _⟩ <;> (rw [hget0] at h1; cases h1)
    refine ⟨hne, ?_⟩
    rcases h with ⟨cs, o0, h1, h2, h3⟩ | ⟨n, e, c, z, h1, h2, h3⟩
    · rw [hget key hne] at h1
      have h2 : (if key = (st.length, u) then none else cx.bx key) = some (b, o0) := h2
      rw [if_neg hne] at h2
      exact .inl ⟨cs, o0, h1, h2, h3⟩
    · rw [hget key hne] at h1
      have h2 : (if key = (st.length, u) then none else cx.tk key) = some (n, e, some (b, c, z)) := h2
      rw [if_neg hne] at h2
      exact .inr ⟨n, e, c, z, h1, h2, h3⟩
  have hne_of : ∀ key o, St.get (fr.upd u none :: st) key = some o → key ≠ (st.length, u) := fun key o h e => by
    subst e; rw [hget0] at h; cases h
  refine ⟨cx', ⟨fun key cs h => ?_, fun key n e h => ?_, fun key b o h => ?_, fun k1 k2 b o h h' => r.sep _ _ b o (hfoot _ _ _ h).2 (hfoot _ _ _ h').2, fun key l h => ?_, fun key l h => ?_, fun b o h => r.mlt b o h.1, fun key b o h => r.nz key b o (hfoot _ _ _ h).2, fun b o h => ⟨r.zm b o h, fun hf => r.nz _ _ _ hf h⟩, fun key b o h => ?_,
      fun k1 k2 b o n e g c z h h' => ?_, fun k1 k2 n e n' e' g c z c' z' h h' => ?_, fun g => (r.glob g).mono hext ((all_mono (fun q hq => by cases hq)).1 _ (E.keyless g))⟩, hext, fun b o hf h => h.2 hf, fun b o h => h.1⟩
  · have hne := hne_of _ _ h
    rw [hget key hne] at h
    obtain ⟨h1, b, o, h2, h3⟩ := r.cells key cs h
    refine ⟨h1, b, o, (if_neg hne).trans h2, fun j d hj => ?_⟩
    obtain ⟨x, hx, hrd⟩ := h3 j d hj
    exact ⟨x, hx, hrd.mono hext (allL_get (hcontent key cs hne h) hj)⟩
  · have hne := hne_of _ _ h
    rw [hget key hne] at h
    obtain ⟨tl, h1, h2⟩ := r.tok key n e h
    exact ⟨tl, (if_neg hne).trans h1, h2⟩
  · obtain ⟨hne, hf⟩ := hfoot _ _ _ h
    obtain ⟨g1, g2, g3⟩ := r.foot key b o hf
    exact ⟨g1, g2, g3, fun hf' => hne (r.sep _ _ b o hf hf')⟩
  · have h : (if key = (st.length, u) then none else cx.bx key) = some l := h
    split at h
    · cases h
    · rename_i hne
      obtain ⟨cs, hcs⟩ := r.domb key l h
      exact ⟨cs, (hget key hne).trans hcs⟩
  · have h : (if key = (st.length, u) then none else cx.tk key) = some l := h
    split at h
    · cases h
    · rename_i hne
      obtain ⟨n, e, hcs⟩ := r.domt key l h
      exact ⟨n, e, (hget key hne).trans hcs⟩
  · have h : (if key = (st.length, u) then none else cx.bx key) = some (b, o) := h
    split at h
    · cases h
    · exact r.bxlt _ _ _ h
  · have h : (if k1 = (st.length, u) then none else cx.bx k1) = some (b, o) := h
    have h' : (if k2 = (st.length, u) then none else cx.tk k2) = some (n, e, some (g, c, z)) := h'
    split at h <;> split at h' <;> first | exact r.apart _ _ _ _ _ _ _ _ _ h h' | cases h | cases h'
  · have h : (if k1 = (st.length, u) then none else cx.tk k1) = some (n, e, some (g, c, z)) := h
    have h' : (if k2 = (st.length, u) then none else cx.tk k2) = some (n', e', some (g, c', z')) := h'
    split at h <;> split at h' <;> first | exact r.rows _ _ _ _ _ _ _ _ _ _ _ h h' | cases h | cases h'
/-- A row that has been filled is handed out for good. -/
theorem AW.freeze {l : List (Nat × D)} (u : Nat) {v : Nat} {sz len : Nat} {xs : List (List D)} (hv : ρ v = .sb (st.length, u) len) (hfr : fr u = some (.cells xs.flatten)) (hlen : xs.length = len) (hsz : ∀ cs ∈ xs, cs.length = sz)
    (hw : WkE ρ l) (hE : allE (notKey st.length u) l = true) (hx : allLL (notKey st.length u) xs = true) (hF : FrAll (notKey st.length u) (fr.upd u none)) (h : AW E U k F (upd (mkEnv l) v (.sl sz .full xs)) (fr.upd u none :: st)) : AW E U k F ρ (fr :: st) := by
  intro B cx a w hB hl he hr
  obtain ⟨cx', hrel, hext, hM, _⟩ := hr.rel.unkey hF
  have hlen' : st.length = U.L := by simp at hl; omega
  refine h B cx' a w hB (by simpa using hl) (he.trans (hext.weaken fun key hk => notKey_spec.2 (fun e => ?_))) ⟨hrel, hr.size, fun t => ?_, hr.defers⟩
  · subst e
    simp only [lv, decide_eq_true_eq] at hk
    omega
  · unfold upd
    split
    · rename_i ht
      subst ht
      have hd := hr.tmps t
      rw [hv] at hd
      generalize a.tmps.getD t undef = val at hd
      cases hd with
      | @sb _ _ b o hb hn =>
        obtain ⟨_, b', o', hb', hc⟩ := hr.rel.cells (st.length, u) xs.flatten (get_top.trans hfr)
        rw [hb] at hb'; cases hb'
        have hcell : ∀ (i j : Nat) cs d, xs[i]? = some cs → cs[j]? = some d → ∃ y, w.cell? ⟨b, o + i * sz + j, none⟩ = some y ∧ ¬ cx'.M b (o + i * sz + j) ∧ Rd cx' w d y := fun i j cs d hi hj => by
          have hg := flat_get hsz hi hj
          obtain ⟨y, hy, hrd⟩ := hc _ d hg
          refine ⟨y, by rw [Nat.add_assoc]; exact hy, hM _ _ (.inl ⟨_, o, get_top.trans hfr, hb, by omega, ?_⟩), hrd.mono hext (allL_get (allLL_get hx hi) hj)⟩
          have := (List.getElem?_eq_some_iff.1 hg).1
          omega
        subst hlen
        refine .sl (b, o) (fun i j => (w.cell? ⟨b, o + i * sz + j, none⟩).getD undef) (Nat.le_refl _) hn (fun i cs hi => hsz cs (List.mem_of_getElem? hi)) (fun _ => rfl) (fun i j cs d hi hj => ?_) (fun i j cs d hi hj => ?_) rfl
        · obtain ⟨y, h1, h2, h3⟩ := hcell i j cs d hi hj
          simp only [h1]; exact ⟨rfl, h2⟩
        · obtain ⟨y, h1, h2, h3⟩ := hcell i j cs d hi hj
          simp only [h1]; exact h3
    · exact (hw.out t _ _ _ (hr.tmps t)).mono hext (allE_out hE t)
/-! ### results that stand in variables -/
inductive ResR (E : Setting) (ρ : Env) (st : St) : List ResultVar → List D → Prop
  | nil : ResR E ρ st [] []
  | tmp {t r ds} (h : ResR E ρ st r ds) : ResR E ρ st (.tmp t :: r) (ρ t :: ds)
  | cellS {b ty n bb ss key cs r ds} (hT : tShape E.P ty = some (n, bb, ss)) (ha : ss.agg = true) (hb : ρ b = .bx key 0) (hg : st.get key = some (.cells cs)) (hn : cs.length = n) (h : ResR E ρ st r ds) : ResR E ρ st (.cell b ty :: r) (.agg cs :: ds)
  | cell1 {b ty n bb ss key cs d r ds} (hT : tShape E.P ty = some (n, bb, ss)) (ha : ss.agg = false) (hb : ρ b = .bx key 0) (hg : st.get key = some (.cells cs)) (hd : cs[0]? = some d) (h : ResR E ρ st r ds) : ResR E ρ st (.cell b ty :: r) (d :: ds)
theorem mapM_resR {N : Nat} {cx : Cx} {w : World} {a : Act} (hr : RelF E N cx ρ st a w) : ∀ {l : List ResultVar} {ds : List D}, ResR E ρ st l ds →
    ∃ vs, (l.mapM (oneRes a.tmps)).run E.P w = .ok vs w ∧ vs.length = ds.length ∧ ∀ (j : Nat) d x, ds[j]? = some d → vs[j]? = some x → Rd cx w d x := by
  have step : ∀ (r : ResultVar) (l : List ResultVar) (d : D) (ds : List D) (x : Value) (vs : List Value), (oneRes a.tmps r).run E.P w = .ok x w → Rd cx w d x → (l.mapM (oneRes a.tmps)).run E.P w = .ok vs w → vs.length = ds.length → (∀ (j : Nat) d x, ds[j]? = some d → vs[j]? = some x → Rd cx w d x) →
      ∃ vs, ((r :: l).mapM (oneRes a.tmps)).run E.P w = .ok vs w ∧ vs.length = (d :: ds).length ∧ ∀ (j : Nat) d' x, (d :: ds)[j]? = some d' → vs[j]? = some x → Rd cx w d' x := fun r l d ds x vs h1 h2 h3 h4 h5 => by
    refine ⟨x :: vs, by rw [List.mapM_cons, Sem.run_bind, h1]; simp only [Result.andThen_ok, Sem.run_bind]; rw [h3]; rfl, by simp [h4], fun j d' y hd hy => ?_⟩
    cases j with
    | zero => simp at hd hy; subst hd; subst hy; exact h2
    | succ j => exact h5 j d' y (by simpa using hd) (by simpa using hy)
  intro l ds h
  induction h with
  | nil => exact ⟨[], rfl, rfl, by simp⟩
  | @tmp t r ds h ih =>
    obtain ⟨vs, h1, h2, h3⟩ := ih
    exact step _ _ _ _ (a.tmps.getD t undef) vs rfl (hr.tmps t) h1 h2 h3
  | @cellS b ty n bb ss key cs r ds hT ha hb hg hn h ih =>
    obtain ⟨vs, h1, h2, h3⟩ := ih
    have hL := L.loadS (E := E) (U := ⟨default, 0, N⟩) (ρ := ρ) (st := st) (t := 0) (ty := 0) (pos := "") (af := #[]) (H := fun _ => true) (x := .tmp b) hT ha hb rfl hg (ds := cs) (by simp [← hn]) hn
    obtain ⟨x, hx, hrun⟩ := hL cx a w hr
    have := hrun w (fun _ _ _ _ => rfl)
    obtain ⟨bl, o, hbx, hev⟩ := hr.ptr (x := .tmp b) hb
    refine step _ _ _ _ x vs ?_ hx h1 h2 h3
    simp only [execOp, hev, Instr.loadAt, Instr.sureAddr, Sem.run_bind, Sem.run_pure, Result.andThen_ok] at this
    have hev' : a.tmps.getD b undef = .pointer (some ⟨bl, o + 0, none⟩) := hev
    simp only [oneRes, hev', Sem.run_bind, asAddr, Sem.run_pure, Result.andThen_ok]
    generalize (loadVar ty ⟨bl, o + 0, none⟩).run E.P w = rr at this
    cases rr with
    | ok y w2 => simp only [Result.andThen_ok, Result.ok.injEq, Next.value.injEq] at this; rw [this.1, this.2]
    | halt y w2 => cases this
  | @cell1 b ty n bb ss key cs d r ds hT ha hb hg hd h ih =>
    obtain ⟨vs, h1, h2, h3⟩ := ih
    have hL := L.load (E := E) (U := ⟨default, 0, N⟩) (ρ := ρ) (st := st) (t := 0) (ty := 0) (pos := "") (af := #[]) (H := fun _ => true) (x := .tmp b) hT ha hb rfl hg hd
    obtain ⟨x, hx, hrun⟩ := hL cx a w hr
    have := hrun w (fun _ _ _ _ => rfl)
    obtain ⟨bl, o, hbx, hev⟩ := hr.ptr (x := .tmp b) hb
    refine step _ _ _ _ x vs ?_ hx h1 h2 h3
    simp only [execOp, hev, Instr.loadAt, Instr.sureAddr, Sem.run_bind, Sem.run_pure, Result.andThen_ok] at this
    have hev' : a.tmps.getD b undef = .pointer (some ⟨bl, o + 0, none⟩) := hev
    simp only [oneRes, hev', Sem.run_bind, asAddr, Sem.run_pure, Result.andThen_ok]
    generalize (loadVar ty ⟨bl, o + 0, none⟩).run E.P w = rr at this
    cases rr with
    | ok y w2 => simp only [Result.andThen_ok, Result.ok.injEq, Next.value.injEq] at this; rw [this.1, this.2]
    | halt y w2 => cases this
theorem Fin_ofR {B : Base} {cx : Cx} {a : Act} {w : World} {ds : List D} {d' : D} (hres : ResR E ρ (fr :: st) U.fn.results.toList ds) (hw : Wk (resOf ds) d') (hall : d'.all (lv st.length) = true) (hF : F d' st)
    (hB : B.L = U.L) (hl : (fr :: st).length = U.L + 1) (he : Ext (lv B.L) B.cx B.w cx w) (hr : RelF E U.N cx ρ (fr :: st) a w) : a.defers = [] ∧ ∃ v, (results U.fn a.tmps).run E.P w = .ok v w ∧
      ∃ d st' cx' v', Ending.returned v = .returned v' ∧ F d st' ∧ st'.length = B.L ∧ Rel E cx' st' w ∧ Rd cx' w d v' ∧ Ext (fun _ => true) B.cx B.w cx' w := by
  obtain ⟨vs, h1, h2, h3⟩ := mapM_resR hr hres
  have hm : (U.fn.results.mapM (oneRes a.tmps)).run E.P w = .ok vs.toArray w := by
    rw [← Array.toArray_toList (xs := U.fn.results), List.mapM_toArray, Sem.run_map, h1]; rfl
  have hv : (results U.fn a.tmps).run E.P w = .ok (if h : vs.toArray.size = 1 then vs.toArray[0] else .tuple vs.toArray) w := by rw [results_eq, Sem.run_bind, hm]; rfl
  have hrd : Rd cx w (resOf ds) (if h : vs.toArray.size = 1 then vs.toArray[0] else .tuple vs.toArray) := by
    clear hm hv h1 hres hw
    match ds, vs, h2, h3 with
    | [d], [x], _, h3 => exact h3 0 d x rfl rfl
    | [], [], _, _ => exact .tup (vs := []) rfl (by simp)
    | d :: d' :: ds, x :: x' :: vs, h2, h3 =>
      rw [dif_neg (by simp)]
      exact .tup h2.symm h3
  have hlen : st.length = B.L := by simp at hl; omega
  refine ⟨hr.defers, _, hv, d', st, cx.cut st.length, _, rfl, hF, hlen, hr.rel.cut, (hw _ _ _ hrd).mono (Ext.cut cx w st.length) hall, ?_⟩
  have e2 := he.trans ((Ext.cut cx w st.length).weaken (fun k hk => by rw [hlen]; exact hk))
  refine ⟨e2.os, e2.tape, e2.output, e2.size, e2.block, e2.cell, e2.nomut, fun key l _ hl => ?_, fun key n l _ hl => ?_, e2.zz, e2.rowold, e2.fz⟩
  · by_cases hk : key.1 < B.L
    · exact e2.bx key l (by simp [lv, hk]) hl
    · rw [(B.dom key hk).1] at hl; cases hl
  · by_cases hk : key.1 < B.L
    · exact e2.tk key n l (by simp [lv, hk]) hl
    · rw [(B.dom key hk).2] at hl; cases hl
theorem AW.retR {ds : List D} {d' : D} (hres : ResR E ρ (fr :: st) U.fn.results.toList ds) (hw : Wk (resOf ds) d') (hall : d'.all (lv st.length) = true) (hF : F d' st) : AW E U (.code .ret :: k) F ρ (fr :: st) :=
  fun B cx a w hB hl he hr => wp_ret (kpost_ret (Fin_ofR hres hw hall hF hB hl he hr))
end
end Go.Mx
