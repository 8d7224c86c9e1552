/- Regions whose order is drawn, for the abstract state. No condition. -/
import Derived.Test.YtbifcdaablhljaaDoorMxN
namespace Go.Mx
set_option linter.unusedVariables false
set_option linter.unusedSimpArgs false
/-! ### regions whose order is drawn -/
/-- Everybody else comes up before number i. -/
def lastOp (ops : Array Oper) (i : Nat) : Bool :=
  match ops[i]? with
  | none => false
  | some o => (List.range ops.size).all fun k => Nat.beq k i || o.after.toList.any fun e => Region.binds .any e && Nat.beq e.on k
theorem lastOp_spec {ops : Array Oper} {i : Nat} (h : lastOp ops i = true) : ∃ o, ops[i]? = some o ∧ ∀ k, k < ops.size → k ≠ i → ∃ e ∈ o.after, Region.binds .any e = true ∧ e.on = k := by
  unfold lastOp at h
  split at h
  · cases h
  · rename_i o ho
    refine ⟨o, ho, fun k hk hne => ?_⟩
    rw [List.all_eq_true] at h
    have := h k (List.mem_range.2 hk)
    simp only [Bool.or_eq_true, List.any_eq_true, Bool.and_eq_true] at this
    rcases this with h1 | ⟨e, h1, h2, h3⟩
    · exact absurd (Nat.eq_of_beq_eq_true h1) hne
    · exact ⟨e, by simpa using h1, h2, Nat.eq_of_beq_eq_true h3⟩
def wpAnyG (P : Program) (ops : Array Oper) (Q : Exit → Act → World → Prop) (S : World → Prop) : Nat → Array Bool → Act → World → Prop
  | 0, listed, a, w => Region.ready .any ops listed = [] ∧ Q .normal a w
  | fuel + 1, listed, a, w =>
    (Region.ready .any ops listed = [] → Q .normal a w) ∧
    ∀ i ∈ Region.ready .any ops listed, wpOp P ops Q i (fun a' w' => (lastOp ops i = true ∧ Q .normal a' w') ∨ (S w' ∧ wpAnyG P ops Q S fuel (listed.setIfInBounds i true) a' w')) a w
section
variable {P : Program} {ops : Array Oper} {Q : Exit → Act → World → Prop} {S S' : World → Prop}
theorem ready_last {i : Nat} {listed : Array Bool} (hl : lastOp ops i = true) (hi : i ∈ Region.ready .any ops listed) : Region.ready .any ops (listed.setIfInBounds i true) = [] := by
  obtain ⟨o, ho, hall⟩ := lastOp_spec hl
  obtain ⟨h0, o', ho', h1⟩ := mem_ready.1 hi
  rw [ho] at ho'; cases ho'
  have hil : i < listed.size := by
    rcases Nat.lt_or_ge i listed.size with h | h
    · exact h
    · simp [Array.getElem?_eq_none h] at h0
  apply List.eq_nil_iff_forall_not_mem.2
  intro j hj
  obtain ⟨g0, oj, hoj, _⟩ := mem_ready.1 hj
  by_cases hji : j = i
  · subst hji
    simp [hil] at g0
  · rw [getD_set_ne true (Ne.symm hji)] at g0
    obtain ⟨e, he, hb, hon⟩ := hall j (Array.getElem?_eq_some_iff.1 hoj).1 hji
    have := h1 e he hb
    rw [hon] at this
    rcases Nat.lt_or_ge j listed.size with h | h
    · simp [h] at g0 this; rw [g0] at this; cases this
    · simp [Array.getElem?_eq_none h] at this
theorem wpAny_of_G : ∀ (fuel : Nat) (listed : Array Bool) (a : Act) (w : World), wpAnyG P ops Q S fuel listed a w → wpAny P .any ops Q fuel listed a w
  | 0, _, _, _, h => h
  | fuel + 1, _, _, _, h => ⟨h.1, fun i hi => wpOp_mono (fun a' w' h' => by
      rcases h' with ⟨h1, h2⟩ | h'
      · have := ready_last h1 hi
        cases fuel with
        | zero => exact ⟨this, h2⟩
        | succ n => exact ⟨fun _ => h2, by rw [this]; simp⟩
      · exact wpAny_of_G fuel _ a' w' h'.2) (h.2 i hi)⟩
theorem wpAnyG_mono (hS : ∀ w, S w → S' w) : ∀ (fuel : Nat) (listed : Array Bool) (a : Act) (w : World), wpAnyG P ops Q S fuel listed a w → wpAnyG P ops Q S' fuel listed a w
  | 0, _, _, _, h => h
  | fuel + 1, _, _, _, h => ⟨h.1, fun i hi => wpOp_mono (fun a' w' h' => by
      rcases h' with h' | ⟨h1, h2⟩
      · exact .inl h'
      · exact .inr ⟨hS _ h1, wpAnyG_mono hS fuel _ a' w' h2⟩) (h.2 i hi)⟩
theorem wpAnyG_first {i : Nat} {oi : Oper} {v : Value} (hi : ops[i]? = some oi) (hsel : ∀ (j : Nat) (o : Oper) cs b, ops[j]? = some o → o.op ≠ .select cs b)
    (hQ : ∀ c a w, Q (.panic c) (a.put oi.dst v) w → Q (.panic c) a w) :
    ∀ (fuel : Nat) (listed : Array Bool) (a : Act) (w : World),
      (∀ j oj, ops[j]? = some oj → j ≠ i → listed.getD j true = false → (∀ e ∈ oj.after, Region.binds .any e = true → e.on ≠ i) → oi.apart ops oj = true) →
      i ∈ Region.ready .any ops listed → YieldsIf P ops S oi v a → S w →
      wpAnyG P ops Q S fuel (listed.setIfInBounds i true) (a.put oi.dst v) w → wpAnyG P ops Q S (fuel + 1) listed a w := by
  intro fuel
  induction fuel with
  | zero =>
    intro listed a w _ hr hy hS H
    refine ⟨fun h => (by rw [h] at hr; cases hr), fun j hj => ?_⟩
    by_cases hji : j = i
    · subst hji; exact hy.wpOp hi hS (.inr ⟨hS, H⟩)
    · have := ready_mono hj hji
      rw [H.1] at this
      cases this
  | succ fuel ih =>
    intro listed a w hfree hr hy hS H
    refine ⟨fun h => (by rw [h] at hr; cases hr), fun j hj => ?_⟩
    by_cases hji : j = i
    · subst hji; exact hy.wpOp hi hS (.inr ⟨hS, H⟩)
    · have h1 := H.2 j (ready_mono hj hji)
      obtain ⟨hjun, oj, hoj, hall⟩ := mem_ready.1 hj
      have hnot : ∀ e ∈ oj.after, Region.binds .any e = true → e.on ≠ i := fun e he hb heq => by
        have h1 := hall e he hb
        have h0 := (mem_ready.1 hr).1
        rw [heq] at h1
        rcases Nat.lt_or_ge i listed.size with h' | h'
        · simp [h'] at h0 h1; rw [h0] at h1; cases h1
        · simp [Array.getElem?_eq_none h'] at h1
      have h2 := wpOp_putIf hoj (hfree j oj hoj hji hjun hnot) (fun cs b => hsel i oi cs b hi) (fun cs b => hsel j oj cs b hoj) hQ hy h1
      have hfree' : ∀ k ok, ops[k]? = some ok → k ≠ i → (listed.setIfInBounds j true).getD k true = false →
          (∀ e ∈ ok.after, Region.binds .any e = true → e.on ≠ i) → oi.apart ops ok = true := fun k ok hk hki hun hno => by
        refine hfree k ok hk hki ?_ hno
        by_cases hjk : j = k
        · subst hjk; exact hjun
        · rw [getD_set_ne true hjk] at hun; exact hun
      refine wpOp_mono (fun a' w' h3 => ?_) h2
      obtain ⟨hy', h3⟩ := h3
      rcases h3 with ⟨h4, _⟩ | ⟨hS', h4⟩
      · obtain ⟨o, ho, hal⟩ := lastOp_spec h4
        rw [hoj] at ho; cases ho
        obtain ⟨e, he, hb, hon⟩ := hal i (Array.getElem?_eq_some_iff.1 hi).1 (Ne.symm hji)
        exact absurd hon (hnot e he hb)
      · refine .inr ⟨hS', ih (listed.setIfInBounds j true) a' w' hfree' (ready_mono hr (Ne.symm hji)) hy' hS' ?_⟩
        rw [Array.setIfInBounds_comm _ _ hji]
        exact h4
end
theorem kpost_panic {P : Program} {G : (Env → St → Prop) → Act → World → Prop} {Q : Exit → Act → World → Prop} {c : List PanicEntry} {a : Act} {w : World} :
    ∀ {k : List KI}, kpost P G k Q (.panic c) a w ↔ Q (.panic c) a w := by
  intro k
  induction k with
  | nil => exact Iff.rfl
  | cons x k ih => cases x <;> exact ih
def Sh (cx : Cx) (fr : Fr) (st : St) (w : World) (w' : World) : Prop :=
  ∀ b o, b < w.heap.size → Hd cx (fr :: st) (hid st.length fr) b o → w'.cell? ⟨b, o, none⟩ = w.cell? ⟨b, o, none⟩
def AH (E : Setting) (U : Fun) (k : List KI) (F : D → St → Prop) (ops : Array Oper) (n : Nat) (listed : Array Bool) (ρ : Env) (fr : Fr) (st : St) : Prop :=
  ∀ (B : Base) cx a w, B.L = U.L → st.length = U.L → Ext (lv B.L) B.cx B.w cx w → RelF E U.N cx ρ (fr :: st) a w →
    wpAnyG E.P ops (kpost E.P (Gc E U.N B) k (Fin E U.fn F B)) (Sh cx fr st w) n listed a w
def AO (E : Setting) (U : Fun) (k : List KI) (F : D → St → Prop) (ops : Array Oper) (n : Nat) (listed : Array Bool) (ρ : Env) (fr : Fr) (st : St) (i : Nat) : Prop :=
  ∀ (B : Base) cx a w, B.L = U.L → st.length = U.L → Ext (lv B.L) B.cx B.w cx w → RelF E U.N cx ρ (fr :: st) a w →
    wpOp E.P ops (kpost E.P (Gc E U.N B) k (Fin E U.fn F B)) i (fun a' w' => (lastOp ops i = true ∧ kpost E.P (Gc E U.N B) k (Fin E U.fn F B) .normal a' w') ∨
      (Sh cx fr st w w' ∧ wpAnyG E.P ops (kpost E.P (Gc E U.N B) k (Fin E U.fn F B)) (Sh cx fr st w) n (listed.setIfInBounds i true) a' w')) a w
def AOs (E : Setting) (U : Fun) (k : List KI) (F : D → St → Prop) (ops : Array Oper) (n : Nat) (listed : Array Bool) (ρ : Env) (fr : Fr) (st : St) : List Nat → Prop
  | [] => True
  | i :: r => AO E U k F ops n listed ρ fr st i ∧ AOs E U k F ops n listed ρ fr st r
theorem Sh.refl {cx : Cx} {fr : Fr} {st : St} {w : World} : Sh cx fr st w w := fun _ _ _ _ => rfl
section
variable {E : Setting} {U : Fun} {F : D → St → Prop} {k : List KI} {ρ : Env} {fr : Fr} {st : St} {ops : Array Oper} {n : Nat} {listed : Array Bool}
theorem RelF.drawn {N : Nat} {cx : Cx} {a : Act} {w : World} (hr : RelF E N cx ρ st a w) : RelF E N cx ρ st a { w with drawn := w.drawn + 1 } ∧ Ext (fun _ => true) cx w cx { w with drawn := w.drawn + 1 } := by
  have he : Ext (fun _ => true) cx w cx { w with drawn := w.drawn + 1 } :=
    ⟨rfl, rfl, rfl, Nat.le_refl _, fun _ _ _ => rfl, fun _ _ _ _ => rfl, fun _ _ _ h => h, fun _ _ _ h => h, fun k n l _ h => ⟨n, l, h, Nat.le_refl _, fun _ => rfl⟩, rfl, fun k n e g c z h _ => ⟨k, n, e, c, z, h⟩, fun _ _ _ => rfl⟩
  have r := hr.rel
  refine ⟨hr.ext he ⟨fun k cs h => ?_, r.tok, r.foot, r.sep, r.domb, r.domt, r.mlt, r.nz, r.zm, r.bxlt, r.apart, r.rows, fun g => (r.glob g).mono he (RelF.ext.all_true _)⟩, he⟩
  obtain ⟨h1, b, o, h2, h3⟩ := r.cells k cs h
  refine ⟨h1, b, o, h2, fun j d hj => ?_⟩
  obtain ⟨x, hx, hrd⟩ := h3 j d hj
  exact ⟨x, hx, hrd.mono he (RelF.ext.all_true _)⟩
theorem AW.regionD {id : Nat} (hm : E.P.follows .mixedOrders = true) (hn : ops.size = n) (h : AH E U k F ops n (Array.replicate n false) ρ fr st) : AW E U (.code (.region id ops true) :: k) F ρ (fr :: st) :=
  fun B cx a w hB hl he hr => by
    obtain ⟨hr', he'⟩ := hr.drawn
    subst hn
    exact wp_region_any hm (wpAny_of_G _ _ _ _ (h B cx a _ hB (by simp at hl; omega) (he.trans (he'.weaken fun _ _ => rfl)) hr'))
theorem AH.done (hr0 : Region.ready .any ops listed = []) (h : AW E U k F ρ (fr :: st)) : AH E U k F ops n listed ρ fr st :=
  fun B cx a w hB hl he hr => by
    have := h B cx a w hB (by simp; omega) he hr
    cases n with
    | zero => exact ⟨hr0, this⟩
    | succ n => exact ⟨fun _ => this, by rw [hr0]; simp⟩
theorem hQ_panic {B : Base} {N : Nat} {fn : Func} {dst : Option Nat} {v : Value} : ∀ c a w, kpost E.P (Gc E N B) k (Fin E fn F B) (.panic c) (a.put dst v) w → kpost E.P (Gc E N B) k (Fin E fn F B) (.panic c) a w := fun c a w h => by
  rw [kpost_panic] at h ⊢
  obtain ⟨_, d, st', cx', v, hv, _⟩ := h
  cases hv
/-- A reading is taken first. -/
theorem AH.take (i : Nat) {t : Nat} {op : Op} {ty : TypeId} {pos : String} {af : Array Edge} {d : D} {listed' : Array Bool} (hi : ops[i]? = some ⟨some t, op, ty, pos, af, none⟩) (hs : Region.noSelect ops = true) (hf : Region.free .any ops listed i = true)
    (hrd : (Region.ready .any ops listed).contains i = true) (hset : listed.setIfInBounds i true = listed') (ht : Nat.blt t U.N = true) (hL : LOk E U ρ (fr :: st) (hid st.length fr) ⟨some t, op, ty, pos, af, none⟩ d)
    (h : AH E U k F ops n listed' (upd ρ t d) fr st) : AH E U k F ops (n + 1) listed ρ fr st :=
  fun B cx a w hB hl he hr => by
    subst hset
    obtain ⟨x, hx, hrun⟩ := hL cx a w hr
    refine wpAnyG_first (v := x) hi (Region.noSelect_spec hs) hQ_panic n listed a w (Region.free_spec hi hf) (by simpa using hrd) (.inl ⟨rfl, fun w' hw' => hrun w' hw'⟩) Sh.refl ?_
    exact h B cx (a.put (some t) x) w hB hl he (put_rd hr ht hx)
/-- Whichever comes up. -/
theorem AH.all {rs : List Nat} (hr0 : Region.ready .any ops listed = rs) (hne : rs ≠ []) (h : AOs E U k F ops n listed ρ fr st rs) : AH E U k F ops (n + 1) listed ρ fr st :=
  fun B cx a w hB hl he hr => by
    refine ⟨fun h0 => absurd (hr0 ▸ h0) hne, fun i hi => ?_⟩
    rw [hr0] at hi
    have hall : ∀ (rs : List Nat), AOs E U k F ops n listed ρ fr st rs → ∀ i ∈ rs, AO E U k F ops n listed ρ fr st i := fun rs => by
      induction rs with
      | nil => intro _ i hi; cases hi
      | cons j r ih =>
        intro h i hi
        cases hi with
        | head => exact h.1
        | tail _ hi => exact ih h.2 i hi
    exact hall rs h i hi B cx a w hB hl he hr
/-- The last of a region. -/
theorem AO.last {i : Nat} {o : Oper} {ρ' : Env} {st' : St} (hi : ops[i]? = some o) (hl0 : lastOp ops i = true) (hS : SOk E U ρ (fr :: st) o ρ' st') (h : AW E U k F ρ' st') : AO E U k F ops n listed ρ fr st i :=
  fun B cx a w hB hl he hr => by
    obtain ⟨hg, hlen, hS⟩ := hS
    obtain ⟨nx, w', cx', x, h1, h2, h3, h4⟩ := hS cx a w hr
    have hk := h B cx' (a.put o.dst x) w' hB (by simp at hlen; omega) (he.trans (h4.weaken fun _ _ => rfl)) h3
    unfold wpOp
    simp only [hi]
    rw [if_pos (by simp [Region.wanted, hg])]
    left
    unfold Oper.wp
    rw [h1]
    rcases h2 with rfl | ⟨rfl, rfl⟩
    · exact .inl ⟨hl0, hk⟩
    · exact .inl ⟨hl0, hk⟩
theorem Sh.next {cx cx' : Cx} {fr fr' : Fr} {st st' : St} {w w' : World} (hl : st'.length = st.length) (hc : Sh cx fr st w w') (he : Ext (fun _ => true) cx w cx' w') (hfr : ∀ t cs, fr t = some (.cells cs) → fr' t = some (.cells cs)) :
    ∀ w2, Sh cx' fr' st' w' w2 → Sh cx fr st w w2 := fun w2 h b o hb hd => by
  refine (h b o (Nat.lt_of_lt_of_le hb he.size) ?_).trans (hc b o hb hd)
  rcases hd with hd | ⟨key, h1, h2⟩
  · exact .inl (he.nomut b o hb hd)
  · obtain ⟨h3, cs, h4⟩ := hid_spec h1
    refine .inr ⟨key, ?_, ?_⟩
    · unfold hid isC
      rw [hfr _ _ h4, h3, hl]; simp
    · rcases h2 with ⟨cs', o0, q1, q2, q3⟩ | ⟨_, _, _, _, q1, _⟩
      · simp only [St.get, h3, if_true, h4] at q1
        cases q1
        exact .inl ⟨cs, o0, by simp only [St.get, h3, hl, if_true]; exact hfr _ _ h4, he.bx _ _ rfl q2, q3⟩
      · simp only [St.get, h3, if_true, h4] at q1; cases q1
theorem join_keeps {fr fr' : Fr} : ∀ t cs, fr t = some (.cells cs) → joinFr fr fr' t = some (.cells cs) := fun t cs h => by unfold joinFr; rw [h]
/-- What an operation needs of the temporaries, the frame's variables put aside. -/
theorem RelF.hide {N : Nat} {cx : Cx} {a : Act} {w : World} {l : List (Nat × D)} (hr : RelF E N cx ρ (fr :: st) a w) (hw : WkE ρ l) (ha : allE (vis st.length fr) l = true) : RelF E N (cx.hide fr st) (mkEnv l) (hideFr fr :: st) a w :=
  ⟨hr.rel.hide, hr.size, fun t => (hw.out t _ _ _ (hr.tmps t)).monoR hide_r (allE_out ha t), hr.defers⟩
/-- An operation with an effect, the frame's variables put aside. -/
theorem AO.s {i : Nat} {t : Nat} {op : Op} {ty : TypeId} {pos : String} {af : Array Edge} {d : D} {fr1 : Fr} {st1 : St} (l : List (Nat × D)) {listed' : Array Bool} (hi : ops[i]? = some ⟨some t, op, ty, pos, af, none⟩) (hset : listed.setIfInBounds i true = listed') (hw : WkE ρ l) (ha : allE (vis st.length fr) l = true)
    (ht : Nat.blt t U.N = true) (hS : SOk E U (mkEnv l) (hideFr fr :: st) ⟨some t, op, ty, pos, af, none⟩ (upd (mkEnv l) t d) (fr1 :: st1)) (hN : ∀ t cs, fr t = some (.cells cs) → fr1 t = none) {fr2 : Fr} (hfr : joinFr fr fr1 = fr2)
    (h : AH E U k F ops n listed' (upd ρ t d) fr2 st1) : AO E U k F ops n listed ρ fr st i :=
  fun B cx a w hB hl he hr => by
    subst hset; subst hfr
    obtain ⟨hg, hlen, hS⟩ := hS
    obtain ⟨nx, w', cx', x, h1, h2, h3, h4⟩ := hS _ a w (hr.hide hw ha)
    have hlen' : st1.length = st.length := by simpa using hlen
    obtain ⟨cx'', r2, e2, u2, c2⟩ := hr.rel.show h4 h3.rel hlen' hN
    have hd : Rd cx'' w' d x := by
      have := (h3.tmps t).monoR u2 (RelF.ext.all_true _)
      rw [upd_same] at this
      have hput : (a.put (some t) x).tmps.getD t undef = x := by
        have ht' : t < a.tmps.size := by rw [hr.size]; exact Nat.le_of_ble_eq_true ht
        simp [Act.put, Array.getElem?_setIfInBounds_self_of_lt ht']
      rwa [hput] at this
    have hr2 := put_rd (hr.ext e2 r2) ht hd
    have hk := h B cx'' _ w' hB (by omega) (he.trans (e2.weaken fun _ _ => rfl)) hr2
    have hnext := wpAnyG_mono (Sh.next hlen' c2 e2 join_keeps) _ _ _ _ hk
    unfold wpOp
    simp only [hi]
    rw [if_pos (by simp [Region.wanted])]
    left
    unfold Oper.wp
    rw [h1]
    rcases h2 with rfl | ⟨rfl, rfl⟩
    · exact .inr ⟨c2, hnext⟩
    · exact .inr ⟨c2, hnext⟩
/-- A call, the frame's variables put aside. -/
theorem AO.callF {i : Nat} {t g : Nat} {ty : TypeId} {pos : String} {af : Array Edge} {fn : Func} {args : Array Operand} {ats : Array TypeId} {c : Code} {fo : Operand} {fs cs ds : List D} {listed' : Array Bool} (hi : ops[i]? = some ⟨some t, .call ⟨.value fo, args, ats⟩, ty, pos, af, none⟩) (hset : listed.setIfInBounds i true = listed')
    (ht : Nat.blt t U.N = true) (hg : E.P.funcs[g]? = some fn) (hb : fn.body = some c) (hn : (fn.name == "runtime.NumGoroutine") = false)
    (hfo : ev E ρ fo = .clo (.func g) fs cs) (hds : fs ++ args.toList.map (ev E ρ) ++ cs = ds) (ha : allL (vis st.length fr) ds = true)
    (hk : ACall E g ds (hideFr fr :: st) fun d st' => ∃ fr1 st1, st' = fr1 :: st1 ∧ (∀ t cs, fr t = some (.cells cs) → fr1 t = none) ∧ AH E U k F ops n listed' (upd ρ t d) (joinFr fr fr1) st1) : AO E U k F ops n listed ρ fr st i := by
  intro B cx a w hB hl he hr
  subst hset
  unfold wpOp
  simp only [hi]
  rw [if_pos (by simp [Region.wanted])]
  left
  unfold Oper.wp
  have hv := hr.eval fo
  rw [hfo] at hv
  generalize hfv : a.eval fo = fv at hv
  cases hv with
  | clo hf hcl hrf hrc =>
    rename_i fvs cvs
    have hrun : (execOp a.eval ⟨some t, .call ⟨.value fo, args, ats⟩, ty, pos, af, none⟩).run E.P w = .ok (.enter g (fvs.toArray ++ args.map a.eval ++ cvs.toArray)) w := by
      simp only [execOp, resolve, hfv, Deferred.ofValue, Sem.run_bind, Sem.run_pure, Result.andThen_ok, invoke, callFunc, run_program, hg]
      rw [if_neg (by rw [hn]; decide)]
      rw [hb]; rfl
    rw [hrun]
    have harr : fvs.toArray ++ args.map a.eval ++ cvs.toArray = (fvs ++ args.toList.map a.eval ++ cvs).toArray := by
      apply Array.ext'; simp
    rw [harr]
    rw [Oper.upon_enter]
    have hrd : RdL cx w ds (fvs ++ args.toList.map a.eval ++ cvs) := by
      subst hds
      refine ⟨by simp [hf, hcl], fun j d x hd hx => ?_⟩
      have hmid : ∀ (j : Nat) d x, (args.toList.map (ev E ρ))[j]? = some d → (args.toList.map a.eval)[j]? = some x → Rd cx w d x := fun j d x hd hx => by
        rw [List.getElem?_map, Option.map_eq_some_iff] at hd hx
        obtain ⟨o, ho, rfl⟩ := hd
        obtain ⟨o', ho', rfl⟩ := hx
        rw [ho] at ho'; cases ho'
        exact hr.eval o
      rw [List.append_assoc] at hd hx
      by_cases h1 : j < fs.length
      · rw [List.getElem?_append_left h1] at hd
        rw [List.getElem?_append_left (by omega)] at hx
        exact hrf j d x hd hx
      · rw [List.getElem?_append_right (by omega)] at hd
        rw [List.getElem?_append_right (by omega), ← hf] at hx
        by_cases h2 : j - fs.length < args.toList.length
        · rw [List.getElem?_append_left (by simpa using h2)] at hd hx
          exact hmid _ d x hd hx
        · rw [List.getElem?_append_right (by simp at h2 ⊢; omega)] at hd hx
          simp only [List.length_map] at hd hx
          exact hrc _ d x hd hx
    refine Calls.mono (hk _ w _ hr.rel.hide (hrd.hide ha)) ?_
    rintro e w' ⟨d, st', cx', v, rfl, ⟨fr1, st1, rfl, hN, hK⟩, hlen, hrel, hrdv, hext⟩
    have hlen' : st1.length = st.length := by simpa using hlen
    obtain ⟨cx'', r2, e2, u2, c2⟩ := hr.rel.show hext hrel hlen' hN
    have hr2 := put_rd (hr.ext e2 r2) ht (hrdv.monoR u2 (RelF.ext.all_true _))
    have := hK B cx'' _ w' hB (by omega) (he.trans (e2.weaken fun _ _ => rfl)) hr2
    exact .inr ⟨c2, wpAnyG_mono (Sh.next hlen' c2 e2 join_keeps) _ _ _ _ this⟩
theorem AO.call {i : Nat} {t g : Nat} {ty : TypeId} {pos : String} {af : Array Edge} {fn : Func} {args : Array Operand} {ats : Array TypeId} {c : Code} {ds : List D} {listed' : Array Bool} (hi : ops[i]? = some ⟨some t, .call ⟨.value (.func g), args, ats⟩, ty, pos, af, none⟩) (hset : listed.setIfInBounds i true = listed')
    (ht : Nat.blt t U.N = true) (hg : E.P.funcs[g]? = some fn) (hb : fn.body = some c) (hn : (fn.name == "runtime.NumGoroutine") = false)
    (hds : args.toList.map (ev E ρ) = ds) (ha : allL (vis st.length fr) ds = true)
    (hk : ACall E g ds (hideFr fr :: st) fun d st' => ∃ fr1 st1, st' = fr1 :: st1 ∧ (∀ t cs, fr t = some (.cells cs) → fr1 t = none) ∧ AH E U k F ops n listed' (upd ρ t d) (joinFr fr fr1) st1) : AO E U k F ops n listed ρ fr st i :=
  AO.callF hi hset ht hg hb hn (fs := []) (cs := []) rfl (by simpa using hds) ha hk
/-- The frame that comes back as it went. -/
theorem frame_same {st' : St} {Q : Fr → St → Prop} (h : Q fr st') : ∃ fr1 st1, hideFr fr :: st' = fr1 :: st1 ∧ (∀ t cs, fr t = some (.cells cs) → fr1 t = none) ∧ Q (joinFr fr fr1) st1 :=
  ⟨hideFr fr, st', rfl, hide_none, by rw [join_hide]; exact h⟩
end
end Go.Mx
