/- A walk over an abstract state of the machine, second part. No condition. -/
import Derived.Test.YtbifcdaablhljaaDoorMxOne
import Derived.Laws.MakeOwn
/- Ways that meet, guards, variables that fall away, for the abstract state. No condition. -/
namespace Go.Mx
set_option linter.unusedVariables false
set_option linter.unusedSimpArgs false
section
variable {E : Setting} {U : Fun} {F : D → St → Prop} {k : List KI} {ρ : Env} {fr : Fr} {st : St} {all : Array Oper} {rest : List Oper}
variable {t : Nat} {ty : TypeId} {pos : String} {af : Array Edge} {nn bb : Nat} {ss : Shp}
/-- Ways that meet again. -/
theorem AW.cut {c : Code} (I : Env → St → Prop) (h1 : AW E U (.code c :: .goal I :: k) F ρ st) (h2 : ∀ ρ' st', st'.length = U.L + 1 → I ρ' st' → AW E U k F ρ' st') : AW E U (.code c :: k) F ρ st := by
  intro B cx a w hB hl he hr
  refine Code.wp_mono (fun e a' w' h => ?_) (h1 B cx a w hB hl he hr)
  cases e with
  | normal =>
    obtain ⟨ρ', st', cx', hI, hl', hr', he'⟩ := h
    exact h2 ρ' st' (by omega) hI B cx' a' w' hB (by omega) he' hr'
  | _ => exact h
/-- A guarded operation. -/
theorem AW.guard {o : Oper} {j : Nat} {want b : Bool} {u : Nat} {dst : Option Nat} {op : Op} (hu : (all[j]?).bind (·.dst) = some u) (hN : Nat.blt u U.N = true) (hv : ρ u = .v (.bool b))
    (h1 : b = want → AW E U (.ops all (⟨dst, op, ty, pos, af, none⟩ :: rest) :: k) F ρ st)
    (h2 : b = !want → AW E U (.ops all (⟨dst, .assign (.const undef), ty, pos, af, none⟩ :: rest) :: k) F ρ st) :
    AW E U (.ops all (⟨dst, op, ty, pos, af, some (j, want)⟩ :: rest) :: k) F ρ st := by
  intro B cx a w hB hl he hr
  have hN' : u < a.tmps.size := by rw [hr.size]; exact Nat.le_of_ble_eq_true hN
  have hx := hr.tmps u
  rw [hv] at hx
  have hx := hx.v_inv
  rw [Array.getD_eq_getD_getElem?, Array.getElem?_eq_getElem hN'] at hx
  have hy : yielded all a.tmps j = some b := by
    unfold yielded
    rw [hu]
    simp only [Option.bind_some, Array.getElem?_eq_getElem hN']
    simp only [Option.getD_some] at hx
    rw [hx]
  suffices goal : wpList E.P all (kpost E.P (Gc E U.N B) k (Fin E U.fn F B)) ((⟨dst, op, ty, pos, af, some (j, want)⟩ : Oper) :: rest) a w from goal
  unfold wpList
  have hw : Region.wanted (⟨dst, op, ty, pos, af, some (j, want)⟩ : Oper) (yielded all a.tmps) = (b == want) := by
    simp only [Region.wanted, hy]; cases b <;> cases want <;> rfl
  rw [hw]
  cases hb : (b == want) with
  | true =>
    have h := h1 (by simpa using hb) B cx a w hB hl he hr
    have h : wpList E.P all (kpost E.P (Gc E U.N B) k (Fin E U.fn F B)) ((⟨dst, op, ty, pos, af, none⟩ : Oper) :: rest) a w := h
    unfold wpList at h
    rw [if_pos (by simp [Region.wanted])] at h
    rw [if_pos rfl]
    exact h
  | false =>
    have h := h2 (by cases b <;> cases want <;> simp_all) B cx a w hB hl he hr
    have h : wpList E.P all (kpost E.P (Gc E U.N B) k (Fin E U.fn F B)) ((⟨dst, .assign (.const undef), ty, pos, af, none⟩ : Oper) :: rest) a w := h
    unfold wpList at h
    rw [if_pos (by simp [Region.wanted])] at h
    rw [if_neg (by decide)]
    rcases h with h | ⟨h, _⟩
    · exact h
    · exact absurd h.1 (Array.not_mem_empty _)
/-- A guarded operation whose guard did not come up. -/
theorem AW.guardU {o : Oper} {j : Nat} {want : Bool} {u : Nat} {dst : Option Nat} {op : Op} (hu : (all[j]?).bind (·.dst) = some u) (hv : ρ u = .v undef)
    (h2 : AW E U (.ops all (⟨dst, .assign (.const undef), ty, pos, af, none⟩ :: rest) :: k) F ρ st) :
    AW E U (.ops all (⟨dst, op, ty, pos, af, some (j, want)⟩ :: rest) :: k) F ρ st := by
  intro B cx a w hB hl he hr
  have hx := hr.tmps u
  rw [hv] at hx
  have hx := hx.v_inv
  have hy : yielded all a.tmps j = none := by
    unfold yielded
    rw [hu]
    simp only [Option.bind_some]
    rw [Array.getD_eq_getD_getElem?] at hx
    cases hc : a.tmps[u]? with
    | none => rfl
    | some v => rw [hc] at hx; simp only [Option.getD_some] at hx; rw [hx]; rfl
  suffices goal : wpList E.P all (kpost E.P (Gc E U.N B) k (Fin E U.fn F B)) ((⟨dst, op, ty, pos, af, some (j, want)⟩ : Oper) :: rest) a w from goal
  unfold wpList
  rw [if_neg (by simp [Region.wanted, hy])]
  have h : wpList E.P all (kpost E.P (Gc E U.N B) k (Fin E U.fn F B)) ((⟨dst, .assign (.const undef), ty, pos, af, none⟩ : Oper) :: rest) a w := h2 B cx a w hB hl he hr
  unfold wpList at h
  rw [if_pos (by simp [Region.wanted])] at h
  rcases h with h | ⟨h, _⟩
  · exact h
  · exact absurd h.1 (Array.not_mem_empty _)
/-! ### what is known, made less -/
def mkEnv : List (Nat × D) → Env
  | [] => fun _ => .any
  | (t, d) :: r => upd (mkEnv r) t d
inductive WkE (ρ : Env) : List (Nat × D) → Prop
  | nil : WkE ρ []
  | cons {t d r} (h : Wk (ρ t) d) (hr : WkE ρ r) : WkE ρ ((t, d) :: r)
theorem WkE.same {ρ : Env} {t : Nat} {d : D} {r : List (Nat × D)} (h : ρ t = d) (hr : WkE ρ r) : WkE ρ ((t, d) :: r) := .cons (h ▸ Wk.refl _) hr
theorem WkE.out {ρ : Env} {l : List (Nat × D)} (h : WkE ρ l) : ∀ t, Wk (ρ t) (mkEnv l t) := by
  induction h with
  | nil => exact fun t => Wk.any _
  | cons h hr ih =>
    intro t
    simp only [mkEnv, upd]
    split
    · rename_i he; subst he; exact h
    · exact ih t
theorem AW.reset (l : List (Nat × D)) (hw : WkE ρ l) (h : AW E U k F (mkEnv l) st) : AW E U k F ρ st :=
  fun B cx a w hB hl he hr => h B cx a w hB hl he ⟨hr.rel, hr.size, fun t => hw.out t _ _ _ (hr.tmps t), hr.defers⟩
def allE (p : Key → Bool) : List (Nat × D) → Bool
  | [] => true
  | (_, d) :: r => d.all p && allE p r
theorem allE_out {p : Key → Bool} {l : List (Nat × D)} (h : allE p l = true) (t : Nat) : (mkEnv l t).all p = true := by
  induction l with
  | nil => rfl
  | cons x r ih =>
    obtain ⟨u, d⟩ := x
    simp only [allE, Bool.and_eq_true] at h
    simp only [mkEnv, upd]
    split
    · exact h.1
    · exact ih h.2
/-- Every variable of a frame holds data whose keys meet p. -/
def FrAll (p : Key → Bool) (fr : Fr) : Prop := ∀ t cs, fr t = some (.cells cs) → allL p cs = true
theorem FrAll.empty {p : Key → Bool} : FrAll p (fun _ => none) := fun _ _ h => by cases h
theorem FrAll.upd {p : Key → Bool} {fr : Fr} {t : Nat} {cs : List D} (h : FrAll p fr) (hc : allL p cs = true) : FrAll p (fr.upd t (some (.cells cs))) := fun u c hu => by
  unfold Fr.upd at hu
  split at hu
  · cases hu; exact hc
  · exact h u c hu
theorem FrAll.updT {p : Key → Bool} {fr : Fr} {t n e : Nat} (h : FrAll p fr) : FrAll p (fr.upd t (some (.tok n e))) := fun u c hu => by
  unfold Fr.upd at hu
  split at hu
  · cases hu
  · exact h u c hu
theorem FrAll.updN {p : Key → Bool} {fr : Fr} {t : Nat} (h : FrAll p fr) : FrAll p (fr.upd t none) := fun u c hu => by
  unfold Fr.upd at hu
  split at hu
  · cases hu
  · exact h u c hu
def notKey (L t : Nat) : Key → Bool := fun k => !(decide (k.2 = t) && decide (k.1 = L))
theorem notKey_spec {L t : Nat} {k : Key} : notKey L t k = true ↔ k ≠ (L, t) := by
  unfold notKey
  obtain ⟨a, b⟩ := k
  simp only [Bool.not_eq_true', Bool.and_eq_false_iff, decide_eq_false_iff_not, ne_eq, Prod.mk.injEq]
  constructor
  · rintro (h | h) ⟨rfl, rfl⟩ <;> exact h rfl
  · intro h
    by_cases hb : b = t
    · right; intro ha; exact h ⟨ha, hb⟩
    · left; exact hb
/-- A variable (or a token) of this frame that nobody knows any more falls away. -/
theorem AW.drop {l : List (Nat × D)} (u : Nat) (hE : allE (notKey st.length u) l = true) (hF : FrAll (notKey st.length u) (fr.upd u none)) (h : AW E U k F (mkEnv l) (fr.upd u none :: st)) : AW E U k F (mkEnv l) (fr :: st) := by
  intro B cx a w hB hl he hr
  have hget : ∀ key, key ≠ (st.length, u) → St.get (fr.upd u none :: st) key = St.get (fr :: st) key := fun key hk => by
    simp only [St.get]
    split
    · rename_i h1
      exact Fr.upd_ne _ _ _ _ (fun h2 => hk (Prod.ext h1 h2))
    · rfl
  have hget0 : St.get (fr.upd u none :: st) (st.length, u) = none := get_top.trans (Fr.upd_same _ _ _)
  let cx' : Cx := { bx := fun k => if k = (st.length, u) then none else cx.bx k, tk := fun k => if k = (st.length, u) then none else cx.tk k, M := cx.M, Z := cx.Z }
  have hext : Ext (notKey st.length u) cx w cx' w := by
    refine ⟨rfl, rfl, rfl, Nat.le_refl _, fun _ _ _ => rfl, fun _ _ _ _ => rfl, fun _ _ _ h => h, fun key l hk h => ?_, fun key n l hk h => ⟨n, l, ?_, Nat.le_refl _, fun _ => rfl⟩, rfl, fun key n e g c z h _ => ⟨key, n, e, c, z, ?_⟩, fun _ _ _ => rfl⟩
    · show (if key = (st.length, u) then none else cx.bx key) = _
      rw [if_neg (notKey_spec.1 hk)]; exact h
    · show (if key = (st.length, u) then none else cx.tk key) = _
      rw [if_neg (notKey_spec.1 hk)]; exact h
    · have h : (if key = (st.length, u) then none else cx.tk key) = some (n, e, some (g, c, z)) := h
      split at h
      · cases h
      · exact h
  have r := hr.rel
  have hcontent : ∀ key cs, key ≠ (st.length, u) → St.get (fr :: st) key = some (.cells cs) → allL (notKey st.length u) cs = true := fun key cs hk hg => by
    by_cases h1 : key.1 = st.length
    · have : fr.upd u none key.2 = some (.cells cs) := by
        rw [Fr.upd_ne _ _ _ _ (fun h2 => hk (Prod.ext h1 h2))]
        simp only [St.get, h1, if_true] at hg; exact hg
      exact hF _ _ this
    · have h2 := (r.cells key cs hg).1
      have h3 : key.1 < (fr :: st).length := by
        rcases Nat.lt_or_ge key.1 (fr :: st).length with h | h
        · exact h
        · rw [St.get_ge h] at hg; cases hg
      refine (all_mono (fun q hq => notKey_spec.2 (fun e => ?_))).2.1 _ h2
      simp only [lv, decide_eq_true_eq, e] at hq
      simp at h3
      omega
  have hfoot : ∀ key b o, Mx.foot cx' (fr.upd u none :: st) key b o → key ≠ (st.length, u) ∧ Mx.foot cx (fr :: st) key b o := fun key b o h => by
    have hne : key ≠ (st.length, u) := fun e => by
      subst e
      rcases h with ⟨cs, o0, h1, _⟩ | ⟨n, e, c, z, h1, _⟩ <;> (rw [hget0] at h1; cases h1)
    refine ⟨hne, ?_⟩
    rcases h with ⟨cs, o0, h1, h2, h3⟩ | ⟨n, e, c, z, h1, h2, h3⟩
    · rw [hget key hne] at h1
      have h2 : (if key = (st.length, u) then none else cx.bx key) = some (b, o0) := h2
      rw [if_neg hne] at h2
      exact .inl ⟨cs, o0, h1, h2, h3⟩
    · rw [hget key hne] at h1
      have h2 : (if key = (st.length, u) then none else cx.tk key) = some (n, e, some (b, c, z)) := h2
      rw [if_neg hne] at h2
      exact .inr ⟨n, e, c, z, h1, h2, h3⟩
  have hne_of : ∀ key o, St.get (fr.upd u none :: st) key = some o → key ≠ (st.length, u) := fun key o h e => by
    subst e; rw [hget0] at h; cases h
  have hrel : Rel E cx' (fr.upd u none :: st) w := by
    refine ⟨fun key cs h => ?_, fun key n e h => ?_, fun key b o h => r.foot key b o (hfoot _ _ _ h).2, fun k1 k2 b o h h' => r.sep _ _ b o (hfoot _ _ _ h).2 (hfoot _ _ _ h').2, fun key l h => ?_, fun key l h => ?_, r.mlt, fun key b o h => r.nz key b o (hfoot _ _ _ h).2, r.zm, fun key b o h => ?_,
      fun k1 k2 b o n e g c z h h' => ?_, fun k1 k2 n e n' e' g c z c' z' h h' => ?_, fun g => (r.glob g).mono hext ((all_mono (fun q hq => by cases hq)).1 _ (E.keyless g))⟩
    · have hne := hne_of _ _ h
      rw [hget key hne] at h
      obtain ⟨h1, b, o, h2, h3⟩ := r.cells key cs h
      refine ⟨h1, b, o, (if_neg hne).trans h2, fun j d hj => ?_⟩
      obtain ⟨x, hx, hrd⟩ := h3 j d hj
      exact ⟨x, hx, hrd.mono hext (allL_get (hcontent key cs hne h) hj)⟩
    · have hne := hne_of _ _ h
      rw [hget key hne] at h
      obtain ⟨tl, h1, h2⟩ := r.tok key n e h
      exact ⟨tl, (if_neg hne).trans h1, h2⟩
    · have h : (if key = (st.length, u) then none else cx.bx key) = some l := h
      split at h
      · cases h
      · rename_i hne
        obtain ⟨cs, hcs⟩ := r.domb key l h
        exact ⟨cs, (hget key hne).trans hcs⟩
    · have h : (if key = (st.length, u) then none else cx.tk key) = some l := h
      split at h
      · cases h
      · rename_i hne
        obtain ⟨n, e, hcs⟩ := r.domt key l h
        exact ⟨n, e, (hget key hne).trans hcs⟩
    · have h : (if key = (st.length, u) then none else cx.bx key) = some (b, o) := h
      split at h
      · cases h
      · exact r.bxlt _ _ _ h
    · have h : (if k1 = (st.length, u) then none else cx.bx k1) = some (b, o) := h
      have h' : (if k2 = (st.length, u) then none else cx.tk k2) = some (n, e, some (g, c, z)) := h'
      split at h <;> split at h' <;> first | exact r.apart _ _ _ _ _ _ _ _ _ h h' | cases h | cases h'
    · have h : (if k1 = (st.length, u) then none else cx.tk k1) = some (n, e, some (g, c, z)) := h
      have h' : (if k2 = (st.length, u) then none else cx.tk k2) = some (n', e', some (g, c', z')) := h'
      split at h <;> split at h' <;> first | exact r.rows _ _ _ _ _ _ _ _ _ _ _ h h' | cases h | cases h'
  have hlen : st.length = U.L := by simp at hl; omega
  refine h B cx' a w hB (by simpa using hl) (he.trans (hext.weaken fun key hk => notKey_spec.2 (fun e => ?_))) ⟨hrel, hr.size, fun v => (hr.tmps v).mono hext (allE_out hE v), hr.defers⟩
  subst e
  simp only [lv, decide_eq_true_eq] at hk
  omega
end
end Go.Mx

/- The variables of a frame put aside during a call, for the abstract state. No condition. -/
namespace Go.Mx
set_option linter.unusedVariables false
set_option linter.unusedSimpArgs false
/-! ### the variables of a frame, put aside -/
def isC : Option AObj → Bool
  | some (.cells _) => true
  | _ => false
def hideFr (fr : Fr) : Fr := fun t => match fr t with
  | some (.cells _) => none
  | o => o
def hid (L : Nat) (fr : Fr) : Key → Bool := fun k => isC (fr k.2) && Nat.beq k.1 L
def vis (L : Nat) (fr : Fr) : Key → Bool := fun k => !hid L fr k
def joinFr (fr fr' : Fr) : Fr := fun t => match fr t with
  | some (.cells cs) => some (.cells cs)
  | _ => fr' t
theorem hid_spec {L : Nat} {fr : Fr} {k : Key} (h : hid L fr k = true) : k.1 = L ∧ ∃ cs, fr k.2 = some (.cells cs) := by
  unfold hid at h
  simp only [Bool.and_eq_true] at h
  refine ⟨Nat.eq_of_beq_eq_true h.2, ?_⟩
  have := h.1
  unfold isC at this
  split at this
  · rename_i cs hc; exact ⟨cs, hc⟩
  · cases this
theorem hid_of {fr : Fr} {st : St} {k : Key} {cs : List D} (h : St.get (fr :: st) k = some (.cells cs)) (hk : k.1 = st.length) : hid st.length fr k = true := by
  simp only [St.get, hk, if_true] at h
  unfold hid isC
  rw [h, hk]; simp
theorem get_hide {fr : Fr} {st : St} {k : Key} : St.get (hideFr fr :: st) k = if hid st.length fr k = true then none else St.get (fr :: st) k := by
  by_cases hk : k.1 = st.length
  · simp only [St.get, hk, if_true]
    unfold hid isC hideFr
    cases hf : fr k.2 with
    | none => simp
    | some o => cases o <;> simp [hk]
  · simp only [St.get, hk, if_false]
    rw [if_neg (fun h => hk (hid_spec h).1)]
theorem get_join {fr fr' : Fr} {st st' : St} (hl : st'.length = st.length) {k : Key} : St.get (joinFr fr fr' :: st') k = if hid st.length fr k = true then St.get (fr :: st) k else St.get (fr' :: st') k := by
  by_cases hk : k.1 = st.length
  · simp only [St.get, hk, hl, if_true]
    unfold hid isC joinFr
    cases hf : fr k.2 with
    | none => simp
    | some o => cases o <;> simp [hk]
  · simp only [St.get, hk, hl, if_false]
    rw [if_neg (fun h => hk (hid_spec h).1)]
def Cx.hide (cx : Cx) (fr : Fr) (st : St) : Cx :=
  { bx := fun k => if hid st.length fr k = true then none else cx.bx k, tk := cx.tk, M := cx.M, Z := fun b o => cx.Z b o ∨ ∃ k, hid st.length fr k = true ∧ foot cx (fr :: st) k b o }
theorem hide_r {cx : Cx} {fr : Fr} {st : St} {w : World} : ExtR (vis st.length fr) cx w (cx.hide fr st) w where
  cell _ _ _ _ := rfl
  nomut _ _ _ h := h
  bx k l hk h := by
    show (if hid st.length fr k = true then none else cx.bx k) = some l
    rw [if_neg (fun h2 => by unfold vis at hk; rw [h2] at hk; cases hk)]; exact h
  tk k n l _ h := ⟨n, l, h, Nat.le_refl _, fun _ => rfl⟩
theorem hide_foot {cx : Cx} {fr : Fr} {st : St} {k : Key} {b o : Nat} (h : foot (cx.hide fr st) (hideFr fr :: st) k b o) : hid st.length fr k = false ∧ foot cx (fr :: st) k b o := by
  have hn : hid st.length fr k = false := by
    cases hc : hid st.length fr k with
    | false => rfl
    | true =>
      rcases h with ⟨cs, o0, h1, _⟩ | ⟨n, e, c, z, h1, _⟩ <;> (rw [get_hide, if_pos hc] at h1; cases h1)
  have hn' : ¬ hid st.length fr k = true := by rw [hn]; decide
  refine ⟨hn, ?_⟩
  rcases h with ⟨cs, o0, h1, h2, h3⟩ | ⟨n, e, c, z, h1, h2, h3⟩
  · rw [get_hide, if_neg hn'] at h1
    have h2 : (if hid st.length fr k = true then none else cx.bx k) = some (b, o0) := h2
    rw [if_neg hn'] at h2
    exact .inl ⟨cs, o0, h1, h2, h3⟩
  · rw [get_hide, if_neg hn'] at h1
    exact .inr ⟨n, e, c, z, h1, h2, h3⟩
theorem Rel.hide {E : Setting} {cx : Cx} {fr : Fr} {st : St} {w : World} (r : Rel E cx (fr :: st) w) : Rel E (cx.hide fr st) (hideFr fr :: st) w := by
  have hvis : ∀ k o, St.get (hideFr fr :: st) k = some o → ¬ hid st.length fr k = true ∧ St.get (fr :: st) k = some o := fun k o h => by
    rw [get_hide] at h
    split at h
    · cases h
    · rename_i hn; exact ⟨hn, h⟩
  refine ⟨fun k cs h => ?_, fun k n e h => ?_, fun k b o h => r.foot k b o (hide_foot h).2, fun k k' b o h h' => r.sep k k' b o (hide_foot h).2 (hide_foot h').2, fun k l h => ?_, fun k l h => ?_, r.mlt, fun k b o h hz => ?_, fun b o h => ?_, fun k b o h => ?_,
    fun k k' b o n e g c z h h' => ?_, r.rows, fun g => (r.glob g).monoR hide_r ((all_mono (fun q hq => by cases hq)).1 _ (E.keyless g))⟩
  · obtain ⟨hn, hg⟩ := hvis k _ h
    obtain ⟨h1, b, o, h2, h3⟩ := r.cells k cs hg
    refine ⟨h1, b, o, (if_neg hn).trans h2, fun j d hj => ?_⟩
    obtain ⟨x, hx, hrd⟩ := h3 j d hj
    refine ⟨x, hx, hrd.monoR hide_r ?_⟩
    refine (all_mono (fun q hq => ?_)).1 _ (allL_get h1 hj)
    simp only [lv, decide_eq_true_eq] at hq
    unfold vis
    have hlt : k.1 < (fr :: st).length := by
      rcases Nat.lt_or_ge k.1 (fr :: st).length with h' | h'
      · exact h'
      · rw [St.get_ge h'] at hg; cases hg
    have hk : k.1 ≠ st.length := fun e => hn (hid_of hg e)
    have : ¬ hid st.length fr q = true := fun h2 => by
      have := (hid_spec h2).1
      simp at hlt; omega
    cases hc : hid st.length fr q with
    | false => rfl
    | true => exact absurd hc this
  · obtain ⟨hn, hg⟩ := hvis k _ h
    exact r.tok k n e hg
  · have h : (if hid st.length fr k = true then none else cx.bx k) = some l := h
    split at h
    · cases h
    · rename_i hn
      obtain ⟨cs, hcs⟩ := r.domb k l h
      exact ⟨cs, by rw [get_hide, if_neg hn]; exact hcs⟩
  · obtain ⟨n, e, hg⟩ := r.domt k l h
    refine ⟨n, e, ?_⟩
    rw [get_hide, if_neg (fun h2 => ?_)]
    · exact hg
    · obtain ⟨h3, cs, h4⟩ := hid_spec h2
      simp only [St.get, h3, if_true, h4] at hg; cases hg
  · obtain ⟨hn, hf⟩ := hide_foot h
    rcases hz with hz | ⟨k', h1, h2⟩
    · exact r.nz k b o hf hz
    · have := r.sep k k' b o hf h2
      subst this
      rw [hn] at h1; cases h1
  · rcases h with h | ⟨k, h1, h2⟩
    · exact r.zm b o h
    · exact (r.foot k b o h2).2.2
  · have h : (if hid st.length fr k = true then none else cx.bx k) = some (b, o) := h
    split at h
    · cases h
    · exact r.bxlt _ _ _ h
  · have h : (if hid st.length fr k = true then none else cx.bx k) = some (b, o) := h
    split at h
    · cases h
    · exact r.apart _ _ _ _ _ _ _ _ _ h h'
theorem Rel.show {E : Setting} {cx cx' : Cx} {fr fr' : Fr} {st st' : St} {w w' : World} (r : Rel E cx (fr :: st) w) (e : Ext (fun _ => true) (cx.hide fr st) w cx' w') (r' : Rel E cx' (fr' :: st') w') (hl : st'.length = st.length)
    (hN : ∀ t cs, fr t = some (.cells cs) → fr' t = none) :
    ∃ cx'', Rel E cx'' (joinFr fr fr' :: st') w' ∧ Ext (fun _ => true) cx w cx'' w' ∧ ExtR (fun _ => true) cx' w' cx'' w' ∧
      (∀ b o, b < w.heap.size → Hd cx (fr :: st) (hid st.length fr) b o → w'.cell? ⟨b, o, none⟩ = w.cell? ⟨b, o, none⟩) := by
  have hnone : ∀ k, hid st.length fr k = true → St.get (fr' :: st') k = none := fun k h => by
    obtain ⟨h1, cs, h2⟩ := hid_spec h
    simp only [St.get, h1, hl, if_true]
    exact hN _ _ h2
  let cx'' : Cx := { bx := fun k => if hid st.length fr k = true then cx.bx k else cx'.bx k, tk := cx'.tk, M := cx'.M, Z := cx.Z }
  have hheld : ∀ b o, b < w.heap.size → Hd cx (fr :: st) (hid st.length fr) b o → w'.cell? ⟨b, o, none⟩ = w.cell? ⟨b, o, none⟩ := fun b o hb h => by
    rcases h with h | ⟨k, h1, h2⟩
    · exact e.cell b o hb (fun h3 => absurd h3 h)
    · exact e.cell b o hb (fun _ => .inr ⟨k, h1, h2⟩)
  have hup : ExtR (fun _ => true) cx' w' cx'' w' := by
    refine ⟨fun _ _ _ _ => rfl, fun _ _ _ h => h, fun k l _ h => ?_, fun k n l _ h => ⟨n, l, h, Nat.le_refl _, fun _ => rfl⟩⟩
    show (if hid st.length fr k = true then cx.bx k else cx'.bx k) = some l
    split
    · rename_i hh
      obtain ⟨cs, hc⟩ := r'.domb k l h
      rw [hnone k hh] at hc; cases hc
    · exact h
  have hext : Ext (fun _ => true) cx w cx'' w' := by
    refine ⟨e.os, e.tape, e.output, e.size, e.block, fun b o hb h => e.cell b o hb (fun h2 => .inl (h h2)), e.nomut, fun k l _ h => ?_, e.tk, rfl, e.rowold, e.fz⟩
    show (if hid st.length fr k = true then cx.bx k else cx'.bx k) = some l
    split
    · exact h
    · rename_i hn
      exact e.bx k l rfl ((if_neg hn).trans h)
  have hZ : ∀ b o, cx'.Z b o ↔ (cx.Z b o ∨ ∃ k, hid st.length fr k = true ∧ Mx.foot cx (fr :: st) k b o) := fun b o => by rw [e.zz]; exact Iff.rfl
  have hget : ∀ k, St.get (joinFr fr fr' :: st') k = if hid st.length fr k = true then St.get (fr :: st) k else St.get (fr' :: st') k := fun k => get_join hl
  have hfoot : ∀ k b o, Mx.foot cx'' (joinFr fr fr' :: st') k b o → (hid st.length fr k = true ∧ Mx.foot cx (fr :: st) k b o) ∨ (¬ hid st.length fr k = true ∧ Mx.foot cx' (fr' :: st') k b o) := fun k b o h => by
    by_cases hh : hid st.length fr k = true
    · refine .inl ⟨hh, ?_⟩
      rcases h with ⟨cs, o0, h1, h2, h3⟩ | ⟨n, e, c, z, h1, h2, h3⟩
      · rw [hget, if_pos hh] at h1
        have h2 : (if hid st.length fr k = true then cx.bx k else cx'.bx k) = some (b, o0) := h2
        rw [if_pos hh] at h2
        exact .inl ⟨cs, o0, h1, h2, h3⟩
      · rw [hget, if_pos hh] at h1
        obtain ⟨h4, cs, h5⟩ := hid_spec hh
        simp only [St.get, h4, if_true, h5] at h1; cases h1
    · refine .inr ⟨hh, ?_⟩
      rcases h with ⟨cs, o0, h1, h2, h3⟩ | ⟨n, e, c, z, h1, h2, h3⟩
      · rw [hget, if_neg hh] at h1
        have h2 : (if hid st.length fr k = true then cx.bx k else cx'.bx k) = some (b, o0) := h2
        rw [if_neg hh] at h2
        exact .inl ⟨cs, o0, h1, h2, h3⟩
      · rw [hget, if_neg hh] at h1
        exact .inr ⟨n, e, c, z, h1, h2, h3⟩
  have hflt : ∀ k b o, Mx.foot cx (fr :: st) k b o → b < w.heap.size := fun k b o h => not_foot_new r h
  refine ⟨cx'', ⟨fun k cs h => ?_, fun k n e' h => ?_, fun k b o h => ?_, fun k k' b o h h' => ?_, fun k l h => ?_, fun k l h => ?_, r'.mlt, fun k b o h hz => ?_, fun b o h => r'.zm b o ((hZ b o).2 (.inl h)), fun k b o h => ?_,
    fun k k' b o n e' g c z h h' => ?_, r'.rows, fun g => (r'.glob g).monoR hup (RelF.ext.all_true _)⟩, hext, hup, hheld⟩
  · rw [hget] at h
    split at h
    · rename_i hh
      obtain ⟨h1, b, o, h2, h3⟩ := r.cells k cs h
      refine ⟨h1, b, o, (if_pos hh).trans h2, fun j d hj => ?_⟩
      obtain ⟨x, hx, hrd⟩ := h3 j d hj
      refine ⟨x, ?_, hrd.mono hext (RelF.ext.all_true _)⟩
      rw [hheld b (o + j) (cell_lt hx) (.inr ⟨k, hh, .inl ⟨cs, o, h, h2, by omega, by have := (List.getElem?_eq_some_iff.1 hj).1; omega⟩⟩)]
      exact hx
    · rename_i hh
      obtain ⟨h1, b, o, h2, h3⟩ := r'.cells k cs h
      refine ⟨h1, b, o, (if_neg hh).trans h2, fun j d hj => ?_⟩
      obtain ⟨x, hx, hrd⟩ := h3 j d hj
      exact ⟨x, hx, hrd.monoR hup (RelF.ext.all_true _)⟩
  · rw [hget] at h
    split at h
    · rename_i hh
      obtain ⟨h4, cs, h5⟩ := hid_spec hh
      simp only [St.get, h4, if_true, h5] at h; cases h
    · exact r'.tok k n e' h
  · rcases hfoot k b o h with ⟨hh, hf⟩ | ⟨hh, hf⟩
    · obtain ⟨⟨x, hx⟩, h2, h3⟩ := r.foot k b o hf
      have hb := hflt _ _ _ hf
      exact ⟨⟨x, (hheld b o hb (.inr ⟨k, hh, hf⟩)).trans hx⟩, (e.fz b o hb).trans h2, r'.zm b o ((hZ b o).2 (.inr ⟨k, hh, hf⟩))⟩
    · exact r'.foot k b o hf
  · rcases hfoot k b o h with ⟨hh, hf⟩ | ⟨hh, hf⟩ <;> rcases hfoot k' b o h' with ⟨hh', hf'⟩ | ⟨hh', hf'⟩
    · exact r.sep k k' b o hf hf'
    · exact absurd ((hZ b o).2 (.inr ⟨k, hh, hf⟩)) (r'.nz k' b o hf')
    · exact absurd ((hZ b o).2 (.inr ⟨k', hh', hf'⟩)) (r'.nz k b o hf)
    · exact r'.sep k k' b o hf hf'
  · have h : (if hid st.length fr k = true then cx.bx k else cx'.bx k) = some l := h
    rw [hget]
    split at h
    · rename_i hh; rw [if_pos hh]; exact r.domb k l h
    · rename_i hh; rw [if_neg hh]; exact r'.domb k l h
  · obtain ⟨n, e', hg⟩ := r'.domt k l h
    refine ⟨n, e', ?_⟩
    rw [hget, if_neg (fun hh => by rw [hnone k hh] at hg; cases hg)]
    exact hg
  · rcases hfoot k b o h with ⟨hh, hf⟩ | ⟨hh, hf⟩
    · exact r.nz k b o hf hz
    · exact r'.nz k b o hf ((hZ b o).2 (.inl hz))
  · have h : (if hid st.length fr k = true then cx.bx k else cx'.bx k) = some (b, o) := h
    split at h
    · exact Nat.lt_of_lt_of_le (r.bxlt k b o h) e.size
    · exact r'.bxlt k b o h
  · have h : (if hid st.length fr k = true then cx.bx k else cx'.bx k) = some (b, o) := h
    split at h
    · have hb := r.bxlt k b o h
      intro he
      subst he
      obtain ⟨k0, n0, e0, c0, z0, h0⟩ := e.rowold k' n e' b c z h' hb
      exact r.apart _ _ _ _ _ _ _ _ _ h h0 rfl
    · exact r'.apart _ _ _ _ _ _ _ _ _ h h'
theorem join_hide (fr : Fr) : joinFr fr (hideFr fr) = fr := by
  funext t
  unfold joinFr hideFr
  cases fr t with
  | none => rfl
  | some o => cases o <;> rfl
theorem hide_none {fr : Fr} : ∀ t cs, fr t = some (.cells cs) → hideFr fr t = none := fun t cs h => by unfold hideFr; rw [h]
theorem vis_low {L : Nat} {fr : Fr} {k : Key} (h : k.1 < L) : vis L fr k = true := by
  unfold vis
  cases hc : hid L fr k with
  | false => rfl
  | true => have := (hid_spec hc).1; omega
theorem RdL.hide {cx : Cx} {fr : Fr} {st : St} {w : World} {ds : List D} {vs : List Value} (h : RdL cx w ds vs) (ha : allL (vis st.length fr) ds = true) : RdL (cx.hide fr st) w ds vs :=
  ⟨h.1, fun j d x hd hx => (h.2 j d x hd hx).monoR hide_r (allL_get ha hd)⟩
end Go.Mx

/- Regions whose order is drawn, for the abstract state. No condition. -/
namespace Go.Mx
set_option linter.unusedVariables false
set_option linter.unusedSimpArgs false
/-! ### regions whose order is drawn -/
/-- Everybody else comes up before number i. -/
def lastOp (ops : Array Oper) (i : Nat) : Bool :=
  match ops[i]? with
  | none => false
  | some o => (List.range ops.size).all fun k => Nat.beq k i || o.after.toList.any fun e => Region.binds .any e && Nat.beq e.on k
theorem lastOp_spec {ops : Array Oper} {i : Nat} (h : lastOp ops i = true) : ∃ o, ops[i]? = some o ∧ ∀ k, k < ops.size → k ≠ i → ∃ e ∈ o.after, Region.binds .any e = true ∧ e.on = k := by
  unfold lastOp at h
  split at h
  · cases h
  · rename_i o ho
    refine ⟨o, ho, fun k hk hne => ?_⟩
    rw [List.all_eq_true] at h
    have := h k (List.mem_range.2 hk)
    simp only [Bool.or_eq_true, List.any_eq_true, Bool.and_eq_true] at this
    rcases this with h1 | ⟨e, h1, h2, h3⟩
    · exact absurd (Nat.eq_of_beq_eq_true h1) hne
    · exact ⟨e, by simpa using h1, h2, Nat.eq_of_beq_eq_true h3⟩
def wpAnyG (P : Program) (ops : Array Oper) (Q : Exit → Act → World → Prop) (S : World → Prop) : Nat → Array Bool → Act → World → Prop
  | 0, listed, a, w => Region.ready .any ops listed = [] ∧ Q .normal a w
  | fuel + 1, listed, a, w =>
    (Region.ready .any ops listed = [] → Q .normal a w) ∧
    ∀ i ∈ Region.ready .any ops listed, wpOp P ops Q i (fun a' w' => (lastOp ops i = true ∧ Q .normal a' w') ∨ (S w' ∧ wpAnyG P ops Q S fuel (listed.setIfInBounds i true) a' w')) a w
section
variable {P : Program} {ops : Array Oper} {Q : Exit → Act → World → Prop} {S S' : World → Prop}
theorem ready_last {i : Nat} {listed : Array Bool} (hl : lastOp ops i = true) (hi : i ∈ Region.ready .any ops listed) : Region.ready .any ops (listed.setIfInBounds i true) = [] := by
  obtain ⟨o, ho, hall⟩ := lastOp_spec hl
  obtain ⟨h0, o', ho', h1⟩ := mem_ready.1 hi
  rw [ho] at ho'; cases ho'
  have hil : i < listed.size := by
    rcases Nat.lt_or_ge i listed.size with h | h
    · exact h
    · simp [Array.getElem?_eq_none h] at h0
  apply List.eq_nil_iff_forall_not_mem.2
  intro j hj
  obtain ⟨g0, oj, hoj, _⟩ := mem_ready.1 hj
  by_cases hji : j = i
  · subst hji
    simp [hil] at g0
  · rw [getD_set_ne true (Ne.symm hji)] at g0
    obtain ⟨e, he, hb, hon⟩ := hall j (Array.getElem?_eq_some_iff.1 hoj).1 hji
    have := h1 e he hb
    rw [hon] at this
    rcases Nat.lt_or_ge j listed.size with h | h
    · simp [h] at g0 this; rw [g0] at this; cases this
    · simp [Array.getElem?_eq_none h] at this
theorem wpAny_of_G : ∀ (fuel : Nat) (listed : Array Bool) (a : Act) (w : World), wpAnyG P ops Q S fuel listed a w → wpAny P .any ops Q fuel listed a w
  | 0, _, _, _, h => h
  | fuel + 1, _, _, _, h => ⟨h.1, fun i hi => wpOp_mono (fun a' w' h' => by
      rcases h' with ⟨h1, h2⟩ | h'
      · have := ready_last h1 hi
        cases fuel with
        | zero => exact ⟨this, h2⟩
        | succ n => exact ⟨fun _ => h2, by rw [this]; simp⟩
      · exact wpAny_of_G fuel _ a' w' h'.2) (h.2 i hi)⟩
theorem wpAnyG_mono (hS : ∀ w, S w → S' w) : ∀ (fuel : Nat) (listed : Array Bool) (a : Act) (w : World), wpAnyG P ops Q S fuel listed a w → wpAnyG P ops Q S' fuel listed a w
  | 0, _, _, _, h => h
  | fuel + 1, _, _, _, h => ⟨h.1, fun i hi => wpOp_mono (fun a' w' h' => by
      rcases h' with h' | ⟨h1, h2⟩
      · exact .inl h'
      · exact .inr ⟨hS _ h1, wpAnyG_mono hS fuel _ a' w' h2⟩) (h.2 i hi)⟩
theorem wpAnyG_first {i : Nat} {oi : Oper} {v : Value} (hi : ops[i]? = some oi) (hsel : ∀ (j : Nat) (o : Oper) cs b, ops[j]? = some o → o.op ≠ .select cs b)
    (hQ : ∀ c a w, Q (.panic c) (a.put oi.dst v) w → Q (.panic c) a w) :
    ∀ (fuel : Nat) (listed : Array Bool) (a : Act) (w : World),
      (∀ j oj, ops[j]? = some oj → j ≠ i → listed.getD j true = false → (∀ e ∈ oj.after, Region.binds .any e = true → e.on ≠ i) → oi.apart ops oj = true) →
      i ∈ Region.ready .any ops listed → YieldsIf P ops S oi v a → S w →
      wpAnyG P ops Q S fuel (listed.setIfInBounds i true) (a.put oi.dst v) w → wpAnyG P ops Q S (fuel + 1) listed a w := by
  intro fuel
  induction fuel with
  | zero =>
    intro listed a w _ hr hy hS H
    refine ⟨fun h => (by rw [h] at hr; cases hr), fun j hj => ?_⟩
    by_cases hji : j = i
    · subst hji; exact hy.wpOp hi hS (.inr ⟨hS, H⟩)
    · have := ready_mono hj hji
      rw [H.1] at this
      cases this
  | succ fuel ih =>
    intro listed a w hfree hr hy hS H
    refine ⟨fun h => (by rw [h] at hr; cases hr), fun j hj => ?_⟩
    by_cases hji : j = i
    · subst hji; exact hy.wpOp hi hS (.inr ⟨hS, H⟩)
    · have h1 := H.2 j (ready_mono hj hji)
      obtain ⟨hjun, oj, hoj, hall⟩ := mem_ready.1 hj
      have hnot : ∀ e ∈ oj.after, Region.binds .any e = true → e.on ≠ i := fun e he hb heq => by
        have h1 := hall e he hb
        have h0 := (mem_ready.1 hr).1
        rw [heq] at h1
        rcases Nat.lt_or_ge i listed.size with h' | h'
        · simp [h'] at h0 h1; rw [h0] at h1; cases h1
        · simp [Array.getElem?_eq_none h'] at h1
      have h2 := wpOp_putIf hoj (hfree j oj hoj hji hjun hnot) (fun cs b => hsel i oi cs b hi) (fun cs b => hsel j oj cs b hoj) hQ hy h1
      have hfree' : ∀ k ok, ops[k]? = some ok → k ≠ i → (listed.setIfInBounds j true).getD k true = false →
          (∀ e ∈ ok.after, Region.binds .any e = true → e.on ≠ i) → oi.apart ops ok = true := fun k ok hk hki hun hno => by
        refine hfree k ok hk hki ?_ hno
        by_cases hjk : j = k
        · subst hjk; exact hjun
        · rw [getD_set_ne true hjk] at hun; exact hun
      refine wpOp_mono (fun a' w' h3 => ?_) h2
      obtain ⟨hy', h3⟩ := h3
      rcases h3 with ⟨h4, _⟩ | ⟨hS', h4⟩
      · obtain ⟨o, ho, hal⟩ := lastOp_spec h4
        rw [hoj] at ho; cases ho
        obtain ⟨e, he, hb, hon⟩ := hal i (Array.getElem?_eq_some_iff.1 hi).1 (Ne.symm hji)
        exact absurd hon (hnot e he hb)
      · refine .inr ⟨hS', ih (listed.setIfInBounds j true) a' w' hfree' (ready_mono hr (Ne.symm hji)) hy' hS' ?_⟩
        rw [Array.setIfInBounds_comm _ _ hji]
        exact h4
end
theorem kpost_panic {P : Program} {G : (Env → St → Prop) → Act → World → Prop} {Q : Exit → Act → World → Prop} {c : List PanicEntry} {a : Act} {w : World} :
    ∀ {k : List KI}, kpost P G k Q (.panic c) a w ↔ Q (.panic c) a w := by
  intro k
  induction k with
  | nil => exact Iff.rfl
  | cons x k ih => cases x <;> exact ih
def Sh (cx : Cx) (fr : Fr) (st : St) (w : World) (w' : World) : Prop :=
  ∀ b o, b < w.heap.size → Hd cx (fr :: st) (hid st.length fr) b o → w'.cell? ⟨b, o, none⟩ = w.cell? ⟨b, o, none⟩
def AH (E : Setting) (U : Fun) (k : List KI) (F : D → St → Prop) (ops : Array Oper) (n : Nat) (listed : Array Bool) (ρ : Env) (fr : Fr) (st : St) : Prop :=
  ∀ (B : Base) cx a w, B.L = U.L → st.length = U.L → Ext (lv B.L) B.cx B.w cx w → RelF E U.N cx ρ (fr :: st) a w →
    wpAnyG E.P ops (kpost E.P (Gc E U.N B) k (Fin E U.fn F B)) (Sh cx fr st w) n listed a w
def AO (E : Setting) (U : Fun) (k : List KI) (F : D → St → Prop) (ops : Array Oper) (n : Nat) (listed : Array Bool) (ρ : Env) (fr : Fr) (st : St) (i : Nat) : Prop :=
  ∀ (B : Base) cx a w, B.L = U.L → st.length = U.L → Ext (lv B.L) B.cx B.w cx w → RelF E U.N cx ρ (fr :: st) a w →
    wpOp E.P ops (kpost E.P (Gc E U.N B) k (Fin E U.fn F B)) i (fun a' w' => (lastOp ops i = true ∧ kpost E.P (Gc E U.N B) k (Fin E U.fn F B) .normal a' w') ∨
      (Sh cx fr st w w' ∧ wpAnyG E.P ops (kpost E.P (Gc E U.N B) k (Fin E U.fn F B)) (Sh cx fr st w) n (listed.setIfInBounds i true) a' w')) a w
def AOs (E : Setting) (U : Fun) (k : List KI) (F : D → St → Prop) (ops : Array Oper) (n : Nat) (listed : Array Bool) (ρ : Env) (fr : Fr) (st : St) : List Nat → Prop
  | [] => True
  | i :: r => AO E U k F ops n listed ρ fr st i ∧ AOs E U k F ops n listed ρ fr st r
theorem Sh.refl {cx : Cx} {fr : Fr} {st : St} {w : World} : Sh cx fr st w w := fun _ _ _ _ => rfl
section
variable {E : Setting} {U : Fun} {F : D → St → Prop} {k : List KI} {ρ : Env} {fr : Fr} {st : St} {ops : Array Oper} {n : Nat} {listed : Array Bool}
theorem RelF.drawn {N : Nat} {cx : Cx} {a : Act} {w : World} (hr : RelF E N cx ρ st a w) : RelF E N cx ρ st a { w with drawn := w.drawn + 1 } ∧ Ext (fun _ => true) cx w cx { w with drawn := w.drawn + 1 } := by
  have he : Ext (fun _ => true) cx w cx { w with drawn := w.drawn + 1 } :=
    ⟨rfl, rfl, rfl, Nat.le_refl _, fun _ _ _ => rfl, fun _ _ _ _ => rfl, fun _ _ _ h => h, fun _ _ _ h => h, fun k n l _ h => ⟨n, l, h, Nat.le_refl _, fun _ => rfl⟩, rfl, fun k n e g c z h _ => ⟨k, n, e, c, z, h⟩, fun _ _ _ => rfl⟩
  have r := hr.rel
  refine ⟨hr.ext he ⟨fun k cs h => ?_, r.tok, r.foot, r.sep, r.domb, r.domt, r.mlt, r.nz, r.zm, r.bxlt, r.apart, r.rows, fun g => (r.glob g).mono he (RelF.ext.all_true _)⟩, he⟩
  obtain ⟨h1, b, o, h2, h3⟩ := r.cells k cs h
  refine ⟨h1, b, o, h2, fun j d hj => ?_⟩
  obtain ⟨x, hx, hrd⟩ := h3 j d hj
  exact ⟨x, hx, hrd.mono he (RelF.ext.all_true _)⟩
theorem AW.regionD {id : Nat} (hm : E.P.follows .mixedOrders = true) (hn : ops.size = n) (h : AH E U k F ops n (Array.replicate n false) ρ fr st) : AW E U (.code (.region id ops true) :: k) F ρ (fr :: st) :=
  fun B cx a w hB hl he hr => by
    obtain ⟨hr', he'⟩ := hr.drawn
    subst hn
    exact wp_region_any hm (wpAny_of_G _ _ _ _ (h B cx a _ hB (by simp at hl; omega) (he.trans (he'.weaken fun _ _ => rfl)) hr'))
theorem AH.done (hr0 : Region.ready .any ops listed = []) (h : AW E U k F ρ (fr :: st)) : AH E U k F ops n listed ρ fr st :=
  fun B cx a w hB hl he hr => by
    have := h B cx a w hB (by simp; omega) he hr
    cases n with
    | zero => exact ⟨hr0, this⟩
    | succ n => exact ⟨fun _ => this, by rw [hr0]; simp⟩
theorem hQ_panic {B : Base} {N : Nat} {fn : Func} {dst : Option Nat} {v : Value} : ∀ c a w, kpost E.P (Gc E N B) k (Fin E fn F B) (.panic c) (a.put dst v) w → kpost E.P (Gc E N B) k (Fin E fn F B) (.panic c) a w := fun c a w h => by
  rw [kpost_panic] at h ⊢
  obtain ⟨_, d, st', cx', v, hv, _⟩ := h
  cases hv
/-- A reading is taken first. -/
theorem AH.take (i : Nat) {t : Nat} {op : Op} {ty : TypeId} {pos : String} {af : Array Edge} {d : D} {listed' : Array Bool} (hi : ops[i]? = some ⟨some t, op, ty, pos, af, none⟩) (hs : Region.noSelect ops = true) (hf : Region.free .any ops listed i = true)
    (hrd : (Region.ready .any ops listed).contains i = true) (hset : listed.setIfInBounds i true = listed') (ht : Nat.blt t U.N = true) (hL : LOk E U ρ (fr :: st) (hid st.length fr) ⟨some t, op, ty, pos, af, none⟩ d)
    (h : AH E U k F ops n listed' (upd ρ t d) fr st) : AH E U k F ops (n + 1) listed ρ fr st :=
  fun B cx a w hB hl he hr => by
    subst hset
    obtain ⟨x, hx, hrun⟩ := hL cx a w hr
    refine wpAnyG_first (v := x) hi (Region.noSelect_spec hs) hQ_panic n listed a w (Region.free_spec hi hf) (by simpa using hrd) (.inl ⟨rfl, fun w' hw' => hrun w' hw'⟩) Sh.refl ?_
    exact h B cx (a.put (some t) x) w hB hl he (put_rd hr ht hx)
/-- Whichever comes up. -/
theorem AH.all {rs : List Nat} (hr0 : Region.ready .any ops listed = rs) (hne : rs ≠ []) (h : AOs E U k F ops n listed ρ fr st rs) : AH E U k F ops (n + 1) listed ρ fr st :=
  fun B cx a w hB hl he hr => by
    refine ⟨fun h0 => absurd (hr0 ▸ h0) hne, fun i hi => ?_⟩
    rw [hr0] at hi
    have hall : ∀ (rs : List Nat), AOs E U k F ops n listed ρ fr st rs → ∀ i ∈ rs, AO E U k F ops n listed ρ fr st i := fun rs => by
      induction rs with
      | nil => intro _ i hi; cases hi
      | cons j r ih =>
        intro h i hi
        cases hi with
        | head => exact h.1
        | tail _ hi => exact ih h.2 i hi
    exact hall rs h i hi B cx a w hB hl he hr
/-- The last of a region. -/
theorem AO.last {i : Nat} {o : Oper} {ρ' : Env} {st' : St} (hi : ops[i]? = some o) (hl0 : lastOp ops i = true) (hS : SOk E U ρ (fr :: st) o ρ' st') (h : AW E U k F ρ' st') : AO E U k F ops n listed ρ fr st i :=
  fun B cx a w hB hl he hr => by
    obtain ⟨hg, hlen, hS⟩ := hS
    obtain ⟨nx, w', cx', x, h1, h2, h3, h4⟩ := hS cx a w hr
    have hk := h B cx' (a.put o.dst x) w' hB (by simp at hlen; omega) (he.trans (h4.weaken fun _ _ => rfl)) h3
    unfold wpOp
    simp only [hi]
    rw [if_pos (by simp [Region.wanted, hg])]
    left
    unfold Oper.wp
    rw [h1]
    rcases h2 with rfl | ⟨rfl, rfl⟩
    · exact .inl ⟨hl0, hk⟩
    · exact .inl ⟨hl0, hk⟩
theorem Sh.next {cx cx' : Cx} {fr fr' : Fr} {st st' : St} {w w' : World} (hl : st'.length = st.length) (hc : Sh cx fr st w w') (he : Ext (fun _ => true) cx w cx' w') (hfr : ∀ t cs, fr t = some (.cells cs) → fr' t = some (.cells cs)) :
    ∀ w2, Sh cx' fr' st' w' w2 → Sh cx fr st w w2 := fun w2 h b o hb hd => by
  refine (h b o (Nat.lt_of_lt_of_le hb he.size) ?_).trans (hc b o hb hd)
  rcases hd with hd | ⟨key, h1, h2⟩
  · exact .inl (he.nomut b o hb hd)
  · obtain ⟨h3, cs, h4⟩ := hid_spec h1
    refine .inr ⟨key, ?_, ?_⟩
    · unfold hid isC
      rw [hfr _ _ h4, h3, hl]; simp
    · rcases h2 with ⟨cs', o0, q1, q2, q3⟩ | ⟨_, _, _, _, q1, _⟩
      · simp only [St.get, h3, if_true, h4] at q1
        cases q1
        exact .inl ⟨cs, o0, by simp only [St.get, h3, hl, if_true]; exact hfr _ _ h4, he.bx _ _ rfl q2, q3⟩
      · simp only [St.get, h3, if_true, h4] at q1; cases q1
theorem join_keeps {fr fr' : Fr} : ∀ t cs, fr t = some (.cells cs) → joinFr fr fr' t = some (.cells cs) := fun t cs h => by unfold joinFr; rw [h]
/-- What an operation needs of the temporaries, the frame's variables put aside. -/
theorem RelF.hide {N : Nat} {cx : Cx} {a : Act} {w : World} {l : List (Nat × D)} (hr : RelF E N cx ρ (fr :: st) a w) (hw : WkE ρ l) (ha : allE (vis st.length fr) l = true) : RelF E N (cx.hide fr st) (mkEnv l) (hideFr fr :: st) a w :=
  ⟨hr.rel.hide, hr.size, fun t => (hw.out t _ _ _ (hr.tmps t)).monoR hide_r (allE_out ha t), hr.defers⟩
/-- An operation with an effect, the frame's variables put aside. -/
theorem AO.s {i : Nat} {t : Nat} {op : Op} {ty : TypeId} {pos : String} {af : Array Edge} {d : D} {fr1 : Fr} {st1 : St} (l : List (Nat × D)) {listed' : Array Bool} (hi : ops[i]? = some ⟨some t, op, ty, pos, af, none⟩) (hset : listed.setIfInBounds i true = listed') (hw : WkE ρ l) (ha : allE (vis st.length fr) l = true)
    (ht : Nat.blt t U.N = true) (hS : SOk E U (mkEnv l) (hideFr fr :: st) ⟨some t, op, ty, pos, af, none⟩ (upd (mkEnv l) t d) (fr1 :: st1)) (hN : ∀ t cs, fr t = some (.cells cs) → fr1 t = none) {fr2 : Fr} (hfr : joinFr fr fr1 = fr2)
    (h : AH E U k F ops n listed' (upd ρ t d) fr2 st1) : AO E U k F ops n listed ρ fr st i :=
  fun B cx a w hB hl he hr => by
    subst hset; subst hfr
    obtain ⟨hg, hlen, hS⟩ := hS
    obtain ⟨nx, w', cx', x, h1, h2, h3, h4⟩ := hS _ a w (hr.hide hw ha)
    have hlen' : st1.length = st.length := by simpa using hlen
    obtain ⟨cx'', r2, e2, u2, c2⟩ := hr.rel.show h4 h3.rel hlen' hN
    have hd : Rd cx'' w' d x := by
      have := (h3.tmps t).monoR u2 (RelF.ext.all_true _)
      rw [upd_same] at this
      have hput : (a.put (some t) x).tmps.getD t undef = x := by
        have ht' : t < a.tmps.size := by rw [hr.size]; exact Nat.le_of_ble_eq_true ht
        simp [Act.put, Array.getElem?_setIfInBounds_self_of_lt ht']
      rwa [hput] at this
    have hr2 := put_rd (hr.ext e2 r2) ht hd
    have hk := h B cx'' _ w' hB (by omega) (he.trans (e2.weaken fun _ _ => rfl)) hr2
    have hnext := wpAnyG_mono (Sh.next hlen' c2 e2 join_keeps) _ _ _ _ hk
    unfold wpOp
    simp only [hi]
    rw [if_pos (by simp [Region.wanted])]
    left
    unfold Oper.wp
    rw [h1]
    rcases h2 with rfl | ⟨rfl, rfl⟩
    · exact .inr ⟨c2, hnext⟩
    · exact .inr ⟨c2, hnext⟩
/-- A call, the frame's variables put aside. -/
theorem AO.callF {i : Nat} {t g : Nat} {ty : TypeId} {pos : String} {af : Array Edge} {fn : Func} {args : Array Operand} {ats : Array TypeId} {c : Code} {fo : Operand} {fs cs ds : List D} {listed' : Array Bool} (hi : ops[i]? = some ⟨some t, .call ⟨.value fo, args, ats⟩, ty, pos, af, none⟩) (hset : listed.setIfInBounds i true = listed')
    (ht : Nat.blt t U.N = true) (hg : E.P.funcs[g]? = some fn) (hb : fn.body = some c) (hn : (fn.name == "runtime.NumGoroutine") = false)
    (hfo : ev E ρ fo = .clo (.func g) fs cs) (hds : fs ++ args.toList.map (ev E ρ) ++ cs = ds) (ha : allL (vis st.length fr) ds = true)
    (hk : ACall E g ds (hideFr fr :: st) fun d st' => ∃ fr1 st1, st' = fr1 :: st1 ∧ (∀ t cs, fr t = some (.cells cs) → fr1 t = none) ∧ AH E U k F ops n listed' (upd ρ t d) (joinFr fr fr1) st1) : AO E U k F ops n listed ρ fr st i := by
  intro B cx a w hB hl he hr
  subst hset
  unfold wpOp
  simp only [hi]
  rw [if_pos (by simp [Region.wanted])]
  left
  unfold Oper.wp
  have hv := hr.eval fo
  rw [hfo] at hv
  generalize hfv : a.eval fo = fv at hv
  cases hv with
  | clo hf hcl hrf hrc =>
    rename_i fvs cvs
    have hrun : (execOp a.eval ⟨some t, .call ⟨.value fo, args, ats⟩, ty, pos, af, none⟩).run E.P w = .ok (.enter g (fvs.toArray ++ args.map a.eval ++ cvs.toArray)) w := by
      simp only [execOp, resolve, hfv, Deferred.ofValue, Sem.run_bind, Sem.run_pure, Result.andThen_ok, invoke, callFunc, run_program, hg]
      rw [if_neg (by rw [hn]; decide)]
      rw [hb]; rfl
    rw [hrun]
    have harr : fvs.toArray ++ args.map a.eval ++ cvs.toArray = (fvs ++ args.toList.map a.eval ++ cvs).toArray := by
      apply Array.ext'; simp
    rw [harr]
    rw [Oper.upon_enter]
    have hrd : RdL cx w ds (fvs ++ args.toList.map a.eval ++ cvs) := by
      subst hds
      refine ⟨by simp [hf, hcl], fun j d x hd hx => ?_⟩
      have hmid : ∀ (j : Nat) d x, (args.toList.map (ev E ρ))[j]? = some d → (args.toList.map a.eval)[j]? = some x → Rd cx w d x := fun j d x hd hx => by
        rw [List.getElem?_map, Option.map_eq_some_iff] at hd hx
        obtain ⟨o, ho, rfl⟩ := hd
        obtain ⟨o', ho', rfl⟩ := hx
        rw [ho] at ho'; cases ho'
        exact hr.eval o
      rw [List.append_assoc] at hd hx
      by_cases h1 : j < fs.length
      · rw [List.getElem?_append_left h1] at hd
        rw [List.getElem?_append_left (by omega)] at hx
        exact hrf j d x hd hx
      · rw [List.getElem?_append_right (by omega)] at hd
        rw [List.getElem?_append_right (by omega), ← hf] at hx
        by_cases h2 : j - fs.length < args.toList.length
        · rw [List.getElem?_append_left (by simpa using h2)] at hd hx
          exact hmid _ d x hd hx
        · rw [List.getElem?_append_right (by simp at h2 ⊢; omega)] at hd hx
          simp only [List.length_map] at hd hx
          exact hrc _ d x hd hx
    refine Calls.mono (hk _ w _ hr.rel.hide (hrd.hide ha)) ?_
    rintro e w' ⟨d, st', cx', v, rfl, ⟨fr1, st1, rfl, hN, hK⟩, hlen, hrel, hrdv, hext⟩
    have hlen' : st1.length = st.length := by simpa using hlen
    obtain ⟨cx'', r2, e2, u2, c2⟩ := hr.rel.show hext hrel hlen' hN
    have hr2 := put_rd (hr.ext e2 r2) ht (hrdv.monoR u2 (RelF.ext.all_true _))
    have := hK B cx'' _ w' hB (by omega) (he.trans (e2.weaken fun _ _ => rfl)) hr2
    exact .inr ⟨c2, wpAnyG_mono (Sh.next hlen' c2 e2 join_keeps) _ _ _ _ this⟩
theorem AO.call {i : Nat} {t g : Nat} {ty : TypeId} {pos : String} {af : Array Edge} {fn : Func} {args : Array Operand} {ats : Array TypeId} {c : Code} {ds : List D} {listed' : Array Bool} (hi : ops[i]? = some ⟨some t, .call ⟨.value (.func g), args, ats⟩, ty, pos, af, none⟩) (hset : listed.setIfInBounds i true = listed')
    (ht : Nat.blt t U.N = true) (hg : E.P.funcs[g]? = some fn) (hb : fn.body = some c) (hn : (fn.name == "runtime.NumGoroutine") = false)
    (hds : args.toList.map (ev E ρ) = ds) (ha : allL (vis st.length fr) ds = true)
    (hk : ACall E g ds (hideFr fr :: st) fun d st' => ∃ fr1 st1, st' = fr1 :: st1 ∧ (∀ t cs, fr t = some (.cells cs) → fr1 t = none) ∧ AH E U k F ops n listed' (upd ρ t d) (joinFr fr fr1) st1) : AO E U k F ops n listed ρ fr st i :=
  AO.callF hi hset ht hg hb hn (fs := []) (cs := []) rfl (by simpa using hds) ha hk
/-- The frame that comes back as it went. -/
theorem frame_same {st' : St} {Q : Fr → St → Prop} (h : Q fr st') : ∃ fr1 st1, hideFr fr :: st' = fr1 :: st1 ∧ (∀ t cs, fr t = some (.cells cs) → fr1 t = none) ∧ Q (joinFr fr fr1) st1 :=
  ⟨hideFr fr, st', rfl, hide_none, by rw [join_hide]; exact h⟩
end
end Go.Mx

/- Rows that are made and filled, results that stand in variables, for the abstract state. No condition. -/
namespace Go.Mx
set_option linter.unusedVariables false
set_option linter.unusedSimpArgs false
/-! ### rows that are made and filled -/
theorem flat_len {α : Type} {sz : Nat} : ∀ {l : List (List α)}, (∀ cs ∈ l, cs.length = sz) → l.flatten.length = l.length * sz
  | [], _ => by simp
  | c :: r, h => by
    simp only [List.flatten_cons, List.length_append, List.length_cons, Nat.add_mul, Nat.one_mul]
    rw [h c (by simp), flat_len (l := r) (fun c hc => h c (by simp [hc]))]; omega
theorem flat_get {α : Type} {sz : Nat} : ∀ {l : List (List α)}, (∀ cs ∈ l, cs.length = sz) → ∀ {i j : Nat} {cs : List α} {d : α}, l[i]? = some cs → cs[j]? = some d → l.flatten[i * sz + j]? = some d
  | [], _, i, _, _, _, hi, _ => by simp at hi
  | c :: r, hl, i, j, cs, d, hi, hj => by
    have hc := hl c (by simp)
    rw [List.flatten_cons]
    cases i with
    | zero =>
      simp only [List.getElem?_cons_zero, Option.some.injEq] at hi
      subst hi
      rw [List.getElem?_append_left (by have := (List.getElem?_eq_some_iff.1 hj).1; omega)]
      simpa using hj
    | succ i =>
      rw [List.getElem?_append_right (by rw [hc, Nat.add_mul]; omega), show (i + 1) * sz + j - c.length = i * sz + j by rw [hc, Nat.add_mul]; omega]
      exact flat_get (l := r) (fun c hc => hl c (by simp [hc])) (by simpa using hi) hj
theorem flat_inv {α : Type} {sz : Nat} (hsz : 0 < sz) {l : List (List α)} (h : ∀ cs ∈ l, cs.length = sz) {q : Nat} {d : α} (hq : l.flatten[q]? = some d) : ∃ cs, l[q / sz]? = some cs ∧ cs[q % sz]? = some d := by
  have hlt : q < l.length * sz := by have := (List.getElem?_eq_some_iff.1 hq).1; rw [flat_len h] at this; exact this
  have h1 : q / sz < l.length := (Nat.div_lt_iff_lt_mul hsz).2 hlt
  have h2 : q % sz < sz := Nat.mod_lt _ hsz
  have e1 : l[q / sz]? = some l[q / sz] := List.getElem?_eq_getElem h1
  have e2 := h _ (List.getElem_mem h1)
  have e3 : (l[q / sz])[q % sz]? = some (l[q / sz])[q % sz] := List.getElem?_eq_getElem (by omega)
  have := flat_get h e1 e3
  rw [show q / sz * sz + q % sz = q by rw [Nat.mul_comm]; exact Nat.div_add_mod q sz, hq] at this
  cases this
  exact ⟨_, e1, e3⟩
theorem flat_splice {α : Type} {sz : Nat} : ∀ {l : List (List α)} {i : Nat} {ds : List α}, (∀ cs ∈ l, cs.length = sz) → i < l.length → ds.length = sz → splice l.flatten (i * sz) ds = (l.set i ds).flatten
  | [], _, _, _, h, _ => by simp at h
  | c :: r, 0, ds, hl, _, hd => by
    have hc := hl c (by simp)
    simp [splice, hd, hc]
  | c :: r, i + 1, ds, hl, hi, hd => by
    have hc := hl c (by simp)
    have ih := flat_splice (l := r) (i := i) (ds := ds) (fun c hc => hl c (by simp [hc])) (by simpa using hi) hd
    simp only [List.set_cons_succ, List.flatten_cons]
    rw [← ih]
    unfold splice
    rw [show (i + 1) * sz = c.length + i * sz by rw [hc, Nat.add_mul]; omega, Nat.add_assoc]
    simp only [List.take_length_add_append, List.drop_length_add_append, List.append_assoc]
section
variable {E : Setting} {U : Fun} {F : D → St → Prop} {k : List KI} {ρ : Env} {fr : Fr} {st : St} {all : Array Oper} {rest : List Oper}
variable {t : Nat} {ty : TypeId} {pos : String} {af : Array Edge} {nn bb : Nat} {ss : Shp} {H : Key → Bool}
theorem RelF.sbInv {N : Nat} {cx : Cx} {a : Act} {w : World} (hr : RelF E N cx ρ st a w) {x : Operand} {key : Key} {n : Nat} (h : ev E ρ x = .sb key n) :
    ∃ b o, cx.bx key = some (b, o) ∧ a.eval x = .slice (some ⟨b, o, none⟩) n n ∧ n ≤ maxLen := by
  have := hr.eval x; rw [h] at this
  generalize a.eval x = v at this
  cases this with
  | sb hb hn => exact ⟨_, _, hb, rfl, hn⟩
theorem S.makeSlice {s e : TypeId} {n b be sz : Nat} {se : Shp} {x y : Operand} {kk kk' : IntKind} {len : Nat} {zs : List Value} {zds : List D} (ht : Nat.blt t U.N = true) (hT : tShape E.P s = some (n, b, .slice e)) (hE : tShape E.P e = some (sz, be, se))
    (hz : tZero E.P e = some zs) (hzl : zs.length = sz) (hzd : ZeroL zds zs) (hlev : allL (fun _ => false) zds = true) (hx : ev E ρ x = .v (.int kk len)) (hy : ev E ρ y = .v (.int kk' len)) (hb : be * len ≤ 281474976710656) (hm : len ≤ 9223372036854775807) (hf : fr t = none) :
    SOk E U ρ (fr :: st) ⟨some t, .makeSlice s x y, ty, pos, af, none⟩ (upd ρ t (.sb (st.length, t) len)) (fr.upd t (some (.cells (List.replicate len zds).flatten)) :: st) :=
  ⟨rfl, by simp, fun cx a w hr => by
    obtain ⟨i, u, hi, hu, h1, h2, h3⟩ := tShape_parts hT
    obtain ⟨ie, ue, hie, hue, k1, k2, k3⟩ := tShape_parts hE
    have hu : E.P.underlying s = some (.slice e) := by
      cases u <;> simp only [shpOf, Shp.slice.injEq, reduceCtorEq] at h3
      rw [hu, h3]
    unfold tZero at hz
    rw [hie] at hz
    simp only [Option.bind_some, Option.map_eq_some_iff] at hz
    obtain ⟨z, hz1, hz2⟩ := hz
    have hb' : (ie.bytes : Int) * (len : Int) ≤ 281474976710656 := by
      have h : ((be * len : Nat) : Int) ≤ 281474976710656 := by omega
      rw [k2]; rwa [Int.natCast_mul] at h
    have hrun := run_make (P := E.P) w s e ie z hu hie hz1 kk kk' len len (by omega) (Int.le_refl _) hb' (by omega)
    simp only [Int.toNat_natCast] at hrun
    obtain ⟨l1, l2⟩ := hzd.rd (cx := cx) (w := w)
    have hmade : (madeCells z.cells (len * ie.size)).toList = (List.replicate len zs).flatten := by
      rw [k1]
      unfold madeCells
      apply List.ext_getElem?
      intro q
      by_cases hq : q < len * sz
      · have hsz : 0 < sz := by
          rcases Nat.eq_zero_or_pos sz with h | h
          · rw [h] at hq; simp at hq
          · exact h
        have hl2 : ∀ cs ∈ List.replicate len zs, cs.length = sz := fun cs hc => by rw [List.eq_of_mem_replicate hc]; exact hzl
        have e0 : (List.replicate len zs)[q / sz]? = some zs := by
          rw [List.getElem?_replicate, if_pos ((Nat.div_lt_iff_lt_mul hsz).2 hq)]
        have hml : q % sz < zs.length := by rw [hzl]; exact Nat.mod_lt _ hsz
        have := flat_get hl2 e0 (List.getElem?_eq_getElem hml)
        rw [show q / sz * sz + q % sz = q by rw [Nat.mul_comm]; exact Nat.div_add_mod q sz] at this
        rw [this]
        have hzs : z.cells.size = sz := by rw [← hzl, ← hz2]; simp
        have hzq : z.cells[q % sz]! = zs[q % sz] := by
          have : q % sz < z.cells.size := by omega
          simp only [← hz2, this, getElem!_pos, Array.getElem_toList]
        simp [hq, hzs, hzq]
      · have hl2 : ∀ cs ∈ List.replicate len zs, cs.length = sz := fun cs hc => by rw [List.eq_of_mem_replicate hc]; exact hzl
        rw [List.getElem?_eq_none (by simp; omega), List.getElem?_eq_none (by rw [flat_len hl2]; simp; omega)]
    have hlen2 : (List.replicate len zds).flatten.length = ((List.replicate len zs).flatten).length := by
      rw [flat_len (sz := sz) (fun cs hc => by rw [List.eq_of_mem_replicate hc]; omega), flat_len (sz := sz) (fun cs hc => by rw [List.eq_of_mem_replicate hc]; omega)]
      simp
    have hrd2 : ∀ (j : Nat) d x, (List.replicate len zds).flatten[j]? = some d → ((List.replicate len zs).flatten)[j]? = some x → Rd cx w d x := fun j d x hd hx => by
      rcases Nat.eq_zero_or_pos sz with h0 | hsz
      · have : (List.replicate len zds).flatten.length = 0 := by
          rw [flat_len (sz := sz) (fun cs hc => by rw [List.eq_of_mem_replicate hc]; omega), h0]; simp
        have := (List.getElem?_eq_some_iff.1 hd).1
        omega
      · obtain ⟨cs, e1, e2⟩ := flat_inv hsz (fun cs hc => by rw [List.eq_of_mem_replicate hc]; omega) hd
        obtain ⟨vs, f1, f2⟩ := flat_inv hsz (fun cs hc => by rw [List.eq_of_mem_replicate hc]; exact hzl) hx
        have g1 := List.eq_of_mem_replicate (List.mem_of_getElem? e1)
        have g2 := List.eq_of_mem_replicate (List.mem_of_getElem? f1)
        subst g1; subst g2
        exact l2 _ d x e2 f2
    have hkl : ∀ n, allL (fun _ => false) (List.replicate n zds).flatten = true := fun n => by
      induction n with
      | zero => rfl
      | succ n ih =>
        rw [List.replicate_succ, List.flatten_cons]
        have hap : ∀ (a b : List D), allL (fun _ => false) a = true → allL (fun _ => false) b = true → allL (fun _ => false) (a ++ b) = true := fun a b ha hb => by
          induction a with
          | nil => exact hb
          | cons d r ih => simp only [List.cons_append, allL, Bool.and_eq_true] at *; exact ⟨ha.1, ih ha.2⟩
        exact hap _ _ hlev ih
    obtain ⟨cx', r', hb2, he⟩ := hr.rel.new (key := (st.length, t)) (get_top.trans hf) (by simp) (ds := (List.replicate len zds).flatten) (vs := (List.replicate len zs).flatten) e hlen2 hrd2 ((all_mono (fun _ h => by cases h)).2.1 _ (hkl len))
    rw [set_top] at r'
    rw [← hmade, Array.toArray_toList] at r' he
    refine ⟨_, _, cx', _, ?_, .inl rfl, put_rd (hr.ext he r') ht (Rd.sb hb2 (by unfold maxLen; omega)), he⟩
    simp only [execOp, Sem.run_bind, hr.lit hx, hr.lit hy, hrun, Result.andThen_ok, Sem.run_pure]⟩
/-- The place of an element of a row that is being filled. -/
theorem P.indexAddrB {s e : TypeId} {n b be sz : Nat} {se : Shp} {x ix : Operand} {key : Key} {len : Nat} {kk : IntKind} {i : Nat}
    (h : tShape E.P s = some (n, b, .slice e)) (he : tShape E.P e = some (sz, be, se))
    (hx : ev E ρ x = .sb key len) (hi : ev E ρ ix = .v (.int kk i)) (hlt : i < len) : POk E U ρ st ⟨some t, .indexAddr s x ix, ty, pos, af, none⟩ (.bx key (i * sz)) :=
  (fun cx a w hr => by
    obtain ⟨bl, o, hb, hv, hn⟩ := hr.sbInv hx
    refine ⟨.pointer (some ⟨bl, o + i * sz, none⟩), fun w' => ?_, .bx hb⟩
    simp only [execOp, hv, hr.lit hi, Sem.run_bind, run_indexAt h he w' bl o len len kk i (by omega) (by omega), Result.andThen_ok, Sem.run_pure, Int.toNat_natCast])
theorem P.lenB {s e : TypeId} {n b : Nat} {x : Operand} {key : Key} {len : Nat} (h : tShape E.P s = some (n, b, .slice e)) (hx : ev E ρ x = .sb key len) : POk E U ρ st ⟨some t, .call ⟨.builtin .len, #[x], #[s]⟩, ty, pos, af, none⟩ (.v (.int .i64 len)) :=
  P.lit (fun a w0 w cx hr => by
    obtain ⟨bl, o, hb, hv, hn⟩ := hr.sbInv hx
    have := run_len_slice h ty (some ⟨bl, o, none⟩) len len w
    simp only [execOp, resolve, Sem.run_bind, Sem.run_pure, Result.andThen_ok, invoke, builtin, List.map_toArray, List.map_cons, List.map_nil, hv, this])
/-- A store into an element of a row that is being filled. -/
theorem S.storeE {e : TypeId} {p x : Operand} {d : D} {u i : Nat} {xs : List (List D)} {ds : List D} (hT : tShape E.P e = some (nn, bb, ss)) (hp : ev E ρ p = .bx (st.length, u) (i * nn)) (hx : ev E ρ x = d) (hs : d.simple = true) (hds : cellsD d = ds)
    (hn : ds.length = nn) (h1 : allB D.one ds = true) (hg : fr u = some (.cells xs.flatten)) (hxs : ∀ cs ∈ xs, cs.length = nn) (hi : i < xs.length) {xs' : List (List D)} (hset : xs.set i ds = xs') :
    SOk E U ρ (fr :: st) ⟨none, .store e p x, ty, pos, af, none⟩ ρ (fr.upd u (some (.cells xs'.flatten)) :: st) :=
  S.storeK hT hp hx hs hds hn h1 (get_top.trans hg) (by simp) (.inl (by simp)) (Nat.ble_eq_true_of_le (by
    rw [flat_len hxs]
    calc i * nn + nn = (i + 1) * nn := by rw [Nat.add_mul, Nat.one_mul]
      _ ≤ xs.length * nn := Nat.mul_le_mul_right _ hi)) (by rw [set_top, ← hset, flat_splice hxs hi hn])
/-- A load of an element of a row that is being filled. -/
theorem L.loadES {ty' : TypeId} {x : Operand} {key : Key} {i : Nat} {xs : List (List D)} {ds : List D} (hT : tShape E.P ty' = some (nn, bb, ss)) (ha : ss.agg = true)
    (hx : ev E ρ x = .bx key (i * nn)) (hH : H key = true) (hs : st.get key = some (.cells xs.flatten)) (hxs : ∀ cs ∈ xs, cs.length = nn) (hd : xs[i]? = some ds) : LOk E U ρ st H ⟨some t, .load ty' x, ty, pos, af, none⟩ (.agg ds) :=
  L.loadS hT ha hx hH hs (ds := ds) (by
    have hl := hxs ds (List.mem_of_getElem? hd)
    apply List.ext_getElem?
    intro j
    rw [List.getElem?_take]
    by_cases hj : j < nn
    · rw [if_pos hj, List.getElem?_drop]
      rw [flat_get hxs hd (List.getElem?_eq_getElem (by omega))]
      rw [List.getElem?_eq_getElem (by omega)]
    · rw [if_neg hj, List.getElem?_eq_none (by omega)]) (hxs ds (List.mem_of_getElem? hd))
theorem L.loadE1 {ty' : TypeId} {x : Operand} {key : Key} {i : Nat} {xs : List (List D)} {d : D} (hT : tShape E.P ty' = some (1, bb, ss)) (ha : ss.agg = false)
    (hx : ev E ρ x = .bx key (i * 1)) (hH : H key = true) (hs : st.get key = some (.cells xs.flatten)) (hxs : ∀ cs ∈ xs, cs.length = 1) (hd : xs[i]? = some [d]) : LOk E U ρ st H ⟨some t, .load ty' x, ty, pos, af, none⟩ d :=
  L.load hT ha hx hH hs (by
    have := flat_get hxs hd (j := 0) (d := d) rfl
    simpa using this)
/-! ### a variable of this frame that nobody may write any more -/
theorem Rel.unkey {cx : Cx} {w : World} {u : Nat} (r : Rel E cx (fr :: st) w) (hF : FrAll (notKey st.length u) (fr.upd u none)) :
    ∃ cx', Rel E cx' (fr.upd u none :: st) w ∧ Ext (notKey st.length u) cx w cx' w ∧ (∀ b o, Mx.foot cx (fr :: st) (st.length, u) b o → ¬ cx'.M b o) ∧ (∀ b o, cx'.M b o → cx.M b o) := by
  have hget : ∀ key, key ≠ (st.length, u) → St.get (fr.upd u none :: st) key = St.get (fr :: st) key := fun key hk => by
    simp only [St.get]
    split
    · rename_i h1
      exact Fr.upd_ne _ _ _ _ (fun h2 => hk (Prod.ext h1 h2))
    · rfl
  have hget0 : St.get (fr.upd u none :: st) (st.length, u) = none := get_top.trans (Fr.upd_same _ _ _)
  let cx' : Cx := { bx := fun k => if k = (st.length, u) then none else cx.bx k, tk := fun k => if k = (st.length, u) then none else cx.tk k, M := fun b o => cx.M b o ∧ ¬ Mx.foot cx (fr :: st) (st.length, u) b o, Z := cx.Z }
  have hext : Ext (notKey st.length u) cx w cx' w := by
    refine ⟨rfl, rfl, rfl, Nat.le_refl _, fun _ _ _ => rfl, fun _ _ _ _ => rfl, fun _ _ _ h h2 => h h2.1, fun key l hk h => ?_, fun key n l hk h => ⟨n, l, ?_, Nat.le_refl _, fun _ => rfl⟩, rfl, fun key n e g c z h _ => ⟨key, n, e, c, z, ?_⟩, fun _ _ _ => rfl⟩
    · show (if key = (st.length, u) then none else cx.bx key) = _
      rw [if_neg (notKey_spec.1 hk)]; exact h
    · show (if key = (st.length, u) then none else cx.tk key) = _
      rw [if_neg (notKey_spec.1 hk)]; exact h
    · have h : (if key = (st.length, u) then none else cx.tk key) = some (n, e, some (g, c, z)) := h
      split at h
      · cases h
      · exact h
  have hcontent : ∀ key cs, key ≠ (st.length, u) → St.get (fr :: st) key = some (.cells cs) → allL (notKey st.length u) cs = true := fun key cs hk hg => by
    by_cases h1 : key.1 = st.length
    · have : fr.upd u none key.2 = some (.cells cs) := by
        rw [Fr.upd_ne _ _ _ _ (fun h2 => hk (Prod.ext h1 h2))]
        simp only [St.get, h1, if_true] at hg; exact hg
      exact hF _ _ this
    · have h2 := (r.cells key cs hg).1
      have h3 : key.1 < (fr :: st).length := by
        rcases Nat.lt_or_ge key.1 (fr :: st).length with h | h
        · exact h
        · rw [St.get_ge h] at hg; cases hg
      refine (all_mono (fun q hq => notKey_spec.2 (fun e => ?_))).2.1 _ h2
      simp only [lv, decide_eq_true_eq, e] at hq
      simp at h3
      omega
  have hfoot : ∀ key b o, Mx.foot cx' (fr.upd u none :: st) key b o → key ≠ (st.length, u) ∧ Mx.foot cx (fr :: st) key b o := fun key b o h => by
    have hne : key ≠ (st.length, u) := fun e => by
      subst e
      rcases h with ⟨cs, o0, h1, _⟩ | ⟨n, e, c, z, h1, _⟩ <;> (rw [hget0] at h1; cases h1)
    refine ⟨hne, ?_⟩
    rcases h with ⟨cs, o0, h1, h2, h3⟩ | ⟨n, e, c, z, h1, h2, h3⟩
    · rw [hget key hne] at h1
      have h2 : (if key = (st.length, u) then none else cx.bx key) = some (b, o0) := h2
      rw [if_neg hne] at h2
      exact .inl ⟨cs, o0, h1, h2, h3⟩
    · rw [hget key hne] at h1
      have h2 : (if key = (st.length, u) then none else cx.tk key) = some (n, e, some (b, c, z)) := h2
      rw [if_neg hne] at h2
      exact .inr ⟨n, e, c, z, h1, h2, h3⟩
  have hne_of : ∀ key o, St.get (fr.upd u none :: st) key = some o → key ≠ (st.length, u) := fun key o h e => by
    subst e; rw [hget0] at h; cases h
  refine ⟨cx', ⟨fun key cs h => ?_, fun key n e h => ?_, fun key b o h => ?_, fun k1 k2 b o h h' => r.sep _ _ b o (hfoot _ _ _ h).2 (hfoot _ _ _ h').2, fun key l h => ?_, fun key l h => ?_, fun b o h => r.mlt b o h.1, fun key b o h => r.nz key b o (hfoot _ _ _ h).2, fun b o h => ⟨r.zm b o h, fun hf => r.nz _ _ _ hf h⟩, fun key b o h => ?_,
      fun k1 k2 b o n e g c z h h' => ?_, fun k1 k2 n e n' e' g c z c' z' h h' => ?_, fun g => (r.glob g).mono hext ((all_mono (fun q hq => by cases hq)).1 _ (E.keyless g))⟩, hext, fun b o hf h => h.2 hf, fun b o h => h.1⟩
  · have hne := hne_of _ _ h
    rw [hget key hne] at h
    obtain ⟨h1, b, o, h2, h3⟩ := r.cells key cs h
    refine ⟨h1, b, o, (if_neg hne).trans h2, fun j d hj => ?_⟩
    obtain ⟨x, hx, hrd⟩ := h3 j d hj
    exact ⟨x, hx, hrd.mono hext (allL_get (hcontent key cs hne h) hj)⟩
  · have hne := hne_of _ _ h
    rw [hget key hne] at h
    obtain ⟨tl, h1, h2⟩ := r.tok key n e h
    exact ⟨tl, (if_neg hne).trans h1, h2⟩
  · obtain ⟨hne, hf⟩ := hfoot _ _ _ h
    obtain ⟨g1, g2, g3⟩ := r.foot key b o hf
    exact ⟨g1, g2, g3, fun hf' => hne (r.sep _ _ b o hf hf')⟩
  · have h : (if key = (st.length, u) then none else cx.bx key) = some l := h
    split at h
    · cases h
    · rename_i hne
      obtain ⟨cs, hcs⟩ := r.domb key l h
      exact ⟨cs, (hget key hne).trans hcs⟩
  · have h : (if key = (st.length, u) then none else cx.tk key) = some l := h
    split at h
    · cases h
    · rename_i hne
      obtain ⟨n, e, hcs⟩ := r.domt key l h
      exact ⟨n, e, (hget key hne).trans hcs⟩
  · have h : (if key = (st.length, u) then none else cx.bx key) = some (b, o) := h
    split at h
    · cases h
    · exact r.bxlt _ _ _ h
  · have h : (if k1 = (st.length, u) then none else cx.bx k1) = some (b, o) := h
    have h' : (if k2 = (st.length, u) then none else cx.tk k2) = some (n, e, some (g, c, z)) := h'
    split at h <;> split at h' <;> first | exact r.apart _ _ _ _ _ _ _ _ _ h h' | cases h | cases h'
  · have h : (if k1 = (st.length, u) then none else cx.tk k1) = some (n, e, some (g, c, z)) := h
    have h' : (if k2 = (st.length, u) then none else cx.tk k2) = some (n', e', some (g, c', z')) := h'
    split at h <;> split at h' <;> first | exact r.rows _ _ _ _ _ _ _ _ _ _ _ h h' | cases h | cases h'
/-- A row that has been filled is handed out for good. -/
theorem AW.freeze {l : List (Nat × D)} (u : Nat) {v : Nat} {sz len : Nat} {xs : List (List D)} (hv : ρ v = .sb (st.length, u) len) (hfr : fr u = some (.cells xs.flatten)) (hlen : xs.length = len) (hsz : ∀ cs ∈ xs, cs.length = sz)
    (hw : WkE ρ l) (hE : allE (notKey st.length u) l = true) (hx : allLL (notKey st.length u) xs = true) (hF : FrAll (notKey st.length u) (fr.upd u none)) (h : AW E U k F (upd (mkEnv l) v (.sl sz .full xs)) (fr.upd u none :: st)) : AW E U k F ρ (fr :: st) := by
  intro B cx a w hB hl he hr
  obtain ⟨cx', hrel, hext, hM, _⟩ := hr.rel.unkey hF
  have hlen' : st.length = U.L := by simp at hl; omega
  refine h B cx' a w hB (by simpa using hl) (he.trans (hext.weaken fun key hk => notKey_spec.2 (fun e => ?_))) ⟨hrel, hr.size, fun t => ?_, hr.defers⟩
  · subst e
    simp only [lv, decide_eq_true_eq] at hk
    omega
  · unfold upd
    split
    · rename_i ht
      subst ht
      have hd := hr.tmps t
      rw [hv] at hd
      generalize a.tmps.getD t undef = val at hd
      cases hd with
      | @sb _ _ b o hb hn =>
        obtain ⟨_, b', o', hb', hc⟩ := hr.rel.cells (st.length, u) xs.flatten (get_top.trans hfr)
        rw [hb] at hb'; cases hb'
        have hcell : ∀ (i j : Nat) cs d, xs[i]? = some cs → cs[j]? = some d → ∃ y, w.cell? ⟨b, o + i * sz + j, none⟩ = some y ∧ ¬ cx'.M b (o + i * sz + j) ∧ Rd cx' w d y := fun i j cs d hi hj => by
          have hg := flat_get hsz hi hj
          obtain ⟨y, hy, hrd⟩ := hc _ d hg
          refine ⟨y, by rw [Nat.add_assoc]; exact hy, hM _ _ (.inl ⟨_, o, get_top.trans hfr, hb, by omega, ?_⟩), hrd.mono hext (allL_get (allLL_get hx hi) hj)⟩
          have := (List.getElem?_eq_some_iff.1 hg).1
          omega
        subst hlen
        refine .sl (b, o) (fun i j => (w.cell? ⟨b, o + i * sz + j, none⟩).getD undef) (Nat.le_refl _) hn (fun i cs hi => hsz cs (List.mem_of_getElem? hi)) (fun _ => rfl) (fun i j cs d hi hj => ?_) (fun i j cs d hi hj => ?_) rfl
        · obtain ⟨y, h1, h2, h3⟩ := hcell i j cs d hi hj
          simp only [h1]; exact ⟨rfl, h2⟩
        · obtain ⟨y, h1, h2, h3⟩ := hcell i j cs d hi hj
          simp only [h1]; exact h3
    · exact (hw.out t _ _ _ (hr.tmps t)).mono hext (allE_out hE t)
/-! ### results that stand in variables -/
inductive ResR (E : Setting) (ρ : Env) (st : St) : List ResultVar → List D → Prop
  | nil : ResR E ρ st [] []
  | tmp {t r ds} (h : ResR E ρ st r ds) : ResR E ρ st (.tmp t :: r) (ρ t :: ds)
  | cellS {b ty n bb ss key cs r ds} (hT : tShape E.P ty = some (n, bb, ss)) (ha : ss.agg = true) (hb : ρ b = .bx key 0) (hg : st.get key = some (.cells cs)) (hn : cs.length = n) (h : ResR E ρ st r ds) : ResR E ρ st (.cell b ty :: r) (.agg cs :: ds)
  | cell1 {b ty n bb ss key cs d r ds} (hT : tShape E.P ty = some (n, bb, ss)) (ha : ss.agg = false) (hb : ρ b = .bx key 0) (hg : st.get key = some (.cells cs)) (hd : cs[0]? = some d) (h : ResR E ρ st r ds) : ResR E ρ st (.cell b ty :: r) (d :: ds)
theorem mapM_resR {N : Nat} {cx : Cx} {w : World} {a : Act} (hr : RelF E N cx ρ st a w) : ∀ {l : List ResultVar} {ds : List D}, ResR E ρ st l ds →
    ∃ vs, (l.mapM (oneRes a.tmps)).run E.P w = .ok vs w ∧ vs.length = ds.length ∧ ∀ (j : Nat) d x, ds[j]? = some d → vs[j]? = some x → Rd cx w d x := by
  have step : ∀ (r : ResultVar) (l : List ResultVar) (d : D) (ds : List D) (x : Value) (vs : List Value), (oneRes a.tmps r).run E.P w = .ok x w → Rd cx w d x → (l.mapM (oneRes a.tmps)).run E.P w = .ok vs w → vs.length = ds.length → (∀ (j : Nat) d x, ds[j]? = some d → vs[j]? = some x → Rd cx w d x) →
      ∃ vs, ((r :: l).mapM (oneRes a.tmps)).run E.P w = .ok vs w ∧ vs.length = (d :: ds).length ∧ ∀ (j : Nat) d' x, (d :: ds)[j]? = some d' → vs[j]? = some x → Rd cx w d' x := fun r l d ds x vs h1 h2 h3 h4 h5 => by
    refine ⟨x :: vs, by rw [List.mapM_cons, Sem.run_bind, h1]; simp only [Result.andThen_ok, Sem.run_bind]; rw [h3]; rfl, by simp [h4], fun j d' y hd hy => ?_⟩
    cases j with
    | zero => simp at hd hy; subst hd; subst hy; exact h2
    | succ j => exact h5 j d' y (by simpa using hd) (by simpa using hy)
  intro l ds h
  induction h with
  | nil => exact ⟨[], rfl, rfl, by simp⟩
  | @tmp t r ds h ih =>
    obtain ⟨vs, h1, h2, h3⟩ := ih
    exact step _ _ _ _ (a.tmps.getD t undef) vs rfl (hr.tmps t) h1 h2 h3
  | @cellS b ty n bb ss key cs r ds hT ha hb hg hn h ih =>
    obtain ⟨vs, h1, h2, h3⟩ := ih
    have hL := L.loadS (E := E) (U := ⟨default, 0, N⟩) (ρ := ρ) (st := st) (t := 0) (ty := 0) (pos := "") (af := #[]) (H := fun _ => true) (x := .tmp b) hT ha hb rfl hg (ds := cs) (by simp [← hn]) hn
    obtain ⟨x, hx, hrun⟩ := hL cx a w hr
    have := hrun w (fun _ _ _ _ => rfl)
    obtain ⟨bl, o, hbx, hev⟩ := hr.ptr (x := .tmp b) hb
    refine step _ _ _ _ x vs ?_ hx h1 h2 h3
    simp only [execOp, hev, Instr.loadAt, Instr.sureAddr, Sem.run_bind, Sem.run_pure, Result.andThen_ok] at this
    have hev' : a.tmps.getD b undef = .pointer (some ⟨bl, o + 0, none⟩) := hev
    simp only [oneRes, hev', Sem.run_bind, asAddr, Sem.run_pure, Result.andThen_ok]
    generalize (loadVar ty ⟨bl, o + 0, none⟩).run E.P w = rr at this
    cases rr with
    | ok y w2 => simp only [Result.andThen_ok, Result.ok.injEq, Next.value.injEq] at this; rw [this.1, this.2]
    | halt y w2 => cases this
  | @cell1 b ty n bb ss key cs d r ds hT ha hb hg hd h ih =>
    obtain ⟨vs, h1, h2, h3⟩ := ih
    have hL := L.load (E := E) (U := ⟨default, 0, N⟩) (ρ := ρ) (st := st) (t := 0) (ty := 0) (pos := "") (af := #[]) (H := fun _ => true) (x := .tmp b) hT ha hb rfl hg hd
    obtain ⟨x, hx, hrun⟩ := hL cx a w hr
    have := hrun w (fun _ _ _ _ => rfl)
    obtain ⟨bl, o, hbx, hev⟩ := hr.ptr (x := .tmp b) hb
    refine step _ _ _ _ x vs ?_ hx h1 h2 h3
    simp only [execOp, hev, Instr.loadAt, Instr.sureAddr, Sem.run_bind, Sem.run_pure, Result.andThen_ok] at this
    have hev' : a.tmps.getD b undef = .pointer (some ⟨bl, o + 0, none⟩) := hev
    simp only [oneRes, hev', Sem.run_bind, asAddr, Sem.run_pure, Result.andThen_ok]
    generalize (loadVar ty ⟨bl, o + 0, none⟩).run E.P w = rr at this
    cases rr with
    | ok y w2 => simp only [Result.andThen_ok, Result.ok.injEq, Next.value.injEq] at this; rw [this.1, this.2]
    | halt y w2 => cases this
theorem Fin_ofR {B : Base} {cx : Cx} {a : Act} {w : World} {ds : List D} {d' : D} (hres : ResR E ρ (fr :: st) U.fn.results.toList ds) (hw : Wk (resOf ds) d') (hall : d'.all (lv st.length) = true) (hF : F d' st)
    (hB : B.L = U.L) (hl : (fr :: st).length = U.L + 1) (he : Ext (lv B.L) B.cx B.w cx w) (hr : RelF E U.N cx ρ (fr :: st) a w) : a.defers = [] ∧ ∃ v, (results U.fn a.tmps).run E.P w = .ok v w ∧
      ∃ d st' cx' v', Ending.returned v = .returned v' ∧ F d st' ∧ st'.length = B.L ∧ Rel E cx' st' w ∧ Rd cx' w d v' ∧ Ext (fun _ => true) B.cx B.w cx' w := by
  obtain ⟨vs, h1, h2, h3⟩ := mapM_resR hr hres
  have hm : (U.fn.results.mapM (oneRes a.tmps)).run E.P w = .ok vs.toArray w := by
    rw [← Array.toArray_toList (xs := U.fn.results), List.mapM_toArray, Sem.run_map, h1]; rfl
  have hv : (results U.fn a.tmps).run E.P w = .ok (if h : vs.toArray.size = 1 then vs.toArray[0] else .tuple vs.toArray) w := by rw [results_eq, Sem.run_bind, hm]; rfl
  have hrd : Rd cx w (resOf ds) (if h : vs.toArray.size = 1 then vs.toArray[0] else .tuple vs.toArray) := by
    clear hm hv h1 hres hw
    match ds, vs, h2, h3 with
    | [d], [x], _, h3 => exact h3 0 d x rfl rfl
    | [], [], _, _ => exact .tup (vs := []) rfl (by simp)
    | d :: d' :: ds, x :: x' :: vs, h2, h3 =>
      rw [dif_neg (by simp)]
      exact .tup h2.symm h3
  have hlen : st.length = B.L := by simp at hl; omega
  refine ⟨hr.defers, _, hv, d', st, cx.cut st.length, _, rfl, hF, hlen, hr.rel.cut, (hw _ _ _ hrd).mono (Ext.cut cx w st.length) hall, ?_⟩
  have e2 := he.trans ((Ext.cut cx w st.length).weaken (fun k hk => by rw [hlen]; exact hk))
  refine ⟨e2.os, e2.tape, e2.output, e2.size, e2.block, e2.cell, e2.nomut, fun key l _ hl => ?_, fun key n l _ hl => ?_, e2.zz, e2.rowold, e2.fz⟩
  · by_cases hk : key.1 < B.L
    · exact e2.bx key l (by simp [lv, hk]) hl
    · rw [(B.dom key hk).1] at hl; cases hl
  · by_cases hk : key.1 < B.L
    · exact e2.tk key n l (by simp [lv, hk]) hl
    · rw [(B.dom key hk).2] at hl; cases hl
theorem AW.retR {ds : List D} {d' : D} (hres : ResR E ρ (fr :: st) U.fn.results.toList ds) (hw : Wk (resOf ds) d') (hall : d'.all (lv st.length) = true) (hF : F d' st) : AW E U (.code .ret :: k) F ρ (fr :: st) :=
  fun B cx a w hB hl he hr => wp_ret (kpost_ret (Fin_ofR hres hw hall hF hB hl he hr))
end
end Go.Mx

/- Frames and temporaries as lists, loops over tuples, for the abstract state. No condition. -/
namespace Go.Mx
set_option linter.unusedVariables false
set_option linter.unusedSimpArgs false
/-! ### frames as lists -/
def mkFr : List (Nat × AObj) → Fr
  | [] => fun _ => none
  | (t, o) :: r => Fr.upd (mkFr r) t (some o)
def setL : List (Nat × AObj) → Nat → AObj → List (Nat × AObj)
  | [], t, o => [(t, o)]
  | (u, p) :: r, t, o => if Nat.beq u t = true then (u, o) :: r else (u, p) :: setL r t o
def delL : List (Nat × AObj) → Nat → List (Nat × AObj)
  | [], _ => []
  | (u, p) :: r, t => if Nat.beq u t = true then delL r t else (u, p) :: delL r t
theorem mkFr_set : ∀ (l : List (Nat × AObj)) (t : Nat) (o : AObj), Fr.upd (mkFr l) t (some o) = mkFr (setL l t o)
  | [], t, o => rfl
  | (u, p) :: r, t, o => by
    simp only [setL]
    by_cases h : Nat.beq u t = true
    · have := Nat.eq_of_beq_eq_true h
      subst this
      rw [if_pos h]
      funext v
      simp only [mkFr, Fr.upd]
      split <;> rfl
    · rw [if_neg h]
      have hne : u ≠ t := fun e => h (by rw [e]; exact Nat.beq_refl t)
      have ih := mkFr_set r t o
      funext v
      simp only [mkFr]
      rw [← ih]
      simp only [Fr.upd]
      by_cases h1 : v = t <;> by_cases h2 : v = u <;> simp_all
theorem mkFr_del : ∀ (l : List (Nat × AObj)) (t : Nat), Fr.upd (mkFr l) t none = mkFr (delL l t)
  | [], t => by funext v; simp only [mkFr, delL, Fr.upd]; split <;> rfl
  | (u, p) :: r, t => by
    simp only [delL]
    have ih := mkFr_del r t
    by_cases h : Nat.beq u t = true
    · have := Nat.eq_of_beq_eq_true h
      subst this
      rw [if_pos h, ← ih]
      funext v
      simp only [mkFr, Fr.upd]
      split <;> rfl
    · rw [if_neg h]
      have hne : u ≠ t := fun e => h (by rw [e]; exact Nat.beq_refl t)
      funext v
      simp only [mkFr]
      rw [← ih]
      simp only [Fr.upd]
      by_cases h1 : v = t <;> by_cases h2 : v = u <;> simp_all
theorem FrAll.mk {p : Key → Bool} : ∀ {l : List (Nat × AObj)}, (∀ t cs, (t, AObj.cells cs) ∈ l → allL p cs = true) → FrAll p (mkFr l)
  | [], _ => FrAll.empty
  | (t, .cells cs) :: r, h => FrAll.upd (FrAll.mk fun t cs hm => h t cs (List.mem_cons_of_mem _ hm)) (h t cs (List.mem_cons_self))
  | (t, .tok n e) :: r, h => FrAll.updT (FrAll.mk fun t cs hm => h t cs (List.mem_cons_of_mem _ hm))
def allF (p : Key → Bool) : List (Nat × AObj) → Bool
  | [] => true
  | (_, .cells cs) :: r => allL p cs && allF p r
  | (_, .tok _ _) :: r => allF p r
theorem FrAll.ok {p : Key → Bool} : ∀ {l : List (Nat × AObj)}, allF p l = true → FrAll p (mkFr l)
  | [], _ => FrAll.empty
  | (t, .cells cs) :: r, h => by
    simp only [allF, Bool.and_eq_true] at h
    exact FrAll.upd (FrAll.ok h.2) h.1
  | (t, .tok n e) :: r, h => FrAll.updT (FrAll.ok h)
def hideL : List (Nat × AObj) → List (Nat × AObj)
  | [] => []
  | (_, .cells _) :: r => hideL r
  | (t, .tok n e) :: r => (t, .tok n e) :: hideL r
theorem Wk.eq {d d' : D} (h : d = d') : Wk d d' := h ▸ Wk.refl _
theorem kint {K : D → St → Prop} {st : St} {k : IntKind} {a b : Int} (h : b = a) (hK : K (.v (.int k b)) st) : K (.v (.int k a)) st := h ▸ hK
theorem kbool {K : D → St → Prop} {st : St} {a b : Bool} (h : b = a) (hK : K (.v (.bool b)) st) : K (.v (.bool a)) st := h ▸ hK
theorem kD {K : D → St → Prop} {st : St} {a b : D} (h : b = a) (hK : K b st) : K a st := h ▸ hK
theorem wrap_id {x : Int} (h : -9223372036854775808 ≤ x) (h' : x ≤ 9223372036854775807) : IntKind.i64.wrap x = x := by rw [IntKind.wrap_i64]; omega
section
variable {E : Setting} {fn : Func} {L N : Nat} {F : D → St → Prop} {k : List KI} {ρ : Env} {f : List (Nat × AObj)} {st : St} {all : Array Oper} {rest : List Oper}
variable {t : Nat} {ty : TypeId} {pos : String} {af : Array Edge} {nn bb : Nat} {ss : Shp} {H : Key → Bool}
theorem acallE {fno : Nat} {c : Code} {ds : List D} {K : D → St → Prop} (hf : E.P.funcs[fno]? = some fn) (hb : fn.body = some c) {N : Nat} (hN : fn.ntmps = N) (hn : Nat.ble ds.length N = true) {l : List (Nat × D)} (hw : WkE (enter ds) l)
    (h : ∀ L, st.length = L → allL (lv L) ds = true → AW E ⟨fn, L, N⟩ [.code c] K (mkEnv l) (mkFr [] :: st)) : ACall E fno ds st K :=
  fun cx w vs hr hd => by
    have hlv : allL (lv st.length) ds = true := by
      have : ∀ (cs : List D), (∀ (j : Nat) d, cs[j]? = some d → d.all (lv st.length) = true) → allL (lv st.length) cs = true := fun cs => by
        induction cs with
        | nil => intro _; rfl
        | cons d r ih => intro h; simp only [allL, Bool.and_eq_true]; exact ⟨h 0 d rfl, ih fun j e hj => h (j + 1) e (by simpa using hj)⟩
      refine this _ fun j d hj => ?_
      obtain ⟨x, hx⟩ := len_get hd.1.symm hj
      exact hr.lev (hd.2 j d x hj hx) (Nat.le_refl _)
    exact acall_body hf hb hN hn (AW.reset l hw (h _ rfl hlv)) cx w vs hr hd
theorem lv_notKey {L t : Nat} {l : List D} (h : allL (lv L) l = true) : allL (notKey L t) l = true :=
  (all_mono (fun k hk => notKey_spec.2 (fun e => by rw [e] at hk; simp [lv] at hk))).2.1 l h
theorem AW.len {fr : Fr} (h : st.length = L → AW E ⟨fn, L, N⟩ k F ρ (fr :: st)) : AW E ⟨fn, L, N⟩ k F ρ (fr :: st) :=
  fun B cx a w hB hl he hr => h (by simpa using hl) B cx a w hB hl he hr
theorem AW.setF {U : Fun} {f' : List (Nat × AObj)} {u : Nat} {o : AObj} (h : setL f u o = f') (hk : AW E U k F ρ (mkFr f' :: st)) : AW E U k F ρ (Fr.upd (mkFr f) u (some o) :: st) := by
  subst h; rw [mkFr_set]; exact hk
theorem AW.box {e : TypeId} {x : Operand} {d : D} {f' : List (Nat × AObj)} (ht : Nat.blt t N = true) (hx : ev E ρ x = d) (hs : d.simple = true) (hf : mkFr f t = none) (hset : setL f t (.cells (cellsD d)) = f')
    (hk : AW E ⟨fn, L, N⟩ (.ops all rest :: k) F (upd ρ t (.bx (L, t) 0)) (mkFr f' :: st)) : AW E ⟨fn, L, N⟩ (.ops all (⟨some t, .box e x, ty, pos, af, none⟩ :: rest) :: k) F ρ (mkFr f :: st) :=
  AW.len fun hL => by subst hL; exact AW.s (S.box ht hx hs hf) (AW.setF hset hk)
theorem AW.alloc {e : TypeId} {zs : List Value} {ds : List D} {f' : List (Nat × AObj)} (ht : Nat.blt t N = true) (hz : tZero E.P e = some zs) (hd : ZeroL ds zs) (hlev : allL (fun _ => false) ds = true) (hf : mkFr f t = none) (hset : setL f t (.cells ds) = f')
    (hk : AW E ⟨fn, L, N⟩ (.ops all rest :: k) F (upd ρ t (.bx (L, t) 0)) (mkFr f' :: st)) : AW E ⟨fn, L, N⟩ (.ops all (⟨some t, .alloc e, ty, pos, af, none⟩ :: rest) :: k) F ρ (mkFr f :: st) :=
  AW.len fun hL => by subst hL; exact AW.s (S.alloc ht hz hd hlev hf) (AW.setF hset hk)
theorem AW.store {e : TypeId} {p x : Operand} {d : D} {u off : Nat} {cs ds cs' : List D} {f' : List (Nat × AObj)} (hT : tShape E.P e = some (nn, bb, ss)) (hp : ev E ρ p = .bx (L, u) off) (hx : ev E ρ x = d) (hs : d.simple = true) (hds : cellsD d = ds)
    (hn : ds.length = nn) (h1 : allB D.one ds = true) (hg : mkFr f u = some (.cells cs)) (hfit : Nat.ble (off + nn) cs.length = true) (hcs : splice cs off ds = cs') (hset : setL f u (.cells cs') = f')
    (hk : AW E ⟨fn, L, N⟩ (.ops all rest :: k) F ρ (mkFr f' :: st)) : AW E ⟨fn, L, N⟩ (.ops all (⟨none, .store e p x, ty, pos, af, none⟩ :: rest) :: k) F ρ (mkFr f :: st) :=
  AW.len fun hL => by subst hL; exact AW.s (S.store hT hp hx hs hds hn h1 hg hfit hcs) (AW.setF hset hk)
/-- A store into a variable further down. -/
theorem AW.storeL {e : TypeId} {p x : Operand} {d : D} {key : Key} {off : Nat} {cs ds cs' : List D} {st' : St} (hT : tShape E.P e = some (nn, bb, ss)) (hp : ev E ρ p = .bx key off) (hx : ev E ρ x = d) (hs : d.simple = true) (hds : cellsD d = ds)
    (hn : ds.length = nn) (h1 : allB D.one ds = true) (hlt : key.1 < st.length) (hg : st.get key = some (.cells cs)) (hlev : allL (lv (key.1 + 1)) ds = true) (hfit : Nat.ble (off + nn) cs.length = true) (hcs : splice cs off ds = cs') (hset : st.set key (some (.cells cs')) = st')
    (hk : AW E ⟨fn, L, N⟩ (.ops all rest :: k) F ρ (mkFr f :: st')) : AW E ⟨fn, L, N⟩ (.ops all (⟨none, .store e p x, ty, pos, af, none⟩ :: rest) :: k) F ρ (mkFr f :: st) :=
  AW.s (S.storeK (st' := mkFr f :: st') hT hp hx hs hds hn h1 ((St.get_tail hlt).trans hg) (by simp; omega) (.inr hlev) hfit (by
    have : ¬ key.1 = st.length := by omega
    simp only [St.set, this, if_false, hcs, hset])) hk
theorem AW.makeSlice {s e : TypeId} {n b be sz : Nat} {se : Shp} {x y : Operand} {kk kk' : IntKind} {len : Nat} {zs : List Value} {zds : List D} {f' : List (Nat × AObj)} (ht : Nat.blt t N = true) (hT : tShape E.P s = some (n, b, .slice e)) (hE : tShape E.P e = some (sz, be, se))
    (hz : tZero E.P e = some zs) (hzl : zs.length = sz) (hzd : ZeroL zds zs) (hlev : allL (fun _ => false) zds = true) (hx : ev E ρ x = .v (.int kk len)) (hy : ev E ρ y = .v (.int kk' len)) (hb : be * len ≤ 281474976710656) (hm : len ≤ 9223372036854775807) (hf : mkFr f t = none)
    (hset : setL f t (.cells (List.replicate len zds).flatten) = f') (hk : AW E ⟨fn, L, N⟩ (.ops all rest :: k) F (upd ρ t (.sb (L, t) len)) (mkFr f' :: st)) : AW E ⟨fn, L, N⟩ (.ops all (⟨some t, .makeSlice s x y, ty, pos, af, none⟩ :: rest) :: k) F ρ (mkFr f :: st) :=
  AW.len fun hL => by subst hL; exact AW.s (S.makeSlice ht hT hE hz hzl hzd hlev hx hy hb hm hf) (AW.setF hset hk)
theorem AW.storeE {e : TypeId} {p x : Operand} {d : D} {u i : Nat} {xs xs' : List (List D)} {ds : List D} {f' : List (Nat × AObj)} (hT : tShape E.P e = some (nn, bb, ss)) (hp : ev E ρ p = .bx (L, u) (i * nn)) (hx : ev E ρ x = d) (hs : d.simple = true) (hds : cellsD d = ds)
    (hn : ds.length = nn) (h1 : allB D.one ds = true) (hg : mkFr f u = some (.cells xs.flatten)) (hxs : ∀ cs ∈ xs, cs.length = nn) (hi : i < xs.length) (hset : xs.set i ds = xs') (hset2 : setL f u (.cells xs'.flatten) = f')
    (hk : AW E ⟨fn, L, N⟩ (.ops all rest :: k) F ρ (mkFr f' :: st)) : AW E ⟨fn, L, N⟩ (.ops all (⟨none, .store e p x, ty, pos, af, none⟩ :: rest) :: k) F ρ (mkFr f :: st) :=
  AW.len fun hL => by subst hL; exact AW.s (S.storeE hT hp hx hs hds hn h1 hg hxs hi hset) (AW.setF hset2 hk)
/-- Loads out of variables of this frame. -/
theorem AW.load {ty' : TypeId} {x : Operand} {u off : Nat} {cs : List D} {d : D} (ht : Nat.blt t N = true) (hT : tShape E.P ty' = some (nn, bb, ss)) (ha : ss.agg = false) (hx : ev E ρ x = .bx (L, u) off) (hs : mkFr f u = some (.cells cs)) (hd : cs[off]? = some d)
    (hk : AW E ⟨fn, L, N⟩ (.ops all rest :: k) F (upd ρ t d) (mkFr f :: st)) : AW E ⟨fn, L, N⟩ (.ops all (⟨some t, .load ty' x, ty, pos, af, none⟩ :: rest) :: k) F ρ (mkFr f :: st) :=
  AW.len fun hL => by subst hL; exact AW.l ht (Go.Mx.L.load hT ha hx rfl (get_top.trans hs) hd) hk
theorem AW.loadS {ty' : TypeId} {x : Operand} {u off : Nat} {cs ds : List D} (ht : Nat.blt t N = true) (hT : tShape E.P ty' = some (nn, bb, ss)) (ha : ss.agg = true) (hx : ev E ρ x = .bx (L, u) off) (hs : mkFr f u = some (.cells cs)) (hd : (cs.drop off).take nn = ds) (hl : ds.length = nn)
    (hk : AW E ⟨fn, L, N⟩ (.ops all rest :: k) F (upd ρ t (.agg ds)) (mkFr f :: st)) : AW E ⟨fn, L, N⟩ (.ops all (⟨some t, .load ty' x, ty, pos, af, none⟩ :: rest) :: k) F ρ (mkFr f :: st) :=
  AW.len fun hL => by subst hL; exact AW.l ht (Go.Mx.L.loadS hT ha hx rfl (get_top.trans hs) hd hl) hk
/-- Loads out of variables further down. -/
theorem AW.loadL {ty' : TypeId} {x : Operand} {key : Key} {off : Nat} {cs : List D} {d : D} (ht : Nat.blt t N = true) (hT : tShape E.P ty' = some (nn, bb, ss)) (ha : ss.agg = false) (hx : ev E ρ x = .bx key off) (hlt : key.1 < st.length) (hs : st.get key = some (.cells cs)) (hd : cs[off]? = some d)
    (hk : AW E ⟨fn, L, N⟩ (.ops all rest :: k) F (upd ρ t d) (mkFr f :: st)) : AW E ⟨fn, L, N⟩ (.ops all (⟨some t, .load ty' x, ty, pos, af, none⟩ :: rest) :: k) F ρ (mkFr f :: st) :=
  AW.l ht (Go.Mx.L.load hT ha hx rfl ((St.get_tail hlt).trans hs) hd) hk
theorem AW.loadLS {ty' : TypeId} {x : Operand} {key : Key} {off : Nat} {cs ds : List D} (ht : Nat.blt t N = true) (hT : tShape E.P ty' = some (nn, bb, ss)) (ha : ss.agg = true) (hx : ev E ρ x = .bx key off) (hlt : key.1 < st.length) (hs : st.get key = some (.cells cs)) (hd : (cs.drop off).take nn = ds) (hl : ds.length = nn)
    (hk : AW E ⟨fn, L, N⟩ (.ops all rest :: k) F (upd ρ t (.agg ds)) (mkFr f :: st)) : AW E ⟨fn, L, N⟩ (.ops all (⟨some t, .load ty' x, ty, pos, af, none⟩ :: rest) :: k) F ρ (mkFr f :: st) :=
  AW.l ht (Go.Mx.L.loadS hT ha hx rfl ((St.get_tail hlt).trans hs) hd hl) hk
def loopJ {ι : Type} (env : ι → List (Nat × D)) (frm : ι → List (Nat × AObj)) (low : ι → St) (Inv : ι → Prop) (μ : ι → Nat) (i : ι) : Env → St → Prop :=
  fun ρ' st' => ∃ j, μ j < μ i ∧ ρ' = mkEnv (env j) ∧ st' = mkFr (frm j) :: low j ∧ Inv j
/-- A loop whose state is a tuple of Lean values. -/
theorem AW.loopE {U : Fun} {c : Code} {ι : Type} (env : ι → List (Nat × D)) (frm : ι → List (Nat × AObj)) (low : ι → St) (Inv : ι → Prop) (μ : ι → Nat) (i0 : ι) (hw : WkE ρ (env i0)) (hf : f = frm i0) (hl : st = low i0) (h0 : Inv i0)
    (step : ∀ i, Inv i → AW E U (.code c :: .goal (loopJ env frm low Inv μ i) :: k) F (mkEnv (env i)) (mkFr (frm i) :: low i)) : AW E U (.code (.loop c) :: k) F ρ (mkFr f :: st) := by
  subst hf; subst hl
  refine AW.reset _ hw ?_
  refine AW.loop (ι := ι) (fun i ρ st' => ρ = mkEnv (env i) ∧ st' = mkFr (frm i) :: low i ∧ Inv i) μ i0 ⟨rfl, rfl, h0⟩ ?_
  rintro i _ _ _ ⟨rfl, rfl, hI⟩
  exact step i hI
theorem AW.next {U : Fun} {ι : Type} {env : ι → List (Nat × D)} {frm : ι → List (Nat × AObj)} {low : ι → St} {Inv : ι → Prop} {μ : ι → Nat} {i : ι} (j : ι) (hw : WkE ρ (env j)) (hf : f = frm j) (hl : st = low j) (hμ : μ j < μ i) (hI : Inv j) :
    AW E U (.goal (loopJ env frm low Inv μ i) :: k) F ρ (mkFr f :: st) :=
  AW.reset _ hw (AW.goal ⟨j, hμ, rfl, by rw [hf, hl], hI⟩)
/-- The length of a slice, and that it is no more than an int holds. -/
theorem AW.lenE {U : Fun} {st : St} {s e : TypeId} {n b m : Nat} {x : Operand} {sz : Nat} {tok : Tok} {xs : List (List D)} (h : tShape E.P s = some (n, b, .slice e)) (hx : ev E ρ x = .sl sz tok xs) (hm : xs.length = m) (ht : Nat.blt t U.N = true)
    (hk : m ≤ 9223372036854775807 → AW E U (.ops all rest :: k) F (upd ρ t (.v (.int .i64 m))) st) : AW E U (.ops all (⟨some t, .call ⟨.builtin .len, #[x], #[s]⟩, ty, pos, af, none⟩ :: rest) :: k) F ρ st := by
  subst hm
  exact AW.slLen hx fun hl => AW.p ht (P.len h hx) (hk hl)
/-- What is known, written out. -/
theorem AW.norm {U : Fun} (l : List (Nat × D)) (f' : List (Nat × AObj)) (st' : St) (hw : WkE ρ l) (hf : f = f') (hs : st = st') (h : AW E U k F (mkEnv l) (mkFr f' :: st')) : AW E U k F ρ (mkFr f :: st) := by
  subst hf; subst hs; exact AW.reset l hw h
/-- Ways that meet again. -/
def meetJ (l' : List (Nat × D)) (f' : List (Nat × AObj)) (st0 : St) (P : Prop) : Env → St → Prop := fun ρ' st' => ρ' = mkEnv l' ∧ st' = mkFr f' :: st0 ∧ P
theorem AW.cutE {U : Fun} {c : Code} (l' : List (Nat × D)) (f' : List (Nat × AObj)) (st0 : St) (P : Prop) (h1 : AW E U (.code c :: .goal (meetJ l' f' st0 P) :: k) F ρ (mkFr f :: st)) (h2 : P → AW E U k F (mkEnv l') (mkFr f' :: st0)) : AW E U (.code c :: k) F ρ (mkFr f :: st) :=
  AW.cut _ h1 (by rintro _ _ _ ⟨rfl, rfl, hP⟩; exact h2 hP)
theorem AW.meet {U : Fun} {l' : List (Nat × D)} {f' : List (Nat × AObj)} {st0 : St} {P : Prop} (hw : WkE ρ l') (hf : f = f') (hs : st = st0) (hP : P) : AW E U (.goal (meetJ l' f' st0 P) :: k) F ρ (mkFr f :: st) :=
  AW.reset _ hw (AW.goal ⟨rfl, by rw [hf, hs], hP⟩)
theorem AW.condP {U : Fun} {st : St} {c : Operand} {x y : Code} {p : Prop} [Decidable p] (hc : ev E ρ c = .v (.bool (decide p))) (h1 : p → AW E U (.code x :: k) F ρ st) (h2 : ¬ p → AW E U (.code y :: k) F ρ st) : AW E U (.code (.cond c x y) :: k) F ρ st :=
  AW.cond hc (fun h => h1 (of_decide_eq_true h)) (fun h => h2 (of_decide_eq_false h))
theorem AW.freezeE {l : List (Nat × D)} (u : Nat) {v : Nat} {sz len : Nat} {xs : List (List D)} {f' : List (Nat × AObj)} (hv : ρ v = .sb (L, u) len) (hfr : mkFr f u = some (.cells xs.flatten)) (hlen : xs.length = len) (hsz : ∀ cs ∈ xs, cs.length = sz)
    (hw : WkE ρ l) (hE : allE (notKey L u) l = true) (hx : allLL (notKey L u) xs = true) (hdel : delL f u = f') (hF : allF (notKey L u) f' = true) (h : AW E ⟨fn, L, N⟩ k F (upd (mkEnv l) v (.sl sz .full xs)) (mkFr f' :: st)) : AW E ⟨fn, L, N⟩ k F ρ (mkFr f :: st) :=
  AW.len fun hL => by
    subst hdel; subst hL
    refine AW.freeze u hv hfr hlen hsz hw hE hx ?_ ?_
    · rw [mkFr_del]; exact FrAll.ok hF
    · rw [mkFr_del]; exact h
theorem AW.dropE {l : List (Nat × D)} (u : Nat) {f' : List (Nat × AObj)} (hw : WkE ρ l) (hE : allE (notKey L u) l = true) (hdel : delL f u = f') (hF : allF (notKey L u) f' = true) (h : AW E ⟨fn, L, N⟩ k F (mkEnv l) (mkFr f' :: st)) : AW E ⟨fn, L, N⟩ k F ρ (mkFr f :: st) :=
  AW.len fun hL => by
    subst hdel; subst hL
    refine AW.reset l hw (AW.drop u hE ?_ ?_)
    · rw [mkFr_del]; exact FrAll.ok hF
    · rw [mkFr_del]; exact h
theorem AW.retE {ds : List D} (hres : resD ρ fn.results.toList = some ds) (hall : (resOf ds).all (lv L) = true) (hF : F (resOf ds) st) : AW E ⟨fn, L, N⟩ (.code .ret :: k) F ρ (mkFr f :: st) :=
  AW.len fun hL => by subst hL; exact AW.ret hres hall hF
theorem AW.nilE {ds : List D} (hres : resD ρ fn.results.toList = some ds) (hall : (resOf ds).all (lv L) = true) (hF : F (resOf ds) st) : AW E ⟨fn, L, N⟩ [] F ρ (mkFr f :: st) :=
  AW.len fun hL => by subst hL; exact AW.nil hres hall hF
theorem AW.retRE {ds : List D} {d' : D} {l : List (ResultVar)} (hl : fn.results.toList = l) (hres : ∀ fr : Fr, st.length = L → fr = mkFr f → ResR E ρ (fr :: st) l ds) (hw : Wk (resOf ds) d') (hall : d'.all (lv L) = true) (hF : F d' st) : AW E ⟨fn, L, N⟩ (.code .ret :: k) F ρ (mkFr f :: st) :=
  AW.len fun hL => by subst hL; exact AW.retR (by show ResR E ρ _ fn.results.toList ds; rw [hl]; exact hres _ rfl rfl) hw hall hF
theorem ResR.cS {b ty key n bb ss cs} {fr : Fr} (hL : st.length = L) (hfr : fr = mkFr f) (hT : tShape E.P ty = some (n, bb, ss)) (ha : ss.agg = true) (hb : ρ b = .bx (L, key) 0) (hg : mkFr f key = some (.cells cs)) (hn : cs.length = n) {r ds} (h : ResR E ρ (fr :: st) r ds) : ResR E ρ (fr :: st) (.cell b ty :: r) (.agg cs :: ds) := by
  subst hL; subst hfr
  exact .cellS hT ha hb (get_top.trans hg) hn h
theorem ResR.c1 {b ty key n bb ss cs d} {fr : Fr} (hL : st.length = L) (hfr : fr = mkFr f) (hT : tShape E.P ty = some (n, bb, ss)) (ha : ss.agg = false) (hb : ρ b = .bx (L, key) 0) (hg : mkFr f key = some (.cells cs)) (hd : cs[0]? = some d) {r ds} (h : ResR E ρ (fr :: st) r ds) : ResR E ρ (fr :: st) (.cell b ty :: r) (d :: ds) := by
  subst hL; subst hfr
  exact .cell1 hT ha hb (get_top.trans hg) hd h
/-! ### the same where the order is drawn -/
variable {ops : Array Oper} {n : Nat} {listed : Array Bool}
theorem AH.len {fr : Fr} (h : st.length = L → AH E ⟨fn, L, N⟩ k F ops n listed ρ fr st) : AH E ⟨fn, L, N⟩ k F ops n listed ρ fr st :=
  fun B cx a w hB hl he hr => h hl B cx a w hB hl he hr
theorem AO.len {fr : Fr} {i : Nat} (h : st.length = L → AO E ⟨fn, L, N⟩ k F ops n listed ρ fr st i) : AO E ⟨fn, L, N⟩ k F ops n listed ρ fr st i :=
  fun B cx a w hB hl he hr => h hl B cx a w hB hl he hr
theorem hid_top {L t : Nat} {fr : Fr} (h : isC (fr t) = true) : hid L fr (L, t) = true := by unfold hid; rw [h]; simp
theorem AH.p (i : Nat) {op : Op} {d : D} {listed' : Array Bool} {fr : Fr} (hi : ops[i]? = some ⟨some t, op, ty, pos, af, none⟩) (hs : Region.noSelect ops = true) (hf : Region.free .any ops listed i = true)
    (hrd : (Region.ready .any ops listed).contains i = true) (hset : listed.setIfInBounds i true = listed') (ht : Nat.blt t N = true) (hP : POk E ⟨fn, L, N⟩ ρ (fr :: st) ⟨some t, op, ty, pos, af, none⟩ d)
    (h : AH E ⟨fn, L, N⟩ k F ops n listed' (upd ρ t d) fr st) : AH E ⟨fn, L, N⟩ k F ops (n + 1) listed ρ fr st :=
  AH.take i hi hs hf hrd hset ht hP.l h
theorem AH.load (i : Nat) {ty' : TypeId} {x : Operand} {u off : Nat} {cs : List D} {d : D} {listed' : Array Bool} (hi : ops[i]? = some ⟨some t, .load ty' x, ty, pos, af, none⟩) (hs : Region.noSelect ops = true) (hf : Region.free .any ops listed i = true)
    (hrd : (Region.ready .any ops listed).contains i = true) (hset : listed.setIfInBounds i true = listed') (ht : Nat.blt t N = true) (hT : tShape E.P ty' = some (nn, bb, ss)) (ha : ss.agg = false) (hx : ev E ρ x = .bx (L, u) off) (hg : mkFr f u = some (.cells cs)) (hd : cs[off]? = some d)
    (h : AH E ⟨fn, L, N⟩ k F ops n listed' (upd ρ t d) (mkFr f) st) : AH E ⟨fn, L, N⟩ k F ops (n + 1) listed ρ (mkFr f) st :=
  AH.len fun hL => by subst hL; exact AH.take i hi hs hf hrd hset ht (Go.Mx.L.load hT ha hx (hid_top (by rw [hg]; rfl)) (get_top.trans hg) hd) h
theorem AH.loadS (i : Nat) {ty' : TypeId} {x : Operand} {u off : Nat} {cs ds : List D} {listed' : Array Bool} (hi : ops[i]? = some ⟨some t, .load ty' x, ty, pos, af, none⟩) (hs : Region.noSelect ops = true) (hf : Region.free .any ops listed i = true)
    (hrd : (Region.ready .any ops listed).contains i = true) (hset : listed.setIfInBounds i true = listed') (ht : Nat.blt t N = true) (hT : tShape E.P ty' = some (nn, bb, ss)) (ha : ss.agg = true) (hx : ev E ρ x = .bx (L, u) off) (hg : mkFr f u = some (.cells cs)) (hd : (cs.drop off).take nn = ds) (hl : ds.length = nn)
    (h : AH E ⟨fn, L, N⟩ k F ops n listed' (upd ρ t (.agg ds)) (mkFr f) st) : AH E ⟨fn, L, N⟩ k F ops (n + 1) listed ρ (mkFr f) st :=
  AH.len fun hL => by subst hL; exact AH.take i hi hs hf hrd hset ht (Go.Mx.L.loadS hT ha hx (hid_top (by rw [hg]; rfl)) (get_top.trans hg) hd hl) h
theorem AH.loadR (i : Nat) {ty' : TypeId} {x : Operand} {cs : List D} {d : D} {fr : Fr} {listed' : Array Bool} (hi : ops[i]? = some ⟨some t, .load ty' x, ty, pos, af, none⟩) (hs : Region.noSelect ops = true) (hf : Region.free .any ops listed i = true)
    (hrd : (Region.ready .any ops listed).contains i = true) (hset : listed.setIfInBounds i true = listed') (ht : Nat.blt t N = true) (hT : tShape E.P ty' = some (nn, bb, ss)) (ha : ss.agg = false) (hx : ev E ρ x = .ro cs) (hd : cs[0]? = some d)
    (h : AH E ⟨fn, L, N⟩ k F ops n listed' (upd ρ t d) fr st) : AH E ⟨fn, L, N⟩ k F ops (n + 1) listed ρ fr st :=
  AH.take i hi hs hf hrd hset ht (Go.Mx.L.loadR hT ha hx hd) h
theorem AH.loadRS (i : Nat) {ty' : TypeId} {x : Operand} {cs ds : List D} {fr : Fr} {listed' : Array Bool} (hi : ops[i]? = some ⟨some t, .load ty' x, ty, pos, af, none⟩) (hs : Region.noSelect ops = true) (hf : Region.free .any ops listed i = true)
    (hrd : (Region.ready .any ops listed).contains i = true) (hset : listed.setIfInBounds i true = listed') (ht : Nat.blt t N = true) (hT : tShape E.P ty' = some (nn, bb, ss)) (ha : ss.agg = true) (hx : ev E ρ x = .ro cs) (hd : cs.take nn = ds) (hl : ds.length = nn)
    (h : AH E ⟨fn, L, N⟩ k F ops n listed' (upd ρ t (.agg ds)) fr st) : AH E ⟨fn, L, N⟩ k F ops (n + 1) listed ρ fr st :=
  AH.take i hi hs hf hrd hset ht (Go.Mx.L.loadRS hT ha hx hd hl) h
theorem mkFr_hide : ∀ f : List (Nat × AObj), hideFr (mkFr f) = hideFr (mkFr f) := fun _ => rfl
theorem AO.callE {i : Nat} {g : Nat} {gn : Func} {args : Array Operand} {ats : Array TypeId} {c : Code} {ds : List D} {fr : Fr} {listed' : Array Bool} (hi : ops[i]? = some ⟨some t, .call ⟨.value (.func g), args, ats⟩, ty, pos, af, none⟩) (hset : listed.setIfInBounds i true = listed')
    (ht : Nat.blt t N = true) (hg : E.P.funcs[g]? = some gn) (hb : gn.body = some c) (hn : (gn.name == "runtime.NumGoroutine") = false)
    (hds : args.toList.map (ev E ρ) = ds) (ha : allL (vis L fr) ds = true)
    (hk : ACall E g ds (hideFr fr :: st) fun d st' => ∃ fr1 st1, st' = fr1 :: st1 ∧ (∀ t cs, fr t = some (.cells cs) → fr1 t = none) ∧ AH E ⟨fn, L, N⟩ k F ops n listed' (upd ρ t d) (joinFr fr fr1) st1) : AO E ⟨fn, L, N⟩ k F ops n listed ρ fr st i :=
  AO.len fun hL => by subst hL; exact AO.call hi hset ht hg hb hn hds ha hk
end
/-! ### lists, walked through by their places -/
theorem drop_cons {α : Type} {xs l : List α} {i : Nat} (h : xs.drop i = l) (hlt : i < xs.length) : ∃ x r, l = x :: r ∧ xs[i]? = some x ∧ xs.drop (i + 1) = r :=
  ⟨xs[i], xs.drop (i + 1), by rw [← h, List.drop_eq_getElem_cons hlt], List.getElem?_eq_getElem hlt, rfl⟩
theorem drop_nil {α : Type} {xs l : List α} {i : Nat} (h : xs.drop i = l) (hge : ¬ i < xs.length) : l = [] := by
  rw [← h, List.drop_eq_nil_iff]; omega
theorem drop_len {α : Type} {xs l : List α} {i : Nat} (h : xs.drop i = l) (hi : i ≤ xs.length) : i + l.length = xs.length := by
  rw [← h, List.length_drop]; omega
theorem bytes_eq {a b : ByteArray} : (a.toList == b.toList) = decide (a = b) := by
  have h : (a.toList = b.toList) ↔ a = b := ⟨fun h => by
    rw [ByteArray.toList_eq, ByteArray.toList_eq] at h
    obtain ⟨⟨a⟩⟩ := a
    obtain ⟨⟨b⟩⟩ := b
    simp only at h
    rw [h], fun h => by rw [h]⟩
  cases hd : decide (a = b) with
  | true => have := of_decide_eq_true hd; subst this; simp
  | false => have := of_decide_eq_false hd; simp [h, this]
section
variable {E : Setting} {U : Fun} {F : D → St → Prop} {k : List KI} {ρ : Env} {st : St} {all : Array Oper} {rest : List Oper}
variable {t : Nat} {ty : TypeId} {pos : String} {af : Array Edge} {nn bb : Nat} {ss : Shp} {H : Key → Bool}
theorem P.eqI {xt yt : TypeId} {x y : Operand} {kk : IntKind} {a b : Int} (hx : ev E ρ x = .v (.int kk a)) (hy : ev E ρ y = .v (.int kk b)) : POk E U ρ st ⟨some t, .binOp .eql xt x y yt, ty, pos, af, none⟩ (.v (.bool (decide (a = b)))) :=
  P.bin hx hy (by simp [dbin]; rfl)
theorem P.neI {xt yt : TypeId} {x y : Operand} {kk : IntKind} {a b : Int} (hx : ev E ρ x = .v (.int kk a)) (hy : ev E ρ y = .v (.int kk b)) : POk E U ρ st ⟨some t, .binOp .neq xt x y yt, ty, pos, af, none⟩ (.v (.bool (decide (¬ a = b)))) :=
  P.bin hx hy (by simp [dbin, bne]; rfl)
theorem P.eqS {xt yt : TypeId} {x y : Operand} {a b : ByteArray} (hx : ev E ρ x = .v (.string a)) (hy : ev E ρ y = .v (.string b)) : POk E U ρ st ⟨some t, .binOp .eql xt x y yt, ty, pos, af, none⟩ (.v (.bool (decide (a = b)))) :=
  P.bin hx hy (by simp only [dbin, bytes_eq])
theorem P.neS {xt yt : TypeId} {x y : Operand} {a b : ByteArray} (hx : ev E ρ x = .v (.string a)) (hy : ev E ρ y = .v (.string b)) : POk E U ρ st ⟨some t, .binOp .neq xt x y yt, ty, pos, af, none⟩ (.v (.bool (decide (¬ a = b)))) :=
  P.bin hx hy (by simp only [dbin, bytes_eq, decide_not])
theorem P.add {xt yt : TypeId} {x y : Operand} {a b : Int} (hx : ev E ρ x = .v (.int .i64 a)) (hy : ev E ρ y = .v (.int .i64 b)) (h : -9223372036854775808 ≤ a + b) (h' : a + b ≤ 9223372036854775807) : POk E U ρ st ⟨some t, .binOp .add xt x y yt, ty, pos, af, none⟩ (.v (.int .i64 (a + b))) :=
  P.bin hx hy (by simp only [dbin, if_true, wrap_id h h'])
theorem P.sub {xt yt : TypeId} {x y : Operand} {a b : Int} (hx : ev E ρ x = .v (.int .i64 a)) (hy : ev E ρ y = .v (.int .i64 b)) (h : -9223372036854775808 ≤ a - b) (h' : a - b ≤ 9223372036854775807) : POk E U ρ st ⟨some t, .binOp .sub xt x y yt, ty, pos, af, none⟩ (.v (.int .i64 (a - b))) :=
  P.bin hx hy (by simp only [dbin, if_true, wrap_id h h'])
theorem P.addN {xt yt : TypeId} {x y : Operand} {a b c : Nat} (hx : ev E ρ x = .v (.int .i64 a)) (hy : ev E ρ y = .v (.int .i64 b)) (hc : a + b = c) (h' : c ≤ 9223372036854775807) : POk E U ρ st ⟨some t, .binOp .add xt x y yt, ty, pos, af, none⟩ (.v (.int .i64 c)) :=
  P.bin hx hy (by simp only [dbin, if_true]; rw [wrap_id (by omega) (by omega), ← hc]; simp)
theorem P.notP {xt : TypeId} {x : Operand} {p : Prop} [Decidable p] (hx : ev E ρ x = .v (.bool (decide p))) : POk E U ρ st ⟨some t, .unOp .not xt x, ty, pos, af, none⟩ (.v (.bool (decide ¬ p))) := by
  have := P.not (U := U) (st := st) (t := t) (xt := xt) (ty := ty) (pos := pos) (af := af) hx
  rwa [← decide_not] at this
theorem P.assignNil {sz : Nat} : POk E U ρ st ⟨some t, .assign (.const (.slice none 0 0)), ty, pos, af, none⟩ (.sl sz .full []) :=
  fun cx a w hr => ⟨.slice none 0 0, fun _ => rfl, (ZeroL.sl (sz := sz) .nil).rd.2 0 _ _ rfl rfl⟩
theorem P.moveNil {sz : Nat} : POk E U ρ st ⟨some t, .move (.const (.slice none 0 0)), ty, pos, af, none⟩ (.sl sz .full []) :=
  fun cx a w hr => ⟨.slice none 0 0, fun _ => rfl, (ZeroL.sl (sz := sz) .nil).rd.2 0 _ _ rfl rfl⟩
theorem P.lenN {s e : TypeId} {n b m : Nat} {x : Operand} {sz : Nat} {tok : Tok} {xs : List (List D)} (h : tShape E.P s = some (n, b, .slice e)) (hx : ev E ρ x = .sl sz tok xs) (hm : xs.length = m) : POk E U ρ st ⟨some t, .call ⟨.builtin .len, #[x], #[s]⟩, ty, pos, af, none⟩ (.v (.int .i64 m)) := by
  subst hm; exact P.len h hx
theorem P.indexA {s e : TypeId} {n b be : Nat} {se : Shp} {x ix : Operand} {sz : Nat} {tok : Tok} {xs : List (List D)} {kk : IntKind} {i : Nat} {cs : List D}
    (h : tShape E.P s = some (n, b, .slice e)) (he : tShape E.P e = some (sz, be, se))
    (hx : ev E ρ x = .sl sz tok xs) (hi : ev E ρ ix = .v (.int kk i)) (hcs : xs[i]? = some cs) : POk E U ρ st ⟨some t, .indexAddr s x ix, ty, pos, af, none⟩ (.ro cs) :=
  P.indexAddr h he hx hi (by omega) (by simpa using hcs)
theorem AW.condN {c : Operand} {x y : Code} {p : Prop} [Decidable p] (hc : ev E ρ c = .v (.bool (!decide p))) (h1 : ¬ p → AW E U (.code x :: k) F ρ st) (h2 : p → AW E U (.code y :: k) F ρ st) : AW E U (.code (.cond c x y) :: k) F ρ st :=
  AW.cond hc (fun h => h1 (by simpa using h)) (fun h => h2 (by simpa using h))
end
theorem pL_some {α : Type} {xs : List α} {i : Nat} (h : i < xs.length) : ∃ x, xs[i]? = some x := ⟨_, List.getElem?_eq_getElem h⟩
end Go.Mx

/- Forms and core programs as Lean data, their measures and comparisons. No condition. -/
namespace Go.Mx
/-! ### the program's data -/
structure Form where
  kind : Int
  name : ByteArray
  n : Int
  scopes : List Int
  kids : List Form
def intsD (l : List Int) : List (List D) := l.map fun i => [.v (.int .i64 i)]
def strsD (l : List ByteArray) : List (List D) := l.map fun i => [.v (.string i)]
mutual
def formD : Form → List D
  | ⟨k, nm, n, sc, kids⟩ => [.v (.int .i64 k), .v (.string nm), .v (.int .i64 n), .sl 1 .ro (intsD sc), .sl 5 .ro (formsD kids)]
def formsD : List Form → List (List D)
  | [] => []
  | f :: r => formD f :: formsD r
end
def cForm (f : Form) : List D := [.v (.int .i64 f.kind), .v (.string f.name), .v (.int .i64 f.n), .sl 1 .ro (intsD f.scopes), .sl 5 .ro (formsD f.kids)]
theorem formD_eq (f : Form) : formD f = cForm f := by cases f; rfl
theorem formsD_eq (l : List Form) : formsD l = l.map cForm := by
  induction l with
  | nil => rfl
  | cons f r ih => rw [formsD, formD_eq, ih]; rfl
theorem formsD_length (l : List Form) : (formsD l).length = l.length := by rw [formsD_eq]; simp
theorem formsD_get (l : List Form) (i : Nat) : (formsD l)[i]? = (l[i]?).map cForm := by rw [formsD_eq]; simp
structure Core where
  kind : Int
  id : Int
  name : ByteArray
  n : Int
  ids : List Int
  data : Form
  kids : List Core
mutual
def coreD : Core → List D
  | ⟨k, id, nm, n, ids, dt, kids⟩ => [.v (.int .i64 k), .v (.int .i64 id), .v (.string nm), .v (.int .i64 n), .sl 1 .ro (intsD ids), .v (.int .i64 dt.kind), .v (.string dt.name), .v (.int .i64 dt.n), .sl 1 .ro (intsD dt.scopes), .sl 5 .ro (formsD dt.kids), .sl 11 .ro (coresD kids)]
def coresD : List Core → List (List D)
  | [] => []
  | f :: r => coreD f :: coresD r
end
def cCore (c : Core) : List D := [.v (.int .i64 c.kind), .v (.int .i64 c.id), .v (.string c.name), .v (.int .i64 c.n), .sl 1 .ro (intsD c.ids), .v (.int .i64 c.data.kind), .v (.string c.data.name), .v (.int .i64 c.data.n), .sl 1 .ro (intsD c.data.scopes), .sl 5 .ro (formsD c.data.kids), .sl 11 .ro (coresD c.kids)]
theorem coreD_eq (f : Core) : coreD f = cCore f := by cases f; rfl
theorem coresD_eq (l : List Core) : coresD l = l.map cCore := by
  induction l with
  | nil => rfl
  | cons f r ih => rw [coresD, coreD_eq, ih]; rfl
theorem coresD_length (l : List Core) : (coresD l).length = l.length := by rw [coresD_eq]; simp
theorem coresD_get (l : List Core) (i : Nat) : (coresD l)[i]? = (l[i]?).map cCore := by rw [coresD_eq]; simp
theorem intsD_length (l : List Int) : (intsD l).length = l.length := by simp [intsD]
theorem strsD_length (l : List ByteArray) : (strsD l).length = l.length := by simp [strsD]
theorem intsD_get (l : List Int) (i : Nat) : (intsD l)[i]? = (l[i]?).map fun i => [.v (.int .i64 i)] := by simp [intsD]
theorem strsD_get (l : List ByteArray) (i : Nat) : (strsD l)[i]? = (l[i]?).map fun i => [.v (.string i)] := by simp [strsD]
@[simp] theorem intsD_all (p : Key → Bool) (l : List Int) : allLL p (intsD l) = true := by
  induction l with
  | nil => rfl
  | cons x r ih => simp only [intsD, List.map_cons, allLL, allL, D.all, Bool.true_and, Bool.and_true] at *; exact ih
@[simp] theorem strsD_all (p : Key → Bool) (l : List ByteArray) : allLL p (strsD l) = true := by
  induction l with
  | nil => rfl
  | cons x r ih => simp only [strsD, List.map_cons, allLL, allL, D.all, Bool.true_and, Bool.and_true] at *; exact ih
mutual
theorem formD_all (p : Key → Bool) : ∀ f : Form, allL p (formD f) = true
  | ⟨k, nm, n, sc, kids⟩ => by simp only [formD, allL, D.all, Tok.all, intsD_all, formsD_all p kids, Bool.and_self]
@[simp] theorem formsD_all (p : Key → Bool) : ∀ l : List Form, allLL p (formsD l) = true
  | [] => rfl
  | f :: r => by simp only [formsD, allLL, formD_all p f, formsD_all p r, Bool.and_self]
end
@[simp] theorem cForm_all (p : Key → Bool) (f : Form) : allL p (cForm f) = true := by rw [← formD_eq]; exact formD_all p f
mutual
theorem coreD_all (p : Key → Bool) : ∀ f : Core, allL p (coreD f) = true
  | ⟨k, id, nm, n, ids, dt, kids⟩ => by simp only [coreD, allL, D.all, Tok.all, intsD_all, formsD_all, coresD_all p kids, Bool.and_self]
@[simp] theorem coresD_all (p : Key → Bool) : ∀ l : List Core, allLL p (coresD l) = true
  | [] => rfl
  | f :: r => by simp only [coresD, allLL, coreD_all p f, coresD_all p r, Bool.and_self]
end
@[simp] theorem cCore_all (p : Key → Bool) (f : Core) : allL p (cCore f) = true := by rw [← coreD_eq]; exact coreD_all p f
theorem sz_get {α : Type} [SizeOf α] {l : List α} {i : Nat} {x : α} (h : l[i]? = some x) : SizeOf.sizeOf x < SizeOf.sizeOf l := List.sizeOf_lt_of_mem (List.mem_of_getElem? h)
theorem sz_kids (c : Core) : SizeOf.sizeOf c.kids < SizeOf.sizeOf c := by cases c; simp; omega
theorem sz_fkids (c : Form) : SizeOf.sizeOf c.kids < SizeOf.sizeOf c := by cases c; simp; omega
/-- A row that is filled from its beginning. -/
def rows {α : Type} (f : α → List D) (z : List D) (xs : List α) (i : Nat) : List (List D) := (xs.take i).map f ++ List.replicate (xs.length - i) z
theorem rows_set {α : Type} {f : α → List D} {z : List D} {xs : List α} {i : Nat} {x : α} (h : xs[i]? = some x) : (rows f z xs i).set i (f x) = rows f z xs (i + 1) := by
  obtain ⟨hlt, rfl⟩ := List.getElem?_eq_some_iff.1 h
  unfold rows
  have h1 : ((xs.take i).map f).length = i := by simp; omega
  rw [List.set_append_right _ _ (by omega), h1, Nat.sub_self]
  have h2 : xs.length - i = (xs.length - (i + 1)) + 1 := by omega
  rw [h2, List.replicate_succ, List.set_cons_zero, List.take_add_one, List.getElem?_eq_getElem hlt, List.map_append]
  simp only [Option.toList_some, List.map_cons, List.map_nil, List.append_assoc, List.singleton_append]
theorem rows_end {α : Type} {f : α → List D} {z : List D} {xs : List α} {i : Nat} (h : xs.length ≤ i) : rows f z xs i = xs.map f := by
  unfold rows
  rw [List.take_of_length_le h, show xs.length - i = 0 by omega]; simp
theorem rows_len {α : Type} {f : α → List D} {z : List D} {xs : List α} {i : Nat} (h : i ≤ xs.length) : (rows f z xs i).length = xs.length := by
  unfold rows; simp; omega
theorem rows_sz {α : Type} {f : α → List D} {z : List D} {xs : List α} {i n : Nat} (hf : ∀ x, (f x).length = n) (hz : z.length = n) : ∀ cs ∈ rows f z xs i, cs.length = n := fun cs h => by
  unfold rows at h
  rcases List.mem_append.1 h with h | h
  · obtain ⟨x, _, rfl⟩ := List.mem_map.1 h; exact hf x
  · rw [List.eq_of_mem_replicate h]; exact hz
def cInt (i : Int) : List D := [.v (.int .i64 i)]
def cStr (i : ByteArray) : List D := [.v (.string i)]
theorem intsD_eq (l : List Int) : intsD l = l.map cInt := rfl
theorem strsD_eq (l : List ByteArray) : strsD l = l.map cStr := rfl
theorem intsD_sz (l : List Int) : ∀ cs ∈ intsD l, cs.length = 1 := fun cs h => by obtain ⟨x, _, rfl⟩ := List.mem_map.1 h; rfl
theorem strsD_sz (l : List ByteArray) : ∀ cs ∈ strsD l, cs.length = 1 := fun cs h => by obtain ⟨x, _, rfl⟩ := List.mem_map.1 h; rfl
theorem formsD_sz (l : List Form) : ∀ cs ∈ formsD l, cs.length = 5 := fun cs h => by rw [formsD_eq] at h; obtain ⟨x, _, rfl⟩ := List.mem_map.1 h; rfl
theorem coresD_sz (l : List Core) : ∀ cs ∈ coresD l, cs.length = 11 := fun cs h => by rw [coresD_eq] at h; obtain ⟨x, _, rfl⟩ := List.mem_map.1 h; rfl
theorem sz_scopes (c : Form) : SizeOf.sizeOf c.scopes < SizeOf.sizeOf c := by cases c; simp; omega
theorem sz_data (c : Core) : SizeOf.sizeOf c.data < SizeOf.sizeOf c := by cases c; simp; omega
/-! ### what the laws measure -/
mutual
def okForm : Form → Prop
  | ⟨_, nm, _, _, kids⟩ => nm.size ≤ 9223372036854775807 ∧ okForms kids
def okForms : List Form → Prop
  | [] => True
  | f :: r => okForm f ∧ okForms r
end
mutual
def okCore : Core → Prop
  | ⟨_, _, nm, _, _, dt, kids⟩ => nm.size ≤ 9223372036854775807 ∧ okForm dt ∧ okCores kids
def okCores : List Core → Prop
  | [] => True
  | f :: r => okCore f ∧ okCores r
end
theorem okForm_eq (f : Form) : okForm f ↔ f.name.size ≤ 9223372036854775807 ∧ okForms f.kids := by cases f; simp only [okForm]
theorem okCore_eq (f : Core) : okCore f ↔ f.name.size ≤ 9223372036854775807 ∧ okForm f.data ∧ okCores f.kids := by cases f; simp only [okCore]
theorem okForms_get {l : List Form} (h : okForms l) {i : Nat} {x : Form} (hx : l[i]? = some x) : okForm x := by
  induction l generalizing i with
  | nil => simp at hx
  | cons c r ih =>
    simp only [okForms] at h
    cases i with
    | zero => simp at hx; subst hx; exact h.1
    | succ i => exact ih h.2 (by simpa using hx)
theorem okCores_get {l : List Core} (h : okCores l) {i : Nat} {x : Core} (hx : l[i]? = some x) : okCore x := by
  induction l generalizing i with
  | nil => simp at hx
  | cons c r ih =>
    simp only [okCores] at h
    cases i with
    | zero => simp at hx; subst hx; exact h.1
    | succ i => exact ih h.2 (by simpa using hx)
def szInts (l : List Int) (n : Int) : Int := if n - l.length < 0 then -1 else n - l.length
mutual
def szForm : Form → Int → Int
  | ⟨_, nm, _, sc, kids⟩, n =>
    if n - nm.size < 0 then -1 else
    if szInts sc (n - nm.size) < 0 then -1 else
    if szForms kids (szInts sc (n - nm.size) - kids.length) < 0 then -1 else
    szForms kids (szInts sc (n - nm.size) - kids.length)
def szForms : List Form → Int → Int
  | [], n => if n < 0 then -1 else n
  | f :: r, n => if n < 0 then -1 else if szForm f n < 0 then -1 else szForms r (szForm f n)
end
mutual
def szCore : Core → Int → Int
  | ⟨_, _, nm, _, ids, dt, kids⟩, n =>
    if n - nm.size < 0 then -1 else
    if szInts ids (n - nm.size) < 0 then -1 else
    if szForm dt (szInts ids (n - nm.size)) < 0 then -1 else
    if szCores kids (szForm dt (szInts ids (n - nm.size)) - kids.length) < 0 then -1 else
    szCores kids (szForm dt (szInts ids (n - nm.size)) - kids.length)
def szCores : List Core → Int → Int
  | [], n => if n < 0 then -1 else n
  | f :: r, n => if n < 0 then -1 else if szCore f n < 0 then -1 else szCores r (szCore f n)
end
theorem szForm_eq (f : Form) (n : Int) : szForm f n = if n - f.name.size < 0 then -1 else
    if szInts f.scopes (n - f.name.size) < 0 then -1 else
    if szForms f.kids (szInts f.scopes (n - f.name.size) - f.kids.length) < 0 then -1 else
    szForms f.kids (szInts f.scopes (n - f.name.size) - f.kids.length) := by cases f; simp only [szForm]
theorem szCore_eq (f : Core) (n : Int) : szCore f n = if n - f.name.size < 0 then -1 else
    if szInts f.ids (n - f.name.size) < 0 then -1 else
    if szForm f.data (szInts f.ids (n - f.name.size)) < 0 then -1 else
    if szCores f.kids (szForm f.data (szInts f.ids (n - f.name.size)) - f.kids.length) < 0 then -1 else
    szCores f.kids (szForm f.data (szInts f.ids (n - f.name.size)) - f.kids.length) := by cases f; simp only [szCore]
theorem szInts_le (l : List Int) (n : Int) (h : 0 ≤ n) : szInts l n ≤ n := by unfold szInts; split <;> omega
theorem szForm_le (m : Nat) : (∀ f : Form, SizeOf.sizeOf f < m → ∀ n : Int, 0 ≤ n → szForm f n ≤ n) ∧ (∀ l : List Form, SizeOf.sizeOf l < m → ∀ n : Int, -1 ≤ n → szForms l n ≤ n) := by
  induction m with
  | zero => exact ⟨fun _ h => absurd h (Nat.not_lt_zero _), fun _ h => absurd h (Nat.not_lt_zero _)⟩
  | succ m ih =>
    constructor
    · intro f hf n hn
      have := sz_fkids f
      rw [szForm_eq]
      have h1 := szInts_le f.scopes (n - f.name.size)
      have h2 := ih.2 f.kids (by omega)
      split; omega
      split; omega
      split; omega
      rename_i a b c
      have h3 := h1 (by omega)
      by_cases h4 : -1 ≤ szInts f.scopes (n - f.name.size) - f.kids.length
      · have := h2 _ h4; omega
      · exfalso
        apply c
        cases hk : f.kids with
        | nil => rw [hk] at h4; simp at h4; omega
        | cons g r => rw [hk] at h4; simp only [szForms]; rw [if_pos (by omega)]; omega
    · intro l hl n hn
      cases l with
      | nil => simp only [szForms]; split <;> omega
      | cons f r =>
        simp only [szForms]
        simp at hl
        split
        · omega
        · rename_i h0
          have h1 := ih.1 f (by omega) n (by omega)
          split
          · omega
          · have := ih.2 r (by omega) (szForm f n) (by omega)
            omega
theorem szCore_le (m : Nat) : (∀ f : Core, SizeOf.sizeOf f < m → ∀ n : Int, 0 ≤ n → szCore f n ≤ n) ∧ (∀ l : List Core, SizeOf.sizeOf l < m → ∀ n : Int, -1 ≤ n → szCores l n ≤ n) := by
  induction m with
  | zero => exact ⟨fun _ h => absurd h (Nat.not_lt_zero _), fun _ h => absurd h (Nat.not_lt_zero _)⟩
  | succ m ih =>
    constructor
    · intro f hf n hn
      have := sz_kids f
      rw [szCore_eq]
      have h1 := szInts_le f.ids (n - f.name.size)
      have h2 := ih.2 f.kids (by omega)
      have h5 := (szForm_le (SizeOf.sizeOf f.data + 1)).1 f.data (by omega) (szInts f.ids (n - f.name.size))
      split; omega
      split; omega
      split; omega
      split; omega
      rename_i a b c d
      have h3 := h1 (by omega)
      have h6 := h5 (by omega)
      by_cases h4 : -1 ≤ szForm f.data (szInts f.ids (n - f.name.size)) - f.kids.length
      · have := h2 _ h4; omega
      · exfalso
        apply d
        cases hk : f.kids with
        | nil => rw [hk] at h4; simp at h4; omega
        | cons g r => rw [hk] at h4; simp only [szCores]; rw [if_pos (by omega)]; omega
    · intro l hl n hn
      cases l with
      | nil => simp only [szCores]; split <;> omega
      | cons f r =>
        simp only [szCores]
        simp at hl
        split
        · omega
        · rename_i h0
          have h1 := ih.1 f (by omega) n (by omega)
          split
          · omega
          · have := ih.2 r (by omega) (szCore f n) (by omega)
            omega
theorem szForm_leq (f : Form) (n : Int) (h : 0 ≤ n) : szForm f n ≤ n := (szForm_le _).1 f (Nat.lt_succ_self _) n h
theorem szForms_leq (f : List Form) (n : Int) (h : -1 ≤ n) : szForms f n ≤ n := (szForm_le _).2 f (Nat.lt_succ_self _) n h
theorem szCore_leq (f : Core) (n : Int) (h : 0 ≤ n) : szCore f n ≤ n := (szCore_le _).1 f (Nat.lt_succ_self _) n h
theorem szCores_leq (f : List Core) (n : Int) (h : -1 ≤ n) : szCores f n ≤ n := (szCore_le _).2 f (Nat.lt_succ_self _) n h
mutual
def bdForm : Form → Prop
  | ⟨_, _, _, sc, kids⟩ => sc.length ≤ 1048576 ∧ kids.length ≤ 1048576 ∧ bdForms kids
def bdForms : List Form → Prop
  | [] => True
  | f :: r => bdForm f ∧ bdForms r
end
mutual
def bdCore : Core → Prop
  | ⟨_, _, _, _, ids, dt, kids⟩ => ids.length ≤ 1048576 ∧ bdForm dt ∧ kids.length ≤ 1048576 ∧ bdCores kids
def bdCores : List Core → Prop
  | [] => True
  | f :: r => bdCore f ∧ bdCores r
end
theorem bdForm_eq (f : Form) : bdForm f ↔ f.scopes.length ≤ 1048576 ∧ f.kids.length ≤ 1048576 ∧ bdForms f.kids := by cases f; simp only [bdForm]
theorem bdCore_eq (f : Core) : bdCore f ↔ f.ids.length ≤ 1048576 ∧ bdForm f.data ∧ f.kids.length ≤ 1048576 ∧ bdCores f.kids := by cases f; simp only [bdCore]
theorem bdForms_get {l : List Form} (h : bdForms l) {i : Nat} {x : Form} (hx : l[i]? = some x) : bdForm x := by
  induction l generalizing i with
  | nil => simp at hx
  | cons c r ih =>
    simp only [bdForms] at h
    cases i with
    | zero => simp at hx; subst hx; exact h.1
    | succ i => exact ih h.2 (by simpa using hx)
theorem bdCores_get {l : List Core} (h : bdCores l) {i : Nat} {x : Core} (hx : l[i]? = some x) : bdCore x := by
  induction l generalizing i with
  | nil => simp at hx
  | cons c r ih =>
    simp only [bdCores] at h
    cases i with
    | zero => simp at hx; subst hx; exact h.1
    | succ i => exact ih h.2 (by simpa using hx)
theorem szInts_bd {l : List Int} {n : Int} (h : ¬ szInts l n < 0) (hn : n ≤ 1048576) : l.length ≤ 1048576 ∧ szInts l n ≤ n := by
  unfold szInts at *; split at h
  · omega
  · rename_i h2; rw [if_neg h2]; omega
theorem szForm_bd (m : Nat) : (∀ f : Form, SizeOf.sizeOf f < m → ∀ n : Int, n ≤ 1048576 → ¬ szForm f n < 0 → bdForm f ∧ szForm f n ≤ n) ∧ (∀ l : List Form, SizeOf.sizeOf l < m → ∀ n : Int, n ≤ 1048576 → ¬ szForms l n < 0 → bdForms l ∧ 0 ≤ n ∧ szForms l n ≤ n) := by
  induction m with
  | zero => exact ⟨fun _ h => absurd h (Nat.not_lt_zero _), fun _ h => absurd h (Nat.not_lt_zero _)⟩
  | succ m ih =>
    constructor
    · intro f hf n hn h
      have hs := sz_fkids f
      rw [szForm_eq] at h ⊢
      split at h; omega
      split at h; omega
      split at h; omega
      rename_i a b c
      obtain ⟨h1, h2⟩ := szInts_bd b (by omega)
      obtain ⟨h3, h4, h5⟩ := ih.2 f.kids (by omega) _ (by omega) c
      rw [if_neg a, if_neg b, if_neg c, bdForm_eq]
      exact ⟨⟨h1, by omega, h3⟩, by omega⟩
    · intro l hl n hn h
      cases l with
      | nil => simp only [szForms] at h ⊢; split at h; omega; rename_i h0; rw [if_neg h0]; exact ⟨by simp only [bdForms], by omega, by omega⟩
      | cons f r =>
        simp only [szForms] at h ⊢
        simp at hl
        split at h; omega
        split at h; omega
        rename_i a b
        obtain ⟨h1, h2⟩ := ih.1 f (by omega) n hn b
        obtain ⟨h3, h4, h5⟩ := ih.2 r (by omega) _ (by omega) h
        rw [if_neg a, if_neg b]
        simp only [bdForms]
        exact ⟨⟨h1, h3⟩, by omega, by omega⟩
theorem szCore_bd (m : Nat) : (∀ f : Core, SizeOf.sizeOf f < m → ∀ n : Int, n ≤ 1048576 → ¬ szCore f n < 0 → bdCore f ∧ szCore f n ≤ n) ∧ (∀ l : List Core, SizeOf.sizeOf l < m → ∀ n : Int, n ≤ 1048576 → ¬ szCores l n < 0 → bdCores l ∧ 0 ≤ n ∧ szCores l n ≤ n) := by
  induction m with
  | zero => exact ⟨fun _ h => absurd h (Nat.not_lt_zero _), fun _ h => absurd h (Nat.not_lt_zero _)⟩
  | succ m ih =>
    constructor
    · intro f hf n hn h
      have hs := sz_kids f
      rw [szCore_eq] at h ⊢
      split at h; omega
      split at h; omega
      split at h; omega
      split at h; omega
      rename_i a b d c
      obtain ⟨h1, h2⟩ := szInts_bd b (by omega)
      obtain ⟨h6, h7⟩ := (szForm_bd _).1 f.data (Nat.lt_succ_self _) _ (by omega) d
      obtain ⟨h3, h4, h5⟩ := ih.2 f.kids (by omega) _ (by omega) c
      rw [if_neg a, if_neg b, if_neg d, if_neg c, bdCore_eq]
      exact ⟨⟨h1, h6, by omega, h3⟩, by omega⟩
    · intro l hl n hn h
      cases l with
      | nil => simp only [szCores] at h ⊢; split at h; omega; rename_i h0; rw [if_neg h0]; exact ⟨by simp only [bdCores], by omega, by omega⟩
      | cons f r =>
        simp only [szCores] at h ⊢
        simp at hl
        split at h; omega
        split at h; omega
        rename_i a b
        obtain ⟨h1, h2⟩ := ih.1 f (by omega) n hn b
        obtain ⟨h3, h4, h5⟩ := ih.2 r (by omega) _ (by omega) h
        rw [if_neg a, if_neg b]
        simp only [bdCores]
        exact ⟨⟨h1, h3⟩, by omega, by omega⟩
/-! ### what the laws compare -/
def eqInts (l m : List Int) : Bool := decide (l = m)
mutual
def eqForm : Form → Form → Bool
  | ⟨k, nm, n, sc, kids⟩, b => decide (k = b.kind) && (decide (nm = b.name) && (decide (n = b.n) && (eqInts sc b.scopes && eqForms kids b.kids)))
def eqForms : List Form → List Form → Bool
  | [], [] => true
  | f :: r, g :: s => eqForm f g && eqForms r s
  | _, _ => false
end
mutual
def eqCore : Core → Core → Bool
  | ⟨k, id, nm, n, ids, dt, kids⟩, b => decide (k = b.kind) && (decide (id = b.id) && (decide (nm = b.name) && (decide (n = b.n) && (eqInts ids b.ids && (eqForm dt b.data && eqCores kids b.kids)))))
def eqCores : List Core → List Core → Bool
  | [], [] => true
  | f :: r, g :: s => eqCore f g && eqCores r s
  | _, _ => false
end
theorem eqForm_eq (a b : Form) : eqForm a b = (decide (a.kind = b.kind) && (decide (a.name = b.name) && (decide (a.n = b.n) && (eqInts a.scopes b.scopes && eqForms a.kids b.kids)))) := by cases a; simp only [eqForm]
theorem eqCore_eq (a b : Core) : eqCore a b = (decide (a.kind = b.kind) && (decide (a.id = b.id) && (decide (a.name = b.name) && (decide (a.n = b.n) && (eqInts a.ids b.ids && (eqForm a.data b.data && eqCores a.kids b.kids)))))) := by cases a; simp only [eqCore]
theorem eqInts_len {l m : List Int} (h : ¬ l.length = m.length) : eqInts l m = false := decide_eq_false (fun e => h (by rw [e]))
theorem eqInts_cons (x y : Int) (l m : List Int) : eqInts (x :: l) (y :: m) = (decide (x = y) && eqInts l m) := by simp [eqInts]
theorem eqForms_len : ∀ {l m : List Form}, ¬ l.length = m.length → eqForms l m = false
  | [], [], h => absurd rfl h
  | [], _ :: _, _ => by simp only [eqForms]
  | _ :: _, [], _ => by simp only [eqForms]
  | f :: r, g :: s, h => by simp only [eqForms, eqForms_len (l := r) (m := s) (by simpa using h), Bool.and_false]
theorem eqCores_len : ∀ {l m : List Core}, ¬ l.length = m.length → eqCores l m = false
  | [], [], h => absurd rfl h
  | [], _ :: _, _ => by simp only [eqCores]
  | _ :: _, [], _ => by simp only [eqCores]
  | f :: r, g :: s, h => by simp only [eqCores, eqCores_len (l := r) (m := s) (by simpa using h), Bool.and_false]
mutual
theorem eqForm_refl : ∀ a : Form, eqForm a a = true
  | ⟨k, nm, n, sc, kids⟩ => by simp only [eqForm, eqInts, decide_true, eqForms_refl kids, Bool.and_self]
theorem eqForms_refl : ∀ a : List Form, eqForms a a = true
  | [] => rfl
  | f :: r => by simp only [eqForms, eqForm_refl f, eqForms_refl r, Bool.and_self]
end
mutual
theorem eqCore_refl : ∀ a : Core, eqCore a a = true
  | ⟨k, id, nm, n, ids, dt, kids⟩ => by simp only [eqCore, eqInts, decide_true, eqForm_refl dt, eqCores_refl kids, Bool.and_self]
theorem eqCores_refl : ∀ a : List Core, eqCores a a = true
  | [] => rfl
  | f :: r => by simp only [eqCores, eqCore_refl f, eqCores_refl r, Bool.and_self]
end
end Go.Mx

/- Stores that are stacked, functions that are handed on, guarded operations, for the abstract state. No condition. -/
namespace Go.Mx
set_option linter.unusedVariables false
set_option linter.unusedSimpArgs false
theorem St.get_append : ∀ {up st : St} {k : Key}, k.1 < st.length → St.get (up ++ st) k = St.get st k
  | [], _, _, _ => rfl
  | fr :: up, st, k, h => by
    rw [List.cons_append, St.get_tail (by simp; omega)]
    exact St.get_append h
theorem St.set_append : ∀ {up st : St} {k : Key} {o : Option AObj}, k.1 < st.length → St.set (up ++ st) k o = up ++ St.set st k o
  | [], _, _, _, _ => rfl
  | fr :: up, st, k, o, h => by
    have : ¬ k.1 = (up ++ st).length := by simp; omega
    simp only [List.cons_append, St.set, this, if_false]
    rw [St.set_append h]
theorem St.set_tail {fr : Fr} {st : St} {k : Key} {o : Option AObj} (h : k.1 < st.length) : St.set (fr :: st) k o = fr :: St.set st k o := by
  have : ¬ k.1 = st.length := by omega
  simp only [St.set, this, if_false]
theorem St.set_same : ∀ {st : St} {k : Key} {o : AObj}, St.get st k = some o → St.set st k (some o) = st
  | [], _, _, h => rfl
  | fr :: r, k, o, h => by
    simp only [St.get] at h
    simp only [St.set]
    split
    · rename_i hk
      rw [if_pos hk] at h
      congr 1
      funext t
      unfold Fr.upd
      split
      · rename_i ht; rw [ht]; exact h.symm
      · rfl
    · rename_i hk
      rw [if_neg hk] at h
      rw [St.set_same h]
theorem set_top' {f f' : List (Nat × AObj)} {st : St} {L t : Nat} {o : AObj} (hL : st.length = L) (h : setL f t o = f') : St.set (mkFr f :: st) (L, t) (some o) = mkFr f' :: st := by
  subst hL; subst h
  rw [set_top, mkFr_set]
theorem get_top' {f : List (Nat × AObj)} {st : St} {L t : Nat} (hL : st.length = L) : St.get (mkFr f :: st) (L, t) = mkFr f t := by
  subst hL; exact get_top
/-- A function that may be called through a value. -/
structure Callable (E : Setting) (g : Nat) (fn : Func) (c : Code) : Prop where
  at_ : E.P.funcs[g]? = some fn
  body : fn.body = some c
  name : (fn.name == "runtime.NumGoroutine") = false
section
variable {E : Setting} {U : Fun} {F : D → St → Prop} {k : List KI} {ρ : Env} {st : St} {all : Array Oper} {rest : List Oper}
variable {t : Nat} {ty : TypeId} {pos : String} {af : Array Edge}
theorem AW.guardT {j u : Nat} {want : Bool} {dst : Option Nat} {op : Op} (hu : (all[j]?).bind (·.dst) = some u) (hN : Nat.blt u U.N = true) (hv : ρ u = .v (.bool want))
    (h : AW E U (.ops all (⟨dst, op, ty, pos, af, none⟩ :: rest) :: k) F ρ st) : AW E U (.ops all (⟨dst, op, ty, pos, af, some (j, want)⟩ :: rest) :: k) F ρ st :=
  AW.guard (o := default) hu hN hv (fun _ => h) (fun hb => by cases want <;> cases hb)
theorem AW.guardF {j u : Nat} {want b : Bool} {op : Op} (hu : (all[j]?).bind (·.dst) = some u) (hN : Nat.blt u U.N = true) (hv : ρ u = .v (.bool b)) (hb : b = !want) (ht : Nat.blt t U.N = true)
    (h : AW E U (.ops all rest :: k) F (upd ρ t (.v undef)) st) : AW E U (.ops all (⟨some t, op, ty, pos, af, some (j, want)⟩ :: rest) :: k) F ρ st :=
  AW.guard (o := default) hu hN hv (fun hb' => by subst hb'; cases b <;> cases hb) (fun _ => AW.p ht P.assign h)
theorem AW.guardUE {j u : Nat} {want : Bool} {op : Op} (hu : (all[j]?).bind (·.dst) = some u) (hv : ρ u = .v undef) (ht : Nat.blt t U.N = true)
    (h : AW E U (.ops all rest :: k) F (upd ρ t (.v undef)) st) : AW E U (.ops all (⟨some t, op, ty, pos, af, some (j, want)⟩ :: rest) :: k) F ρ st :=
  AW.guardU (o := default) hu hv (AW.p ht P.assign h)
theorem P.pickB {c x y : Operand} {b : Bool} {d : D} (hc : ev E ρ c = .v (.bool b)) (hd : (match b with | true => ev E ρ x | false => ev E ρ y) = d) : POk E U ρ st ⟨some t, .pick c x y, ty, pos, af, none⟩ d := by
  have := P.pick (U := U) (st := st) (t := t) (ty := ty) (pos := pos) (af := af) (x := x) (y := y) hc
  subst hd
  cases b
  · exact this
  · exact this
end
theorem dtrue {p : Prop} [Decidable p] (h : p) : D.v (.bool (decide p)) = .v (.bool true) := by rw [decide_eq_true h]
theorem dfalse {p : Prop} [Decidable p] (h : ¬ p) : D.v (.bool (decide p)) = .v (.bool false) := by rw [decide_eq_false h]
/-! ### a program walked through, node by node -/
mutual
def eachC {σ : Type} (step : Core → σ → σ) : Core → σ → σ
  | ⟨k, id, nm, n, ids, dt, kids⟩, s => eachCs step kids (step ⟨k, id, nm, n, ids, dt, kids⟩ s)
def eachCs {σ : Type} (step : Core → σ → σ) : List Core → σ → σ
  | [], s => s
  | c :: r, s => eachCs step r (eachC step c s)
end
theorem eachC_eq {σ : Type} (step : Core → σ → σ) (c : Core) (s : σ) : eachC step c s = eachCs step c.kids (step c s) := by cases c; simp only [eachC]
end Go.Mx

/- More operations for the abstract state: arrays, bools, strings. No condition. -/
namespace Go.Mx
set_option linter.unusedVariables false
set_option linter.unusedSimpArgs false
section
variable {E : Setting} {U : Fun} {F : D → St → Prop} {k : List KI} {ρ : Env} {st : St} {all : Array Oper} {rest : List Oper}
variable {t : Nat} {ty : TypeId} {pos : String} {af : Array Edge} {nn bb : Nat} {ss : Shp} {H : Key → Bool}
theorem ro_row {cx : Cx} {w : World} {sz n : Nat} {xs : List (List D)} {v : Value} (hn : xs.length = n) (hm : n ≤ maxLen) (hsz : ∀ cs ∈ xs, cs.length = sz) (h : Rd cx w (.ro xs.flatten) v) :
    ∃ b o, v = .pointer (some ⟨b, o, none⟩) ∧ Rd cx w (.sl sz .full xs) (.slice (some ⟨b, o, none⟩) n n) ∧ ∀ (i : Nat) cs, xs[i]? = some cs → Rd cx w (.ro cs) (.pointer (some ⟨b, o + i * sz, none⟩)) := by
  cases h with
  | ro b o vs hc hr =>
    refine ⟨b, o, rfl, ?_, fun i cs hi => ?_⟩
    · subst hn
      refine .sl (b, o) (fun i j => vs (i * sz + j)) (Nat.le_refl _) hm (fun i cs hi => hsz cs (List.mem_of_getElem? hi)) (fun _ => rfl) (fun i j cs d hi hj => ?_) (fun i j cs d hi hj => ?_) rfl
      · have := hc _ d (flat_get hsz hi hj)
        rwa [← Nat.add_assoc] at this
      · exact hr _ d (flat_get hsz hi hj)
    · refine .ro b (o + i * sz) (fun j => vs (i * sz + j)) (fun j d hj => ?_) (fun j d hj => hr _ d (flat_get hsz hi hj))
      have := hc _ d (flat_get hsz hi hj)
      rwa [← Nat.add_assoc] at this
theorem P.sliceArr {s e : TypeId} {n b m be sz : Nat} {se : Shp} {x : Operand} {xs : List (List D)} (h : tShape E.P s = some (n, b, .array m e)) (he : tShape E.P e = some (sz, be, se)) (hx : ev E ρ x = .ro xs.flatten) (hn : xs.length = m) (hm : m ≤ maxLen) (hsz : ∀ cs ∈ xs, cs.length = sz) :
    POk E U ρ st ⟨some t, .slice s x none none none, ty, pos, af, none⟩ (.sl sz .full xs) := fun cx a w hr => by
  have hv := hr.eval x
  rw [hx] at hv
  obtain ⟨bl, o, he1, h2, _⟩ := ro_row hn hm hsz hv
  obtain ⟨inf, u, hi, hu, g1, g2, g3⟩ := tShape_parts h
  cases u <;> simp only [shpOf, Shp.array.injEq, reduceCtorEq] at g3
  obtain ⟨rfl, rfl⟩ := g3
  refine ⟨_, fun w' => ?_, h2⟩
  have hsz2 := run_sizeOf_shape he w'
  simp only [execOp, he1, Instr.sliceAt, Instr.sureAddr, Instr.sliceBounds, Sem.run_bind, run_underlying hu, Result.andThen_ok, Sem.run_pure, hsz2, Option.map_none, Nat.sub_zero, Nat.zero_mul]
  simp [Addr.add]
theorem P.indexArr {s e : TypeId} {n b m be sz : Nat} {se : Shp} {x ix : Operand} {xs : List (List D)} {kk : IntKind} {i : Nat} {cs : List D} (h : tShape E.P s = some (n, b, .array m e)) (he : tShape E.P e = some (sz, be, se)) (hx : ev E ρ x = .ro xs.flatten) (hn : xs.length = m) (hm : m ≤ maxLen) (hsz : ∀ cs ∈ xs, cs.length = sz)
    (hi : ev E ρ ix = .v (.int kk i)) (hcs : xs[i]? = some cs) : POk E U ρ st ⟨some t, .indexAddr s x ix, ty, pos, af, none⟩ (.ro cs) := fun cx a w hr => by
  have hv := hr.eval x
  rw [hx] at hv
  obtain ⟨bl, o, he1, _, h2⟩ := ro_row hn hm hsz hv
  obtain ⟨inf, u, hi', hu, g1, g2, g3⟩ := tShape_parts h
  cases u <;> simp only [shpOf, Shp.array.injEq, reduceCtorEq] at g3
  obtain ⟨rfl, rfl⟩ := g3
  have hlt : i < xs.length := (List.getElem?_eq_some_iff.1 hcs).1
  refine ⟨_, fun w' => ?_, h2 i cs hcs⟩
  have hsz2 := run_sizeOf_shape he w'
  have hlt' : (i : Int) < (xs.length : Int) := by omega
  subst hn
  simp only [execOp, he1, hr.lit hi, Instr.indexAt, asIntOf, Instr.sureAddr, Sem.run_bind, run_underlying hu, Result.andThen_ok, Sem.run_pure, hsz2]
  simp [addr_add, hlt, hsz2]
theorem P.indexArrI {s e : TypeId} {n b m be sz : Nat} {se : Shp} {x ix : Operand} {xs : List (List D)} {kk : IntKind} {i : Int} {cs : List D} (h : tShape E.P s = some (n, b, .array m e)) (he : tShape E.P e = some (sz, be, se)) (hx : ev E ρ x = .ro xs.flatten) (hn : xs.length = m) (hm : m ≤ maxLen) (hsz : ∀ cs ∈ xs, cs.length = sz)
    (hi : ev E ρ ix = .v (.int kk i)) (h0 : 0 ≤ i) (hcs : xs[i.toNat]? = some cs) : POk E U ρ st ⟨some t, .indexAddr s x ix, ty, pos, af, none⟩ (.ro cs) :=
  P.indexArr h he hx hn hm hsz (i := i.toNat) (by rw [hi, Int.toNat_of_nonneg h0]) hcs
theorem run_equal_bool {P : Program} {xt : TypeId} {n b : Nat} (h : tShape P xt = some (n, b, .bool)) (x y : Bool) (w : World) : (Op.equal xt (.bool x) (.bool y)).run P w = .ok (x == y) w := by
  obtain ⟨inf, u, hi, hu, g1, g2, g3⟩ := tShape_parts h
  cases u <;> simp only [shpOf, reduceCtorEq] at g3
  unfold Op.equal
  rw [show Op.maxDepth = 9999 + 1 from rfl, Op.equalIn]
  rw [Sem.run_bind, run_underlying hu]
  rfl
theorem P.eqB {xt yt : TypeId} {x y : Operand} {a b : Bool} (hT : tShape E.P xt = some (nn, bb, .bool)) (hx : ev E ρ x = .v (.bool a)) (hy : ev E ρ y = .v (.bool b)) : POk E U ρ st ⟨some t, .binOp .eql xt x y yt, ty, pos, af, none⟩ (.v (.bool (a == b))) :=
  fun cx a' w hr => ⟨_, fun w' => by
    simp only [execOp, hr.lit hx, hr.lit hy]
    simp [eqGuard, binOp, run_equal_bool hT], .v _⟩
theorem P.neB {xt yt : TypeId} {x y : Operand} {a b : Bool} (hT : tShape E.P xt = some (nn, bb, .bool)) (hx : ev E ρ x = .v (.bool a)) (hy : ev E ρ y = .v (.bool b)) : POk E U ρ st ⟨some t, .binOp .neq xt x y yt, ty, pos, af, none⟩ (.v (.bool (!(a == b)))) :=
  fun cx a' w hr => ⟨_, fun w' => by
    simp only [execOp, hr.lit hx, hr.lit hy]
    simp [eqGuard, binOp, run_equal_bool hT], .v _⟩
end
end Go.Mx
