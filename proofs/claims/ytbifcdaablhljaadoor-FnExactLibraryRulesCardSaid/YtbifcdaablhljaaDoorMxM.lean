/- Ways that meet, guards, variables that fall away, for the abstract state. No condition. -/
import Derived.Test.YtbifcdaablhljaaDoorMxL
namespace Go.Mx
set_option linter.unusedVariables false
set_option linter.unusedSimpArgs false
section
variable {E : Setting} {U : Fun} {F : D → St → Prop} {k : List KI} {ρ : Env} {fr : Fr} {st : St} {all : Array Oper} {rest : List Oper}
variable {t : Nat} {ty : TypeId} {pos : String} {af : Array Edge} {nn bb : Nat} {ss : Shp}
/-- Ways that meet again. -/
theorem AW.cut {c : Code} (I : Env → St → Prop) (h1 : AW E U (.code c :: .goal I :: k) F ρ st) (h2 : ∀ ρ' st', st'.length = U.L + 1 → I ρ' st' → AW E U k F ρ' st') : AW E U (.code c :: k) F ρ st := by
  intro B cx a w hB hl he hr
  refine Code.wp_mono (fun e a' w' h => ?_) (h1 B cx a w hB hl he hr)
  cases e with
  | normal =>
    obtain ⟨ρ', st', cx', hI, hl', hr', he'⟩ := h
    exact h2 ρ' st' (by omega) hI B cx' a' w' hB (by omega) he' hr'
  | _ => exact h
/-- A guarded operation. -/
theorem AW.guard {o : Oper} {j : Nat} {want b : Bool} {u : Nat} {dst : Option Nat} {op : Op} (hu : (all[j]?).bind (·.dst) = some u) (hN : Nat.blt u U.N = true) (hv : ρ u = .v (.bool b))
    (h1 : b = want → AW E U (.ops all (⟨dst, op, ty, pos, af, none⟩ :: rest) :: k) F ρ st)
    (h2 : b = !want → AW E U (.ops all (⟨dst, .assign (.const undef), ty, pos, af, none⟩ :: rest) :: k) F ρ st) :
    AW E U (.ops all (⟨dst, op, ty, pos, af, some (j, want)⟩ :: rest) :: k) F ρ st := by
  intro B cx a w hB hl he hr
  have hN' : u < a.tmps.size := by rw [hr.size]; exact Nat.le_of_ble_eq_true hN
  have hx := hr.tmps u
  rw [hv] at hx
  have hx := hx.v_inv
  rw [Array.getD_eq_getD_getElem?, Array.getElem?_eq_getElem hN'] at hx
  have hy : yielded all a.tmps j = some b := by
    unfold yielded
    rw [hu]
    simp only [Option.bind_some, Array.getElem?_eq_getElem hN']
    simp only [Option.getD_some] at hx
    rw [hx]
  suffices goal : wpList E.P all (kpost E.P (Gc E U.N B) k (Fin E U.fn F B)) ((⟨dst, op, ty, pos, af, some (j, want)⟩ : Oper) :: rest) a w from goal
  unfold wpList
  have hw : Region.wanted (⟨dst, op, ty, pos, af, some (j, want)⟩ : Oper) (yielded all a.tmps) = (b == want) := by
    simp only [Region.wanted, hy]; cases b <;> cases want <;> rfl
  rw [hw]
  cases hb : (b == want) with
  | true =>
    have h := h1 (by simpa using hb) B cx a w hB hl he hr
    have h : wpList E.P all (kpost E.P (Gc E U.N B) k (Fin E U.fn F B)) ((⟨dst, op, ty, pos, af, none⟩ : Oper) :: rest) a w := h
    unfold wpList at h
    rw [if_pos (by simp [Region.wanted])] at h
    rw [if_pos rfl]
    exact h
  | false =>
    have h := h2 (by cases b <;> cases want <;> simp_all) B cx a w hB hl he hr
    have h : wpList E.P all (kpost E.P (Gc E U.N B) k (Fin E U.fn F B)) ((⟨dst, .assign (.const undef), ty, pos, af, none⟩ : Oper) :: rest) a w := h
    unfold wpList at h
    rw [if_pos (by simp [Region.wanted])] at h
    rw [if_neg (by decide)]
    rcases h with h | ⟨h, _⟩
    · exact h
    · exact absurd h.1 (Array.not_mem_empty _)
/-- A guarded operation whose guard did not come up. -/
theorem AW.guardU {o : Oper} {j : Nat} {want : Bool} {u : Nat} {dst : Option Nat} {op : Op} (hu : (all[j]?).bind (·.dst) = some u) (hv : ρ u = .v undef)
    (h2 : AW E U (.ops all (⟨dst, .assign (.const undef), ty, pos, af, none⟩ :: rest) :: k) F ρ st) :
    AW E U (.ops all (⟨dst, op, ty, pos, af, some (j, want)⟩ :: rest) :: k) F ρ st := by
  intro B cx a w hB hl he hr
  have hx := hr.tmps u
  rw [hv] at hx
  have hx := hx.v_inv
  have hy : yielded all a.tmps j = none := by
    unfold yielded
    rw [hu]
    simp only [Option.bind_some]
    rw [Array.getD_eq_getD_getElem?] at hx
    cases hc : a.tmps[u]? with
    | none => rfl
    | some v => rw [hc] at hx; simp only [Option.getD_some] at hx; rw [hx]; rfl
  suffices goal : wpList E.P all (kpost E.P (Gc E U.N B) k (Fin E U.fn F B)) ((⟨dst, op, ty, pos, af, some (j, want)⟩ : Oper) :: rest) a w from goal
  unfold wpList
  rw [if_neg (by simp [Region.wanted, hy])]
  have h : wpList E.P all (kpost E.P (Gc E U.N B) k (Fin E U.fn F B)) ((⟨dst, .assign (.const undef), ty, pos, af, none⟩ : Oper) :: rest) a w := h2 B cx a w hB hl he hr
  unfold wpList at h
  rw [if_pos (by simp [Region.wanted])] at h
  rcases h with h | ⟨h, _⟩
  · exact h
  · exact absurd h.1 (Array.not_mem_empty _)
/-! ### what is known, made less -/
def mkEnv : List (Nat × D) → Env
  | [] => fun _ => .any
  | (t, d) :: r => upd (mkEnv r) t d
inductive WkE (ρ : Env) : List (Nat × D) → Prop
  | nil : WkE ρ []
  | cons {t d r} (h : Wk (ρ t) d) (hr : WkE ρ r) : WkE ρ ((t, d) :: r)
theorem WkE.same {ρ : Env} {t : Nat} {d : D} {r : List (Nat × D)} (h : ρ t = d) (hr : WkE ρ r) : WkE ρ ((t, d) :: r) := .cons (h ▸ Wk.refl _) hr
theorem WkE.out {ρ : Env} {l : List (Nat × D)} (h : WkE ρ l) : ∀ t, Wk (ρ t) (mkEnv l t) := by
  induction h with
  | nil => exact fun t => Wk.any _
  | cons h hr ih =>
    intro t
    simp only [mkEnv, upd]
    split
    · rename_i he; subst he; exact h
    · exact ih t
theorem AW.reset (l : List (Nat × D)) (hw : WkE ρ l) (h : AW E U k F (mkEnv l) st) : AW E U k F ρ st :=
  fun B cx a w hB hl he hr => h B cx a w hB hl he ⟨hr.rel, hr.size, fun t => hw.out t _ _ _ (hr.tmps t), hr.defers⟩
def allE (p : Key → Bool) : List (Nat × D) → Bool
  | [] => true
  | (_, d) :: r => d.all p && allE p r
theorem allE_out {p : Key → Bool} {l : List (Nat × D)} (h : allE p l = true) (t : Nat) : (mkEnv l t).all p = true := by
  induction l with
  | nil => rfl
  | cons x r ih =>
    obtain ⟨u, d⟩ := x
    simp only [allE, Bool.and_eq_true] at h
    simp only [mkEnv, upd]
    split
    · exact h.1
    · exact ih h.2
/-- Every variable of a frame holds data whose keys meet p. -/
def FrAll (p : Key → Bool) (fr : Fr) : Prop := ∀ t cs, fr t = some (.cells cs) → allL p cs = true
theorem FrAll.empty {p : Key → Bool} : FrAll p (fun _ => none) := fun _ _ h => by cases h
theorem FrAll.upd {p : Key → Bool} {fr : Fr} {t : Nat} {cs : List D} (h : FrAll p fr) (hc : allL p cs = true) : FrAll p (fr.upd t (some (.cells cs))) := fun u c hu => by
  unfold Fr.upd at hu
  split at hu
  · cases hu; exact hc
  · exact h u c hu
theorem FrAll.updT {p : Key → Bool} {fr : Fr} {t n e : Nat} (h : FrAll p fr) : FrAll p (fr.upd t (some (.tok n e))) := fun u c hu => by
  unfold Fr.upd at hu
  split at hu
  · cases hu
  · exact h u c hu
theorem FrAll.updN {p : Key → Bool} {fr : Fr} {t : Nat} (h : FrAll p fr) : FrAll p (fr.upd t none) := fun u c hu => by
  unfold Fr.upd at hu
  split at hu
  · cases hu
  · exact h u c hu
def notKey (L t : Nat) : Key → Bool := fun k => !(decide (k.2 = t) && decide (k.1 = L))
theorem notKey_spec {L t : Nat} {k : Key} : notKey L t k = true ↔ k ≠ (L, t) := by
  unfold notKey
  obtain ⟨a, b⟩ := k
  simp only [Bool.not_eq_true', Bool.and_eq_false_iff, decide_eq_false_iff_not, ne_eq, Prod.mk.injEq]
  constructor
  · rintro (h | h) ⟨rfl, rfl⟩ <;> exact h rfl
  · intro h
    by_cases hb : b = t
    · right; intro ha; exact h ⟨ha, hb⟩
    · left; exact hb
/-- A variable (or a token) of this frame that nobody knows any more falls away. -/
theorem AW.drop {l : List (Nat × D)} (u : Nat) (hE : allE (notKey st.length u) l = true) (hF : FrAll (notKey st.length u) (fr.upd u none)) (h : AW E U k F (mkEnv l) (fr.upd u none :: st)) : AW E U k F (mkEnv l) (fr :: st) := by
  intro B cx a w hB hl he hr
  have hget : ∀ key, key ≠ (st.length, u) → St.get (fr.upd u none :: st) key = St.get (fr :: st) key := fun key hk => by
    simp only [St.get]
    split
    · rename_i h1
      exact Fr.upd_ne _ _ _ _ (fun h2 => hk (Prod.ext h1 h2))
    · rfl
  have hget0 : St.get (fr.upd u none :: st) (st.length, u) = none := get_top.trans (Fr.upd_same _ _ _)
  let cx' : Cx := { bx := fun k => if k = (st.length, u) then none else cx.bx k, tk := fun k => if k = (st.length, u) then none else cx.tk k, M := cx.M, Z := cx.Z }
  have hext : Ext (notKey st.length u) cx w cx' w := by
    refine ⟨rfl, rfl, rfl, Nat.le_refl _, fun _ _ _ => rfl, fun _ _ _ _ => rfl, fun _ _ _ h => h, fun key l hk h => ?_, fun key n l hk h => ⟨n, l, ?_, Nat.le_refl _, fun _ => rfl⟩, rfl, fun key n e g c z h _ => ⟨key, n, e, c, z, ?_⟩, fun _ _ _ => rfl⟩
    · show (if key = (st.length, u) then none else cx.bx key) = _
      rw [if_neg (notKey_spec.1 hk)]; exact h
    · show (if key = (st.length, u) then none else cx.tk key) = _
      rw [if_neg (notKey_spec.1 hk)]; exact h
    · have h : (if key = (st.length, u) then none else cx.tk key) = some (n, e, some (g, c, z)) := h
      split at h
      · cases h
      · exact h
  have r := hr.rel
  have hcontent : ∀ key cs, key ≠ (st.length, u) → St.get (fr :: st) key = some (.cells cs) → allL (notKey st.length u) cs = true := fun key cs hk hg => by
    by_cases h1 : key.1 = st.length
    · have : fr.upd u none key.2 = some (.cells cs) := by
        rw [Fr.upd_ne _ _ _ _ (fun h2 => hk (Prod.ext h1 h2))]
        simp only [St.get, h1, if_true] at hg; exact hg
      exact hF _ _ this
    · have h2 := (r.cells key cs hg).1
      have h3 : key.1 < (fr :: st).length := by
        rcases Nat.lt_or_ge key.1 (fr :: st).length with h | h
        · exact h
        · rw [St.get_ge h] at hg; cases hg
      refine (all_mono (fun q hq => notKey_spec.2 (fun e => ?_))).2.1 _ h2
      simp only [lv, decide_eq_true_eq, e] at hq
      simp at h3
      omega
  have hfoot : ∀ key b o, Mx.foot cx' (fr.upd u none :: st) key b o → key ≠ (st.length, u) ∧ Mx.foot cx (fr :: st) key b o := fun key b o h => by
    have hne : key ≠ (st.length, u) := fun e => by
      subst e
      rcases h with ⟨cs, o0, h1, _⟩ | ⟨n, e, c, z, h1, _⟩ <;> (rw [hget0] at h1; cases h1)
    refine ⟨hne, ?_⟩
    rcases h with ⟨cs, o0, h1, h2, h3⟩ | ⟨n, e, c, z, h1, h2, h3⟩
    · rw [hget key hne] at h1
      have h2 : (if key = (st.length, u) then none else cx.bx key) = some (b, o0) := h2
      rw [if_neg hne] at h2
      exact .inl ⟨cs, o0, h1, h2, h3⟩
    · rw [hget key hne] at h1
      have h2 : (if key = (st.length, u) then none else cx.tk key) = some (n, e, some (b, c, z)) := h2
      rw [if_neg hne] at h2
      exact .inr ⟨n, e, c, z, h1, h2, h3⟩
  have hne_of : ∀ key o, St.get (fr.upd u none :: st) key = some o → key ≠ (st.length, u) := fun key o h e => by
    subst e; rw [hget0] at h; cases h
  have hrel : Rel E cx' (fr.upd u none :: st) w := by
    refine ⟨fun key cs h => ?_, fun key n e h => ?_, fun key b o h => r.foot key b o (hfoot _ _ _ h).2, fun k1 k2 b o h h' => r.sep _ _ b o (hfoot _ _ _ h).2 (hfoot _ _ _ h').2, fun key l h => ?_, fun key l h => ?_, r.mlt, fun key b o h => r.nz key b o (hfoot _ _ _ h).2, r.zm, fun key b o h => ?_,
      fun k1 k2 b o n e g c z h h' => ?_, fun k1 k2 n e n' e' g c z c' z' h h' => ?_, fun g => (r.glob g).mono hext ((all_mono (fun q hq => by cases hq)).1 _ (E.keyless g))⟩
    · have hne := hne_of _ _ h
      rw [hget key hne] at h
      obtain ⟨h1, b, o, h2, h3⟩ := r.cells key cs h
      refine ⟨h1, b, o, (if_neg hne).trans h2, fun j d hj => ?_⟩
      obtain ⟨x, hx, hrd⟩ := h3 j d hj
      exact ⟨x, hx, hrd.mono hext (allL_get (hcontent key cs hne h) hj)⟩
    · have hne := hne_of _ _ h
      rw [hget key hne] at h
      obtain ⟨tl, h1, h2⟩ := r.tok key n e h
      exact ⟨tl, (if_neg hne).trans h1, h2⟩
    · have h : (if key = (st.length, u) then none else cx.bx key) = some l := h
      split at h
      · cases h
      · rename_i hne
        obtain ⟨cs, hcs⟩ := r.domb key l h
        exact ⟨cs, (hget key hne).trans hcs⟩
    · have h : (if key = (st.length, u) then none else cx.tk key) = some l := h
      split at h
      · cases h
      · rename_i hne
        obtain ⟨n, e, hcs⟩ := r.domt key l h
        exact ⟨n, e, (hget key hne).trans hcs⟩
    · have h : (if key = (st.length, u) then none else cx.bx key) = some (b, o) := h
      split at h
      · cases h
      · exact r.bxlt _ _ _ h
    · have h : (if k1 = (st.length, u) then none else cx.bx k1) = some (b, o) := h
      have h' : (if k2 = (st.length, u) then none else cx.tk k2) = some (n, e, some (g, c, z)) := h'
      split at h <;> split at h' <;> first | exact r.apart _ _ _ _ _ _ _ _ _ h h' | cases h | cases h'
    · have h : (if k1 = (st.length, u) then none else cx.tk k1) = some (n, e, some (g, c, z)) := h
      have h' : (if k2 = (st.length, u) then none else cx.tk k2) = some (n', e', some (g, c', z')) := h'
      split at h <;> split at h' <;> first | exact r.rows _ _ _ _ _ _ _ _ _ _ _ h h' | cases h | cases h'
  have hlen : st.length = U.L := by simp at hl; omega
  refine h B cx' a w hB (by simpa using hl) (he.trans (hext.weaken fun key hk => notKey_spec.2 (fun e => ?_))) ⟨hrel, hr.size, fun v => (hr.tmps v).mono hext (allE_out hE v), hr.defers⟩
  subst e
  simp only [lv, decide_eq_true_eq] at hk
  omega
end
end Go.Mx
