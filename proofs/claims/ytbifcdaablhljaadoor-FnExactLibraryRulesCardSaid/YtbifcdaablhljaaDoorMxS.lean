/- Stores that are stacked, functions that are handed on, guarded operations, for the abstract state. No condition. -/
import Derived.Test.YtbifcdaablhljaaDoorMxT
namespace Go.Mx
set_option linter.unusedVariables false
set_option linter.unusedSimpArgs false
theorem St.get_append : ∀ {up st : St} {k : Key}, k.1 < st.length → St.get (up ++ st) k = St.get st k
  | [], _, _, _ => rfl
  | fr :: up, st, k, h => by
    rw [List.cons_append, St.get_tail (by simp; omega)]
    exact St.get_append h
theorem St.set_append : ∀ {up st : St} {k : Key} {o : Option AObj}, k.1 < st.length → St.set (up ++ st) k o = up ++ St.set st k o
  | [], _, _, _, _ => rfl
  | fr :: up, st, k, o, h => by
    have : ¬ k.1 = (up ++ st).length := by simp; omega
    simp only [List.cons_append, St.set, this, if_false]
    rw [St.set_append h]
theorem St.set_tail {fr : Fr} {st : St} {k : Key} {o : Option AObj} (h : k.1 < st.length) : St.set (fr :: st) k o = fr :: St.set st k o := by
  have : ¬ k.1 = st.length := by omega
  simp only [St.set, this, if_false]
theorem St.set_same : ∀ {st : St} {k : Key} {o : AObj}, St.get st k = some o → St.set st k (some o) = st
  | [], _, _, h => rfl
  | fr :: r, k, o, h => by
    simp only [St.get] at h
    simp only [St.set]
    split
    · rename_i hk
      rw [if_pos hk] at h
      congr 1
      funext t
      unfold Fr.upd
      split
      · rename_i ht; rw [ht]; exact h.symm
      · rfl
    · rename_i hk
      rw [if_neg hk] at h
      rw [St.set_same h]
theorem set_top' {f f' : List (Nat × AObj)} {st : St} {L t : Nat} {o : AObj} (hL : st.length = L) (h : setL f t o = f') : St.set (mkFr f :: st) (L, t) (some o) = mkFr f' :: st := by
  subst hL; subst h
  rw [set_top, mkFr_set]
theorem get_top' {f : List (Nat × AObj)} {st : St} {L t : Nat} (hL : st.length = L) : St.get (mkFr f :: st) (L, t) = mkFr f t := by
  subst hL; exact get_top
/-- A function that may be called through a value. -/
structure Callable (E : Setting) (g : Nat) (fn : Func) (c : Code) : Prop where
  at_ : E.P.funcs[g]? = some fn
  body : fn.body = some c
  name : (fn.name == "runtime.NumGoroutine") = false
section
variable {E : Setting} {U : Fun} {F : D → St → Prop} {k : List KI} {ρ : Env} {st : St} {all : Array Oper} {rest : List Oper}
variable {t : Nat} {ty : TypeId} {pos : String} {af : Array Edge}
theorem AW.guardT {j u : Nat} {want : Bool} {dst : Option Nat} {op : Op} (hu : (all[j]?).bind (·.dst) = some u) (hN : Nat.blt u U.N = true) (hv : ρ u = .v (.bool want))
    (h : AW E U (.ops all (⟨dst, op, ty, pos, af, none⟩ :: rest) :: k) F ρ st) : AW E U (.ops all (⟨dst, op, ty, pos, af, some (j, want)⟩ :: rest) :: k) F ρ st :=
  AW.guard (o := default) hu hN hv (fun _ => h) (fun hb => by cases want <;> cases hb)
theorem AW.guardF {j u : Nat} {want b : Bool} {op : Op} (hu : (all[j]?).bind (·.dst) = some u) (hN : Nat.blt u U.N = true) (hv : ρ u = .v (.bool b)) (hb : b = !want) (ht : Nat.blt t U.N = true)
    (h : AW E U (.ops all rest :: k) F (upd ρ t (.v undef)) st) : AW E U (.ops all (⟨some t, op, ty, pos, af, some (j, want)⟩ :: rest) :: k) F ρ st :=
  AW.guard (o := default) hu hN hv (fun hb' => by subst hb'; cases b <;> cases hb) (fun _ => AW.p ht P.assign h)
theorem AW.guardUE {j u : Nat} {want : Bool} {op : Op} (hu : (all[j]?).bind (·.dst) = some u) (hv : ρ u = .v undef) (ht : Nat.blt t U.N = true)
    (h : AW E U (.ops all rest :: k) F (upd ρ t (.v undef)) st) : AW E U (.ops all (⟨some t, op, ty, pos, af, some (j, want)⟩ :: rest) :: k) F ρ st :=
  AW.guardU (o := default) hu hv (AW.p ht P.assign h)
theorem P.pickB {c x y : Operand} {b : Bool} {d : D} (hc : ev E ρ c = .v (.bool b)) (hd : (match b with | true => ev E ρ x | false => ev E ρ y) = d) : POk E U ρ st ⟨some t, .pick c x y, ty, pos, af, none⟩ d := by
  have := P.pick (U := U) (st := st) (t := t) (ty := ty) (pos := pos) (af := af) (x := x) (y := y) hc
  subst hd
  cases b
  · exact this
  · exact this
end
theorem dtrue {p : Prop} [Decidable p] (h : p) : D.v (.bool (decide p)) = .v (.bool true) := by rw [decide_eq_true h]
theorem dfalse {p : Prop} [Decidable p] (h : ¬ p) : D.v (.bool (decide p)) = .v (.bool false) := by rw [decide_eq_false h]
/-! ### a program walked through, node by node -/
mutual
def eachC {σ : Type} (step : Core → σ → σ) : Core → σ → σ
  | ⟨k, id, nm, n, ids, dt, kids⟩, s => eachCs step kids (step ⟨k, id, nm, n, ids, dt, kids⟩ s)
def eachCs {σ : Type} (step : Core → σ → σ) : List Core → σ → σ
  | [], s => s
  | c :: r, s => eachCs step r (eachC step c s)
end
theorem eachC_eq {σ : Type} (step : Core → σ → σ) (c : Core) (s : σ) : eachC step c s = eachCs step c.kids (step c s) := by cases c; simp only [eachC]
end Go.Mx
