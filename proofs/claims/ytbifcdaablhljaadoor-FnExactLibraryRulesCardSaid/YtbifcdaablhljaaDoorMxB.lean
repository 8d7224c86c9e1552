/- Operations that answer whatever the memory holds, for the abstract state. No condition. -/
import Derived.Test.YtbifcdaablhljaaDoorMxA
import Derived.Laws.Entries
import Derived.Laws.Cells
import Derived.ChangeKeysEq
namespace Go.Mx
set_option linter.unusedVariables false
/-! ### types -/
inductive Shp where
  | struct (fs : List (Nat × Nat)) | slice (e : TypeId) | ptr (e : TypeId) | array (n : Nat) (e : TypeId) | int (k : IntKind) | str | bool | other
def shpOf (P : Program) : TypeDesc → Shp
  | .struct fs => .struct (fs.toList.map fun f => (f.offset, P.cellsOf f.type))
  | .slice e => .slice e
  | .pointer e => .ptr e
  | .array n e => .array n e
  | .int k => .int k
  | .string => .str
  | .bool => .bool
  | _ => .other
def tShape (P : Program) (t : TypeId) : Option (Nat × Nat × Shp) :=
  match P.info? t, P.underlying t with
  | some i, some u => some (i.size, i.bytes, shpOf P u)
  | _, _ => none
def tZero (P : Program) (t : TypeId) : Option (List Value) := ((P.info? t).bind (·.zero)).map (·.cells.toList)
theorem tShape_parts {P : Program} {t : TypeId} {n b : Nat} {s : Shp} (h : tShape P t = some (n, b, s)) : ∃ i u, P.info? t = some i ∧ P.underlying t = some u ∧ i.size = n ∧ i.bytes = b ∧ shpOf P u = s := by
  unfold tShape at h
  split at h
  · rename_i i u hi hu
    simp only [Option.some.injEq, Prod.mk.injEq] at h
    exact ⟨i, u, hi, hu, h.1, h.2.1, h.2.2⟩
  · cases h
def Shp.agg : Shp → Bool
  | .struct _ | .array _ _ => true
  | _ => false
theorem run_isAgg_shape {P : Program} {t : TypeId} {n b : Nat} {s : Shp} (h : tShape P t = some (n, b, s)) (w : World) : (isAgg t).run P w = .ok s.agg w := by
  obtain ⟨i, u, hi, hu, h1, h2, h3⟩ := tShape_parts h
  unfold isAgg
  rw [Sem.run_bind, run_underlying hu]
  subst h3
  cases u <;> rfl
theorem run_sizeOf_shape {P : Program} {t : TypeId} {n b : Nat} {s : Shp} (h : tShape P t = some (n, b, s)) (w : World) : (sizeOf t).run P w = .ok n w := by
  obtain ⟨i, u, hi, hu, h1, h2, h3⟩ := tShape_parts h
  unfold sizeOf
  rw [Sem.run_bind, run_typeInfo w hi]
  simp [h1]
/-! ### an operation -/
theorem put_rd {E : Setting} {N : Nat} {cx : Cx} {ρ : Env} {st : St} {a : Act} {w : World} (h : RelF E N cx ρ st a w) {t : Nat} (ht : Nat.blt t N = true) {d : D} {x : Value} (hx : Rd cx w d x) :
    RelF E N cx (upd ρ t d) st (a.put (some t) x) w where
  rel := h.rel
  size := by simp [Act.put, h.size]
  defers := h.defers
  tmps u := by
    have ht' : t < a.tmps.size := by rw [h.size]; exact Nat.le_of_ble_eq_true ht
    unfold upd
    simp only [Act.put, Array.getD_eq_getD_getElem?]
    by_cases hu : u = t
    · subst hu; rw [if_pos rfl, Array.getElem?_setIfInBounds_self_of_lt ht']; exact hx
    · rw [if_neg hu, Array.getElem?_setIfInBounds_ne (Ne.symm hu)]
      have := h.tmps u
      rw [Array.getD_eq_getD_getElem?] at this
      exact this
theorem RelF.ext.all_true : ∀ d : D, d.all (fun _ => true) = true := (D.both (m1 := fun d => d.all (fun _ => true) = true) (m2 := fun l => allLL (fun _ => true) l = true) (m3 := fun l => allL (fun _ => true) l = true)
    (fun _ => rfl) rfl (fun sz tok xs ih => by simp only [D.all, ih, Bool.and_true]; cases tok <;> rfl) (fun _ _ => rfl) (fun _ _ => rfl) (fun _ h => h) (fun _ h => h) (fun _ h => h) (fun _ _ _ h1 h2 => by simp only [D.all, h1, h2]; rfl)
    rfl (fun _ _ h1 h2 => by simp only [allLL, h1, h2]; rfl) rfl (fun _ _ h1 h2 => by simp only [allL, h1, h2]; rfl)).1
theorem RelF.ext {E : Setting} {N : Nat} {cx cx' : Cx} {ρ : Env} {st st' : St} {a : Act} {w w' : World} (h : RelF E N cx ρ st a w) (he : Ext (fun _ => true) cx w cx' w') (hr : Rel E cx' st' w') : RelF E N cx' ρ st' a w' where
  rel := hr
  size := h.size
  defers := h.defers
  tmps u := (h.tmps u).mono he ((all_mono (p := fun _ => true) (fun _ h => h)).1 _ (RelF.ext.all_true _))
section
variable {E : Setting} {U : Fun} {F : D → St → Prop} {k : List KI} {ρ : Env} {st : St} {all : Array Oper} {rest : List Oper}
theorem AW.stp {o : Oper} (hg : o.guard = none) {ρ' : Env} {st' : St}
    (h : ∀ cx a w, RelF E U.N cx ρ st a w → ∃ nx w' cx' x, (execOp a.eval o).run E.P w = .ok nx w' ∧ (nx = .value x ∨ (nx = .skip ∧ x = undef)) ∧ RelF E U.N cx' ρ' st' (a.put o.dst x) w' ∧ Ext (fun _ => true) cx w cx' w')
    (hl : st'.length = st.length) (hk : AW E U (.ops all rest :: k) F ρ' st') : AW E U (.ops all (o :: rest) :: k) F ρ st := by
  intro B cx a w hB hlen he hr
  obtain ⟨nx, w', cx', x, h1, h2, h3, h4⟩ := h cx a w hr
  have hk' := hk B cx' (a.put o.dst x) w' hB (by omega) (he.trans (h4.weaken fun _ _ => rfl)) h3
  show wpList E.P all _ (o :: rest) a w
  unfold wpList
  rw [if_pos (by simp [Region.wanted, hg])]
  left
  unfold Oper.wp
  rw [h1]
  rcases h2 with rfl | ⟨rfl, rfl⟩
  · exact hk'
  · exact hk'
/-- An operation that answers whatever the memory holds. -/
def POk (E : Setting) (U : Fun) (ρ : Env) (st : St) (o : Oper) (d : D) : Prop :=
  ∀ cx a w, RelF E U.N cx ρ st a w → ∃ x, (∀ w', (execOp a.eval o).run E.P w' = .ok (.value x) w') ∧ Rd cx w d x
theorem AW.pureW {t : Nat} {op : Op} {ty : TypeId} {pos : String} {af : Array Edge} {d : D} (ht : Nat.blt t U.N = true)
    (h : ∀ cx a w, RelF E U.N cx ρ st a w → ∃ x, (execOp a.eval ⟨some t, op, ty, pos, af, none⟩).run E.P w = .ok (.value x) w ∧ Rd cx w d x)
    (hk : AW E U (.ops all rest :: k) F (upd ρ t d) st) : AW E U (.ops all (⟨some t, op, ty, pos, af, none⟩ :: rest) :: k) F ρ st :=
  AW.stp rfl (fun cx a w hr => by
    obtain ⟨x, h1, h2⟩ := h cx a w hr
    exact ⟨_, w, cx, x, h1, .inl rfl, put_rd hr ht h2, Ext.refl _ _ _⟩) rfl hk
theorem AW.p {t : Nat} {op : Op} {ty : TypeId} {pos : String} {af : Array Edge} {d : D} (ht : Nat.blt t U.N = true) (h : POk E U ρ st ⟨some t, op, ty, pos, af, none⟩ d)
    (hk : AW E U (.ops all rest :: k) F (upd ρ t d) st) : AW E U (.ops all (⟨some t, op, ty, pos, af, none⟩ :: rest) :: k) F ρ st :=
  AW.pureW ht (fun cx a w hr => by obtain ⟨x, h1, h2⟩ := h cx a w hr; exact ⟨x, h1 w, h2⟩) hk
/-- An operation that changes the memory. -/
def SOk (E : Setting) (U : Fun) (ρ : Env) (st : St) (o : Oper) (ρ' : Env) (st' : St) : Prop :=
  o.guard = none ∧ st'.length = st.length ∧
  ∀ cx a w, RelF E U.N cx ρ st a w → ∃ nx w' cx' x, (execOp a.eval o).run E.P w = .ok nx w' ∧ (nx = .value x ∨ (nx = .skip ∧ x = undef)) ∧ RelF E U.N cx' ρ' st' (a.put o.dst x) w' ∧ Ext (fun _ => true) cx w cx' w'
theorem AW.s {o : Oper} {ρ' : Env} {st' : St} (h : SOk E U ρ st o ρ' st') (hk : AW E U (.ops all rest :: k) F ρ' st') : AW E U (.ops all (o :: rest) :: k) F ρ st :=
  AW.stp h.1 h.2.2 h.2.1 hk
/-- What a reading may lean on: what nobody writes, and the variables that H lets in. -/
def Hd (cx : Cx) (st : St) (H : Key → Bool) (b o : Nat) : Prop := ¬ cx.M b o ∨ ∃ k, H k = true ∧ foot cx st k b o
/-- An operation that reads the memory. -/
def LOk (E : Setting) (U : Fun) (ρ : Env) (st : St) (H : Key → Bool) (o : Oper) (d : D) : Prop :=
  ∀ cx a w, RelF E U.N cx ρ st a w → ∃ x, Rd cx w d x ∧ ∀ w', (∀ b q, b < w.heap.size → Hd cx st H b q → w'.cell? ⟨b, q, none⟩ = w.cell? ⟨b, q, none⟩) → (execOp a.eval o).run E.P w' = .ok (.value x) w'
theorem AW.l {t : Nat} {op : Op} {ty : TypeId} {pos : String} {af : Array Edge} {d : D} (ht : Nat.blt t U.N = true) (h : LOk E U ρ st (fun _ => true) ⟨some t, op, ty, pos, af, none⟩ d)
    (hk : AW E U (.ops all rest :: k) F (upd ρ t d) st) : AW E U (.ops all (⟨some t, op, ty, pos, af, none⟩ :: rest) :: k) F ρ st :=
  AW.pureW ht (fun cx a w hr => by obtain ⟨x, h1, h2⟩ := h cx a w hr; exact ⟨x, h2 w (fun _ _ _ _ => rfl), h1⟩) hk
theorem POk.l {o : Oper} {H : Key → Bool} {d : D} (h : POk E U ρ st o d) : LOk E U ρ st H o d := fun cx a w hr => by
  obtain ⟨x, h1, h2⟩ := h cx a w hr; exact ⟨x, h2, fun w' _ => h1 w'⟩
variable {t : Nat} {ty : TypeId} {pos : String} {af : Array Edge}
theorem P.move {x : Operand} : POk E U ρ st ⟨some t, .move x, ty, pos, af, none⟩ (ev E ρ x) := fun cx a w hr => ⟨a.eval x, fun _ => rfl, hr.eval x⟩
theorem P.assign {x : Operand} : POk E U ρ st ⟨some t, .assign x, ty, pos, af, none⟩ (ev E ρ x) := fun cx a w hr => ⟨a.eval x, fun _ => rfl, hr.eval x⟩
theorem Rd.v_inv {cx : Cx} {w : World} {x y : Value} (h : Rd cx w (.v x) y) : y = x := by cases h; rfl
theorem RelF.lit {N : Nat} {cx : Cx} {a : Act} {w : World} (hr : RelF E N cx ρ st a w) {x : Operand} {v : Value} (h : ev E ρ x = .v v) : a.eval x = v := by
  have := hr.eval x; rw [h] at this; exact this.v_inv
/-- Operations on plain values. -/
def dbin (op : BinOp) : Value → Value → Option Value
  | .int k a, .int k' b =>
    if k = k' then
      match op with
      | .add => some (.int k (k.wrap (a + b)))
      | .sub => some (.int k (k.wrap (a - b)))
      | .mul => some (.int k (k.wrap (a * b)))
      | .quo => if b = 0 then none else some (.int k (k.wrap (a.tdiv b)))
      | .rem => if b = 0 then none else some (.int k (a.tmod b))
      | .eql => some (.bool (a == b))
      | .neq => some (.bool (a != b))
      | .lss => some (.bool (a < b))
      | .leq => some (.bool (a ≤ b))
      | .gtr => some (.bool (a > b))
      | .geq => some (.bool (a ≥ b))
      | _ => none
    else none
  | .string a, .string b =>
      match op with
      | .add => if ((a.size + b.size : Nat) : Int) ≤ IntKind.i64.max then some (.string (a ++ b)) else none
      | .eql => some (.bool (a.toList == b.toList))
      | .neq => some (.bool !(a.toList == b.toList))
      | .lss => some (.bool (Op.bytesLess a.toList b.toList))
      | _ => none
  | _, _ => none
theorem run_dbin {P : Program} {op : BinOp} {xt : TypeId} {x y : Operand} {a b v : Value} (h : dbin op a b = some v) (w : World) :
    (do eqGuard op xt x y a b; binOp op xt a b : Sem Value).run P w = .ok v w := by
  unfold dbin at h
  split at h
  · rename_i k a k' b
    split at h
    · rename_i hk
      subst hk
      split at h <;> first
        | (simp only [Option.some.injEq] at h; subst h; simp [eqGuard, binOp, Op.intArith, Op.intCmp]; done)
        | (split at h; cases h; rename_i hb; simp only [Option.some.injEq] at h; subst h; simp [eqGuard, binOp, Op.intDiv, hb]; done)
        | cases h
    · cases h
  · rename_i a b
    split at h <;> first
        | (simp only [Option.some.injEq] at h; subst h; simp [eqGuard, binOp, Op.stringOp]; done)
        | (split at h
           · rename_i hb; simp only [Option.some.injEq] at h; subst h; simp only [eqGuard, binOp, Op.stringOp, if_neg (Int.not_lt.2 hb)]; rfl
           · cases h)
        | cases h
  · cases h
theorem P.bin {op : BinOp} {xt yt : TypeId} {x y : Operand} {a b v : Value} (hx : ev E ρ x = .v a) (hy : ev E ρ y = .v b) (hv : dbin op a b = some v) : POk E U ρ st ⟨some t, .binOp op xt x y yt, ty, pos, af, none⟩ (.v v) :=
  fun cx a' w hr => ⟨v, fun w' => by
    simp only [execOp, hr.lit hx, hr.lit hy]
    rw [Sem.run_bind, run_dbin hv]; rfl, .v v⟩
end
end Go.Mx
