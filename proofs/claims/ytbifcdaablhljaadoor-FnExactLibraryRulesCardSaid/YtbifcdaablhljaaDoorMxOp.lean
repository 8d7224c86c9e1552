/- More operations for the abstract state: arrays, bools, strings. No condition. -/
import Derived.Test.YtbifcdaablhljaaDoorMxS
namespace Go.Mx
set_option linter.unusedVariables false
set_option linter.unusedSimpArgs false
section
variable {E : Setting} {U : Fun} {F : D → St → Prop} {k : List KI} {ρ : Env} {st : St} {all : Array Oper} {rest : List Oper}
variable {t : Nat} {ty : TypeId} {pos : String} {af : Array Edge} {nn bb : Nat} {ss : Shp} {H : Key → Bool}
theorem ro_row {cx : Cx} {w : World} {sz n : Nat} {xs : List (List D)} {v : Value} (hn : xs.length = n) (hm : n ≤ maxLen) (hsz : ∀ cs ∈ xs, cs.length = sz) (h : Rd cx w (.ro xs.flatten) v) :
    ∃ b o, v = .pointer (some ⟨b, o, none⟩) ∧ Rd cx w (.sl sz .full xs) (.slice (some ⟨b, o, none⟩) n n) ∧ ∀ (i : Nat) cs, xs[i]? = some cs → Rd cx w (.ro cs) (.pointer (some ⟨b, o + i * sz, none⟩)) := by
  cases h with
  | ro b o vs hc hr =>
    refine ⟨b, o, rfl, ?_, fun i cs hi => ?_⟩
    · subst hn
      refine .sl (b, o) (fun i j => vs (i * sz + j)) (Nat.le_refl _) hm (fun i cs hi => hsz cs (List.mem_of_getElem? hi)) (fun _ => rfl) (fun i j cs d hi hj => ?_) (fun i j cs d hi hj => ?_) rfl
      · have := hc _ d (flat_get hsz hi hj)
        rwa [← Nat.add_assoc] at this
      · exact hr _ d (flat_get hsz hi hj)
    · refine .ro b (o + i * sz) (fun j => vs (i * sz + j)) (fun j d hj => ?_) (fun j d hj => hr _ d (flat_get hsz hi hj))
      have := hc _ d (flat_get hsz hi hj)
      rwa [← Nat.add_assoc] at this
theorem P.sliceArr {s e : TypeId} {n b m be sz : Nat} {se : Shp} {x : Operand} {xs : List (List D)} (h : tShape E.P s = some (n, b, .array m e)) (he : tShape E.P e = some (sz, be, se)) (hx : ev E ρ x = .ro xs.flatten) (hn : xs.length = m) (hm : m ≤ maxLen) (hsz : ∀ cs ∈ xs, cs.length = sz) :
    POk E U ρ st ⟨some t, .slice s x none none none, ty, pos, af, none⟩ (.sl sz .full xs) := fun cx a w hr => by
  have hv := hr.eval x
  rw [hx] at hv
  obtain ⟨bl, o, he1, h2, _⟩ := ro_row hn hm hsz hv
  obtain ⟨inf, u, hi, hu, g1, g2, g3⟩ := tShape_parts h
  cases u <;> simp only [shpOf, Shp.array.injEq, reduceCtorEq] at g3
  obtain ⟨rfl, rfl⟩ := g3
  refine ⟨_, fun w' => ?_, h2⟩
  have hsz2 := run_sizeOf_shape he w'
  simp only [execOp, he1, Instr.sliceAt, Instr.sureAddr, Instr.sliceBounds, Sem.run_bind, run_underlying hu, Result.andThen_ok, Sem.run_pure, hsz2, Option.map_none, Nat.sub_zero, Nat.zero_mul]
  simp [Addr.add]
theorem P.indexArr {s e : TypeId} {n b m be sz : Nat} {se : Shp} {x ix : Operand} {xs : List (List D)} {kk : IntKind} {i : Nat} {cs : List D} (h : tShape E.P s = some (n, b, .array m e)) (he : tShape E.P e = some (sz, be, se)) (hx : ev E ρ x = .ro xs.flatten) (hn : xs.length = m) (hm : m ≤ maxLen) (hsz : ∀ cs ∈ xs, cs.length = sz)
    (hi : ev E ρ ix = .v (.int kk i)) (hcs : xs[i]? = some cs) : POk E U ρ st ⟨some t, .indexAddr s x ix, ty, pos, af, none⟩ (.ro cs) := fun cx a w hr => by
  have hv := hr.eval x
  rw [hx] at hv
  obtain ⟨bl, o, he1, _, h2⟩ := ro_row hn hm hsz hv
  obtain ⟨inf, u, hi', hu, g1, g2, g3⟩ := tShape_parts h
  cases u <;> simp only [shpOf, Shp.array.injEq, reduceCtorEq] at g3
  obtain ⟨rfl, rfl⟩ := g3
  have hlt : i < xs.length := (List.getElem?_eq_some_iff.1 hcs).1
  refine ⟨_, fun w' => ?_, h2 i cs hcs⟩
  have hsz2 := run_sizeOf_shape he w'
  have hlt' : (i : Int) < (xs.length : Int) := by omega
  subst hn
  simp only [execOp, he1, hr.lit hi, Instr.indexAt, asIntOf, Instr.sureAddr, Sem.run_bind, run_underlying hu, Result.andThen_ok, Sem.run_pure, hsz2]
  simp [addr_add, hlt, hsz2]
theorem P.indexArrI {s e : TypeId} {n b m be sz : Nat} {se : Shp} {x ix : Operand} {xs : List (List D)} {kk : IntKind} {i : Int} {cs : List D} (h : tShape E.P s = some (n, b, .array m e)) (he : tShape E.P e = some (sz, be, se)) (hx : ev E ρ x = .ro xs.flatten) (hn : xs.length = m) (hm : m ≤ maxLen) (hsz : ∀ cs ∈ xs, cs.length = sz)
    (hi : ev E ρ ix = .v (.int kk i)) (h0 : 0 ≤ i) (hcs : xs[i.toNat]? = some cs) : POk E U ρ st ⟨some t, .indexAddr s x ix, ty, pos, af, none⟩ (.ro cs) :=
  P.indexArr h he hx hn hm hsz (i := i.toNat) (by rw [hi, Int.toNat_of_nonneg h0]) hcs
theorem run_equal_bool {P : Program} {xt : TypeId} {n b : Nat} (h : tShape P xt = some (n, b, .bool)) (x y : Bool) (w : World) : (Op.equal xt (.bool x) (.bool y)).run P w = .ok (x == y) w := by
  obtain ⟨inf, u, hi, hu, g1, g2, g3⟩ := tShape_parts h
  cases u <;> simp only [shpOf, reduceCtorEq] at g3
  unfold Op.equal
  rw [show Op.maxDepth = 9999 + 1 from rfl, Op.equalIn]
  rw [Sem.run_bind, run_underlying hu]
  rfl
theorem P.eqB {xt yt : TypeId} {x y : Operand} {a b : Bool} (hT : tShape E.P xt = some (nn, bb, .bool)) (hx : ev E ρ x = .v (.bool a)) (hy : ev E ρ y = .v (.bool b)) : POk E U ρ st ⟨some t, .binOp .eql xt x y yt, ty, pos, af, none⟩ (.v (.bool (a == b))) :=
  fun cx a' w hr => ⟨_, fun w' => by
    simp only [execOp, hr.lit hx, hr.lit hy]
    simp [eqGuard, binOp, run_equal_bool hT], .v _⟩
theorem P.neB {xt yt : TypeId} {x y : Operand} {a b : Bool} (hT : tShape E.P xt = some (nn, bb, .bool)) (hx : ev E ρ x = .v (.bool a)) (hy : ev E ρ y = .v (.bool b)) : POk E U ρ st ⟨some t, .binOp .neq xt x y yt, ty, pos, af, none⟩ (.v (.bool (!(a == b)))) :=
  fun cx a' w hr => ⟨_, fun w' => by
    simp only [execOp, hr.lit hx, hr.lit hy]
    simp [eqGuard, binOp, run_equal_bool hT], .v _⟩
end
end Go.Mx
