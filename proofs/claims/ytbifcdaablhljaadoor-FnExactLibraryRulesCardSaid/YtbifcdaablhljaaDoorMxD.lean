/- Slices, lengths and the like, for the abstract state. No condition. -/
import Derived.Test.YtbifcdaablhljaaDoorMxC
namespace Go.Mx
set_option linter.unusedVariables false
theorem rd_sl_inv {cx : Cx} {w : World} {sz : Nat} {tok : Tok} {xs : List (List D)} {v : Value} (h : Rd cx w (.sl sz tok xs) v) :
    ∃ a cap, v = .slice a xs.length cap ∧ xs.length ≤ cap ∧ cap ≤ maxLen ∧ (∀ (i : Nat) cs, xs[i]? = some cs → cs.length = sz) ∧ TokOk cx a xs.length cap sz tok ∧
      ∃ A : Nat × Nat, (xs ≠ [] → a = some ⟨A.1, A.2, none⟩) ∧ ∀ (i j : Nat) cs d, xs[i]? = some cs → cs[j]? = some d →
        ∃ y, w.cell? ⟨A.1, A.2 + i * sz + j, none⟩ = some y ∧ ¬ cx.M A.1 (A.2 + i * sz + j) ∧ Rd cx w d y := by
  cases h with
  | sl A vs hcap hcm hsz ha hc hr ht => exact ⟨_, _, rfl, hcap, hcm, hsz, ht, A, ha, fun i j cs d hi hj => ⟨vs i j, (hc i j cs d hi hj).1, (hc i j cs d hi hj).2, hr i j cs d hi hj⟩⟩
theorem get_nonempty {α : Type} {xs : List α} {i : Nat} {x : α} (h : xs[i]? = some x) : xs ≠ [] := by rintro rfl; simp at h
theorem run_indexAt {P : Program} {s e : TypeId} {n b ne be : Nat} {se : Shp} (h : tShape P s = some (n, b, .slice e)) (he : tShape P e = some (ne, be, se)) (w : World) (bl o len cap : Nat) (kk : IntKind) (i : Int) (h0 : 0 ≤ i) (h1 : i < len) :
    (Instr.indexAt s (.slice (some ⟨bl, o, none⟩) len cap) (.int kk i)).run P w = .ok (.pointer (some ⟨bl, o + i.toNat * ne, none⟩)) w := by
  obtain ⟨inf, u, hi, hu, g1, g2, g3⟩ := tShape_parts h
  cases u <;> simp only [shpOf, Shp.slice.injEq, reduceCtorEq] at g3
  subst g3
  unfold Instr.indexAt
  simp only [asIntOf, Sem.run_bind, Sem.run_pure, Result.andThen_ok, run_underlying hu, run_sizeOf_shape he, h0, h1, and_self, if_true, addr_add]
section
variable {E : Setting} {U : Fun} {F : D → St → Prop} {k : List KI} {ρ : Env} {st : St} {all : Array Oper} {rest : List Oper}
variable {t : Nat} {ty : TypeId} {pos : String} {af : Array Edge} {nn bb : Nat} {ss : Shp}
theorem RelF.slInv {N : Nat} {cx : Cx} {a : Act} {w : World} (hr : RelF E N cx ρ st a w) {x : Operand} {sz : Nat} {tok : Tok} {xs : List (List D)} (h : ev E ρ x = .sl sz tok xs) :
    ∃ ad cap, a.eval x = .slice ad xs.length cap ∧ xs.length ≤ cap ∧ cap ≤ maxLen ∧ (∀ (i : Nat) cs, xs[i]? = some cs → cs.length = sz) ∧ TokOk cx ad xs.length cap sz tok ∧
      ∃ A : Nat × Nat, (xs ≠ [] → ad = some ⟨A.1, A.2, none⟩) ∧ ∀ (i j : Nat) cs d, xs[i]? = some cs → cs[j]? = some d →
        ∃ y, w.cell? ⟨A.1, A.2 + i * sz + j, none⟩ = some y ∧ ¬ cx.M A.1 (A.2 + i * sz + j) ∧ Rd cx w d y := by
  have := hr.eval x; rw [h] at this; exact rd_sl_inv this
/-- What a slice in memory gives of its length. -/
theorem AW.slLen {x : Operand} {sz : Nat} {tok : Tok} {xs : List (List D)} (hx : ev E ρ x = .sl sz tok xs) (h : xs.length ≤ 9223372036854775807 → AW E U k F ρ st) : AW E U k F ρ st :=
  fun B cx a w hB hl he hr => by
    obtain ⟨ad, cap, _, h1, h2, _⟩ := hr.slInv hx
    exact h (by unfold maxLen at h2; omega) B cx a w hB hl he hr
theorem P.indexAddr {s e : TypeId} {n b be : Nat} {se : Shp} {x ix : Operand} {sz : Nat} {tok : Tok} {xs : List (List D)} {kk : IntKind} {i : Int} {cs : List D}
    (h : tShape E.P s = some (n, b, .slice e)) (he : tShape E.P e = some (sz, be, se))
    (hx : ev E ρ x = .sl sz tok xs) (hi : ev E ρ ix = .v (.int kk i)) (h0 : 0 ≤ i) (hcs : xs[i.toNat]? = some cs) : POk E U ρ st ⟨some t, .indexAddr s x ix, ty, pos, af, none⟩ (.ro cs) :=
  (fun cx a w hr => by
    obtain ⟨ad, cap, hv, _, _, hsz, _, A, hA, hc⟩ := hr.slInv hx
    have hlt : i.toNat < xs.length := (List.getElem?_eq_some_iff.1 hcs).1
    rw [hA (get_nonempty hcs)] at hv
    obtain ⟨vs, g1, g2⟩ := pick_list (p := fun j y => w.cell? ⟨A.1, A.2 + i.toNat * sz + j, none⟩ = some y ∧ ¬ cx.M A.1 (A.2 + i.toNat * sz + j)) (q := Rd cx w) (ds := cs) (fun j d hj => by
      obtain ⟨y, hy, hm, hrd⟩ := hc _ j cs d hcs hj
      exact ⟨y, ⟨hy, hm⟩, hrd⟩)
    refine ⟨.pointer (some ⟨A.1, A.2 + i.toNat * sz, none⟩), ?_, .ro A.1 (A.2 + i.toNat * sz) (fun j => vs.getD j undef) (fun j d hj => ?_) (fun j d hj => ?_)⟩
    · intro w'; simp only [execOp, hv, hr.lit hi, Sem.run_bind, run_indexAt h he w' A.1 A.2 xs.length cap kk i h0 (by omega), Result.andThen_ok, Sem.run_pure]
    · obtain ⟨y, hy⟩ := len_get g1 hj
      rw [List.getD_eq_getElem?_getD, hy]
      exact (g2 j d y hj hy).1
    · obtain ⟨y, hy⟩ := len_get g1 hj
      rw [List.getD_eq_getElem?_getD, hy]
      exact (g2 j d y hj hy).2)
/-- Operations that answer a plain value whatever the memory holds. -/
theorem P.lit {op : Op} {v : Value} (h : ∀ (a : Act) (w0 w : World) cx, RelF E U.N cx ρ st a w0 → (execOp a.eval ⟨some t, op, ty, pos, af, none⟩).run E.P w = .ok (.value v) w) : POk E U ρ st ⟨some t, op, ty, pos, af, none⟩ (.v v) :=
  fun cx a w hr => ⟨v, fun w' => h a w w' cx hr, .v v⟩
theorem run_len_slice {P : Program} {s e : TypeId} {n b : Nat} (h : tShape P s = some (n, b, .slice e)) (r : TypeId) (a : Option Addr) (len cap : Nat) (w : World) :
    (Builtin.len_ #[s] r #[.slice a len cap]).run P w = .ok (.int .i64 len) w := by
  obtain ⟨inf, u, hi, hu, g1, g2, g3⟩ := tShape_parts h
  cases u <;> simp only [shpOf, Shp.slice.injEq, reduceCtorEq] at g3
  simp [Builtin.len_, run_underlying hu, goInt]
theorem P.len {s e : TypeId} {n b : Nat} {x : Operand} {sz : Nat} {tok : Tok} {xs : List (List D)} (h : tShape E.P s = some (n, b, .slice e)) (hx : ev E ρ x = .sl sz tok xs) : POk E U ρ st ⟨some t, .call ⟨.builtin .len, #[x], #[s]⟩, ty, pos, af, none⟩ (.v (.int .i64 xs.length)) :=
  P.lit (fun a w0 w cx hr => by
    obtain ⟨ad, cap, hv, _⟩ := hr.slInv hx
    have := run_len_slice h ty ad xs.length cap w
    simp only [execOp, resolve, Sem.run_bind, Sem.run_pure, Result.andThen_ok, invoke, builtin, List.map_toArray, List.map_cons, List.map_nil, hv, this])
theorem P.lenS {s : TypeId} {n b : Nat} {x : Operand} {c : ByteArray} (h : tShape E.P s = some (n, b, .str)) (hx : ev E ρ x = .v (.string c)) : POk E U ρ st ⟨some t, .call ⟨.builtin .len, #[x], #[s]⟩, ty, pos, af, none⟩ (.v (.int .i64 c.size)) :=
  P.lit (fun a w0 w cx hr => by
    obtain ⟨inf, u, hi, hu, g1, g2, g3⟩ := tShape_parts h
    cases u <;> simp only [shpOf, reduceCtorEq] at g3
    simp [execOp, resolve, invoke, builtin, hr.lit hx, Builtin.len_, run_underlying hu, goInt])
theorem P.not {xt : TypeId} {x : Operand} {b : Bool} (hx : ev E ρ x = .v (.bool b)) : POk E U ρ st ⟨some t, .unOp .not xt x, ty, pos, af, none⟩ (.v (.bool !b)) :=
  P.lit (fun a w0 w cx hr => by simp [execOp, hr.lit hx, Op.unary])
theorem P.neg {xt : TypeId} {x : Operand} {kk : IntKind} {i : Int} (hx : ev E ρ x = .v (.int kk i)) : POk E U ρ st ⟨some t, .unOp .neg xt x, ty, pos, af, none⟩ (.v (.int kk (kk.wrap (0 - i)))) :=
  P.lit (fun a w0 w cx hr => by simp [execOp, hr.lit hx, Op.unary, Op.intArith])
theorem P.maxI {x y : Operand} {at1 : Array TypeId} {kk kk' : IntKind} {i j : Int} (hx : ev E ρ x = .v (.int kk i)) (hy : ev E ρ y = .v (.int kk' j)) : POk E U ρ st ⟨some t, .call ⟨.builtin .max, #[x, y], at1⟩, ty, pos, af, none⟩ (.v (.int kk (if j > i then j else i))) :=
  P.lit (fun a w0 w cx hr => by simp [execOp, resolve, invoke, builtin, hr.lit hx, hr.lit hy, Builtin.max_, Builtin.max2])
theorem P.pick {c x y : Operand} {b : Bool} (hc : ev E ρ c = .v (.bool b)) : POk E U ρ st ⟨some t, .pick c x y, ty, pos, af, none⟩ (if b then ev E ρ x else ev E ρ y) :=
  (fun cx a w hr => by
    refine ⟨if b then a.eval x else a.eval y, fun w' => ?_, ?_⟩
    · cases b <;> simp [execOp, hr.lit hc, asBool]
    · cases b
      · exact hr.eval y
      · exact hr.eval x)
theorem P.nilCheck {x : Operand} {key : Key} {off : Nat} (hx : ev E ρ x = .bx key off) : POk E U ρ st ⟨some t, .nilCheck x, ty, pos, af, none⟩ (.bx key off) :=
  (fun cx a w hr => by
    obtain ⟨b, o, hb, he⟩ := hr.ptr hx
    exact ⟨.pointer (some ⟨b, o + off, none⟩), fun w' => by simp [execOp, he], .bx hb⟩)
theorem P.extract {x : Operand} {i : Nat} {ds : List D} {d : D} (hx : ev E ρ x = .tup ds) (hd : ds[i]? = some d) : POk E U ρ st ⟨some t, .extract x i, ty, pos, af, none⟩ (d) :=
  (fun cx a w hr => by
    have := hr.eval x; rw [hx] at this
    generalize hv : a.eval x = v at this
    cases this with
    | tup hl hrd =>
      rename_i vs
      obtain ⟨y, hy⟩ := len_get hl.symm hd
      exact ⟨y, fun w' => by simp [execOp, hv, Instr.extract, hy], hrd i d y hd hy⟩)
theorem P.makeFunc {f : FuncId} {first caps : Array Operand} {fs cs : List D} (h1 : first.toList.map (ev E ρ) = fs) (h2 : caps.toList.map (ev E ρ) = cs) : POk E U ρ st ⟨some t, .makeFunc (.func f) first caps, ty, pos, af, none⟩ (.clo (.func f) fs cs) :=
  (fun cx a w hr => by
    subst h1; subst h2
    refine ⟨.func (.func f) (first.toList.map a.eval).toArray (caps.toList.map a.eval).toArray, fun w' => ?_, .clo (by simp) (by simp) (fun j d x hd hx => ?_) (fun j d x hd hx => ?_)⟩
    · simp only [execOp, Instr.makeFunc, Sem.run_bind, Sem.run_pure, Result.andThen_ok, Array.toArray_toList, ← List.map_toArray]
    · rw [List.getElem?_map, Option.map_eq_some_iff] at hd hx
      obtain ⟨o, ho, rfl⟩ := hd
      obtain ⟨o', ho', rfl⟩ := hx
      rw [ho] at ho'; cases ho'
      exact hr.eval o
    · rw [List.getElem?_map, Option.map_eq_some_iff] at hd hx
      obtain ⟨o, ho, rfl⟩ := hd
      obtain ⟨o', ho', rfl⟩ := hx
      rw [ho] at ho'; cases ho'
      exact hr.eval o)
theorem P.conv {src dst : TypeId} {x : Operand} {n b : Nat} {kk kk' : IntKind} {i : Int} {n' b' : Nat} {s' : Shp} (hs : tShape E.P src = some (n', b', s')) (hT : tShape E.P dst = some (n, b, .int kk)) (hx : ev E ρ x = .v (.int kk' i)) : POk E U ρ st ⟨some t, .convert src dst x, ty, pos, af, none⟩ (.v (.int kk (kk.wrap i))) :=
  P.lit (fun a w0 w cx hr => by
    obtain ⟨inf, u, hi, hu, g1, g2, g3⟩ := tShape_parts hT
    obtain ⟨inf', u', hi', hu', _, _, _⟩ := tShape_parts hs
    cases u <;> simp only [shpOf, Shp.int.injEq, reduceCtorEq] at g3
    subst g3
    simp only [execOp, hr.lit hx, convert, Sem.run_bind, run_underlying hu, run_underlying hu', Result.andThen_ok]
    cases u' <;> simp [Conv.intToInt])
/-- A byte of a string. -/
theorem P.indexS {s : TypeId} {n b : Nat} {x ix : Operand} {c : ByteArray} {kk : IntKind} {i : Int} {y : UInt8} (h : tShape E.P s = some (n, b, .str)) (hx : ev E ρ x = .v (.string c)) (hi : ev E ρ ix = .v (.int kk i)) (h0 : 0 ≤ i) (hy : c[i.toNat]? = some y) : POk E U ρ st ⟨some t, .index s x ix, ty, pos, af, none⟩ (.v (.int .u8 y.toNat)) :=
  P.lit (fun a w0 w cx hr => by
    obtain ⟨inf, u, hi', hu, g1, g2, g3⟩ := tShape_parts h
    cases u <;> simp only [shpOf, reduceCtorEq] at g3
    simp [execOp, hr.lit hx, hr.lit hi, Instr.index, asIntOf, run_underlying hu, h0, hy])
end
end Go.Mx
