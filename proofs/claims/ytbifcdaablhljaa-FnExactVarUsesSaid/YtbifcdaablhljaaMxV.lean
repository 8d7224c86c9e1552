/- What the functions that FnExactCoreDepth and FnExactVarUses reach answer. The conditions stand in each theorem. -/
import Derived.Test.YtbifcdaablhljaaMxS
import Derived.Test.YtbifcdaablhljaaProg
import Derived.KernelRfl
namespace Go.Mx
open Go.Proofs
set_option linter.unusedVariables false
set_option linter.unusedSimpArgs false
set_option maxRecDepth 10000
noncomputable def X : Setting := ⟨Try.prog, fun _ => .any, fun _ => rfl⟩
theorem mixed : X.P.follows .mixedOrders = true := by kernel_rfl
mutual
def depth : Core → Int
  | ⟨k, _, _, _, _, _, kids⟩ => if k = 5 then IntKind.i64.wrap (depths kids 0 + 1) else depths kids 0
def depths : List Core → Int → Int
  | [], n => n
  | c :: r, n => depths r (if depth c > n then depth c else n)
end
theorem depth_eq (c : Core) : depth c = if c.kind = 5 then IntKind.i64.wrap (depths c.kids 0 + 1) else depths c.kids 0 := by cases c; simp [depth]
mutual
def depthI : Core → Int
  | ⟨k, _, _, _, _, _, kids⟩ => if k = 5 then IntKind.i64.wrap (depthsI kids 0 + 1) else depthsI kids 0
def depthsI : List Core → Int → Int
  | [], n => n
  | c :: r, n => depthsI r (if depthI c > n then depthI c else n)
end
mutual
def uses : Core → Int → Int
  | ⟨k, i, _, _, _, _, kids⟩, id => usesL kids id (if k = 1 ∧ i = id then 1 else 0)
def usesL : List Core → Int → Int → Int
  | [], _, n => n
  | c :: r, id, n => usesL r id (IntKind.i64.wrap (n + uses c id))
end
theorem uses_eq (c : Core) (id : Int) : uses c id = usesL c.kids id (if c.kind = 1 ∧ c.id = id then 1 else 0) := by cases c; simp only [uses]
def useStep (id : Int) (x : Core) (n : Int) : Int := if x.kind = 1 ∧ x.id = id then IntKind.i64.wrap (n + 1) else n
def usesI (c : Core) (id : Int) : Int := eachC (useStep id) c 0
theorem wrap_add (n m u : Int) : IntKind.i64.wrap (IntKind.i64.wrap (n + m) + u) = IntKind.i64.wrap (n + IntKind.i64.wrap (m + u)) := by
  simp only [IntKind.wrap_i64]; omega
theorem usesL_shift (id n : Int) : ∀ (l : List Core) (m : Int), IntKind.i64.wrap m = m → usesL l id (IntKind.i64.wrap (n + m)) = IntKind.i64.wrap (n + usesL l id m)
  | [], m, h => by simp only [usesL]
  | c :: r, m, h => by
    simp only [usesL]
    rw [wrap_add]
    exact usesL_shift id n r _ (by simp only [IntKind.wrap_i64]; omega)
mutual
theorem eachC_uses (id : Int) : ∀ (c : Core) (n : Int), IntKind.i64.wrap n = n → eachC (useStep id) c n = IntKind.i64.wrap (n + uses c id)
  | ⟨k, i, nm, nn, ids, dt, kids⟩, n, h => by
    simp only [eachC, uses]
    rw [eachCs_uses id kids, useStep]
    · split
      · exact usesL_shift id n kids 1 (by decide)
      · have := usesL_shift id n kids 0 (by decide)
        rwa [Int.add_zero, h] at this
    · unfold useStep
      split
      · simp only [IntKind.wrap_i64]; omega
      · exact h
theorem eachCs_uses (id : Int) : ∀ (l : List Core) (n : Int), IntKind.i64.wrap n = n → eachCs (useStep id) l n = usesL l id n
  | [], n, h => by simp only [eachCs, usesL]
  | c :: r, n, h => by
    simp only [eachCs, usesL]
    rw [eachC_uses id c n h]
    exact eachCs_uses id r _ (by simp only [IntKind.wrap_i64]; omega)
end
theorem usesL_wrap (id : Int) : ∀ (l : List Core) (n : Int), IntKind.i64.wrap n = n → IntKind.i64.wrap (usesL l id n) = usesL l id n
  | [], n, h => by simpa only [usesL] using h
  | c :: r, n, h => by
    simp only [usesL]
    exact usesL_wrap id r _ (by simp only [IntKind.wrap_i64]; omega)
theorem usesI_uses (c : Core) (id : Int) : usesI c id = uses c id := by
  unfold usesI
  rw [eachC_uses id c 0 (by decide), Int.zero_add]
  rw [uses_eq]
  exact usesL_wrap id _ _ (by split <;> decide)
theorem kst {K : D → St → Prop} {d : D} {a b : St} (h : b = a) (hK : K d b) : K d a := h ▸ hK
mutual
theorem depthI_depth : ∀ c : Core, depthI c = depth c
  | ⟨k, _, _, _, _, _, kids⟩ => by simp only [depthI, depth, depthsI_depths kids 0]
theorem depthsI_depths : ∀ (l : List Core) (n : Int), depthsI l n = depths l n
  | [], n => by simp only [depthsI, depths]
  | c :: r, n => by simp only [depthsI, depths, depthI_depth c, depthsI_depths r]
end
theorem depthI_eq (c : Core) : depthI c = if c.kind = 5 then IntKind.i64.wrap (depthsI c.kids 0 + 1) else depthsI c.kids 0 := by cases c; simp [depthI]

theorem ty3 : tShape Try.prog 3 = some (1, 8, .int .i64) := by kernel_rfl
theorem ty9 : tShape Try.prog 9 = some (1, 16, .str) := by kernel_rfl
theorem ty23 : tShape Try.prog 23 = some (1, 24, .slice 3) := by kernel_rfl
theorem ty24 : tShape Try.prog 24 = some (1, 24, .slice 26) := by kernel_rfl
theorem ty26 : tShape Try.prog 26 = some (5, 80, .struct [(0, 1), (1, 1), (2, 1), (3, 1), (4, 1)]) := by kernel_rfl
theorem ty27 : tShape Try.prog 27 = some (1, 24, .slice 29) := by kernel_rfl
theorem ty29 : tShape Try.prog 29 = some (11, 168, .struct [(0, 1), (1, 1), (2, 1), (3, 1), (4, 1), (5, 5), (10, 1)]) := by kernel_rfl
theorem ty33 : tShape Try.prog 33 = some (1, 24, .slice 35) := by kernel_rfl
theorem ty35 : tShape Try.prog 35 = some (5, 80, .struct [(0, 1), (1, 1), (2, 1), (3, 1), (4, 1)]) := by kernel_rfl
theorem ty36 : tShape Try.prog 36 = some (1, 24, .slice 38) := by kernel_rfl
theorem ty38 : tShape Try.prog 38 = some (11, 168, .struct [(0, 1), (1, 1), (2, 1), (3, 1), (4, 1), (5, 5), (10, 1)]) := by kernel_rfl
theorem tz3 : tZero Try.prog 3 = some [.int .i64 0] := by kernel_rfl
theorem tz26 : tZero Try.prog 26 = some [.int .i64 0, .string ⟨#[]⟩, .int .i64 0, .slice none 0 0, .slice none 0 0] := by kernel_rfl
theorem tz29 : tZero Try.prog 29 = some [.int .i64 0, .int .i64 0, .string ⟨#[]⟩, .int .i64 0, .slice none 0 0, .int .i64 0, .string ⟨#[]⟩, .int .i64 0, .slice none 0 0, .slice none 0 0, .slice none 0 0] := by kernel_rfl
theorem specDepth_grp (m : Nat) : (∀ (c : Core), SizeOf.sizeOf c < m → ∀ {st : St} {K : D → St → Prop}, K (.v (.int .i64 (depth c))) st → ACall X 8 [.agg (cCore c)] st K) := by
  induction m with
  | zero => intros; omega
  | succ m ih =>
    intro c hm st K hK
    refine acallE Try.func8 rfl rfl rfl (l := [(0, .agg (cCore c))]) (.same rfl .nil) (fun Lv hL hlv => ?_)
    refine AW.seq ?_
    refine AW.region ?_
    refine AW.box rfl rfl rfl rfl rfl ?_
    refine AW.p rfl P.assign ?_
    refine AW.opsNil ?_
    refine AW.seq ?_
    refine AW.region ?_
    refine AW.p rfl P.assign ?_
    refine AW.opsNil ?_
    refine AW.seq ?_
    refine AW.seq ?_
    refine AW.region ?_
    refine AW.p rfl P.assign ?_
    refine AW.opsNil ?_
    refine AW.block ?_
    refine AW.loopE (ι := List Core × Int × Nat) (fun ⟨l, n, i⟩ => [(1, .bx (Lv, 1) 0), (3, .v (.int .i64 n)), (4, .v (.int .i64 ((i : Nat) : Int)))]) (fun ⟨l, n, i⟩ => [(1, .cells (cCore c))]) (fun ⟨l, n, i⟩ => st) (fun ⟨l, n, i⟩ => c.kids.drop i = l ∧ depths l n = depths c.kids 0 ∧ i ≤ c.kids.length) (fun ⟨l, n, i⟩ => l.length) (c.kids, 0, 0) (.same rfl (.same rfl (.same rfl .nil))) rfl rfl ⟨rfl, rfl, Nat.zero_le _⟩ ?_
    intro ⟨l, n, i⟩ ⟨hd, hn, hi⟩
    show AW _ _ (_ :: .goal _ :: _) _ (mkEnv [(1, .bx (Lv, 1) 0), (3, .v (.int .i64 n)), (4, .v (.int .i64 ((i : Nat) : Int)))]) (mkFr [(1, .cells (cCore c))] :: st)
    have hd : c.kids.drop i = l := hd
    have hn : depths l n = depths c.kids 0 := hn
    have hi : i ≤ c.kids.length := hi
    refine AW.seq ?_
    refine AW.seq ?_
    refine AW.region ?_
    refine AW.p rfl P.move ?_
    refine AW.p rfl (P.fieldAddr ty29 rfl (by decide) rfl) ?_
    refine AW.load rfl ty27 rfl rfl rfl rfl ?_
    refine AW.lenE ty27 rfl (coresD_length _) rfl (fun hl9 => ?_)
    refine AW.p rfl (P.bin rfl rfl rfl) ?_
    refine AW.opsNil ?_
    refine AW.condP rfl (fun hc1 => ?_) (fun hc1 => ?_)
    · obtain ⟨x, r, rfl, hx, hr⟩ := drop_cons hd (by omega)
      have hm := drop_len hd hi
      refine AW.skip ?_
      refine AW.seq ?_
      refine AW.block ?_
      refine AW.seq ?_
      refine AW.region ?_
      refine AW.p rfl (P.fieldAddr ty29 rfl (by decide) rfl) ?_
      refine AW.load rfl ty27 rfl rfl rfl rfl ?_
      refine AW.p rfl P.move ?_
      refine AW.p rfl (P.indexA ty27 ty29 rfl rfl (by rw [coresD_get, hx]; rfl)) ?_
      refine AW.l rfl (L.loadRS ty29 rfl rfl rfl rfl) ?_
      refine AW.call rfl Try.func8 rfl rfl rfl ?_
      refine ih x (by have := sz_get hx; have := sz_kids c; omega)  ?_
      refine AW.p rfl P.assign ?_
      refine AW.opsNil ?_
      refine AW.norm [(1, .bx (Lv, 1) 0), (3, .v (.int .i64 n)), (4, .v (.int .i64 ((i : Nat) : Int))), (5, .v (.int .i64 (depth x)))] [(1, .cells (cCore c))] st (.same rfl (.same rfl (.same rfl (.same rfl .nil)))) rfl rfl ?_
      refine AW.seq ?_
      refine AW.region ?_
      refine AW.p rfl P.move ?_
      refine AW.p rfl P.move ?_
      refine AW.p rfl (P.bin rfl rfl rfl) ?_
      refine AW.opsNil ?_
      refine AW.cutE [(1, .bx (Lv, 1) 0), (3, .v (.int .i64 (if (depth x) > n then (depth x) else n))), (4, .v (.int .i64 ((i : Nat) : Int)))] [(1, .cells (cCore c))] st True ?_ (fun _ => ?_)
      · refine AW.condP rfl (fun hc2 => ?_) (fun hc2 => ?_)
        · refine AW.region ?_
          refine AW.p rfl P.move ?_
          refine AW.p rfl P.assign ?_
          refine AW.opsNil ?_
          exact AW.meet (.same rfl (.cons (Wk.eq (by show D.v (.int .i64 (depth x)) = _; rw [if_pos hc2])) (.same rfl .nil))) rfl rfl trivial
        · refine AW.skip ?_
          exact AW.meet (.same rfl (.cons (Wk.eq (by show D.v (.int .i64 n) = _; rw [if_neg hc2])) (.same rfl .nil))) rfl rfl trivial
      · refine AW.inBlock ?_
        refine AW.region ?_
        refine AW.p rfl P.move ?_
        refine AW.p rfl (P.addN (c := i + 1) rfl rfl rfl (by omega)) ?_
        refine AW.p rfl P.assign ?_
        refine AW.opsNil ?_
        exact AW.next (r, (if (depth x) > n then (depth x) else n), (i + 1)) (.same rfl (.same rfl (.same rfl .nil))) rfl rfl (Nat.lt_succ_self _) ⟨hr, by rw [← hn]; simp [depths], by omega⟩
    · have hl := drop_nil hd (by omega)
      subst hl
      refine AW.exit rfl ?_
      refine AW.seq ?_
      refine AW.seq ?_
      refine AW.region ?_
      refine AW.p rfl (P.fieldAddr ty29 rfl (by decide) rfl) ?_
      refine AW.load rfl ty3 rfl rfl rfl rfl ?_
      refine AW.p rfl (P.eqI rfl rfl) ?_
      refine AW.opsNil ?_
      refine AW.norm [(3, .v (.int .i64 n)), (25, .v (.bool (decide (c.kind = 5))))] [(1, .cells (cCore c))] st (.same rfl (.same rfl .nil)) rfl rfl ?_
      refine AW.condP rfl (fun hc3 => ?_) (fun hc3 => ?_)
      · refine AW.seq ?_
        refine AW.region ?_
        refine AW.p rfl P.move ?_
        refine AW.p rfl (P.bin rfl rfl rfl) ?_
        refine AW.p rfl P.assign ?_
        refine AW.opsNil ?_
        refine AW.retE rfl rfl ?_
        exact kint (by simp_all [depth_eq, depths]) hK
      · refine AW.skip ?_
        refine AW.seq ?_
        refine AW.region ?_
        refine AW.p rfl P.move ?_
        refine AW.p rfl P.assign ?_
        refine AW.opsNil ?_
        refine AW.retE rfl rfl ?_
        exact kint (by simp_all [depth_eq, depths]) hK
theorem specDepth_ok : ∀ (c : Core), ∀ {st : St} {K : D → St → Prop}, K (.v (.int .i64 (depth c))) st → ACall X 8 [.agg (cCore c)] st K :=
  fun c _ _ hK => (specDepth_grp _) c (Nat.lt_succ_self _)  hK
theorem implDepth_grp (m : Nat) : (∀ (c : Core), SizeOf.sizeOf c < m → ∀ {st : St} {K : D → St → Prop}, K (.v (.int .i64 (depthI c))) st → ACall X 7 [.agg (cCore c)] st K) := by
  induction m with
  | zero => intros; omega
  | succ m ih =>
    intro c hm st K hK
    refine acallE Try.func7 rfl rfl rfl (l := [(0, .agg (cCore c))]) (.same rfl .nil) (fun Lv hL hlv => ?_)
    refine AW.seq ?_
    refine AW.region ?_
    refine AW.box rfl rfl rfl rfl rfl ?_
    refine AW.p rfl P.assign ?_
    refine AW.opsNil ?_
    refine AW.seq ?_
    refine AW.region ?_
    refine AW.p rfl P.assign ?_
    refine AW.opsNil ?_
    refine AW.seq ?_
    refine AW.seq ?_
    refine AW.region ?_
    refine AW.p rfl (P.fieldAddr ty29 rfl (by decide) rfl) ?_
    refine AW.load rfl ty27 rfl rfl rfl rfl ?_
    refine AW.lenE ty27 rfl (coresD_length _) rfl (fun hl8 => ?_)
    refine AW.p rfl P.move ?_
    refine AW.opsNil ?_
    refine AW.block ?_
    refine AW.loopE (ι := List Core × Int × Nat) (fun ⟨l, n, i⟩ => [(1, .bx (Lv, 1) 0), (3, .v (.int .i64 n)), (7, .sl 11 .ro (coresD c.kids)), (8, .v (.int .i64 ((c.kids.length : Nat) : Int))), (9, .v (.int .i64 ((i : Nat) : Int)))]) (fun ⟨l, n, i⟩ => [(1, .cells (cCore c))]) (fun ⟨l, n, i⟩ => st) (fun ⟨l, n, i⟩ => c.kids.drop i = l ∧ depthsI l n = depthsI c.kids 0 ∧ i ≤ c.kids.length) (fun ⟨l, n, i⟩ => l.length) (c.kids, 0, 0) (.same rfl (.same rfl (.same rfl (.same rfl (.same rfl .nil))))) rfl rfl ⟨rfl, rfl, Nat.zero_le _⟩ ?_
    intro ⟨l, n, i⟩ ⟨hd, hn, hi⟩
    show AW _ _ (_ :: .goal _ :: _) _ (mkEnv [(1, .bx (Lv, 1) 0), (3, .v (.int .i64 n)), (7, .sl 11 .ro (coresD c.kids)), (8, .v (.int .i64 ((c.kids.length : Nat) : Int))), (9, .v (.int .i64 ((i : Nat) : Int)))]) (mkFr [(1, .cells (cCore c))] :: st)
    have hd : c.kids.drop i = l := hd
    have hn : depthsI l n = depthsI c.kids 0 := hn
    have hi : i ≤ c.kids.length := hi
    refine AW.seq ?_
    refine AW.region ?_
    refine AW.p rfl (P.bin rfl rfl rfl) ?_
    refine AW.opsNil ?_
    refine AW.seq ?_
    refine AW.condP rfl (fun hc1 => ?_) (fun hc1 => ?_)
    · obtain ⟨x, r, rfl, hx, hr⟩ := drop_cons hd (by omega)
      have hm := drop_len hd hi
      refine AW.skip ?_
      refine AW.seq ?_
      refine AW.block ?_
      refine AW.seq ?_
      refine AW.region ?_
      refine AW.p rfl (P.indexA ty27 ty29 rfl rfl (by rw [coresD_get, hx]; rfl)) ?_
      refine AW.l rfl (L.loadRS ty29 rfl rfl rfl rfl) ?_
      refine AW.alloc rfl tz29 (.v (.v (.v (.v (.sl (sz := 1) (.v (.v (.v (.sl (sz := 1) (.sl (sz := 5) (.sl (sz := 11) .nil))))))))))) rfl rfl rfl ?_
      refine AW.store ty29 rfl rfl rfl rfl rfl rfl rfl rfl rfl rfl ?_
      refine AW.opsNil ?_
      refine AW.norm [(1, .bx (Lv, 1) 0), (3, .v (.int .i64 n)), (5, .bx (Lv, 5) 0), (7, .sl 11 .ro (coresD c.kids)), (8, .v (.int .i64 ((c.kids.length : Nat) : Int))), (9, .v (.int .i64 ((i : Nat) : Int)))] [(1, .cells (cCore c)), (5, .cells (cCore x))] st (.same rfl (.same rfl (.same rfl (.same rfl (.same rfl (.same rfl .nil)))))) rfl rfl ?_
      refine AW.region ?_
      refine AW.p rfl P.move ?_
      refine AW.loadS rfl ty29 rfl rfl rfl rfl rfl ?_
      refine AW.call rfl Try.func7 rfl rfl rfl ?_
      refine ih x (by have := sz_get hx; have := sz_kids c; omega)  ?_
      refine AW.p rfl (P.maxI rfl rfl) ?_
      refine AW.p rfl P.assign ?_
      refine AW.opsNil ?_
      refine AW.inBlock ?_
      refine AW.region ?_
      refine AW.p rfl (P.addN (c := i + 1) rfl rfl rfl (by omega)) ?_
      refine AW.p rfl P.move ?_
      refine AW.opsNil ?_
      refine AW.dropE (l := [(1, .bx (Lv, 1) 0), (3, .v (.int .i64 (if (depthI x) > n then (depthI x) else n))), (7, .sl 11 .ro (coresD c.kids)), (8, .v (.int .i64 ((c.kids.length : Nat) : Int))), (9, .v (.int .i64 (((i + 1) : Nat) : Int)))]) (f' := [(1, .cells (cCore c))]) 5 (.same rfl (.same rfl (.same rfl (.same rfl (.same rfl .nil))))) (by simp [allE, D.all, Tok.all, allL, allLL, notKey]) rfl (by simp [allF, D.all, Tok.all, allL, allLL, notKey]) ?_
      exact AW.next (r, (if (depthI x) > n then (depthI x) else n), (i + 1)) (.same rfl (.same rfl (.same rfl (.same rfl (.same rfl .nil))))) rfl rfl (Nat.lt_succ_self _) ⟨hr, by rw [← hn]; simp [depthsI], by omega⟩
    · have hl := drop_nil hd (by omega)
      subst hl
      refine AW.exit rfl ?_
      refine AW.seq ?_
      refine AW.seq ?_
      refine AW.region ?_
      refine AW.p rfl (P.fieldAddr ty29 rfl (by decide) rfl) ?_
      refine AW.load rfl ty3 rfl rfl rfl rfl ?_
      refine AW.p rfl (P.eqI rfl rfl) ?_
      refine AW.opsNil ?_
      refine AW.norm [(3, .v (.int .i64 n)), (20, .v (.bool (decide (c.kind = 5))))] [(1, .cells (cCore c))] st (.same rfl (.same rfl .nil)) rfl rfl ?_
      refine AW.cutE [(3, .v (.int .i64 (if c.kind = 5 then (IntKind.i64.wrap (n + 1)) else n)))] [(1, .cells (cCore c))] st True ?_ (fun _ => ?_)
      · refine AW.condP rfl (fun hc2 => ?_) (fun hc2 => ?_)
        · refine AW.region ?_
          refine AW.p rfl P.move ?_
          refine AW.p rfl (P.bin rfl rfl rfl) ?_
          refine AW.p rfl P.assign ?_
          refine AW.opsNil ?_
          exact AW.meet (.cons (Wk.eq (by show D.v (.int .i64 (IntKind.i64.wrap (n + 1))) = _; rw [if_pos hc2])) .nil) rfl rfl trivial
        · refine AW.skip ?_
          exact AW.meet (.cons (Wk.eq (by show D.v (.int .i64 n) = _; rw [if_neg hc2])) .nil) rfl rfl trivial
      · refine AW.seq ?_
        refine AW.region ?_
        refine AW.p rfl P.move ?_
        refine AW.p rfl P.assign ?_
        refine AW.opsNil ?_
        refine AW.retE rfl rfl ?_
        exact kint (by simp_all [depthI_eq, depthsI]) hK
theorem implDepth_ok : ∀ (c : Core), ∀ {st : St} {K : D → St → Prop}, K (.v (.int .i64 (depthI c))) st → ACall X 7 [.agg (cCore c)] st K :=
  fun c _ _ hK => (implDepth_grp _) c (Nat.lt_succ_self _)  hK
theorem szInts_ok : ∀ (l : List Int) (n : Int), 0 ≤ n ∧ n ≤ 1048576 → ∀ {st : St} {K : D → St → Prop}, K (.v (.int .i64 (szInts l n))) st → ACall X 15 [.sl 1 .ro (intsD l), .v (.int .i64 n)] st K := by
  intro l n h0 st K hK
  refine acallE Try.func15 rfl rfl rfl (l := [(0, .sl 1 .ro (intsD l)), (1, .v (.int .i64 n))]) (.same rfl (.same rfl .nil)) (fun Lv hL hlv => ?_)
  refine AW.seq ?_
  refine AW.region ?_
  refine AW.p rfl P.assign ?_
  refine AW.opsNil ?_
  refine AW.seq ?_
  refine AW.region ?_
  refine AW.p rfl P.move ?_
  refine AW.p rfl P.move ?_
  refine AW.lenE ty23 rfl (intsD_length _) rfl (fun hl7 => ?_)
  refine AW.p rfl (P.sub rfl rfl (by omega) (by omega)) ?_
  refine AW.p rfl P.assign ?_
  refine AW.opsNil ?_
  refine AW.seq ?_
  refine AW.seq ?_
  refine AW.region ?_
  refine AW.p rfl P.move ?_
  refine AW.p rfl (P.bin rfl rfl rfl) ?_
  refine AW.opsNil ?_
  refine AW.condP rfl (fun hc1 => ?_) (fun hc1 => ?_)
  · refine AW.seq ?_
    refine AW.region ?_
    refine AW.p rfl P.assign ?_
    refine AW.opsNil ?_
    refine AW.retE rfl rfl ?_
    exact kint (by unfold szInts; repeat first | rw [if_neg (by omega)] | rw [if_pos (by omega)]) hK
  · refine AW.skip ?_
    refine AW.seq ?_
    refine AW.region ?_
    refine AW.p rfl P.move ?_
    refine AW.p rfl P.assign ?_
    refine AW.opsNil ?_
    refine AW.retE rfl rfl ?_
    exact kint (by unfold szInts; repeat first | rw [if_neg (by omega)] | rw [if_pos (by omega)]) hK
theorem szForm_grp (m : Nat) : (∀ (f : Form) (n : Int), SizeOf.sizeOf f < m → 0 ≤ n ∧ n ≤ 1048576 → okForm f → ∀ {st : St} {K : D → St → Prop}, K (.v (.int .i64 (szForm f n))) st → ACall X 16 [.agg (cForm f), .v (.int .i64 n)] st K) ∧ (∀ (l : List Form) (n : Int), SizeOf.sizeOf l < m → 0 ≤ n ∧ n ≤ 1048576 → okForms l → ∀ {st : St} {K : D → St → Prop}, K (.v (.int .i64 (szForms l (n - l.length)))) st → ACall X 31 [.sl 5 .ro (formsD l), .v (.int .i64 n)] st K) := by
  induction m with
  | zero => exact ⟨by intros; omega, by intros; omega⟩
  | succ m ih =>
    refine ⟨?_, ?_⟩
    · intro f n hm h0 hok st K hK
      obtain ⟨hnm, hk⟩ := (okForm_eq f).1 hok
      refine acallE Try.func16 rfl rfl rfl (l := [(0, .agg (cForm f)), (1, .v (.int .i64 n))]) (.same rfl (.same rfl .nil)) (fun Lv hL hlv => ?_)
      refine AW.seq ?_
      refine AW.region ?_
      refine AW.box rfl rfl rfl rfl rfl ?_
      refine AW.p rfl P.assign ?_
      refine AW.opsNil ?_
      refine AW.seq ?_
      refine AW.region ?_
      refine AW.p rfl P.move ?_
      refine AW.p rfl (P.fieldAddr ty35 rfl (by decide) rfl) ?_
      refine AW.load rfl ty9 rfl rfl rfl rfl ?_
      refine AW.p rfl (P.lenS ty9 rfl) ?_
      refine AW.p rfl (P.sub rfl rfl (by omega) (by omega)) ?_
      refine AW.p rfl P.assign ?_
      refine AW.opsNil ?_
      refine AW.seq ?_
      refine AW.seq ?_
      refine AW.region ?_
      refine AW.p rfl P.move ?_
      refine AW.p rfl (P.bin rfl rfl rfl) ?_
      refine AW.opsNil ?_
      refine AW.norm [(1, .v (.int .i64 (n - ((f.name.size : Nat) : Int)))), (2, .bx (Lv, 2) 0), (11, .v (.bool (decide ((n - ((f.name.size : Nat) : Int)) < 0))))] [(2, .cells (cForm f))] st (.same rfl (.same rfl (.same rfl .nil))) rfl rfl ?_
      refine AW.condP rfl (fun hc1 => ?_) (fun hc1 => ?_)
      · refine AW.seq ?_
        refine AW.region ?_
        refine AW.p rfl P.assign ?_
        refine AW.opsNil ?_
        refine AW.retE rfl rfl ?_
        exact kint (by rw [szForm_eq]; repeat first | rw [if_neg (by omega)] | rw [if_pos (by omega)]) hK
      · refine AW.skip ?_
        refine AW.seq ?_
        refine AW.region ?_
        refine AW.p rfl (P.fieldAddr ty35 rfl (by decide) rfl) ?_
        refine AW.load rfl ty23 rfl rfl rfl rfl ?_
        refine AW.p rfl P.move ?_
        refine AW.call rfl Try.func15 rfl rfl rfl ?_
        refine szInts_ok f.scopes (n - ((f.name.size : Nat) : Int)) (by omega) ?_
        have := szInts_le f.scopes (n - ((f.name.size : Nat) : Int)) (by omega)
        refine AW.p rfl P.assign ?_
        refine AW.opsNil ?_
        refine AW.seq ?_
        refine AW.seq ?_
        refine AW.region ?_
        refine AW.p rfl P.move ?_
        refine AW.p rfl (P.bin rfl rfl rfl) ?_
        refine AW.opsNil ?_
        refine AW.condP rfl (fun hc2 => ?_) (fun hc2 => ?_)
        · refine AW.seq ?_
          refine AW.region ?_
          refine AW.p rfl P.assign ?_
          refine AW.opsNil ?_
          refine AW.retE rfl rfl ?_
          exact kint (by rw [szForm_eq]; repeat first | rw [if_neg (by omega)] | rw [if_pos (by omega)]) hK
        · refine AW.skip ?_
          refine AW.seq ?_
          refine AW.region ?_
          refine AW.p rfl (P.fieldAddr ty35 rfl (by decide) rfl) ?_
          refine AW.load rfl ty33 rfl rfl rfl rfl ?_
          refine AW.p rfl P.move ?_
          refine AW.call rfl Try.func31 rfl rfl rfl ?_
          refine ih.2 f.kids (szInts f.scopes (n - ((f.name.size : Nat) : Int))) (by have := sz_fkids f; omega) (by omega) hk ?_
          refine AW.p rfl P.assign ?_
          refine AW.opsNil ?_
          refine AW.norm [(1, .v (.int .i64 (szForms f.kids ((szInts f.scopes (n - ((f.name.size : Nat) : Int))) - f.kids.length))))] [(2, .cells (cForm f))] st (.same rfl .nil) rfl rfl ?_
          refine AW.seq ?_
          refine AW.seq ?_
          refine AW.region ?_
          refine AW.p rfl P.move ?_
          refine AW.p rfl (P.bin rfl rfl rfl) ?_
          refine AW.opsNil ?_
          refine AW.condP rfl (fun hc3 => ?_) (fun hc3 => ?_)
          · refine AW.seq ?_
            refine AW.region ?_
            refine AW.p rfl P.assign ?_
            refine AW.opsNil ?_
            refine AW.retE rfl rfl ?_
            exact kint (by rw [szForm_eq]; repeat first | rw [if_neg (by omega)] | rw [if_pos (by omega)]) hK
          · refine AW.skip ?_
            refine AW.seq ?_
            refine AW.region ?_
            refine AW.p rfl P.move ?_
            refine AW.p rfl P.assign ?_
            refine AW.opsNil ?_
            refine AW.retE rfl rfl ?_
            exact kint (by rw [szForm_eq]; repeat first | rw [if_neg (by omega)] | rw [if_pos (by omega)]) hK
    · intro l n hm h0 hok st K hK
      refine acallE Try.func31 rfl rfl rfl (l := [(0, .sl 5 .ro (formsD l)), (1, .v (.int .i64 n))]) (.same rfl (.same rfl .nil)) (fun Lv hL hlv => ?_)
      refine AW.seq ?_
      refine AW.region ?_
      refine AW.p rfl P.assign ?_
      refine AW.opsNil ?_
      refine AW.seq ?_
      refine AW.region ?_
      refine AW.p rfl P.move ?_
      refine AW.p rfl P.move ?_
      refine AW.lenE ty33 rfl (formsD_length _) rfl (fun hl8 => ?_)
      refine AW.p rfl (P.sub rfl rfl (by omega) (by omega)) ?_
      refine AW.p rfl P.assign ?_
      refine AW.opsNil ?_
      refine AW.seq ?_
      refine AW.seq ?_
      refine AW.region ?_
      refine AW.p rfl P.move ?_
      refine AW.p rfl (P.bin rfl rfl rfl) ?_
      refine AW.opsNil ?_
      refine AW.condP rfl (fun hc1 => ?_) (fun hc1 => ?_)
      · refine AW.seq ?_
        refine AW.region ?_
        refine AW.p rfl P.assign ?_
        refine AW.opsNil ?_
        refine AW.retE rfl rfl ?_
        exact kint (by first | (rw [← hn]; simp only [szForms]; repeat first | rw [if_neg (by omega)] | rw [if_pos (by omega)]) | (cases l <;> simp only [szForms] <;> rw [if_pos (by omega)])) hK
      · refine AW.skip ?_
        refine AW.seq ?_
        refine AW.seq ?_
        refine AW.region ?_
        refine AW.p rfl P.assign ?_
        refine AW.opsNil ?_
        refine AW.block ?_
        refine AW.loopE (ι := List Form × Int × Nat) (fun ⟨q, a, i⟩ => [(0, .sl 5 .ro (formsD l)), (1, .v (.int .i64 a)), (5, .v (.int .i64 ((i : Nat) : Int)))]) (fun ⟨q, a, i⟩ => []) (fun ⟨q, a, i⟩ => st) (fun ⟨q, a, i⟩ => l.drop i = q ∧ szForms q a = szForms l (n - l.length) ∧ i ≤ l.length ∧ 0 ≤ a ∧ a ≤ 1048576) (fun ⟨q, a, i⟩ => q.length) (l, (n - l.length), 0) (.same rfl (.same rfl (.same rfl .nil))) rfl rfl ⟨rfl, rfl, Nat.zero_le _, by omega⟩ ?_
        intro ⟨q, a, i⟩ ⟨hd, hn, hi, ha⟩
        show AW _ _ (_ :: .goal _ :: _) _ (mkEnv [(0, .sl 5 .ro (formsD l)), (1, .v (.int .i64 a)), (5, .v (.int .i64 ((i : Nat) : Int)))]) (mkFr [] :: st)
        have hd : l.drop i = q := hd
        have hn : szForms q a = szForms l (n - l.length) := hn
        have hi : i ≤ l.length := hi
        have ha : 0 ≤ a ∧ a ≤ 1048576 := ha
        refine AW.seq ?_
        refine AW.seq ?_
        refine AW.region ?_
        refine AW.p rfl P.move ?_
        refine AW.p rfl P.move ?_
        refine AW.lenE ty33 rfl (formsD_length _) rfl (fun hl14 => ?_)
        refine AW.p rfl (P.bin rfl rfl rfl) ?_
        refine AW.opsNil ?_
        refine AW.norm [(0, .sl 5 .ro (formsD l)), (1, .v (.int .i64 a)), (5, .v (.int .i64 ((i : Nat) : Int))), (15, .v (.bool (decide (((i : Nat) : Int) < ((l.length : Nat) : Int)))))] [] st (.same rfl (.same rfl (.same rfl (.same rfl .nil)))) rfl rfl ?_
        refine AW.condP rfl (fun hc2 => ?_) (fun hc2 => ?_)
        · obtain ⟨x, r, rfl, hx, hr⟩ := drop_cons hd (by omega)
          have hm := drop_len hd hi
          refine AW.skip ?_
          refine AW.seq ?_
          refine AW.block ?_
          refine AW.seq ?_
          refine AW.region ?_
          refine AW.p rfl P.move ?_
          refine AW.p rfl P.move ?_
          refine AW.p rfl (P.indexA ty33 ty35 rfl rfl (by rw [formsD_get, hx]; rfl)) ?_
          refine AW.l rfl (L.loadRS ty35 rfl rfl rfl rfl) ?_
          refine AW.p rfl P.move ?_
          refine AW.call rfl Try.func16 rfl rfl rfl ?_
          refine ih.1 x a (by have := sz_get hx; omega) (by omega) (okForms_get hok hx) ?_
          have := szForm_leq x a (by omega)
          refine AW.p rfl P.assign ?_
          refine AW.opsNil ?_
          refine AW.seq ?_
          refine AW.region ?_
          refine AW.p rfl P.move ?_
          refine AW.p rfl (P.bin rfl rfl rfl) ?_
          refine AW.opsNil ?_
          refine AW.condP rfl (fun hc3 => ?_) (fun hc3 => ?_)
          · refine AW.seq ?_
            refine AW.region ?_
            refine AW.p rfl P.assign ?_
            refine AW.opsNil ?_
            refine AW.retE rfl rfl ?_
            exact kint (by first | (rw [← hn]; simp only [szForms]; repeat first | rw [if_neg (by omega)] | rw [if_pos (by omega)]) | (cases l <;> simp only [szForms] <;> rw [if_pos (by omega)])) hK
          · refine AW.skip ?_
            refine AW.inBlock ?_
            refine AW.region ?_
            refine AW.p rfl P.move ?_
            refine AW.p rfl (P.addN (c := i + 1) rfl rfl rfl (by omega)) ?_
            refine AW.p rfl P.assign ?_
            refine AW.opsNil ?_
            exact AW.next (r, (szForm x a), (i + 1)) (.same rfl (.same rfl (.same rfl .nil))) rfl rfl (Nat.lt_succ_self _) ⟨hr, by rw [← hn]; simp only [szForms]; rw [if_neg (by omega), if_neg (by omega)], by omega, by omega⟩
        · have hl := drop_nil hd (by omega)
          subst hl
          refine AW.exit rfl ?_
          refine AW.seq ?_
          refine AW.region ?_
          refine AW.p rfl P.move ?_
          refine AW.p rfl P.assign ?_
          refine AW.opsNil ?_
          refine AW.retE rfl rfl ?_
          exact kint (by first | (rw [← hn]; simp only [szForms]; repeat first | rw [if_neg (by omega)] | rw [if_pos (by omega)]) | (cases l <;> simp only [szForms] <;> rw [if_pos (by omega)])) hK
theorem szForm_ok : ∀ (f : Form) (n : Int), 0 ≤ n ∧ n ≤ 1048576 → okForm f → ∀ {st : St} {K : D → St → Prop}, K (.v (.int .i64 (szForm f n))) st → ACall X 16 [.agg (cForm f), .v (.int .i64 n)] st K :=
  fun f n h0 hok _ _ hK => (szForm_grp _).1 f n (Nat.lt_succ_self _) h0 hok hK
theorem szForms_ok : ∀ (l : List Form) (n : Int), 0 ≤ n ∧ n ≤ 1048576 → okForms l → ∀ {st : St} {K : D → St → Prop}, K (.v (.int .i64 (szForms l (n - l.length)))) st → ACall X 31 [.sl 5 .ro (formsD l), .v (.int .i64 n)] st K :=
  fun l n h0 hok _ _ hK => (szForm_grp _).2 l n (Nat.lt_succ_self _) h0 hok hK
theorem szCore_grp (m : Nat) : (∀ (f : Core) (n : Int), SizeOf.sizeOf f < m → 0 ≤ n ∧ n ≤ 1048576 → okCore f → ∀ {st : St} {K : D → St → Prop}, K (.v (.int .i64 (szCore f n))) st → ACall X 9 [.agg (cCore f), .v (.int .i64 n)] st K) ∧ (∀ (l : List Core) (n : Int), SizeOf.sizeOf l < m → 0 ≤ n ∧ n ≤ 1048576 → okCores l → ∀ {st : St} {K : D → St → Prop}, K (.v (.int .i64 (szCores l (n - l.length)))) st → ACall X 17 [.sl 11 .ro (coresD l), .v (.int .i64 n)] st K) := by
  induction m with
  | zero => exact ⟨by intros; omega, by intros; omega⟩
  | succ m ih =>
    refine ⟨?_, ?_⟩
    · intro f n hm h0 hok st K hK
      obtain ⟨hnm, hdt, hk⟩ := (okCore_eq f).1 hok
      refine acallE Try.func9 rfl rfl rfl (l := [(0, .agg (cCore f)), (1, .v (.int .i64 n))]) (.same rfl (.same rfl .nil)) (fun Lv hL hlv => ?_)
      refine AW.seq ?_
      refine AW.region ?_
      refine AW.box rfl rfl rfl rfl rfl ?_
      refine AW.p rfl P.assign ?_
      refine AW.opsNil ?_
      refine AW.seq ?_
      refine AW.region ?_
      refine AW.p rfl P.move ?_
      refine AW.p rfl (P.fieldAddr ty38 rfl (by decide) rfl) ?_
      refine AW.load rfl ty9 rfl rfl rfl rfl ?_
      refine AW.p rfl (P.lenS ty9 rfl) ?_
      refine AW.p rfl (P.sub rfl rfl (by omega) (by omega)) ?_
      refine AW.p rfl P.assign ?_
      refine AW.opsNil ?_
      refine AW.seq ?_
      refine AW.seq ?_
      refine AW.region ?_
      refine AW.p rfl P.move ?_
      refine AW.p rfl (P.bin rfl rfl rfl) ?_
      refine AW.opsNil ?_
      refine AW.norm [(1, .v (.int .i64 (n - ((f.name.size : Nat) : Int)))), (2, .bx (Lv, 2) 0), (11, .v (.bool (decide ((n - ((f.name.size : Nat) : Int)) < 0))))] [(2, .cells (cCore f))] st (.same rfl (.same rfl (.same rfl .nil))) rfl rfl ?_
      refine AW.condP rfl (fun hc1 => ?_) (fun hc1 => ?_)
      · refine AW.seq ?_
        refine AW.region ?_
        refine AW.p rfl P.assign ?_
        refine AW.opsNil ?_
        refine AW.retE rfl rfl ?_
        exact kint (by rw [szCore_eq]; repeat first | rw [if_neg (by omega)] | rw [if_pos (by omega)]) hK
      · refine AW.skip ?_
        refine AW.seq ?_
        refine AW.region ?_
        refine AW.p rfl (P.fieldAddr ty38 rfl (by decide) rfl) ?_
        refine AW.load rfl ty23 rfl rfl rfl rfl ?_
        refine AW.p rfl P.move ?_
        refine AW.call rfl Try.func15 rfl rfl rfl ?_
        refine szInts_ok f.ids (n - ((f.name.size : Nat) : Int)) (by omega) ?_
        have := szInts_le f.ids (n - ((f.name.size : Nat) : Int)) (by omega)
        refine AW.p rfl P.assign ?_
        refine AW.opsNil ?_
        refine AW.seq ?_
        refine AW.seq ?_
        refine AW.region ?_
        refine AW.p rfl P.move ?_
        refine AW.p rfl (P.bin rfl rfl rfl) ?_
        refine AW.opsNil ?_
        refine AW.condP rfl (fun hc2 => ?_) (fun hc2 => ?_)
        · refine AW.seq ?_
          refine AW.region ?_
          refine AW.p rfl P.assign ?_
          refine AW.opsNil ?_
          refine AW.retE rfl rfl ?_
          exact kint (by rw [szCore_eq]; repeat first | rw [if_neg (by omega)] | rw [if_pos (by omega)]) hK
        · refine AW.skip ?_
          refine AW.seq ?_
          refine AW.region ?_
          refine AW.p rfl (P.fieldAddr ty38 rfl (by decide) rfl) ?_
          refine AW.loadS rfl ty35 rfl rfl rfl rfl rfl ?_
          refine AW.p rfl P.move ?_
          refine AW.call rfl Try.func16 rfl rfl rfl ?_
          refine szForm_ok f.data (szInts f.ids (n - ((f.name.size : Nat) : Int))) (by omega) hdt ?_
          have := szForm_leq f.data (szInts f.ids (n - ((f.name.size : Nat) : Int))) (by omega)
          refine AW.p rfl P.assign ?_
          refine AW.opsNil ?_
          refine AW.norm [(1, .v (.int .i64 (szForm f.data (szInts f.ids (n - ((f.name.size : Nat) : Int)))))), (2, .bx (Lv, 2) 0)] [(2, .cells (cCore f))] st (.same rfl (.same rfl .nil)) rfl rfl ?_
          refine AW.seq ?_
          refine AW.seq ?_
          refine AW.region ?_
          refine AW.p rfl P.move ?_
          refine AW.p rfl (P.bin rfl rfl rfl) ?_
          refine AW.opsNil ?_
          refine AW.condP rfl (fun hc3 => ?_) (fun hc3 => ?_)
          · refine AW.seq ?_
            refine AW.region ?_
            refine AW.p rfl P.assign ?_
            refine AW.opsNil ?_
            refine AW.retE rfl rfl ?_
            exact kint (by rw [szCore_eq]; repeat first | rw [if_neg (by omega)] | rw [if_pos (by omega)]) hK
          · refine AW.skip ?_
            refine AW.seq ?_
            refine AW.region ?_
            refine AW.p rfl (P.fieldAddr ty38 rfl (by decide) rfl) ?_
            refine AW.load rfl ty36 rfl rfl rfl rfl ?_
            refine AW.p rfl P.move ?_
            refine AW.call rfl Try.func17 rfl rfl rfl ?_
            refine ih.2 f.kids (szForm f.data (szInts f.ids (n - ((f.name.size : Nat) : Int)))) (by have := sz_kids f; omega) (by omega) hk ?_
            refine AW.p rfl P.assign ?_
            refine AW.opsNil ?_
            refine AW.seq ?_
            refine AW.seq ?_
            refine AW.region ?_
            refine AW.p rfl P.move ?_
            refine AW.p rfl (P.bin rfl rfl rfl) ?_
            refine AW.opsNil ?_
            refine AW.condP rfl (fun hc4 => ?_) (fun hc4 => ?_)
            · refine AW.seq ?_
              refine AW.region ?_
              refine AW.p rfl P.assign ?_
              refine AW.opsNil ?_
              refine AW.retE rfl rfl ?_
              exact kint (by rw [szCore_eq]; repeat first | rw [if_neg (by omega)] | rw [if_pos (by omega)]) hK
            · refine AW.skip ?_
              refine AW.seq ?_
              refine AW.region ?_
              refine AW.p rfl P.move ?_
              refine AW.p rfl P.assign ?_
              refine AW.opsNil ?_
              refine AW.retE rfl rfl ?_
              exact kint (by rw [szCore_eq]; repeat first | rw [if_neg (by omega)] | rw [if_pos (by omega)]) hK
    · intro l n hm h0 hok st K hK
      refine acallE Try.func17 rfl rfl rfl (l := [(0, .sl 11 .ro (coresD l)), (1, .v (.int .i64 n))]) (.same rfl (.same rfl .nil)) (fun Lv hL hlv => ?_)
      refine AW.seq ?_
      refine AW.region ?_
      refine AW.p rfl P.assign ?_
      refine AW.opsNil ?_
      refine AW.seq ?_
      refine AW.region ?_
      refine AW.p rfl P.move ?_
      refine AW.p rfl P.move ?_
      refine AW.lenE ty36 rfl (coresD_length _) rfl (fun hl8 => ?_)
      refine AW.p rfl (P.sub rfl rfl (by omega) (by omega)) ?_
      refine AW.p rfl P.assign ?_
      refine AW.opsNil ?_
      refine AW.seq ?_
      refine AW.seq ?_
      refine AW.region ?_
      refine AW.p rfl P.move ?_
      refine AW.p rfl (P.bin rfl rfl rfl) ?_
      refine AW.opsNil ?_
      refine AW.condP rfl (fun hc1 => ?_) (fun hc1 => ?_)
      · refine AW.seq ?_
        refine AW.region ?_
        refine AW.p rfl P.assign ?_
        refine AW.opsNil ?_
        refine AW.retE rfl rfl ?_
        exact kint (by first | (rw [← hn]; simp only [szCores]; repeat first | rw [if_neg (by omega)] | rw [if_pos (by omega)]) | (cases l <;> simp only [szCores] <;> rw [if_pos (by omega)])) hK
      · refine AW.skip ?_
        refine AW.seq ?_
        refine AW.seq ?_
        refine AW.region ?_
        refine AW.p rfl P.assign ?_
        refine AW.opsNil ?_
        refine AW.block ?_
        refine AW.loopE (ι := List Core × Int × Nat) (fun ⟨q, a, i⟩ => [(0, .sl 11 .ro (coresD l)), (1, .v (.int .i64 a)), (5, .v (.int .i64 ((i : Nat) : Int)))]) (fun ⟨q, a, i⟩ => []) (fun ⟨q, a, i⟩ => st) (fun ⟨q, a, i⟩ => l.drop i = q ∧ szCores q a = szCores l (n - l.length) ∧ i ≤ l.length ∧ 0 ≤ a ∧ a ≤ 1048576) (fun ⟨q, a, i⟩ => q.length) (l, (n - l.length), 0) (.same rfl (.same rfl (.same rfl .nil))) rfl rfl ⟨rfl, rfl, Nat.zero_le _, by omega⟩ ?_
        intro ⟨q, a, i⟩ ⟨hd, hn, hi, ha⟩
        show AW _ _ (_ :: .goal _ :: _) _ (mkEnv [(0, .sl 11 .ro (coresD l)), (1, .v (.int .i64 a)), (5, .v (.int .i64 ((i : Nat) : Int)))]) (mkFr [] :: st)
        have hd : l.drop i = q := hd
        have hn : szCores q a = szCores l (n - l.length) := hn
        have hi : i ≤ l.length := hi
        have ha : 0 ≤ a ∧ a ≤ 1048576 := ha
        refine AW.seq ?_
        refine AW.seq ?_
        refine AW.region ?_
        refine AW.p rfl P.move ?_
        refine AW.p rfl P.move ?_
        refine AW.lenE ty36 rfl (coresD_length _) rfl (fun hl14 => ?_)
        refine AW.p rfl (P.bin rfl rfl rfl) ?_
        refine AW.opsNil ?_
        refine AW.norm [(0, .sl 11 .ro (coresD l)), (1, .v (.int .i64 a)), (5, .v (.int .i64 ((i : Nat) : Int))), (15, .v (.bool (decide (((i : Nat) : Int) < ((l.length : Nat) : Int)))))] [] st (.same rfl (.same rfl (.same rfl (.same rfl .nil)))) rfl rfl ?_
        refine AW.condP rfl (fun hc2 => ?_) (fun hc2 => ?_)
        · obtain ⟨x, r, rfl, hx, hr⟩ := drop_cons hd (by omega)
          have hm := drop_len hd hi
          refine AW.skip ?_
          refine AW.seq ?_
          refine AW.block ?_
          refine AW.seq ?_
          refine AW.region ?_
          refine AW.p rfl P.move ?_
          refine AW.p rfl P.move ?_
          refine AW.p rfl (P.indexA ty36 ty38 rfl rfl (by rw [coresD_get, hx]; rfl)) ?_
          refine AW.l rfl (L.loadRS ty38 rfl rfl rfl rfl) ?_
          refine AW.p rfl P.move ?_
          refine AW.call rfl Try.func9 rfl rfl rfl ?_
          refine ih.1 x a (by have := sz_get hx; omega) (by omega) (okCores_get hok hx) ?_
          have := szCore_leq x a (by omega)
          refine AW.p rfl P.assign ?_
          refine AW.opsNil ?_
          refine AW.seq ?_
          refine AW.region ?_
          refine AW.p rfl P.move ?_
          refine AW.p rfl (P.bin rfl rfl rfl) ?_
          refine AW.opsNil ?_
          refine AW.condP rfl (fun hc3 => ?_) (fun hc3 => ?_)
          · refine AW.seq ?_
            refine AW.region ?_
            refine AW.p rfl P.assign ?_
            refine AW.opsNil ?_
            refine AW.retE rfl rfl ?_
            exact kint (by first | (rw [← hn]; simp only [szCores]; repeat first | rw [if_neg (by omega)] | rw [if_pos (by omega)]) | (cases l <;> simp only [szCores] <;> rw [if_pos (by omega)])) hK
          · refine AW.skip ?_
            refine AW.inBlock ?_
            refine AW.region ?_
            refine AW.p rfl P.move ?_
            refine AW.p rfl (P.addN (c := i + 1) rfl rfl rfl (by omega)) ?_
            refine AW.p rfl P.assign ?_
            refine AW.opsNil ?_
            exact AW.next (r, (szCore x a), (i + 1)) (.same rfl (.same rfl (.same rfl .nil))) rfl rfl (Nat.lt_succ_self _) ⟨hr, by rw [← hn]; simp only [szCores]; rw [if_neg (by omega), if_neg (by omega)], by omega, by omega⟩
        · have hl := drop_nil hd (by omega)
          subst hl
          refine AW.exit rfl ?_
          refine AW.seq ?_
          refine AW.region ?_
          refine AW.p rfl P.move ?_
          refine AW.p rfl P.assign ?_
          refine AW.opsNil ?_
          refine AW.retE rfl rfl ?_
          exact kint (by first | (rw [← hn]; simp only [szCores]; repeat first | rw [if_neg (by omega)] | rw [if_pos (by omega)]) | (cases l <;> simp only [szCores] <;> rw [if_pos (by omega)])) hK
theorem szCore_ok : ∀ (f : Core) (n : Int), 0 ≤ n ∧ n ≤ 1048576 → okCore f → ∀ {st : St} {K : D → St → Prop}, K (.v (.int .i64 (szCore f n))) st → ACall X 9 [.agg (cCore f), .v (.int .i64 n)] st K :=
  fun f n h0 hok _ _ hK => (szCore_grp _).1 f n (Nat.lt_succ_self _) h0 hok hK
theorem szCores_ok : ∀ (l : List Core) (n : Int), 0 ≤ n ∧ n ≤ 1048576 → okCores l → ∀ {st : St} {K : D → St → Prop}, K (.v (.int .i64 (szCores l (n - l.length)))) st → ACall X 17 [.sl 11 .ro (coresD l), .v (.int .i64 n)] st K :=
  fun l n h0 hok _ _ hK => (szCore_grp _).2 l n (Nat.lt_succ_self _) h0 hok hK
theorem toInts_ok : ∀ (l : List Int), l.length ≤ 1048576 → ∀ {st : St} {K : D → St → Prop}, K (.sl 1 .full (intsD l)) st → ACall X 18 [.sl 1 .ro (intsD l)] st K := by
  intro l hb st K hK
  refine acallE Try.func18 rfl rfl rfl (l := [(0, .sl 1 .ro (intsD l))]) (.same rfl .nil) (fun Lv hL hlv => ?_)
  refine AW.seq ?_
  refine AW.region ?_
  refine AW.p rfl (P.assignNil (sz := 1)) ?_
  refine AW.opsNil ?_
  refine AW.seq ?_
  refine AW.region ?_
  refine AW.p rfl P.move ?_
  refine AW.lenE ty23 rfl (intsD_length _) rfl (fun hl6 => ?_)
  refine AW.makeSlice rfl ty23 ty3 tz3 rfl (.v .nil) rfl rfl rfl (by omega) (by omega) rfl rfl ?_
  refine AW.p rfl P.assign ?_
  refine AW.opsNil ?_
  refine AW.seq ?_
  refine AW.seq ?_
  refine AW.region ?_
  refine AW.p rfl P.assign ?_
  refine AW.opsNil ?_
  refine AW.block ?_
  refine AW.loopE (ι := Nat) (fun i => [(0, .sl 1 .ro (intsD l)), (3, .sb (Lv, 7) l.length), (4, .v (.int .i64 ((i : Nat) : Int)))]) (fun i => [(7, .cells (List.flatten (rows cInt [.v (.int .i64 0)] l i)))]) (fun i => st) (fun i => i ≤ l.length) (fun i => l.length - i) 0 (.same rfl (.same rfl (.same rfl .nil))) rfl rfl (Nat.zero_le _) ?_
  intro i hi
  show AW _ _ (_ :: .goal _ :: _) _ (mkEnv [(0, .sl 1 .ro (intsD l)), (3, .sb (Lv, 7) l.length), (4, .v (.int .i64 ((i : Nat) : Int)))]) (mkFr [(7, .cells (List.flatten (rows cInt [.v (.int .i64 0)] l i)))] :: st)
  have hi : i ≤ l.length := hi
  refine AW.seq ?_
  refine AW.seq ?_
  refine AW.region ?_
  refine AW.p rfl P.move ?_
  refine AW.p rfl P.move ?_
  refine AW.lenE ty23 rfl (intsD_length _) rfl (fun hl10 => ?_)
  refine AW.p rfl (P.bin rfl rfl rfl) ?_
  refine AW.opsNil ?_
  refine AW.norm [(0, .sl 1 .ro (intsD l)), (3, .sb (Lv, 7) l.length), (4, .v (.int .i64 ((i : Nat) : Int))), (11, .v (.bool (decide (((i : Nat) : Int) < ((l.length : Nat) : Int)))))] [(7, .cells (List.flatten (rows cInt [.v (.int .i64 0)] l i)))] st (.same rfl (.same rfl (.same rfl (.same rfl .nil)))) rfl rfl ?_
  refine AW.condP rfl (fun hc1 => ?_) (fun hc1 => ?_)
  · obtain ⟨x, hx⟩ := pL_some (xs := l) (i := i) (by omega)
    refine AW.skip ?_
    refine AW.seq ?_
    refine AW.block ?_
    refine AW.region ?_
    refine AW.p rfl P.move ?_
    refine AW.p rfl P.move ?_
    refine AW.p rfl P.move ?_
    refine AW.p rfl P.move ?_
    refine AW.p rfl (P.indexA ty23 ty3 rfl rfl (by rw [intsD_get, hx]; rfl)) ?_
    refine AW.l rfl (L.loadR ty3 rfl rfl rfl) ?_
    refine AW.p rfl (P.indexAddrB ty23 ty3 rfl rfl (by omega)) ?_
    refine AW.storeE ty3 rfl rfl rfl rfl rfl rfl rfl (rows_sz (fun _ => rfl) rfl) (by rw [rows_len (by omega)]; omega) (rows_set hx) rfl ?_
    refine AW.opsNil ?_
    refine AW.inBlock ?_
    refine AW.region ?_
    refine AW.p rfl P.move ?_
    refine AW.p rfl (P.addN (c := i + 1) rfl rfl rfl (by omega)) ?_
    refine AW.p rfl P.assign ?_
    refine AW.opsNil ?_
    exact AW.next (i + 1) (.same rfl (.same rfl (.same rfl .nil))) rfl rfl (by show _ - (i + 1) < _ - i; omega) (by omega)
  · refine AW.exit rfl ?_
    refine AW.seq ?_
    refine AW.region ?_
    refine AW.p rfl P.move ?_
    refine AW.p rfl P.assign ?_
    refine AW.opsNil ?_
    refine AW.freezeE (l := []) 7 (v := 2) (sz := 1) (xs := intsD l) rfl (congrArg (fun x => some (AObj.cells (List.flatten x))) (rows_end (f := cInt) (xs := l) (by omega))) (intsD_length _) (intsD_sz _) .nil rfl (by simp) rfl rfl ?_
    refine AW.retE rfl (by show D.all _ (.sl 1 .full (intsD l)) = true; simp [D.all, Tok.all]) ?_
    exact hK
theorem toForm_grp (m : Nat) : (∀ (f : Form), SizeOf.sizeOf f < m → bdForm f → ∀ {st : St} {K : D → St → Prop}, K (.agg (cForm f)) st → ACall X 19 [.agg (cForm f)] st K) ∧ (∀ (l : List Form), SizeOf.sizeOf l < m → l.length ≤ 1048576 ∧ bdForms l → ∀ {st : St} {K : D → St → Prop}, K (.sl 5 .full (formsD l)) st → ACall X 32 [.sl 5 .ro (formsD l)] st K) := by
  induction m with
  | zero => exact ⟨by intros; omega, by intros; omega⟩
  | succ m ih =>
    refine ⟨?_, ?_⟩
    · intro f hm hb st K hK
      obtain ⟨hsc, hkl, hk⟩ := (bdForm_eq f).1 hb
      refine acallE Try.func19 rfl rfl rfl (l := [(0, .agg (cForm f))]) (.same rfl .nil) (fun Lv hL hlv => ?_)
      refine AW.seq ?_
      refine AW.region ?_
      refine AW.box rfl rfl rfl rfl rfl ?_
      refine AW.alloc rfl tz26 (.v (.v (.v (.sl (sz := 1) (.sl (sz := 5) .nil))))) rfl rfl rfl ?_
      refine AW.opsNil ?_
      refine AW.seq ?_
      refine AW.region ?_
      refine AW.alloc rfl tz26 (.v (.v (.v (.sl (sz := 1) (.sl (sz := 5) .nil))))) rfl rfl rfl ?_
      refine AW.opsNil ?_
      refine AW.seq ?_
      refine AW.region ?_
      refine AW.p rfl (P.fieldAddr ty35 rfl (by decide) rfl) ?_
      refine AW.load rfl ty3 rfl rfl rfl rfl ?_
      refine AW.p rfl (P.fieldAddr ty26 rfl (by decide) rfl) ?_
      refine AW.store ty3 rfl rfl rfl rfl rfl rfl rfl rfl rfl rfl ?_
      refine AW.opsNil ?_
      refine AW.norm [(1, .bx (Lv, 1) 0), (2, .bx (Lv, 2) 0), (3, .bx (Lv, 3) 0)] [(1, .cells (cForm f)), (2, .cells [.v (.int .i64 0), .v (.string ⟨#[]⟩), .v (.int .i64 0), .sl 1 .full (intsD []), .sl 5 .full (formsD [])]), (3, .cells [.v (.int .i64 f.kind), .v (.string ⟨#[]⟩), .v (.int .i64 0), .sl 1 .full (intsD []), .sl 5 .full (formsD [])])] st (.same rfl (.same rfl (.same rfl .nil))) rfl rfl ?_
      refine AW.seq ?_
      refine AW.region ?_
      refine AW.p rfl (P.fieldAddr ty35 rfl (by decide) rfl) ?_
      refine AW.load rfl ty9 rfl rfl rfl rfl ?_
      refine AW.p rfl (P.fieldAddr ty26 rfl (by decide) rfl) ?_
      refine AW.store ty9 rfl rfl rfl rfl rfl rfl rfl rfl rfl rfl ?_
      refine AW.opsNil ?_
      refine AW.norm [(1, .bx (Lv, 1) 0), (2, .bx (Lv, 2) 0), (3, .bx (Lv, 3) 0)] [(1, .cells (cForm f)), (2, .cells [.v (.int .i64 0), .v (.string ⟨#[]⟩), .v (.int .i64 0), .sl 1 .full (intsD []), .sl 5 .full (formsD [])]), (3, .cells [.v (.int .i64 f.kind), .v (.string f.name), .v (.int .i64 0), .sl 1 .full (intsD []), .sl 5 .full (formsD [])])] st (.same rfl (.same rfl (.same rfl .nil))) rfl rfl ?_
      refine AW.seq ?_
      refine AW.region ?_
      refine AW.p rfl (P.fieldAddr ty35 rfl (by decide) rfl) ?_
      refine AW.load rfl ty3 rfl rfl rfl rfl ?_
      refine AW.p rfl (P.fieldAddr ty26 rfl (by decide) rfl) ?_
      refine AW.store ty3 rfl rfl rfl rfl rfl rfl rfl rfl rfl rfl ?_
      refine AW.opsNil ?_
      refine AW.norm [(1, .bx (Lv, 1) 0), (2, .bx (Lv, 2) 0), (3, .bx (Lv, 3) 0)] [(1, .cells (cForm f)), (2, .cells [.v (.int .i64 0), .v (.string ⟨#[]⟩), .v (.int .i64 0), .sl 1 .full (intsD []), .sl 5 .full (formsD [])]), (3, .cells [.v (.int .i64 f.kind), .v (.string f.name), .v (.int .i64 f.n), .sl 1 .full (intsD []), .sl 5 .full (formsD [])])] st (.same rfl (.same rfl (.same rfl .nil))) rfl rfl ?_
      refine AW.seq ?_
      refine AW.region ?_
      refine AW.p rfl (P.fieldAddr ty35 rfl (by decide) rfl) ?_
      refine AW.load rfl ty23 rfl rfl rfl rfl ?_
      refine AW.call rfl Try.func18 rfl rfl rfl ?_
      refine toInts_ok f.scopes hsc ?_
      refine AW.p rfl (P.fieldAddr ty26 rfl (by decide) rfl) ?_
      refine AW.store ty23 rfl rfl rfl rfl rfl rfl rfl rfl rfl rfl ?_
      refine AW.opsNil ?_
      refine AW.norm [(1, .bx (Lv, 1) 0), (2, .bx (Lv, 2) 0), (3, .bx (Lv, 3) 0)] [(1, .cells (cForm f)), (2, .cells [.v (.int .i64 0), .v (.string ⟨#[]⟩), .v (.int .i64 0), .sl 1 .full (intsD []), .sl 5 .full (formsD [])]), (3, .cells [.v (.int .i64 f.kind), .v (.string f.name), .v (.int .i64 f.n), .sl 1 .full (intsD f.scopes), .sl 5 .full (formsD [])])] st (.same rfl (.same rfl (.same rfl .nil))) rfl rfl ?_
      refine AW.seq ?_
      refine AW.region ?_
      refine AW.p rfl (P.fieldAddr ty35 rfl (by decide) rfl) ?_
      refine AW.load rfl ty33 rfl rfl rfl rfl ?_
      refine AW.call rfl Try.func32 rfl rfl rfl ?_
      refine ih.2 f.kids (by have := sz_fkids f; omega) ⟨hkl, hk⟩ ?_
      refine AW.p rfl (P.fieldAddr ty26 rfl (by decide) rfl) ?_
      refine AW.store ty24 rfl rfl rfl rfl rfl rfl rfl rfl rfl rfl ?_
      refine AW.opsNil ?_
      refine AW.norm [(2, .bx (Lv, 2) 0), (3, .bx (Lv, 3) 0)] [(1, .cells (cForm f)), (2, .cells [.v (.int .i64 0), .v (.string ⟨#[]⟩), .v (.int .i64 0), .sl 1 .full (intsD []), .sl 5 .full (formsD [])]), (3, .cells [.v (.int .i64 f.kind), .v (.string f.name), .v (.int .i64 f.n), .sl 1 .full (intsD f.scopes), .sl 5 .full (formsD f.kids)])] st (.same rfl (.same rfl .nil)) rfl rfl ?_
      refine AW.seq ?_
      refine AW.region ?_
      refine AW.loadS rfl ty26 rfl rfl rfl rfl rfl ?_
      refine AW.store ty26 rfl rfl rfl rfl rfl rfl rfl rfl rfl rfl ?_
      refine AW.opsNil ?_
      refine AW.retRE (l := [.cell 2 26]) rfl (fun _ hL hf => .cS hL hf ty26 rfl (by rfl) (by rfl) (by rfl) .nil) (ds := [.agg [.v (.int .i64 f.kind), .v (.string f.name), .v (.int .i64 f.n), .sl 1 .full (intsD f.scopes), .sl 5 .full (formsD f.kids)]]) (d' := .agg (cForm f)) (Wk.fog rfl) (by simp [D.all]) ?_
      exact hK
    · intro l hm hb st K hK
      obtain ⟨hlen, hb⟩ := hb
      refine acallE Try.func32 rfl rfl rfl (l := [(0, .sl 5 .ro (formsD l))]) (.same rfl .nil) (fun Lv hL hlv => ?_)
      refine AW.seq ?_
      refine AW.region ?_
      refine AW.p rfl (P.assignNil (sz := 5)) ?_
      refine AW.opsNil ?_
      refine AW.seq ?_
      refine AW.region ?_
      refine AW.p rfl P.move ?_
      refine AW.lenE ty33 rfl (formsD_length _) rfl (fun hl6 => ?_)
      refine AW.makeSlice rfl ty24 ty26 tz26 rfl (.v (.v (.v (.sl (sz := 1) (.sl (sz := 5) .nil))))) rfl rfl rfl (by omega) (by omega) rfl rfl ?_
      refine AW.p rfl P.assign ?_
      refine AW.opsNil ?_
      refine AW.seq ?_
      refine AW.seq ?_
      refine AW.region ?_
      refine AW.p rfl P.assign ?_
      refine AW.opsNil ?_
      refine AW.block ?_
      refine AW.loopE (ι := Nat) (fun i => [(0, .sl 5 .ro (formsD l)), (3, .sb (Lv, 7) l.length), (4, .v (.int .i64 ((i : Nat) : Int)))]) (fun i => [(7, .cells (List.flatten (rows cForm [.v (.int .i64 0), .v (.string ⟨#[]⟩), .v (.int .i64 0), .sl 1 .full [], .sl 5 .full []] l i)))]) (fun i => st) (fun i => i ≤ l.length) (fun i => l.length - i) 0 (.same rfl (.same rfl (.same rfl .nil))) rfl rfl (Nat.zero_le _) ?_
      intro i hi
      show AW _ _ (_ :: .goal _ :: _) _ (mkEnv [(0, .sl 5 .ro (formsD l)), (3, .sb (Lv, 7) l.length), (4, .v (.int .i64 ((i : Nat) : Int)))]) (mkFr [(7, .cells (List.flatten (rows cForm [.v (.int .i64 0), .v (.string ⟨#[]⟩), .v (.int .i64 0), .sl 1 .full [], .sl 5 .full []] l i)))] :: st)
      have hi : i ≤ l.length := hi
      refine AW.seq ?_
      refine AW.seq ?_
      refine AW.region ?_
      refine AW.p rfl P.move ?_
      refine AW.p rfl P.move ?_
      refine AW.lenE ty33 rfl (formsD_length _) rfl (fun hl10 => ?_)
      refine AW.p rfl (P.bin rfl rfl rfl) ?_
      refine AW.opsNil ?_
      refine AW.norm [(0, .sl 5 .ro (formsD l)), (3, .sb (Lv, 7) l.length), (4, .v (.int .i64 ((i : Nat) : Int))), (11, .v (.bool (decide (((i : Nat) : Int) < ((l.length : Nat) : Int)))))] [(7, .cells (List.flatten (rows cForm [.v (.int .i64 0), .v (.string ⟨#[]⟩), .v (.int .i64 0), .sl 1 .full [], .sl 5 .full []] l i)))] st (.same rfl (.same rfl (.same rfl (.same rfl .nil)))) rfl rfl ?_
      refine AW.condP rfl (fun hc1 => ?_) (fun hc1 => ?_)
      · obtain ⟨x, hx⟩ := pL_some (xs := l) (i := i) (by omega)
        refine AW.skip ?_
        refine AW.seq ?_
        refine AW.block ?_
        refine AW.region ?_
        refine AW.p rfl P.move ?_
        refine AW.p rfl P.move ?_
        refine AW.p rfl P.move ?_
        refine AW.p rfl P.move ?_
        refine AW.p rfl (P.indexA ty33 ty35 rfl rfl (by rw [formsD_get, hx]; rfl)) ?_
        refine AW.l rfl (L.loadRS ty35 rfl rfl rfl rfl) ?_
        refine AW.call rfl Try.func19 rfl rfl rfl ?_
        refine ih.1 x (by have := sz_get hx; omega) (bdForms_get hb hx) ?_
        refine AW.p rfl (P.indexAddrB ty24 ty26 rfl rfl (by omega)) ?_
        refine AW.storeE ty26 rfl rfl rfl rfl rfl rfl rfl (rows_sz (fun _ => rfl) rfl) (by rw [rows_len (by omega)]; omega) (rows_set hx) rfl ?_
        refine AW.opsNil ?_
        refine AW.inBlock ?_
        refine AW.region ?_
        refine AW.p rfl P.move ?_
        refine AW.p rfl (P.addN (c := i + 1) rfl rfl rfl (by omega)) ?_
        refine AW.p rfl P.assign ?_
        refine AW.opsNil ?_
        exact AW.next (i + 1) (.same rfl (.same rfl (.same rfl .nil))) rfl rfl (by show _ - (i + 1) < _ - i; omega) (by omega)
      · refine AW.exit rfl ?_
        refine AW.seq ?_
        refine AW.region ?_
        refine AW.p rfl P.move ?_
        refine AW.p rfl P.assign ?_
        refine AW.opsNil ?_
        refine AW.freezeE (l := []) 7 (v := 2) (sz := 5) (xs := formsD l) rfl (congrArg (fun x => some (AObj.cells (List.flatten x))) ((rows_end (f := cForm) (xs := l) (by omega)).trans (formsD_eq l).symm)) (formsD_length _) (formsD_sz _) .nil rfl (by simp) rfl rfl ?_
        refine AW.retE rfl (by show D.all _ (.sl 5 .full (formsD l)) = true; simp [D.all, Tok.all]) ?_
        exact hK
theorem toForm_ok : ∀ (f : Form), bdForm f → ∀ {st : St} {K : D → St → Prop}, K (.agg (cForm f)) st → ACall X 19 [.agg (cForm f)] st K :=
  fun f hb _ _ hK => (toForm_grp _).1 f (Nat.lt_succ_self _) hb hK
theorem toForms_ok : ∀ (l : List Form), l.length ≤ 1048576 ∧ bdForms l → ∀ {st : St} {K : D → St → Prop}, K (.sl 5 .full (formsD l)) st → ACall X 32 [.sl 5 .ro (formsD l)] st K :=
  fun l hb _ _ hK => (toForm_grp _).2 l (Nat.lt_succ_self _) hb hK
theorem toCore_grp (m : Nat) : (∀ (f : Core), SizeOf.sizeOf f < m → bdCore f → ∀ {st : St} {K : D → St → Prop}, K (.agg (cCore f)) st → ACall X 10 [.agg (cCore f)] st K) ∧ (∀ (l : List Core), SizeOf.sizeOf l < m → l.length ≤ 1048576 ∧ bdCores l → ∀ {st : St} {K : D → St → Prop}, K (.sl 11 .full (coresD l)) st → ACall X 20 [.sl 11 .ro (coresD l)] st K) := by
  induction m with
  | zero => exact ⟨by intros; omega, by intros; omega⟩
  | succ m ih =>
    refine ⟨?_, ?_⟩
    · intro f hm hb st K hK
      obtain ⟨hsc, hdt, hkl, hk⟩ := (bdCore_eq f).1 hb
      refine acallE Try.func10 rfl rfl rfl (l := [(0, .agg (cCore f))]) (.same rfl .nil) (fun Lv hL hlv => ?_)
      refine AW.seq ?_
      refine AW.region ?_
      refine AW.box rfl rfl rfl rfl rfl ?_
      refine AW.alloc rfl tz29 (.v (.v (.v (.v (.sl (sz := 1) (.v (.v (.v (.sl (sz := 1) (.sl (sz := 5) (.sl (sz := 11) .nil))))))))))) rfl rfl rfl ?_
      refine AW.opsNil ?_
      refine AW.seq ?_
      refine AW.region ?_
      refine AW.alloc rfl tz29 (.v (.v (.v (.v (.sl (sz := 1) (.v (.v (.v (.sl (sz := 1) (.sl (sz := 5) (.sl (sz := 11) .nil))))))))))) rfl rfl rfl ?_
      refine AW.opsNil ?_
      refine AW.seq ?_
      refine AW.region ?_
      refine AW.p rfl (P.fieldAddr ty38 rfl (by decide) rfl) ?_
      refine AW.load rfl ty3 rfl rfl rfl rfl ?_
      refine AW.p rfl (P.fieldAddr ty29 rfl (by decide) rfl) ?_
      refine AW.store ty3 rfl rfl rfl rfl rfl rfl rfl rfl rfl rfl ?_
      refine AW.opsNil ?_
      refine AW.norm [(1, .bx (Lv, 1) 0), (2, .bx (Lv, 2) 0), (3, .bx (Lv, 3) 0)] [(1, .cells (cCore f)), (2, .cells [.v (.int .i64 0), .v (.int .i64 0), .v (.string ⟨#[]⟩), .v (.int .i64 0), .sl 1 .full (intsD []), .v (.int .i64 0), .v (.string ⟨#[]⟩), .v (.int .i64 0), .sl 1 .full (intsD []), .sl 5 .full (formsD []), .sl 11 .full (coresD [])]), (3, .cells [.v (.int .i64 f.kind), .v (.int .i64 0), .v (.string ⟨#[]⟩), .v (.int .i64 0), .sl 1 .full (intsD []), .v (.int .i64 0), .v (.string ⟨#[]⟩), .v (.int .i64 0), .sl 1 .full (intsD []), .sl 5 .full (formsD []), .sl 11 .full (coresD [])])] st (.same rfl (.same rfl (.same rfl .nil))) rfl rfl ?_
      refine AW.seq ?_
      refine AW.region ?_
      refine AW.p rfl (P.fieldAddr ty38 rfl (by decide) rfl) ?_
      refine AW.load rfl ty3 rfl rfl rfl rfl ?_
      refine AW.p rfl (P.fieldAddr ty29 rfl (by decide) rfl) ?_
      refine AW.store ty3 rfl rfl rfl rfl rfl rfl rfl rfl rfl rfl ?_
      refine AW.opsNil ?_
      refine AW.norm [(1, .bx (Lv, 1) 0), (2, .bx (Lv, 2) 0), (3, .bx (Lv, 3) 0)] [(1, .cells (cCore f)), (2, .cells [.v (.int .i64 0), .v (.int .i64 0), .v (.string ⟨#[]⟩), .v (.int .i64 0), .sl 1 .full (intsD []), .v (.int .i64 0), .v (.string ⟨#[]⟩), .v (.int .i64 0), .sl 1 .full (intsD []), .sl 5 .full (formsD []), .sl 11 .full (coresD [])]), (3, .cells [.v (.int .i64 f.kind), .v (.int .i64 f.id), .v (.string ⟨#[]⟩), .v (.int .i64 0), .sl 1 .full (intsD []), .v (.int .i64 0), .v (.string ⟨#[]⟩), .v (.int .i64 0), .sl 1 .full (intsD []), .sl 5 .full (formsD []), .sl 11 .full (coresD [])])] st (.same rfl (.same rfl (.same rfl .nil))) rfl rfl ?_
      refine AW.seq ?_
      refine AW.region ?_
      refine AW.p rfl (P.fieldAddr ty38 rfl (by decide) rfl) ?_
      refine AW.load rfl ty9 rfl rfl rfl rfl ?_
      refine AW.p rfl (P.fieldAddr ty29 rfl (by decide) rfl) ?_
      refine AW.store ty9 rfl rfl rfl rfl rfl rfl rfl rfl rfl rfl ?_
      refine AW.opsNil ?_
      refine AW.norm [(1, .bx (Lv, 1) 0), (2, .bx (Lv, 2) 0), (3, .bx (Lv, 3) 0)] [(1, .cells (cCore f)), (2, .cells [.v (.int .i64 0), .v (.int .i64 0), .v (.string ⟨#[]⟩), .v (.int .i64 0), .sl 1 .full (intsD []), .v (.int .i64 0), .v (.string ⟨#[]⟩), .v (.int .i64 0), .sl 1 .full (intsD []), .sl 5 .full (formsD []), .sl 11 .full (coresD [])]), (3, .cells [.v (.int .i64 f.kind), .v (.int .i64 f.id), .v (.string f.name), .v (.int .i64 0), .sl 1 .full (intsD []), .v (.int .i64 0), .v (.string ⟨#[]⟩), .v (.int .i64 0), .sl 1 .full (intsD []), .sl 5 .full (formsD []), .sl 11 .full (coresD [])])] st (.same rfl (.same rfl (.same rfl .nil))) rfl rfl ?_
      refine AW.seq ?_
      refine AW.region ?_
      refine AW.p rfl (P.fieldAddr ty38 rfl (by decide) rfl) ?_
      refine AW.load rfl ty3 rfl rfl rfl rfl ?_
      refine AW.p rfl (P.fieldAddr ty29 rfl (by decide) rfl) ?_
      refine AW.store ty3 rfl rfl rfl rfl rfl rfl rfl rfl rfl rfl ?_
      refine AW.opsNil ?_
      refine AW.norm [(1, .bx (Lv, 1) 0), (2, .bx (Lv, 2) 0), (3, .bx (Lv, 3) 0)] [(1, .cells (cCore f)), (2, .cells [.v (.int .i64 0), .v (.int .i64 0), .v (.string ⟨#[]⟩), .v (.int .i64 0), .sl 1 .full (intsD []), .v (.int .i64 0), .v (.string ⟨#[]⟩), .v (.int .i64 0), .sl 1 .full (intsD []), .sl 5 .full (formsD []), .sl 11 .full (coresD [])]), (3, .cells [.v (.int .i64 f.kind), .v (.int .i64 f.id), .v (.string f.name), .v (.int .i64 f.n), .sl 1 .full (intsD []), .v (.int .i64 0), .v (.string ⟨#[]⟩), .v (.int .i64 0), .sl 1 .full (intsD []), .sl 5 .full (formsD []), .sl 11 .full (coresD [])])] st (.same rfl (.same rfl (.same rfl .nil))) rfl rfl ?_
      refine AW.seq ?_
      refine AW.region ?_
      refine AW.p rfl (P.fieldAddr ty38 rfl (by decide) rfl) ?_
      refine AW.load rfl ty23 rfl rfl rfl rfl ?_
      refine AW.call rfl Try.func18 rfl rfl rfl ?_
      refine toInts_ok f.ids hsc ?_
      refine AW.p rfl (P.fieldAddr ty29 rfl (by decide) rfl) ?_
      refine AW.store ty23 rfl rfl rfl rfl rfl rfl rfl rfl rfl rfl ?_
      refine AW.opsNil ?_
      refine AW.norm [(1, .bx (Lv, 1) 0), (2, .bx (Lv, 2) 0), (3, .bx (Lv, 3) 0)] [(1, .cells (cCore f)), (2, .cells [.v (.int .i64 0), .v (.int .i64 0), .v (.string ⟨#[]⟩), .v (.int .i64 0), .sl 1 .full (intsD []), .v (.int .i64 0), .v (.string ⟨#[]⟩), .v (.int .i64 0), .sl 1 .full (intsD []), .sl 5 .full (formsD []), .sl 11 .full (coresD [])]), (3, .cells [.v (.int .i64 f.kind), .v (.int .i64 f.id), .v (.string f.name), .v (.int .i64 f.n), .sl 1 .full (intsD f.ids), .v (.int .i64 0), .v (.string ⟨#[]⟩), .v (.int .i64 0), .sl 1 .full (intsD []), .sl 5 .full (formsD []), .sl 11 .full (coresD [])])] st (.same rfl (.same rfl (.same rfl .nil))) rfl rfl ?_
      refine AW.seq ?_
      refine AW.region ?_
      refine AW.p rfl (P.fieldAddr ty38 rfl (by decide) rfl) ?_
      refine AW.loadS rfl ty35 rfl rfl rfl rfl rfl ?_
      refine AW.call rfl Try.func19 rfl rfl rfl ?_
      refine toForm_ok f.data hdt ?_
      refine AW.p rfl (P.fieldAddr ty29 rfl (by decide) rfl) ?_
      refine AW.store ty26 rfl rfl rfl rfl rfl rfl rfl rfl rfl rfl ?_
      refine AW.opsNil ?_
      refine AW.norm [(1, .bx (Lv, 1) 0), (2, .bx (Lv, 2) 0), (3, .bx (Lv, 3) 0)] [(1, .cells (cCore f)), (2, .cells [.v (.int .i64 0), .v (.int .i64 0), .v (.string ⟨#[]⟩), .v (.int .i64 0), .sl 1 .full (intsD []), .v (.int .i64 0), .v (.string ⟨#[]⟩), .v (.int .i64 0), .sl 1 .full (intsD []), .sl 5 .full (formsD []), .sl 11 .full (coresD [])]), (3, .cells [.v (.int .i64 f.kind), .v (.int .i64 f.id), .v (.string f.name), .v (.int .i64 f.n), .sl 1 .full (intsD f.ids), .v (.int .i64 f.data.kind), .v (.string f.data.name), .v (.int .i64 f.data.n), .sl 1 .ro (intsD f.data.scopes), .sl 5 .ro (formsD f.data.kids), .sl 11 .full (coresD [])])] st (.same rfl (.same rfl (.same rfl .nil))) rfl rfl ?_
      refine AW.seq ?_
      refine AW.region ?_
      refine AW.p rfl (P.fieldAddr ty38 rfl (by decide) rfl) ?_
      refine AW.load rfl ty36 rfl rfl rfl rfl ?_
      refine AW.call rfl Try.func20 rfl rfl rfl ?_
      refine ih.2 f.kids (by have := sz_kids f; omega) ⟨hkl, hk⟩ ?_
      refine AW.p rfl (P.fieldAddr ty29 rfl (by decide) rfl) ?_
      refine AW.store ty27 rfl rfl rfl rfl rfl rfl rfl rfl rfl rfl ?_
      refine AW.opsNil ?_
      refine AW.norm [(2, .bx (Lv, 2) 0), (3, .bx (Lv, 3) 0)] [(1, .cells (cCore f)), (2, .cells [.v (.int .i64 0), .v (.int .i64 0), .v (.string ⟨#[]⟩), .v (.int .i64 0), .sl 1 .full (intsD []), .v (.int .i64 0), .v (.string ⟨#[]⟩), .v (.int .i64 0), .sl 1 .full (intsD []), .sl 5 .full (formsD []), .sl 11 .full (coresD [])]), (3, .cells [.v (.int .i64 f.kind), .v (.int .i64 f.id), .v (.string f.name), .v (.int .i64 f.n), .sl 1 .full (intsD f.ids), .v (.int .i64 f.data.kind), .v (.string f.data.name), .v (.int .i64 f.data.n), .sl 1 .ro (intsD f.data.scopes), .sl 5 .ro (formsD f.data.kids), .sl 11 .full (coresD f.kids)])] st (.same rfl (.same rfl .nil)) rfl rfl ?_
      refine AW.seq ?_
      refine AW.region ?_
      refine AW.loadS rfl ty29 rfl rfl rfl rfl rfl ?_
      refine AW.store ty29 rfl rfl rfl rfl rfl rfl rfl rfl rfl rfl ?_
      refine AW.opsNil ?_
      refine AW.retRE (l := [.cell 2 29]) rfl (fun _ hL hf => .cS hL hf ty29 rfl (by rfl) (by rfl) (by rfl) .nil) (ds := [.agg [.v (.int .i64 f.kind), .v (.int .i64 f.id), .v (.string f.name), .v (.int .i64 f.n), .sl 1 .full (intsD f.ids), .v (.int .i64 f.data.kind), .v (.string f.data.name), .v (.int .i64 f.data.n), .sl 1 .ro (intsD f.data.scopes), .sl 5 .ro (formsD f.data.kids), .sl 11 .full (coresD f.kids)]]) (d' := .agg (cCore f)) (Wk.fog rfl) (by simp [D.all]) ?_
      exact hK
    · intro l hm hb st K hK
      obtain ⟨hlen, hb⟩ := hb
      refine acallE Try.func20 rfl rfl rfl (l := [(0, .sl 11 .ro (coresD l))]) (.same rfl .nil) (fun Lv hL hlv => ?_)
      refine AW.seq ?_
      refine AW.region ?_
      refine AW.p rfl (P.assignNil (sz := 11)) ?_
      refine AW.opsNil ?_
      refine AW.seq ?_
      refine AW.region ?_
      refine AW.p rfl P.move ?_
      refine AW.lenE ty36 rfl (coresD_length _) rfl (fun hl6 => ?_)
      refine AW.makeSlice rfl ty27 ty29 tz29 rfl (.v (.v (.v (.v (.sl (sz := 1) (.v (.v (.v (.sl (sz := 1) (.sl (sz := 5) (.sl (sz := 11) .nil))))))))))) rfl rfl rfl (by omega) (by omega) rfl rfl ?_
      refine AW.p rfl P.assign ?_
      refine AW.opsNil ?_
      refine AW.seq ?_
      refine AW.seq ?_
      refine AW.region ?_
      refine AW.p rfl P.assign ?_
      refine AW.opsNil ?_
      refine AW.block ?_
      refine AW.loopE (ι := Nat) (fun i => [(0, .sl 11 .ro (coresD l)), (3, .sb (Lv, 7) l.length), (4, .v (.int .i64 ((i : Nat) : Int)))]) (fun i => [(7, .cells (List.flatten (rows cCore [.v (.int .i64 0), .v (.int .i64 0), .v (.string ⟨#[]⟩), .v (.int .i64 0), .sl 1 .full [], .v (.int .i64 0), .v (.string ⟨#[]⟩), .v (.int .i64 0), .sl 1 .full [], .sl 5 .full [], .sl 11 .full []] l i)))]) (fun i => st) (fun i => i ≤ l.length) (fun i => l.length - i) 0 (.same rfl (.same rfl (.same rfl .nil))) rfl rfl (Nat.zero_le _) ?_
      intro i hi
      show AW _ _ (_ :: .goal _ :: _) _ (mkEnv [(0, .sl 11 .ro (coresD l)), (3, .sb (Lv, 7) l.length), (4, .v (.int .i64 ((i : Nat) : Int)))]) (mkFr [(7, .cells (List.flatten (rows cCore [.v (.int .i64 0), .v (.int .i64 0), .v (.string ⟨#[]⟩), .v (.int .i64 0), .sl 1 .full [], .v (.int .i64 0), .v (.string ⟨#[]⟩), .v (.int .i64 0), .sl 1 .full [], .sl 5 .full [], .sl 11 .full []] l i)))] :: st)
      have hi : i ≤ l.length := hi
      refine AW.seq ?_
      refine AW.seq ?_
      refine AW.region ?_
      refine AW.p rfl P.move ?_
      refine AW.p rfl P.move ?_
      refine AW.lenE ty36 rfl (coresD_length _) rfl (fun hl10 => ?_)
      refine AW.p rfl (P.bin rfl rfl rfl) ?_
      refine AW.opsNil ?_
      refine AW.norm [(0, .sl 11 .ro (coresD l)), (3, .sb (Lv, 7) l.length), (4, .v (.int .i64 ((i : Nat) : Int))), (11, .v (.bool (decide (((i : Nat) : Int) < ((l.length : Nat) : Int)))))] [(7, .cells (List.flatten (rows cCore [.v (.int .i64 0), .v (.int .i64 0), .v (.string ⟨#[]⟩), .v (.int .i64 0), .sl 1 .full [], .v (.int .i64 0), .v (.string ⟨#[]⟩), .v (.int .i64 0), .sl 1 .full [], .sl 5 .full [], .sl 11 .full []] l i)))] st (.same rfl (.same rfl (.same rfl (.same rfl .nil)))) rfl rfl ?_
      refine AW.condP rfl (fun hc1 => ?_) (fun hc1 => ?_)
      · obtain ⟨x, hx⟩ := pL_some (xs := l) (i := i) (by omega)
        refine AW.skip ?_
        refine AW.seq ?_
        refine AW.block ?_
        refine AW.region ?_
        refine AW.p rfl P.move ?_
        refine AW.p rfl P.move ?_
        refine AW.p rfl P.move ?_
        refine AW.p rfl P.move ?_
        refine AW.p rfl (P.indexA ty36 ty38 rfl rfl (by rw [coresD_get, hx]; rfl)) ?_
        refine AW.l rfl (L.loadRS ty38 rfl rfl rfl rfl) ?_
        refine AW.call rfl Try.func10 rfl rfl rfl ?_
        refine ih.1 x (by have := sz_get hx; omega) (bdCores_get hb hx) ?_
        refine AW.p rfl (P.indexAddrB ty27 ty29 rfl rfl (by omega)) ?_
        refine AW.storeE ty29 rfl rfl rfl rfl rfl rfl rfl (rows_sz (fun _ => rfl) rfl) (by rw [rows_len (by omega)]; omega) (rows_set hx) rfl ?_
        refine AW.opsNil ?_
        refine AW.inBlock ?_
        refine AW.region ?_
        refine AW.p rfl P.move ?_
        refine AW.p rfl (P.addN (c := i + 1) rfl rfl rfl (by omega)) ?_
        refine AW.p rfl P.assign ?_
        refine AW.opsNil ?_
        exact AW.next (i + 1) (.same rfl (.same rfl (.same rfl .nil))) rfl rfl (by show _ - (i + 1) < _ - i; omega) (by omega)
      · refine AW.exit rfl ?_
        refine AW.seq ?_
        refine AW.region ?_
        refine AW.p rfl P.move ?_
        refine AW.p rfl P.assign ?_
        refine AW.opsNil ?_
        refine AW.freezeE (l := []) 7 (v := 2) (sz := 11) (xs := coresD l) rfl (congrArg (fun x => some (AObj.cells (List.flatten x))) ((rows_end (f := cCore) (xs := l) (by omega)).trans (coresD_eq l).symm)) (coresD_length _) (coresD_sz _) .nil rfl (by simp) rfl rfl ?_
        refine AW.retE rfl (by show D.all _ (.sl 11 .full (coresD l)) = true; simp [D.all, Tok.all]) ?_
        exact hK
theorem toCore_ok : ∀ (f : Core), bdCore f → ∀ {st : St} {K : D → St → Prop}, K (.agg (cCore f)) st → ACall X 10 [.agg (cCore f)] st K :=
  fun f hb _ _ hK => (toCore_grp _).1 f (Nat.lt_succ_self _) hb hK
theorem toCores_ok : ∀ (l : List Core), l.length ≤ 1048576 ∧ bdCores l → ∀ {st : St} {K : D → St → Prop}, K (.sl 11 .full (coresD l)) st → ACall X 20 [.sl 11 .ro (coresD l)] st K :=
  fun l hb _ _ hK => (toCore_grp _).2 l (Nat.lt_succ_self _) hb hK
theorem eqInts_ok : ∀ (a : List Int) (b : List Int), ∀ {st : St} {K : D → St → Prop}, K (.v (.bool (eqInts a b))) st → ACall X 21 [.sl 1 .ro (intsD a), .sl 1 .ro (intsD b)] st K := by
  intro a b st K hK
  refine acallE Try.func21 rfl rfl rfl (l := [(0, .sl 1 .ro (intsD a)), (1, .sl 1 .ro (intsD b))]) (.same rfl (.same rfl .nil)) (fun Lv hL hlv => ?_)
  refine AW.seq ?_
  refine AW.region ?_
  refine AW.p rfl P.assign ?_
  refine AW.opsNil ?_
  refine AW.seq ?_
  refine AW.seq ?_
  refine AW.region ?_
  refine AW.p rfl P.move ?_
  refine AW.lenE ty23 rfl (intsD_length _) rfl (fun hl7 => ?_)
  refine AW.p rfl P.move ?_
  refine AW.lenE ty23 rfl (intsD_length _) rfl (fun hl9 => ?_)
  refine AW.p rfl (P.neI rfl rfl) ?_
  refine AW.opsNil ?_
  refine AW.condP rfl (fun hc1 => ?_) (fun hc1 => ?_)
  · refine AW.seq ?_
    refine AW.region ?_
    refine AW.p rfl P.assign ?_
    refine AW.opsNil ?_
    refine AW.retE rfl rfl ?_
    exact kbool (by first | (rw [← hn]; simp_all [eqInts_cons]; done) | exact eqInts_len (by omega) | (rw [← hn]; rfl)) hK
  · refine AW.skip ?_
    refine AW.seq ?_
    refine AW.seq ?_
    refine AW.region ?_
    refine AW.p rfl P.assign ?_
    refine AW.opsNil ?_
    refine AW.block ?_
    refine AW.loopE (ι := List Int × List Int × Nat) (fun ⟨l, l2, i⟩ => [(0, .sl 1 .ro (intsD a)), (1, .sl 1 .ro (intsD b)), (5, .v (.int .i64 ((i : Nat) : Int)))]) (fun ⟨l, l2, i⟩ => []) (fun ⟨l, l2, i⟩ => st) (fun ⟨l, l2, i⟩ => a.drop i = l ∧ b.drop i = l2 ∧ eqInts l l2 = eqInts a b ∧ i ≤ a.length) (fun ⟨l, l2, i⟩ => l.length) (a, b, 0) (.same rfl (.same rfl (.same rfl .nil))) rfl rfl ⟨rfl, rfl, rfl, Nat.zero_le _⟩ ?_
    intro ⟨l, l2, i⟩ ⟨hd, hd2, hn, hi⟩
    show AW _ _ (_ :: .goal _ :: _) _ (mkEnv [(0, .sl 1 .ro (intsD a)), (1, .sl 1 .ro (intsD b)), (5, .v (.int .i64 ((i : Nat) : Int)))]) (mkFr [] :: st)
    have hd : a.drop i = l := hd
    have hd2 : b.drop i = l2 := hd2
    have hn : eqInts l l2 = eqInts a b := hn
    have hi : i ≤ a.length := hi
    refine AW.seq ?_
    refine AW.seq ?_
    refine AW.region ?_
    refine AW.p rfl P.move ?_
    refine AW.p rfl P.move ?_
    refine AW.lenE ty23 rfl (intsD_length _) rfl (fun hl13 => ?_)
    refine AW.p rfl (P.bin rfl rfl rfl) ?_
    refine AW.opsNil ?_
    refine AW.norm [(0, .sl 1 .ro (intsD a)), (1, .sl 1 .ro (intsD b)), (5, .v (.int .i64 ((i : Nat) : Int))), (14, .v (.bool (decide (((i : Nat) : Int) < ((a.length : Nat) : Int)))))] [] st (.same rfl (.same rfl (.same rfl (.same rfl .nil)))) rfl rfl ?_
    refine AW.condP rfl (fun hc2 => ?_) (fun hc2 => ?_)
    · obtain ⟨x, r, rfl, hx, hr⟩ := drop_cons hd (by omega)
      obtain ⟨y, r2, rfl, hy, hr2⟩ := drop_cons hd2 (by omega)
      refine AW.skip ?_
      refine AW.seq ?_
      refine AW.block ?_
      refine AW.seq ?_
      refine AW.regionD mixed rfl ?_
      refine AH.p 0 (listed' := #[true, false, false, false, false, false, false, false, false]) rfl (by kernel_rfl) (by kernel_rfl) (by kernel_rfl) rfl rfl P.move ?_
      refine AH.p 1 (listed' := #[true, true, false, false, false, false, false, false, false]) rfl (by kernel_rfl) (by kernel_rfl) (by kernel_rfl) rfl rfl P.move ?_
      refine AH.p 2 (listed' := #[true, true, true, false, false, false, false, false, false]) rfl (by kernel_rfl) (by kernel_rfl) (by kernel_rfl) rfl rfl (P.indexA ty23 ty3 rfl rfl (by rw [intsD_get, hx]; rfl)) ?_
      refine AH.loadR 3 (listed' := #[true, true, true, true, false, false, false, false, false]) rfl (by kernel_rfl) (by kernel_rfl) (by kernel_rfl) rfl rfl ty3 rfl rfl rfl ?_
      refine AH.p 4 (listed' := #[true, true, true, true, true, false, false, false, false]) rfl (by kernel_rfl) (by kernel_rfl) (by kernel_rfl) rfl rfl P.move ?_
      refine AH.p 5 (listed' := #[true, true, true, true, true, true, false, false, false]) rfl (by kernel_rfl) (by kernel_rfl) (by kernel_rfl) rfl rfl P.move ?_
      refine AH.p 6 (listed' := #[true, true, true, true, true, true, true, false, false]) rfl (by kernel_rfl) (by kernel_rfl) (by kernel_rfl) rfl rfl (P.indexA ty23 ty3 rfl rfl (by rw [intsD_get, hy]; rfl)) ?_
      refine AH.loadR 7 (listed' := #[true, true, true, true, true, true, true, true, false]) rfl (by kernel_rfl) (by kernel_rfl) (by kernel_rfl) rfl rfl ty3 rfl rfl rfl ?_
      refine AH.p 8 (listed' := #[true, true, true, true, true, true, true, true, true]) rfl (by kernel_rfl) (by kernel_rfl) (by kernel_rfl) rfl rfl (P.neI rfl rfl) ?_
      refine AH.done (by kernel_rfl) ?_
      refine AW.condP rfl (fun hc3 => ?_) (fun hc3 => ?_)
      · refine AW.seq ?_
        refine AW.region ?_
        refine AW.p rfl P.assign ?_
        refine AW.opsNil ?_
        refine AW.retE rfl rfl ?_
        exact kbool (by first | (rw [← hn]; simp_all [eqInts_cons]; done) | exact eqInts_len (by omega) | (rw [← hn]; rfl)) hK
      · refine AW.skip ?_
        refine AW.inBlock ?_
        refine AW.region ?_
        refine AW.p rfl P.move ?_
        refine AW.p rfl (P.addN (c := i + 1) rfl rfl rfl (by omega)) ?_
        refine AW.p rfl P.assign ?_
        refine AW.opsNil ?_
        exact AW.next (r, r2, (i + 1)) (.same rfl (.same rfl (.same rfl .nil))) rfl rfl (Nat.lt_succ_self _) ⟨hr, hr2, by rw [← hn]; simp_all [eqInts_cons], by omega⟩
    · have hl := drop_nil hd (by omega)
      have hl2 := drop_nil hd2 (by omega)
      subst hl
      subst hl2
      refine AW.exit rfl ?_
      refine AW.seq ?_
      refine AW.region ?_
      refine AW.p rfl P.assign ?_
      refine AW.opsNil ?_
      refine AW.retE rfl rfl ?_
      exact kbool (by first | (rw [← hn]; simp_all [eqInts_cons]; done) | exact eqInts_len (by omega) | (rw [← hn]; rfl)) hK
theorem eqForm_grp (m : Nat) : (∀ (a : Form) (b : Form), SizeOf.sizeOf a < m → ∀ {st : St} {K : D → St → Prop}, K (.v (.bool (eqForm a b))) st → ACall X 22 [.agg (cForm a), .agg (cForm b)] st K) ∧ (∀ (a : List Form) (b : List Form), SizeOf.sizeOf a < m → ∀ {st : St} {K : D → St → Prop}, K (.v (.bool (eqForms a b))) st → ACall X 33 [.sl 5 .ro (formsD a), .sl 5 .ro (formsD b)] st K) := by
  induction m with
  | zero => exact ⟨by intros; omega, by intros; omega⟩
  | succ m ih =>
    refine ⟨?_, ?_⟩
    · intro a b hm st K hK
      refine acallE Try.func22 rfl rfl rfl (l := [(0, .agg (cForm a)), (1, .agg (cForm b))]) (.same rfl (.same rfl .nil)) (fun Lv hL hlv => ?_)
      refine AW.seq ?_
      refine AW.region ?_
      refine AW.box rfl rfl rfl rfl rfl ?_
      refine AW.box rfl rfl rfl rfl rfl ?_
      refine AW.p rfl P.assign ?_
      refine AW.opsNil ?_
      refine AW.seq ?_
      refine AW.seq ?_
      refine AW.region ?_
      refine AW.p rfl (P.fieldAddr ty26 rfl (by decide) rfl) ?_
      refine AW.load rfl ty3 rfl rfl rfl rfl ?_
      refine AW.p rfl (P.fieldAddr ty26 rfl (by decide) rfl) ?_
      refine AW.load rfl ty3 rfl rfl rfl rfl ?_
      refine AW.p rfl (P.neI rfl rfl) ?_
      refine AW.opsNil ?_
      refine AW.condP rfl (fun hc1 => ?_) (fun hc1 => ?_)
      · refine AW.seq ?_
        refine AW.region ?_
        refine AW.p rfl P.assign ?_
        refine AW.opsNil ?_
        refine AW.retE rfl rfl ?_
        exact kbool (by rw [eqForm_eq]; simp_all) hK
      · refine AW.skip ?_
        refine AW.seq ?_
        refine AW.seq ?_
        refine AW.region ?_
        refine AW.p rfl (P.fieldAddr ty26 rfl (by decide) rfl) ?_
        refine AW.load rfl ty9 rfl rfl rfl rfl ?_
        refine AW.p rfl (P.fieldAddr ty26 rfl (by decide) rfl) ?_
        refine AW.load rfl ty9 rfl rfl rfl rfl ?_
        refine AW.p rfl (P.neS rfl rfl) ?_
        refine AW.opsNil ?_
        refine AW.norm [(2, .bx (Lv, 2) 0), (3, .bx (Lv, 3) 0), (14, .v (.bool (decide (¬ a.name = b.name))))] [(2, .cells (cForm a)), (3, .cells (cForm b))] st (.same rfl (.same rfl (.same rfl .nil))) rfl rfl ?_
        refine AW.condP rfl (fun hc2 => ?_) (fun hc2 => ?_)
        · refine AW.seq ?_
          refine AW.region ?_
          refine AW.p rfl P.assign ?_
          refine AW.opsNil ?_
          refine AW.retE rfl rfl ?_
          exact kbool (by rw [eqForm_eq]; simp_all) hK
        · refine AW.skip ?_
          refine AW.seq ?_
          refine AW.seq ?_
          refine AW.region ?_
          refine AW.p rfl (P.fieldAddr ty26 rfl (by decide) rfl) ?_
          refine AW.load rfl ty3 rfl rfl rfl rfl ?_
          refine AW.p rfl (P.fieldAddr ty26 rfl (by decide) rfl) ?_
          refine AW.load rfl ty3 rfl rfl rfl rfl ?_
          refine AW.p rfl (P.neI rfl rfl) ?_
          refine AW.opsNil ?_
          refine AW.condP rfl (fun hc3 => ?_) (fun hc3 => ?_)
          · refine AW.seq ?_
            refine AW.region ?_
            refine AW.p rfl P.assign ?_
            refine AW.opsNil ?_
            refine AW.retE rfl rfl ?_
            exact kbool (by rw [eqForm_eq]; simp_all) hK
          · refine AW.skip ?_
            refine AW.seq ?_
            refine AW.seq ?_
            refine AW.region ?_
            refine AW.p rfl (P.fieldAddr ty26 rfl (by decide) rfl) ?_
            refine AW.load rfl ty23 rfl rfl rfl rfl ?_
            refine AW.p rfl (P.fieldAddr ty26 rfl (by decide) rfl) ?_
            refine AW.load rfl ty23 rfl rfl rfl rfl ?_
            refine AW.call rfl Try.func21 rfl rfl rfl ?_
            refine eqInts_ok a.scopes b.scopes  ?_
            refine AW.p rfl (P.not rfl) ?_
            refine AW.opsNil ?_
            refine AW.norm [(2, .bx (Lv, 2) 0), (3, .bx (Lv, 3) 0), (25, .v (.bool (!(eqInts a.scopes b.scopes))))] [(2, .cells (cForm a)), (3, .cells (cForm b))] st (.same rfl (.same rfl (.same rfl .nil))) rfl rfl ?_
            refine AW.cond rfl (fun hc4 => ?_) (fun hc4 => ?_)
            · refine AW.seq ?_
              refine AW.region ?_
              refine AW.p rfl P.assign ?_
              refine AW.opsNil ?_
              refine AW.retE rfl rfl ?_
              exact kbool (by rw [eqForm_eq]; simp_all) hK
            · refine AW.skip ?_
              refine AW.seq ?_
              refine AW.seq ?_
              refine AW.region ?_
              refine AW.p rfl (P.fieldAddr ty26 rfl (by decide) rfl) ?_
              refine AW.load rfl ty24 rfl rfl rfl rfl ?_
              refine AW.p rfl (P.fieldAddr ty26 rfl (by decide) rfl) ?_
              refine AW.load rfl ty24 rfl rfl rfl rfl ?_
              refine AW.call rfl Try.func33 rfl rfl rfl ?_
              refine ih.2 a.kids b.kids (by have := sz_fkids a; omega)  ?_
              refine AW.p rfl (P.not rfl) ?_
              refine AW.opsNil ?_
              refine AW.cond rfl (fun hc5 => ?_) (fun hc5 => ?_)
              · refine AW.seq ?_
                refine AW.region ?_
                refine AW.p rfl P.assign ?_
                refine AW.opsNil ?_
                refine AW.retE rfl rfl ?_
                exact kbool (by rw [eqForm_eq]; simp_all) hK
              · refine AW.skip ?_
                refine AW.seq ?_
                refine AW.region ?_
                refine AW.p rfl P.assign ?_
                refine AW.opsNil ?_
                refine AW.retE rfl rfl ?_
                exact kbool (by rw [eqForm_eq]; simp_all) hK
    · intro a b hm st K hK
      refine acallE Try.func33 rfl rfl rfl (l := [(0, .sl 5 .ro (formsD a)), (1, .sl 5 .ro (formsD b))]) (.same rfl (.same rfl .nil)) (fun Lv hL hlv => ?_)
      refine AW.seq ?_
      refine AW.region ?_
      refine AW.p rfl P.assign ?_
      refine AW.opsNil ?_
      refine AW.seq ?_
      refine AW.seq ?_
      refine AW.region ?_
      refine AW.p rfl P.move ?_
      refine AW.lenE ty24 rfl (formsD_length _) rfl (fun hl7 => ?_)
      refine AW.p rfl P.move ?_
      refine AW.lenE ty24 rfl (formsD_length _) rfl (fun hl9 => ?_)
      refine AW.p rfl (P.neI rfl rfl) ?_
      refine AW.opsNil ?_
      refine AW.condP rfl (fun hc1 => ?_) (fun hc1 => ?_)
      · refine AW.seq ?_
        refine AW.region ?_
        refine AW.p rfl P.assign ?_
        refine AW.opsNil ?_
        refine AW.retE rfl rfl ?_
        exact kbool (by first | (rw [← hn]; simp_all [eqForms]; done) | exact eqForms_len (by omega) | (rw [← hn]; rfl)) hK
      · refine AW.skip ?_
        refine AW.seq ?_
        refine AW.seq ?_
        refine AW.region ?_
        refine AW.p rfl P.assign ?_
        refine AW.opsNil ?_
        refine AW.block ?_
        refine AW.loopE (ι := List Form × List Form × Nat) (fun ⟨l, l2, i⟩ => [(0, .sl 5 .ro (formsD a)), (1, .sl 5 .ro (formsD b)), (5, .v (.int .i64 ((i : Nat) : Int)))]) (fun ⟨l, l2, i⟩ => []) (fun ⟨l, l2, i⟩ => st) (fun ⟨l, l2, i⟩ => a.drop i = l ∧ b.drop i = l2 ∧ eqForms l l2 = eqForms a b ∧ i ≤ a.length) (fun ⟨l, l2, i⟩ => l.length) (a, b, 0) (.same rfl (.same rfl (.same rfl .nil))) rfl rfl ⟨rfl, rfl, rfl, Nat.zero_le _⟩ ?_
        intro ⟨l, l2, i⟩ ⟨hd, hd2, hn, hi⟩
        show AW _ _ (_ :: .goal _ :: _) _ (mkEnv [(0, .sl 5 .ro (formsD a)), (1, .sl 5 .ro (formsD b)), (5, .v (.int .i64 ((i : Nat) : Int)))]) (mkFr [] :: st)
        have hd : a.drop i = l := hd
        have hd2 : b.drop i = l2 := hd2
        have hn : eqForms l l2 = eqForms a b := hn
        have hi : i ≤ a.length := hi
        refine AW.seq ?_
        refine AW.seq ?_
        refine AW.region ?_
        refine AW.p rfl P.move ?_
        refine AW.p rfl P.move ?_
        refine AW.lenE ty24 rfl (formsD_length _) rfl (fun hl13 => ?_)
        refine AW.p rfl (P.bin rfl rfl rfl) ?_
        refine AW.opsNil ?_
        refine AW.norm [(0, .sl 5 .ro (formsD a)), (1, .sl 5 .ro (formsD b)), (5, .v (.int .i64 ((i : Nat) : Int))), (14, .v (.bool (decide (((i : Nat) : Int) < ((a.length : Nat) : Int)))))] [] st (.same rfl (.same rfl (.same rfl (.same rfl .nil)))) rfl rfl ?_
        refine AW.condP rfl (fun hc2 => ?_) (fun hc2 => ?_)
        · obtain ⟨x, r, rfl, hx, hr⟩ := drop_cons hd (by omega)
          obtain ⟨y, r2, rfl, hy, hr2⟩ := drop_cons hd2 (by omega)
          refine AW.skip ?_
          refine AW.seq ?_
          refine AW.block ?_
          refine AW.seq ?_
          refine AW.regionD mixed rfl ?_
          refine AH.p 0 (listed' := #[true, false, false, false, false, false, false, false, false, false]) rfl (by kernel_rfl) (by kernel_rfl) (by kernel_rfl) rfl rfl P.move ?_
          refine AH.p 1 (listed' := #[true, true, false, false, false, false, false, false, false, false]) rfl (by kernel_rfl) (by kernel_rfl) (by kernel_rfl) rfl rfl P.move ?_
          refine AH.p 2 (listed' := #[true, true, true, false, false, false, false, false, false, false]) rfl (by kernel_rfl) (by kernel_rfl) (by kernel_rfl) rfl rfl (P.indexA ty24 ty26 rfl rfl (by rw [formsD_get, hx]; rfl)) ?_
          refine AH.loadRS 3 (listed' := #[true, true, true, true, false, false, false, false, false, false]) rfl (by kernel_rfl) (by kernel_rfl) (by kernel_rfl) rfl rfl ty26 rfl rfl rfl rfl ?_
          refine AH.p 4 (listed' := #[true, true, true, true, true, false, false, false, false, false]) rfl (by kernel_rfl) (by kernel_rfl) (by kernel_rfl) rfl rfl P.move ?_
          refine AH.p 5 (listed' := #[true, true, true, true, true, true, false, false, false, false]) rfl (by kernel_rfl) (by kernel_rfl) (by kernel_rfl) rfl rfl P.move ?_
          refine AH.p 6 (listed' := #[true, true, true, true, true, true, true, false, false, false]) rfl (by kernel_rfl) (by kernel_rfl) (by kernel_rfl) rfl rfl (P.indexA ty24 ty26 rfl rfl (by rw [formsD_get, hy]; rfl)) ?_
          refine AH.loadRS 7 (listed' := #[true, true, true, true, true, true, true, true, false, false]) rfl (by kernel_rfl) (by kernel_rfl) (by kernel_rfl) rfl rfl ty26 rfl rfl rfl rfl ?_
          refine AH.all (rs := [8]) (by kernel_rfl) (by decide) ?_
          refine ⟨?_, trivial⟩
          · refine AO.callE (listed' := #[true, true, true, true, true, true, true, true, true, false]) rfl rfl rfl Try.func22 rfl rfl (ds := [.agg (cForm x), .agg (cForm y)]) rfl (by simp [allL, D.all, Tok.all, allLL]) ?_
            refine ih.1 x y (by have := sz_get hx; have := sz_get hy; omega)  ?_
            refine frame_same (Q := fun fr1 st1 => AH _ _ _ _ _ _ _ _ fr1 st1) ?_
            refine AH.p 9 (listed' := #[true, true, true, true, true, true, true, true, true, true]) rfl (by kernel_rfl) (by kernel_rfl) (by kernel_rfl) rfl rfl (P.not rfl) ?_
            refine AH.done (by kernel_rfl) ?_
            refine AW.cond rfl (fun hc3 => ?_) (fun hc3 => ?_)
            · refine AW.seq ?_
              refine AW.region ?_
              refine AW.p rfl P.assign ?_
              refine AW.opsNil ?_
              refine AW.retE rfl rfl ?_
              exact kbool (by first | (rw [← hn]; simp_all [eqForms]; done) | exact eqForms_len (by omega) | (rw [← hn]; rfl)) hK
            · refine AW.skip ?_
              refine AW.inBlock ?_
              refine AW.region ?_
              refine AW.p rfl P.move ?_
              refine AW.p rfl (P.addN (c := i + 1) rfl rfl rfl (by omega)) ?_
              refine AW.p rfl P.assign ?_
              refine AW.opsNil ?_
              exact AW.next (r, r2, (i + 1)) (.same rfl (.same rfl (.same rfl .nil))) rfl rfl (Nat.lt_succ_self _) ⟨hr, hr2, by rw [← hn]; simp_all [eqForms], by omega⟩
        · have hl := drop_nil hd (by omega)
          have hl2 := drop_nil hd2 (by omega)
          subst hl
          subst hl2
          refine AW.exit rfl ?_
          refine AW.seq ?_
          refine AW.region ?_
          refine AW.p rfl P.assign ?_
          refine AW.opsNil ?_
          refine AW.retE rfl rfl ?_
          exact kbool (by first | (rw [← hn]; simp_all [eqForms]; done) | exact eqForms_len (by omega) | (rw [← hn]; rfl)) hK
theorem eqForm_ok : ∀ (a : Form) (b : Form), ∀ {st : St} {K : D → St → Prop}, K (.v (.bool (eqForm a b))) st → ACall X 22 [.agg (cForm a), .agg (cForm b)] st K :=
  fun a b _ _ hK => (eqForm_grp _).1 a b (Nat.lt_succ_self _)  hK
theorem eqForms_ok : ∀ (a : List Form) (b : List Form), ∀ {st : St} {K : D → St → Prop}, K (.v (.bool (eqForms a b))) st → ACall X 33 [.sl 5 .ro (formsD a), .sl 5 .ro (formsD b)] st K :=
  fun a b _ _ hK => (eqForm_grp _).2 a b (Nat.lt_succ_self _)  hK
theorem eqCore_grp (m : Nat) : (∀ (a : Core) (b : Core), SizeOf.sizeOf a < m → ∀ {st : St} {K : D → St → Prop}, K (.v (.bool (eqCore a b))) st → ACall X 11 [.agg (cCore a), .agg (cCore b)] st K) ∧ (∀ (a : List Core) (b : List Core), SizeOf.sizeOf a < m → ∀ {st : St} {K : D → St → Prop}, K (.v (.bool (eqCores a b))) st → ACall X 23 [.sl 11 .ro (coresD a), .sl 11 .ro (coresD b)] st K) := by
  induction m with
  | zero => exact ⟨by intros; omega, by intros; omega⟩
  | succ m ih =>
    refine ⟨?_, ?_⟩
    · intro a b hm st K hK
      refine acallE Try.func11 rfl rfl rfl (l := [(0, .agg (cCore a)), (1, .agg (cCore b))]) (.same rfl (.same rfl .nil)) (fun Lv hL hlv => ?_)
      refine AW.seq ?_
      refine AW.region ?_
      refine AW.box rfl rfl rfl rfl rfl ?_
      refine AW.box rfl rfl rfl rfl rfl ?_
      refine AW.p rfl P.assign ?_
      refine AW.opsNil ?_
      refine AW.seq ?_
      refine AW.seq ?_
      refine AW.region ?_
      refine AW.p rfl (P.fieldAddr ty29 rfl (by decide) rfl) ?_
      refine AW.load rfl ty3 rfl rfl rfl rfl ?_
      refine AW.p rfl (P.fieldAddr ty29 rfl (by decide) rfl) ?_
      refine AW.load rfl ty3 rfl rfl rfl rfl ?_
      refine AW.p rfl (P.neI rfl rfl) ?_
      refine AW.opsNil ?_
      refine AW.condP rfl (fun hc1 => ?_) (fun hc1 => ?_)
      · refine AW.seq ?_
        refine AW.region ?_
        refine AW.p rfl P.assign ?_
        refine AW.opsNil ?_
        refine AW.retE rfl rfl ?_
        exact kbool (by rw [eqCore_eq]; simp_all) hK
      · refine AW.skip ?_
        refine AW.seq ?_
        refine AW.seq ?_
        refine AW.region ?_
        refine AW.p rfl (P.fieldAddr ty29 rfl (by decide) rfl) ?_
        refine AW.load rfl ty3 rfl rfl rfl rfl ?_
        refine AW.p rfl (P.fieldAddr ty29 rfl (by decide) rfl) ?_
        refine AW.load rfl ty3 rfl rfl rfl rfl ?_
        refine AW.p rfl (P.neI rfl rfl) ?_
        refine AW.opsNil ?_
        refine AW.norm [(2, .bx (Lv, 2) 0), (3, .bx (Lv, 3) 0), (14, .v (.bool (decide (¬ a.id = b.id))))] [(2, .cells (cCore a)), (3, .cells (cCore b))] st (.same rfl (.same rfl (.same rfl .nil))) rfl rfl ?_
        refine AW.condP rfl (fun hc2 => ?_) (fun hc2 => ?_)
        · refine AW.seq ?_
          refine AW.region ?_
          refine AW.p rfl P.assign ?_
          refine AW.opsNil ?_
          refine AW.retE rfl rfl ?_
          exact kbool (by rw [eqCore_eq]; simp_all) hK
        · refine AW.skip ?_
          refine AW.seq ?_
          refine AW.seq ?_
          refine AW.region ?_
          refine AW.p rfl (P.fieldAddr ty29 rfl (by decide) rfl) ?_
          refine AW.load rfl ty9 rfl rfl rfl rfl ?_
          refine AW.p rfl (P.fieldAddr ty29 rfl (by decide) rfl) ?_
          refine AW.load rfl ty9 rfl rfl rfl rfl ?_
          refine AW.p rfl (P.neS rfl rfl) ?_
          refine AW.opsNil ?_
          refine AW.condP rfl (fun hc3 => ?_) (fun hc3 => ?_)
          · refine AW.seq ?_
            refine AW.region ?_
            refine AW.p rfl P.assign ?_
            refine AW.opsNil ?_
            refine AW.retE rfl rfl ?_
            exact kbool (by rw [eqCore_eq]; simp_all) hK
          · refine AW.skip ?_
            refine AW.seq ?_
            refine AW.seq ?_
            refine AW.region ?_
            refine AW.p rfl (P.fieldAddr ty29 rfl (by decide) rfl) ?_
            refine AW.load rfl ty3 rfl rfl rfl rfl ?_
            refine AW.p rfl (P.fieldAddr ty29 rfl (by decide) rfl) ?_
            refine AW.load rfl ty3 rfl rfl rfl rfl ?_
            refine AW.p rfl (P.neI rfl rfl) ?_
            refine AW.opsNil ?_
            refine AW.norm [(2, .bx (Lv, 2) 0), (3, .bx (Lv, 3) 0), (24, .v (.bool (decide (¬ a.n = b.n))))] [(2, .cells (cCore a)), (3, .cells (cCore b))] st (.same rfl (.same rfl (.same rfl .nil))) rfl rfl ?_
            refine AW.condP rfl (fun hc4 => ?_) (fun hc4 => ?_)
            · refine AW.seq ?_
              refine AW.region ?_
              refine AW.p rfl P.assign ?_
              refine AW.opsNil ?_
              refine AW.retE rfl rfl ?_
              exact kbool (by rw [eqCore_eq]; simp_all) hK
            · refine AW.skip ?_
              refine AW.seq ?_
              refine AW.seq ?_
              refine AW.region ?_
              refine AW.p rfl (P.fieldAddr ty29 rfl (by decide) rfl) ?_
              refine AW.load rfl ty23 rfl rfl rfl rfl ?_
              refine AW.p rfl (P.fieldAddr ty29 rfl (by decide) rfl) ?_
              refine AW.load rfl ty23 rfl rfl rfl rfl ?_
              refine AW.call rfl Try.func21 rfl rfl rfl ?_
              refine eqInts_ok a.ids b.ids  ?_
              refine AW.p rfl (P.not rfl) ?_
              refine AW.opsNil ?_
              refine AW.cond rfl (fun hc5 => ?_) (fun hc5 => ?_)
              · refine AW.seq ?_
                refine AW.region ?_
                refine AW.p rfl P.assign ?_
                refine AW.opsNil ?_
                refine AW.retE rfl rfl ?_
                exact kbool (by rw [eqCore_eq]; simp_all) hK
              · refine AW.skip ?_
                refine AW.seq ?_
                refine AW.seq ?_
                refine AW.region ?_
                refine AW.p rfl (P.fieldAddr ty29 rfl (by decide) rfl) ?_
                refine AW.loadS rfl ty26 rfl rfl rfl rfl rfl ?_
                refine AW.p rfl (P.fieldAddr ty29 rfl (by decide) rfl) ?_
                refine AW.loadS rfl ty26 rfl rfl rfl rfl rfl ?_
                refine AW.call rfl Try.func22 rfl rfl rfl ?_
                refine eqForm_ok a.data b.data  ?_
                refine AW.p rfl (P.not rfl) ?_
                refine AW.opsNil ?_
                refine AW.norm [(2, .bx (Lv, 2) 0), (3, .bx (Lv, 3) 0), (36, .v (.bool (!(eqForm a.data b.data))))] [(2, .cells (cCore a)), (3, .cells (cCore b))] st (.same rfl (.same rfl (.same rfl .nil))) rfl rfl ?_
                refine AW.cond rfl (fun hc6 => ?_) (fun hc6 => ?_)
                · refine AW.seq ?_
                  refine AW.region ?_
                  refine AW.p rfl P.assign ?_
                  refine AW.opsNil ?_
                  refine AW.retE rfl rfl ?_
                  exact kbool (by rw [eqCore_eq]; simp_all) hK
                · refine AW.skip ?_
                  refine AW.seq ?_
                  refine AW.seq ?_
                  refine AW.region ?_
                  refine AW.p rfl (P.fieldAddr ty29 rfl (by decide) rfl) ?_
                  refine AW.load rfl ty27 rfl rfl rfl rfl ?_
                  refine AW.p rfl (P.fieldAddr ty29 rfl (by decide) rfl) ?_
                  refine AW.load rfl ty27 rfl rfl rfl rfl ?_
                  refine AW.call rfl Try.func23 rfl rfl rfl ?_
                  refine ih.2 a.kids b.kids (by have := sz_kids a; omega)  ?_
                  refine AW.p rfl (P.not rfl) ?_
                  refine AW.opsNil ?_
                  refine AW.cond rfl (fun hc7 => ?_) (fun hc7 => ?_)
                  · refine AW.seq ?_
                    refine AW.region ?_
                    refine AW.p rfl P.assign ?_
                    refine AW.opsNil ?_
                    refine AW.retE rfl rfl ?_
                    exact kbool (by rw [eqCore_eq]; simp_all) hK
                  · refine AW.skip ?_
                    refine AW.seq ?_
                    refine AW.region ?_
                    refine AW.p rfl P.assign ?_
                    refine AW.opsNil ?_
                    refine AW.retE rfl rfl ?_
                    exact kbool (by rw [eqCore_eq]; simp_all) hK
    · intro a b hm st K hK
      refine acallE Try.func23 rfl rfl rfl (l := [(0, .sl 11 .ro (coresD a)), (1, .sl 11 .ro (coresD b))]) (.same rfl (.same rfl .nil)) (fun Lv hL hlv => ?_)
      refine AW.seq ?_
      refine AW.region ?_
      refine AW.p rfl P.assign ?_
      refine AW.opsNil ?_
      refine AW.seq ?_
      refine AW.seq ?_
      refine AW.region ?_
      refine AW.p rfl P.move ?_
      refine AW.lenE ty27 rfl (coresD_length _) rfl (fun hl7 => ?_)
      refine AW.p rfl P.move ?_
      refine AW.lenE ty27 rfl (coresD_length _) rfl (fun hl9 => ?_)
      refine AW.p rfl (P.neI rfl rfl) ?_
      refine AW.opsNil ?_
      refine AW.condP rfl (fun hc1 => ?_) (fun hc1 => ?_)
      · refine AW.seq ?_
        refine AW.region ?_
        refine AW.p rfl P.assign ?_
        refine AW.opsNil ?_
        refine AW.retE rfl rfl ?_
        exact kbool (by first | (rw [← hn]; simp_all [eqCores]; done) | exact eqCores_len (by omega) | (rw [← hn]; rfl)) hK
      · refine AW.skip ?_
        refine AW.seq ?_
        refine AW.seq ?_
        refine AW.region ?_
        refine AW.p rfl P.assign ?_
        refine AW.opsNil ?_
        refine AW.block ?_
        refine AW.loopE (ι := List Core × List Core × Nat) (fun ⟨l, l2, i⟩ => [(0, .sl 11 .ro (coresD a)), (1, .sl 11 .ro (coresD b)), (5, .v (.int .i64 ((i : Nat) : Int)))]) (fun ⟨l, l2, i⟩ => []) (fun ⟨l, l2, i⟩ => st) (fun ⟨l, l2, i⟩ => a.drop i = l ∧ b.drop i = l2 ∧ eqCores l l2 = eqCores a b ∧ i ≤ a.length) (fun ⟨l, l2, i⟩ => l.length) (a, b, 0) (.same rfl (.same rfl (.same rfl .nil))) rfl rfl ⟨rfl, rfl, rfl, Nat.zero_le _⟩ ?_
        intro ⟨l, l2, i⟩ ⟨hd, hd2, hn, hi⟩
        show AW _ _ (_ :: .goal _ :: _) _ (mkEnv [(0, .sl 11 .ro (coresD a)), (1, .sl 11 .ro (coresD b)), (5, .v (.int .i64 ((i : Nat) : Int)))]) (mkFr [] :: st)
        have hd : a.drop i = l := hd
        have hd2 : b.drop i = l2 := hd2
        have hn : eqCores l l2 = eqCores a b := hn
        have hi : i ≤ a.length := hi
        refine AW.seq ?_
        refine AW.seq ?_
        refine AW.region ?_
        refine AW.p rfl P.move ?_
        refine AW.p rfl P.move ?_
        refine AW.lenE ty27 rfl (coresD_length _) rfl (fun hl13 => ?_)
        refine AW.p rfl (P.bin rfl rfl rfl) ?_
        refine AW.opsNil ?_
        refine AW.norm [(0, .sl 11 .ro (coresD a)), (1, .sl 11 .ro (coresD b)), (5, .v (.int .i64 ((i : Nat) : Int))), (14, .v (.bool (decide (((i : Nat) : Int) < ((a.length : Nat) : Int)))))] [] st (.same rfl (.same rfl (.same rfl (.same rfl .nil)))) rfl rfl ?_
        refine AW.condP rfl (fun hc2 => ?_) (fun hc2 => ?_)
        · obtain ⟨x, r, rfl, hx, hr⟩ := drop_cons hd (by omega)
          obtain ⟨y, r2, rfl, hy, hr2⟩ := drop_cons hd2 (by omega)
          refine AW.skip ?_
          refine AW.seq ?_
          refine AW.block ?_
          refine AW.seq ?_
          refine AW.regionD mixed rfl ?_
          refine AH.p 0 (listed' := #[true, false, false, false, false, false, false, false, false, false]) rfl (by kernel_rfl) (by kernel_rfl) (by kernel_rfl) rfl rfl P.move ?_
          refine AH.p 1 (listed' := #[true, true, false, false, false, false, false, false, false, false]) rfl (by kernel_rfl) (by kernel_rfl) (by kernel_rfl) rfl rfl P.move ?_
          refine AH.p 2 (listed' := #[true, true, true, false, false, false, false, false, false, false]) rfl (by kernel_rfl) (by kernel_rfl) (by kernel_rfl) rfl rfl (P.indexA ty27 ty29 rfl rfl (by rw [coresD_get, hx]; rfl)) ?_
          refine AH.loadRS 3 (listed' := #[true, true, true, true, false, false, false, false, false, false]) rfl (by kernel_rfl) (by kernel_rfl) (by kernel_rfl) rfl rfl ty29 rfl rfl rfl rfl ?_
          refine AH.p 4 (listed' := #[true, true, true, true, true, false, false, false, false, false]) rfl (by kernel_rfl) (by kernel_rfl) (by kernel_rfl) rfl rfl P.move ?_
          refine AH.p 5 (listed' := #[true, true, true, true, true, true, false, false, false, false]) rfl (by kernel_rfl) (by kernel_rfl) (by kernel_rfl) rfl rfl P.move ?_
          refine AH.p 6 (listed' := #[true, true, true, true, true, true, true, false, false, false]) rfl (by kernel_rfl) (by kernel_rfl) (by kernel_rfl) rfl rfl (P.indexA ty27 ty29 rfl rfl (by rw [coresD_get, hy]; rfl)) ?_
          refine AH.loadRS 7 (listed' := #[true, true, true, true, true, true, true, true, false, false]) rfl (by kernel_rfl) (by kernel_rfl) (by kernel_rfl) rfl rfl ty29 rfl rfl rfl rfl ?_
          refine AH.all (rs := [8]) (by kernel_rfl) (by decide) ?_
          refine ⟨?_, trivial⟩
          · refine AO.callE (listed' := #[true, true, true, true, true, true, true, true, true, false]) rfl rfl rfl Try.func11 rfl rfl (ds := [.agg (cCore x), .agg (cCore y)]) rfl (by simp [allL, D.all, Tok.all, allLL]) ?_
            refine ih.1 x y (by have := sz_get hx; have := sz_get hy; omega)  ?_
            refine frame_same (Q := fun fr1 st1 => AH _ _ _ _ _ _ _ _ fr1 st1) ?_
            refine AH.p 9 (listed' := #[true, true, true, true, true, true, true, true, true, true]) rfl (by kernel_rfl) (by kernel_rfl) (by kernel_rfl) rfl rfl (P.not rfl) ?_
            refine AH.done (by kernel_rfl) ?_
            refine AW.cond rfl (fun hc3 => ?_) (fun hc3 => ?_)
            · refine AW.seq ?_
              refine AW.region ?_
              refine AW.p rfl P.assign ?_
              refine AW.opsNil ?_
              refine AW.retE rfl rfl ?_
              exact kbool (by first | (rw [← hn]; simp_all [eqCores]; done) | exact eqCores_len (by omega) | (rw [← hn]; rfl)) hK
            · refine AW.skip ?_
              refine AW.inBlock ?_
              refine AW.region ?_
              refine AW.p rfl P.move ?_
              refine AW.p rfl (P.addN (c := i + 1) rfl rfl rfl (by omega)) ?_
              refine AW.p rfl P.assign ?_
              refine AW.opsNil ?_
              exact AW.next (r, r2, (i + 1)) (.same rfl (.same rfl (.same rfl .nil))) rfl rfl (Nat.lt_succ_self _) ⟨hr, hr2, by rw [← hn]; simp_all [eqCores], by omega⟩
        · have hl := drop_nil hd (by omega)
          have hl2 := drop_nil hd2 (by omega)
          subst hl
          subst hl2
          refine AW.exit rfl ?_
          refine AW.seq ?_
          refine AW.region ?_
          refine AW.p rfl P.assign ?_
          refine AW.opsNil ?_
          refine AW.retE rfl rfl ?_
          exact kbool (by first | (rw [← hn]; simp_all [eqCores]; done) | exact eqCores_len (by omega) | (rw [← hn]; rfl)) hK
theorem eqCore_ok : ∀ (a : Core) (b : Core), ∀ {st : St} {K : D → St → Prop}, K (.v (.bool (eqCore a b))) st → ACall X 11 [.agg (cCore a), .agg (cCore b)] st K :=
  fun a b _ _ hK => (eqCore_grp _).1 a b (Nat.lt_succ_self _)  hK
theorem eqCores_ok : ∀ (a : List Core) (b : List Core), ∀ {st : St} {K : D → St → Prop}, K (.v (.bool (eqCores a b))) st → ACall X 23 [.sl 11 .ro (coresD a), .sl 11 .ro (coresD b)] st K :=
  fun a b _ _ hK => (eqCore_grp _).2 a b (Nat.lt_succ_self _)  hK
theorem law4_ok : ∀ (c : Core), okCore c → ∀ {st : St} {K : D → St → Prop}, K (.v (.bool true)) st → ACall X 4 [.agg (cCore c)] st K := by
  intro c hok st K hK
  refine acallE Try.func4 rfl rfl rfl (l := [(0, .agg (cCore c))]) (.same rfl .nil) (fun Lv hL hlv => ?_)
  refine AW.seq ?_
  refine AW.region ?_
  refine AW.box rfl rfl rfl rfl rfl ?_
  refine AW.p rfl P.assign ?_
  refine AW.opsNil ?_
  refine AW.seq ?_
  refine AW.region ?_
  refine AW.p rfl P.assign ?_
  refine AW.opsNil ?_
  refine AW.seq ?_
  refine AW.region ?_
  refine AW.loadS rfl ty38 rfl rfl rfl rfl rfl ?_
  refine AW.p rfl P.move ?_
  refine AW.call rfl Try.func9 rfl rfl rfl ?_
  refine szCore_ok c 1048576 (by omega) hok ?_
  have := szCore_leq c 1048576 (by omega)
  refine AW.p rfl P.assign ?_
  refine AW.opsNil ?_
  refine AW.seq ?_
  refine AW.seq ?_
  refine AW.region ?_
  refine AW.p rfl P.move ?_
  refine AW.p rfl (P.bin rfl rfl rfl) ?_
  refine AW.opsNil ?_
  refine AW.condP rfl (fun hc1 => ?_) (fun hc1 => ?_)
  · refine AW.seq ?_
    refine AW.region ?_
    refine AW.p rfl P.assign ?_
    refine AW.opsNil ?_
    refine AW.retE rfl rfl ?_
    exact hK
  · refine AW.skip ?_
    refine AW.seq ?_
    refine AW.region ?_
    refine AW.loadS rfl ty38 rfl rfl rfl rfl rfl ?_
    refine AW.call rfl Try.func10 rfl rfl rfl ?_
    refine toCore_ok c (by have := (szCore_bd _).1 c (Nat.lt_succ_self _) 1048576 (by omega); exact (this (by assumption)).1) ?_
    refine AW.call rfl Try.func8 rfl rfl rfl ?_
    refine specDepth_ok c  ?_
    refine AW.p rfl P.assign ?_
    refine AW.opsNil ?_
    refine AW.norm [(1, .bx (Lv, 1) 0), (4, .v (.int .i64 (depth c)))] [(1, .cells (cCore c))] st (.same rfl (.same rfl .nil)) rfl rfl ?_
    refine AW.seq ?_
    refine AW.region ?_
    refine AW.loadS rfl ty38 rfl rfl rfl rfl rfl ?_
    refine AW.call rfl Try.func10 rfl rfl rfl ?_
    refine toCore_ok c (by have := (szCore_bd _).1 c (Nat.lt_succ_self _) 1048576 (by omega); exact (this (by assumption)).1) ?_
    refine AW.alloc rfl tz29 (.v (.v (.v (.v (.sl (sz := 1) (.v (.v (.v (.sl (sz := 1) (.sl (sz := 5) (.sl (sz := 11) .nil))))))))))) rfl rfl rfl ?_
    refine AW.store ty29 rfl rfl rfl rfl rfl rfl rfl rfl rfl rfl ?_
    refine AW.opsNil ?_
    refine AW.norm [(1, .bx (Lv, 1) 0), (4, .v (.int .i64 (depth c))), (5, .bx (Lv, 5) 0)] [(1, .cells (cCore c)), (5, .cells (cCore c))] st (.same rfl (.same rfl (.same rfl .nil))) rfl rfl ?_
    refine AW.seq ?_
    refine AW.region ?_
    refine AW.loadS rfl ty29 rfl rfl rfl rfl rfl ?_
    refine AW.call rfl Try.func7 rfl rfl rfl ?_
    refine implDepth_ok c  ?_
    refine AW.p rfl P.assign ?_
    refine AW.opsNil ?_
    refine AW.seq ?_
    refine AW.seq ?_
    refine AW.region ?_
    refine AW.p rfl P.move ?_
    refine AW.p rfl P.move ?_
    refine AW.p rfl (P.neI rfl rfl) ?_
    refine AW.opsNil ?_
    refine AW.condP rfl (fun hc2 => ?_) (fun hc2 => ?_)
    · refine AW.seq ?_
      refine AW.region ?_
      refine AW.p rfl P.assign ?_
      refine AW.opsNil ?_
      refine AW.retE rfl rfl ?_
      exact kbool (by first | rfl | (exfalso; simp_all [depthI_depth, eqCore_refl])) hK
    · refine AW.skip ?_
      refine AW.seq ?_
      refine AW.seq ?_
      refine AW.regionD mixed rfl ?_
      refine AH.loadS 0 (listed' := #[true, false, false, false, false]) rfl (by kernel_rfl) (by kernel_rfl) (by kernel_rfl) rfl rfl ty29 rfl rfl rfl rfl rfl ?_
      refine AH.loadS 1 (listed' := #[true, true, false, false, false]) rfl (by kernel_rfl) (by kernel_rfl) (by kernel_rfl) rfl rfl ty38 rfl rfl rfl rfl rfl ?_
      refine AH.all (rs := [2]) (by kernel_rfl) (by decide) ?_
      refine ⟨?_, trivial⟩
      · refine AO.callE (listed' := #[true, true, true, false, false]) rfl rfl rfl Try.func10 rfl rfl (ds := [.agg (cCore c)]) rfl (by simp [allL, D.all, Tok.all, allLL]) ?_
        refine toCore_ok c (by have := (szCore_bd _).1 c (Nat.lt_succ_self _) 1048576 (by omega); exact (this (by assumption)).1) ?_
        refine frame_same (Q := fun fr1 st1 => AH _ _ _ _ _ _ _ _ fr1 st1) ?_
        refine AH.all (rs := [3]) (by kernel_rfl) (by decide) ?_
        refine ⟨?_, trivial⟩
        · refine AO.callE (listed' := #[true, true, true, true, false]) rfl rfl rfl Try.func11 rfl rfl (ds := [.agg (cCore c), .agg (cCore c)]) rfl (by simp [allL, D.all, Tok.all, allLL]) ?_
          refine eqCore_ok c c  ?_
          refine frame_same (Q := fun fr1 st1 => AH _ _ _ _ _ _ _ _ fr1 st1) ?_
          refine AH.p 4 (listed' := #[true, true, true, true, true]) rfl (by kernel_rfl) (by kernel_rfl) (by kernel_rfl) rfl rfl (P.not rfl) ?_
          refine AH.done (by kernel_rfl) ?_
          refine AW.cond rfl (fun hc3 => ?_) (fun hc3 => ?_)
          · refine AW.seq ?_
            refine AW.region ?_
            refine AW.p rfl P.assign ?_
            refine AW.opsNil ?_
            refine AW.retE rfl rfl ?_
            exact kbool (by first | rfl | (exfalso; simp_all [depthI_depth, eqCore_refl])) hK
          · refine AW.skip ?_
            refine AW.seq ?_
            refine AW.region ?_
            refine AW.p rfl P.assign ?_
            refine AW.opsNil ?_
            refine AW.retE rfl rfl ?_
            exact hK
theorem useCl_ok {x : Core} {id n : Int} {k1 k2 : Key} {st : St} {K : D → St → Prop} (h1 : st.get k1 = some (.cells [.v (.int .i64 id)])) (l1 : k1.1 < st.length) (h2 : st.get k2 = some (.cells [.v (.int .i64 n)])) (l2 : k2.1 < st.length)
    (hK : K (.tup []) (st.set k2 (some (.cells [.v (.int .i64 (useStep id x n))])))) : ACall X 25 [.agg (cCore x), .bx k1 0, .bx k2 0] st K := by
  unfold useStep at hK
  refine acallE Try.func25 rfl rfl rfl (l := [(0, .agg (cCore x)), (1, .bx k1 0), (2, .bx k2 0)]) (.same rfl (.same rfl (.same rfl .nil))) (fun Lv hL hlv => ?_)
  refine AW.seq ?_
  refine AW.region ?_
  refine AW.box rfl rfl rfl rfl rfl ?_
  refine AW.opsNil ?_
  refine AW.seq ?_
  refine AW.cutE [(2, .bx k2 0), (12, .v (.bool (decide ((x.kind = 1) ∧ (x.id = id)))))] [(3, .cells (cCore x))] st True ?_ (fun _ => ?_)
  · refine AW.region ?_
    refine AW.p rfl (P.fieldAddr ty29 rfl (by decide) rfl) ?_
    refine AW.load rfl ty3 rfl rfl rfl rfl ?_
    refine AW.p rfl (P.eqI rfl rfl) ?_
    refine AW.p rfl P.move ?_
    by_cases g1 : x.kind = 1
    · refine AW.guardT rfl rfl (dtrue g1) ?_
      refine AW.p rfl (P.fieldAddr ty29 rfl (by decide) rfl) ?_
      refine AW.guardT rfl rfl (dtrue g1) ?_
      refine AW.load rfl ty3 rfl rfl rfl rfl ?_
      refine AW.guardT rfl rfl (dtrue g1) ?_
      refine AW.loadL rfl ty3 rfl rfl l1 h1 rfl ?_
      refine AW.guardT rfl rfl (dtrue g1) ?_
      refine AW.p rfl (P.eqI rfl rfl) ?_
      refine AW.p rfl (P.pickB (b := true) (dtrue g1) rfl) ?_
      refine AW.opsNil ?_
      exact AW.meet (.same rfl (.cons (Wk.eq (by show D.v (.bool (decide (x.id = id))) = D.v (.bool (decide ((x.kind = 1) ∧ (x.id = id)))); simp [g1])) .nil)) rfl rfl trivial
    · refine AW.guardF (b := false) rfl rfl (dfalse g1) rfl rfl ?_
      refine AW.guardF (b := false) rfl rfl (dfalse g1) rfl rfl ?_
      refine AW.guardF (b := false) rfl rfl (dfalse g1) rfl rfl ?_
      refine AW.guardF (b := false) rfl rfl (dfalse g1) rfl rfl ?_
      refine AW.p rfl (P.pickB (b := false) (dfalse g1) rfl) ?_
      refine AW.opsNil ?_
      exact AW.meet (.same rfl (.cons (Wk.eq (by show D.v (.bool false) = D.v (.bool (decide ((x.kind = 1) ∧ (x.id = id)))); simp [g1])) .nil)) rfl rfl trivial
  · refine AW.condP rfl (fun hc2 => ?_) (fun hc2 => ?_)
    · refine AW.region ?_
      refine AW.loadL rfl ty3 rfl rfl l2 h2 rfl ?_
      refine AW.p rfl (P.bin rfl rfl rfl) ?_
      refine AW.storeL ty3 rfl rfl rfl rfl rfl rfl l2 h2 rfl rfl rfl rfl ?_
      refine AW.opsNil ?_
      refine AW.nilE rfl rfl ?_
      exact kst (by first | (rw [if_pos (by assumption)]; rfl) | (rw [if_neg (by assumption)]; exact St.set_same h2)) hK
    · refine AW.skip ?_
      refine AW.nilE rfl rfl ?_
      exact kst (by first | (rw [if_pos (by assumption)]; rfl) | (rw [if_neg (by assumption)]; exact St.set_same h2)) hK
theorem eachCore_grp {σ : Type} {g : Nat} {fn : Func} {cg : Code} {fs cs : List D} {low : σ → St} {step : Core → σ → σ} (hg : Callable X g fn cg)
    (hf : ∀ (x : Core) (s : σ) (up : St) {K : D → St → Prop}, K (.tup []) (up ++ low (step x s)) → ACall X g (fs ++ [.agg (cCore x)] ++ cs) (up ++ low s) K) (m : Nat) :
    ∀ (c : Core), SizeOf.sizeOf c < m → ∀ (s : σ) (up : St) {K : D → St → Prop}, K (.tup []) (up ++ low (eachC step c s)) → ACall X 24 [.agg (cCore c), .clo (.func g) fs cs] (up ++ low s) K := by
  induction m with
  | zero => intros; omega
  | succ m ih =>
    intro c hm s up K hK
    refine acallE Try.func24 rfl rfl rfl (l := [(0, .agg (cCore c)), (1, .clo (.func g) fs cs)]) (.same rfl (.same rfl .nil)) (fun Lv hL hlv => ?_)
    obtain ⟨hfs, hcs⟩ : allL (lv Lv) fs = true ∧ allL (lv Lv) cs = true := by simpa [allL, D.all] using hlv
    have hfs2 := fun t => lv_notKey (t := t) hfs
    have hcs2 := fun t => lv_notKey (t := t) hcs
    refine AW.seq ?_
    refine AW.region ?_
    refine AW.box rfl rfl rfl rfl rfl ?_
    refine AW.opsNil ?_
    refine AW.seq ?_
    refine AW.region ?_
    refine AW.p rfl P.move ?_
    refine AW.loadS rfl ty29 rfl rfl rfl rfl rfl ?_
    refine AW.callF rfl hg.at_ hg.body hg.name rfl rfl ?_
    refine hf c s (mkFr [(2, .cells (cCore c))] :: up) ?_
    show AW _ _ _ _ _ (mkFr [(2, .cells (cCore c))] :: (up ++ low (step c s)))
    refine AW.opsNil ?_
    refine AW.seq ?_
    refine AW.region ?_
    refine AW.p rfl (P.fieldAddr ty29 rfl (by decide) rfl) ?_
    refine AW.load rfl ty27 rfl rfl rfl rfl ?_
    refine AW.lenE ty27 rfl (coresD_length _) rfl (fun hl11 => ?_)
    refine AW.p rfl P.move ?_
    refine AW.opsNil ?_
    refine AW.block ?_
    refine AW.loopE (ι := List Core × σ × Nat) (fun ⟨l, s2, i⟩ => [(1, .clo (.func g) fs cs), (10, .sl 11 .ro (coresD c.kids)), (11, .v (.int .i64 ((c.kids.length : Nat) : Int))), (12, .v (.int .i64 ((i : Nat) : Int)))]) (fun ⟨l, s2, i⟩ => [(2, .cells (cCore c))]) (fun ⟨l, s2, i⟩ => (up ++ low s2)) (fun ⟨l, s2, i⟩ => c.kids.drop i = l ∧ eachCs step l s2 = eachCs step c.kids (step c s) ∧ i ≤ c.kids.length) (fun ⟨l, s2, i⟩ => l.length) (c.kids, (step c s), 0) (.same rfl (.same rfl (.same rfl (.same rfl .nil)))) rfl rfl ⟨rfl, rfl, Nat.zero_le _⟩ ?_
    intro ⟨l, s2, i⟩ ⟨hd, hn, hi⟩
    show AW _ _ (_ :: .goal _ :: _) _ (mkEnv [(1, .clo (.func g) fs cs), (10, .sl 11 .ro (coresD c.kids)), (11, .v (.int .i64 ((c.kids.length : Nat) : Int))), (12, .v (.int .i64 ((i : Nat) : Int)))]) (mkFr [(2, .cells (cCore c))] :: (up ++ low s2))
    have hd : c.kids.drop i = l := hd
    have hn : eachCs step l s2 = eachCs step c.kids (step c s) := hn
    have hi : i ≤ c.kids.length := hi
    refine AW.seq ?_
    refine AW.region ?_
    refine AW.p rfl (P.bin rfl rfl rfl) ?_
    refine AW.opsNil ?_
    refine AW.seq ?_
    refine AW.condP rfl (fun hc1 => ?_) (fun hc1 => ?_)
    · obtain ⟨x, r, rfl, hx, hr⟩ := drop_cons hd (by omega)
      have hm := drop_len hd hi
      refine AW.skip ?_
      refine AW.seq ?_
      refine AW.block ?_
      refine AW.seq ?_
      refine AW.region ?_
      refine AW.p rfl (P.indexA ty27 ty29 rfl rfl (by rw [coresD_get, hx]; rfl)) ?_
      refine AW.l rfl (L.loadRS ty29 rfl rfl rfl rfl) ?_
      refine AW.alloc rfl tz29 (.v (.v (.v (.v (.sl (sz := 1) (.v (.v (.v (.sl (sz := 1) (.sl (sz := 5) (.sl (sz := 11) .nil))))))))))) rfl rfl rfl ?_
      refine AW.store ty29 rfl rfl rfl rfl rfl rfl rfl rfl rfl rfl ?_
      refine AW.opsNil ?_
      refine AW.norm [(1, .clo (.func g) fs cs), (5, .bx (Lv, 5) 0), (10, .sl 11 .ro (coresD c.kids)), (11, .v (.int .i64 ((c.kids.length : Nat) : Int))), (12, .v (.int .i64 ((i : Nat) : Int)))] [(2, .cells (cCore c)), (5, .cells (cCore x))] (up ++ low s2) (.same rfl (.same rfl (.same rfl (.same rfl (.same rfl .nil))))) rfl rfl ?_
      refine AW.region ?_
      refine AW.loadS rfl ty29 rfl rfl rfl rfl rfl ?_
      refine AW.p rfl P.move ?_
      refine AW.call rfl Try.func24 rfl rfl rfl ?_
      refine ih x (by have := sz_get hx; have := sz_kids c; omega) s2 (mkFr [(2, .cells (cCore c)), (5, .cells (cCore x))] :: up) ?_
      show AW _ _ _ _ _ (mkFr [(2, .cells (cCore c)), (5, .cells (cCore x))] :: (up ++ low (eachC step x s2)))
      refine AW.opsNil ?_
      refine AW.inBlock ?_
      refine AW.region ?_
      refine AW.p rfl (P.addN (c := i + 1) rfl rfl rfl (by omega)) ?_
      refine AW.p rfl P.move ?_
      refine AW.opsNil ?_
      refine AW.dropE (l := [(1, .clo (.func g) fs cs), (10, .sl 11 .ro (coresD c.kids)), (11, .v (.int .i64 ((c.kids.length : Nat) : Int))), (12, .v (.int .i64 (((i + 1) : Nat) : Int)))]) (f' := [(2, .cells (cCore c))]) 5 (.same rfl (.same rfl (.same rfl (.same rfl .nil)))) (by simp [allE, D.all, Tok.all, allL, allLL, notKey, hfs2, hcs2]) rfl (by simp [allF, D.all, Tok.all, allL, allLL, notKey, hfs2, hcs2]) ?_
      exact AW.next (r, (eachC step x s2), (i + 1)) (.same rfl (.same rfl (.same rfl (.same rfl .nil)))) rfl rfl (Nat.lt_succ_self _) ⟨hr, by rw [← hn]; simp [eachCs], by omega⟩
    · have hl := drop_nil hd (by omega)
      subst hl
      refine AW.exit rfl ?_
      refine AW.nilE rfl rfl ?_
      exact kst (by rw [eachC_eq, ← hn]; simp only [eachCs]) hK
theorem eachCore_ok {σ : Type} {g : Nat} {fn : Func} {cg : Code} {fs cs : List D} {low : σ → St} {step : Core → σ → σ} (hg : Callable X g fn cg)
    (hf : ∀ (x : Core) (s : σ) (up : St) {K : D → St → Prop}, K (.tup []) (up ++ low (step x s)) → ACall X g (fs ++ [.agg (cCore x)] ++ cs) (up ++ low s) K)
    (c : Core) (s : σ) (up : St) {K : D → St → Prop} (hK : K (.tup []) (up ++ low (eachC step c s))) : ACall X 24 [.agg (cCore c), .clo (.func g) fs cs] (up ++ low s) K := eachCore_grp hg hf _ c (Nat.lt_succ_self _) s up hK
theorem specUses_grp (m : Nat) : (∀ (c : Core) (id : Int), SizeOf.sizeOf c < m → ∀ {st : St} {K : D → St → Prop}, K (.v (.int .i64 (uses c id))) st → ACall X 12 [.agg (cCore c), .v (.int .i64 id)] st K) := by
  induction m with
  | zero => intros; omega
  | succ m ih =>
    intro c id hm st K hK
    refine acallE Try.func12 rfl rfl rfl (l := [(0, .agg (cCore c)), (1, .v (.int .i64 id))]) (.same rfl (.same rfl .nil)) (fun Lv hL hlv => ?_)
    refine AW.seq ?_
    refine AW.region ?_
    refine AW.box rfl rfl rfl rfl rfl ?_
    refine AW.p rfl P.assign ?_
    refine AW.opsNil ?_
    refine AW.seq ?_
    refine AW.region ?_
    refine AW.p rfl P.assign ?_
    refine AW.opsNil ?_
    refine AW.seq ?_
    refine AW.seq ?_
    refine AW.cutE [(1, .v (.int .i64 id)), (2, .bx (Lv, 2) 0), (5, .v (.int .i64 0)), (15, .v (.bool (decide ((c.kind = 1) ∧ (c.id = id)))))] [(2, .cells (cCore c))] st True ?_ (fun _ => ?_)
    · refine AW.region ?_
      refine AW.p rfl (P.fieldAddr ty29 rfl (by decide) rfl) ?_
      refine AW.load rfl ty3 rfl rfl rfl rfl ?_
      refine AW.p rfl (P.eqI rfl rfl) ?_
      refine AW.p rfl P.move ?_
      by_cases g1 : c.kind = 1
      · refine AW.guardT rfl rfl (dtrue g1) ?_
        refine AW.p rfl (P.fieldAddr ty29 rfl (by decide) rfl) ?_
        refine AW.guardT rfl rfl (dtrue g1) ?_
        refine AW.load rfl ty3 rfl rfl rfl rfl ?_
        refine AW.guardT rfl rfl (dtrue g1) ?_
        refine AW.p rfl P.move ?_
        refine AW.guardT rfl rfl (dtrue g1) ?_
        refine AW.p rfl (P.eqI rfl rfl) ?_
        refine AW.p rfl (P.pickB (b := true) (dtrue g1) rfl) ?_
        refine AW.opsNil ?_
        exact AW.meet (.same rfl (.same rfl (.same rfl (.cons (Wk.eq (by show D.v (.bool (decide (c.id = id))) = D.v (.bool (decide ((c.kind = 1) ∧ (c.id = id)))); simp [g1])) .nil)))) rfl rfl trivial
      · refine AW.guardF (b := false) rfl rfl (dfalse g1) rfl rfl ?_
        refine AW.guardF (b := false) rfl rfl (dfalse g1) rfl rfl ?_
        refine AW.guardF (b := false) rfl rfl (dfalse g1) rfl rfl ?_
        refine AW.guardF (b := false) rfl rfl (dfalse g1) rfl rfl ?_
        refine AW.p rfl (P.pickB (b := false) (dfalse g1) rfl) ?_
        refine AW.opsNil ?_
        exact AW.meet (.same rfl (.same rfl (.same rfl (.cons (Wk.eq (by show D.v (.bool false) = D.v (.bool (decide ((c.kind = 1) ∧ (c.id = id)))); simp [g1])) .nil)))) rfl rfl trivial
    · refine AW.cutE [(1, .v (.int .i64 id)), (2, .bx (Lv, 2) 0), (5, .v (.int .i64 (if (c.kind = 1) ∧ (c.id = id) then 1 else 0)))] [(2, .cells (cCore c))] st True ?_ (fun _ => ?_)
      · refine AW.condP rfl (fun hc2 => ?_) (fun hc2 => ?_)
        · refine AW.region ?_
          refine AW.p rfl P.assign ?_
          refine AW.opsNil ?_
          exact AW.meet (.same rfl (.same rfl (.cons (Wk.eq (by show D.v (.int .i64 1) = _; rw [if_pos hc2])) .nil))) rfl rfl trivial
        · refine AW.skip ?_
          exact AW.meet (.same rfl (.same rfl (.cons (Wk.eq (by show D.v (.int .i64 0) = _; rw [if_neg hc2])) .nil))) rfl rfl trivial
      · refine AW.seq ?_
        refine AW.seq ?_
        refine AW.region ?_
        refine AW.p rfl P.assign ?_
        refine AW.opsNil ?_
        refine AW.block ?_
        refine AW.loopE (ι := List Core × Int × Nat) (fun ⟨l, n, i⟩ => [(1, .v (.int .i64 id)), (2, .bx (Lv, 2) 0), (5, .v (.int .i64 n)), (6, .v (.int .i64 ((i : Nat) : Int)))]) (fun ⟨l, n, i⟩ => [(2, .cells (cCore c))]) (fun ⟨l, n, i⟩ => st) (fun ⟨l, n, i⟩ => c.kids.drop i = l ∧ usesL l id n = usesL c.kids id (if (c.kind = 1 ∧ c.id = id) then 1 else 0) ∧ i ≤ c.kids.length) (fun ⟨l, n, i⟩ => l.length) (c.kids, (if (c.kind = 1 ∧ c.id = id) then 1 else 0), 0) (.same rfl (.same rfl (.same rfl (.same rfl .nil)))) rfl rfl ⟨rfl, rfl, Nat.zero_le _⟩ ?_
        intro ⟨l, n, i⟩ ⟨hd, hn, hi⟩
        show AW _ _ (_ :: .goal _ :: _) _ (mkEnv [(1, .v (.int .i64 id)), (2, .bx (Lv, 2) 0), (5, .v (.int .i64 n)), (6, .v (.int .i64 ((i : Nat) : Int)))]) (mkFr [(2, .cells (cCore c))] :: st)
        have hd : c.kids.drop i = l := hd
        have hn : usesL l id n = usesL c.kids id (if (c.kind = 1 ∧ c.id = id) then 1 else 0) := hn
        have hi : i ≤ c.kids.length := hi
        refine AW.seq ?_
        refine AW.seq ?_
        refine AW.region ?_
        refine AW.p rfl P.move ?_
        refine AW.p rfl (P.fieldAddr ty29 rfl (by decide) rfl) ?_
        refine AW.load rfl ty27 rfl rfl rfl rfl ?_
        refine AW.lenE ty27 rfl (coresD_length _) rfl (fun hl19 => ?_)
        refine AW.p rfl (P.bin rfl rfl rfl) ?_
        refine AW.opsNil ?_
        refine AW.condP rfl (fun hc3 => ?_) (fun hc3 => ?_)
        · obtain ⟨x, r, rfl, hx, hr⟩ := drop_cons hd (by omega)
          have hm := drop_len hd hi
          refine AW.skip ?_
          refine AW.seq ?_
          refine AW.block ?_
          refine AW.region ?_
          refine AW.p rfl P.move ?_
          refine AW.p rfl (P.fieldAddr ty29 rfl (by decide) rfl) ?_
          refine AW.load rfl ty27 rfl rfl rfl rfl ?_
          refine AW.p rfl P.move ?_
          refine AW.p rfl (P.indexA ty27 ty29 rfl rfl (by rw [coresD_get, hx]; rfl)) ?_
          refine AW.l rfl (L.loadRS ty29 rfl rfl rfl rfl) ?_
          refine AW.p rfl P.move ?_
          refine AW.call rfl Try.func12 rfl rfl rfl ?_
          refine ih x id (by have := sz_get hx; have := sz_kids c; omega)  ?_
          refine AW.p rfl (P.bin rfl rfl rfl) ?_
          refine AW.p rfl P.assign ?_
          refine AW.opsNil ?_
          refine AW.inBlock ?_
          refine AW.region ?_
          refine AW.p rfl P.move ?_
          refine AW.p rfl (P.addN (c := i + 1) rfl rfl rfl (by omega)) ?_
          refine AW.p rfl P.assign ?_
          refine AW.opsNil ?_
          exact AW.next (r, (IntKind.i64.wrap (n + (uses x id))), (i + 1)) (.same rfl (.same rfl (.same rfl (.same rfl .nil)))) rfl rfl (Nat.lt_succ_self _) ⟨hr, by rw [← hn]; simp [usesL], by omega⟩
        · have hl := drop_nil hd (by omega)
          subst hl
          refine AW.exit rfl ?_
          refine AW.seq ?_
          refine AW.region ?_
          refine AW.p rfl P.move ?_
          refine AW.p rfl P.assign ?_
          refine AW.opsNil ?_
          refine AW.retE rfl rfl ?_
          exact kint (by rw [uses_eq, ← hn]; simp [usesL]) hK
theorem specUses_ok : ∀ (c : Core) (id : Int), ∀ {st : St} {K : D → St → Prop}, K (.v (.int .i64 (uses c id))) st → ACall X 12 [.agg (cCore c), .v (.int .i64 id)] st K :=
  fun c id _ _ hK => (specUses_grp _) c id (Nat.lt_succ_self _)  hK
theorem implUses_ok : ∀ (c : Core) (id : Int), ∀ {st : St} {K : D → St → Prop}, K (.v (.int .i64 (usesI c id))) st → ACall X 13 [.agg (cCore c), .v (.int .i64 id)] st K := by
  intro c id st K hK
  refine acallE Try.func13 rfl rfl rfl (l := [(0, .agg (cCore c)), (1, .v (.int .i64 id))]) (.same rfl (.same rfl .nil)) (fun Lv hL hlv => ?_)
  refine AW.seq ?_
  refine AW.region ?_
  refine AW.box rfl rfl rfl rfl rfl ?_
  refine AW.box rfl rfl rfl rfl rfl ?_
  refine AW.p rfl P.assign ?_
  refine AW.opsNil ?_
  refine AW.seq ?_
  refine AW.region ?_
  refine AW.alloc rfl tz3 (.v .nil) rfl rfl rfl ?_
  refine AW.store ty3 rfl rfl rfl rfl rfl rfl rfl rfl rfl rfl ?_
  refine AW.opsNil ?_
  refine AW.norm [(2, .bx (Lv, 2) 0), (3, .bx (Lv, 3) 0), (5, .bx (Lv, 5) 0)] [(2, .cells (cCore c)), (3, .cells [.v (.int .i64 id)]), (5, .cells [.v (.int .i64 0)])] st (.same rfl (.same rfl (.same rfl .nil))) rfl rfl ?_
  refine AW.seq ?_
  refine AW.region ?_
  refine AW.loadS rfl ty29 rfl rfl rfl rfl rfl ?_
  refine AW.p rfl (P.makeFunc rfl rfl) ?_
  refine AW.call rfl Try.func24 rfl rfl rfl ?_
  refine eachCore_ok (low := fun n : Int => mkFr [(2, .cells (cCore c)), (3, .cells [.v (.int .i64 id)]), (5, .cells [.v (.int .i64 n)])] :: st) (step := useStep id) ⟨Try.func25, rfl, rfl⟩ (fun x n up K hK => ?_) c 0 [] ?_
  · refine useCl_ok (id := id) (n := n) (k1 := (Lv, 3)) (k2 := (Lv, 5)) ((St.get_append (by simp [hL])).trans (get_top' hL)) (by simp [hL]; omega) ((St.get_append (by simp [hL])).trans (get_top' hL)) (by simp [hL]; omega) (kst ?_ hK)
    rw [St.set_append (by simp [hL])]; rw [set_top' hL rfl]; rfl
  show AW _ _ _ _ _ (mkFr [(2, .cells (cCore c)), (3, .cells [.v (.int .i64 id)]), (5, .cells [.v (.int .i64 (eachC (useStep id) c 0))])] :: st)
  refine AW.opsNil ?_
  refine AW.seq ?_
  refine AW.region ?_
  refine AW.load rfl ty3 rfl rfl rfl rfl ?_
  refine AW.p rfl P.assign ?_
  refine AW.opsNil ?_
  refine AW.retE rfl rfl ?_
  exact kint rfl hK
theorem law5_ok : ∀ (c : Core) (id : Int), okCore c → ∀ {st : St} {K : D → St → Prop}, K (.v (.bool true)) st → ACall X 5 [.agg (cCore c), .v (.int .i64 id)] st K := by
  intro c id hok st K hK
  refine acallE Try.func5 rfl rfl rfl (l := [(0, .agg (cCore c)), (1, .v (.int .i64 id))]) (.same rfl (.same rfl .nil)) (fun Lv hL hlv => ?_)
  refine AW.seq ?_
  refine AW.region ?_
  refine AW.box rfl rfl rfl rfl rfl ?_
  refine AW.p rfl P.assign ?_
  refine AW.opsNil ?_
  refine AW.seq ?_
  refine AW.region ?_
  refine AW.p rfl P.assign ?_
  refine AW.opsNil ?_
  refine AW.seq ?_
  refine AW.region ?_
  refine AW.loadS rfl ty38 rfl rfl rfl rfl rfl ?_
  refine AW.p rfl P.move ?_
  refine AW.call rfl Try.func9 rfl rfl rfl ?_
  refine szCore_ok c 1048576 (by omega) hok ?_
  have := szCore_leq c 1048576 (by omega)
  refine AW.p rfl P.assign ?_
  refine AW.opsNil ?_
  refine AW.seq ?_
  refine AW.seq ?_
  refine AW.region ?_
  refine AW.p rfl P.move ?_
  refine AW.p rfl (P.bin rfl rfl rfl) ?_
  refine AW.opsNil ?_
  refine AW.condP rfl (fun hc1 => ?_) (fun hc1 => ?_)
  · refine AW.seq ?_
    refine AW.region ?_
    refine AW.p rfl P.assign ?_
    refine AW.opsNil ?_
    refine AW.retE rfl rfl ?_
    exact hK
  · refine AW.skip ?_
    refine AW.seq ?_
    refine AW.region ?_
    refine AW.loadS rfl ty38 rfl rfl rfl rfl rfl ?_
    refine AW.call rfl Try.func10 rfl rfl rfl ?_
    refine toCore_ok c (by have := (szCore_bd _).1 c (Nat.lt_succ_self _) 1048576 (by omega); exact (this (by assumption)).1) ?_
    refine AW.p rfl P.move ?_
    refine AW.call rfl Try.func12 rfl rfl rfl ?_
    refine specUses_ok c id  ?_
    refine AW.p rfl P.assign ?_
    refine AW.opsNil ?_
    refine AW.norm [(1, .v (.int .i64 id)), (2, .bx (Lv, 2) 0), (6, .v (.int .i64 (uses c id)))] [(2, .cells (cCore c))] st (.same rfl (.same rfl (.same rfl .nil))) rfl rfl ?_
    refine AW.seq ?_
    refine AW.region ?_
    refine AW.loadS rfl ty38 rfl rfl rfl rfl rfl ?_
    refine AW.call rfl Try.func10 rfl rfl rfl ?_
    refine toCore_ok c (by have := (szCore_bd _).1 c (Nat.lt_succ_self _) 1048576 (by omega); exact (this (by assumption)).1) ?_
    refine AW.alloc rfl tz29 (.v (.v (.v (.v (.sl (sz := 1) (.v (.v (.v (.sl (sz := 1) (.sl (sz := 5) (.sl (sz := 11) .nil))))))))))) rfl rfl rfl ?_
    refine AW.store ty29 rfl rfl rfl rfl rfl rfl rfl rfl rfl rfl ?_
    refine AW.opsNil ?_
    refine AW.norm [(1, .v (.int .i64 id)), (2, .bx (Lv, 2) 0), (6, .v (.int .i64 (uses c id))), (7, .bx (Lv, 7) 0)] [(2, .cells (cCore c)), (7, .cells (cCore c))] st (.same rfl (.same rfl (.same rfl (.same rfl .nil)))) rfl rfl ?_
    refine AW.seq ?_
    refine AW.region ?_
    refine AW.loadS rfl ty29 rfl rfl rfl rfl rfl ?_
    refine AW.p rfl P.move ?_
    refine AW.call rfl Try.func13 rfl rfl rfl ?_
    refine implUses_ok c id  ?_
    refine AW.p rfl P.assign ?_
    refine AW.opsNil ?_
    refine AW.seq ?_
    refine AW.seq ?_
    refine AW.region ?_
    refine AW.p rfl P.move ?_
    refine AW.p rfl P.move ?_
    refine AW.p rfl (P.neI rfl rfl) ?_
    refine AW.opsNil ?_
    refine AW.condP rfl (fun hc2 => ?_) (fun hc2 => ?_)
    · refine AW.seq ?_
      refine AW.region ?_
      refine AW.p rfl P.assign ?_
      refine AW.opsNil ?_
      refine AW.retE rfl rfl ?_
      exact kbool (by first | rfl | (exfalso; simp_all [usesI_uses, eqCore_refl])) hK
    · refine AW.skip ?_
      refine AW.seq ?_
      refine AW.seq ?_
      refine AW.regionD mixed rfl ?_
      refine AH.loadS 0 (listed' := #[true, false, false, false, false]) rfl (by kernel_rfl) (by kernel_rfl) (by kernel_rfl) rfl rfl ty29 rfl rfl rfl rfl rfl ?_
      refine AH.loadS 1 (listed' := #[true, true, false, false, false]) rfl (by kernel_rfl) (by kernel_rfl) (by kernel_rfl) rfl rfl ty38 rfl rfl rfl rfl rfl ?_
      refine AH.all (rs := [2]) (by kernel_rfl) (by decide) ?_
      refine ⟨?_, trivial⟩
      · refine AO.callE (listed' := #[true, true, true, false, false]) rfl rfl rfl Try.func10 rfl rfl (ds := [.agg (cCore c)]) rfl (by simp [allL, D.all, Tok.all, allLL]) ?_
        refine toCore_ok c (by have := (szCore_bd _).1 c (Nat.lt_succ_self _) 1048576 (by omega); exact (this (by assumption)).1) ?_
        refine frame_same (Q := fun fr1 st1 => AH _ _ _ _ _ _ _ _ fr1 st1) ?_
        refine AH.all (rs := [3]) (by kernel_rfl) (by decide) ?_
        refine ⟨?_, trivial⟩
        · refine AO.callE (listed' := #[true, true, true, true, false]) rfl rfl rfl Try.func11 rfl rfl (ds := [.agg (cCore c), .agg (cCore c)]) rfl (by simp [allL, D.all, Tok.all, allLL]) ?_
          refine eqCore_ok c c  ?_
          refine frame_same (Q := fun fr1 st1 => AH _ _ _ _ _ _ _ _ fr1 st1) ?_
          refine AH.p 4 (listed' := #[true, true, true, true, true]) rfl (by kernel_rfl) (by kernel_rfl) (by kernel_rfl) rfl rfl (P.not rfl) ?_
          refine AH.done (by kernel_rfl) ?_
          refine AW.cond rfl (fun hc3 => ?_) (fun hc3 => ?_)
          · refine AW.seq ?_
            refine AW.region ?_
            refine AW.p rfl P.assign ?_
            refine AW.opsNil ?_
            refine AW.retE rfl rfl ?_
            exact kbool (by first | rfl | (exfalso; simp_all [usesI_uses, eqCore_refl])) hK
          · refine AW.skip ?_
            refine AW.seq ?_
            refine AW.region ?_
            refine AW.p rfl P.assign ?_
            refine AW.opsNil ?_
            refine AW.retE rfl rfl ?_
            exact hK
end Go.Mx
