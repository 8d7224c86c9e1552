/- What the functions that FnExactCoreDepth reaches answer. The conditions stand in each theorem. -/
import Derived.Test.YtbifcdaablhljaaMxT
import Derived.Test.YtbifcdaablhljaaProg
import Derived.KernelRfl
namespace Go.Mx
open Go.Proofs
set_option linter.unusedVariables false
set_option linter.unusedSimpArgs false
set_option maxRecDepth 10000
noncomputable def X : Setting := ⟨Try.prog, fun _ => .any, fun _ => rfl⟩
theorem mixed : X.P.follows .mixedOrders = true := by kernel_rfl
mutual
def depth : Core → Int
  | ⟨k, _, _, _, _, _, kids⟩ => if k = 5 then IntKind.i64.wrap (depths kids 0 + 1) else depths kids 0
def depths : List Core → Int → Int
  | [], n => n
  | c :: r, n => depths r (if depth c > n then depth c else n)
end
theorem depth_eq (c : Core) : depth c = if c.kind = 5 then IntKind.i64.wrap (depths c.kids 0 + 1) else depths c.kids 0 := by cases c; simp [depth]
mutual
def depthI : Core → Int
  | ⟨k, _, _, _, _, _, kids⟩ => if k = 5 then IntKind.i64.wrap (depthsI kids 0 + 1) else depthsI kids 0
def depthsI : List Core → Int → Int
  | [], n => n
  | c :: r, n => depthsI r (if depthI c > n then depthI c else n)
end
mutual
theorem depthI_depth : ∀ c : Core, depthI c = depth c
  | ⟨k, _, _, _, _, _, kids⟩ => by simp only [depthI, depth, depthsI_depths kids 0]
theorem depthsI_depths : ∀ (l : List Core) (n : Int), depthsI l n = depths l n
  | [], n => by simp only [depthsI, depths]
  | c :: r, n => by simp only [depthsI, depths, depthI_depth c, depthsI_depths r]
end
theorem depthI_eq (c : Core) : depthI c = if c.kind = 5 then IntKind.i64.wrap (depthsI c.kids 0 + 1) else depthsI c.kids 0 := by cases c; simp [depthI]

theorem ty3 : tShape Try.prog 3 = some (1, 8, .int .i64) := by kernel_rfl
theorem ty9 : tShape Try.prog 9 = some (1, 16, .str) := by kernel_rfl
theorem ty23 : tShape Try.prog 23 = some (1, 24, .slice 3) := by kernel_rfl
theorem ty24 : tShape Try.prog 24 = some (1, 24, .slice 26) := by kernel_rfl
theorem ty26 : tShape Try.prog 26 = some (5, 80, .struct [(0, 1), (1, 1), (2, 1), (3, 1), (4, 1)]) := by kernel_rfl
theorem ty27 : tShape Try.prog 27 = some (1, 24, .slice 29) := by kernel_rfl
theorem ty29 : tShape Try.prog 29 = some (11, 168, .struct [(0, 1), (1, 1), (2, 1), (3, 1), (4, 1), (5, 5), (10, 1)]) := by kernel_rfl
theorem ty33 : tShape Try.prog 33 = some (1, 24, .slice 35) := by kernel_rfl
theorem ty35 : tShape Try.prog 35 = some (5, 80, .struct [(0, 1), (1, 1), (2, 1), (3, 1), (4, 1)]) := by kernel_rfl
theorem ty36 : tShape Try.prog 36 = some (1, 24, .slice 38) := by kernel_rfl
theorem ty38 : tShape Try.prog 38 = some (11, 168, .struct [(0, 1), (1, 1), (2, 1), (3, 1), (4, 1), (5, 5), (10, 1)]) := by kernel_rfl
theorem tz3 : tZero Try.prog 3 = some [.int .i64 0] := by kernel_rfl
theorem tz26 : tZero Try.prog 26 = some [.int .i64 0, .string ⟨#[]⟩, .int .i64 0, .slice none 0 0, .slice none 0 0] := by kernel_rfl
theorem tz29 : tZero Try.prog 29 = some [.int .i64 0, .int .i64 0, .string ⟨#[]⟩, .int .i64 0, .slice none 0 0, .int .i64 0, .string ⟨#[]⟩, .int .i64 0, .slice none 0 0, .slice none 0 0, .slice none 0 0] := by kernel_rfl
theorem specDepth_grp (m : Nat) : (∀ (c : Core), SizeOf.sizeOf c < m → ∀ {st : St} {K : D → St → Prop}, K (.v (.int .i64 (depth c))) st → ACall X 8 [.agg (cCore c)] st K) := by
  induction m with
  | zero => intros; omega
  | succ m ih =>
    intro c hm st K hK
    refine acallE Try.func8 rfl rfl rfl (l := [(0, .agg (cCore c))]) (.same rfl .nil) ?_
    refine AW.seq ?_
    refine AW.region ?_
    refine AW.box rfl rfl rfl rfl rfl ?_
    refine AW.p rfl P.assign ?_
    refine AW.opsNil ?_
    refine AW.seq ?_
    refine AW.region ?_
    refine AW.p rfl P.assign ?_
    refine AW.opsNil ?_
    refine AW.seq ?_
    refine AW.seq ?_
    refine AW.region ?_
    refine AW.p rfl P.assign ?_
    refine AW.opsNil ?_
    refine AW.block ?_
    refine AW.loopE (ι := List Core × Int × Nat) (fun ⟨l, n, i⟩ => [(1, .bx (st.length, 1) 0), (3, .v (.int .i64 n)), (4, .v (.int .i64 ((i : Nat) : Int)))]) (fun ⟨l, n, i⟩ => [(1, .cells (cCore c))]) (fun ⟨l, n, i⟩ => c.kids.drop i = l ∧ depths l n = depths c.kids 0 ∧ i ≤ c.kids.length) (fun ⟨l, n, i⟩ => l.length) (c.kids, 0, 0) (.same rfl (.same rfl (.same rfl .nil))) rfl ⟨rfl, rfl, Nat.zero_le _⟩ ?_
    intro ⟨l, n, i⟩ ⟨hd, hn, hi⟩
    show AW _ _ (_ :: .goal _ :: _) _ (mkEnv [(1, .bx (st.length, 1) 0), (3, .v (.int .i64 n)), (4, .v (.int .i64 ((i : Nat) : Int)))]) (mkFr [(1, .cells (cCore c))] :: st)
    have hd : c.kids.drop i = l := hd
    have hn : depths l n = depths c.kids 0 := hn
    have hi : i ≤ c.kids.length := hi
    refine AW.seq ?_
    refine AW.seq ?_
    refine AW.region ?_
    refine AW.p rfl P.move ?_
    refine AW.p rfl (P.fieldAddr ty29 rfl (by decide) rfl) ?_
    refine AW.l rfl (L.load ty27 rfl rfl rfl (get_top.trans rfl) rfl) ?_
    refine AW.lenE ty27 rfl (coresD_length _) rfl (fun hl9 => ?_)
    refine AW.p rfl (P.bin rfl rfl rfl) ?_
    refine AW.opsNil ?_
    refine AW.condP rfl (fun h1 => ?_) (fun h1 => ?_)
    · obtain ⟨x, r, rfl, hx, hr⟩ := drop_cons hd (by omega)
      have hm := drop_len hd hi
      refine AW.skip ?_
      refine AW.seq ?_
      refine AW.block ?_
      refine AW.seq ?_
      refine AW.region ?_
      refine AW.p rfl (P.fieldAddr ty29 rfl (by decide) rfl) ?_
      refine AW.l rfl (L.load ty27 rfl rfl rfl (get_top.trans rfl) rfl) ?_
      refine AW.p rfl P.move ?_
      refine AW.p rfl (P.indexA ty27 ty29 rfl rfl (by rw [coresD_get, hx]; rfl)) ?_
      refine AW.l rfl (L.loadRS ty29 rfl rfl rfl rfl) ?_
      refine AW.call rfl Try.func8 rfl rfl rfl ?_
      refine ih x (by have := sz_get hx; have := sz_kids c; omega)  ?_
      refine AW.p rfl P.assign ?_
      refine AW.opsNil ?_
      refine AW.norm [(1, .bx (st.length, 1) 0), (3, .v (.int .i64 n)), (4, .v (.int .i64 ((i : Nat) : Int))), (5, .v (.int .i64 (depth x)))] [(1, .cells (cCore c))] (.same rfl (.same rfl (.same rfl (.same rfl .nil)))) rfl ?_
      refine AW.seq ?_
      refine AW.region ?_
      refine AW.p rfl P.move ?_
      refine AW.p rfl P.move ?_
      refine AW.p rfl (P.bin rfl rfl rfl) ?_
      refine AW.opsNil ?_
      refine AW.cutE [(1, .bx (st.length, 1) 0), (3, .v (.int .i64 (if (depth x) > n then (depth x) else n))), (4, .v (.int .i64 ((i : Nat) : Int)))] [(1, .cells (cCore c))] True ?_ (fun _ => ?_)
      · refine AW.condP rfl (fun h2 => ?_) (fun h2 => ?_)
        · refine AW.region ?_
          refine AW.p rfl P.move ?_
          refine AW.p rfl P.assign ?_
          refine AW.opsNil ?_
          exact AW.meet (.same rfl (.cons (Wk.eq (by show D.v (.int .i64 (depth x)) = _; rw [if_pos h2])) (.same rfl .nil))) rfl trivial
        · refine AW.skip ?_
          exact AW.meet (.same rfl (.cons (Wk.eq (by show D.v (.int .i64 n) = _; rw [if_neg h2])) (.same rfl .nil))) rfl trivial
      · refine AW.inBlock ?_
        refine AW.region ?_
        refine AW.p rfl P.move ?_
        refine AW.p rfl (P.addN (c := i + 1) rfl rfl rfl (by omega)) ?_
        refine AW.p rfl P.assign ?_
        refine AW.opsNil ?_
        exact AW.next (r, (if (depth x) > n then (depth x) else n), (i + 1)) (.same rfl (.same rfl (.same rfl .nil))) rfl (Nat.lt_succ_self _) ⟨hr, by rw [← hn]; simp [depths], by omega⟩
    · have hl := drop_nil hd (by omega)
      subst hl
      refine AW.exit rfl ?_
      refine AW.seq ?_
      refine AW.seq ?_
      refine AW.region ?_
      refine AW.p rfl (P.fieldAddr ty29 rfl (by decide) rfl) ?_
      refine AW.l rfl (L.load ty3 rfl rfl rfl (get_top.trans rfl) rfl) ?_
      refine AW.p rfl (P.eqI rfl rfl) ?_
      refine AW.opsNil ?_
      refine AW.norm [(3, .v (.int .i64 n)), (25, .v (.bool (decide (c.kind = 5))))] [(1, .cells (cCore c))] (.same rfl (.same rfl .nil)) rfl ?_
      refine AW.condP rfl (fun h3 => ?_) (fun h3 => ?_)
      · refine AW.seq ?_
        refine AW.region ?_
        refine AW.p rfl P.move ?_
        refine AW.p rfl (P.bin rfl rfl rfl) ?_
        refine AW.p rfl P.assign ?_
        refine AW.opsNil ?_
        refine AW.ret rfl rfl ?_
        exact kint (by simp_all [depth_eq, depths]) hK
      · refine AW.skip ?_
        refine AW.seq ?_
        refine AW.region ?_
        refine AW.p rfl P.move ?_
        refine AW.p rfl P.assign ?_
        refine AW.opsNil ?_
        refine AW.ret rfl rfl ?_
        exact kint (by simp_all [depth_eq, depths]) hK
theorem specDepth_ok : ∀ (c : Core), ∀ {st : St} {K : D → St → Prop}, K (.v (.int .i64 (depth c))) st → ACall X 8 [.agg (cCore c)] st K :=
  fun c _ _ hK => (specDepth_grp _) c (Nat.lt_succ_self _)  hK
theorem implDepth_grp (m : Nat) : (∀ (c : Core), SizeOf.sizeOf c < m → ∀ {st : St} {K : D → St → Prop}, K (.v (.int .i64 (depthI c))) st → ACall X 7 [.agg (cCore c)] st K) := by
  induction m with
  | zero => intros; omega
  | succ m ih =>
    intro c hm st K hK
    refine acallE Try.func7 rfl rfl rfl (l := [(0, .agg (cCore c))]) (.same rfl .nil) ?_
    refine AW.seq ?_
    refine AW.region ?_
    refine AW.box rfl rfl rfl rfl rfl ?_
    refine AW.p rfl P.assign ?_
    refine AW.opsNil ?_
    refine AW.seq ?_
    refine AW.region ?_
    refine AW.p rfl P.assign ?_
    refine AW.opsNil ?_
    refine AW.seq ?_
    refine AW.seq ?_
    refine AW.region ?_
    refine AW.p rfl (P.fieldAddr ty29 rfl (by decide) rfl) ?_
    refine AW.l rfl (L.load ty27 rfl rfl rfl (get_top.trans rfl) rfl) ?_
    refine AW.lenE ty27 rfl (coresD_length _) rfl (fun hl8 => ?_)
    refine AW.p rfl P.move ?_
    refine AW.opsNil ?_
    refine AW.block ?_
    refine AW.loopE (ι := List Core × Int × Nat) (fun ⟨l, n, i⟩ => [(1, .bx (st.length, 1) 0), (3, .v (.int .i64 n)), (7, .sl 11 .ro (coresD c.kids)), (8, .v (.int .i64 ((c.kids.length : Nat) : Int))), (9, .v (.int .i64 ((i : Nat) : Int)))]) (fun ⟨l, n, i⟩ => [(1, .cells (cCore c))]) (fun ⟨l, n, i⟩ => c.kids.drop i = l ∧ depthsI l n = depthsI c.kids 0 ∧ i ≤ c.kids.length) (fun ⟨l, n, i⟩ => l.length) (c.kids, 0, 0) (.same rfl (.same rfl (.same rfl (.same rfl (.same rfl .nil))))) rfl ⟨rfl, rfl, Nat.zero_le _⟩ ?_
    intro ⟨l, n, i⟩ ⟨hd, hn, hi⟩
    show AW _ _ (_ :: .goal _ :: _) _ (mkEnv [(1, .bx (st.length, 1) 0), (3, .v (.int .i64 n)), (7, .sl 11 .ro (coresD c.kids)), (8, .v (.int .i64 ((c.kids.length : Nat) : Int))), (9, .v (.int .i64 ((i : Nat) : Int)))]) (mkFr [(1, .cells (cCore c))] :: st)
    have hd : c.kids.drop i = l := hd
    have hn : depthsI l n = depthsI c.kids 0 := hn
    have hi : i ≤ c.kids.length := hi
    refine AW.seq ?_
    refine AW.region ?_
    refine AW.p rfl (P.bin rfl rfl rfl) ?_
    refine AW.opsNil ?_
    refine AW.seq ?_
    refine AW.condP rfl (fun h1 => ?_) (fun h1 => ?_)
    · obtain ⟨x, r, rfl, hx, hr⟩ := drop_cons hd (by omega)
      have hm := drop_len hd hi
      refine AW.skip ?_
      refine AW.seq ?_
      refine AW.block ?_
      refine AW.seq ?_
      refine AW.region ?_
      refine AW.p rfl (P.indexA ty27 ty29 rfl rfl (by rw [coresD_get, hx]; rfl)) ?_
      refine AW.l rfl (L.loadRS ty29 rfl rfl rfl rfl) ?_
      refine AW.alloc rfl tz29 (.v (.v (.v (.v (.sl (sz := 1) (.v (.v (.v (.sl (sz := 1) (.sl (sz := 5) (.sl (sz := 11) .nil))))))))))) rfl rfl rfl ?_
      refine AW.store ty29 rfl rfl rfl rfl rfl rfl rfl rfl rfl rfl ?_
      refine AW.opsNil ?_
      refine AW.norm [(1, .bx (st.length, 1) 0), (3, .v (.int .i64 n)), (5, .bx (st.length, 5) 0), (7, .sl 11 .ro (coresD c.kids)), (8, .v (.int .i64 ((c.kids.length : Nat) : Int))), (9, .v (.int .i64 ((i : Nat) : Int)))] [(1, .cells (cCore c)), (5, .cells (cCore x))] (.same rfl (.same rfl (.same rfl (.same rfl (.same rfl (.same rfl .nil)))))) rfl ?_
      refine AW.region ?_
      refine AW.p rfl P.move ?_
      refine AW.l rfl (L.loadS ty29 rfl rfl rfl (get_top.trans rfl) rfl rfl) ?_
      refine AW.call rfl Try.func7 rfl rfl rfl ?_
      refine ih x (by have := sz_get hx; have := sz_kids c; omega)  ?_
      refine AW.p rfl (P.maxI rfl rfl) ?_
      refine AW.p rfl P.assign ?_
      refine AW.opsNil ?_
      refine AW.inBlock ?_
      refine AW.region ?_
      refine AW.p rfl (P.addN (c := i + 1) rfl rfl rfl (by omega)) ?_
      refine AW.p rfl P.move ?_
      refine AW.opsNil ?_
      refine AW.dropE (l := [(1, .bx (st.length, 1) 0), (3, .v (.int .i64 (if (depthI x) > n then (depthI x) else n))), (7, .sl 11 .ro (coresD c.kids)), (8, .v (.int .i64 ((c.kids.length : Nat) : Int))), (9, .v (.int .i64 (((i + 1) : Nat) : Int)))]) (f' := [(1, .cells (cCore c))]) 5 (.same rfl (.same rfl (.same rfl (.same rfl (.same rfl .nil))))) (by simp [allE, D.all, Tok.all, allL, allLL, notKey]) rfl (by simp [allF, D.all, Tok.all, allL, allLL, notKey]) ?_
      exact AW.next (r, (if (depthI x) > n then (depthI x) else n), (i + 1)) (.same rfl (.same rfl (.same rfl (.same rfl (.same rfl .nil))))) rfl (Nat.lt_succ_self _) ⟨hr, by rw [← hn]; simp [depthsI], by omega⟩
    · have hl := drop_nil hd (by omega)
      subst hl
      refine AW.exit rfl ?_
      refine AW.seq ?_
      refine AW.seq ?_
      refine AW.region ?_
      refine AW.p rfl (P.fieldAddr ty29 rfl (by decide) rfl) ?_
      refine AW.l rfl (L.load ty3 rfl rfl rfl (get_top.trans rfl) rfl) ?_
      refine AW.p rfl (P.eqI rfl rfl) ?_
      refine AW.opsNil ?_
      refine AW.norm [(3, .v (.int .i64 n)), (20, .v (.bool (decide (c.kind = 5))))] [(1, .cells (cCore c))] (.same rfl (.same rfl .nil)) rfl ?_
      refine AW.cutE [(3, .v (.int .i64 (if c.kind = 5 then (IntKind.i64.wrap (n + 1)) else n)))] [(1, .cells (cCore c))] True ?_ (fun _ => ?_)
      · refine AW.condP rfl (fun h2 => ?_) (fun h2 => ?_)
        · refine AW.region ?_
          refine AW.p rfl P.move ?_
          refine AW.p rfl (P.bin rfl rfl rfl) ?_
          refine AW.p rfl P.assign ?_
          refine AW.opsNil ?_
          exact AW.meet (.cons (Wk.eq (by show D.v (.int .i64 (IntKind.i64.wrap (n + 1))) = _; rw [if_pos h2])) .nil) rfl trivial
        · refine AW.skip ?_
          exact AW.meet (.cons (Wk.eq (by show D.v (.int .i64 n) = _; rw [if_neg h2])) .nil) rfl trivial
      · refine AW.seq ?_
        refine AW.region ?_
        refine AW.p rfl P.move ?_
        refine AW.p rfl P.assign ?_
        refine AW.opsNil ?_
        refine AW.ret rfl rfl ?_
        exact kint (by simp_all [depthI_eq, depthsI]) hK
theorem implDepth_ok : ∀ (c : Core), ∀ {st : St} {K : D → St → Prop}, K (.v (.int .i64 (depthI c))) st → ACall X 7 [.agg (cCore c)] st K :=
  fun c _ _ hK => (implDepth_grp _) c (Nat.lt_succ_self _)  hK
theorem szInts_ok : ∀ (l : List Int) (n : Int), 0 ≤ n ∧ n ≤ 1048576 → ∀ {st : St} {K : D → St → Prop}, K (.v (.int .i64 (szInts l n))) st → ACall X 15 [.sl 1 .ro (intsD l), .v (.int .i64 n)] st K := by
  intro l n h0 st K hK
  refine acallE Try.func15 rfl rfl rfl (l := [(0, .sl 1 .ro (intsD l)), (1, .v (.int .i64 n))]) (.same rfl (.same rfl .nil)) ?_
  refine AW.seq ?_
  refine AW.region ?_
  refine AW.p rfl P.assign ?_
  refine AW.opsNil ?_
  refine AW.seq ?_
  refine AW.region ?_
  refine AW.p rfl P.move ?_
  refine AW.p rfl P.move ?_
  refine AW.lenE ty23 rfl (intsD_length _) rfl (fun hl7 => ?_)
  refine AW.p rfl (P.sub rfl rfl (by omega) (by omega)) ?_
  refine AW.p rfl P.assign ?_
  refine AW.opsNil ?_
  refine AW.seq ?_
  refine AW.seq ?_
  refine AW.region ?_
  refine AW.p rfl P.move ?_
  refine AW.p rfl (P.bin rfl rfl rfl) ?_
  refine AW.opsNil ?_
  refine AW.condP rfl (fun h1 => ?_) (fun h1 => ?_)
  · refine AW.seq ?_
    refine AW.region ?_
    refine AW.p rfl P.assign ?_
    refine AW.opsNil ?_
    refine AW.ret rfl rfl ?_
    exact kint (by unfold szInts; repeat first | rw [if_neg (by omega)] | rw [if_pos (by omega)]) hK
  · refine AW.skip ?_
    refine AW.seq ?_
    refine AW.region ?_
    refine AW.p rfl P.move ?_
    refine AW.p rfl P.assign ?_
    refine AW.opsNil ?_
    refine AW.ret rfl rfl ?_
    exact kint (by unfold szInts; repeat first | rw [if_neg (by omega)] | rw [if_pos (by omega)]) hK
theorem szForm_grp (m : Nat) : (∀ (f : Form) (n : Int), SizeOf.sizeOf f < m → 0 ≤ n ∧ n ≤ 1048576 → okForm f → ∀ {st : St} {K : D → St → Prop}, K (.v (.int .i64 (szForm f n))) st → ACall X 16 [.agg (cForm f), .v (.int .i64 n)] st K) ∧ (∀ (l : List Form) (n : Int), SizeOf.sizeOf l < m → 0 ≤ n ∧ n ≤ 1048576 → okForms l → ∀ {st : St} {K : D → St → Prop}, K (.v (.int .i64 (szForms l (n - l.length)))) st → ACall X 31 [.sl 5 .ro (formsD l), .v (.int .i64 n)] st K) := by
  induction m with
  | zero => exact ⟨by intros; omega, by intros; omega⟩
  | succ m ih =>
    refine ⟨?_, ?_⟩
    · intro f n hm h0 hok st K hK
      obtain ⟨hnm, hk⟩ := (okForm_eq f).1 hok
      refine acallE Try.func16 rfl rfl rfl (l := [(0, .agg (cForm f)), (1, .v (.int .i64 n))]) (.same rfl (.same rfl .nil)) ?_
      refine AW.seq ?_
      refine AW.region ?_
      refine AW.box rfl rfl rfl rfl rfl ?_
      refine AW.p rfl P.assign ?_
      refine AW.opsNil ?_
      refine AW.seq ?_
      refine AW.region ?_
      refine AW.p rfl P.move ?_
      refine AW.p rfl (P.fieldAddr ty35 rfl (by decide) rfl) ?_
      refine AW.l rfl (L.load ty9 rfl rfl rfl (get_top.trans rfl) rfl) ?_
      refine AW.p rfl (P.lenS ty9 rfl) ?_
      refine AW.p rfl (P.sub rfl rfl (by omega) (by omega)) ?_
      refine AW.p rfl P.assign ?_
      refine AW.opsNil ?_
      refine AW.seq ?_
      refine AW.seq ?_
      refine AW.region ?_
      refine AW.p rfl P.move ?_
      refine AW.p rfl (P.bin rfl rfl rfl) ?_
      refine AW.opsNil ?_
      refine AW.norm [(1, .v (.int .i64 (n - ((f.name.size : Nat) : Int)))), (2, .bx (st.length, 2) 0), (11, .v (.bool (decide ((n - ((f.name.size : Nat) : Int)) < 0))))] [(2, .cells (cForm f))] (.same rfl (.same rfl (.same rfl .nil))) rfl ?_
      refine AW.condP rfl (fun h1 => ?_) (fun h1 => ?_)
      · refine AW.seq ?_
        refine AW.region ?_
        refine AW.p rfl P.assign ?_
        refine AW.opsNil ?_
        refine AW.ret rfl rfl ?_
        exact kint (by rw [szForm_eq]; repeat first | rw [if_neg (by omega)] | rw [if_pos (by omega)]) hK
      · refine AW.skip ?_
        refine AW.seq ?_
        refine AW.region ?_
        refine AW.p rfl (P.fieldAddr ty35 rfl (by decide) rfl) ?_
        refine AW.l rfl (L.load ty23 rfl rfl rfl (get_top.trans rfl) rfl) ?_
        refine AW.p rfl P.move ?_
        refine AW.call rfl Try.func15 rfl rfl rfl ?_
        refine szInts_ok f.scopes (n - ((f.name.size : Nat) : Int)) (by omega) ?_
        have := szInts_le f.scopes (n - ((f.name.size : Nat) : Int)) (by omega)
        refine AW.p rfl P.assign ?_
        refine AW.opsNil ?_
        refine AW.seq ?_
        refine AW.seq ?_
        refine AW.region ?_
        refine AW.p rfl P.move ?_
        refine AW.p rfl (P.bin rfl rfl rfl) ?_
        refine AW.opsNil ?_
        refine AW.condP rfl (fun h2 => ?_) (fun h2 => ?_)
        · refine AW.seq ?_
          refine AW.region ?_
          refine AW.p rfl P.assign ?_
          refine AW.opsNil ?_
          refine AW.ret rfl rfl ?_
          exact kint (by rw [szForm_eq]; repeat first | rw [if_neg (by omega)] | rw [if_pos (by omega)]) hK
        · refine AW.skip ?_
          refine AW.seq ?_
          refine AW.region ?_
          refine AW.p rfl (P.fieldAddr ty35 rfl (by decide) rfl) ?_
          refine AW.l rfl (L.load ty33 rfl rfl rfl (get_top.trans rfl) rfl) ?_
          refine AW.p rfl P.move ?_
          refine AW.call rfl Try.func31 rfl rfl rfl ?_
          refine ih.2 f.kids (szInts f.scopes (n - ((f.name.size : Nat) : Int))) (by have := sz_fkids f; omega) (by omega) hk ?_
          refine AW.p rfl P.assign ?_
          refine AW.opsNil ?_
          refine AW.norm [(1, .v (.int .i64 (szForms f.kids ((szInts f.scopes (n - ((f.name.size : Nat) : Int))) - f.kids.length))))] [(2, .cells (cForm f))] (.same rfl .nil) rfl ?_
          refine AW.seq ?_
          refine AW.seq ?_
          refine AW.region ?_
          refine AW.p rfl P.move ?_
          refine AW.p rfl (P.bin rfl rfl rfl) ?_
          refine AW.opsNil ?_
          refine AW.condP rfl (fun h3 => ?_) (fun h3 => ?_)
          · refine AW.seq ?_
            refine AW.region ?_
            refine AW.p rfl P.assign ?_
            refine AW.opsNil ?_
            refine AW.ret rfl rfl ?_
            exact kint (by rw [szForm_eq]; repeat first | rw [if_neg (by omega)] | rw [if_pos (by omega)]) hK
          · refine AW.skip ?_
            refine AW.seq ?_
            refine AW.region ?_
            refine AW.p rfl P.move ?_
            refine AW.p rfl P.assign ?_
            refine AW.opsNil ?_
            refine AW.ret rfl rfl ?_
            exact kint (by rw [szForm_eq]; repeat first | rw [if_neg (by omega)] | rw [if_pos (by omega)]) hK
    · intro l n hm h0 hok st K hK
      refine acallE Try.func31 rfl rfl rfl (l := [(0, .sl 5 .ro (formsD l)), (1, .v (.int .i64 n))]) (.same rfl (.same rfl .nil)) ?_
      refine AW.seq ?_
      refine AW.region ?_
      refine AW.p rfl P.assign ?_
      refine AW.opsNil ?_
      refine AW.seq ?_
      refine AW.region ?_
      refine AW.p rfl P.move ?_
      refine AW.p rfl P.move ?_
      refine AW.lenE ty33 rfl (formsD_length _) rfl (fun hl8 => ?_)
      refine AW.p rfl (P.sub rfl rfl (by omega) (by omega)) ?_
      refine AW.p rfl P.assign ?_
      refine AW.opsNil ?_
      refine AW.seq ?_
      refine AW.seq ?_
      refine AW.region ?_
      refine AW.p rfl P.move ?_
      refine AW.p rfl (P.bin rfl rfl rfl) ?_
      refine AW.opsNil ?_
      refine AW.condP rfl (fun h1 => ?_) (fun h1 => ?_)
      · refine AW.seq ?_
        refine AW.region ?_
        refine AW.p rfl P.assign ?_
        refine AW.opsNil ?_
        refine AW.ret rfl rfl ?_
        exact kint (by first | (rw [← hn]; simp only [szForms]; repeat first | rw [if_neg (by omega)] | rw [if_pos (by omega)]) | (cases l <;> simp only [szForms] <;> rw [if_pos (by omega)])) hK
      · refine AW.skip ?_
        refine AW.seq ?_
        refine AW.seq ?_
        refine AW.region ?_
        refine AW.p rfl P.assign ?_
        refine AW.opsNil ?_
        refine AW.block ?_
        refine AW.loopE (ι := List Form × Int × Nat) (fun ⟨q, a, i⟩ => [(0, .sl 5 .ro (formsD l)), (1, .v (.int .i64 a)), (5, .v (.int .i64 ((i : Nat) : Int)))]) (fun ⟨q, a, i⟩ => []) (fun ⟨q, a, i⟩ => l.drop i = q ∧ szForms q a = szForms l (n - l.length) ∧ i ≤ l.length ∧ 0 ≤ a ∧ a ≤ 1048576) (fun ⟨q, a, i⟩ => q.length) (l, (n - l.length), 0) (.same rfl (.same rfl (.same rfl .nil))) rfl ⟨rfl, rfl, Nat.zero_le _, by omega⟩ ?_
        intro ⟨q, a, i⟩ ⟨hd, hn, hi, ha⟩
        show AW _ _ (_ :: .goal _ :: _) _ (mkEnv [(0, .sl 5 .ro (formsD l)), (1, .v (.int .i64 a)), (5, .v (.int .i64 ((i : Nat) : Int)))]) (mkFr [] :: st)
        have hd : l.drop i = q := hd
        have hn : szForms q a = szForms l (n - l.length) := hn
        have hi : i ≤ l.length := hi
        have ha : 0 ≤ a ∧ a ≤ 1048576 := ha
        refine AW.seq ?_
        refine AW.seq ?_
        refine AW.region ?_
        refine AW.p rfl P.move ?_
        refine AW.p rfl P.move ?_
        refine AW.lenE ty33 rfl (formsD_length _) rfl (fun hl14 => ?_)
        refine AW.p rfl (P.bin rfl rfl rfl) ?_
        refine AW.opsNil ?_
        refine AW.norm [(0, .sl 5 .ro (formsD l)), (1, .v (.int .i64 a)), (5, .v (.int .i64 ((i : Nat) : Int))), (15, .v (.bool (decide (((i : Nat) : Int) < ((l.length : Nat) : Int)))))] [] (.same rfl (.same rfl (.same rfl (.same rfl .nil)))) rfl ?_
        refine AW.condP rfl (fun h2 => ?_) (fun h2 => ?_)
        · obtain ⟨x, r, rfl, hx, hr⟩ := drop_cons hd (by omega)
          have hm := drop_len hd hi
          refine AW.skip ?_
          refine AW.seq ?_
          refine AW.block ?_
          refine AW.seq ?_
          refine AW.region ?_
          refine AW.p rfl P.move ?_
          refine AW.p rfl P.move ?_
          refine AW.p rfl (P.indexA ty33 ty35 rfl rfl (by rw [formsD_get, hx]; rfl)) ?_
          refine AW.l rfl (L.loadRS ty35 rfl rfl rfl rfl) ?_
          refine AW.p rfl P.move ?_
          refine AW.call rfl Try.func16 rfl rfl rfl ?_
          refine ih.1 x a (by have := sz_get hx; omega) (by omega) (okForms_get hok hx) ?_
          have := szForm_leq x a (by omega)
          refine AW.p rfl P.assign ?_
          refine AW.opsNil ?_
          refine AW.seq ?_
          refine AW.region ?_
          refine AW.p rfl P.move ?_
          refine AW.p rfl (P.bin rfl rfl rfl) ?_
          refine AW.opsNil ?_
          refine AW.condP rfl (fun h3 => ?_) (fun h3 => ?_)
          · refine AW.seq ?_
            refine AW.region ?_
            refine AW.p rfl P.assign ?_
            refine AW.opsNil ?_
            refine AW.ret rfl rfl ?_
            exact kint (by first | (rw [← hn]; simp only [szForms]; repeat first | rw [if_neg (by omega)] | rw [if_pos (by omega)]) | (cases l <;> simp only [szForms] <;> rw [if_pos (by omega)])) hK
          · refine AW.skip ?_
            refine AW.inBlock ?_
            refine AW.region ?_
            refine AW.p rfl P.move ?_
            refine AW.p rfl (P.addN (c := i + 1) rfl rfl rfl (by omega)) ?_
            refine AW.p rfl P.assign ?_
            refine AW.opsNil ?_
            exact AW.next (r, (szForm x a), (i + 1)) (.same rfl (.same rfl (.same rfl .nil))) rfl (Nat.lt_succ_self _) ⟨hr, by rw [← hn]; simp only [szForms]; rw [if_neg (by omega), if_neg (by omega)], by omega, by omega⟩
        · have hl := drop_nil hd (by omega)
          subst hl
          refine AW.exit rfl ?_
          refine AW.seq ?_
          refine AW.region ?_
          refine AW.p rfl P.move ?_
          refine AW.p rfl P.assign ?_
          refine AW.opsNil ?_
          refine AW.ret rfl rfl ?_
          exact kint (by first | (rw [← hn]; simp only [szForms]; repeat first | rw [if_neg (by omega)] | rw [if_pos (by omega)]) | (cases l <;> simp only [szForms] <;> rw [if_pos (by omega)])) hK
theorem szForm_ok : ∀ (f : Form) (n : Int), 0 ≤ n ∧ n ≤ 1048576 → okForm f → ∀ {st : St} {K : D → St → Prop}, K (.v (.int .i64 (szForm f n))) st → ACall X 16 [.agg (cForm f), .v (.int .i64 n)] st K :=
  fun f n h0 hok _ _ hK => (szForm_grp _).1 f n (Nat.lt_succ_self _) h0 hok hK
theorem szForms_ok : ∀ (l : List Form) (n : Int), 0 ≤ n ∧ n ≤ 1048576 → okForms l → ∀ {st : St} {K : D → St → Prop}, K (.v (.int .i64 (szForms l (n - l.length)))) st → ACall X 31 [.sl 5 .ro (formsD l), .v (.int .i64 n)] st K :=
  fun l n h0 hok _ _ hK => (szForm_grp _).2 l n (Nat.lt_succ_self _) h0 hok hK
theorem szCore_grp (m : Nat) : (∀ (f : Core) (n : Int), SizeOf.sizeOf f < m → 0 ≤ n ∧ n ≤ 1048576 → okCore f → ∀ {st : St} {K : D → St → Prop}, K (.v (.int .i64 (szCore f n))) st → ACall X 9 [.agg (cCore f), .v (.int .i64 n)] st K) ∧ (∀ (l : List Core) (n : Int), SizeOf.sizeOf l < m → 0 ≤ n ∧ n ≤ 1048576 → okCores l → ∀ {st : St} {K : D → St → Prop}, K (.v (.int .i64 (szCores l (n - l.length)))) st → ACall X 17 [.sl 11 .ro (coresD l), .v (.int .i64 n)] st K) := by
  induction m with
  | zero => exact ⟨by intros; omega, by intros; omega⟩
  | succ m ih =>
    refine ⟨?_, ?_⟩
    · intro f n hm h0 hok st K hK
      obtain ⟨hnm, hdt, hk⟩ := (okCore_eq f).1 hok
      refine acallE Try.func9 rfl rfl rfl (l := [(0, .agg (cCore f)), (1, .v (.int .i64 n))]) (.same rfl (.same rfl .nil)) ?_
      refine AW.seq ?_
      refine AW.region ?_
      refine AW.box rfl rfl rfl rfl rfl ?_
      refine AW.p rfl P.assign ?_
      refine AW.opsNil ?_
      refine AW.seq ?_
      refine AW.region ?_
      refine AW.p rfl P.move ?_
      refine AW.p rfl (P.fieldAddr ty38 rfl (by decide) rfl) ?_
      refine AW.l rfl (L.load ty9 rfl rfl rfl (get_top.trans rfl) rfl) ?_
      refine AW.p rfl (P.lenS ty9 rfl) ?_
      refine AW.p rfl (P.sub rfl rfl (by omega) (by omega)) ?_
      refine AW.p rfl P.assign ?_
      refine AW.opsNil ?_
      refine AW.seq ?_
      refine AW.seq ?_
      refine AW.region ?_
      refine AW.p rfl P.move ?_
      refine AW.p rfl (P.bin rfl rfl rfl) ?_
      refine AW.opsNil ?_
      refine AW.norm [(1, .v (.int .i64 (n - ((f.name.size : Nat) : Int)))), (2, .bx (st.length, 2) 0), (11, .v (.bool (decide ((n - ((f.name.size : Nat) : Int)) < 0))))] [(2, .cells (cCore f))] (.same rfl (.same rfl (.same rfl .nil))) rfl ?_
      refine AW.condP rfl (fun h1 => ?_) (fun h1 => ?_)
      · refine AW.seq ?_
        refine AW.region ?_
        refine AW.p rfl P.assign ?_
        refine AW.opsNil ?_
        refine AW.ret rfl rfl ?_
        exact kint (by rw [szCore_eq]; repeat first | rw [if_neg (by omega)] | rw [if_pos (by omega)]) hK
      · refine AW.skip ?_
        refine AW.seq ?_
        refine AW.region ?_
        refine AW.p rfl (P.fieldAddr ty38 rfl (by decide) rfl) ?_
        refine AW.l rfl (L.load ty23 rfl rfl rfl (get_top.trans rfl) rfl) ?_
        refine AW.p rfl P.move ?_
        refine AW.call rfl Try.func15 rfl rfl rfl ?_
        refine szInts_ok f.ids (n - ((f.name.size : Nat) : Int)) (by omega) ?_
        have := szInts_le f.ids (n - ((f.name.size : Nat) : Int)) (by omega)
        refine AW.p rfl P.assign ?_
        refine AW.opsNil ?_
        refine AW.seq ?_
        refine AW.seq ?_
        refine AW.region ?_
        refine AW.p rfl P.move ?_
        refine AW.p rfl (P.bin rfl rfl rfl) ?_
        refine AW.opsNil ?_
        refine AW.condP rfl (fun h2 => ?_) (fun h2 => ?_)
        · refine AW.seq ?_
          refine AW.region ?_
          refine AW.p rfl P.assign ?_
          refine AW.opsNil ?_
          refine AW.ret rfl rfl ?_
          exact kint (by rw [szCore_eq]; repeat first | rw [if_neg (by omega)] | rw [if_pos (by omega)]) hK
        · refine AW.skip ?_
          refine AW.seq ?_
          refine AW.region ?_
          refine AW.p rfl (P.fieldAddr ty38 rfl (by decide) rfl) ?_
          refine AW.l rfl (L.loadS ty35 rfl rfl rfl (get_top.trans rfl) rfl rfl) ?_
          refine AW.p rfl P.move ?_
          refine AW.call rfl Try.func16 rfl rfl rfl ?_
          refine szForm_ok f.data (szInts f.ids (n - ((f.name.size : Nat) : Int))) (by omega) hdt ?_
          have := szForm_leq f.data (szInts f.ids (n - ((f.name.size : Nat) : Int))) (by omega)
          refine AW.p rfl P.assign ?_
          refine AW.opsNil ?_
          refine AW.norm [(1, .v (.int .i64 (szForm f.data (szInts f.ids (n - ((f.name.size : Nat) : Int)))))), (2, .bx (st.length, 2) 0)] [(2, .cells (cCore f))] (.same rfl (.same rfl .nil)) rfl ?_
          refine AW.seq ?_
          refine AW.seq ?_
          refine AW.region ?_
          refine AW.p rfl P.move ?_
          refine AW.p rfl (P.bin rfl rfl rfl) ?_
          refine AW.opsNil ?_
          refine AW.condP rfl (fun h3 => ?_) (fun h3 => ?_)
          · refine AW.seq ?_
            refine AW.region ?_
            refine AW.p rfl P.assign ?_
            refine AW.opsNil ?_
            refine AW.ret rfl rfl ?_
            exact kint (by rw [szCore_eq]; repeat first | rw [if_neg (by omega)] | rw [if_pos (by omega)]) hK
          · refine AW.skip ?_
            refine AW.seq ?_
            refine AW.region ?_
            refine AW.p rfl (P.fieldAddr ty38 rfl (by decide) rfl) ?_
            refine AW.l rfl (L.load ty36 rfl rfl rfl (get_top.trans rfl) rfl) ?_
            refine AW.p rfl P.move ?_
            refine AW.call rfl Try.func17 rfl rfl rfl ?_
            refine ih.2 f.kids (szForm f.data (szInts f.ids (n - ((f.name.size : Nat) : Int)))) (by have := sz_kids f; omega) (by omega) hk ?_
            refine AW.p rfl P.assign ?_
            refine AW.opsNil ?_
            refine AW.seq ?_
            refine AW.seq ?_
            refine AW.region ?_
            refine AW.p rfl P.move ?_
            refine AW.p rfl (P.bin rfl rfl rfl) ?_
            refine AW.opsNil ?_
            refine AW.condP rfl (fun h4 => ?_) (fun h4 => ?_)
            · refine AW.seq ?_
              refine AW.region ?_
              refine AW.p rfl P.assign ?_
              refine AW.opsNil ?_
              refine AW.ret rfl rfl ?_
              exact kint (by rw [szCore_eq]; repeat first | rw [if_neg (by omega)] | rw [if_pos (by omega)]) hK
            · refine AW.skip ?_
              refine AW.seq ?_
              refine AW.region ?_
              refine AW.p rfl P.move ?_
              refine AW.p rfl P.assign ?_
              refine AW.opsNil ?_
              refine AW.ret rfl rfl ?_
              exact kint (by rw [szCore_eq]; repeat first | rw [if_neg (by omega)] | rw [if_pos (by omega)]) hK
    · intro l n hm h0 hok st K hK
      refine acallE Try.func17 rfl rfl rfl (l := [(0, .sl 11 .ro (coresD l)), (1, .v (.int .i64 n))]) (.same rfl (.same rfl .nil)) ?_
      refine AW.seq ?_
      refine AW.region ?_
      refine AW.p rfl P.assign ?_
      refine AW.opsNil ?_
      refine AW.seq ?_
      refine AW.region ?_
      refine AW.p rfl P.move ?_
      refine AW.p rfl P.move ?_
      refine AW.lenE ty36 rfl (coresD_length _) rfl (fun hl8 => ?_)
      refine AW.p rfl (P.sub rfl rfl (by omega) (by omega)) ?_
      refine AW.p rfl P.assign ?_
      refine AW.opsNil ?_
      refine AW.seq ?_
      refine AW.seq ?_
      refine AW.region ?_
      refine AW.p rfl P.move ?_
      refine AW.p rfl (P.bin rfl rfl rfl) ?_
      refine AW.opsNil ?_
      refine AW.condP rfl (fun h1 => ?_) (fun h1 => ?_)
      · refine AW.seq ?_
        refine AW.region ?_
        refine AW.p rfl P.assign ?_
        refine AW.opsNil ?_
        refine AW.ret rfl rfl ?_
        exact kint (by first | (rw [← hn]; simp only [szCores]; repeat first | rw [if_neg (by omega)] | rw [if_pos (by omega)]) | (cases l <;> simp only [szCores] <;> rw [if_pos (by omega)])) hK
      · refine AW.skip ?_
        refine AW.seq ?_
        refine AW.seq ?_
        refine AW.region ?_
        refine AW.p rfl P.assign ?_
        refine AW.opsNil ?_
        refine AW.block ?_
        refine AW.loopE (ι := List Core × Int × Nat) (fun ⟨q, a, i⟩ => [(0, .sl 11 .ro (coresD l)), (1, .v (.int .i64 a)), (5, .v (.int .i64 ((i : Nat) : Int)))]) (fun ⟨q, a, i⟩ => []) (fun ⟨q, a, i⟩ => l.drop i = q ∧ szCores q a = szCores l (n - l.length) ∧ i ≤ l.length ∧ 0 ≤ a ∧ a ≤ 1048576) (fun ⟨q, a, i⟩ => q.length) (l, (n - l.length), 0) (.same rfl (.same rfl (.same rfl .nil))) rfl ⟨rfl, rfl, Nat.zero_le _, by omega⟩ ?_
        intro ⟨q, a, i⟩ ⟨hd, hn, hi, ha⟩
        show AW _ _ (_ :: .goal _ :: _) _ (mkEnv [(0, .sl 11 .ro (coresD l)), (1, .v (.int .i64 a)), (5, .v (.int .i64 ((i : Nat) : Int)))]) (mkFr [] :: st)
        have hd : l.drop i = q := hd
        have hn : szCores q a = szCores l (n - l.length) := hn
        have hi : i ≤ l.length := hi
        have ha : 0 ≤ a ∧ a ≤ 1048576 := ha
        refine AW.seq ?_
        refine AW.seq ?_
        refine AW.region ?_
        refine AW.p rfl P.move ?_
        refine AW.p rfl P.move ?_
        refine AW.lenE ty36 rfl (coresD_length _) rfl (fun hl14 => ?_)
        refine AW.p rfl (P.bin rfl rfl rfl) ?_
        refine AW.opsNil ?_
        refine AW.norm [(0, .sl 11 .ro (coresD l)), (1, .v (.int .i64 a)), (5, .v (.int .i64 ((i : Nat) : Int))), (15, .v (.bool (decide (((i : Nat) : Int) < ((l.length : Nat) : Int)))))] [] (.same rfl (.same rfl (.same rfl (.same rfl .nil)))) rfl ?_
        refine AW.condP rfl (fun h2 => ?_) (fun h2 => ?_)
        · obtain ⟨x, r, rfl, hx, hr⟩ := drop_cons hd (by omega)
          have hm := drop_len hd hi
          refine AW.skip ?_
          refine AW.seq ?_
          refine AW.block ?_
          refine AW.seq ?_
          refine AW.region ?_
          refine AW.p rfl P.move ?_
          refine AW.p rfl P.move ?_
          refine AW.p rfl (P.indexA ty36 ty38 rfl rfl (by rw [coresD_get, hx]; rfl)) ?_
          refine AW.l rfl (L.loadRS ty38 rfl rfl rfl rfl) ?_
          refine AW.p rfl P.move ?_
          refine AW.call rfl Try.func9 rfl rfl rfl ?_
          refine ih.1 x a (by have := sz_get hx; omega) (by omega) (okCores_get hok hx) ?_
          have := szCore_leq x a (by omega)
          refine AW.p rfl P.assign ?_
          refine AW.opsNil ?_
          refine AW.seq ?_
          refine AW.region ?_
          refine AW.p rfl P.move ?_
          refine AW.p rfl (P.bin rfl rfl rfl) ?_
          refine AW.opsNil ?_
          refine AW.condP rfl (fun h3 => ?_) (fun h3 => ?_)
          · refine AW.seq ?_
            refine AW.region ?_
            refine AW.p rfl P.assign ?_
            refine AW.opsNil ?_
            refine AW.ret rfl rfl ?_
            exact kint (by first | (rw [← hn]; simp only [szCores]; repeat first | rw [if_neg (by omega)] | rw [if_pos (by omega)]) | (cases l <;> simp only [szCores] <;> rw [if_pos (by omega)])) hK
          · refine AW.skip ?_
            refine AW.inBlock ?_
            refine AW.region ?_
            refine AW.p rfl P.move ?_
            refine AW.p rfl (P.addN (c := i + 1) rfl rfl rfl (by omega)) ?_
            refine AW.p rfl P.assign ?_
            refine AW.opsNil ?_
            exact AW.next (r, (szCore x a), (i + 1)) (.same rfl (.same rfl (.same rfl .nil))) rfl (Nat.lt_succ_self _) ⟨hr, by rw [← hn]; simp only [szCores]; rw [if_neg (by omega), if_neg (by omega)], by omega, by omega⟩
        · have hl := drop_nil hd (by omega)
          subst hl
          refine AW.exit rfl ?_
          refine AW.seq ?_
          refine AW.region ?_
          refine AW.p rfl P.move ?_
          refine AW.p rfl P.assign ?_
          refine AW.opsNil ?_
          refine AW.ret rfl rfl ?_
          exact kint (by first | (rw [← hn]; simp only [szCores]; repeat first | rw [if_neg (by omega)] | rw [if_pos (by omega)]) | (cases l <;> simp only [szCores] <;> rw [if_pos (by omega)])) hK
theorem szCore_ok : ∀ (f : Core) (n : Int), 0 ≤ n ∧ n ≤ 1048576 → okCore f → ∀ {st : St} {K : D → St → Prop}, K (.v (.int .i64 (szCore f n))) st → ACall X 9 [.agg (cCore f), .v (.int .i64 n)] st K :=
  fun f n h0 hok _ _ hK => (szCore_grp _).1 f n (Nat.lt_succ_self _) h0 hok hK
theorem szCores_ok : ∀ (l : List Core) (n : Int), 0 ≤ n ∧ n ≤ 1048576 → okCores l → ∀ {st : St} {K : D → St → Prop}, K (.v (.int .i64 (szCores l (n - l.length)))) st → ACall X 17 [.sl 11 .ro (coresD l), .v (.int .i64 n)] st K :=
  fun l n h0 hok _ _ hK => (szCore_grp _).2 l n (Nat.lt_succ_self _) h0 hok hK
theorem toInts_ok : ∀ (l : List Int), l.length ≤ 1048576 → ∀ {st : St} {K : D → St → Prop}, K (.sl 1 .full (intsD l)) st → ACall X 18 [.sl 1 .ro (intsD l)] st K := by
  intro l hb st K hK
  refine acallE Try.func18 rfl rfl rfl (l := [(0, .sl 1 .ro (intsD l))]) (.same rfl .nil) ?_
  refine AW.seq ?_
  refine AW.region ?_
  refine AW.p rfl (P.assignNil (sz := 1)) ?_
  refine AW.opsNil ?_
  refine AW.seq ?_
  refine AW.region ?_
  refine AW.p rfl P.move ?_
  refine AW.lenE ty23 rfl (intsD_length _) rfl (fun hl6 => ?_)
  refine AW.makeSlice rfl ty23 ty3 tz3 rfl (.v .nil) rfl rfl rfl (by omega) (by omega) rfl rfl ?_
  refine AW.p rfl P.assign ?_
  refine AW.opsNil ?_
  refine AW.seq ?_
  refine AW.seq ?_
  refine AW.region ?_
  refine AW.p rfl P.assign ?_
  refine AW.opsNil ?_
  refine AW.block ?_
  refine AW.loopE (ι := Nat) (fun i => [(0, .sl 1 .ro (intsD l)), (3, .sb (st.length, 7) l.length), (4, .v (.int .i64 ((i : Nat) : Int)))]) (fun i => [(7, .cells (List.flatten (rows cInt [.v (.int .i64 0)] l i)))]) (fun i => i ≤ l.length) (fun i => l.length - i) 0 (.same rfl (.same rfl (.same rfl .nil))) rfl (Nat.zero_le _) ?_
  intro i hi
  show AW _ _ (_ :: .goal _ :: _) _ (mkEnv [(0, .sl 1 .ro (intsD l)), (3, .sb (st.length, 7) l.length), (4, .v (.int .i64 ((i : Nat) : Int)))]) (mkFr [(7, .cells (List.flatten (rows cInt [.v (.int .i64 0)] l i)))] :: st)
  have hi : i ≤ l.length := hi
  refine AW.seq ?_
  refine AW.seq ?_
  refine AW.region ?_
  refine AW.p rfl P.move ?_
  refine AW.p rfl P.move ?_
  refine AW.lenE ty23 rfl (intsD_length _) rfl (fun hl10 => ?_)
  refine AW.p rfl (P.bin rfl rfl rfl) ?_
  refine AW.opsNil ?_
  refine AW.norm [(0, .sl 1 .ro (intsD l)), (3, .sb (st.length, 7) l.length), (4, .v (.int .i64 ((i : Nat) : Int))), (11, .v (.bool (decide (((i : Nat) : Int) < ((l.length : Nat) : Int)))))] [(7, .cells (List.flatten (rows cInt [.v (.int .i64 0)] l i)))] (.same rfl (.same rfl (.same rfl (.same rfl .nil)))) rfl ?_
  refine AW.condP rfl (fun h1 => ?_) (fun h1 => ?_)
  · obtain ⟨x, hx⟩ := pL_some (xs := l) (i := i) (by omega)
    refine AW.skip ?_
    refine AW.seq ?_
    refine AW.block ?_
    refine AW.region ?_
    refine AW.p rfl P.move ?_
    refine AW.p rfl P.move ?_
    refine AW.p rfl P.move ?_
    refine AW.p rfl P.move ?_
    refine AW.p rfl (P.indexA ty23 ty3 rfl rfl (by rw [intsD_get, hx]; rfl)) ?_
    refine AW.l rfl (L.loadR ty3 rfl rfl rfl) ?_
    refine AW.p rfl (P.indexAddrB ty23 ty3 rfl rfl (by omega)) ?_
    refine AW.storeE ty3 rfl rfl rfl rfl rfl rfl rfl (rows_sz (fun _ => rfl) rfl) (by rw [rows_len (by omega)]; omega) (rows_set hx) rfl ?_
    refine AW.opsNil ?_
    refine AW.inBlock ?_
    refine AW.region ?_
    refine AW.p rfl P.move ?_
    refine AW.p rfl (P.addN (c := i + 1) rfl rfl rfl (by omega)) ?_
    refine AW.p rfl P.assign ?_
    refine AW.opsNil ?_
    exact AW.next (i + 1) (.same rfl (.same rfl (.same rfl .nil))) rfl (by show _ - (i + 1) < _ - i; omega) (by omega)
  · refine AW.exit rfl ?_
    refine AW.seq ?_
    refine AW.region ?_
    refine AW.p rfl P.move ?_
    refine AW.p rfl P.assign ?_
    refine AW.opsNil ?_
    refine AW.freezeE (l := []) 7 (v := 2) (sz := 1) (xs := intsD l) rfl (congrArg (fun x => some (AObj.cells (List.flatten x))) (rows_end (f := cInt) (xs := l) (by omega))) (intsD_length _) (intsD_sz _) .nil rfl (by simp) rfl rfl ?_
    refine AW.ret rfl (by show D.all _ (.sl 1 .full (intsD l)) = true; simp [D.all, Tok.all]) ?_
    exact hK
theorem toForm_grp (m : Nat) : (∀ (f : Form), SizeOf.sizeOf f < m → bdForm f → ∀ {st : St} {K : D → St → Prop}, K (.agg (cForm f)) st → ACall X 19 [.agg (cForm f)] st K) ∧ (∀ (l : List Form), SizeOf.sizeOf l < m → l.length ≤ 1048576 ∧ bdForms l → ∀ {st : St} {K : D → St → Prop}, K (.sl 5 .full (formsD l)) st → ACall X 32 [.sl 5 .ro (formsD l)] st K) := by
  induction m with
  | zero => exact ⟨by intros; omega, by intros; omega⟩
  | succ m ih =>
    refine ⟨?_, ?_⟩
    · intro f hm hb st K hK
      obtain ⟨hsc, hkl, hk⟩ := (bdForm_eq f).1 hb
      refine acallE Try.func19 rfl rfl rfl (l := [(0, .agg (cForm f))]) (.same rfl .nil) ?_
      refine AW.seq ?_
      refine AW.region ?_
      refine AW.box rfl rfl rfl rfl rfl ?_
      refine AW.alloc rfl tz26 (.v (.v (.v (.sl (sz := 1) (.sl (sz := 5) .nil))))) rfl rfl rfl ?_
      refine AW.opsNil ?_
      refine AW.seq ?_
      refine AW.region ?_
      refine AW.alloc rfl tz26 (.v (.v (.v (.sl (sz := 1) (.sl (sz := 5) .nil))))) rfl rfl rfl ?_
      refine AW.opsNil ?_
      refine AW.seq ?_
      refine AW.region ?_
      refine AW.p rfl (P.fieldAddr ty35 rfl (by decide) rfl) ?_
      refine AW.l rfl (L.load ty3 rfl rfl rfl (get_top.trans rfl) rfl) ?_
      refine AW.p rfl (P.fieldAddr ty26 rfl (by decide) rfl) ?_
      refine AW.store ty3 rfl rfl rfl rfl rfl rfl rfl rfl rfl rfl ?_
      refine AW.opsNil ?_
      refine AW.norm [(1, .bx (st.length, 1) 0), (2, .bx (st.length, 2) 0), (3, .bx (st.length, 3) 0)] [(1, .cells (cForm f)), (2, .cells [.v (.int .i64 0), .v (.string ⟨#[]⟩), .v (.int .i64 0), .sl 1 .full (intsD []), .sl 5 .full (formsD [])]), (3, .cells [.v (.int .i64 f.kind), .v (.string ⟨#[]⟩), .v (.int .i64 0), .sl 1 .full (intsD []), .sl 5 .full (formsD [])])] (.same rfl (.same rfl (.same rfl .nil))) rfl ?_
      refine AW.seq ?_
      refine AW.region ?_
      refine AW.p rfl (P.fieldAddr ty35 rfl (by decide) rfl) ?_
      refine AW.l rfl (L.load ty9 rfl rfl rfl (get_top.trans rfl) rfl) ?_
      refine AW.p rfl (P.fieldAddr ty26 rfl (by decide) rfl) ?_
      refine AW.store ty9 rfl rfl rfl rfl rfl rfl rfl rfl rfl rfl ?_
      refine AW.opsNil ?_
      refine AW.norm [(1, .bx (st.length, 1) 0), (2, .bx (st.length, 2) 0), (3, .bx (st.length, 3) 0)] [(1, .cells (cForm f)), (2, .cells [.v (.int .i64 0), .v (.string ⟨#[]⟩), .v (.int .i64 0), .sl 1 .full (intsD []), .sl 5 .full (formsD [])]), (3, .cells [.v (.int .i64 f.kind), .v (.string f.name), .v (.int .i64 0), .sl 1 .full (intsD []), .sl 5 .full (formsD [])])] (.same rfl (.same rfl (.same rfl .nil))) rfl ?_
      refine AW.seq ?_
      refine AW.region ?_
      refine AW.p rfl (P.fieldAddr ty35 rfl (by decide) rfl) ?_
      refine AW.l rfl (L.load ty3 rfl rfl rfl (get_top.trans rfl) rfl) ?_
      refine AW.p rfl (P.fieldAddr ty26 rfl (by decide) rfl) ?_
      refine AW.store ty3 rfl rfl rfl rfl rfl rfl rfl rfl rfl rfl ?_
      refine AW.opsNil ?_
      refine AW.norm [(1, .bx (st.length, 1) 0), (2, .bx (st.length, 2) 0), (3, .bx (st.length, 3) 0)] [(1, .cells (cForm f)), (2, .cells [.v (.int .i64 0), .v (.string ⟨#[]⟩), .v (.int .i64 0), .sl 1 .full (intsD []), .sl 5 .full (formsD [])]), (3, .cells [.v (.int .i64 f.kind), .v (.string f.name), .v (.int .i64 f.n), .sl 1 .full (intsD []), .sl 5 .full (formsD [])])] (.same rfl (.same rfl (.same rfl .nil))) rfl ?_
      refine AW.seq ?_
      refine AW.region ?_
      refine AW.p rfl (P.fieldAddr ty35 rfl (by decide) rfl) ?_
      refine AW.l rfl (L.load ty23 rfl rfl rfl (get_top.trans rfl) rfl) ?_
      refine AW.call rfl Try.func18 rfl rfl rfl ?_
      refine toInts_ok f.scopes hsc ?_
      refine AW.p rfl (P.fieldAddr ty26 rfl (by decide) rfl) ?_
      refine AW.store ty23 rfl rfl rfl rfl rfl rfl rfl rfl rfl rfl ?_
      refine AW.opsNil ?_
      refine AW.norm [(1, .bx (st.length, 1) 0), (2, .bx (st.length, 2) 0), (3, .bx (st.length, 3) 0)] [(1, .cells (cForm f)), (2, .cells [.v (.int .i64 0), .v (.string ⟨#[]⟩), .v (.int .i64 0), .sl 1 .full (intsD []), .sl 5 .full (formsD [])]), (3, .cells [.v (.int .i64 f.kind), .v (.string f.name), .v (.int .i64 f.n), .sl 1 .full (intsD f.scopes), .sl 5 .full (formsD [])])] (.same rfl (.same rfl (.same rfl .nil))) rfl ?_
      refine AW.seq ?_
      refine AW.region ?_
      refine AW.p rfl (P.fieldAddr ty35 rfl (by decide) rfl) ?_
      refine AW.l rfl (L.load ty33 rfl rfl rfl (get_top.trans rfl) rfl) ?_
      refine AW.call rfl Try.func32 rfl rfl rfl ?_
      refine ih.2 f.kids (by have := sz_fkids f; omega) ⟨hkl, hk⟩ ?_
      refine AW.p rfl (P.fieldAddr ty26 rfl (by decide) rfl) ?_
      refine AW.store ty24 rfl rfl rfl rfl rfl rfl rfl rfl rfl rfl ?_
      refine AW.opsNil ?_
      refine AW.norm [(2, .bx (st.length, 2) 0), (3, .bx (st.length, 3) 0)] [(1, .cells (cForm f)), (2, .cells [.v (.int .i64 0), .v (.string ⟨#[]⟩), .v (.int .i64 0), .sl 1 .full (intsD []), .sl 5 .full (formsD [])]), (3, .cells [.v (.int .i64 f.kind), .v (.string f.name), .v (.int .i64 f.n), .sl 1 .full (intsD f.scopes), .sl 5 .full (formsD f.kids)])] (.same rfl (.same rfl .nil)) rfl ?_
      refine AW.seq ?_
      refine AW.region ?_
      refine AW.l rfl (L.loadS ty26 rfl rfl rfl (get_top.trans rfl) rfl rfl) ?_
      refine AW.store ty26 rfl rfl rfl rfl rfl rfl rfl rfl rfl rfl ?_
      refine AW.opsNil ?_
      refine AW.retR (.cellS ty26 rfl rfl (get_top.trans rfl) rfl .nil) (d' := .agg (cForm f)) (Wk.fog rfl) (by simp [D.all]) ?_
      exact hK
    · intro l hm hb st K hK
      obtain ⟨hlen, hb⟩ := hb
      refine acallE Try.func32 rfl rfl rfl (l := [(0, .sl 5 .ro (formsD l))]) (.same rfl .nil) ?_
      refine AW.seq ?_
      refine AW.region ?_
      refine AW.p rfl (P.assignNil (sz := 5)) ?_
      refine AW.opsNil ?_
      refine AW.seq ?_
      refine AW.region ?_
      refine AW.p rfl P.move ?_
      refine AW.lenE ty33 rfl (formsD_length _) rfl (fun hl6 => ?_)
      refine AW.makeSlice rfl ty24 ty26 tz26 rfl (.v (.v (.v (.sl (sz := 1) (.sl (sz := 5) .nil))))) rfl rfl rfl (by omega) (by omega) rfl rfl ?_
      refine AW.p rfl P.assign ?_
      refine AW.opsNil ?_
      refine AW.seq ?_
      refine AW.seq ?_
      refine AW.region ?_
      refine AW.p rfl P.assign ?_
      refine AW.opsNil ?_
      refine AW.block ?_
      refine AW.loopE (ι := Nat) (fun i => [(0, .sl 5 .ro (formsD l)), (3, .sb (st.length, 7) l.length), (4, .v (.int .i64 ((i : Nat) : Int)))]) (fun i => [(7, .cells (List.flatten (rows cForm [.v (.int .i64 0), .v (.string ⟨#[]⟩), .v (.int .i64 0), .sl 1 .full [], .sl 5 .full []] l i)))]) (fun i => i ≤ l.length) (fun i => l.length - i) 0 (.same rfl (.same rfl (.same rfl .nil))) rfl (Nat.zero_le _) ?_
      intro i hi
      show AW _ _ (_ :: .goal _ :: _) _ (mkEnv [(0, .sl 5 .ro (formsD l)), (3, .sb (st.length, 7) l.length), (4, .v (.int .i64 ((i : Nat) : Int)))]) (mkFr [(7, .cells (List.flatten (rows cForm [.v (.int .i64 0), .v (.string ⟨#[]⟩), .v (.int .i64 0), .sl 1 .full [], .sl 5 .full []] l i)))] :: st)
      have hi : i ≤ l.length := hi
      refine AW.seq ?_
      refine AW.seq ?_
      refine AW.region ?_
      refine AW.p rfl P.move ?_
      refine AW.p rfl P.move ?_
      refine AW.lenE ty33 rfl (formsD_length _) rfl (fun hl10 => ?_)
      refine AW.p rfl (P.bin rfl rfl rfl) ?_
      refine AW.opsNil ?_
      refine AW.norm [(0, .sl 5 .ro (formsD l)), (3, .sb (st.length, 7) l.length), (4, .v (.int .i64 ((i : Nat) : Int))), (11, .v (.bool (decide (((i : Nat) : Int) < ((l.length : Nat) : Int)))))] [(7, .cells (List.flatten (rows cForm [.v (.int .i64 0), .v (.string ⟨#[]⟩), .v (.int .i64 0), .sl 1 .full [], .sl 5 .full []] l i)))] (.same rfl (.same rfl (.same rfl (.same rfl .nil)))) rfl ?_
      refine AW.condP rfl (fun h1 => ?_) (fun h1 => ?_)
      · obtain ⟨x, hx⟩ := pL_some (xs := l) (i := i) (by omega)
        refine AW.skip ?_
        refine AW.seq ?_
        refine AW.block ?_
        refine AW.region ?_
        refine AW.p rfl P.move ?_
        refine AW.p rfl P.move ?_
        refine AW.p rfl P.move ?_
        refine AW.p rfl P.move ?_
        refine AW.p rfl (P.indexA ty33 ty35 rfl rfl (by rw [formsD_get, hx]; rfl)) ?_
        refine AW.l rfl (L.loadRS ty35 rfl rfl rfl rfl) ?_
        refine AW.call rfl Try.func19 rfl rfl rfl ?_
        refine ih.1 x (by have := sz_get hx; omega) (bdForms_get hb hx) ?_
        refine AW.p rfl (P.indexAddrB ty24 ty26 rfl rfl (by omega)) ?_
        refine AW.storeE ty26 rfl rfl rfl rfl rfl rfl rfl (rows_sz (fun _ => rfl) rfl) (by rw [rows_len (by omega)]; omega) (rows_set hx) rfl ?_
        refine AW.opsNil ?_
        refine AW.inBlock ?_
        refine AW.region ?_
        refine AW.p rfl P.move ?_
        refine AW.p rfl (P.addN (c := i + 1) rfl rfl rfl (by omega)) ?_
        refine AW.p rfl P.assign ?_
        refine AW.opsNil ?_
        exact AW.next (i + 1) (.same rfl (.same rfl (.same rfl .nil))) rfl (by show _ - (i + 1) < _ - i; omega) (by omega)
      · refine AW.exit rfl ?_
        refine AW.seq ?_
        refine AW.region ?_
        refine AW.p rfl P.move ?_
        refine AW.p rfl P.assign ?_
        refine AW.opsNil ?_
        refine AW.freezeE (l := []) 7 (v := 2) (sz := 5) (xs := formsD l) rfl (congrArg (fun x => some (AObj.cells (List.flatten x))) ((rows_end (f := cForm) (xs := l) (by omega)).trans (formsD_eq l).symm)) (formsD_length _) (formsD_sz _) .nil rfl (by simp) rfl rfl ?_
        refine AW.ret rfl (by show D.all _ (.sl 5 .full (formsD l)) = true; simp [D.all, Tok.all]) ?_
        exact hK
theorem toForm_ok : ∀ (f : Form), bdForm f → ∀ {st : St} {K : D → St → Prop}, K (.agg (cForm f)) st → ACall X 19 [.agg (cForm f)] st K :=
  fun f hb _ _ hK => (toForm_grp _).1 f (Nat.lt_succ_self _) hb hK
theorem toForms_ok : ∀ (l : List Form), l.length ≤ 1048576 ∧ bdForms l → ∀ {st : St} {K : D → St → Prop}, K (.sl 5 .full (formsD l)) st → ACall X 32 [.sl 5 .ro (formsD l)] st K :=
  fun l hb _ _ hK => (toForm_grp _).2 l (Nat.lt_succ_self _) hb hK
theorem toCore_grp (m : Nat) : (∀ (f : Core), SizeOf.sizeOf f < m → bdCore f → ∀ {st : St} {K : D → St → Prop}, K (.agg (cCore f)) st → ACall X 10 [.agg (cCore f)] st K) ∧ (∀ (l : List Core), SizeOf.sizeOf l < m → l.length ≤ 1048576 ∧ bdCores l → ∀ {st : St} {K : D → St → Prop}, K (.sl 11 .full (coresD l)) st → ACall X 20 [.sl 11 .ro (coresD l)] st K) := by
  induction m with
  | zero => exact ⟨by intros; omega, by intros; omega⟩
  | succ m ih =>
    refine ⟨?_, ?_⟩
    · intro f hm hb st K hK
      obtain ⟨hsc, hdt, hkl, hk⟩ := (bdCore_eq f).1 hb
      refine acallE Try.func10 rfl rfl rfl (l := [(0, .agg (cCore f))]) (.same rfl .nil) ?_
      refine AW.seq ?_
      refine AW.region ?_
      refine AW.box rfl rfl rfl rfl rfl ?_
      refine AW.alloc rfl tz29 (.v (.v (.v (.v (.sl (sz := 1) (.v (.v (.v (.sl (sz := 1) (.sl (sz := 5) (.sl (sz := 11) .nil))))))))))) rfl rfl rfl ?_
      refine AW.opsNil ?_
      refine AW.seq ?_
      refine AW.region ?_
      refine AW.alloc rfl tz29 (.v (.v (.v (.v (.sl (sz := 1) (.v (.v (.v (.sl (sz := 1) (.sl (sz := 5) (.sl (sz := 11) .nil))))))))))) rfl rfl rfl ?_
      refine AW.opsNil ?_
      refine AW.seq ?_
      refine AW.region ?_
      refine AW.p rfl (P.fieldAddr ty38 rfl (by decide) rfl) ?_
      refine AW.l rfl (L.load ty3 rfl rfl rfl (get_top.trans rfl) rfl) ?_
      refine AW.p rfl (P.fieldAddr ty29 rfl (by decide) rfl) ?_
      refine AW.store ty3 rfl rfl rfl rfl rfl rfl rfl rfl rfl rfl ?_
      refine AW.opsNil ?_
      refine AW.norm [(1, .bx (st.length, 1) 0), (2, .bx (st.length, 2) 0), (3, .bx (st.length, 3) 0)] [(1, .cells (cCore f)), (2, .cells [.v (.int .i64 0), .v (.int .i64 0), .v (.string ⟨#[]⟩), .v (.int .i64 0), .sl 1 .full (intsD []), .v (.int .i64 0), .v (.string ⟨#[]⟩), .v (.int .i64 0), .sl 1 .full (intsD []), .sl 5 .full (formsD []), .sl 11 .full (coresD [])]), (3, .cells [.v (.int .i64 f.kind), .v (.int .i64 0), .v (.string ⟨#[]⟩), .v (.int .i64 0), .sl 1 .full (intsD []), .v (.int .i64 0), .v (.string ⟨#[]⟩), .v (.int .i64 0), .sl 1 .full (intsD []), .sl 5 .full (formsD []), .sl 11 .full (coresD [])])] (.same rfl (.same rfl (.same rfl .nil))) rfl ?_
      refine AW.seq ?_
      refine AW.region ?_
      refine AW.p rfl (P.fieldAddr ty38 rfl (by decide) rfl) ?_
      refine AW.l rfl (L.load ty3 rfl rfl rfl (get_top.trans rfl) rfl) ?_
      refine AW.p rfl (P.fieldAddr ty29 rfl (by decide) rfl) ?_
      refine AW.store ty3 rfl rfl rfl rfl rfl rfl rfl rfl rfl rfl ?_
      refine AW.opsNil ?_
      refine AW.norm [(1, .bx (st.length, 1) 0), (2, .bx (st.length, 2) 0), (3, .bx (st.length, 3) 0)] [(1, .cells (cCore f)), (2, .cells [.v (.int .i64 0), .v (.int .i64 0), .v (.string ⟨#[]⟩), .v (.int .i64 0), .sl 1 .full (intsD []), .v (.int .i64 0), .v (.string ⟨#[]⟩), .v (.int .i64 0), .sl 1 .full (intsD []), .sl 5 .full (formsD []), .sl 11 .full (coresD [])]), (3, .cells [.v (.int .i64 f.kind), .v (.int .i64 f.id), .v (.string ⟨#[]⟩), .v (.int .i64 0), .sl 1 .full (intsD []), .v (.int .i64 0), .v (.string ⟨#[]⟩), .v (.int .i64 0), .sl 1 .full (intsD []), .sl 5 .full (formsD []), .sl 11 .full (coresD [])])] (.same rfl (.same rfl (.same rfl .nil))) rfl ?_
      refine AW.seq ?_
      refine AW.region ?_
      refine AW.p rfl (P.fieldAddr ty38 rfl (by decide) rfl) ?_
      refine AW.l rfl (L.load ty9 rfl rfl rfl (get_top.trans rfl) rfl) ?_
      refine AW.p rfl (P.fieldAddr ty29 rfl (by decide) rfl) ?_
      refine AW.store ty9 rfl rfl rfl rfl rfl rfl rfl rfl rfl rfl ?_
      refine AW.opsNil ?_
      refine AW.norm [(1, .bx (st.length, 1) 0), (2, .bx (st.length, 2) 0), (3, .bx (st.length, 3) 0)] [(1, .cells (cCore f)), (2, .cells [.v (.int .i64 0), .v (.int .i64 0), .v (.string ⟨#[]⟩), .v (.int .i64 0), .sl 1 .full (intsD []), .v (.int .i64 0), .v (.string ⟨#[]⟩), .v (.int .i64 0), .sl 1 .full (intsD []), .sl 5 .full (formsD []), .sl 11 .full (coresD [])]), (3, .cells [.v (.int .i64 f.kind), .v (.int .i64 f.id), .v (.string f.name), .v (.int .i64 0), .sl 1 .full (intsD []), .v (.int .i64 0), .v (.string ⟨#[]⟩), .v (.int .i64 0), .sl 1 .full (intsD []), .sl 5 .full (formsD []), .sl 11 .full (coresD [])])] (.same rfl (.same rfl (.same rfl .nil))) rfl ?_
      refine AW.seq ?_
      refine AW.region ?_
      refine AW.p rfl (P.fieldAddr ty38 rfl (by decide) rfl) ?_
      refine AW.l rfl (L.load ty3 rfl rfl rfl (get_top.trans rfl) rfl) ?_
      refine AW.p rfl (P.fieldAddr ty29 rfl (by decide) rfl) ?_
      refine AW.store ty3 rfl rfl rfl rfl rfl rfl rfl rfl rfl rfl ?_
      refine AW.opsNil ?_
      refine AW.norm [(1, .bx (st.length, 1) 0), (2, .bx (st.length, 2) 0), (3, .bx (st.length, 3) 0)] [(1, .cells (cCore f)), (2, .cells [.v (.int .i64 0), .v (.int .i64 0), .v (.string ⟨#[]⟩), .v (.int .i64 0), .sl 1 .full (intsD []), .v (.int .i64 0), .v (.string ⟨#[]⟩), .v (.int .i64 0), .sl 1 .full (intsD []), .sl 5 .full (formsD []), .sl 11 .full (coresD [])]), (3, .cells [.v (.int .i64 f.kind), .v (.int .i64 f.id), .v (.string f.name), .v (.int .i64 f.n), .sl 1 .full (intsD []), .v (.int .i64 0), .v (.string ⟨#[]⟩), .v (.int .i64 0), .sl 1 .full (intsD []), .sl 5 .full (formsD []), .sl 11 .full (coresD [])])] (.same rfl (.same rfl (.same rfl .nil))) rfl ?_
      refine AW.seq ?_
      refine AW.region ?_
      refine AW.p rfl (P.fieldAddr ty38 rfl (by decide) rfl) ?_
      refine AW.l rfl (L.load ty23 rfl rfl rfl (get_top.trans rfl) rfl) ?_
      refine AW.call rfl Try.func18 rfl rfl rfl ?_
      refine toInts_ok f.ids hsc ?_
      refine AW.p rfl (P.fieldAddr ty29 rfl (by decide) rfl) ?_
      refine AW.store ty23 rfl rfl rfl rfl rfl rfl rfl rfl rfl rfl ?_
      refine AW.opsNil ?_
      refine AW.norm [(1, .bx (st.length, 1) 0), (2, .bx (st.length, 2) 0), (3, .bx (st.length, 3) 0)] [(1, .cells (cCore f)), (2, .cells [.v (.int .i64 0), .v (.int .i64 0), .v (.string ⟨#[]⟩), .v (.int .i64 0), .sl 1 .full (intsD []), .v (.int .i64 0), .v (.string ⟨#[]⟩), .v (.int .i64 0), .sl 1 .full (intsD []), .sl 5 .full (formsD []), .sl 11 .full (coresD [])]), (3, .cells [.v (.int .i64 f.kind), .v (.int .i64 f.id), .v (.string f.name), .v (.int .i64 f.n), .sl 1 .full (intsD f.ids), .v (.int .i64 0), .v (.string ⟨#[]⟩), .v (.int .i64 0), .sl 1 .full (intsD []), .sl 5 .full (formsD []), .sl 11 .full (coresD [])])] (.same rfl (.same rfl (.same rfl .nil))) rfl ?_
      refine AW.seq ?_
      refine AW.region ?_
      refine AW.p rfl (P.fieldAddr ty38 rfl (by decide) rfl) ?_
      refine AW.l rfl (L.loadS ty35 rfl rfl rfl (get_top.trans rfl) rfl rfl) ?_
      refine AW.call rfl Try.func19 rfl rfl rfl ?_
      refine toForm_ok f.data hdt ?_
      refine AW.p rfl (P.fieldAddr ty29 rfl (by decide) rfl) ?_
      refine AW.store ty26 rfl rfl rfl rfl rfl rfl rfl rfl rfl rfl ?_
      refine AW.opsNil ?_
      refine AW.norm [(1, .bx (st.length, 1) 0), (2, .bx (st.length, 2) 0), (3, .bx (st.length, 3) 0)] [(1, .cells (cCore f)), (2, .cells [.v (.int .i64 0), .v (.int .i64 0), .v (.string ⟨#[]⟩), .v (.int .i64 0), .sl 1 .full (intsD []), .v (.int .i64 0), .v (.string ⟨#[]⟩), .v (.int .i64 0), .sl 1 .full (intsD []), .sl 5 .full (formsD []), .sl 11 .full (coresD [])]), (3, .cells [.v (.int .i64 f.kind), .v (.int .i64 f.id), .v (.string f.name), .v (.int .i64 f.n), .sl 1 .full (intsD f.ids), .v (.int .i64 f.data.kind), .v (.string f.data.name), .v (.int .i64 f.data.n), .sl 1 .ro (intsD f.data.scopes), .sl 5 .ro (formsD f.data.kids), .sl 11 .full (coresD [])])] (.same rfl (.same rfl (.same rfl .nil))) rfl ?_
      refine AW.seq ?_
      refine AW.region ?_
      refine AW.p rfl (P.fieldAddr ty38 rfl (by decide) rfl) ?_
      refine AW.l rfl (L.load ty36 rfl rfl rfl (get_top.trans rfl) rfl) ?_
      refine AW.call rfl Try.func20 rfl rfl rfl ?_
      refine ih.2 f.kids (by have := sz_kids f; omega) ⟨hkl, hk⟩ ?_
      refine AW.p rfl (P.fieldAddr ty29 rfl (by decide) rfl) ?_
      refine AW.store ty27 rfl rfl rfl rfl rfl rfl rfl rfl rfl rfl ?_
      refine AW.opsNil ?_
      refine AW.norm [(2, .bx (st.length, 2) 0), (3, .bx (st.length, 3) 0)] [(1, .cells (cCore f)), (2, .cells [.v (.int .i64 0), .v (.int .i64 0), .v (.string ⟨#[]⟩), .v (.int .i64 0), .sl 1 .full (intsD []), .v (.int .i64 0), .v (.string ⟨#[]⟩), .v (.int .i64 0), .sl 1 .full (intsD []), .sl 5 .full (formsD []), .sl 11 .full (coresD [])]), (3, .cells [.v (.int .i64 f.kind), .v (.int .i64 f.id), .v (.string f.name), .v (.int .i64 f.n), .sl 1 .full (intsD f.ids), .v (.int .i64 f.data.kind), .v (.string f.data.name), .v (.int .i64 f.data.n), .sl 1 .ro (intsD f.data.scopes), .sl 5 .ro (formsD f.data.kids), .sl 11 .full (coresD f.kids)])] (.same rfl (.same rfl .nil)) rfl ?_
      refine AW.seq ?_
      refine AW.region ?_
      refine AW.l rfl (L.loadS ty29 rfl rfl rfl (get_top.trans rfl) rfl rfl) ?_
      refine AW.store ty29 rfl rfl rfl rfl rfl rfl rfl rfl rfl rfl ?_
      refine AW.opsNil ?_
      refine AW.retR (.cellS ty29 rfl rfl (get_top.trans rfl) rfl .nil) (d' := .agg (cCore f)) (Wk.fog rfl) (by simp [D.all]) ?_
      exact hK
    · intro l hm hb st K hK
      obtain ⟨hlen, hb⟩ := hb
      refine acallE Try.func20 rfl rfl rfl (l := [(0, .sl 11 .ro (coresD l))]) (.same rfl .nil) ?_
      refine AW.seq ?_
      refine AW.region ?_
      refine AW.p rfl (P.assignNil (sz := 11)) ?_
      refine AW.opsNil ?_
      refine AW.seq ?_
      refine AW.region ?_
      refine AW.p rfl P.move ?_
      refine AW.lenE ty36 rfl (coresD_length _) rfl (fun hl6 => ?_)
      refine AW.makeSlice rfl ty27 ty29 tz29 rfl (.v (.v (.v (.v (.sl (sz := 1) (.v (.v (.v (.sl (sz := 1) (.sl (sz := 5) (.sl (sz := 11) .nil))))))))))) rfl rfl rfl (by omega) (by omega) rfl rfl ?_
      refine AW.p rfl P.assign ?_
      refine AW.opsNil ?_
      refine AW.seq ?_
      refine AW.seq ?_
      refine AW.region ?_
      refine AW.p rfl P.assign ?_
      refine AW.opsNil ?_
      refine AW.block ?_
      refine AW.loopE (ι := Nat) (fun i => [(0, .sl 11 .ro (coresD l)), (3, .sb (st.length, 7) l.length), (4, .v (.int .i64 ((i : Nat) : Int)))]) (fun i => [(7, .cells (List.flatten (rows cCore [.v (.int .i64 0), .v (.int .i64 0), .v (.string ⟨#[]⟩), .v (.int .i64 0), .sl 1 .full [], .v (.int .i64 0), .v (.string ⟨#[]⟩), .v (.int .i64 0), .sl 1 .full [], .sl 5 .full [], .sl 11 .full []] l i)))]) (fun i => i ≤ l.length) (fun i => l.length - i) 0 (.same rfl (.same rfl (.same rfl .nil))) rfl (Nat.zero_le _) ?_
      intro i hi
      show AW _ _ (_ :: .goal _ :: _) _ (mkEnv [(0, .sl 11 .ro (coresD l)), (3, .sb (st.length, 7) l.length), (4, .v (.int .i64 ((i : Nat) : Int)))]) (mkFr [(7, .cells (List.flatten (rows cCore [.v (.int .i64 0), .v (.int .i64 0), .v (.string ⟨#[]⟩), .v (.int .i64 0), .sl 1 .full [], .v (.int .i64 0), .v (.string ⟨#[]⟩), .v (.int .i64 0), .sl 1 .full [], .sl 5 .full [], .sl 11 .full []] l i)))] :: st)
      have hi : i ≤ l.length := hi
      refine AW.seq ?_
      refine AW.seq ?_
      refine AW.region ?_
      refine AW.p rfl P.move ?_
      refine AW.p rfl P.move ?_
      refine AW.lenE ty36 rfl (coresD_length _) rfl (fun hl10 => ?_)
      refine AW.p rfl (P.bin rfl rfl rfl) ?_
      refine AW.opsNil ?_
      refine AW.norm [(0, .sl 11 .ro (coresD l)), (3, .sb (st.length, 7) l.length), (4, .v (.int .i64 ((i : Nat) : Int))), (11, .v (.bool (decide (((i : Nat) : Int) < ((l.length : Nat) : Int)))))] [(7, .cells (List.flatten (rows cCore [.v (.int .i64 0), .v (.int .i64 0), .v (.string ⟨#[]⟩), .v (.int .i64 0), .sl 1 .full [], .v (.int .i64 0), .v (.string ⟨#[]⟩), .v (.int .i64 0), .sl 1 .full [], .sl 5 .full [], .sl 11 .full []] l i)))] (.same rfl (.same rfl (.same rfl (.same rfl .nil)))) rfl ?_
      refine AW.condP rfl (fun h1 => ?_) (fun h1 => ?_)
      · obtain ⟨x, hx⟩ := pL_some (xs := l) (i := i) (by omega)
        refine AW.skip ?_
        refine AW.seq ?_
        refine AW.block ?_
        refine AW.region ?_
        refine AW.p rfl P.move ?_
        refine AW.p rfl P.move ?_
        refine AW.p rfl P.move ?_
        refine AW.p rfl P.move ?_
        refine AW.p rfl (P.indexA ty36 ty38 rfl rfl (by rw [coresD_get, hx]; rfl)) ?_
        refine AW.l rfl (L.loadRS ty38 rfl rfl rfl rfl) ?_
        refine AW.call rfl Try.func10 rfl rfl rfl ?_
        refine ih.1 x (by have := sz_get hx; omega) (bdCores_get hb hx) ?_
        refine AW.p rfl (P.indexAddrB ty27 ty29 rfl rfl (by omega)) ?_
        refine AW.storeE ty29 rfl rfl rfl rfl rfl rfl rfl (rows_sz (fun _ => rfl) rfl) (by rw [rows_len (by omega)]; omega) (rows_set hx) rfl ?_
        refine AW.opsNil ?_
        refine AW.inBlock ?_
        refine AW.region ?_
        refine AW.p rfl P.move ?_
        refine AW.p rfl (P.addN (c := i + 1) rfl rfl rfl (by omega)) ?_
        refine AW.p rfl P.assign ?_
        refine AW.opsNil ?_
        exact AW.next (i + 1) (.same rfl (.same rfl (.same rfl .nil))) rfl (by show _ - (i + 1) < _ - i; omega) (by omega)
      · refine AW.exit rfl ?_
        refine AW.seq ?_
        refine AW.region ?_
        refine AW.p rfl P.move ?_
        refine AW.p rfl P.assign ?_
        refine AW.opsNil ?_
        refine AW.freezeE (l := []) 7 (v := 2) (sz := 11) (xs := coresD l) rfl (congrArg (fun x => some (AObj.cells (List.flatten x))) ((rows_end (f := cCore) (xs := l) (by omega)).trans (coresD_eq l).symm)) (coresD_length _) (coresD_sz _) .nil rfl (by simp) rfl rfl ?_
        refine AW.ret rfl (by show D.all _ (.sl 11 .full (coresD l)) = true; simp [D.all, Tok.all]) ?_
        exact hK
theorem toCore_ok : ∀ (f : Core), bdCore f → ∀ {st : St} {K : D → St → Prop}, K (.agg (cCore f)) st → ACall X 10 [.agg (cCore f)] st K :=
  fun f hb _ _ hK => (toCore_grp _).1 f (Nat.lt_succ_self _) hb hK
theorem toCores_ok : ∀ (l : List Core), l.length ≤ 1048576 ∧ bdCores l → ∀ {st : St} {K : D → St → Prop}, K (.sl 11 .full (coresD l)) st → ACall X 20 [.sl 11 .ro (coresD l)] st K :=
  fun l hb _ _ hK => (toCore_grp _).2 l (Nat.lt_succ_self _) hb hK
theorem eqInts_ok : ∀ (a : List Int) (b : List Int), ∀ {st : St} {K : D → St → Prop}, K (.v (.bool (eqInts a b))) st → ACall X 21 [.sl 1 .ro (intsD a), .sl 1 .ro (intsD b)] st K := by
  intro a b st K hK
  refine acallE Try.func21 rfl rfl rfl (l := [(0, .sl 1 .ro (intsD a)), (1, .sl 1 .ro (intsD b))]) (.same rfl (.same rfl .nil)) ?_
  refine AW.seq ?_
  refine AW.region ?_
  refine AW.p rfl P.assign ?_
  refine AW.opsNil ?_
  refine AW.seq ?_
  refine AW.seq ?_
  refine AW.region ?_
  refine AW.p rfl P.move ?_
  refine AW.lenE ty23 rfl (intsD_length _) rfl (fun hl7 => ?_)
  refine AW.p rfl P.move ?_
  refine AW.lenE ty23 rfl (intsD_length _) rfl (fun hl9 => ?_)
  refine AW.p rfl (P.neI rfl rfl) ?_
  refine AW.opsNil ?_
  refine AW.condP rfl (fun h1 => ?_) (fun h1 => ?_)
  · refine AW.seq ?_
    refine AW.region ?_
    refine AW.p rfl P.assign ?_
    refine AW.opsNil ?_
    refine AW.ret rfl rfl ?_
    exact kbool (by first | (rw [← hn]; simp_all [eqInts_cons]; done) | exact eqInts_len (by omega) | (rw [← hn]; rfl)) hK
  · refine AW.skip ?_
    refine AW.seq ?_
    refine AW.seq ?_
    refine AW.region ?_
    refine AW.p rfl P.assign ?_
    refine AW.opsNil ?_
    refine AW.block ?_
    refine AW.loopE (ι := List Int × List Int × Nat) (fun ⟨l, l2, i⟩ => [(0, .sl 1 .ro (intsD a)), (1, .sl 1 .ro (intsD b)), (5, .v (.int .i64 ((i : Nat) : Int)))]) (fun ⟨l, l2, i⟩ => []) (fun ⟨l, l2, i⟩ => a.drop i = l ∧ b.drop i = l2 ∧ eqInts l l2 = eqInts a b ∧ i ≤ a.length) (fun ⟨l, l2, i⟩ => l.length) (a, b, 0) (.same rfl (.same rfl (.same rfl .nil))) rfl ⟨rfl, rfl, rfl, Nat.zero_le _⟩ ?_
    intro ⟨l, l2, i⟩ ⟨hd, hd2, hn, hi⟩
    show AW _ _ (_ :: .goal _ :: _) _ (mkEnv [(0, .sl 1 .ro (intsD a)), (1, .sl 1 .ro (intsD b)), (5, .v (.int .i64 ((i : Nat) : Int)))]) (mkFr [] :: st)
    have hd : a.drop i = l := hd
    have hd2 : b.drop i = l2 := hd2
    have hn : eqInts l l2 = eqInts a b := hn
    have hi : i ≤ a.length := hi
    refine AW.seq ?_
    refine AW.seq ?_
    refine AW.region ?_
    refine AW.p rfl P.move ?_
    refine AW.p rfl P.move ?_
    refine AW.lenE ty23 rfl (intsD_length _) rfl (fun hl13 => ?_)
    refine AW.p rfl (P.bin rfl rfl rfl) ?_
    refine AW.opsNil ?_
    refine AW.norm [(0, .sl 1 .ro (intsD a)), (1, .sl 1 .ro (intsD b)), (5, .v (.int .i64 ((i : Nat) : Int))), (14, .v (.bool (decide (((i : Nat) : Int) < ((a.length : Nat) : Int)))))] [] (.same rfl (.same rfl (.same rfl (.same rfl .nil)))) rfl ?_
    refine AW.condP rfl (fun h2 => ?_) (fun h2 => ?_)
    · obtain ⟨x, r, rfl, hx, hr⟩ := drop_cons hd (by omega)
      obtain ⟨y, r2, rfl, hy, hr2⟩ := drop_cons hd2 (by omega)
      refine AW.skip ?_
      refine AW.seq ?_
      refine AW.block ?_
      refine AW.seq ?_
      refine AW.regionD mixed rfl ?_
      refine AH.take 0 (listed' := #[true, false, false, false, false, false, false, false, false]) rfl (by kernel_rfl) (by kernel_rfl) (by kernel_rfl) rfl rfl (POk.l P.move) ?_
      refine AH.take 1 (listed' := #[true, true, false, false, false, false, false, false, false]) rfl (by kernel_rfl) (by kernel_rfl) (by kernel_rfl) rfl rfl (POk.l P.move) ?_
      refine AH.take 2 (listed' := #[true, true, true, false, false, false, false, false, false]) rfl (by kernel_rfl) (by kernel_rfl) (by kernel_rfl) rfl rfl (POk.l (P.indexA ty23 ty3 rfl rfl (by rw [intsD_get, hx]; rfl))) ?_
      refine AH.take 3 (listed' := #[true, true, true, true, false, false, false, false, false]) rfl (by kernel_rfl) (by kernel_rfl) (by kernel_rfl) rfl rfl (L.loadR ty3 rfl rfl rfl) ?_
      refine AH.take 4 (listed' := #[true, true, true, true, true, false, false, false, false]) rfl (by kernel_rfl) (by kernel_rfl) (by kernel_rfl) rfl rfl (POk.l P.move) ?_
      refine AH.take 5 (listed' := #[true, true, true, true, true, true, false, false, false]) rfl (by kernel_rfl) (by kernel_rfl) (by kernel_rfl) rfl rfl (POk.l P.move) ?_
      refine AH.take 6 (listed' := #[true, true, true, true, true, true, true, false, false]) rfl (by kernel_rfl) (by kernel_rfl) (by kernel_rfl) rfl rfl (POk.l (P.indexA ty23 ty3 rfl rfl (by rw [intsD_get, hy]; rfl))) ?_
      refine AH.take 7 (listed' := #[true, true, true, true, true, true, true, true, false]) rfl (by kernel_rfl) (by kernel_rfl) (by kernel_rfl) rfl rfl (L.loadR ty3 rfl rfl rfl) ?_
      refine AH.take 8 (listed' := #[true, true, true, true, true, true, true, true, true]) rfl (by kernel_rfl) (by kernel_rfl) (by kernel_rfl) rfl rfl (POk.l (P.neI rfl rfl)) ?_
      refine AH.done (by kernel_rfl) ?_
      refine AW.condP rfl (fun h3 => ?_) (fun h3 => ?_)
      · refine AW.seq ?_
        refine AW.region ?_
        refine AW.p rfl P.assign ?_
        refine AW.opsNil ?_
        refine AW.ret rfl rfl ?_
        exact kbool (by first | (rw [← hn]; simp_all [eqInts_cons]; done) | exact eqInts_len (by omega) | (rw [← hn]; rfl)) hK
      · refine AW.skip ?_
        refine AW.inBlock ?_
        refine AW.region ?_
        refine AW.p rfl P.move ?_
        refine AW.p rfl (P.addN (c := i + 1) rfl rfl rfl (by omega)) ?_
        refine AW.p rfl P.assign ?_
        refine AW.opsNil ?_
        exact AW.next (r, r2, (i + 1)) (.same rfl (.same rfl (.same rfl .nil))) rfl (Nat.lt_succ_self _) ⟨hr, hr2, by rw [← hn]; simp_all [eqInts_cons], by omega⟩
    · have hl := drop_nil hd (by omega)
      have hl2 := drop_nil hd2 (by omega)
      subst hl
      subst hl2
      refine AW.exit rfl ?_
      refine AW.seq ?_
      refine AW.region ?_
      refine AW.p rfl P.assign ?_
      refine AW.opsNil ?_
      refine AW.ret rfl rfl ?_
      exact kbool (by first | (rw [← hn]; simp_all [eqInts_cons]; done) | exact eqInts_len (by omega) | (rw [← hn]; rfl)) hK
theorem eqForm_grp (m : Nat) : (∀ (a : Form) (b : Form), SizeOf.sizeOf a < m → ∀ {st : St} {K : D → St → Prop}, K (.v (.bool (eqForm a b))) st → ACall X 22 [.agg (cForm a), .agg (cForm b)] st K) ∧ (∀ (a : List Form) (b : List Form), SizeOf.sizeOf a < m → ∀ {st : St} {K : D → St → Prop}, K (.v (.bool (eqForms a b))) st → ACall X 33 [.sl 5 .ro (formsD a), .sl 5 .ro (formsD b)] st K) := by
  induction m with
  | zero => exact ⟨by intros; omega, by intros; omega⟩
  | succ m ih =>
    refine ⟨?_, ?_⟩
    · intro a b hm st K hK
      refine acallE Try.func22 rfl rfl rfl (l := [(0, .agg (cForm a)), (1, .agg (cForm b))]) (.same rfl (.same rfl .nil)) ?_
      refine AW.seq ?_
      refine AW.region ?_
      refine AW.box rfl rfl rfl rfl rfl ?_
      refine AW.box rfl rfl rfl rfl rfl ?_
      refine AW.p rfl P.assign ?_
      refine AW.opsNil ?_
      refine AW.seq ?_
      refine AW.seq ?_
      refine AW.region ?_
      refine AW.p rfl (P.fieldAddr ty26 rfl (by decide) rfl) ?_
      refine AW.l rfl (L.load ty3 rfl rfl rfl (get_top.trans rfl) rfl) ?_
      refine AW.p rfl (P.fieldAddr ty26 rfl (by decide) rfl) ?_
      refine AW.l rfl (L.load ty3 rfl rfl rfl (get_top.trans rfl) rfl) ?_
      refine AW.p rfl (P.neI rfl rfl) ?_
      refine AW.opsNil ?_
      refine AW.condP rfl (fun h1 => ?_) (fun h1 => ?_)
      · refine AW.seq ?_
        refine AW.region ?_
        refine AW.p rfl P.assign ?_
        refine AW.opsNil ?_
        refine AW.ret rfl rfl ?_
        exact kbool (by rw [eqForm_eq]; simp_all) hK
      · refine AW.skip ?_
        refine AW.seq ?_
        refine AW.seq ?_
        refine AW.region ?_
        refine AW.p rfl (P.fieldAddr ty26 rfl (by decide) rfl) ?_
        refine AW.l rfl (L.load ty9 rfl rfl rfl (get_top.trans rfl) rfl) ?_
        refine AW.p rfl (P.fieldAddr ty26 rfl (by decide) rfl) ?_
        refine AW.l rfl (L.load ty9 rfl rfl rfl (get_top.trans rfl) rfl) ?_
        refine AW.p rfl (P.neS rfl rfl) ?_
        refine AW.opsNil ?_
        refine AW.norm [(2, .bx (st.length, 2) 0), (3, .bx (st.length, 3) 0), (14, .v (.bool (decide (¬ a.name = b.name))))] [(2, .cells (cForm a)), (3, .cells (cForm b))] (.same rfl (.same rfl (.same rfl .nil))) rfl ?_
        refine AW.condP rfl (fun h2 => ?_) (fun h2 => ?_)
        · refine AW.seq ?_
          refine AW.region ?_
          refine AW.p rfl P.assign ?_
          refine AW.opsNil ?_
          refine AW.ret rfl rfl ?_
          exact kbool (by rw [eqForm_eq]; simp_all) hK
        · refine AW.skip ?_
          refine AW.seq ?_
          refine AW.seq ?_
          refine AW.region ?_
          refine AW.p rfl (P.fieldAddr ty26 rfl (by decide) rfl) ?_
          refine AW.l rfl (L.load ty3 rfl rfl rfl (get_top.trans rfl) rfl) ?_
          refine AW.p rfl (P.fieldAddr ty26 rfl (by decide) rfl) ?_
          refine AW.l rfl (L.load ty3 rfl rfl rfl (get_top.trans rfl) rfl) ?_
          refine AW.p rfl (P.neI rfl rfl) ?_
          refine AW.opsNil ?_
          refine AW.condP rfl (fun h3 => ?_) (fun h3 => ?_)
          · refine AW.seq ?_
            refine AW.region ?_
            refine AW.p rfl P.assign ?_
            refine AW.opsNil ?_
            refine AW.ret rfl rfl ?_
            exact kbool (by rw [eqForm_eq]; simp_all) hK
          · refine AW.skip ?_
            refine AW.seq ?_
            refine AW.seq ?_
            refine AW.region ?_
            refine AW.p rfl (P.fieldAddr ty26 rfl (by decide) rfl) ?_
            refine AW.l rfl (L.load ty23 rfl rfl rfl (get_top.trans rfl) rfl) ?_
            refine AW.p rfl (P.fieldAddr ty26 rfl (by decide) rfl) ?_
            refine AW.l rfl (L.load ty23 rfl rfl rfl (get_top.trans rfl) rfl) ?_
            refine AW.call rfl Try.func21 rfl rfl rfl ?_
            refine eqInts_ok a.scopes b.scopes  ?_
            refine AW.p rfl (P.not rfl) ?_
            refine AW.opsNil ?_
            refine AW.norm [(2, .bx (st.length, 2) 0), (3, .bx (st.length, 3) 0), (25, .v (.bool (!(eqInts a.scopes b.scopes))))] [(2, .cells (cForm a)), (3, .cells (cForm b))] (.same rfl (.same rfl (.same rfl .nil))) rfl ?_
            refine AW.cond rfl (fun h4 => ?_) (fun h4 => ?_)
            · refine AW.seq ?_
              refine AW.region ?_
              refine AW.p rfl P.assign ?_
              refine AW.opsNil ?_
              refine AW.ret rfl rfl ?_
              exact kbool (by rw [eqForm_eq]; simp_all) hK
            · refine AW.skip ?_
              refine AW.seq ?_
              refine AW.seq ?_
              refine AW.region ?_
              refine AW.p rfl (P.fieldAddr ty26 rfl (by decide) rfl) ?_
              refine AW.l rfl (L.load ty24 rfl rfl rfl (get_top.trans rfl) rfl) ?_
              refine AW.p rfl (P.fieldAddr ty26 rfl (by decide) rfl) ?_
              refine AW.l rfl (L.load ty24 rfl rfl rfl (get_top.trans rfl) rfl) ?_
              refine AW.call rfl Try.func33 rfl rfl rfl ?_
              refine ih.2 a.kids b.kids (by have := sz_fkids a; omega)  ?_
              refine AW.p rfl (P.not rfl) ?_
              refine AW.opsNil ?_
              refine AW.cond rfl (fun h5 => ?_) (fun h5 => ?_)
              · refine AW.seq ?_
                refine AW.region ?_
                refine AW.p rfl P.assign ?_
                refine AW.opsNil ?_
                refine AW.ret rfl rfl ?_
                exact kbool (by rw [eqForm_eq]; simp_all) hK
              · refine AW.skip ?_
                refine AW.seq ?_
                refine AW.region ?_
                refine AW.p rfl P.assign ?_
                refine AW.opsNil ?_
                refine AW.ret rfl rfl ?_
                exact kbool (by rw [eqForm_eq]; simp_all) hK
    · intro a b hm st K hK
      refine acallE Try.func33 rfl rfl rfl (l := [(0, .sl 5 .ro (formsD a)), (1, .sl 5 .ro (formsD b))]) (.same rfl (.same rfl .nil)) ?_
      refine AW.seq ?_
      refine AW.region ?_
      refine AW.p rfl P.assign ?_
      refine AW.opsNil ?_
      refine AW.seq ?_
      refine AW.seq ?_
      refine AW.region ?_
      refine AW.p rfl P.move ?_
      refine AW.lenE ty24 rfl (formsD_length _) rfl (fun hl7 => ?_)
      refine AW.p rfl P.move ?_
      refine AW.lenE ty24 rfl (formsD_length _) rfl (fun hl9 => ?_)
      refine AW.p rfl (P.neI rfl rfl) ?_
      refine AW.opsNil ?_
      refine AW.condP rfl (fun h1 => ?_) (fun h1 => ?_)
      · refine AW.seq ?_
        refine AW.region ?_
        refine AW.p rfl P.assign ?_
        refine AW.opsNil ?_
        refine AW.ret rfl rfl ?_
        exact kbool (by first | (rw [← hn]; simp_all [eqForms]; done) | exact eqForms_len (by omega) | (rw [← hn]; rfl)) hK
      · refine AW.skip ?_
        refine AW.seq ?_
        refine AW.seq ?_
        refine AW.region ?_
        refine AW.p rfl P.assign ?_
        refine AW.opsNil ?_
        refine AW.block ?_
        refine AW.loopE (ι := List Form × List Form × Nat) (fun ⟨l, l2, i⟩ => [(0, .sl 5 .ro (formsD a)), (1, .sl 5 .ro (formsD b)), (5, .v (.int .i64 ((i : Nat) : Int)))]) (fun ⟨l, l2, i⟩ => []) (fun ⟨l, l2, i⟩ => a.drop i = l ∧ b.drop i = l2 ∧ eqForms l l2 = eqForms a b ∧ i ≤ a.length) (fun ⟨l, l2, i⟩ => l.length) (a, b, 0) (.same rfl (.same rfl (.same rfl .nil))) rfl ⟨rfl, rfl, rfl, Nat.zero_le _⟩ ?_
        intro ⟨l, l2, i⟩ ⟨hd, hd2, hn, hi⟩
        show AW _ _ (_ :: .goal _ :: _) _ (mkEnv [(0, .sl 5 .ro (formsD a)), (1, .sl 5 .ro (formsD b)), (5, .v (.int .i64 ((i : Nat) : Int)))]) (mkFr [] :: st)
        have hd : a.drop i = l := hd
        have hd2 : b.drop i = l2 := hd2
        have hn : eqForms l l2 = eqForms a b := hn
        have hi : i ≤ a.length := hi
        refine AW.seq ?_
        refine AW.seq ?_
        refine AW.region ?_
        refine AW.p rfl P.move ?_
        refine AW.p rfl P.move ?_
        refine AW.lenE ty24 rfl (formsD_length _) rfl (fun hl13 => ?_)
        refine AW.p rfl (P.bin rfl rfl rfl) ?_
        refine AW.opsNil ?_
        refine AW.norm [(0, .sl 5 .ro (formsD a)), (1, .sl 5 .ro (formsD b)), (5, .v (.int .i64 ((i : Nat) : Int))), (14, .v (.bool (decide (((i : Nat) : Int) < ((a.length : Nat) : Int)))))] [] (.same rfl (.same rfl (.same rfl (.same rfl .nil)))) rfl ?_
        refine AW.condP rfl (fun h2 => ?_) (fun h2 => ?_)
        · obtain ⟨x, r, rfl, hx, hr⟩ := drop_cons hd (by omega)
          obtain ⟨y, r2, rfl, hy, hr2⟩ := drop_cons hd2 (by omega)
          refine AW.skip ?_
          refine AW.seq ?_
          refine AW.block ?_
          refine AW.seq ?_
          refine AW.regionD mixed rfl ?_
          refine AH.take 0 (listed' := #[true, false, false, false, false, false, false, false, false, false]) rfl (by kernel_rfl) (by kernel_rfl) (by kernel_rfl) rfl rfl (POk.l P.move) ?_
          refine AH.take 1 (listed' := #[true, true, false, false, false, false, false, false, false, false]) rfl (by kernel_rfl) (by kernel_rfl) (by kernel_rfl) rfl rfl (POk.l P.move) ?_
          refine AH.take 2 (listed' := #[true, true, true, false, false, false, false, false, false, false]) rfl (by kernel_rfl) (by kernel_rfl) (by kernel_rfl) rfl rfl (POk.l (P.indexA ty24 ty26 rfl rfl (by rw [formsD_get, hx]; rfl))) ?_
          refine AH.take 3 (listed' := #[true, true, true, true, false, false, false, false, false, false]) rfl (by kernel_rfl) (by kernel_rfl) (by kernel_rfl) rfl rfl (L.loadRS ty26 rfl rfl rfl rfl) ?_
          refine AH.take 4 (listed' := #[true, true, true, true, true, false, false, false, false, false]) rfl (by kernel_rfl) (by kernel_rfl) (by kernel_rfl) rfl rfl (POk.l P.move) ?_
          refine AH.take 5 (listed' := #[true, true, true, true, true, true, false, false, false, false]) rfl (by kernel_rfl) (by kernel_rfl) (by kernel_rfl) rfl rfl (POk.l P.move) ?_
          refine AH.take 6 (listed' := #[true, true, true, true, true, true, true, false, false, false]) rfl (by kernel_rfl) (by kernel_rfl) (by kernel_rfl) rfl rfl (POk.l (P.indexA ty24 ty26 rfl rfl (by rw [formsD_get, hy]; rfl))) ?_
          refine AH.take 7 (listed' := #[true, true, true, true, true, true, true, true, false, false]) rfl (by kernel_rfl) (by kernel_rfl) (by kernel_rfl) rfl rfl (L.loadRS ty26 rfl rfl rfl rfl) ?_
          refine AH.all (rs := [8]) (by kernel_rfl) (by decide) ?_
          refine ⟨?_, trivial⟩
          · refine AO.call (listed' := #[true, true, true, true, true, true, true, true, true, false]) rfl rfl rfl Try.func22 rfl rfl (ds := [.agg (cForm x), .agg (cForm y)]) rfl (by simp [allL, D.all, Tok.all, allLL]) ?_
            refine ih.1 x y (by have := sz_get hx; have := sz_get hy; omega)  ?_
            refine frame_same (Q := fun fr1 st1 => AH _ _ _ _ _ _ _ _ fr1 st1) ?_
            refine AH.take 9 (listed' := #[true, true, true, true, true, true, true, true, true, true]) rfl (by kernel_rfl) (by kernel_rfl) (by kernel_rfl) rfl rfl (POk.l (P.not rfl)) ?_
            refine AH.done (by kernel_rfl) ?_
            refine AW.cond rfl (fun h3 => ?_) (fun h3 => ?_)
            · refine AW.seq ?_
              refine AW.region ?_
              refine AW.p rfl P.assign ?_
              refine AW.opsNil ?_
              refine AW.ret rfl rfl ?_
              exact kbool (by first | (rw [← hn]; simp_all [eqForms]; done) | exact eqForms_len (by omega) | (rw [← hn]; rfl)) hK
            · refine AW.skip ?_
              refine AW.inBlock ?_
              refine AW.region ?_
              refine AW.p rfl P.move ?_
              refine AW.p rfl (P.addN (c := i + 1) rfl rfl rfl (by omega)) ?_
              refine AW.p rfl P.assign ?_
              refine AW.opsNil ?_
              exact AW.next (r, r2, (i + 1)) (.same rfl (.same rfl (.same rfl .nil))) rfl (Nat.lt_succ_self _) ⟨hr, hr2, by rw [← hn]; simp_all [eqForms], by omega⟩
        · have hl := drop_nil hd (by omega)
          have hl2 := drop_nil hd2 (by omega)
          subst hl
          subst hl2
          refine AW.exit rfl ?_
          refine AW.seq ?_
          refine AW.region ?_
          refine AW.p rfl P.assign ?_
          refine AW.opsNil ?_
          refine AW.ret rfl rfl ?_
          exact kbool (by first | (rw [← hn]; simp_all [eqForms]; done) | exact eqForms_len (by omega) | (rw [← hn]; rfl)) hK
theorem eqForm_ok : ∀ (a : Form) (b : Form), ∀ {st : St} {K : D → St → Prop}, K (.v (.bool (eqForm a b))) st → ACall X 22 [.agg (cForm a), .agg (cForm b)] st K :=
  fun a b _ _ hK => (eqForm_grp _).1 a b (Nat.lt_succ_self _)  hK
theorem eqForms_ok : ∀ (a : List Form) (b : List Form), ∀ {st : St} {K : D → St → Prop}, K (.v (.bool (eqForms a b))) st → ACall X 33 [.sl 5 .ro (formsD a), .sl 5 .ro (formsD b)] st K :=
  fun a b _ _ hK => (eqForm_grp _).2 a b (Nat.lt_succ_self _)  hK
theorem eqCore_grp (m : Nat) : (∀ (a : Core) (b : Core), SizeOf.sizeOf a < m → ∀ {st : St} {K : D → St → Prop}, K (.v (.bool (eqCore a b))) st → ACall X 11 [.agg (cCore a), .agg (cCore b)] st K) ∧ (∀ (a : List Core) (b : List Core), SizeOf.sizeOf a < m → ∀ {st : St} {K : D → St → Prop}, K (.v (.bool (eqCores a b))) st → ACall X 23 [.sl 11 .ro (coresD a), .sl 11 .ro (coresD b)] st K) := by
  induction m with
  | zero => exact ⟨by intros; omega, by intros; omega⟩
  | succ m ih =>
    refine ⟨?_, ?_⟩
    · intro a b hm st K hK
      refine acallE Try.func11 rfl rfl rfl (l := [(0, .agg (cCore a)), (1, .agg (cCore b))]) (.same rfl (.same rfl .nil)) ?_
      refine AW.seq ?_
      refine AW.region ?_
      refine AW.box rfl rfl rfl rfl rfl ?_
      refine AW.box rfl rfl rfl rfl rfl ?_
      refine AW.p rfl P.assign ?_
      refine AW.opsNil ?_
      refine AW.seq ?_
      refine AW.seq ?_
      refine AW.region ?_
      refine AW.p rfl (P.fieldAddr ty29 rfl (by decide) rfl) ?_
      refine AW.l rfl (L.load ty3 rfl rfl rfl (get_top.trans rfl) rfl) ?_
      refine AW.p rfl (P.fieldAddr ty29 rfl (by decide) rfl) ?_
      refine AW.l rfl (L.load ty3 rfl rfl rfl (get_top.trans rfl) rfl) ?_
      refine AW.p rfl (P.neI rfl rfl) ?_
      refine AW.opsNil ?_
      refine AW.condP rfl (fun h1 => ?_) (fun h1 => ?_)
      · refine AW.seq ?_
        refine AW.region ?_
        refine AW.p rfl P.assign ?_
        refine AW.opsNil ?_
        refine AW.ret rfl rfl ?_
        exact kbool (by rw [eqCore_eq]; simp_all) hK
      · refine AW.skip ?_
        refine AW.seq ?_
        refine AW.seq ?_
        refine AW.region ?_
        refine AW.p rfl (P.fieldAddr ty29 rfl (by decide) rfl) ?_
        refine AW.l rfl (L.load ty3 rfl rfl rfl (get_top.trans rfl) rfl) ?_
        refine AW.p rfl (P.fieldAddr ty29 rfl (by decide) rfl) ?_
        refine AW.l rfl (L.load ty3 rfl rfl rfl (get_top.trans rfl) rfl) ?_
        refine AW.p rfl (P.neI rfl rfl) ?_
        refine AW.opsNil ?_
        refine AW.norm [(2, .bx (st.length, 2) 0), (3, .bx (st.length, 3) 0), (14, .v (.bool (decide (¬ a.id = b.id))))] [(2, .cells (cCore a)), (3, .cells (cCore b))] (.same rfl (.same rfl (.same rfl .nil))) rfl ?_
        refine AW.condP rfl (fun h2 => ?_) (fun h2 => ?_)
        · refine AW.seq ?_
          refine AW.region ?_
          refine AW.p rfl P.assign ?_
          refine AW.opsNil ?_
          refine AW.ret rfl rfl ?_
          exact kbool (by rw [eqCore_eq]; simp_all) hK
        · refine AW.skip ?_
          refine AW.seq ?_
          refine AW.seq ?_
          refine AW.region ?_
          refine AW.p rfl (P.fieldAddr ty29 rfl (by decide) rfl) ?_
          refine AW.l rfl (L.load ty9 rfl rfl rfl (get_top.trans rfl) rfl) ?_
          refine AW.p rfl (P.fieldAddr ty29 rfl (by decide) rfl) ?_
          refine AW.l rfl (L.load ty9 rfl rfl rfl (get_top.trans rfl) rfl) ?_
          refine AW.p rfl (P.neS rfl rfl) ?_
          refine AW.opsNil ?_
          refine AW.condP rfl (fun h3 => ?_) (fun h3 => ?_)
          · refine AW.seq ?_
            refine AW.region ?_
            refine AW.p rfl P.assign ?_
            refine AW.opsNil ?_
            refine AW.ret rfl rfl ?_
            exact kbool (by rw [eqCore_eq]; simp_all) hK
          · refine AW.skip ?_
            refine AW.seq ?_
            refine AW.seq ?_
            refine AW.region ?_
            refine AW.p rfl (P.fieldAddr ty29 rfl (by decide) rfl) ?_
            refine AW.l rfl (L.load ty3 rfl rfl rfl (get_top.trans rfl) rfl) ?_
            refine AW.p rfl (P.fieldAddr ty29 rfl (by decide) rfl) ?_
            refine AW.l rfl (L.load ty3 rfl rfl rfl (get_top.trans rfl) rfl) ?_
            refine AW.p rfl (P.neI rfl rfl) ?_
            refine AW.opsNil ?_
            refine AW.norm [(2, .bx (st.length, 2) 0), (3, .bx (st.length, 3) 0), (24, .v (.bool (decide (¬ a.n = b.n))))] [(2, .cells (cCore a)), (3, .cells (cCore b))] (.same rfl (.same rfl (.same rfl .nil))) rfl ?_
            refine AW.condP rfl (fun h4 => ?_) (fun h4 => ?_)
            · refine AW.seq ?_
              refine AW.region ?_
              refine AW.p rfl P.assign ?_
              refine AW.opsNil ?_
              refine AW.ret rfl rfl ?_
              exact kbool (by rw [eqCore_eq]; simp_all) hK
            · refine AW.skip ?_
              refine AW.seq ?_
              refine AW.seq ?_
              refine AW.region ?_
              refine AW.p rfl (P.fieldAddr ty29 rfl (by decide) rfl) ?_
              refine AW.l rfl (L.load ty23 rfl rfl rfl (get_top.trans rfl) rfl) ?_
              refine AW.p rfl (P.fieldAddr ty29 rfl (by decide) rfl) ?_
              refine AW.l rfl (L.load ty23 rfl rfl rfl (get_top.trans rfl) rfl) ?_
              refine AW.call rfl Try.func21 rfl rfl rfl ?_
              refine eqInts_ok a.ids b.ids  ?_
              refine AW.p rfl (P.not rfl) ?_
              refine AW.opsNil ?_
              refine AW.cond rfl (fun h5 => ?_) (fun h5 => ?_)
              · refine AW.seq ?_
                refine AW.region ?_
                refine AW.p rfl P.assign ?_
                refine AW.opsNil ?_
                refine AW.ret rfl rfl ?_
                exact kbool (by rw [eqCore_eq]; simp_all) hK
              · refine AW.skip ?_
                refine AW.seq ?_
                refine AW.seq ?_
                refine AW.region ?_
                refine AW.p rfl (P.fieldAddr ty29 rfl (by decide) rfl) ?_
                refine AW.l rfl (L.loadS ty26 rfl rfl rfl (get_top.trans rfl) rfl rfl) ?_
                refine AW.p rfl (P.fieldAddr ty29 rfl (by decide) rfl) ?_
                refine AW.l rfl (L.loadS ty26 rfl rfl rfl (get_top.trans rfl) rfl rfl) ?_
                refine AW.call rfl Try.func22 rfl rfl rfl ?_
                refine eqForm_ok a.data b.data  ?_
                refine AW.p rfl (P.not rfl) ?_
                refine AW.opsNil ?_
                refine AW.norm [(2, .bx (st.length, 2) 0), (3, .bx (st.length, 3) 0), (36, .v (.bool (!(eqForm a.data b.data))))] [(2, .cells (cCore a)), (3, .cells (cCore b))] (.same rfl (.same rfl (.same rfl .nil))) rfl ?_
                refine AW.cond rfl (fun h6 => ?_) (fun h6 => ?_)
                · refine AW.seq ?_
                  refine AW.region ?_
                  refine AW.p rfl P.assign ?_
                  refine AW.opsNil ?_
                  refine AW.ret rfl rfl ?_
                  exact kbool (by rw [eqCore_eq]; simp_all) hK
                · refine AW.skip ?_
                  refine AW.seq ?_
                  refine AW.seq ?_
                  refine AW.region ?_
                  refine AW.p rfl (P.fieldAddr ty29 rfl (by decide) rfl) ?_
                  refine AW.l rfl (L.load ty27 rfl rfl rfl (get_top.trans rfl) rfl) ?_
                  refine AW.p rfl (P.fieldAddr ty29 rfl (by decide) rfl) ?_
                  refine AW.l rfl (L.load ty27 rfl rfl rfl (get_top.trans rfl) rfl) ?_
                  refine AW.call rfl Try.func23 rfl rfl rfl ?_
                  refine ih.2 a.kids b.kids (by have := sz_kids a; omega)  ?_
                  refine AW.p rfl (P.not rfl) ?_
                  refine AW.opsNil ?_
                  refine AW.cond rfl (fun h7 => ?_) (fun h7 => ?_)
                  · refine AW.seq ?_
                    refine AW.region ?_
                    refine AW.p rfl P.assign ?_
                    refine AW.opsNil ?_
                    refine AW.ret rfl rfl ?_
                    exact kbool (by rw [eqCore_eq]; simp_all) hK
                  · refine AW.skip ?_
                    refine AW.seq ?_
                    refine AW.region ?_
                    refine AW.p rfl P.assign ?_
                    refine AW.opsNil ?_
                    refine AW.ret rfl rfl ?_
                    exact kbool (by rw [eqCore_eq]; simp_all) hK
    · intro a b hm st K hK
      refine acallE Try.func23 rfl rfl rfl (l := [(0, .sl 11 .ro (coresD a)), (1, .sl 11 .ro (coresD b))]) (.same rfl (.same rfl .nil)) ?_
      refine AW.seq ?_
      refine AW.region ?_
      refine AW.p rfl P.assign ?_
      refine AW.opsNil ?_
      refine AW.seq ?_
      refine AW.seq ?_
      refine AW.region ?_
      refine AW.p rfl P.move ?_
      refine AW.lenE ty27 rfl (coresD_length _) rfl (fun hl7 => ?_)
      refine AW.p rfl P.move ?_
      refine AW.lenE ty27 rfl (coresD_length _) rfl (fun hl9 => ?_)
      refine AW.p rfl (P.neI rfl rfl) ?_
      refine AW.opsNil ?_
      refine AW.condP rfl (fun h1 => ?_) (fun h1 => ?_)
      · refine AW.seq ?_
        refine AW.region ?_
        refine AW.p rfl P.assign ?_
        refine AW.opsNil ?_
        refine AW.ret rfl rfl ?_
        exact kbool (by first | (rw [← hn]; simp_all [eqCores]; done) | exact eqCores_len (by omega) | (rw [← hn]; rfl)) hK
      · refine AW.skip ?_
        refine AW.seq ?_
        refine AW.seq ?_
        refine AW.region ?_
        refine AW.p rfl P.assign ?_
        refine AW.opsNil ?_
        refine AW.block ?_
        refine AW.loopE (ι := List Core × List Core × Nat) (fun ⟨l, l2, i⟩ => [(0, .sl 11 .ro (coresD a)), (1, .sl 11 .ro (coresD b)), (5, .v (.int .i64 ((i : Nat) : Int)))]) (fun ⟨l, l2, i⟩ => []) (fun ⟨l, l2, i⟩ => a.drop i = l ∧ b.drop i = l2 ∧ eqCores l l2 = eqCores a b ∧ i ≤ a.length) (fun ⟨l, l2, i⟩ => l.length) (a, b, 0) (.same rfl (.same rfl (.same rfl .nil))) rfl ⟨rfl, rfl, rfl, Nat.zero_le _⟩ ?_
        intro ⟨l, l2, i⟩ ⟨hd, hd2, hn, hi⟩
        show AW _ _ (_ :: .goal _ :: _) _ (mkEnv [(0, .sl 11 .ro (coresD a)), (1, .sl 11 .ro (coresD b)), (5, .v (.int .i64 ((i : Nat) : Int)))]) (mkFr [] :: st)
        have hd : a.drop i = l := hd
        have hd2 : b.drop i = l2 := hd2
        have hn : eqCores l l2 = eqCores a b := hn
        have hi : i ≤ a.length := hi
        refine AW.seq ?_
        refine AW.seq ?_
        refine AW.region ?_
        refine AW.p rfl P.move ?_
        refine AW.p rfl P.move ?_
        refine AW.lenE ty27 rfl (coresD_length _) rfl (fun hl13 => ?_)
        refine AW.p rfl (P.bin rfl rfl rfl) ?_
        refine AW.opsNil ?_
        refine AW.norm [(0, .sl 11 .ro (coresD a)), (1, .sl 11 .ro (coresD b)), (5, .v (.int .i64 ((i : Nat) : Int))), (14, .v (.bool (decide (((i : Nat) : Int) < ((a.length : Nat) : Int)))))] [] (.same rfl (.same rfl (.same rfl (.same rfl .nil)))) rfl ?_
        refine AW.condP rfl (fun h2 => ?_) (fun h2 => ?_)
        · obtain ⟨x, r, rfl, hx, hr⟩ := drop_cons hd (by omega)
          obtain ⟨y, r2, rfl, hy, hr2⟩ := drop_cons hd2 (by omega)
          refine AW.skip ?_
          refine AW.seq ?_
          refine AW.block ?_
          refine AW.seq ?_
          refine AW.regionD mixed rfl ?_
          refine AH.take 0 (listed' := #[true, false, false, false, false, false, false, false, false, false]) rfl (by kernel_rfl) (by kernel_rfl) (by kernel_rfl) rfl rfl (POk.l P.move) ?_
          refine AH.take 1 (listed' := #[true, true, false, false, false, false, false, false, false, false]) rfl (by kernel_rfl) (by kernel_rfl) (by kernel_rfl) rfl rfl (POk.l P.move) ?_
          refine AH.take 2 (listed' := #[true, true, true, false, false, false, false, false, false, false]) rfl (by kernel_rfl) (by kernel_rfl) (by kernel_rfl) rfl rfl (POk.l (P.indexA ty27 ty29 rfl rfl (by rw [coresD_get, hx]; rfl))) ?_
          refine AH.take 3 (listed' := #[true, true, true, true, false, false, false, false, false, false]) rfl (by kernel_rfl) (by kernel_rfl) (by kernel_rfl) rfl rfl (L.loadRS ty29 rfl rfl rfl rfl) ?_
          refine AH.take 4 (listed' := #[true, true, true, true, true, false, false, false, false, false]) rfl (by kernel_rfl) (by kernel_rfl) (by kernel_rfl) rfl rfl (POk.l P.move) ?_
          refine AH.take 5 (listed' := #[true, true, true, true, true, true, false, false, false, false]) rfl (by kernel_rfl) (by kernel_rfl) (by kernel_rfl) rfl rfl (POk.l P.move) ?_
          refine AH.take 6 (listed' := #[true, true, true, true, true, true, true, false, false, false]) rfl (by kernel_rfl) (by kernel_rfl) (by kernel_rfl) rfl rfl (POk.l (P.indexA ty27 ty29 rfl rfl (by rw [coresD_get, hy]; rfl))) ?_
          refine AH.take 7 (listed' := #[true, true, true, true, true, true, true, true, false, false]) rfl (by kernel_rfl) (by kernel_rfl) (by kernel_rfl) rfl rfl (L.loadRS ty29 rfl rfl rfl rfl) ?_
          refine AH.all (rs := [8]) (by kernel_rfl) (by decide) ?_
          refine ⟨?_, trivial⟩
          · refine AO.call (listed' := #[true, true, true, true, true, true, true, true, true, false]) rfl rfl rfl Try.func11 rfl rfl (ds := [.agg (cCore x), .agg (cCore y)]) rfl (by simp [allL, D.all, Tok.all, allLL]) ?_
            refine ih.1 x y (by have := sz_get hx; have := sz_get hy; omega)  ?_
            refine frame_same (Q := fun fr1 st1 => AH _ _ _ _ _ _ _ _ fr1 st1) ?_
            refine AH.take 9 (listed' := #[true, true, true, true, true, true, true, true, true, true]) rfl (by kernel_rfl) (by kernel_rfl) (by kernel_rfl) rfl rfl (POk.l (P.not rfl)) ?_
            refine AH.done (by kernel_rfl) ?_
            refine AW.cond rfl (fun h3 => ?_) (fun h3 => ?_)
            · refine AW.seq ?_
              refine AW.region ?_
              refine AW.p rfl P.assign ?_
              refine AW.opsNil ?_
              refine AW.ret rfl rfl ?_
              exact kbool (by first | (rw [← hn]; simp_all [eqCores]; done) | exact eqCores_len (by omega) | (rw [← hn]; rfl)) hK
            · refine AW.skip ?_
              refine AW.inBlock ?_
              refine AW.region ?_
              refine AW.p rfl P.move ?_
              refine AW.p rfl (P.addN (c := i + 1) rfl rfl rfl (by omega)) ?_
              refine AW.p rfl P.assign ?_
              refine AW.opsNil ?_
              exact AW.next (r, r2, (i + 1)) (.same rfl (.same rfl (.same rfl .nil))) rfl (Nat.lt_succ_self _) ⟨hr, hr2, by rw [← hn]; simp_all [eqCores], by omega⟩
        · have hl := drop_nil hd (by omega)
          have hl2 := drop_nil hd2 (by omega)
          subst hl
          subst hl2
          refine AW.exit rfl ?_
          refine AW.seq ?_
          refine AW.region ?_
          refine AW.p rfl P.assign ?_
          refine AW.opsNil ?_
          refine AW.ret rfl rfl ?_
          exact kbool (by first | (rw [← hn]; simp_all [eqCores]; done) | exact eqCores_len (by omega) | (rw [← hn]; rfl)) hK
theorem eqCore_ok : ∀ (a : Core) (b : Core), ∀ {st : St} {K : D → St → Prop}, K (.v (.bool (eqCore a b))) st → ACall X 11 [.agg (cCore a), .agg (cCore b)] st K :=
  fun a b _ _ hK => (eqCore_grp _).1 a b (Nat.lt_succ_self _)  hK
theorem eqCores_ok : ∀ (a : List Core) (b : List Core), ∀ {st : St} {K : D → St → Prop}, K (.v (.bool (eqCores a b))) st → ACall X 23 [.sl 11 .ro (coresD a), .sl 11 .ro (coresD b)] st K :=
  fun a b _ _ hK => (eqCore_grp _).2 a b (Nat.lt_succ_self _)  hK
theorem law4_ok : ∀ (c : Core), okCore c → ∀ {st : St} {K : D → St → Prop}, K (.v (.bool true)) st → ACall X 4 [.agg (cCore c)] st K := by
  intro c hok st K hK
  refine acallE Try.func4 rfl rfl rfl (l := [(0, .agg (cCore c))]) (.same rfl .nil) ?_
  refine AW.seq ?_
  refine AW.region ?_
  refine AW.box rfl rfl rfl rfl rfl ?_
  refine AW.p rfl P.assign ?_
  refine AW.opsNil ?_
  refine AW.seq ?_
  refine AW.region ?_
  refine AW.p rfl P.assign ?_
  refine AW.opsNil ?_
  refine AW.seq ?_
  refine AW.region ?_
  refine AW.l rfl (L.loadS ty38 rfl rfl rfl (get_top.trans rfl) rfl rfl) ?_
  refine AW.p rfl P.move ?_
  refine AW.call rfl Try.func9 rfl rfl rfl ?_
  refine szCore_ok c 1048576 (by omega) hok ?_
  have := szCore_leq c 1048576 (by omega)
  refine AW.p rfl P.assign ?_
  refine AW.opsNil ?_
  refine AW.seq ?_
  refine AW.seq ?_
  refine AW.region ?_
  refine AW.p rfl P.move ?_
  refine AW.p rfl (P.bin rfl rfl rfl) ?_
  refine AW.opsNil ?_
  refine AW.condP rfl (fun h1 => ?_) (fun h1 => ?_)
  · refine AW.seq ?_
    refine AW.region ?_
    refine AW.p rfl P.assign ?_
    refine AW.opsNil ?_
    refine AW.ret rfl rfl ?_
    exact hK
  · refine AW.skip ?_
    refine AW.seq ?_
    refine AW.region ?_
    refine AW.l rfl (L.loadS ty38 rfl rfl rfl (get_top.trans rfl) rfl rfl) ?_
    refine AW.call rfl Try.func10 rfl rfl rfl ?_
    refine toCore_ok c (by have := (szCore_bd _).1 c (Nat.lt_succ_self _) 1048576 (by omega); exact (this (by assumption)).1) ?_
    refine AW.call rfl Try.func8 rfl rfl rfl ?_
    refine specDepth_ok c  ?_
    refine AW.p rfl P.assign ?_
    refine AW.opsNil ?_
    refine AW.norm [(1, .bx (st.length, 1) 0), (4, .v (.int .i64 (depth c)))] [(1, .cells (cCore c))] (.same rfl (.same rfl .nil)) rfl ?_
    refine AW.seq ?_
    refine AW.region ?_
    refine AW.l rfl (L.loadS ty38 rfl rfl rfl (get_top.trans rfl) rfl rfl) ?_
    refine AW.call rfl Try.func10 rfl rfl rfl ?_
    refine toCore_ok c (by have := (szCore_bd _).1 c (Nat.lt_succ_self _) 1048576 (by omega); exact (this (by assumption)).1) ?_
    refine AW.alloc rfl tz29 (.v (.v (.v (.v (.sl (sz := 1) (.v (.v (.v (.sl (sz := 1) (.sl (sz := 5) (.sl (sz := 11) .nil))))))))))) rfl rfl rfl ?_
    refine AW.store ty29 rfl rfl rfl rfl rfl rfl rfl rfl rfl rfl ?_
    refine AW.opsNil ?_
    refine AW.norm [(1, .bx (st.length, 1) 0), (4, .v (.int .i64 (depth c))), (5, .bx (st.length, 5) 0)] [(1, .cells (cCore c)), (5, .cells (cCore c))] (.same rfl (.same rfl (.same rfl .nil))) rfl ?_
    refine AW.seq ?_
    refine AW.region ?_
    refine AW.l rfl (L.loadS ty29 rfl rfl rfl (get_top.trans rfl) rfl rfl) ?_
    refine AW.call rfl Try.func7 rfl rfl rfl ?_
    refine implDepth_ok c  ?_
    refine AW.p rfl P.assign ?_
    refine AW.opsNil ?_
    refine AW.seq ?_
    refine AW.seq ?_
    refine AW.region ?_
    refine AW.p rfl P.move ?_
    refine AW.p rfl P.move ?_
    refine AW.p rfl (P.neI rfl rfl) ?_
    refine AW.opsNil ?_
    refine AW.condP rfl (fun h2 => ?_) (fun h2 => ?_)
    · refine AW.seq ?_
      refine AW.region ?_
      refine AW.p rfl P.assign ?_
      refine AW.opsNil ?_
      refine AW.ret rfl rfl ?_
      exact kbool (by first | rfl | (exfalso; simp_all [depthI_depth, eqCore_refl])) hK
    · refine AW.skip ?_
      refine AW.seq ?_
      refine AW.seq ?_
      refine AW.regionD mixed rfl ?_
      refine AH.take 0 (listed' := #[true, false, false, false, false]) rfl (by kernel_rfl) (by kernel_rfl) (by kernel_rfl) rfl rfl (L.loadS ty29 rfl rfl (hid_top rfl) (get_top.trans rfl) rfl rfl) ?_
      refine AH.take 1 (listed' := #[true, true, false, false, false]) rfl (by kernel_rfl) (by kernel_rfl) (by kernel_rfl) rfl rfl (L.loadS ty38 rfl rfl (hid_top rfl) (get_top.trans rfl) rfl rfl) ?_
      refine AH.all (rs := [2]) (by kernel_rfl) (by decide) ?_
      refine ⟨?_, trivial⟩
      · refine AO.call (listed' := #[true, true, true, false, false]) rfl rfl rfl Try.func10 rfl rfl (ds := [.agg (cCore c)]) rfl (by simp [allL, D.all, Tok.all, allLL]) ?_
        refine toCore_ok c (by have := (szCore_bd _).1 c (Nat.lt_succ_self _) 1048576 (by omega); exact (this (by assumption)).1) ?_
        refine frame_same (Q := fun fr1 st1 => AH _ _ _ _ _ _ _ _ fr1 st1) ?_
        refine AH.all (rs := [3]) (by kernel_rfl) (by decide) ?_
        refine ⟨?_, trivial⟩
        · refine AO.call (listed' := #[true, true, true, true, false]) rfl rfl rfl Try.func11 rfl rfl (ds := [.agg (cCore c), .agg (cCore c)]) rfl (by simp [allL, D.all, Tok.all, allLL]) ?_
          refine eqCore_ok c c  ?_
          refine frame_same (Q := fun fr1 st1 => AH _ _ _ _ _ _ _ _ fr1 st1) ?_
          refine AH.take 4 (listed' := #[true, true, true, true, true]) rfl (by kernel_rfl) (by kernel_rfl) (by kernel_rfl) rfl rfl (POk.l (P.not rfl)) ?_
          refine AH.done (by kernel_rfl) ?_
          refine AW.cond rfl (fun h3 => ?_) (fun h3 => ?_)
          · refine AW.seq ?_
            refine AW.region ?_
            refine AW.p rfl P.assign ?_
            refine AW.opsNil ?_
            refine AW.ret rfl rfl ?_
            exact kbool (by first | rfl | (exfalso; simp_all [depthI_depth, eqCore_refl])) hK
          · refine AW.skip ?_
            refine AW.seq ?_
            refine AW.region ?_
            refine AW.p rfl P.assign ?_
            refine AW.opsNil ?_
            refine AW.ret rfl rfl ?_
            exact hK
end Go.Mx
