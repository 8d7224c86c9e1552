/- What the functions that FnExactLibraryRules reaches answer. The conditions stand in each theorem. -/
import Derived.Test.YtbifcdaablhljaaDoorMxOp
import Derived.Test.YtbifcdaablhljaaDoorProg
import Derived.KernelRfl
namespace Go.Mx
open Go.Proofs
set_option linter.unusedVariables false
set_option linter.unusedSimpArgs false
set_option maxRecDepth 10000
def libraryNames : List ByteArray := [⟨#[97, 110, 100]⟩, ⟨#[111, 114]⟩, ⟨#[110, 111, 116]⟩, ⟨#[119, 104, 101, 110]⟩, ⟨#[99, 111, 110, 100]⟩, ⟨#[108, 101, 116, 42]⟩, ⟨#[115, 119, 97, 112]⟩]
def libraryRules : List ByteArray := [⟨#[40, 114, 117, 108, 101, 115, 32, 40, 41, 32, 40, 40, 95, 41, 32, 49, 41, 32, 40, 40, 95, 32, 97, 41, 32, 97, 41, 32, 40, 40, 95, 32, 97, 32, 98, 32, 46, 46, 46, 41, 32, 40, 105, 102, 32, 97, 32, 40, 97, 110, 100, 32, 98, 32, 46, 46, 46, 41, 32, 48, 41, 41, 41]⟩, ⟨#[40, 114, 117, 108, 101, 115, 32, 40, 41, 32, 40, 40, 95, 41, 32, 48, 41, 32, 40, 40, 95, 32, 97, 41, 32, 97, 41, 32, 40, 40, 95, 32, 97, 32, 98, 32, 46, 46, 46, 41, 32, 40, 108, 101, 116, 32, 40, 40, 116, 32, 97, 41, 41, 32, 40, 105, 102, 32, 116, 32, 116, 32, 40, 111, 114, 32, 98, 32, 46, 46, 46, 41, 41, 41, 41, 41]⟩, ⟨#[40, 114, 117, 108, 101, 115, 32, 40, 41, 32, 40, 40, 95, 32, 97, 41, 32, 40, 105, 102, 32, 97, 32, 48, 32, 49, 41, 41, 41]⟩, ⟨#[40, 114, 117, 108, 101, 115, 32, 40, 41, 32, 40, 40, 95, 32, 97, 32, 98, 41, 32, 40, 105, 102, 32, 97, 32, 98, 32, 48, 41, 41, 41]⟩, ⟨#[40, 114, 117, 108, 101, 115, 32, 40, 101, 108, 115, 101, 41, 32, 40, 40, 95, 41, 32, 48, 41, 32, 40, 40, 95, 32, 40, 101, 108, 115, 101, 32, 101, 41, 41, 32, 101, 41, 32, 40, 40, 95, 32, 40, 99, 32, 101, 41, 32, 114, 32, 46, 46, 46, 41, 32, 40, 105, 102, 32, 99, 32, 101, 32, 40, 99, 111, 110, 100, 32, 114, 32, 46, 46, 46, 41, 41, 41, 41]⟩, ⟨#[40, 114, 117, 108, 101, 115, 32, 40, 41, 32, 40, 40, 95, 32, 40, 41, 32, 98, 41, 32, 98, 41, 32, 40, 40, 95, 32, 40, 40, 120, 32, 118, 41, 32, 114, 32, 46, 46, 46, 41, 32, 98, 41, 32, 40, 108, 101, 116, 32, 40, 40, 120, 32, 118, 41, 41, 32, 40, 108, 101, 116, 42, 32, 40, 114, 32, 46, 46, 46, 41, 32, 98, 41, 41, 41, 41]⟩, ⟨#[40, 114, 117, 108, 101, 115, 32, 40, 41, 32, 40, 40, 95, 32, 97, 32, 98, 41, 32, 40, 108, 101, 116, 32, 40, 40, 116, 109, 112, 32, 97, 41, 41, 32, 40, 108, 105, 115, 116, 32, 98, 32, 116, 109, 112, 41, 41, 41, 41]⟩]
def primitives : List ByteArray := [⟨#[108, 105, 115, 116]⟩, ⟨#[43]⟩, ⟨#[60]⟩, ⟨#[61]⟩, ⟨#[104, 101, 97, 100]⟩, ⟨#[116, 97, 105, 108]⟩]
def globD : Nat → D
  | 0 => .ro (strsD libraryNames).flatten
  | 1 => .ro (strsD libraryRules).flatten
  | _ => .any
theorem globD_all (g : Nat) : (globD g).all (fun _ => false) = true := by
  unfold globD; split <;> rfl
noncomputable def X : Setting := ⟨Tryd.prog, globD, globD_all⟩
theorem mixed : X.P.follows .mixedOrders = true := by kernel_rfl
def indexOf : List ByteArray → ByteArray → Nat → Int
  | [], _, _ => -1
  | y :: r, x, i => if x = y then i else indexOf r x (i + 1)
def libLoop : List ByteArray → ByteArray → Nat → ByteArray × Bool
  | [], _, _ => (⟨#[]⟩, false)
  | y :: r, x, i => if y = x then (libraryRules.getD i ⟨#[]⟩, true) else libLoop r x (i + 1)
def libRules (x : ByteArray) : ByteArray × Bool := libLoop libraryNames x 0
theorem indexOf_bd : ∀ (l : List ByteArray) (x : ByteArray) (i : Nat), -1 ≤ indexOf l x i ∧ indexOf l x i < i + l.length
  | [], x, i => by
    have e : indexOf [] x i = -1 := by simp only [indexOf]
    rw [e]
    exact ⟨Int.le_refl _, Int.lt_of_lt_of_le (by decide : (-1 : Int) < 0) (Int.add_nonneg (Int.natCast_nonneg _) (Int.natCast_nonneg _))⟩
  | y :: r, x, i => by
    have := indexOf_bd r x (i + 1)
    simp only [indexOf, List.length_cons]
    split <;> omega
theorem indexOf_ge : ∀ (l : List ByteArray) (x : ByteArray) (i : Nat), indexOf l x i = -1 ∨ (i : Int) ≤ indexOf l x i
  | [], x, i => .inl (by simp only [indexOf])
  | y :: r, x, i => by
    have := indexOf_ge r x (i + 1)
    simp only [indexOf]
    split <;> omega
theorem libLoop_eq : ∀ (l : List ByteArray) (x : ByteArray) (i : Nat), libLoop l x i = if indexOf l x i < 0 then (⟨#[]⟩, false) else (libraryRules.getD (indexOf l x i).toNat ⟨#[]⟩, true)
  | [], x, i => by simp [libLoop, indexOf]
  | y :: r, x, i => by
    by_cases h : y = x
    · have e : indexOf (y :: r) x i = (i : Int) := by simp only [indexOf]; rw [if_pos h.symm]
      rw [e, if_neg (by omega)]; simp [libLoop, h]
    · have e : indexOf (y :: r) x i = indexOf r x (i + 1) := by simp only [indexOf]; rw [if_neg (fun e => h e.symm)]
      rw [e, ← libLoop_eq r x (i + 1)]; simp [libLoop, h]
theorem libRules_pos {x : ByteArray} {e : ByteArray} (h : ¬ indexOf libraryNames x 0 < 0) (he : libraryRules[(indexOf libraryNames x 0).toNat]? = some e) : D.tup [.v (.string (libRules x).1), .v (.bool (libRules x).2)] = .tup [.v (.string e), .v (.bool true)] := by
  unfold libRules
  rw [libLoop_eq, if_neg h, List.getD_eq_getElem?_getD, he]; rfl
theorem libRules_neg {x : ByteArray} (h : indexOf libraryNames x 0 < 0) : D.tup [.v (.string (libRules x).1), .v (.bool (libRules x).2)] = .tup [.v (.string ⟨#[]⟩), .v (.bool false)] := by
  unfold libRules
  rw [libLoop_eq, if_pos h]
theorem tab_len : libraryRules.length = 7 ∧ libraryNames.length = 7 := ⟨rfl, rfl⟩
theorem getD_of {α : Type} {l : List α} {i : Nat} {x d : α} (h : l[i]? = some x) : l.getD i d = x := by rw [List.getD_eq_getElem?_getD, h]; rfl

theorem ty4 : tShape Tryd.prog 4 = some (1, 1, .bool) := by kernel_rfl
theorem ty9 : tShape Tryd.prog 9 = some (1, 16, .str) := by kernel_rfl
theorem ty25 : tShape Tryd.prog 25 = some (1, 24, .slice 9) := by kernel_rfl
theorem ty64 : tShape Tryd.prog 64 = some (7, 112, .array 7 9) := by kernel_rfl
theorem tz9 : tZero Tryd.prog 9 = some [.string ⟨#[]⟩] := by kernel_rfl
theorem sliceIndex_ok : ∀ (l : List ByteArray) (x : ByteArray), ∀ {st : St} {K : D → St → Prop}, K (.v (.int .i64 (indexOf l x 0))) st → ACall X 42 [.sl 1 .ro (strsD l), .v (.string x)] st K := by
  intro l x st K hK
  refine acallE Tryd.func42 rfl rfl rfl (l := [(0, .sl 1 .ro (strsD l)), (1, .v (.string x))]) (.same rfl (.same rfl .nil)) (fun Lv hL hlv => ?_)
  refine AW.seq ?_
  refine AW.region ?_
  refine AW.p rfl P.assign ?_
  refine AW.opsNil ?_
  refine AW.seq ?_
  refine AW.seq ?_
  refine AW.region ?_
  refine AW.p rfl P.move ?_
  refine AW.lenE ty25 rfl (strsD_length _) rfl (fun hl7 => ?_)
  refine AW.p rfl P.move ?_
  refine AW.opsNil ?_
  refine AW.block ?_
  refine AW.loopE (ι := List ByteArray × Nat) (fun ⟨q, i⟩ => [(0, .sl 1 .ro (strsD l)), (1, .v (.string x)), (7, .v (.int .i64 ((l.length : Nat) : Int))), (8, .v (.int .i64 ((i : Nat) : Int)))]) (fun ⟨q, i⟩ => []) (fun ⟨q, i⟩ => st) (fun ⟨q, i⟩ => l.drop i = q ∧ indexOf q x i = indexOf l x 0 ∧ i ≤ l.length) (fun ⟨q, i⟩ => q.length) (l, 0) (.same rfl (.same rfl (.same rfl (.same rfl .nil)))) rfl rfl ⟨rfl, rfl, Nat.zero_le _⟩ ?_
  intro ⟨q, i⟩ ⟨hd, hn, hi⟩
  show AW _ _ (_ :: .goal _ :: _) _ (mkEnv [(0, .sl 1 .ro (strsD l)), (1, .v (.string x)), (7, .v (.int .i64 ((l.length : Nat) : Int))), (8, .v (.int .i64 ((i : Nat) : Int)))]) (mkFr [] :: st)
  have hd : l.drop i = q := hd
  have hn : indexOf q x i = indexOf l x 0 := hn
  have hi : i ≤ l.length := hi
  refine AW.seq ?_
  refine AW.region ?_
  refine AW.p rfl (P.bin rfl rfl rfl) ?_
  refine AW.opsNil ?_
  refine AW.seq ?_
  refine AW.condP rfl (fun hc1 => ?_) (fun hc1 => ?_)
  · obtain ⟨y, r, rfl, hy, hr⟩ := drop_cons hd (by omega)
    have hm := drop_len hd hi
    refine AW.skip ?_
    refine AW.seq ?_
    refine AW.block ?_
    refine AW.seq ?_
    refine AW.region ?_
    refine AW.p rfl P.move ?_
    refine AW.p rfl P.assign ?_
    refine AW.opsNil ?_
    refine AW.seq ?_
    refine AW.region ?_
    refine AW.p rfl P.move ?_
    refine AW.p rfl P.move ?_
    refine AW.p rfl P.move ?_
    refine AW.p rfl (P.indexA ty25 ty9 rfl rfl (by rw [strsD_get, hy]; rfl)) ?_
    refine AW.l rfl (L.loadR ty9 rfl rfl rfl) ?_
    refine AW.p rfl (P.eqS rfl rfl) ?_
    refine AW.opsNil ?_
    refine AW.norm [(0, .sl 1 .ro (strsD l)), (1, .v (.string x)), (5, .v (.int .i64 ((i : Nat) : Int))), (7, .v (.int .i64 ((l.length : Nat) : Int))), (8, .v (.int .i64 ((i : Nat) : Int))), (16, .v (.bool (decide (x = y))))] [] st (.same rfl (.same rfl (.same rfl (.same rfl (.same rfl (.same rfl .nil)))))) rfl rfl ?_
    refine AW.condP rfl (fun hc2 => ?_) (fun hc2 => ?_)
    · refine AW.seq ?_
      refine AW.region ?_
      refine AW.p rfl P.move ?_
      refine AW.p rfl P.assign ?_
      refine AW.opsNil ?_
      refine AW.retE rfl rfl ?_
      exact kint (by rw [← hn]; simp_all [indexOf]) hK
    · refine AW.skip ?_
      refine AW.inBlock ?_
      refine AW.region ?_
      refine AW.p rfl (P.addN (c := i + 1) rfl rfl rfl (by omega)) ?_
      refine AW.p rfl P.move ?_
      refine AW.opsNil ?_
      exact AW.next (r, (i + 1)) (.same rfl (.same rfl (.same rfl (.same rfl .nil)))) rfl rfl (Nat.lt_succ_self _) ⟨hr, by rw [← hn]; simp_all [indexOf], by omega⟩
  · have hl := drop_nil hd (by omega)
    subst hl
    refine AW.exit rfl ?_
    refine AW.seq ?_
    refine AW.region ?_
    refine AW.p rfl P.assign ?_
    refine AW.opsNil ?_
    refine AW.retE rfl rfl ?_
    exact kint (by rw [← hn]; simp_all [indexOf]) hK
theorem l11Names_ok : ∀ {st : St} {K : D → St → Prop}, K (.sl 1 .full (strsD libraryNames)) st → ACall X 40 [] st K := by
  intro st K hK
  refine acallE Tryd.func40 rfl rfl rfl (l := []) .nil (fun Lv hL hlv => ?_)
  refine AW.seq ?_
  refine AW.region ?_
  refine AW.p rfl (P.assignNil (sz := 1)) ?_
  refine AW.opsNil ?_
  refine AW.seq ?_
  refine AW.region ?_
  refine AW.s (S.buildSlice (xs := strsD [⟨#[97, 110, 100]⟩, ⟨#[111, 114]⟩, ⟨#[110, 111, 116]⟩, ⟨#[119, 104, 101, 110]⟩, ⟨#[99, 111, 110, 100]⟩, ⟨#[108, 101, 116, 42]⟩, ⟨#[115, 119, 97, 112]⟩]) (xs' := strsD [⟨#[97, 110, 100]⟩, ⟨#[111, 114]⟩, ⟨#[110, 111, 116]⟩, ⟨#[119, 104, 101, 110]⟩, ⟨#[99, 111, 110, 100]⟩, ⟨#[108, 101, 116, 42]⟩, ⟨#[115, 119, 97, 112]⟩]) rfl ty25 ty9 tz9 rfl (by decide) (by decide) rfl rfl rfl rfl (by simp [strsD]) rfl) ?_
  refine AW.p rfl P.assign ?_
  refine AW.opsNil ?_
  refine AW.retE rfl (by show D.all _ (.sl 1 .full (strsD _)) = true; simp [D.all, Tok.all]) ?_
  exact kD (show ((.sl 1 .full (strsD libraryNames) : D)) = (.sl 1 .full (strsD [⟨#[97, 110, 100]⟩, ⟨#[111, 114]⟩, ⟨#[110, 111, 116]⟩, ⟨#[119, 104, 101, 110]⟩, ⟨#[99, 111, 110, 100]⟩, ⟨#[108, 101, 116, 42]⟩, ⟨#[115, 119, 97, 112]⟩]) : D) from rfl) hK
theorem l11Rules_ok : ∀ {st : St} {K : D → St → Prop}, K (.sl 1 .full (strsD libraryRules)) st → ACall X 41 [] st K := by
  intro st K hK
  refine acallE Tryd.func41 rfl rfl rfl (l := []) .nil (fun Lv hL hlv => ?_)
  refine AW.seq ?_
  refine AW.region ?_
  refine AW.p rfl (P.assignNil (sz := 1)) ?_
  refine AW.opsNil ?_
  refine AW.seq ?_
  refine AW.region ?_
  refine AW.s (S.buildSlice (xs := strsD [⟨#[40, 114, 117, 108, 101, 115, 32, 40, 41, 32, 40, 40, 95, 41, 32, 49, 41, 32, 40, 40, 95, 32, 97, 41, 32, 97, 41, 32, 40, 40, 95, 32, 97, 32, 98, 32, 46, 46, 46, 41, 32, 40, 105, 102, 32, 97, 32, 40, 97, 110, 100, 32, 98, 32, 46, 46, 46, 41, 32, 48, 41, 41, 41]⟩, ⟨#[40, 114, 117, 108, 101, 115, 32, 40, 41, 32, 40, 40, 95, 41, 32, 48, 41, 32, 40, 40, 95, 32, 97, 41, 32, 97, 41, 32, 40, 40, 95, 32, 97, 32, 98, 32, 46, 46, 46, 41, 32, 40, 108, 101, 116, 32, 40, 40, 116, 32, 97, 41, 41, 32, 40, 105, 102, 32, 116, 32, 116, 32, 40, 111, 114, 32, 98, 32, 46, 46, 46, 41, 41, 41, 41, 41]⟩, ⟨#[40, 114, 117, 108, 101, 115, 32, 40, 41, 32, 40, 40, 95, 32, 97, 41, 32, 40, 105, 102, 32, 97, 32, 48, 32, 49, 41, 41, 41]⟩, ⟨#[40, 114, 117, 108, 101, 115, 32, 40, 41, 32, 40, 40, 95, 32, 97, 32, 98, 41, 32, 40, 105, 102, 32, 97, 32, 98, 32, 48, 41, 41, 41]⟩, ⟨#[40, 114, 117, 108, 101, 115, 32, 40, 101, 108, 115, 101, 41, 32, 40, 40, 95, 41, 32, 48, 41, 32, 40, 40, 95, 32, 40, 101, 108, 115, 101, 32, 101, 41, 41, 32, 101, 41, 32, 40, 40, 95, 32, 40, 99, 32, 101, 41, 32, 114, 32, 46, 46, 46, 41, 32, 40, 105, 102, 32, 99, 32, 101, 32, 40, 99, 111, 110, 100, 32, 114, 32, 46, 46, 46, 41, 41, 41, 41]⟩, ⟨#[40, 114, 117, 108, 101, 115, 32, 40, 41, 32, 40, 40, 95, 32, 40, 41, 32, 98, 41, 32, 98, 41, 32, 40, 40, 95, 32, 40, 40, 120, 32, 118, 41, 32, 114, 32, 46, 46, 46, 41, 32, 98, 41, 32, 40, 108, 101, 116, 32, 40, 40, 120, 32, 118, 41, 41, 32, 40, 108, 101, 116, 42, 32, 40, 114, 32, 46, 46, 46, 41, 32, 98, 41, 41, 41, 41]⟩, ⟨#[40, 114, 117, 108, 101, 115, 32, 40, 41, 32, 40, 40, 95, 32, 97, 32, 98, 41, 32, 40, 108, 101, 116, 32, 40, 40, 116, 109, 112, 32, 97, 41, 41, 32, 40, 108, 105, 115, 116, 32, 98, 32, 116, 109, 112, 41, 41, 41, 41]⟩]) (xs' := strsD [⟨#[40, 114, 117, 108, 101, 115, 32, 40, 41, 32, 40, 40, 95, 41, 32, 49, 41, 32, 40, 40, 95, 32, 97, 41, 32, 97, 41, 32, 40, 40, 95, 32, 97, 32, 98, 32, 46, 46, 46, 41, 32, 40, 105, 102, 32, 97, 32, 40, 97, 110, 100, 32, 98, 32, 46, 46, 46, 41, 32, 48, 41, 41, 41]⟩, ⟨#[40, 114, 117, 108, 101, 115, 32, 40, 41, 32, 40, 40, 95, 41, 32, 48, 41, 32, 40, 40, 95, 32, 97, 41, 32, 97, 41, 32, 40, 40, 95, 32, 97, 32, 98, 32, 46, 46, 46, 41, 32, 40, 108, 101, 116, 32, 40, 40, 116, 32, 97, 41, 41, 32, 40, 105, 102, 32, 116, 32, 116, 32, 40, 111, 114, 32, 98, 32, 46, 46, 46, 41, 41, 41, 41, 41]⟩, ⟨#[40, 114, 117, 108, 101, 115, 32, 40, 41, 32, 40, 40, 95, 32, 97, 41, 32, 40, 105, 102, 32, 97, 32, 48, 32, 49, 41, 41, 41]⟩, ⟨#[40, 114, 117, 108, 101, 115, 32, 40, 41, 32, 40, 40, 95, 32, 97, 32, 98, 41, 32, 40, 105, 102, 32, 97, 32, 98, 32, 48, 41, 41, 41]⟩, ⟨#[40, 114, 117, 108, 101, 115, 32, 40, 101, 108, 115, 101, 41, 32, 40, 40, 95, 41, 32, 48, 41, 32, 40, 40, 95, 32, 40, 101, 108, 115, 101, 32, 101, 41, 41, 32, 101, 41, 32, 40, 40, 95, 32, 40, 99, 32, 101, 41, 32, 114, 32, 46, 46, 46, 41, 32, 40, 105, 102, 32, 99, 32, 101, 32, 40, 99, 111, 110, 100, 32, 114, 32, 46, 46, 46, 41, 41, 41, 41]⟩, ⟨#[40, 114, 117, 108, 101, 115, 32, 40, 41, 32, 40, 40, 95, 32, 40, 41, 32, 98, 41, 32, 98, 41, 32, 40, 40, 95, 32, 40, 40, 120, 32, 118, 41, 32, 114, 32, 46, 46, 46, 41, 32, 98, 41, 32, 40, 108, 101, 116, 32, 40, 40, 120, 32, 118, 41, 41, 32, 40, 108, 101, 116, 42, 32, 40, 114, 32, 46, 46, 46, 41, 32, 98, 41, 41, 41, 41]⟩, ⟨#[40, 114, 117, 108, 101, 115, 32, 40, 41, 32, 40, 40, 95, 32, 97, 32, 98, 41, 32, 40, 108, 101, 116, 32, 40, 40, 116, 109, 112, 32, 97, 41, 41, 32, 40, 108, 105, 115, 116, 32, 98, 32, 116, 109, 112, 41, 41, 41, 41]⟩]) rfl ty25 ty9 tz9 rfl (by decide) (by decide) rfl rfl rfl rfl (by simp [strsD]) rfl) ?_
  refine AW.p rfl P.assign ?_
  refine AW.opsNil ?_
  refine AW.retE rfl (by show D.all _ (.sl 1 .full (strsD _)) = true; simp [D.all, Tok.all]) ?_
  exact kD (show ((.sl 1 .full (strsD libraryRules) : D)) = (.sl 1 .full (strsD [⟨#[40, 114, 117, 108, 101, 115, 32, 40, 41, 32, 40, 40, 95, 41, 32, 49, 41, 32, 40, 40, 95, 32, 97, 41, 32, 97, 41, 32, 40, 40, 95, 32, 97, 32, 98, 32, 46, 46, 46, 41, 32, 40, 105, 102, 32, 97, 32, 40, 97, 110, 100, 32, 98, 32, 46, 46, 46, 41, 32, 48, 41, 41, 41]⟩, ⟨#[40, 114, 117, 108, 101, 115, 32, 40, 41, 32, 40, 40, 95, 41, 32, 48, 41, 32, 40, 40, 95, 32, 97, 41, 32, 97, 41, 32, 40, 40, 95, 32, 97, 32, 98, 32, 46, 46, 46, 41, 32, 40, 108, 101, 116, 32, 40, 40, 116, 32, 97, 41, 41, 32, 40, 105, 102, 32, 116, 32, 116, 32, 40, 111, 114, 32, 98, 32, 46, 46, 46, 41, 41, 41, 41, 41]⟩, ⟨#[40, 114, 117, 108, 101, 115, 32, 40, 41, 32, 40, 40, 95, 32, 97, 41, 32, 40, 105, 102, 32, 97, 32, 48, 32, 49, 41, 41, 41]⟩, ⟨#[40, 114, 117, 108, 101, 115, 32, 40, 41, 32, 40, 40, 95, 32, 97, 32, 98, 41, 32, 40, 105, 102, 32, 97, 32, 98, 32, 48, 41, 41, 41]⟩, ⟨#[40, 114, 117, 108, 101, 115, 32, 40, 101, 108, 115, 101, 41, 32, 40, 40, 95, 41, 32, 48, 41, 32, 40, 40, 95, 32, 40, 101, 108, 115, 101, 32, 101, 41, 41, 32, 101, 41, 32, 40, 40, 95, 32, 40, 99, 32, 101, 41, 32, 114, 32, 46, 46, 46, 41, 32, 40, 105, 102, 32, 99, 32, 101, 32, 40, 99, 111, 110, 100, 32, 114, 32, 46, 46, 46, 41, 41, 41, 41]⟩, ⟨#[40, 114, 117, 108, 101, 115, 32, 40, 41, 32, 40, 40, 95, 32, 40, 41, 32, 98, 41, 32, 98, 41, 32, 40, 40, 95, 32, 40, 40, 120, 32, 118, 41, 32, 114, 32, 46, 46, 46, 41, 32, 98, 41, 32, 40, 108, 101, 116, 32, 40, 40, 120, 32, 118, 41, 41, 32, 40, 108, 101, 116, 42, 32, 40, 114, 32, 46, 46, 46, 41, 32, 98, 41, 41, 41, 41]⟩, ⟨#[40, 114, 117, 108, 101, 115, 32, 40, 41, 32, 40, 40, 95, 32, 97, 32, 98, 41, 32, 40, 108, 101, 116, 32, 40, 40, 116, 109, 112, 32, 97, 41, 41, 32, 40, 108, 105, 115, 116, 32, 98, 32, 116, 109, 112, 41, 41, 41, 41]⟩]) : D) from rfl) hK
theorem specLibRules_ok : ∀ (x : ByteArray), ∀ {st : St} {K : D → St → Prop}, K (.tup [.v (.string ((libRules x).1)), .v (.bool ((libRules x).2))]) st → ACall X 10 [.v (.string x)] st K := by
  intro x st K hK
  refine acallE Tryd.func10 rfl rfl rfl (l := [(0, .v (.string x))]) (.same rfl .nil) (fun Lv hL hlv => ?_)
  have hT := tab_len
  refine AW.seq ?_
  refine AW.region ?_
  refine AW.p rfl P.assign ?_
  refine AW.p rfl P.assign ?_
  refine AW.opsNil ?_
  refine AW.seq ?_
  refine AW.region ?_
  refine AW.call rfl Tryd.func40 rfl rfl rfl ?_
  refine l11Names_ok   ?_
  refine AW.p rfl P.assign ?_
  refine AW.opsNil ?_
  refine AW.seq ?_
  refine AW.seq ?_
  refine AW.region ?_
  refine AW.p rfl P.assign ?_
  refine AW.opsNil ?_
  refine AW.block ?_
  refine AW.loopE (ι := List ByteArray × Nat) (fun ⟨q, i⟩ => [(0, .v (.string x)), (4, .sl 1 .full (strsD libraryNames)), (5, .v (.int .i64 ((i : Nat) : Int)))]) (fun ⟨q, i⟩ => []) (fun ⟨q, i⟩ => st) (fun ⟨q, i⟩ => libraryNames.drop i = q ∧ libLoop q x i = libLoop libraryNames x 0 ∧ i ≤ libraryNames.length) (fun ⟨q, i⟩ => q.length) (libraryNames, 0) (.same rfl (.same rfl (.same rfl .nil))) rfl rfl ⟨rfl, rfl, Nat.zero_le _⟩ ?_
  intro ⟨q, i⟩ ⟨hd, hn, hi⟩
  show AW _ _ (_ :: .goal _ :: _) _ (mkEnv [(0, .v (.string x)), (4, .sl 1 .full (strsD libraryNames)), (5, .v (.int .i64 ((i : Nat) : Int)))]) (mkFr [] :: st)
  have hd : libraryNames.drop i = q := hd
  have hn : libLoop q x i = libLoop libraryNames x 0 := hn
  have hi : i ≤ libraryNames.length := hi
  refine AW.seq ?_
  refine AW.seq ?_
  refine AW.region ?_
  refine AW.p rfl P.move ?_
  refine AW.p rfl P.move ?_
  refine AW.lenE ty25 rfl (strsD_length _) rfl (fun hl9 => ?_)
  refine AW.p rfl (P.bin rfl rfl rfl) ?_
  refine AW.opsNil ?_
  refine AW.condP rfl (fun hc1 => ?_) (fun hc1 => ?_)
  · obtain ⟨y, r, rfl, hy, hr⟩ := drop_cons hd (by omega)
    have hm := drop_len hd hi
    refine AW.skip ?_
    refine AW.seq ?_
    refine AW.block ?_
    refine AW.seq ?_
    refine AW.region ?_
    refine AW.p rfl P.move ?_
    refine AW.p rfl P.move ?_
    refine AW.p rfl (P.indexA ty25 ty9 rfl rfl (by rw [strsD_get, hy]; rfl)) ?_
    refine AW.l rfl (L.loadR ty9 rfl rfl rfl) ?_
    refine AW.p rfl P.move ?_
    refine AW.p rfl (P.eqS rfl rfl) ?_
    refine AW.opsNil ?_
    refine AW.norm [(0, .v (.string x)), (4, .sl 1 .full (strsD libraryNames)), (5, .v (.int .i64 ((i : Nat) : Int))), (18, .v (.bool (decide (y = x))))] [] st (.same rfl (.same rfl (.same rfl (.same rfl .nil)))) rfl rfl ?_
    refine AW.condP rfl (fun hc2 => ?_) (fun hc2 => ?_)
    · refine AW.seq ?_
      refine AW.region ?_
      refine AW.call rfl Tryd.func41 rfl rfl rfl ?_
      refine l11Rules_ok   ?_
      refine AW.p rfl P.move ?_
      obtain ⟨e3, he4⟩ := pL_some (xs := libraryRules) (i := i) (by omega)
      refine AW.p rfl (P.indexA ty25 ty9 rfl rfl (by rw [strsD_get, he4]; rfl)) ?_
      refine AW.l rfl (L.loadR ty9 rfl rfl rfl) ?_
      refine AW.p rfl P.assign ?_
      refine AW.p rfl P.assign ?_
      refine AW.opsNil ?_
      refine AW.retE rfl rfl ?_
      exact kD (show ((.tup [.v (.string ((libRules x).1)), .v (.bool ((libRules x).2))] : D)) = (.tup [.v (.string e3), .v (.bool true)] : D) from (by unfold libRules; rw [← hn]; first | (simp only [libLoop]; rw [if_pos (by assumption), getD_of (by assumption)]) | (simp only [libLoop]))) hK
    · refine AW.skip ?_
      refine AW.inBlock ?_
      refine AW.region ?_
      refine AW.p rfl P.move ?_
      refine AW.p rfl (P.addN (c := i + 1) rfl rfl rfl (by omega)) ?_
      refine AW.p rfl P.assign ?_
      refine AW.opsNil ?_
      exact AW.next (r, (i + 1)) (.same rfl (.same rfl (.same rfl .nil))) rfl rfl (Nat.lt_succ_self _) ⟨hr, by rw [← hn]; simp_all [libLoop], by omega⟩
  · have hl := drop_nil hd (by omega)
    subst hl
    refine AW.exit rfl ?_
    refine AW.seq ?_
    refine AW.region ?_
    refine AW.p rfl P.assign ?_
    refine AW.p rfl P.assign ?_
    refine AW.opsNil ?_
    refine AW.retE rfl rfl ?_
    exact kD (show ((.tup [.v (.string ((libRules x).1)), .v (.bool ((libRules x).2))] : D)) = (.tup [.v (.string ⟨#[]⟩), .v (.bool false)] : D) from (by unfold libRules; rw [← hn]; first | (simp only [libLoop]; rw [if_pos (by assumption), getD_of (by assumption)]) | (simp only [libLoop]))) hK
theorem implLibRules_ok : ∀ (x : ByteArray), ∀ {st : St} {K : D → St → Prop}, K (.tup [.v (.string ((libRules x).1)), .v (.bool ((libRules x).2))]) st → ACall X 11 [.v (.string x)] st K := by
  intro x st K hK
  refine acallE Tryd.func11 rfl rfl rfl (l := [(0, .v (.string x))]) (.same rfl .nil) (fun Lv hL hlv => ?_)
  have hT := tab_len
  have hI := indexOf_bd libraryNames x 0
  refine AW.seq ?_
  refine AW.region ?_
  refine AW.p rfl P.assign ?_
  refine AW.p rfl P.assign ?_
  refine AW.opsNil ?_
  refine AW.seq ?_
  refine AW.region ?_
  refine AW.p rfl (P.sliceArr (xs := strsD libraryNames) ty64 ty9 rfl rfl (by decide) (strsD_sz _)) ?_
  refine AW.p rfl P.move ?_
  refine AW.call rfl Tryd.func42 rfl rfl rfl ?_
  refine ACall.wk (ds' := [.sl 1 .ro (strsD libraryNames), .v (.string x)]) (.fog rfl (.same .nil)) ?_
  refine sliceIndex_ok libraryNames x  ?_
  refine AW.p rfl P.assign ?_
  refine AW.opsNil ?_
  refine AW.seq ?_
  refine AW.seq ?_
  refine AW.region ?_
  refine AW.p rfl P.move ?_
  refine AW.p rfl (P.bin rfl rfl rfl) ?_
  refine AW.opsNil ?_
  refine AW.condP rfl (fun hc1 => ?_) (fun hc1 => ?_)
  · refine AW.seq ?_
    refine AW.region ?_
    refine AW.p rfl P.assign ?_
    refine AW.p rfl P.assign ?_
    refine AW.opsNil ?_
    refine AW.retE rfl rfl ?_
    exact kD (show ((.tup [.v (.string ((libRules x).1)), .v (.bool ((libRules x).2))] : D)) = (.tup [.v (.string ⟨#[]⟩), .v (.bool false)] : D) from (by first | (rw [libRules_pos (by omega) (by assumption)]; done) | (rw [libRules_neg (by omega)]; done))) hK
  · refine AW.skip ?_
    refine AW.seq ?_
    refine AW.region ?_
    refine AW.p rfl P.move ?_
    obtain ⟨e2, he3⟩ := pL_some (xs := libraryRules) (i := (indexOf libraryNames x 0).toNat) (by omega)
    refine AW.p rfl (P.indexArrI (xs := strsD libraryRules) ty64 ty9 rfl rfl (by decide) (strsD_sz _) rfl (by omega) (by rw [strsD_get, he3]; rfl)) ?_
    refine AW.l rfl (L.loadR ty9 rfl rfl rfl) ?_
    refine AW.p rfl P.assign ?_
    refine AW.p rfl P.assign ?_
    refine AW.opsNil ?_
    refine AW.retE rfl rfl ?_
    exact kD (show ((.tup [.v (.string ((libRules x).1)), .v (.bool ((libRules x).2))] : D)) = (.tup [.v (.string e2), .v (.bool true)] : D) from (by first | (rw [libRules_pos (by omega) (by assumption)]; done) | (rw [libRules_neg (by omega)]; done))) hK
theorem law3_ok : ∀ (x : ByteArray), ∀ {st : St} {K : D → St → Prop}, K (.v (.bool true)) st → ACall X 3 [.v (.string x)] st K := by
  intro x st K hK
  refine acallE Tryd.func3 rfl rfl rfl (l := [(0, .v (.string x))]) (.same rfl .nil) (fun Lv hL hlv => ?_)
  refine AW.seq ?_
  refine AW.region ?_
  refine AW.p rfl P.assign ?_
  refine AW.opsNil ?_
  refine AW.seq ?_
  refine AW.seq ?_
  refine AW.region ?_
  refine AW.p rfl P.move ?_
  refine AW.p rfl (P.lenS ty9 rfl) ?_
  refine AW.p rfl (P.bin rfl rfl rfl) ?_
  refine AW.opsNil ?_
  refine AW.condP rfl (fun hc1 => ?_) (fun hc1 => ?_)
  · refine AW.seq ?_
    refine AW.region ?_
    refine AW.p rfl P.assign ?_
    refine AW.opsNil ?_
    refine AW.retE rfl rfl ?_
    exact hK
  · refine AW.skip ?_
    refine AW.seq ?_
    refine AW.region ?_
    refine AW.p rfl P.move ?_
    refine AW.call rfl Tryd.func10 rfl rfl rfl ?_
    refine specLibRules_ok x  ?_
    refine AW.p rfl P.move ?_
    refine AW.p rfl (P.extract rfl rfl) ?_
    refine AW.p rfl (P.extract rfl rfl) ?_
    refine AW.p rfl P.assign ?_
    refine AW.p rfl P.assign ?_
    refine AW.opsNil ?_
    refine AW.norm [(0, .v (.string x)), (3, .v (.string ((libRules x).1))), (4, .v (.bool ((libRules x).2)))] [] st (.same rfl (.same rfl (.same rfl .nil))) rfl rfl ?_
    refine AW.seq ?_
    refine AW.region ?_
    refine AW.p rfl P.move ?_
    refine AW.call rfl Tryd.func11 rfl rfl rfl ?_
    refine implLibRules_ok x  ?_
    refine AW.p rfl P.move ?_
    refine AW.p rfl (P.extract rfl rfl) ?_
    refine AW.p rfl (P.extract rfl rfl) ?_
    refine AW.p rfl P.assign ?_
    refine AW.p rfl P.assign ?_
    refine AW.opsNil ?_
    refine AW.seq ?_
    refine AW.seq ?_
    refine AW.cutE [(27, .v (.bool (if ¬ ((libRules x).1) = ((libRules x).1) then true else (!((libRules x).2 == (libRules x).2)))))] [] st True ?_ (fun _ => ?_)
    · refine AW.region ?_
      refine AW.p rfl P.move ?_
      refine AW.p rfl P.move ?_
      refine AW.p rfl (P.neS rfl rfl) ?_
      refine AW.p rfl P.move ?_
      by_cases g2 : ¬ ((libRules x).1) = ((libRules x).1)
      · refine AW.guardF (b := true) rfl rfl (dtrue g2) rfl rfl ?_
        refine AW.guardF (b := true) rfl rfl (dtrue g2) rfl rfl ?_
        refine AW.guardF (b := true) rfl rfl (dtrue g2) rfl rfl ?_
        refine AW.p rfl (P.pickB (b := true) (dtrue g2) rfl) ?_
        refine AW.opsNil ?_
        exact AW.meet (.cons (Wk.eq (by show D.v (.bool true) = D.v (.bool (if ¬ ((libRules x).1) = ((libRules x).1) then true else (!((libRules x).2 == (libRules x).2)))); first | (simp [g2]; done) | simp_all)) .nil) rfl rfl trivial
      · refine AW.guardT rfl rfl (dfalse g2) ?_
        refine AW.p rfl P.move ?_
        refine AW.guardT rfl rfl (dfalse g2) ?_
        refine AW.p rfl P.move ?_
        refine AW.guardT rfl rfl (dfalse g2) ?_
        refine AW.p rfl (P.neB ty4 rfl rfl) ?_
        refine AW.p rfl (P.pickB (b := false) (dfalse g2) rfl) ?_
        refine AW.opsNil ?_
        exact AW.meet (.cons (Wk.eq (by show D.v (.bool (!((libRules x).2 == (libRules x).2))) = D.v (.bool (if ¬ ((libRules x).1) = ((libRules x).1) then true else (!((libRules x).2 == (libRules x).2)))); first | (simp [g2]; done) | simp_all)) .nil) rfl rfl trivial
    · refine AW.cond rfl (fun hc3 => ?_) (fun hc3 => ?_)
      · refine AW.seq ?_
        refine AW.region ?_
        refine AW.p rfl P.assign ?_
        refine AW.opsNil ?_
        refine AW.retE rfl rfl ?_
        exact kbool (by first | rfl | (exfalso; simp_all)) hK
      · refine AW.skip ?_
        refine AW.seq ?_
        refine AW.region ?_
        refine AW.p rfl P.assign ?_
        refine AW.opsNil ?_
        refine AW.retE rfl rfl ?_
        exact hK
end Go.Mx
