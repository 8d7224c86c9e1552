/- Models of functions. No condition. -/
import Derived.Test.YtbifcdaablhljaaEvTwo
import Derived.Test.YtbifcdaablhljaaProg
import Derived.KernelRfl
namespace Go.Ev
open Go.Proofs Go.Mx
set_option linter.unusedVariables false
set_option maxRecDepth 10000
def tT : List (Nat × (Nat × Nat × Shp)) := [(3, (1, 8, .int .i64)), (5, (1, 1, .int .u8)), (9, (1, 16, .str)), (22, (1, 24, .slice 5)), (23, (1, 24, .slice 3)), (24, (1, 24, .slice 26)), (26, (5, 80, .struct [(0, 1), (1, 1), (2, 1), (3, 1), (4, 1)])), (27, (1, 24, .slice 29)), (29, (11, 168, .struct [(0, 1), (1, 1), (2, 1), (3, 1), (4, 1), (5, 5), (10, 1)])), (67, (2, 32, .struct [(0, 1), (1, 1)])), (70, (1, 24, .slice 9))]
def tZ : List (Nat × List KD) := [(3, [.v (.int .i64 0)]), (9, [.s []]), (26, [.v (.int .i64 0), .s [], .v (.int .i64 0), .sl 1 true (ksInt []), .sl 5 true (ksForm [])]), (29, [.v (.int .i64 0), .v (.int .i64 0), .s [], .v (.int .i64 0), .sl 1 true (ksInt []), .v (.int .i64 0), .s [], .v (.int .i64 0), .sl 1 true (ksInt []), .sl 5 true (ksForm []), .sl 11 true (ksCore [])]), (67, [.sl 1 true (ksByte []), .v (.int .i64 0)])]
theorem tT_ok : allT (fun i x => tShape Try.prog i = some x) tT := by
  refine ⟨?_, ?_, ?_, ?_, ?_, ?_, ?_, ?_, ?_, ?_, ?_, trivial⟩ <;> (show tShape _ _ = _; kernel_rfl)
theorem tZ_ok : allT (fun i x => ∃ zs, tZero Try.prog i = some zs ∧ ZeroL (KD.DL x) zs) tZ :=
  ⟨⟨_, (by kernel_rfl : tZero Try.prog 3 = some [.int .i64 0]), (.v .nil)⟩, ⟨_, (by kernel_rfl : tZero Try.prog 9 = some [.string (mkS [])]), (.v .nil)⟩, ⟨_, (by kernel_rfl : tZero Try.prog 26 = some [.int .i64 0, .string (mkS []), .int .i64 0, .slice none 0 0, .slice none 0 0]), (.v (.v (.v (.sl (.sl .nil)))))⟩, ⟨_, (by kernel_rfl : tZero Try.prog 29 = some [.int .i64 0, .int .i64 0, .string (mkS []), .int .i64 0, .slice none 0 0, .int .i64 0, .string (mkS []), .int .i64 0, .slice none 0 0, .slice none 0 0, .slice none 0 0]), (.v (.v (.v (.v (.sl (.v (.v (.v (.sl (.sl (.sl .nil)))))))))))⟩, ⟨_, (by kernel_rfl : tZero Try.prog 67 = some [.slice none 0 0, .int .i64 0]), (.sl (.v .nil))⟩, trivial⟩
def globK : Nat → KD := fun _ => .any
noncomputable def E0 : Setting := ⟨Try.prog, fun g => (globK g).D, fun g => KD.keyless _ _⟩
noncomputable def X : Ctx := ⟨E0, globK, fun _ => rfl, ⟨lkT tT, lkT tZ, lk_all tT_ok, lk_all tZ_ok⟩⟩
theorem mixed : X.E.P.follows .mixedOrders = true := by kernel_rfl
def m26 (n : Nat) (a0 : List UInt8) : Option (L15Rd) :=
  Option.bind ((if (a0.length : Int) > 2000 then (slI a0 0 2000).bind fun z4 => some z4 else some a0) : Option (List UInt8)) (fun (o2 : List UInt8) => some (⟨o2, 0⟩ : L15Rd))
theorem w26 (n : Nat) : ∀ (a0 : List UInt8) {r : L15Rd}, m26 n a0 = some r → SCall X.E 26 [.d (.sl 1 false (ksByte a0))] [none] (.ptr (.low 0) 0) [.cells ((kL15Rd r).map .d)] := by
  intro a0 r h0
  rw [m26] at h0
  refine SCall.mk Try.func26 rfl rfl rfl rfl [(0, .d (.sl 1 false (ksByte a0)))] rfl rfl rfl (fun L ks low K hl hL hlen hK => ?_)
  refine WG.reg [] [] True.intro [(0, .d (.sl 1 false (ksByte a0)))] [] [none] rfl (by kernel_rfl) ?_
  refine WG.reg [.v (a0.length : Int)] [] (And.intro (dByte.len' a0) True.intro) [(0, .d (.sl 1 false (ksByte a0))), (5, .d (.v (.bool (decide ((a0.length : Int) > 2000)))))] [] [none] rfl (by kernel_rfl) ?_
  refine WG.slLen 0 rfl (fun hb1 => ?_)
  rw [dByte.length] at hb1
  refine WG.bindP h0 rfl (fun o2 => [(0, .d (.sl 1 false (ksByte o2)))]) (fun o2 => []) (fun o2 => [none]) (fun o2 h0 => ?_) (fun y1 h1 hj1 => ?_)
  · refine WG.reg [] [] True.intro [(2, .ptr (.own 10) 0)] [(10, .cells [.d (.sl 1 false (ksByte o2)), .d (.v (.int .i64 0))])] [none] rfl (by kernel_rfl) ?_
    refine WG.less [] [(2, .ptr (.own 10) 0)] rfl ?_
    refine WG.move 2 10 0 (cs := [.sl 1 false (ksByte o2), .v (.int .i64 0)]) rfl rfl rfl rfl ?_
    have e := some_inj' h0
    subst e
    exact WG.ret rfl rfl (by kernel_rfl) hK
  · refine WG.condP rfl rfl (fun hc3 => ?_) (fun hc3 => ?_)
    · have h1 := iteP hc3 h1
      obtain ⟨z4, hz4, h1⟩ := bnd h1
      refine WG.reg [.sv (ksByte z4)] [] (And.intro (dByte.sl hz4) True.intro) [(0, .d (.sl 1 false (ksByte z4)))] [] [none] rfl (by kernel_rfl) ?_
      have e := some_inj' h1
      subst e
      exact WG.leaf hj1 rfl [] rfl rfl rfl
    · have h1 := iteN hc3 h1
      have e := some_inj' h1
      subst e
      exact WG.leaf hj1 rfl [] rfl rfl rfl
def m29 (n : Nat) (a1 : Int) (o0 : L15Rd) : Option (Int × L15Rd) :=
  Option.bind ((if a1 < 1 then some true else some (decide ((o0.b.length : Int) = 0))) : Option (Bool)) (fun (o1 : Bool) => (if o1 = true then some (0, (⟨o0.b, (w64 (o0.p + 1))⟩ : L15Rd)) else (if (w64 ((w64 (o0.p + 1)) - 1)) < (o0.b.length : Int) then (atI o0.b (w64 ((w64 (o0.p + 1)) - 1))).bind fun e5 => (remI (IntKind.i64.wrap (e5.toNat : Int)) a1).bind fun z6 => some (z6, (⟨o0.b, (w64 (o0.p + 1))⟩ : L15Rd)) else (remI (w64 ((w64 (o0.p + 1)) - 1)) (o0.b.length : Int)).bind fun z7 => (atI o0.b z7).bind fun e8 => (remI (w64 ((w64 ((w64 ((w64 (o0.p + 1)) - 1)) * 7)) + 3)) (o0.b.length : Int)).bind fun z9 => (atI o0.b z9).bind fun e10 => (quoI (w64 ((w64 (o0.p + 1)) - 1)) (o0.b.length : Int)).bind fun z11 => (quoI (w64 ((w64 ((w64 ((w64 ((IntKind.i64.wrap (e8.toNat : Int)) * 131)) + (w64 ((IntKind.i64.wrap (e10.toNat : Int)) * 1117)))) + (w64 ((w64 ((w64 (o0.p + 1)) - 1)) * 29)))) + (w64 (z11 * 53)))) 64).bind fun z12 => (remI (bitsI .xor .i64 (w64 ((w64 ((w64 ((w64 ((IntKind.i64.wrap (e8.toNat : Int)) * 131)) + (w64 ((IntKind.i64.wrap (e10.toNat : Int)) * 1117)))) + (w64 ((w64 ((w64 (o0.p + 1)) - 1)) * 29)))) + (w64 (z11 * 53)))) z12) a1).bind fun z13 => some (z13, (⟨o0.b, (w64 (o0.p + 1))⟩ : L15Rd)))))
theorem w29 (n : Nat) : ∀ (a1 : Int) (o0 : L15Rd) {r : Int × L15Rd}, m29 n a1 o0 = some r → SCall X.E 29 [.ptr (.low 0) 0, .d (.v (.int .i64 a1))] [some (.cells ((kL15Rd o0).map .d))] (.d (.v (.int .i64 r.1))) [.cells ((kL15Rd r.2).map .d)] := by
  intro a1 o0 r h0
  rw [m29] at h0
  refine SCall.mk Try.func29 rfl rfl rfl rfl [(0, .ptr (.low 0) 0), (1, .d (.v (.int .i64 a1)))] rfl rfl rfl (fun L ks low K hl hL hlen hK => ?_)
  refine WG.reg [] [] True.intro [(0, .ptr (.low 0) 0), (1, .d (.v (.int .i64 a1)))] [] [some (.cells ((kL15Rd o0).map .d))] rfl (by kernel_rfl) ?_
  refine WG.reg [.pl] [] True.intro [(0, .ptr (.low 0) 0), (1, .d (.v (.int .i64 a1)))] [] [some (.cells [.d (.sl 1 false (ksByte o0.b)), .d (.v (.int .i64 (w64 (o0.p + 1))))])] rfl (by kernel_rfl) ?_
  refine WG.bindP h0 rfl (fun o1 => [(0, .ptr (.low 0) 0), (1, .d (.v (.int .i64 a1))), (24, .d (.v (.bool o1)))]) (fun o1 => []) (fun o1 => [some (.cells [.d (.sl 1 false (ksByte o0.b)), .d (.v (.int .i64 (w64 (o0.p + 1))))])]) (fun o1 h0 => ?_) (fun y1 h1 hj1 => ?_)
  · refine WG.cond rfl rfl (fun hc2 => ?_) (fun hc2 => ?_)
    · have h0 := iteP hc2 h0
      refine WG.reg [] [] True.intro [(4, .d (.v (.int .i64 0)))] [] [some (.cells [.d (.sl 1 false (ksByte o0.b)), .d (.v (.int .i64 (w64 (o0.p + 1))))])] rfl (by kernel_rfl) ?_
      have e := some_inj' h0
      subst e
      exact WG.ret rfl rfl (by kernel_rfl) hK
    · have hc2 := Bool.eq_false_iff.1 hc2
      have h0 := iteN hc2 h0
      refine WG.reg [.pl] [] True.intro [(0, .ptr (.low 0) 0), (1, .d (.v (.int .i64 a1))), (5, .d (.v (.int .i64 (w64 ((w64 (o0.p + 1)) - 1)))))] [] [some (.cells [.d (.sl 1 false (ksByte o0.b)), .d (.v (.int .i64 (w64 (o0.p + 1))))])] rfl (by kernel_rfl) ?_
      refine WG.reg [.v (o0.b.length : Int)] [] (And.intro (dByte.len' o0.b) True.intro) [(0, .ptr (.low 0) 0), (1, .d (.v (.int .i64 a1))), (5, .d (.v (.int .i64 (w64 ((w64 (o0.p + 1)) - 1))))), (34, .d (.sl 1 false (ksByte o0.b))), (36, .d (.v (.bool (decide ((w64 ((w64 (o0.p + 1)) - 1)) < (o0.b.length : Int))))))] [] [some (.cells [.d (.sl 1 false (ksByte o0.b)), .d (.v (.int .i64 (w64 (o0.p + 1))))])] rfl (by kernel_rfl) ?_
      refine WG.slLen 34 rfl (fun hb3 => ?_)
      rw [dByte.length] at hb3
      refine WG.condP rfl rfl (fun hc4 => ?_) (fun hc4 => ?_)
      · have h0 := iteP hc4 h0
        obtain ⟨e5, he5, h0⟩ := bnd h0
        obtain ⟨z6, hz6, h0⟩ := bnd h0
        refine WG.reg [.cs [.v (.int .u8 (e5.toNat : Int))], .pl, .v z6] [] (And.intro (dByte.idx he5) (And.intro (rem_ok hz6) True.intro)) [(4, .d (.v (.int .i64 z6)))] [] [some (.cells [.d (.sl 1 false (ksByte o0.b)), .d (.v (.int .i64 (w64 (o0.p + 1))))])] rfl (by kernel_rfl) ?_
        have e := some_inj' h0
        subst e
        exact WG.ret rfl rfl (by kernel_rfl) hK
      · have h0 := iteN hc4 h0
        obtain ⟨z7, hz7, h0⟩ := bnd h0
        obtain ⟨e8, he8, h0⟩ := bnd h0
        obtain ⟨z9, hz9, h0⟩ := bnd h0
        obtain ⟨e10, he10, h0⟩ := bnd h0
        obtain ⟨z11, hz11, h0⟩ := bnd h0
        refine WG.regD mixed [(9, [.v (o0.b.length : Int)]), (10, [.v z7]), (11, [.cs [.v (.int .u8 (e8.toNat : Int))]]), (13, [.pl]), (14, [.pl]), (20, [.pl]), (21, [.pl]), (26, [.v (o0.b.length : Int)]), (27, [.v z9]), (28, [.cs [.v (.int .u8 (e10.toNat : Int))]]), (30, [.pl]), (31, [.pl]), (32, [.pl]), (34, [.pl]), (35, [.pl]), (41, [.v (o0.b.length : Int)]), (42, [.v z11]), (43, [.pl]), (44, [.pl])] [] (And.intro (dByte.len' o0.b) (And.intro (rem_ok hz7) (And.intro (dByte.idx he8) (And.intro (dByte.len' o0.b) (And.intro (rem_ok hz9) (And.intro (dByte.idx he10) (And.intro (dByte.len' o0.b) (And.intro (quo_ok hz11) True.intro)))))))) [(1, .d (.v (.int .i64 a1))), (6, .d (.v (.int .i64 (w64 ((w64 ((w64 ((w64 ((IntKind.i64.wrap (e8.toNat : Int)) * 131)) + (w64 ((IntKind.i64.wrap (e10.toNat : Int)) * 1117)))) + (w64 ((w64 ((w64 (o0.p + 1)) - 1)) * 29)))) + (w64 (z11 * 53))))))), (34, .d (.sl 1 false (ksByte o0.b)))] [] [some (.cells [.d (.sl 1 false (ksByte o0.b)), .d (.v (.int .i64 (w64 (o0.p + 1))))])] rfl (by kernel_rfl) ?_
        obtain ⟨z12, hz12, h0⟩ := bnd h0
        refine WG.reg [.v z12, .pl] [] (And.intro (quo_ok hz12) True.intro) [(1, .d (.v (.int .i64 a1))), (6, .d (.v (.int .i64 (bitsI .xor .i64 (w64 ((w64 ((w64 ((w64 ((IntKind.i64.wrap (e8.toNat : Int)) * 131)) + (w64 ((IntKind.i64.wrap (e10.toNat : Int)) * 1117)))) + (w64 ((w64 ((w64 (o0.p + 1)) - 1)) * 29)))) + (w64 (z11 * 53)))) z12))))] [] [some (.cells [.d (.sl 1 false (ksByte o0.b)), .d (.v (.int .i64 (w64 (o0.p + 1))))])] rfl (by kernel_rfl) ?_
        obtain ⟨z13, hz13, h0⟩ := bnd h0
        refine WG.reg [.v z13] [] (And.intro (rem_ok hz13) True.intro) [(4, .d (.v (.int .i64 z13)))] [] [some (.cells [.d (.sl 1 false (ksByte o0.b)), .d (.v (.int .i64 (w64 (o0.p + 1))))])] rfl (by kernel_rfl) ?_
        have e := some_inj' h0
        subst e
        exact WG.ret rfl rfl (by kernel_rfl) hK
  · by_cases g14 : a1 < 1
    · have h1 := iteP g14 h1
      refine WG.reg [.b true, .b true, .b true, .b true, .b true, .b true, .b true] [] (And.intro (decide_eq_true g14 : decide (a1 < 1) = true) (And.intro (decide_eq_true g14 : decide (a1 < 1) = true) (And.intro (decide_eq_true g14 : decide (a1 < 1) = true) (And.intro (decide_eq_true g14 : decide (a1 < 1) = true) (And.intro (decide_eq_true g14 : decide (a1 < 1) = true) (And.intro (decide_eq_true g14 : decide (a1 < 1) = true) (And.intro (decide_eq_true g14 : decide (a1 < 1) = true) True.intro))))))) [(0, .ptr (.low 0) 0), (1, .d (.v (.int .i64 a1))), (24, .d (.v (.bool true)))] [] [some (.cells [.d (.sl 1 false (ksByte o0.b)), .d (.v (.int .i64 (w64 (o0.p + 1))))])] rfl (by kernel_rfl) ?_
      have e := some_inj' h1
      subst e
      exact WG.leaf hj1 rfl [] rfl rfl rfl
    · have h1 := iteN g14 h1
      refine WG.reg [.b false, .b false, .b false, .b false, .b false, .v (o0.b.length : Int), .b false, .b false] [] (And.intro (decide_eq_false g14 : decide (a1 < 1) = false) (And.intro (decide_eq_false g14 : decide (a1 < 1) = false) (And.intro (decide_eq_false g14 : decide (a1 < 1) = false) (And.intro (decide_eq_false g14 : decide (a1 < 1) = false) (And.intro (And.intro (decide_eq_false g14 : decide (a1 < 1) = false) (dByte.len' o0.b)) (And.intro (decide_eq_false g14 : decide (a1 < 1) = false) (And.intro (decide_eq_false g14 : decide (a1 < 1) = false) True.intro))))))) [(0, .ptr (.low 0) 0), (1, .d (.v (.int .i64 a1))), (24, .d (.v (.bool (decide ((o0.b.length : Int) = 0)))))] [] [some (.cells [.d (.sl 1 false (ksByte o0.b)), .d (.v (.int .i64 (w64 (o0.p + 1))))])] rfl (by kernel_rfl) ?_
      have e := some_inj' h1
      subst e
      exact WG.leaf hj1 rfl [] rfl rfl rfl
def m28 (n : Nat) (a1 : List Int) (o0 : L15Rd) : Option (Int × L15Rd) :=
  (m29 n (a1.length : Int) o0).bind fun k1 => (atI a1 k1.1).bind fun e2 => some (e2, k1.2)
theorem w28 (n : Nat) : ∀ (a1 : List Int) (o0 : L15Rd) {r : Int × L15Rd}, m28 n a1 o0 = some r → SCall X.E 28 [.ptr (.low 0) 0, .d (.sl 1 false (ksInt a1))] [some (.cells ((kL15Rd o0).map .d))] (.d (.v (.int .i64 r.1))) [.cells ((kL15Rd r.2).map .d)] := by
  intro a1 o0 r h0
  rw [m28] at h0
  refine SCall.mk Try.func28 rfl rfl rfl rfl [(0, .ptr (.low 0) 0), (1, .d (.sl 1 false (ksInt a1)))] rfl rfl rfl (fun L ks low K hl hL hlen hK => ?_)
  refine WG.reg [] [] True.intro [(0, .ptr (.low 0) 0), (1, .d (.sl 1 false (ksInt a1)))] [] [some (.cells ((kL15Rd o0).map .d))] rfl (by kernel_rfl) ?_
  obtain ⟨k1, hk1, h0⟩ := bnd h0
  obtain ⟨e2, he2, h0⟩ := bnd h0
  refine WG.reg [.v (a1.length : Int), .call [.low 0] (.d (.v (.int .i64 k1.1))) [.cells ((kL15Rd k1.2).map .d)], .cs [.v (.int .i64 e2)]] [] (And.intro (dInt.len' a1) (And.intro (w29 n _ _ hk1) (And.intro (dInt.idx he2) True.intro))) [(1, .d (.sl 1 false (ksInt a1))), (4, .d (.v (.int .i64 e2)))] [] [some (.cells ((kL15Rd k1.2).map .d))] rfl (by kernel_rfl) ?_
  refine WG.slLen 1 rfl (fun hb3 => ?_)
  rw [dInt.length] at hb3
  have e := some_inj' h0
  subst e
  exact WG.ret rfl rfl (by kernel_rfl) hK
def m35 (n : Nat) (a1 : List (List UInt8)) (o0 : L15Rd) : Option ((List UInt8) × L15Rd) :=
  (m29 n (a1.length : Int) o0).bind fun k1 => (atI a1 k1.1).bind fun e2 => some (e2, k1.2)
theorem w35 (n : Nat) : ∀ (a1 : List (List UInt8)) (o0 : L15Rd) {r : (List UInt8) × L15Rd}, m35 n a1 o0 = some r → SCall X.E 35 [.ptr (.low 0) 0, .d (.sl 1 false (ksStr a1))] [some (.cells ((kL15Rd o0).map .d))] (.d (.s r.1)) [.cells ((kL15Rd r.2).map .d)] := by
  intro a1 o0 r h0
  rw [m35] at h0
  refine SCall.mk Try.func35 rfl rfl rfl rfl [(0, .ptr (.low 0) 0), (1, .d (.sl 1 false (ksStr a1)))] rfl rfl rfl (fun L ks low K hl hL hlen hK => ?_)
  refine WG.reg [] [] True.intro [(0, .ptr (.low 0) 0), (1, .d (.sl 1 false (ksStr a1)))] [] [some (.cells ((kL15Rd o0).map .d))] rfl (by kernel_rfl) ?_
  obtain ⟨k1, hk1, h0⟩ := bnd h0
  obtain ⟨e2, he2, h0⟩ := bnd h0
  refine WG.reg [.v (a1.length : Int), .call [.low 0] (.d (.v (.int .i64 k1.1))) [.cells ((kL15Rd k1.2).map .d)], .cs [.s e2]] [] (And.intro (dStr.len' a1) (And.intro (w29 n _ _ hk1) (And.intro (dStr.idx he2) True.intro))) [(1, .d (.sl 1 false (ksStr a1))), (4, .d (.s e2))] [] [some (.cells ((kL15Rd k1.2).map .d))] rfl (by kernel_rfl) ?_
  refine WG.slLen 1 rfl (fun hb3 => ?_)
  rw [dStr.length] at hb3
  have e := some_inj' h0
  subst e
  exact WG.ret rfl rfl (by kernel_rfl) hK
def m37 (n : Nat) (a0 : List UInt8) : Option (Form) :=
  some (⟨1, a0, 0, [], []⟩ : Form)
theorem w37 (n : Nat) : ∀ (a0 : List UInt8) {r : Form}, m37 n a0 = some r → SCall X.E 37 [.d (.s a0)] [] (.d (.agg (kForm r))) [] := by
  intro a0 r h0
  rw [m37] at h0
  refine SCall.mk Try.func37 rfl rfl rfl rfl [(0, .d (.s a0))] rfl rfl rfl (fun L ks low K hl hL hlen hK => ?_)
  refine WG.reg [] [] True.intro [(0, .d (.s a0)), (2, .ptr (.own 2) 0)] [(2, .cells [.d (.v (.int .i64 0)), .d (.s []), .d (.v (.int .i64 0)), .d (.sl 1 true (ksInt [])), .d (.sl 5 true (ksForm []))])] [] rfl (by kernel_rfl) ?_
  refine WG.reg [] [] True.intro [(2, .ptr (.own 2) 0)] [(2, .cells [.d (.v (.int .i64 1)), .d (.s a0), .d (.v (.int .i64 0)), .d (.sl 1 true (ksInt [])), .d (.sl 5 true (ksForm []))])] [] rfl (by kernel_rfl) ?_
  have e := some_inj' h0
  subst e
  exact WG.ret rfl rfl (by kernel_rfl) hK
def m34 : Nat → Int → L15Rd → Option (Form × L15Rd)
  | 0, _, _ => none
  | n + 1, a1, o0 => Option.bind ((if a1 = 0 then some (true, o0) else (m29 n 3 o0).bind fun k15 => some ((decide (k15.1 = 0)), k15.2)) : Option (Bool × L15Rd)) (fun (o1 : Bool × L15Rd) => (if o1.1 = true then (m29 n 4 o1.2).bind fun k3 => (if k3.1 = 0 then (m28 n [0, 1, 2, 7, 42, 999] k3.2).bind fun k5 => some ((⟨2, [], k5.1, [], []⟩ : Form), k5.2) else (m35 n [[97], [98], [120], [121], [102], [105, 102], [108, 101, 116], [43]] k3.2).bind fun k6 => (m37 n k6.1).bind fun k7 => some (k7, k6.2)) else (m29 n 4 o1.2).bind fun k8 => iterM n (fun (s9 : Int × (List Form) × (List UInt8) × Int) => ((if s9.1 > 0 then (m34 n (w64 (a1 - 1)) (⟨s9.2.2.1, s9.2.2.2⟩ : L15Rd)).bind fun k12 => (apB 80 s9.2.1 [k12.1]).bind fun z13 => some (Sum.inr ((w64 (s9.1 - 1)), z13, k12.2.b, k12.2.p)) else some (Sum.inl ((⟨3, [], 0, [], s9.2.1⟩ : Form), (⟨s9.2.2.1, s9.2.2.2⟩ : L15Rd)))) : Option ((Form × L15Rd) ⊕ (Int × (List Form) × (List UInt8) × Int)))) (k8.1, [], k8.2.b, k8.2.p)))
theorem w34 (n : Nat) : ∀ (a1 : Int) (o0 : L15Rd) {r : Form × L15Rd}, m34 n a1 o0 = some r → SCall X.E 34 [.ptr (.low 0) 0, .d (.v (.int .i64 a1))] [some (.cells ((kL15Rd o0).map .d))] (.d (.agg (kForm r.1))) [.cells ((kL15Rd r.2).map .d)] := by
  induction n with
  | zero => intro a1 o0 r h; cases h
  | succ n ih =>
    intro a1 o0 r h0
    rw [m34] at h0
    refine SCall.mk Try.func34 rfl rfl rfl rfl [(0, .ptr (.low 0) 0), (1, .d (.v (.int .i64 a1)))] rfl rfl rfl (fun L ks low K hl hL hlen hK => ?_)
    refine WG.reg [] [] True.intro [(0, .ptr (.low 0) 0), (1, .d (.v (.int .i64 a1))), (4, .ptr (.own 4) 0)] [(4, .cells [.d (.v (.int .i64 0)), .d (.s []), .d (.v (.int .i64 0)), .d (.sl 1 true (ksInt [])), .d (.sl 5 true (ksForm []))])] [some (.cells ((kL15Rd o0).map .d))] rfl (by kernel_rfl) ?_
    refine WG.bindP h0 rfl (fun o1 => [(0, .ptr (.low 0) 0), (1, .d (.v (.int .i64 a1))), (4, .ptr (.own 4) 0), (13, .d (.v (.bool o1.1)))]) (fun o1 => [(4, .cells [.d (.v (.int .i64 0)), .d (.s []), .d (.v (.int .i64 0)), .d (.sl 1 true (ksInt [])), .d (.sl 5 true (ksForm []))])]) (fun o1 => [some (.cells ((kL15Rd o1.2).map .d))]) (fun o1 h0 => ?_) (fun y1 h1 hj1 => ?_)
    · refine WG.cond rfl rfl (fun hc2 => ?_) (fun hc2 => ?_)
      · have h0 := iteP hc2 h0
        obtain ⟨k3, hk3, h0⟩ := bnd h0
        refine WG.reg [.call [.low 0] (.d (.v (.int .i64 k3.1))) [.cells ((kL15Rd k3.2).map .d)]] [] (And.intro (w29 n _ _ hk3) True.intro) [(0, .ptr (.low 0) 0), (4, .ptr (.own 4) 0), (16, .d (.v (.bool (decide (k3.1 = 0)))))] [(4, .cells [.d (.v (.int .i64 0)), .d (.s []), .d (.v (.int .i64 0)), .d (.sl 1 true (ksInt [])), .d (.sl 5 true (ksForm []))])] [some (.cells ((kL15Rd k3.2).map .d))] rfl (by kernel_rfl) ?_
        refine WG.condP rfl rfl (fun hc4 => ?_) (fun hc4 => ?_)
        · have h0 := iteP hc4 h0
          obtain ⟨k5, hk5, h0⟩ := bnd h0
          refine WG.reg [.sv (ksInt [0, 1, 2, 7, 42, 999]), .call [.low 0] (.d (.v (.int .i64 k5.1))) [.cells ((kL15Rd k5.2).map .d)]] [] (And.intro (dInt.lit [0, 1, 2, 7, 42, 999]) (And.intro (w28 n _ _ hk5) True.intro)) [(4, .ptr (.own 4) 0)] [(4, .cells [.d (.v (.int .i64 2)), .d (.s []), .d (.v (.int .i64 k5.1)), .d (.sl 1 true (ksInt [])), .d (.sl 5 true (ksForm []))])] [some (.cells ((kL15Rd k5.2).map .d))] rfl (by kernel_rfl) ?_
          have e := some_inj' h0
          subst e
          exact WG.ret rfl rfl (by kernel_rfl) hK
        · have h0 := iteN hc4 h0
          obtain ⟨k6, hk6, h0⟩ := bnd h0
          obtain ⟨k7, hk7, h0⟩ := bnd h0
          refine WG.reg [.sv (ksStr [[97], [98], [120], [121], [102], [105, 102], [108, 101, 116], [43]]), .call [.low 0] (.d (.s k6.1)) [.cells ((kL15Rd k6.2).map .d)], .call [] (.d (.agg (kForm k7))) []] [] (And.intro (dStr.lit [[97], [98], [120], [121], [102], [105, 102], [108, 101, 116], [43]]) (And.intro (w35 n _ _ hk6) (And.intro (w37 n _ hk7) True.intro))) [(4, .ptr (.own 4) 0)] [(4, .cells ((kForm k7).map .d))] [some (.cells ((kL15Rd k6.2).map .d))] rfl (by kernel_rfl) ?_
          have e := some_inj' h0
          subst e
          exact WG.ret rfl rfl (by kernel_rfl) hK
      · have hc2 := Bool.eq_false_iff.1 hc2
        have h0 := iteN hc2 h0
        refine WG.reg [] [] True.intro [(0, .ptr (.low 0) 0), (1, .d (.v (.int .i64 a1))), (4, .ptr (.own 4) 0), (5, .ptr (.own 5) 0)] [(4, .cells [.d (.v (.int .i64 0)), .d (.s []), .d (.v (.int .i64 0)), .d (.sl 1 true (ksInt [])), .d (.sl 5 true (ksForm []))]), (5, .cells [.d (.v (.int .i64 3)), .d (.s []), .d (.v (.int .i64 0)), .d (.sl 1 true (ksInt [])), .d (.sl 5 true (ksForm []))])] [some (.cells ((kL15Rd o1.2).map .d))] rfl (by kernel_rfl) ?_
        obtain ⟨k8, hk8, h0⟩ := bnd h0
        refine WG.reg [.call [.low 0] (.d (.v (.int .i64 k8.1))) [.cells ((kL15Rd k8.2).map .d)]] [] (And.intro (w29 n _ _ hk8) True.intro) [(0, .ptr (.low 0) 0), (1, .d (.v (.int .i64 a1))), (4, .ptr (.own 4) 0), (5, .ptr (.own 5) 0), (6, .d (.v (.int .i64 k8.1)))] [(4, .cells [.d (.v (.int .i64 0)), .d (.s []), .d (.v (.int .i64 0)), .d (.sl 1 true (ksInt [])), .d (.sl 5 true (ksForm []))]), (5, .cells [.d (.v (.int .i64 3)), .d (.s []), .d (.v (.int .i64 0)), .d (.sl 1 true (ksInt [])), .d (.sl 5 true (ksForm []))])] [some (.cells ((kL15Rd k8.2).map .d))] rfl (by kernel_rfl) ?_
        refine WG.ownCell 5 4 100039 26 rfl rfl rfl rfl [(4, .cells [.d (.v (.int .i64 0)), .d (.s []), .d (.v (.int .i64 0)), .d (.sl 1 true (ksInt [])), .d (.sl 5 true (ksForm []))]), (5, .cells [.d (.v (.int .i64 3)), .d (.s []), .d (.v (.int .i64 0)), .d (.sl 1 true (ksInt [])), .gs (.own 100039) 5 (ksForm [])]), (100039, .tok (ksForm []).length 26)] rfl ?_
        refine WG.iter h0 rfl (fun s9 => [(0, .ptr (.low 0) 0), (1, .d (.v (.int .i64 a1))), (4, .ptr (.own 4) 0), (5, .ptr (.own 5) 0), (6, .d (.v (.int .i64 s9.1)))]) (fun s9 => [(4, .cells [.d (.v (.int .i64 0)), .d (.s []), .d (.v (.int .i64 0)), .d (.sl 1 true (ksInt [])), .d (.sl 5 true (ksForm []))]), (5, .cells [.d (.v (.int .i64 3)), .d (.s []), .d (.v (.int .i64 0)), .d (.sl 1 true (ksInt [])), .gs (.own 100039) 5 (ksForm s9.2.1)]), (100039, .tok (ksForm s9.2.1).length 26)]) (fun s9 => [some (.cells [.d (.sl 1 false (ksByte s9.2.2.1)), .d (.v (.int .i64 s9.2.2.2))])]) [] rfl rfl rfl (fun n10 s9 h0 => ?_)
        obtain ⟨y1, h1, hw1, hn1⟩ := iter_cons h0
        refine WG.reg [] [] True.intro [(0, .ptr (.low 0) 0), (1, .d (.v (.int .i64 a1))), (4, .ptr (.own 4) 0), (5, .ptr (.own 5) 0), (6, .d (.v (.int .i64 s9.1))), (29, .d (.v (.bool (decide (s9.1 > 0)))))] [(4, .cells [.d (.v (.int .i64 0)), .d (.s []), .d (.v (.int .i64 0)), .d (.sl 1 true (ksInt [])), .d (.sl 5 true (ksForm []))]), (5, .cells [.d (.v (.int .i64 3)), .d (.s []), .d (.v (.int .i64 0)), .d (.sl 1 true (ksInt [])), .gs (.own 100039) 5 (ksForm s9.2.1)]), (100039, .tok (ksForm s9.2.1).length 26)] [some (.cells [.d (.sl 1 false (ksByte s9.2.2.1)), .d (.v (.int .i64 s9.2.2.2))])] rfl (by kernel_rfl) ?_
        refine WG.condP rfl rfl (fun hc11 => ?_) (fun hc11 => ?_)
        · have h1 := iteP hc11 h1
          obtain ⟨k12, hk12, h1⟩ := bnd h1
          obtain ⟨z13, hz13, h1⟩ := bnd h1
          refine WG.regD mixed [(4, [.pl]), (5, [.call [.low 0] (.d (.agg (kForm k12.1))) [.cells ((kL15Rd k12.2).map .d)]]), (6, [.sv (ksForm [k12.1])]), (7, [.sv (ksForm z13)])] [((ksForm s9.2.1).length : Int)] (And.intro (ih _ _ hk12) (And.intro (dForm.lit [k12.1]) (And.intro (dForm.ap hz13) True.intro))) [(0, .ptr (.low 0) 0), (1, .d (.v (.int .i64 a1))), (4, .ptr (.own 4) 0), (5, .ptr (.own 5) 0), (6, .d (.v (.int .i64 s9.1)))] [(4, .cells [.d (.v (.int .i64 0)), .d (.s []), .d (.v (.int .i64 0)), .d (.sl 1 true (ksInt [])), .d (.sl 5 true (ksForm []))]), (5, .cells [.d (.v (.int .i64 3)), .d (.s []), .d (.v (.int .i64 0)), .d (.sl 1 true (ksInt [])), .gs (.own 100039) 5 (ksForm z13)]), (100039, .tok (ksForm z13).length 26)] [some (.cells ((kL15Rd k12.2).map .d))] rfl (by kernel_rfl) ?_
          refine WG.reg [.pl] [] True.intro [(0, .ptr (.low 0) 0), (1, .d (.v (.int .i64 a1))), (4, .ptr (.own 4) 0), (5, .ptr (.own 5) 0), (6, .d (.v (.int .i64 (w64 (s9.1 - 1)))))] [(4, .cells [.d (.v (.int .i64 0)), .d (.s []), .d (.v (.int .i64 0)), .d (.sl 1 true (ksInt [])), .d (.sl 5 true (ksForm []))]), (5, .cells [.d (.v (.int .i64 3)), .d (.s []), .d (.v (.int .i64 0)), .d (.sl 1 true (ksInt [])), .gs (.own 100039) 5 (ksForm z13)]), (100039, .tok (ksForm z13).length 26)] [some (.cells ((kL15Rd k12.2).map .d))] rfl (by kernel_rfl) ?_
          have e := some_inj' h1
          subst e
          exact WG.nextI rfl _ (hn1 _ rfl) [] rfl rfl rfl
        · have h1 := iteN hc11 h1
          refine WG.reg [] [] True.intro [(4, .ptr (.own 4) 0)] [(4, .cells [.d (.v (.int .i64 3)), .d (.s []), .d (.v (.int .i64 0)), .d (.sl 1 true (ksInt [])), .gs (.own 100039) 5 (ksForm s9.2.1)]), (5, .cells [.d (.v (.int .i64 3)), .d (.s []), .d (.v (.int .i64 0)), .d (.sl 1 true (ksInt [])), .gs (.own 100039) 5 (ksForm s9.2.1)]), (100039, .tok (ksForm s9.2.1).length 26)] [some (.cells [.d (.sl 1 false (ksByte s9.2.2.1)), .d (.v (.int .i64 s9.2.2.2))])] rfl (by kernel_rfl) ?_
          have e := some_inj' h1
          subst e
          have e := hw1 _ rfl
          subst e
          exact WG.ret rfl rfl (by kernel_rfl) hK
    · by_cases g14 : a1 = 0
      · have h1 := iteP g14 h1
        refine WG.reg [.b true, .b true, .b true, .b true] [] (And.intro (decide_eq_true g14 : decide (a1 = 0) = true) (And.intro (decide_eq_true g14 : decide (a1 = 0) = true) (And.intro (decide_eq_true g14 : decide (a1 = 0) = true) (And.intro (decide_eq_true g14 : decide (a1 = 0) = true) True.intro)))) [(0, .ptr (.low 0) 0), (1, .d (.v (.int .i64 a1))), (4, .ptr (.own 4) 0), (13, .d (.v (.bool true)))] [(4, .cells [.d (.v (.int .i64 0)), .d (.s []), .d (.v (.int .i64 0)), .d (.sl 1 true (ksInt [])), .d (.sl 5 true (ksForm []))])] [some (.cells ((kL15Rd o0).map .d))] rfl (by kernel_rfl) ?_
        have e := some_inj' h1
        subst e
        exact WG.leaf hj1 rfl [] rfl rfl rfl
      · have h1 := iteN g14 h1
        obtain ⟨k15, hk15, h1⟩ := bnd h1
        refine WG.reg [.b false, .b false, .call [.low 0] (.d (.v (.int .i64 k15.1))) [.cells ((kL15Rd k15.2).map .d)], .b false, .b false] [] (And.intro (decide_eq_false g14 : decide (a1 = 0) = false) (And.intro (And.intro (decide_eq_false g14 : decide (a1 = 0) = false) (w29 n _ _ hk15)) (And.intro (decide_eq_false g14 : decide (a1 = 0) = false) (And.intro (decide_eq_false g14 : decide (a1 = 0) = false) True.intro)))) [(0, .ptr (.low 0) 0), (1, .d (.v (.int .i64 a1))), (4, .ptr (.own 4) 0), (13, .d (.v (.bool (decide (k15.1 = 0)))))] [(4, .cells [.d (.v (.int .i64 0)), .d (.s []), .d (.v (.int .i64 0)), .d (.sl 1 true (ksInt [])), .d (.sl 5 true (ksForm []))])] [some (.cells ((kL15Rd k15.2).map .d))] rfl (by kernel_rfl) ?_
        have e := some_inj' h1
        subst e
        exact WG.leaf hj1 rfl [] rfl rfl rfl
def m27 : Nat → (List Int) → Int → Int → L15Rd → Option (Core × Int × L15Rd)
  | 0, _, _, _, _ => none
  | n + 1, a1, a2, a3, o0 => Option.bind ((if a2 = 0 then some (true, o0) else (m29 n 4 o0).bind fun k37 => some ((decide (k37.1 = 0)), k37.2)) : Option (Bool × L15Rd)) (fun (o1 : Bool × L15Rd) => (if o1.1 = true then Option.bind ((if (a1.length : Int) > 0 then (m29 n 3 o1.2).bind fun k15 => some ((decide (k15.1 > 0)), k15.2) else some (false, o1.2)) : Option (Bool × L15Rd)) (fun (o3 : Bool × L15Rd) => (if o3.1 = true then (m29 n (a1.length : Int) o3.2).bind fun k5 => (atI a1 k5.1).bind fun e6 => some ((⟨1, e6, [], 0, [], (⟨0, [], 0, [], []⟩ : Form), []⟩ : Core), a3, k5.2) else (m29 n 4 o3.2).bind fun k8 => (if k8.1 = 0 then (m34 n 1 k8.2).bind fun k10 => some ((⟨4, 0, [], 0, [], k10.1, []⟩ : Core), a3, k10.2) else (if k8.1 = 1 then (m35 n [[102], [43], [108, 105, 115, 116]] k8.2).bind fun k12 => some ((⟨2, 0, k12.1, 0, [], (⟨0, [], 0, [], []⟩ : Form), []⟩ : Core), a3, k12.2) else (m28 n [0, 1, 5, 42] k8.2).bind fun k13 => some ((⟨3, 0, [], k13.1, [], (⟨0, [], 0, [], []⟩ : Form), []⟩ : Core), a3, k13.2))))) else (m28 n [6, 5, 7, 5] o1.2).bind fun k18 => Option.bind ((if k18.1 = 5 then (m28 n [1, 2, 0] k18.2).bind fun k26 => iterM n (fun (s27 : (List Int) × Int × Int × (List Int) × (List UInt8) × Int) => ((if s27.2.2.1 > 0 then (m28 n [1, 2, 5] (⟨s27.2.2.2.2.1, s27.2.2.2.2.2⟩ : L15Rd)).bind fun k30 => (apB 8 s27.2.2.2.1 [(w64 (s27.2.1 + k30.1))]).bind fun z31 => (apB 8 [] s27.1).bind fun z32 => (apB 8 z32 [(w64 (s27.2.1 + k30.1))]).bind fun z33 => some (Sum.inr (z33, (w64 (s27.2.1 + k30.1)), (w64 (s27.2.2.1 - 1)), z31, k30.2.b, k30.2.p)) else some (Sum.inl (s27.1, s27.2.1, 1, s27.2.2.2.1, s27.2.2.2.2.1, s27.2.2.2.2.2))) : Option (((List Int) × Int × Int × (List Int) × (List UInt8) × Int) ⊕ ((List Int) × Int × Int × (List Int) × (List UInt8) × Int)))) (a1, a3, k26.1, [], k26.2.b, k26.2.p) else (if k18.1 = 6 then (m28 n [2, 1, 3] k18.2).bind fun k35 => some (a1, a3, k35.1, [], k35.2.b, k35.2.p) else some (a1, a3, 3, [], k18.2.b, k18.2.p))) : Option ((List Int) × Int × Int × (List Int) × (List UInt8) × Int)) (fun (o19 : (List Int) × Int × Int × (List Int) × (List UInt8) × Int) => iterM n (fun (s20 : Int × Int × (List Core) × (List UInt8) × Int) => ((if s20.2.1 < o19.2.2.1 then (m27 n o19.1 (w64 (a2 - 1)) s20.1 (⟨s20.2.2.2.1, s20.2.2.2.2⟩ : L15Rd)).bind fun k23 => (apB 168 s20.2.2.1 [k23.1]).bind fun z24 => some (Sum.inr (k23.2.1, (w64 (s20.2.1 + 1)), z24, k23.2.2.b, k23.2.2.p)) else some (Sum.inl ((⟨k18.1, 0, [], 0, o19.2.2.2.1, (⟨0, [], 0, [], []⟩ : Form), s20.2.2.1⟩ : Core), s20.1, (⟨s20.2.2.2.1, s20.2.2.2.2⟩ : L15Rd)))) : Option ((Core × Int × L15Rd) ⊕ (Int × Int × (List Core) × (List UInt8) × Int)))) (o19.2.1, 0, [], o19.2.2.2.2.1, o19.2.2.2.2.2))))
theorem w27 (n : Nat) : ∀ (a1 : List Int) (a2 : Int) (a3 : Int) (o0 : L15Rd) {r : Core × Int × L15Rd}, m27 n a1 a2 a3 o0 = some r → SCall X.E 27 [.ptr (.low 0) 0, .d (.sl 1 false (ksInt a1)), .d (.v (.int .i64 a2)), .d (.v (.int .i64 a3))] [some (.cells ((kL15Rd o0).map .d))] (.tup [.d (.agg (kCore r.1)), .d (.v (.int .i64 r.2.1))]) [.cells ((kL15Rd r.2.2).map .d)] := by
  induction n with
  | zero => intro a1 a2 a3 o0 r h; cases h
  | succ n ih =>
    intro a1 a2 a3 o0 r h0
    rw [m27] at h0
    refine SCall.mk Try.func27 rfl rfl rfl rfl [(0, .ptr (.low 0) 0), (1, .d (.sl 1 false (ksInt a1))), (2, .d (.v (.int .i64 a2))), (3, .d (.v (.int .i64 a3)))] rfl rfl rfl (fun L ks low K hl hL hlen hK => ?_)
    refine WG.reg [] [] True.intro [(0, .ptr (.low 0) 0), (1, .d (.sl 1 false (ksInt a1))), (2, .d (.v (.int .i64 a2))), (3, .d (.v (.int .i64 a3))), (8, .ptr (.own 8) 0)] [(8, .cells [.d (.v (.int .i64 0)), .d (.v (.int .i64 0)), .d (.s []), .d (.v (.int .i64 0)), .d (.sl 1 true (ksInt [])), .d (.v (.int .i64 0)), .d (.s []), .d (.v (.int .i64 0)), .d (.sl 1 true (ksInt [])), .d (.sl 5 true (ksForm [])), .d (.sl 11 true (ksCore []))])] [some (.cells ((kL15Rd o0).map .d))] rfl (by kernel_rfl) ?_
    refine WG.bindP h0 rfl (fun o1 => [(0, .ptr (.low 0) 0), (1, .d (.sl 1 false (ksInt a1))), (2, .d (.v (.int .i64 a2))), (3, .d (.v (.int .i64 a3))), (8, .ptr (.own 8) 0), (22, .d (.v (.bool o1.1)))]) (fun o1 => [(8, .cells [.d (.v (.int .i64 0)), .d (.v (.int .i64 0)), .d (.s []), .d (.v (.int .i64 0)), .d (.sl 1 true (ksInt [])), .d (.v (.int .i64 0)), .d (.s []), .d (.v (.int .i64 0)), .d (.sl 1 true (ksInt [])), .d (.sl 5 true (ksForm [])), .d (.sl 11 true (ksCore []))])]) (fun o1 => [some (.cells ((kL15Rd o1.2).map .d))]) (fun o1 h0 => ?_) (fun y1 h1 hj1 => ?_)
    · refine WG.cond rfl rfl (fun hc2 => ?_) (fun hc2 => ?_)
      · have h0 := iteP hc2 h0
        refine WG.bindP h0 rfl (fun o3 => [(0, .ptr (.low 0) 0), (1, .d (.sl 1 false (ksInt a1))), (3, .d (.v (.int .i64 a3))), (8, .ptr (.own 8) 0), (30, .d (.v (.bool o3.1)))]) (fun o3 => [(8, .cells [.d (.v (.int .i64 0)), .d (.v (.int .i64 0)), .d (.s []), .d (.v (.int .i64 0)), .d (.sl 1 true (ksInt [])), .d (.v (.int .i64 0)), .d (.s []), .d (.v (.int .i64 0)), .d (.sl 1 true (ksInt [])), .d (.sl 5 true (ksForm [])), .d (.sl 11 true (ksCore []))])]) (fun o3 => [some (.cells ((kL15Rd o3.2).map .d))]) (fun o3 h0 => ?_) (fun y1 h1 hj1 => ?_)
        · refine WG.cond rfl rfl (fun hc4 => ?_) (fun hc4 => ?_)
          · have h0 := iteP hc4 h0
            obtain ⟨k5, hk5, h0⟩ := bnd h0
            obtain ⟨e6, he6, h0⟩ := bnd h0
            refine WG.reg [.v (a1.length : Int), .call [.low 0] (.d (.v (.int .i64 k5.1))) [.cells ((kL15Rd k5.2).map .d)], .cs [.v (.int .i64 e6)]] [] (And.intro (dInt.len' a1) (And.intro (w29 n _ _ hk5) (And.intro (dInt.idx he6) True.intro))) [(1, .d (.sl 1 false (ksInt a1))), (8, .ptr (.own 8) 0), (9, .d (.v (.int .i64 a3)))] [(8, .cells [.d (.v (.int .i64 1)), .d (.v (.int .i64 e6)), .d (.s []), .d (.v (.int .i64 0)), .d (.sl 1 true (ksInt [])), .d (.v (.int .i64 0)), .d (.s []), .d (.v (.int .i64 0)), .d (.sl 1 true (ksInt [])), .d (.sl 5 true (ksForm [])), .d (.sl 11 true (ksCore []))])] [some (.cells ((kL15Rd k5.2).map .d))] rfl (by kernel_rfl) ?_
            refine WG.slLen 1 rfl (fun hb7 => ?_)
            rw [dInt.length] at hb7
            have e := some_inj' h0
            subst e
            exact WG.ret rfl rfl (by kernel_rfl) hK
          · have hc4 := Bool.eq_false_iff.1 hc4
            have h0 := iteN hc4 h0
            obtain ⟨k8, hk8, h0⟩ := bnd h0
            refine WG.reg [.call [.low 0] (.d (.v (.int .i64 k8.1))) [.cells ((kL15Rd k8.2).map .d)]] [] (And.intro (w29 n _ _ hk8) True.intro) [(0, .ptr (.low 0) 0), (3, .d (.v (.int .i64 a3))), (8, .ptr (.own 8) 0), (41, .d (.v (.int .i64 k8.1)))] [(8, .cells [.d (.v (.int .i64 0)), .d (.v (.int .i64 0)), .d (.s []), .d (.v (.int .i64 0)), .d (.sl 1 true (ksInt [])), .d (.v (.int .i64 0)), .d (.s []), .d (.v (.int .i64 0)), .d (.sl 1 true (ksInt [])), .d (.sl 5 true (ksForm [])), .d (.sl 11 true (ksCore []))])] [some (.cells ((kL15Rd k8.2).map .d))] rfl (by kernel_rfl) ?_
            refine WG.reg [] [] True.intro [(0, .ptr (.low 0) 0), (3, .d (.v (.int .i64 a3))), (8, .ptr (.own 8) 0), (41, .d (.v (.int .i64 k8.1))), (42, .d (.v (.bool (decide (k8.1 = 0)))))] [(8, .cells [.d (.v (.int .i64 0)), .d (.v (.int .i64 0)), .d (.s []), .d (.v (.int .i64 0)), .d (.sl 1 true (ksInt [])), .d (.v (.int .i64 0)), .d (.s []), .d (.v (.int .i64 0)), .d (.sl 1 true (ksInt [])), .d (.sl 5 true (ksForm [])), .d (.sl 11 true (ksCore []))])] [some (.cells ((kL15Rd k8.2).map .d))] rfl (by kernel_rfl) ?_
            refine WG.condP rfl rfl (fun hc9 => ?_) (fun hc9 => ?_)
            · have h0 := iteP hc9 h0
              obtain ⟨k10, hk10, h0⟩ := bnd h0
              refine WG.reg [.call [.low 0] (.d (.agg (kForm k10.1))) [.cells ((kL15Rd k10.2).map .d)]] [] (And.intro (w34 n _ _ hk10) True.intro) [(8, .ptr (.own 8) 0), (9, .d (.v (.int .i64 a3)))] [(8, .cells [.d (.v (.int .i64 4)), .d (.v (.int .i64 0)), .d (.s []), .d (.v (.int .i64 0)), .d (.sl 1 true (ksInt [])), .d (.v (.int .i64 k10.1.kind)), .d (.s k10.1.name), .d (.v (.int .i64 k10.1.n)), .d (.sl 1 false (ksInt k10.1.scopes)), .d (.sl 5 false (ksForm k10.1.kids)), .d (.sl 11 true (ksCore []))])] [some (.cells ((kL15Rd k10.2).map .d))] rfl (by kernel_rfl) ?_
              have e := some_inj' h0
              subst e
              exact WG.ret rfl rfl (by kernel_rfl) hK
            · have h0 := iteN hc9 h0
              refine WG.reg [] [] True.intro [(0, .ptr (.low 0) 0), (3, .d (.v (.int .i64 a3))), (8, .ptr (.own 8) 0), (48, .d (.v (.bool (decide (k8.1 = 1)))))] [(8, .cells [.d (.v (.int .i64 0)), .d (.v (.int .i64 0)), .d (.s []), .d (.v (.int .i64 0)), .d (.sl 1 true (ksInt [])), .d (.v (.int .i64 0)), .d (.s []), .d (.v (.int .i64 0)), .d (.sl 1 true (ksInt [])), .d (.sl 5 true (ksForm [])), .d (.sl 11 true (ksCore []))])] [some (.cells ((kL15Rd k8.2).map .d))] rfl (by kernel_rfl) ?_
              refine WG.condP rfl rfl (fun hc11 => ?_) (fun hc11 => ?_)
              · have h0 := iteP hc11 h0
                obtain ⟨k12, hk12, h0⟩ := bnd h0
                refine WG.reg [.sv (ksStr [[102], [43], [108, 105, 115, 116]]), .call [.low 0] (.d (.s k12.1)) [.cells ((kL15Rd k12.2).map .d)]] [] (And.intro (dStr.lit [[102], [43], [108, 105, 115, 116]]) (And.intro (w35 n _ _ hk12) True.intro)) [(8, .ptr (.own 8) 0), (9, .d (.v (.int .i64 a3)))] [(8, .cells [.d (.v (.int .i64 2)), .d (.v (.int .i64 0)), .d (.s k12.1), .d (.v (.int .i64 0)), .d (.sl 1 true (ksInt [])), .d (.v (.int .i64 0)), .d (.s []), .d (.v (.int .i64 0)), .d (.sl 1 true (ksInt [])), .d (.sl 5 true (ksForm [])), .d (.sl 11 true (ksCore []))])] [some (.cells ((kL15Rd k12.2).map .d))] rfl (by kernel_rfl) ?_
                have e := some_inj' h0
                subst e
                exact WG.ret rfl rfl (by kernel_rfl) hK
              · have h0 := iteN hc11 h0
                obtain ⟨k13, hk13, h0⟩ := bnd h0
                refine WG.reg [.sv (ksInt [0, 1, 5, 42]), .call [.low 0] (.d (.v (.int .i64 k13.1))) [.cells ((kL15Rd k13.2).map .d)]] [] (And.intro (dInt.lit [0, 1, 5, 42]) (And.intro (w28 n _ _ hk13) True.intro)) [(8, .ptr (.own 8) 0), (9, .d (.v (.int .i64 a3)))] [(8, .cells [.d (.v (.int .i64 3)), .d (.v (.int .i64 0)), .d (.s []), .d (.v (.int .i64 k13.1)), .d (.sl 1 true (ksInt [])), .d (.v (.int .i64 0)), .d (.s []), .d (.v (.int .i64 0)), .d (.sl 1 true (ksInt [])), .d (.sl 5 true (ksForm [])), .d (.sl 11 true (ksCore []))])] [some (.cells ((kL15Rd k13.2).map .d))] rfl (by kernel_rfl) ?_
                have e := some_inj' h0
                subst e
                exact WG.ret rfl rfl (by kernel_rfl) hK
        · by_cases g14 : (a1.length : Int) > 0
          · have h1 := iteP g14 h1
            obtain ⟨k15, hk15, h1⟩ := bnd h1
            refine WG.reg [.v (a1.length : Int), .b true, .b true, .call [.low 0] (.d (.v (.int .i64 k15.1))) [.cells ((kL15Rd k15.2).map .d)], .b true, .b true] [] (And.intro (dInt.len' a1) (And.intro (decide_eq_true g14 : decide ((a1.length : Int) > 0) = true) (And.intro (And.intro (decide_eq_true g14 : decide ((a1.length : Int) > 0) = true) (w29 n _ _ hk15)) (And.intro (decide_eq_true g14 : decide ((a1.length : Int) > 0) = true) (And.intro (decide_eq_true g14 : decide ((a1.length : Int) > 0) = true) True.intro))))) [(0, .ptr (.low 0) 0), (1, .d (.sl 1 false (ksInt a1))), (3, .d (.v (.int .i64 a3))), (8, .ptr (.own 8) 0), (30, .d (.v (.bool (decide (k15.1 > 0)))))] [(8, .cells [.d (.v (.int .i64 0)), .d (.v (.int .i64 0)), .d (.s []), .d (.v (.int .i64 0)), .d (.sl 1 true (ksInt [])), .d (.v (.int .i64 0)), .d (.s []), .d (.v (.int .i64 0)), .d (.sl 1 true (ksInt [])), .d (.sl 5 true (ksForm [])), .d (.sl 11 true (ksCore []))])] [some (.cells ((kL15Rd k15.2).map .d))] rfl (by kernel_rfl) ?_
            refine WG.slLen 1 rfl (fun hb16 => ?_)
            rw [dInt.length] at hb16
            have e := some_inj' h1
            subst e
            exact WG.leaf hj1 rfl [] rfl rfl rfl
          · have h1 := iteN g14 h1
            refine WG.reg [.v (a1.length : Int), .b false, .b false, .b false, .b false] [] (And.intro (dInt.len' a1) (And.intro (decide_eq_false g14 : decide ((a1.length : Int) > 0) = false) (And.intro (decide_eq_false g14 : decide ((a1.length : Int) > 0) = false) (And.intro (decide_eq_false g14 : decide ((a1.length : Int) > 0) = false) (And.intro (decide_eq_false g14 : decide ((a1.length : Int) > 0) = false) True.intro))))) [(0, .ptr (.low 0) 0), (1, .d (.sl 1 false (ksInt a1))), (3, .d (.v (.int .i64 a3))), (8, .ptr (.own 8) 0), (30, .d (.v (.bool false)))] [(8, .cells [.d (.v (.int .i64 0)), .d (.v (.int .i64 0)), .d (.s []), .d (.v (.int .i64 0)), .d (.sl 1 true (ksInt [])), .d (.v (.int .i64 0)), .d (.s []), .d (.v (.int .i64 0)), .d (.sl 1 true (ksInt [])), .d (.sl 5 true (ksForm [])), .d (.sl 11 true (ksCore []))])] [some (.cells ((kL15Rd o1.2).map .d))] rfl (by kernel_rfl) ?_
            refine WG.slLen 1 rfl (fun hb17 => ?_)
            rw [dInt.length] at hb17
            have e := some_inj' h1
            subst e
            exact WG.leaf hj1 rfl [] rfl rfl rfl
      · have hc2 := Bool.eq_false_iff.1 hc2
        have h0 := iteN hc2 h0
        obtain ⟨k18, hk18, h0⟩ := bnd h0
        refine WG.reg [.sv (ksInt [6, 5, 7, 5]), .call [.low 0] (.d (.v (.int .i64 k18.1))) [.cells ((kL15Rd k18.2).map .d)]] [] (And.intro (dInt.lit [6, 5, 7, 5]) (And.intro (w28 n _ _ hk18) True.intro)) [(0, .ptr (.low 0) 0), (1, .d (.sl 1 false (ksInt a1))), (2, .d (.v (.int .i64 a2))), (3, .d (.v (.int .i64 a3))), (8, .ptr (.own 8) 0), (10, .ptr (.own 10) 0)] [(8, .cells [.d (.v (.int .i64 0)), .d (.v (.int .i64 0)), .d (.s []), .d (.v (.int .i64 0)), .d (.sl 1 true (ksInt [])), .d (.v (.int .i64 0)), .d (.s []), .d (.v (.int .i64 0)), .d (.sl 1 true (ksInt [])), .d (.sl 5 true (ksForm [])), .d (.sl 11 true (ksCore []))]), (10, .cells [.d (.v (.int .i64 k18.1)), .d (.v (.int .i64 0)), .d (.s []), .d (.v (.int .i64 0)), .d (.sl 1 true (ksInt [])), .d (.v (.int .i64 0)), .d (.s []), .d (.v (.int .i64 0)), .d (.sl 1 true (ksInt [])), .d (.sl 5 true (ksForm [])), .d (.sl 11 true (ksCore []))])] [some (.cells ((kL15Rd k18.2).map .d))] rfl (by kernel_rfl) ?_
        refine WG.reg [] [] True.intro [(0, .ptr (.low 0) 0), (1, .d (.sl 1 false (ksInt a1))), (2, .d (.v (.int .i64 a2))), (3, .d (.v (.int .i64 a3))), (8, .ptr (.own 8) 0), (10, .ptr (.own 10) 0), (11, .d (.v (.int .i64 3)))] [(8, .cells [.d (.v (.int .i64 0)), .d (.v (.int .i64 0)), .d (.s []), .d (.v (.int .i64 0)), .d (.sl 1 true (ksInt [])), .d (.v (.int .i64 0)), .d (.s []), .d (.v (.int .i64 0)), .d (.sl 1 true (ksInt [])), .d (.sl 5 true (ksForm [])), .d (.sl 11 true (ksCore []))]), (10, .cells [.d (.v (.int .i64 k18.1)), .d (.v (.int .i64 0)), .d (.s []), .d (.v (.int .i64 0)), .d (.sl 1 true (ksInt [])), .d (.v (.int .i64 0)), .d (.s []), .d (.v (.int .i64 0)), .d (.sl 1 true (ksInt [])), .d (.sl 5 true (ksForm [])), .d (.sl 11 true (ksCore []))])] [some (.cells ((kL15Rd k18.2).map .d))] rfl (by kernel_rfl) ?_
        refine WG.reg [] [] True.intro [(0, .ptr (.low 0) 0), (1, .d (.sl 1 false (ksInt a1))), (2, .d (.v (.int .i64 a2))), (3, .d (.v (.int .i64 a3))), (8, .ptr (.own 8) 0), (10, .ptr (.own 10) 0), (11, .d (.v (.int .i64 3))), (65, .d (.v (.int .i64 k18.1)))] [(8, .cells [.d (.v (.int .i64 0)), .d (.v (.int .i64 0)), .d (.s []), .d (.v (.int .i64 0)), .d (.sl 1 true (ksInt [])), .d (.v (.int .i64 0)), .d (.s []), .d (.v (.int .i64 0)), .d (.sl 1 true (ksInt [])), .d (.sl 5 true (ksForm [])), .d (.sl 11 true (ksCore []))]), (10, .cells [.d (.v (.int .i64 k18.1)), .d (.v (.int .i64 0)), .d (.s []), .d (.v (.int .i64 0)), .d (.sl 1 true (ksInt [])), .d (.v (.int .i64 0)), .d (.s []), .d (.v (.int .i64 0)), .d (.sl 1 true (ksInt [])), .d (.sl 5 true (ksForm [])), .d (.sl 11 true (ksCore []))])] [some (.cells ((kL15Rd k18.2).map .d))] rfl (by kernel_rfl) ?_
        refine WG.ownCell 10 4 100084 3 rfl rfl rfl rfl [(8, .cells [.d (.v (.int .i64 0)), .d (.v (.int .i64 0)), .d (.s []), .d (.v (.int .i64 0)), .d (.sl 1 true (ksInt [])), .d (.v (.int .i64 0)), .d (.s []), .d (.v (.int .i64 0)), .d (.sl 1 true (ksInt [])), .d (.sl 5 true (ksForm [])), .d (.sl 11 true (ksCore []))]), (10, .cells [.d (.v (.int .i64 k18.1)), .d (.v (.int .i64 0)), .d (.s []), .d (.v (.int .i64 0)), .gs (.own 100084) 1 (ksInt []), .d (.v (.int .i64 0)), .d (.s []), .d (.v (.int .i64 0)), .d (.sl 1 true (ksInt [])), .d (.sl 5 true (ksForm [])), .d (.sl 11 true (ksCore []))]), (100084, .tok (ksInt []).length 3)] rfl ?_
        refine WG.bindPB h0 rfl (fun o19 => [(0, .ptr (.low 0) 0), (1, .d (.sl 1 false (ksInt o19.1))), (2, .d (.v (.int .i64 a2))), (3, .d (.v (.int .i64 o19.2.1))), (8, .ptr (.own 8) 0), (10, .ptr (.own 10) 0), (11, .d (.v (.int .i64 o19.2.2.1)))]) (fun o19 => [(8, .cells [.d (.v (.int .i64 0)), .d (.v (.int .i64 0)), .d (.s []), .d (.v (.int .i64 0)), .d (.sl 1 true (ksInt [])), .d (.v (.int .i64 0)), .d (.s []), .d (.v (.int .i64 0)), .d (.sl 1 true (ksInt [])), .d (.sl 5 true (ksForm [])), .d (.sl 11 true (ksCore []))]), (10, .cells [.d (.v (.int .i64 k18.1)), .d (.v (.int .i64 0)), .d (.s []), .d (.v (.int .i64 0)), .gs (.own 100084) 1 (ksInt o19.2.2.2.1), .d (.v (.int .i64 0)), .d (.s []), .d (.v (.int .i64 0)), .d (.sl 1 true (ksInt [])), .d (.sl 5 true (ksForm [])), .d (.sl 11 true (ksCore []))]), (100084, .tok (ksInt o19.2.2.2.1).length 3)]) (fun o19 => [some (.cells [.d (.sl 1 false (ksByte o19.2.2.2.2.1)), .d (.v (.int .i64 o19.2.2.2.2.2))])]) (fun o19 h0 => ?_) (fun y1 h1 hj1 => ?_)
        · refine WG.reg [] [] True.intro [(0, .ptr (.low 0) 0), (1, .d (.sl 1 false (ksInt o19.1))), (2, .d (.v (.int .i64 a2))), (3, .d (.v (.int .i64 o19.2.1))), (8, .ptr (.own 8) 0), (10, .ptr (.own 10) 0), (11, .d (.v (.int .i64 o19.2.2.1))), (13, .d (.v (.int .i64 0)))] [(8, .cells [.d (.v (.int .i64 0)), .d (.v (.int .i64 0)), .d (.s []), .d (.v (.int .i64 0)), .d (.sl 1 true (ksInt [])), .d (.v (.int .i64 0)), .d (.s []), .d (.v (.int .i64 0)), .d (.sl 1 true (ksInt [])), .d (.sl 5 true (ksForm [])), .d (.sl 11 true (ksCore []))]), (10, .cells [.d (.v (.int .i64 k18.1)), .d (.v (.int .i64 0)), .d (.s []), .d (.v (.int .i64 0)), .gs (.own 100084) 1 (ksInt o19.2.2.2.1), .d (.v (.int .i64 0)), .d (.s []), .d (.v (.int .i64 0)), .d (.sl 1 true (ksInt [])), .d (.sl 5 true (ksForm [])), .d (.sl 11 true (ksCore []))]), (100084, .tok (ksInt o19.2.2.2.1).length 3)] [some (.cells [.d (.sl 1 false (ksByte o19.2.2.2.2.1)), .d (.v (.int .i64 o19.2.2.2.2.2))])] rfl (by kernel_rfl) ?_
          refine WG.ownCell 10 10 100116 29 rfl rfl rfl rfl [(8, .cells [.d (.v (.int .i64 0)), .d (.v (.int .i64 0)), .d (.s []), .d (.v (.int .i64 0)), .d (.sl 1 true (ksInt [])), .d (.v (.int .i64 0)), .d (.s []), .d (.v (.int .i64 0)), .d (.sl 1 true (ksInt [])), .d (.sl 5 true (ksForm [])), .d (.sl 11 true (ksCore []))]), (10, .cells [.d (.v (.int .i64 k18.1)), .d (.v (.int .i64 0)), .d (.s []), .d (.v (.int .i64 0)), .gs (.own 100084) 1 (ksInt o19.2.2.2.1), .d (.v (.int .i64 0)), .d (.s []), .d (.v (.int .i64 0)), .d (.sl 1 true (ksInt [])), .d (.sl 5 true (ksForm [])), .gs (.own 100116) 11 (ksCore [])]), (100084, .tok (ksInt o19.2.2.2.1).length 3), (100116, .tok (ksCore []).length 29)] rfl ?_
          refine WG.iter h0 rfl (fun s20 => [(0, .ptr (.low 0) 0), (1, .d (.sl 1 false (ksInt o19.1))), (2, .d (.v (.int .i64 a2))), (3, .d (.v (.int .i64 s20.1))), (8, .ptr (.own 8) 0), (10, .ptr (.own 10) 0), (11, .d (.v (.int .i64 o19.2.2.1))), (13, .d (.v (.int .i64 s20.2.1)))]) (fun s20 => [(8, .cells [.d (.v (.int .i64 0)), .d (.v (.int .i64 0)), .d (.s []), .d (.v (.int .i64 0)), .d (.sl 1 true (ksInt [])), .d (.v (.int .i64 0)), .d (.s []), .d (.v (.int .i64 0)), .d (.sl 1 true (ksInt [])), .d (.sl 5 true (ksForm [])), .d (.sl 11 true (ksCore []))]), (10, .cells [.d (.v (.int .i64 k18.1)), .d (.v (.int .i64 0)), .d (.s []), .d (.v (.int .i64 0)), .gs (.own 100084) 1 (ksInt o19.2.2.2.1), .d (.v (.int .i64 0)), .d (.s []), .d (.v (.int .i64 0)), .d (.sl 1 true (ksInt [])), .d (.sl 5 true (ksForm [])), .gs (.own 100116) 11 (ksCore s20.2.2.1)]), (100084, .tok (ksInt o19.2.2.2.1).length 3), (100116, .tok (ksCore s20.2.2.1).length 29)]) (fun s20 => [some (.cells [.d (.sl 1 false (ksByte s20.2.2.2.1)), .d (.v (.int .i64 s20.2.2.2.2))])]) [] rfl rfl rfl (fun n21 s20 h0 => ?_)
          obtain ⟨y1, h1, hw1, hn1⟩ := iter_cons h0
          refine WG.reg [] [] True.intro [(0, .ptr (.low 0) 0), (1, .d (.sl 1 false (ksInt o19.1))), (2, .d (.v (.int .i64 a2))), (3, .d (.v (.int .i64 s20.1))), (8, .ptr (.own 8) 0), (10, .ptr (.own 10) 0), (11, .d (.v (.int .i64 o19.2.2.1))), (13, .d (.v (.int .i64 s20.2.1))), (99, .d (.v (.bool (decide (s20.2.1 < o19.2.2.1)))))] [(8, .cells [.d (.v (.int .i64 0)), .d (.v (.int .i64 0)), .d (.s []), .d (.v (.int .i64 0)), .d (.sl 1 true (ksInt [])), .d (.v (.int .i64 0)), .d (.s []), .d (.v (.int .i64 0)), .d (.sl 1 true (ksInt [])), .d (.sl 5 true (ksForm [])), .d (.sl 11 true (ksCore []))]), (10, .cells [.d (.v (.int .i64 k18.1)), .d (.v (.int .i64 0)), .d (.s []), .d (.v (.int .i64 0)), .gs (.own 100084) 1 (ksInt o19.2.2.2.1), .d (.v (.int .i64 0)), .d (.s []), .d (.v (.int .i64 0)), .d (.sl 1 true (ksInt [])), .d (.sl 5 true (ksForm [])), .gs (.own 100116) 11 (ksCore s20.2.2.1)]), (100084, .tok (ksInt o19.2.2.2.1).length 3), (100116, .tok (ksCore s20.2.2.1).length 29)] [some (.cells [.d (.sl 1 false (ksByte s20.2.2.2.1)), .d (.v (.int .i64 s20.2.2.2.2))])] rfl (by kernel_rfl) ?_
          refine WG.condP rfl rfl (fun hc22 => ?_) (fun hc22 => ?_)
          · have h1 := iteP hc22 h1
            obtain ⟨k23, hk23, h1⟩ := bnd h1
            refine WG.reg [.pl, .call [.low 0] (.tup [.d (.agg (kCore k23.1)), .d (.v (.int .i64 k23.2.1))]) [.cells ((kL15Rd k23.2.2).map .d)]] [] (And.intro (ih _ _ _ _ hk23) True.intro) [(0, .ptr (.low 0) 0), (1, .d (.sl 1 false (ksInt o19.1))), (2, .d (.v (.int .i64 a2))), (8, .ptr (.own 8) 0), (10, .ptr (.own 10) 0), (11, .d (.v (.int .i64 o19.2.2.1))), (13, .d (.v (.int .i64 s20.2.1))), (14, .ptr (.own 14) 0), (15, .d (.v (.int .i64 k23.2.1)))] [(8, .cells [.d (.v (.int .i64 0)), .d (.v (.int .i64 0)), .d (.s []), .d (.v (.int .i64 0)), .d (.sl 1 true (ksInt [])), .d (.v (.int .i64 0)), .d (.s []), .d (.v (.int .i64 0)), .d (.sl 1 true (ksInt [])), .d (.sl 5 true (ksForm [])), .d (.sl 11 true (ksCore []))]), (10, .cells [.d (.v (.int .i64 k18.1)), .d (.v (.int .i64 0)), .d (.s []), .d (.v (.int .i64 0)), .gs (.own 100084) 1 (ksInt o19.2.2.2.1), .d (.v (.int .i64 0)), .d (.s []), .d (.v (.int .i64 0)), .d (.sl 1 true (ksInt [])), .d (.sl 5 true (ksForm [])), .gs (.own 100116) 11 (ksCore s20.2.2.1)]), (100084, .tok (ksInt o19.2.2.2.1).length 3), (100116, .tok (ksCore s20.2.2.1).length 29), (14, .cells ((kCore k23.1).map .d))] [some (.cells ((kL15Rd k23.2.2).map .d))] rfl (by kernel_rfl) ?_
            refine WG.reg [] [] True.intro [(0, .ptr (.low 0) 0), (1, .d (.sl 1 false (ksInt o19.1))), (2, .d (.v (.int .i64 a2))), (3, .d (.v (.int .i64 k23.2.1))), (8, .ptr (.own 8) 0), (10, .ptr (.own 10) 0), (11, .d (.v (.int .i64 o19.2.2.1))), (13, .d (.v (.int .i64 s20.2.1))), (14, .ptr (.own 14) 0)] [(8, .cells [.d (.v (.int .i64 0)), .d (.v (.int .i64 0)), .d (.s []), .d (.v (.int .i64 0)), .d (.sl 1 true (ksInt [])), .d (.v (.int .i64 0)), .d (.s []), .d (.v (.int .i64 0)), .d (.sl 1 true (ksInt [])), .d (.sl 5 true (ksForm [])), .d (.sl 11 true (ksCore []))]), (10, .cells [.d (.v (.int .i64 k18.1)), .d (.v (.int .i64 0)), .d (.s []), .d (.v (.int .i64 0)), .gs (.own 100084) 1 (ksInt o19.2.2.2.1), .d (.v (.int .i64 0)), .d (.s []), .d (.v (.int .i64 0)), .d (.sl 1 true (ksInt [])), .d (.sl 5 true (ksForm [])), .gs (.own 100116) 11 (ksCore s20.2.2.1)]), (100084, .tok (ksInt o19.2.2.2.1).length 3), (100116, .tok (ksCore s20.2.2.1).length 29), (14, .cells ((kCore k23.1).map .d))] [some (.cells ((kL15Rd k23.2.2).map .d))] rfl (by kernel_rfl) ?_
            obtain ⟨z24, hz24, h1⟩ := bnd h1
            refine WG.reg [.sv (ksCore [k23.1]), .sv (ksCore z24)] [((ksCore s20.2.2.1).length : Int)] (And.intro (dCore.lit [k23.1]) (And.intro (dCore.ap hz24) True.intro)) [(0, .ptr (.low 0) 0), (1, .d (.sl 1 false (ksInt o19.1))), (2, .d (.v (.int .i64 a2))), (3, .d (.v (.int .i64 k23.2.1))), (8, .ptr (.own 8) 0), (10, .ptr (.own 10) 0), (11, .d (.v (.int .i64 o19.2.2.1))), (13, .d (.v (.int .i64 s20.2.1)))] [(8, .cells [.d (.v (.int .i64 0)), .d (.v (.int .i64 0)), .d (.s []), .d (.v (.int .i64 0)), .d (.sl 1 true (ksInt [])), .d (.v (.int .i64 0)), .d (.s []), .d (.v (.int .i64 0)), .d (.sl 1 true (ksInt [])), .d (.sl 5 true (ksForm [])), .d (.sl 11 true (ksCore []))]), (10, .cells [.d (.v (.int .i64 k18.1)), .d (.v (.int .i64 0)), .d (.s []), .d (.v (.int .i64 0)), .gs (.own 100084) 1 (ksInt o19.2.2.2.1), .d (.v (.int .i64 0)), .d (.s []), .d (.v (.int .i64 0)), .d (.sl 1 true (ksInt [])), .d (.sl 5 true (ksForm [])), .gs (.own 100116) 11 (ksCore z24)]), (100084, .tok (ksInt o19.2.2.2.1).length 3), (100116, .tok (ksCore z24).length 29), (14, .cells ((kCore k23.1).map .d))] [some (.cells ((kL15Rd k23.2.2).map .d))] rfl (by kernel_rfl) ?_
            refine WG.reg [.pl] [] True.intro [(0, .ptr (.low 0) 0), (1, .d (.sl 1 false (ksInt o19.1))), (2, .d (.v (.int .i64 a2))), (3, .d (.v (.int .i64 k23.2.1))), (8, .ptr (.own 8) 0), (10, .ptr (.own 10) 0), (11, .d (.v (.int .i64 o19.2.2.1))), (13, .d (.v (.int .i64 (w64 (s20.2.1 + 1)))))] [(8, .cells [.d (.v (.int .i64 0)), .d (.v (.int .i64 0)), .d (.s []), .d (.v (.int .i64 0)), .d (.sl 1 true (ksInt [])), .d (.v (.int .i64 0)), .d (.s []), .d (.v (.int .i64 0)), .d (.sl 1 true (ksInt [])), .d (.sl 5 true (ksForm [])), .d (.sl 11 true (ksCore []))]), (10, .cells [.d (.v (.int .i64 k18.1)), .d (.v (.int .i64 0)), .d (.s []), .d (.v (.int .i64 0)), .gs (.own 100084) 1 (ksInt o19.2.2.2.1), .d (.v (.int .i64 0)), .d (.s []), .d (.v (.int .i64 0)), .d (.sl 1 true (ksInt [])), .d (.sl 5 true (ksForm [])), .gs (.own 100116) 11 (ksCore z24)]), (100084, .tok (ksInt o19.2.2.2.1).length 3), (100116, .tok (ksCore z24).length 29), (14, .cells ((kCore k23.1).map .d))] [some (.cells ((kL15Rd k23.2.2).map .d))] rfl (by kernel_rfl) ?_
            have e := some_inj' h1
            subst e
            refine WG.less [] [(0, .ptr (.low 0) 0), (1, .d (.sl 1 false (ksInt o19.1))), (2, .d (.v (.int .i64 a2))), (3, .d (.v (.int .i64 k23.2.1))), (8, .ptr (.own 8) 0), (10, .ptr (.own 10) 0), (11, .d (.v (.int .i64 o19.2.2.1))), (13, .d (.v (.int .i64 (w64 (s20.2.1 + 1)))))] rfl ?_
            refine WG.drop 14 rfl rfl ?_
            exact WG.nextI rfl _ (hn1 _ rfl) [] rfl rfl rfl
          · have h1 := iteN hc22 h1
            refine WG.reg [] [] True.intro [(8, .ptr (.own 8) 0), (9, .d (.v (.int .i64 s20.1)))] [(8, .cells [.d (.v (.int .i64 k18.1)), .d (.v (.int .i64 0)), .d (.s []), .d (.v (.int .i64 0)), .gs (.own 100084) 1 (ksInt o19.2.2.2.1), .d (.v (.int .i64 0)), .d (.s []), .d (.v (.int .i64 0)), .d (.sl 1 true (ksInt [])), .d (.sl 5 true (ksForm [])), .gs (.own 100116) 11 (ksCore s20.2.2.1)]), (10, .cells [.d (.v (.int .i64 k18.1)), .d (.v (.int .i64 0)), .d (.s []), .d (.v (.int .i64 0)), .gs (.own 100084) 1 (ksInt o19.2.2.2.1), .d (.v (.int .i64 0)), .d (.s []), .d (.v (.int .i64 0)), .d (.sl 1 true (ksInt [])), .d (.sl 5 true (ksForm [])), .gs (.own 100116) 11 (ksCore s20.2.2.1)]), (100084, .tok (ksInt o19.2.2.2.1).length 3), (100116, .tok (ksCore s20.2.2.1).length 29)] [some (.cells [.d (.sl 1 false (ksByte s20.2.2.2.1)), .d (.v (.int .i64 s20.2.2.2.2))])] rfl (by kernel_rfl) ?_
            have e := some_inj' h1
            subst e
            have e := hw1 _ rfl
            subst e
            exact WG.ret rfl rfl (by kernel_rfl) hK
        · refine WG.reg [] [] True.intro [(0, .ptr (.low 0) 0), (1, .d (.sl 1 false (ksInt a1))), (2, .d (.v (.int .i64 a2))), (3, .d (.v (.int .i64 a3))), (8, .ptr (.own 8) 0), (10, .ptr (.own 10) 0), (11, .d (.v (.int .i64 3))), (65, .d (.v (.int .i64 k18.1))), (66, .d (.v (.bool (decide (k18.1 = 5)))))] [(8, .cells [.d (.v (.int .i64 0)), .d (.v (.int .i64 0)), .d (.s []), .d (.v (.int .i64 0)), .d (.sl 1 true (ksInt [])), .d (.v (.int .i64 0)), .d (.s []), .d (.v (.int .i64 0)), .d (.sl 1 true (ksInt [])), .d (.sl 5 true (ksForm [])), .d (.sl 11 true (ksCore []))]), (10, .cells [.d (.v (.int .i64 k18.1)), .d (.v (.int .i64 0)), .d (.s []), .d (.v (.int .i64 0)), .gs (.own 100084) 1 (ksInt []), .d (.v (.int .i64 0)), .d (.s []), .d (.v (.int .i64 0)), .d (.sl 1 true (ksInt [])), .d (.sl 5 true (ksForm [])), .d (.sl 11 true (ksCore []))]), (100084, .tok (ksInt []).length 3)] [some (.cells ((kL15Rd k18.2).map .d))] rfl (by kernel_rfl) ?_
          refine WG.condP rfl rfl (fun hc25 => ?_) (fun hc25 => ?_)
          · have h1 := iteP hc25 h1
            refine WG.reg [] [] True.intro [(0, .ptr (.low 0) 0), (1, .d (.sl 1 false (ksInt a1))), (2, .d (.v (.int .i64 a2))), (3, .d (.v (.int .i64 a3))), (8, .ptr (.own 8) 0), (10, .ptr (.own 10) 0), (11, .d (.v (.int .i64 1)))] [(8, .cells [.d (.v (.int .i64 0)), .d (.v (.int .i64 0)), .d (.s []), .d (.v (.int .i64 0)), .d (.sl 1 true (ksInt [])), .d (.v (.int .i64 0)), .d (.s []), .d (.v (.int .i64 0)), .d (.sl 1 true (ksInt [])), .d (.sl 5 true (ksForm [])), .d (.sl 11 true (ksCore []))]), (10, .cells [.d (.v (.int .i64 k18.1)), .d (.v (.int .i64 0)), .d (.s []), .d (.v (.int .i64 0)), .gs (.own 100084) 1 (ksInt []), .d (.v (.int .i64 0)), .d (.s []), .d (.v (.int .i64 0)), .d (.sl 1 true (ksInt [])), .d (.sl 5 true (ksForm [])), .d (.sl 11 true (ksCore []))]), (100084, .tok (ksInt []).length 3)] [some (.cells ((kL15Rd k18.2).map .d))] rfl (by kernel_rfl) ?_
            obtain ⟨k26, hk26, h1⟩ := bnd h1
            refine WG.reg [.sv (ksInt [1, 2, 0]), .call [.low 0] (.d (.v (.int .i64 k26.1))) [.cells ((kL15Rd k26.2).map .d)]] [] (And.intro (dInt.lit [1, 2, 0]) (And.intro (w28 n _ _ hk26) True.intro)) [(0, .ptr (.low 0) 0), (1, .d (.sl 1 false (ksInt a1))), (2, .d (.v (.int .i64 a2))), (3, .d (.v (.int .i64 a3))), (8, .ptr (.own 8) 0), (10, .ptr (.own 10) 0), (11, .d (.v (.int .i64 1))), (12, .d (.v (.int .i64 k26.1)))] [(8, .cells [.d (.v (.int .i64 0)), .d (.v (.int .i64 0)), .d (.s []), .d (.v (.int .i64 0)), .d (.sl 1 true (ksInt [])), .d (.v (.int .i64 0)), .d (.s []), .d (.v (.int .i64 0)), .d (.sl 1 true (ksInt [])), .d (.sl 5 true (ksForm [])), .d (.sl 11 true (ksCore []))]), (10, .cells [.d (.v (.int .i64 k18.1)), .d (.v (.int .i64 0)), .d (.s []), .d (.v (.int .i64 0)), .gs (.own 100084) 1 (ksInt []), .d (.v (.int .i64 0)), .d (.s []), .d (.v (.int .i64 0)), .d (.sl 1 true (ksInt [])), .d (.sl 5 true (ksForm [])), .d (.sl 11 true (ksCore []))]), (100084, .tok (ksInt []).length 3)] [some (.cells ((kL15Rd k26.2).map .d))] rfl (by kernel_rfl) ?_
            refine WG.iter h1 rfl (fun s27 => [(0, .ptr (.low 0) 0), (1, .d (.sl 1 false (ksInt s27.1))), (2, .d (.v (.int .i64 a2))), (3, .d (.v (.int .i64 s27.2.1))), (8, .ptr (.own 8) 0), (10, .ptr (.own 10) 0), (11, .d (.v (.int .i64 1))), (12, .d (.v (.int .i64 s27.2.2.1)))]) (fun s27 => [(8, .cells [.d (.v (.int .i64 0)), .d (.v (.int .i64 0)), .d (.s []), .d (.v (.int .i64 0)), .d (.sl 1 true (ksInt [])), .d (.v (.int .i64 0)), .d (.s []), .d (.v (.int .i64 0)), .d (.sl 1 true (ksInt [])), .d (.sl 5 true (ksForm [])), .d (.sl 11 true (ksCore []))]), (10, .cells [.d (.v (.int .i64 k18.1)), .d (.v (.int .i64 0)), .d (.s []), .d (.v (.int .i64 0)), .gs (.own 100084) 1 (ksInt s27.2.2.2.1), .d (.v (.int .i64 0)), .d (.s []), .d (.v (.int .i64 0)), .d (.sl 1 true (ksInt [])), .d (.sl 5 true (ksForm [])), .d (.sl 11 true (ksCore []))]), (100084, .tok (ksInt s27.2.2.2.1).length 3)]) (fun s27 => [some (.cells [.d (.sl 1 false (ksByte s27.2.2.2.2.1)), .d (.v (.int .i64 s27.2.2.2.2.2))])]) [] rfl rfl rfl (fun n28 s27 h1 => ?_)
            obtain ⟨y2, h2, hw2, hn2⟩ := iter_cons h1
            refine WG.reg [] [] True.intro [(0, .ptr (.low 0) 0), (1, .d (.sl 1 false (ksInt s27.1))), (2, .d (.v (.int .i64 a2))), (3, .d (.v (.int .i64 s27.2.1))), (8, .ptr (.own 8) 0), (10, .ptr (.own 10) 0), (11, .d (.v (.int .i64 1))), (12, .d (.v (.int .i64 s27.2.2.1))), (72, .d (.v (.bool (decide (s27.2.2.1 > 0)))))] [(8, .cells [.d (.v (.int .i64 0)), .d (.v (.int .i64 0)), .d (.s []), .d (.v (.int .i64 0)), .d (.sl 1 true (ksInt [])), .d (.v (.int .i64 0)), .d (.s []), .d (.v (.int .i64 0)), .d (.sl 1 true (ksInt [])), .d (.sl 5 true (ksForm [])), .d (.sl 11 true (ksCore []))]), (10, .cells [.d (.v (.int .i64 k18.1)), .d (.v (.int .i64 0)), .d (.s []), .d (.v (.int .i64 0)), .gs (.own 100084) 1 (ksInt s27.2.2.2.1), .d (.v (.int .i64 0)), .d (.s []), .d (.v (.int .i64 0)), .d (.sl 1 true (ksInt [])), .d (.sl 5 true (ksForm [])), .d (.sl 11 true (ksCore []))]), (100084, .tok (ksInt s27.2.2.2.1).length 3)] [some (.cells [.d (.sl 1 false (ksByte s27.2.2.2.2.1)), .d (.v (.int .i64 s27.2.2.2.2.2))])] rfl (by kernel_rfl) ?_
            refine WG.condP rfl rfl (fun hc29 => ?_) (fun hc29 => ?_)
            · have h2 := iteP hc29 h2
              obtain ⟨k30, hk30, h2⟩ := bnd h2
              refine WG.reg [.sv (ksInt [1, 2, 5]), .call [.low 0] (.d (.v (.int .i64 k30.1))) [.cells ((kL15Rd k30.2).map .d)], .pl] [] (And.intro (dInt.lit [1, 2, 5]) (And.intro (w28 n _ _ hk30) True.intro)) [(0, .ptr (.low 0) 0), (1, .d (.sl 1 false (ksInt s27.1))), (2, .d (.v (.int .i64 a2))), (3, .d (.v (.int .i64 (w64 (s27.2.1 + k30.1))))), (8, .ptr (.own 8) 0), (10, .ptr (.own 10) 0), (11, .d (.v (.int .i64 1))), (12, .d (.v (.int .i64 s27.2.2.1)))] [(8, .cells [.d (.v (.int .i64 0)), .d (.v (.int .i64 0)), .d (.s []), .d (.v (.int .i64 0)), .d (.sl 1 true (ksInt [])), .d (.v (.int .i64 0)), .d (.s []), .d (.v (.int .i64 0)), .d (.sl 1 true (ksInt [])), .d (.sl 5 true (ksForm [])), .d (.sl 11 true (ksCore []))]), (10, .cells [.d (.v (.int .i64 k18.1)), .d (.v (.int .i64 0)), .d (.s []), .d (.v (.int .i64 0)), .gs (.own 100084) 1 (ksInt s27.2.2.2.1), .d (.v (.int .i64 0)), .d (.s []), .d (.v (.int .i64 0)), .d (.sl 1 true (ksInt [])), .d (.sl 5 true (ksForm [])), .d (.sl 11 true (ksCore []))]), (100084, .tok (ksInt s27.2.2.2.1).length 3)] [some (.cells ((kL15Rd k30.2).map .d))] rfl (by kernel_rfl) ?_
              obtain ⟨z31, hz31, h2⟩ := bnd h2
              refine WG.reg [.sv (ksInt [(w64 (s27.2.1 + k30.1))]), .sv (ksInt z31)] [((ksInt s27.2.2.2.1).length : Int)] (And.intro (dInt.lit [(w64 (s27.2.1 + k30.1))]) (And.intro (dInt.ap hz31) True.intro)) [(0, .ptr (.low 0) 0), (1, .d (.sl 1 false (ksInt s27.1))), (2, .d (.v (.int .i64 a2))), (3, .d (.v (.int .i64 (w64 (s27.2.1 + k30.1))))), (8, .ptr (.own 8) 0), (10, .ptr (.own 10) 0), (11, .d (.v (.int .i64 1))), (12, .d (.v (.int .i64 s27.2.2.1)))] [(8, .cells [.d (.v (.int .i64 0)), .d (.v (.int .i64 0)), .d (.s []), .d (.v (.int .i64 0)), .d (.sl 1 true (ksInt [])), .d (.v (.int .i64 0)), .d (.s []), .d (.v (.int .i64 0)), .d (.sl 1 true (ksInt [])), .d (.sl 5 true (ksForm [])), .d (.sl 11 true (ksCore []))]), (10, .cells [.d (.v (.int .i64 k18.1)), .d (.v (.int .i64 0)), .d (.s []), .d (.v (.int .i64 0)), .gs (.own 100084) 1 (ksInt z31), .d (.v (.int .i64 0)), .d (.s []), .d (.v (.int .i64 0)), .d (.sl 1 true (ksInt [])), .d (.sl 5 true (ksForm [])), .d (.sl 11 true (ksCore []))]), (100084, .tok (ksInt z31).length 3)] [some (.cells ((kL15Rd k30.2).map .d))] rfl (by kernel_rfl) ?_
              obtain ⟨z32, hz32, h2⟩ := bnd h2
              obtain ⟨z33, hz33, h2⟩ := bnd h2
              refine WG.reg [.sv (ksInt []), .sv (ksInt z32), .sv (ksInt [(w64 (s27.2.1 + k30.1))]), .sv (ksInt z33)] [((ksInt z32).length : Int)] (And.intro (dInt.lit []) (And.intro (dInt.ap hz32) (And.intro (dInt.lit [(w64 (s27.2.1 + k30.1))]) (And.intro (dInt.ap hz33) True.intro)))) [(0, .ptr (.low 0) 0), (1, .gs (.own 100088) 1 (ksInt z33)), (2, .d (.v (.int .i64 a2))), (3, .d (.v (.int .i64 (w64 (s27.2.1 + k30.1))))), (8, .ptr (.own 8) 0), (10, .ptr (.own 10) 0), (11, .d (.v (.int .i64 1))), (12, .d (.v (.int .i64 s27.2.2.1)))] [(8, .cells [.d (.v (.int .i64 0)), .d (.v (.int .i64 0)), .d (.s []), .d (.v (.int .i64 0)), .d (.sl 1 true (ksInt [])), .d (.v (.int .i64 0)), .d (.s []), .d (.v (.int .i64 0)), .d (.sl 1 true (ksInt [])), .d (.sl 5 true (ksForm [])), .d (.sl 11 true (ksCore []))]), (10, .cells [.d (.v (.int .i64 k18.1)), .d (.v (.int .i64 0)), .d (.s []), .d (.v (.int .i64 0)), .gs (.own 100084) 1 (ksInt z31), .d (.v (.int .i64 0)), .d (.s []), .d (.v (.int .i64 0)), .d (.sl 1 true (ksInt [])), .d (.sl 5 true (ksForm [])), .d (.sl 11 true (ksCore []))]), (100084, .tok (ksInt z31).length 3), (100088, .tok (ksInt z33).length 3)] [some (.cells ((kL15Rd k30.2).map .d))] rfl (by kernel_rfl) ?_
              refine WG.reg [.pl] [] True.intro [(0, .ptr (.low 0) 0), (1, .gs (.own 100088) 1 (ksInt z33)), (2, .d (.v (.int .i64 a2))), (3, .d (.v (.int .i64 (w64 (s27.2.1 + k30.1))))), (8, .ptr (.own 8) 0), (10, .ptr (.own 10) 0), (11, .d (.v (.int .i64 1))), (12, .d (.v (.int .i64 (w64 (s27.2.2.1 - 1)))))] [(8, .cells [.d (.v (.int .i64 0)), .d (.v (.int .i64 0)), .d (.s []), .d (.v (.int .i64 0)), .d (.sl 1 true (ksInt [])), .d (.v (.int .i64 0)), .d (.s []), .d (.v (.int .i64 0)), .d (.sl 1 true (ksInt [])), .d (.sl 5 true (ksForm [])), .d (.sl 11 true (ksCore []))]), (10, .cells [.d (.v (.int .i64 k18.1)), .d (.v (.int .i64 0)), .d (.s []), .d (.v (.int .i64 0)), .gs (.own 100084) 1 (ksInt z31), .d (.v (.int .i64 0)), .d (.s []), .d (.v (.int .i64 0)), .d (.sl 1 true (ksInt [])), .d (.sl 5 true (ksForm [])), .d (.sl 11 true (ksCore []))]), (100084, .tok (ksInt z31).length 3), (100088, .tok (ksInt z33).length 3)] [some (.cells ((kL15Rd k30.2).map .d))] rfl (by kernel_rfl) ?_
              have e := some_inj' h2
              subst e
              refine WG.less [1] [(0, .ptr (.low 0) 0), (1, .d (.sl 1 false (ksInt z33))), (2, .d (.v (.int .i64 a2))), (3, .d (.v (.int .i64 (w64 (s27.2.1 + k30.1))))), (8, .ptr (.own 8) 0), (10, .ptr (.own 10) 0), (11, .d (.v (.int .i64 1))), (12, .d (.v (.int .i64 (w64 (s27.2.2.1 - 1)))))] rfl ?_
              refine WG.drop 100088 rfl rfl ?_
              exact WG.nextI rfl _ (hn2 _ rfl) [] rfl rfl rfl
            · have h2 := iteN hc29 h2
              have e := some_inj' h2
              subst e
              have e := hw2 _ rfl
              subst e
              exact WG.leaf hj1 rfl [] rfl rfl rfl
          · have h1 := iteN hc25 h1
            refine WG.reg [] [] True.intro [(0, .ptr (.low 0) 0), (1, .d (.sl 1 false (ksInt a1))), (2, .d (.v (.int .i64 a2))), (3, .d (.v (.int .i64 a3))), (8, .ptr (.own 8) 0), (10, .ptr (.own 10) 0), (11, .d (.v (.int .i64 3))), (92, .d (.v (.bool (decide (k18.1 = 6)))))] [(8, .cells [.d (.v (.int .i64 0)), .d (.v (.int .i64 0)), .d (.s []), .d (.v (.int .i64 0)), .d (.sl 1 true (ksInt [])), .d (.v (.int .i64 0)), .d (.s []), .d (.v (.int .i64 0)), .d (.sl 1 true (ksInt [])), .d (.sl 5 true (ksForm [])), .d (.sl 11 true (ksCore []))]), (10, .cells [.d (.v (.int .i64 k18.1)), .d (.v (.int .i64 0)), .d (.s []), .d (.v (.int .i64 0)), .gs (.own 100084) 1 (ksInt []), .d (.v (.int .i64 0)), .d (.s []), .d (.v (.int .i64 0)), .d (.sl 1 true (ksInt [])), .d (.sl 5 true (ksForm [])), .d (.sl 11 true (ksCore []))]), (100084, .tok (ksInt []).length 3)] [some (.cells ((kL15Rd k18.2).map .d))] rfl (by kernel_rfl) ?_
            refine WG.condP rfl rfl (fun hc34 => ?_) (fun hc34 => ?_)
            · have h1 := iteP hc34 h1
              obtain ⟨k35, hk35, h1⟩ := bnd h1
              refine WG.reg [.sv (ksInt [2, 1, 3]), .call [.low 0] (.d (.v (.int .i64 k35.1))) [.cells ((kL15Rd k35.2).map .d)]] [] (And.intro (dInt.lit [2, 1, 3]) (And.intro (w28 n _ _ hk35) True.intro)) [(0, .ptr (.low 0) 0), (1, .d (.sl 1 false (ksInt a1))), (2, .d (.v (.int .i64 a2))), (3, .d (.v (.int .i64 a3))), (8, .ptr (.own 8) 0), (10, .ptr (.own 10) 0), (11, .d (.v (.int .i64 k35.1)))] [(8, .cells [.d (.v (.int .i64 0)), .d (.v (.int .i64 0)), .d (.s []), .d (.v (.int .i64 0)), .d (.sl 1 true (ksInt [])), .d (.v (.int .i64 0)), .d (.s []), .d (.v (.int .i64 0)), .d (.sl 1 true (ksInt [])), .d (.sl 5 true (ksForm [])), .d (.sl 11 true (ksCore []))]), (10, .cells [.d (.v (.int .i64 k18.1)), .d (.v (.int .i64 0)), .d (.s []), .d (.v (.int .i64 0)), .gs (.own 100084) 1 (ksInt []), .d (.v (.int .i64 0)), .d (.s []), .d (.v (.int .i64 0)), .d (.sl 1 true (ksInt [])), .d (.sl 5 true (ksForm [])), .d (.sl 11 true (ksCore []))]), (100084, .tok (ksInt []).length 3)] [some (.cells ((kL15Rd k35.2).map .d))] rfl (by kernel_rfl) ?_
              have e := some_inj' h1
              subst e
              exact WG.leaf hj1 rfl [] rfl rfl rfl
            · have h1 := iteN hc34 h1
              have e := some_inj' h1
              subst e
              exact WG.leaf hj1 rfl [] rfl rfl rfl
    · by_cases g36 : a2 = 0
      · have h1 := iteP g36 h1
        refine WG.reg [.b true, .b true, .b true, .b true] [] (And.intro (decide_eq_true g36 : decide (a2 = 0) = true) (And.intro (decide_eq_true g36 : decide (a2 = 0) = true) (And.intro (decide_eq_true g36 : decide (a2 = 0) = true) (And.intro (decide_eq_true g36 : decide (a2 = 0) = true) True.intro)))) [(0, .ptr (.low 0) 0), (1, .d (.sl 1 false (ksInt a1))), (2, .d (.v (.int .i64 a2))), (3, .d (.v (.int .i64 a3))), (8, .ptr (.own 8) 0), (22, .d (.v (.bool true)))] [(8, .cells [.d (.v (.int .i64 0)), .d (.v (.int .i64 0)), .d (.s []), .d (.v (.int .i64 0)), .d (.sl 1 true (ksInt [])), .d (.v (.int .i64 0)), .d (.s []), .d (.v (.int .i64 0)), .d (.sl 1 true (ksInt [])), .d (.sl 5 true (ksForm [])), .d (.sl 11 true (ksCore []))])] [some (.cells ((kL15Rd o0).map .d))] rfl (by kernel_rfl) ?_
        have e := some_inj' h1
        subst e
        exact WG.leaf hj1 rfl [] rfl rfl rfl
      · have h1 := iteN g36 h1
        obtain ⟨k37, hk37, h1⟩ := bnd h1
        refine WG.reg [.b false, .b false, .call [.low 0] (.d (.v (.int .i64 k37.1))) [.cells ((kL15Rd k37.2).map .d)], .b false, .b false] [] (And.intro (decide_eq_false g36 : decide (a2 = 0) = false) (And.intro (And.intro (decide_eq_false g36 : decide (a2 = 0) = false) (w29 n _ _ hk37)) (And.intro (decide_eq_false g36 : decide (a2 = 0) = false) (And.intro (decide_eq_false g36 : decide (a2 = 0) = false) True.intro)))) [(0, .ptr (.low 0) 0), (1, .d (.sl 1 false (ksInt a1))), (2, .d (.v (.int .i64 a2))), (3, .d (.v (.int .i64 a3))), (8, .ptr (.own 8) 0), (22, .d (.v (.bool (decide (k37.1 = 0)))))] [(8, .cells [.d (.v (.int .i64 0)), .d (.v (.int .i64 0)), .d (.s []), .d (.v (.int .i64 0)), .d (.sl 1 true (ksInt [])), .d (.v (.int .i64 0)), .d (.s []), .d (.v (.int .i64 0)), .d (.sl 1 true (ksInt [])), .d (.sl 5 true (ksForm [])), .d (.sl 11 true (ksCore []))])] [some (.cells ((kL15Rd k37.2).map .d))] rfl (by kernel_rfl) ?_
        have e := some_inj' h1
        subst e
        exact WG.leaf hj1 rfl [] rfl rfl rfl
def m38 : Nat → Form → Option (Form)
  | 0, _ => none
  | n + 1, a0 => (apB 8 [] a0.scopes).bind fun z1 => Option.bind (forL (fun (s3 : List Form) (i2 : Nat) (x5 : Form) => (m38 n x5).bind fun k11 => (apB 80 s3 [k11]).bind fun z12 => some z12) 0 a0.kids []) (fun (s3 : List Form) => some (⟨a0.kind, a0.name, a0.n, z1, s3⟩ : Form))
theorem w38 (n : Nat) : ∀ (a0 : Form) {r : Form}, m38 n a0 = some r → SCall X.E 38 [.d (.agg (kForm a0))] [] (.d (.agg (kForm r))) [] := by
  induction n with
  | zero => intro a0 r h; cases h
  | succ n ih =>
    intro a0 r h0
    rw [m38] at h0
    refine SCall.mk Try.func38 rfl rfl rfl rfl [(0, .d (.agg (kForm a0)))] rfl rfl rfl (fun L ks low K hl hL hlen hK => ?_)
    refine WG.reg [] [] True.intro [(1, .ptr (.own 1) 0), (2, .ptr (.own 2) 0)] [(1, .cells ((kForm a0).map .d)), (2, .cells [.d (.v (.int .i64 0)), .d (.s []), .d (.v (.int .i64 0)), .d (.sl 1 true (ksInt [])), .d (.sl 5 true (ksForm []))])] [] rfl (by kernel_rfl) ?_
    obtain ⟨z1, hz1, h0⟩ := bnd h0
    refine WG.regD mixed [(6, [.sv (ksInt [])]), (9, [.sv (ksInt z1)])] [] (And.intro (dInt.lit []) (And.intro (dInt.ap hz1) True.intro)) [(1, .ptr (.own 1) 0), (2, .ptr (.own 2) 0), (3, .ptr (.own 3) 0)] [(1, .cells ((kForm a0).map .d)), (2, .cells [.d (.v (.int .i64 0)), .d (.s []), .d (.v (.int .i64 0)), .d (.sl 1 true (ksInt [])), .d (.sl 5 true (ksForm []))]), (100014, .tok (ksInt z1).length 3), (3, .cells [.d (.v (.int .i64 a0.kind)), .d (.s a0.name), .d (.v (.int .i64 a0.n)), .gs (.own 100014) 1 (ksInt z1), .d (.sl 5 true (ksForm []))])] [] rfl (by kernel_rfl) ?_
    refine WG.reg [] [] True.intro [(1, .ptr (.own 1) 0), (2, .ptr (.own 2) 0), (3, .ptr (.own 3) 0), (4, .d (.v (.int .i64 0)))] [(1, .cells ((kForm a0).map .d)), (2, .cells [.d (.v (.int .i64 0)), .d (.s []), .d (.v (.int .i64 0)), .d (.sl 1 true (ksInt [])), .d (.sl 5 true (ksForm []))]), (100014, .tok (ksInt z1).length 3), (3, .cells [.d (.v (.int .i64 a0.kind)), .d (.s a0.name), .d (.v (.int .i64 a0.n)), .gs (.own 100014) 1 (ksInt z1), .d (.sl 5 true (ksForm []))])] [] rfl (by kernel_rfl) ?_
    refine WG.ownCell 3 4 100032 26 rfl rfl rfl rfl [(1, .cells ((kForm a0).map .d)), (2, .cells [.d (.v (.int .i64 0)), .d (.s []), .d (.v (.int .i64 0)), .d (.sl 1 true (ksInt [])), .d (.sl 5 true (ksForm []))]), (100014, .tok (ksInt z1).length 3), (3, .cells [.d (.v (.int .i64 a0.kind)), .d (.s a0.name), .d (.v (.int .i64 a0.n)), .gs (.own 100014) 1 (ksInt z1), .gs (.own 100032) 5 (ksForm [])]), (100032, .tok (ksForm []).length 26)] rfl ?_
    refine WG.listL h0 rfl (fun i2 s3 => [(1, .ptr (.own 1) 0), (2, .ptr (.own 2) 0), (3, .ptr (.own 3) 0), (4, .d (.v (.int .i64 (i2 : Int))))]) (fun i2 s3 => [(1, .cells ((kForm a0).map .d)), (2, .cells [.d (.v (.int .i64 0)), .d (.s []), .d (.v (.int .i64 0)), .d (.sl 1 true (ksInt [])), .d (.sl 5 true (ksForm []))]), (100014, .tok (ksInt z1).length 3), (3, .cells [.d (.v (.int .i64 a0.kind)), .d (.s a0.name), .d (.v (.int .i64 a0.n)), .gs (.own 100014) 1 (ksInt z1), .gs (.own 100032) 5 (ksForm s3)]), (100032, .tok (ksForm s3).length 26)]) (fun i2 s3 => []) [] rfl rfl rfl (fun i2 s3 q4 hd6 hi8 h0 => ?_)
    refine WG.reg [.v (a0.kids.length : Int)] [] (And.intro (dForm.len' a0.kids) True.intro) [(1, .ptr (.own 1) 0), (2, .ptr (.own 2) 0), (3, .ptr (.own 3) 0), (4, .d (.v (.int .i64 (i2 : Int)))), (18, .d (.sl 5 false (ksForm a0.kids))), (20, .d (.v (.bool (decide ((i2 : Int) < (a0.kids.length : Int))))))] [(1, .cells ((kForm a0).map .d)), (2, .cells [.d (.v (.int .i64 0)), .d (.s []), .d (.v (.int .i64 0)), .d (.sl 1 true (ksInt [])), .d (.sl 5 true (ksForm []))]), (100014, .tok (ksInt z1).length 3), (3, .cells [.d (.v (.int .i64 a0.kind)), .d (.s a0.name), .d (.v (.int .i64 a0.n)), .gs (.own 100014) 1 (ksInt z1), .gs (.own 100032) 5 (ksForm s3)]), (100032, .tok (ksForm s3).length 26)] [] rfl (by kernel_rfl) ?_
    refine WG.slLen 18 rfl (fun hb9 => ?_)
    rw [dForm.length] at hb9
    refine WG.condP rfl rfl (fun hc10 => ?_) (fun hc10 => ?_)
    · obtain ⟨x5, q42, rfl, hx5, hd7⟩ := drop_cons' hd6 (by omega)
      obtain ⟨y1, h1, hn1⟩ := forL_cons h0
      obtain ⟨k11, hk11, h1⟩ := bnd h1
      obtain ⟨z12, hz12, h1⟩ := bnd h1
      refine WG.regD mixed [(5, [.cs (kForm x5)]), (7, [.call [] (.d (.agg (kForm k11))) []]), (8, [.sv (ksForm [k11])]), (9, [.sv (ksForm z12)])] [((ksForm s3).length : Int)] (And.intro (dForm.idn hx5) (And.intro (ih _ hk11) (And.intro (dForm.lit [k11]) (And.intro (dForm.ap hz12) True.intro)))) [(1, .ptr (.own 1) 0), (2, .ptr (.own 2) 0), (3, .ptr (.own 3) 0), (4, .d (.v (.int .i64 (i2 : Int))))] [(1, .cells ((kForm a0).map .d)), (2, .cells [.d (.v (.int .i64 0)), .d (.s []), .d (.v (.int .i64 0)), .d (.sl 1 true (ksInt [])), .d (.sl 5 true (ksForm []))]), (100014, .tok (ksInt z1).length 3), (3, .cells [.d (.v (.int .i64 a0.kind)), .d (.s a0.name), .d (.v (.int .i64 a0.n)), .gs (.own 100014) 1 (ksInt z1), .gs (.own 100032) 5 (ksForm z12)]), (100032, .tok (ksForm z12).length 26)] [] rfl (by kernel_rfl) ?_
      refine WG.reg [.v ((i2 + 1 : Nat) : Int)] [] (And.intro (wn (i := i2) (by omega)) True.intro) [(1, .ptr (.own 1) 0), (2, .ptr (.own 2) 0), (3, .ptr (.own 3) 0), (4, .d (.v (.int .i64 ((i2 + 1 : Nat) : Int))))] [(1, .cells ((kForm a0).map .d)), (2, .cells [.d (.v (.int .i64 0)), .d (.s []), .d (.v (.int .i64 0)), .d (.sl 1 true (ksInt [])), .d (.sl 5 true (ksForm []))]), (100014, .tok (ksInt z1).length 3), (3, .cells [.d (.v (.int .i64 a0.kind)), .d (.s a0.name), .d (.v (.int .i64 a0.n)), .gs (.own 100014) 1 (ksInt z1), .gs (.own 100032) 5 (ksForm z12)]), (100032, .tok (ksForm z12).length 26)] [] rfl (by kernel_rfl) ?_
      have e := some_inj' h1
      subst e
      exact WG.nextL rfl (i2 + 1) _ hd7 (by omega) hn1 [] rfl rfl rfl
    · obtain rfl := drop_nil' hd6 (by omega)
      have h0 := forL_nil h0
      refine WG.reg [] [] True.intro [(2, .ptr (.own 2) 0)] [(1, .cells ((kForm a0).map .d)), (2, .cells [.d (.v (.int .i64 a0.kind)), .d (.s a0.name), .d (.v (.int .i64 a0.n)), .gs (.own 100014) 1 (ksInt z1), .gs (.own 100032) 5 (ksForm s3)]), (100014, .tok (ksInt z1).length 3), (3, .cells [.d (.v (.int .i64 a0.kind)), .d (.s a0.name), .d (.v (.int .i64 a0.n)), .gs (.own 100014) 1 (ksInt z1), .gs (.own 100032) 5 (ksForm s3)]), (100032, .tok (ksForm s3).length 26)] [] rfl (by kernel_rfl) ?_
      have e := some_inj' h0
      subst e
      exact WG.ret rfl rfl (by kernel_rfl) hK
def m36 : Nat → Core → Option (Core)
  | 0, _ => none
  | n + 1, a0 => (apB 8 [] a0.ids).bind fun z1 => (m38 n a0.data).bind fun k2 => Option.bind (forL (fun (s4 : List Core) (i3 : Nat) (x6 : Core) => (m36 n x6).bind fun k12 => (apB 168 s4 [k12]).bind fun z13 => some z13) 0 a0.kids []) (fun (s4 : List Core) => some (⟨a0.kind, a0.id, a0.name, a0.n, z1, k2, s4⟩ : Core))
theorem w36 (n : Nat) : ∀ (a0 : Core) {r : Core}, m36 n a0 = some r → SCall X.E 36 [.d (.agg (kCore a0))] [] (.d (.agg (kCore r))) [] := by
  induction n with
  | zero => intro a0 r h; cases h
  | succ n ih =>
    intro a0 r h0
    rw [m36] at h0
    refine SCall.mk Try.func36 rfl rfl rfl rfl [(0, .d (.agg (kCore a0)))] rfl rfl rfl (fun L ks low K hl hL hlen hK => ?_)
    refine WG.reg [] [] True.intro [(1, .ptr (.own 1) 0), (2, .ptr (.own 2) 0)] [(1, .cells ((kCore a0).map .d)), (2, .cells [.d (.v (.int .i64 0)), .d (.v (.int .i64 0)), .d (.s []), .d (.v (.int .i64 0)), .d (.sl 1 true (ksInt [])), .d (.v (.int .i64 0)), .d (.s []), .d (.v (.int .i64 0)), .d (.sl 1 true (ksInt [])), .d (.sl 5 true (ksForm [])), .d (.sl 11 true (ksCore []))])] [] rfl (by kernel_rfl) ?_
    obtain ⟨z1, hz1, h0⟩ := bnd h0
    obtain ⟨k2, hk2, h0⟩ := bnd h0
    refine WG.regD mixed [(8, [.sv (ksInt [])]), (11, [.sv (ksInt z1)]), (14, [.call [] (.d (.agg (kForm k2))) []])] [] (And.intro (dInt.lit []) (And.intro (dInt.ap hz1) (And.intro (w38 n _ hk2) True.intro))) [(1, .ptr (.own 1) 0), (2, .ptr (.own 2) 0), (3, .ptr (.own 3) 0)] [(1, .cells ((kCore a0).map .d)), (2, .cells [.d (.v (.int .i64 0)), .d (.v (.int .i64 0)), .d (.s []), .d (.v (.int .i64 0)), .d (.sl 1 true (ksInt [])), .d (.v (.int .i64 0)), .d (.s []), .d (.v (.int .i64 0)), .d (.sl 1 true (ksInt [])), .d (.sl 5 true (ksForm [])), .d (.sl 11 true (ksCore []))]), (100016, .tok (ksInt z1).length 3), (3, .cells [.d (.v (.int .i64 a0.kind)), .d (.v (.int .i64 a0.id)), .d (.s a0.name), .d (.v (.int .i64 a0.n)), .gs (.own 100016) 1 (ksInt z1), .d (.v (.int .i64 k2.kind)), .d (.s k2.name), .d (.v (.int .i64 k2.n)), .d (.sl 1 false (ksInt k2.scopes)), .d (.sl 5 false (ksForm k2.kids)), .d (.sl 11 true (ksCore []))])] [] rfl (by kernel_rfl) ?_
    refine WG.reg [] [] True.intro [(1, .ptr (.own 1) 0), (2, .ptr (.own 2) 0), (3, .ptr (.own 3) 0), (4, .d (.v (.int .i64 0)))] [(1, .cells ((kCore a0).map .d)), (2, .cells [.d (.v (.int .i64 0)), .d (.v (.int .i64 0)), .d (.s []), .d (.v (.int .i64 0)), .d (.sl 1 true (ksInt [])), .d (.v (.int .i64 0)), .d (.s []), .d (.v (.int .i64 0)), .d (.sl 1 true (ksInt [])), .d (.sl 5 true (ksForm [])), .d (.sl 11 true (ksCore []))]), (100016, .tok (ksInt z1).length 3), (3, .cells [.d (.v (.int .i64 a0.kind)), .d (.v (.int .i64 a0.id)), .d (.s a0.name), .d (.v (.int .i64 a0.n)), .gs (.own 100016) 1 (ksInt z1), .d (.v (.int .i64 k2.kind)), .d (.s k2.name), .d (.v (.int .i64 k2.n)), .d (.sl 1 false (ksInt k2.scopes)), .d (.sl 5 false (ksForm k2.kids)), .d (.sl 11 true (ksCore []))])] [] rfl (by kernel_rfl) ?_
    refine WG.ownCell 3 10 100037 29 rfl rfl rfl rfl [(1, .cells ((kCore a0).map .d)), (2, .cells [.d (.v (.int .i64 0)), .d (.v (.int .i64 0)), .d (.s []), .d (.v (.int .i64 0)), .d (.sl 1 true (ksInt [])), .d (.v (.int .i64 0)), .d (.s []), .d (.v (.int .i64 0)), .d (.sl 1 true (ksInt [])), .d (.sl 5 true (ksForm [])), .d (.sl 11 true (ksCore []))]), (100016, .tok (ksInt z1).length 3), (3, .cells [.d (.v (.int .i64 a0.kind)), .d (.v (.int .i64 a0.id)), .d (.s a0.name), .d (.v (.int .i64 a0.n)), .gs (.own 100016) 1 (ksInt z1), .d (.v (.int .i64 k2.kind)), .d (.s k2.name), .d (.v (.int .i64 k2.n)), .d (.sl 1 false (ksInt k2.scopes)), .d (.sl 5 false (ksForm k2.kids)), .gs (.own 100037) 11 (ksCore [])]), (100037, .tok (ksCore []).length 29)] rfl ?_
    refine WG.listL h0 rfl (fun i3 s4 => [(1, .ptr (.own 1) 0), (2, .ptr (.own 2) 0), (3, .ptr (.own 3) 0), (4, .d (.v (.int .i64 (i3 : Int))))]) (fun i3 s4 => [(1, .cells ((kCore a0).map .d)), (2, .cells [.d (.v (.int .i64 0)), .d (.v (.int .i64 0)), .d (.s []), .d (.v (.int .i64 0)), .d (.sl 1 true (ksInt [])), .d (.v (.int .i64 0)), .d (.s []), .d (.v (.int .i64 0)), .d (.sl 1 true (ksInt [])), .d (.sl 5 true (ksForm [])), .d (.sl 11 true (ksCore []))]), (100016, .tok (ksInt z1).length 3), (3, .cells [.d (.v (.int .i64 a0.kind)), .d (.v (.int .i64 a0.id)), .d (.s a0.name), .d (.v (.int .i64 a0.n)), .gs (.own 100016) 1 (ksInt z1), .d (.v (.int .i64 k2.kind)), .d (.s k2.name), .d (.v (.int .i64 k2.n)), .d (.sl 1 false (ksInt k2.scopes)), .d (.sl 5 false (ksForm k2.kids)), .gs (.own 100037) 11 (ksCore s4)]), (100037, .tok (ksCore s4).length 29)]) (fun i3 s4 => []) [] rfl rfl rfl (fun i3 s4 q5 hd7 hi9 h0 => ?_)
    refine WG.reg [.v (a0.kids.length : Int)] [] (And.intro (dCore.len' a0.kids) True.intro) [(1, .ptr (.own 1) 0), (2, .ptr (.own 2) 0), (3, .ptr (.own 3) 0), (4, .d (.v (.int .i64 (i3 : Int)))), (23, .d (.sl 11 false (ksCore a0.kids))), (25, .d (.v (.bool (decide ((i3 : Int) < (a0.kids.length : Int))))))] [(1, .cells ((kCore a0).map .d)), (2, .cells [.d (.v (.int .i64 0)), .d (.v (.int .i64 0)), .d (.s []), .d (.v (.int .i64 0)), .d (.sl 1 true (ksInt [])), .d (.v (.int .i64 0)), .d (.s []), .d (.v (.int .i64 0)), .d (.sl 1 true (ksInt [])), .d (.sl 5 true (ksForm [])), .d (.sl 11 true (ksCore []))]), (100016, .tok (ksInt z1).length 3), (3, .cells [.d (.v (.int .i64 a0.kind)), .d (.v (.int .i64 a0.id)), .d (.s a0.name), .d (.v (.int .i64 a0.n)), .gs (.own 100016) 1 (ksInt z1), .d (.v (.int .i64 k2.kind)), .d (.s k2.name), .d (.v (.int .i64 k2.n)), .d (.sl 1 false (ksInt k2.scopes)), .d (.sl 5 false (ksForm k2.kids)), .gs (.own 100037) 11 (ksCore s4)]), (100037, .tok (ksCore s4).length 29)] [] rfl (by kernel_rfl) ?_
    refine WG.slLen 23 rfl (fun hb10 => ?_)
    rw [dCore.length] at hb10
    refine WG.condP rfl rfl (fun hc11 => ?_) (fun hc11 => ?_)
    · obtain ⟨x6, q52, rfl, hx6, hd8⟩ := drop_cons' hd7 (by omega)
      obtain ⟨y1, h1, hn1⟩ := forL_cons h0
      obtain ⟨k12, hk12, h1⟩ := bnd h1
      obtain ⟨z13, hz13, h1⟩ := bnd h1
      refine WG.regD mixed [(5, [.cs (kCore x6)]), (7, [.call [] (.d (.agg (kCore k12))) []]), (8, [.sv (ksCore [k12])]), (9, [.sv (ksCore z13)])] [((ksCore s4).length : Int)] (And.intro (dCore.idn hx6) (And.intro (ih _ hk12) (And.intro (dCore.lit [k12]) (And.intro (dCore.ap hz13) True.intro)))) [(1, .ptr (.own 1) 0), (2, .ptr (.own 2) 0), (3, .ptr (.own 3) 0), (4, .d (.v (.int .i64 (i3 : Int))))] [(1, .cells ((kCore a0).map .d)), (2, .cells [.d (.v (.int .i64 0)), .d (.v (.int .i64 0)), .d (.s []), .d (.v (.int .i64 0)), .d (.sl 1 true (ksInt [])), .d (.v (.int .i64 0)), .d (.s []), .d (.v (.int .i64 0)), .d (.sl 1 true (ksInt [])), .d (.sl 5 true (ksForm [])), .d (.sl 11 true (ksCore []))]), (100016, .tok (ksInt z1).length 3), (3, .cells [.d (.v (.int .i64 a0.kind)), .d (.v (.int .i64 a0.id)), .d (.s a0.name), .d (.v (.int .i64 a0.n)), .gs (.own 100016) 1 (ksInt z1), .d (.v (.int .i64 k2.kind)), .d (.s k2.name), .d (.v (.int .i64 k2.n)), .d (.sl 1 false (ksInt k2.scopes)), .d (.sl 5 false (ksForm k2.kids)), .gs (.own 100037) 11 (ksCore z13)]), (100037, .tok (ksCore z13).length 29)] [] rfl (by kernel_rfl) ?_
      refine WG.reg [.v ((i3 + 1 : Nat) : Int)] [] (And.intro (wn (i := i3) (by omega)) True.intro) [(1, .ptr (.own 1) 0), (2, .ptr (.own 2) 0), (3, .ptr (.own 3) 0), (4, .d (.v (.int .i64 ((i3 + 1 : Nat) : Int))))] [(1, .cells ((kCore a0).map .d)), (2, .cells [.d (.v (.int .i64 0)), .d (.v (.int .i64 0)), .d (.s []), .d (.v (.int .i64 0)), .d (.sl 1 true (ksInt [])), .d (.v (.int .i64 0)), .d (.s []), .d (.v (.int .i64 0)), .d (.sl 1 true (ksInt [])), .d (.sl 5 true (ksForm [])), .d (.sl 11 true (ksCore []))]), (100016, .tok (ksInt z1).length 3), (3, .cells [.d (.v (.int .i64 a0.kind)), .d (.v (.int .i64 a0.id)), .d (.s a0.name), .d (.v (.int .i64 a0.n)), .gs (.own 100016) 1 (ksInt z1), .d (.v (.int .i64 k2.kind)), .d (.s k2.name), .d (.v (.int .i64 k2.n)), .d (.sl 1 false (ksInt k2.scopes)), .d (.sl 5 false (ksForm k2.kids)), .gs (.own 100037) 11 (ksCore z13)]), (100037, .tok (ksCore z13).length 29)] [] rfl (by kernel_rfl) ?_
      have e := some_inj' h1
      subst e
      exact WG.nextL rfl (i3 + 1) _ hd8 (by omega) hn1 [] rfl rfl rfl
    · obtain rfl := drop_nil' hd7 (by omega)
      have h0 := forL_nil h0
      refine WG.reg [] [] True.intro [(2, .ptr (.own 2) 0)] [(1, .cells ((kCore a0).map .d)), (2, .cells [.d (.v (.int .i64 a0.kind)), .d (.v (.int .i64 a0.id)), .d (.s a0.name), .d (.v (.int .i64 a0.n)), .gs (.own 100016) 1 (ksInt z1), .d (.v (.int .i64 k2.kind)), .d (.s k2.name), .d (.v (.int .i64 k2.n)), .d (.sl 1 false (ksInt k2.scopes)), .d (.sl 5 false (ksForm k2.kids)), .gs (.own 100037) 11 (ksCore s4)]), (100016, .tok (ksInt z1).length 3), (3, .cells [.d (.v (.int .i64 a0.kind)), .d (.v (.int .i64 a0.id)), .d (.s a0.name), .d (.v (.int .i64 a0.n)), .gs (.own 100016) 1 (ksInt z1), .d (.v (.int .i64 k2.kind)), .d (.s k2.name), .d (.v (.int .i64 k2.n)), .d (.sl 1 false (ksInt k2.scopes)), .d (.sl 5 false (ksForm k2.kids)), .gs (.own 100037) 11 (ksCore s4)]), (100037, .tok (ksCore s4).length 29)] [] rfl (by kernel_rfl) ?_
      have e := some_inj' h0
      subst e
      exact WG.ret rfl rfl (by kernel_rfl) hK
theorem w36o (n : Nat) : ∀ (a0 : Core) {r : Core}, m36 n a0 = some r → SCall X.E 36 [.d (.agg (kCore a0))] [none, none] (.agg [.d (.v (.int .i64 r.kind)), .d (.v (.int .i64 r.id)), .d (.s r.name), .d (.v (.int .i64 r.n)), .gs (.low 0) 1 (ksInt r.ids), .d (.v (.int .i64 r.data.kind)), .d (.s r.data.name), .d (.v (.int .i64 r.data.n)), .d (.sl 1 false (ksInt r.data.scopes)), .d (.sl 5 false (ksForm r.data.kids)), .vs (.low 1) 11 ((ksCore r.kids).length)]) [.tok (ksInt r.ids).length 3, .vec 29 11 (ksCore r.kids)] := by
  cases n with
  | zero => intro a0 r h; cases h
  | succ n =>
    intro a0 r h0
    rw [m36] at h0
    refine SCall.mk Try.func36 rfl rfl rfl rfl [(0, .d (.agg (kCore a0)))] rfl rfl rfl (fun L ks low K hl hL hlen hK => ?_)
    refine WG.reg [] [] True.intro [(1, .ptr (.own 1) 0), (2, .ptr (.own 2) 0)] [(1, .cells ((kCore a0).map .d)), (2, .cells [.d (.v (.int .i64 0)), .d (.v (.int .i64 0)), .d (.s []), .d (.v (.int .i64 0)), .d (.sl 1 true (ksInt [])), .d (.v (.int .i64 0)), .d (.s []), .d (.v (.int .i64 0)), .d (.sl 1 true (ksInt [])), .d (.sl 5 true (ksForm [])), .d (.sl 11 true (ksCore []))])] [none, none] rfl (by kernel_rfl) ?_
    obtain ⟨z1, hz1, h0⟩ := bnd h0
    obtain ⟨k2, hk2, h0⟩ := bnd h0
    refine WG.regD mixed [(8, [.sv (ksInt [])]), (11, [.sv (ksInt z1)]), (14, [.call [] (.d (.agg (kForm k2))) []])] [] (And.intro (dInt.lit []) (And.intro (dInt.ap hz1) (And.intro (w38 n _ hk2) True.intro))) [(1, .ptr (.own 1) 0), (2, .ptr (.own 2) 0), (3, .ptr (.own 3) 0)] [(1, .cells ((kCore a0).map .d)), (2, .cells [.d (.v (.int .i64 0)), .d (.v (.int .i64 0)), .d (.s []), .d (.v (.int .i64 0)), .d (.sl 1 true (ksInt [])), .d (.v (.int .i64 0)), .d (.s []), .d (.v (.int .i64 0)), .d (.sl 1 true (ksInt [])), .d (.sl 5 true (ksForm [])), .d (.sl 11 true (ksCore []))]), (100016, .tok (ksInt z1).length 3), (3, .cells [.d (.v (.int .i64 a0.kind)), .d (.v (.int .i64 a0.id)), .d (.s a0.name), .d (.v (.int .i64 a0.n)), .gs (.own 100016) 1 (ksInt z1), .d (.v (.int .i64 k2.kind)), .d (.s k2.name), .d (.v (.int .i64 k2.n)), .d (.sl 1 false (ksInt k2.scopes)), .d (.sl 5 false (ksForm k2.kids)), .d (.sl 11 true (ksCore []))])] [none, none] rfl (by kernel_rfl) ?_
    refine WG.reg [] [] True.intro [(1, .ptr (.own 1) 0), (2, .ptr (.own 2) 0), (3, .ptr (.own 3) 0), (4, .d (.v (.int .i64 0)))] [(1, .cells ((kCore a0).map .d)), (2, .cells [.d (.v (.int .i64 0)), .d (.v (.int .i64 0)), .d (.s []), .d (.v (.int .i64 0)), .d (.sl 1 true (ksInt [])), .d (.v (.int .i64 0)), .d (.s []), .d (.v (.int .i64 0)), .d (.sl 1 true (ksInt [])), .d (.sl 5 true (ksForm [])), .d (.sl 11 true (ksCore []))]), (100016, .tok (ksInt z1).length 3), (3, .cells [.d (.v (.int .i64 a0.kind)), .d (.v (.int .i64 a0.id)), .d (.s a0.name), .d (.v (.int .i64 a0.n)), .gs (.own 100016) 1 (ksInt z1), .d (.v (.int .i64 k2.kind)), .d (.s k2.name), .d (.v (.int .i64 k2.n)), .d (.sl 1 false (ksInt k2.scopes)), .d (.sl 5 false (ksForm k2.kids)), .d (.sl 11 true (ksCore []))])] [none, none] rfl (by kernel_rfl) ?_
    refine WG.ownCellV 3 10 100037 29 rfl rfl rfl rfl [(1, .cells ((kCore a0).map .d)), (2, .cells [.d (.v (.int .i64 0)), .d (.v (.int .i64 0)), .d (.s []), .d (.v (.int .i64 0)), .d (.sl 1 true (ksInt [])), .d (.v (.int .i64 0)), .d (.s []), .d (.v (.int .i64 0)), .d (.sl 1 true (ksInt [])), .d (.sl 5 true (ksForm [])), .d (.sl 11 true (ksCore []))]), (100016, .tok (ksInt z1).length 3), (3, .cells [.d (.v (.int .i64 a0.kind)), .d (.v (.int .i64 a0.id)), .d (.s a0.name), .d (.v (.int .i64 a0.n)), .gs (.own 100016) 1 (ksInt z1), .d (.v (.int .i64 k2.kind)), .d (.s k2.name), .d (.v (.int .i64 k2.n)), .d (.sl 1 false (ksInt k2.scopes)), .d (.sl 5 false (ksForm k2.kids)), .vs (.own 100037) 11 0]), (100037, .vec 29 11 (ksCore []))] rfl ?_
    refine WG.listL h0 rfl (fun i3 s4 => [(1, .ptr (.own 1) 0), (2, .ptr (.own 2) 0), (3, .ptr (.own 3) 0), (4, .d (.v (.int .i64 (i3 : Int))))]) (fun i3 s4 => [(1, .cells ((kCore a0).map .d)), (2, .cells [.d (.v (.int .i64 0)), .d (.v (.int .i64 0)), .d (.s []), .d (.v (.int .i64 0)), .d (.sl 1 true (ksInt [])), .d (.v (.int .i64 0)), .d (.s []), .d (.v (.int .i64 0)), .d (.sl 1 true (ksInt [])), .d (.sl 5 true (ksForm [])), .d (.sl 11 true (ksCore []))]), (100016, .tok (ksInt z1).length 3), (3, .cells [.d (.v (.int .i64 a0.kind)), .d (.v (.int .i64 a0.id)), .d (.s a0.name), .d (.v (.int .i64 a0.n)), .gs (.own 100016) 1 (ksInt z1), .d (.v (.int .i64 k2.kind)), .d (.s k2.name), .d (.v (.int .i64 k2.n)), .d (.sl 1 false (ksInt k2.scopes)), .d (.sl 5 false (ksForm k2.kids)), .vs (.own 100037) 11 ((ksCore s4).length)]), (100037, .vec 29 11 (ksCore s4))]) (fun i3 s4 => [none, none]) [] rfl rfl rfl (fun i3 s4 q5 hd7 hi9 h0 => ?_)
    refine WG.reg [.v (a0.kids.length : Int)] [] (And.intro (dCore.len' a0.kids) True.intro) [(1, .ptr (.own 1) 0), (2, .ptr (.own 2) 0), (3, .ptr (.own 3) 0), (4, .d (.v (.int .i64 (i3 : Int)))), (23, .d (.sl 11 false (ksCore a0.kids))), (25, .d (.v (.bool (decide ((i3 : Int) < (a0.kids.length : Int))))))] [(1, .cells ((kCore a0).map .d)), (2, .cells [.d (.v (.int .i64 0)), .d (.v (.int .i64 0)), .d (.s []), .d (.v (.int .i64 0)), .d (.sl 1 true (ksInt [])), .d (.v (.int .i64 0)), .d (.s []), .d (.v (.int .i64 0)), .d (.sl 1 true (ksInt [])), .d (.sl 5 true (ksForm [])), .d (.sl 11 true (ksCore []))]), (100016, .tok (ksInt z1).length 3), (3, .cells [.d (.v (.int .i64 a0.kind)), .d (.v (.int .i64 a0.id)), .d (.s a0.name), .d (.v (.int .i64 a0.n)), .gs (.own 100016) 1 (ksInt z1), .d (.v (.int .i64 k2.kind)), .d (.s k2.name), .d (.v (.int .i64 k2.n)), .d (.sl 1 false (ksInt k2.scopes)), .d (.sl 5 false (ksForm k2.kids)), .vs (.own 100037) 11 ((ksCore s4).length)]), (100037, .vec 29 11 (ksCore s4))] [none, none] rfl (by kernel_rfl) ?_
    refine WG.slLen 23 rfl (fun hb10 => ?_)
    rw [dCore.length] at hb10
    refine WG.condP rfl rfl (fun hc11 => ?_) (fun hc11 => ?_)
    · obtain ⟨x6, q52, rfl, hx6, hd8⟩ := drop_cons' hd7 (by omega)
      obtain ⟨y1, h1, hn1⟩ := forL_cons h0
      obtain ⟨k12, hk12, h1⟩ := bnd h1
      obtain ⟨z13, hz13, h1⟩ := bnd h1
      refine WG.regD mixed [(5, [.cs (kCore x6)]), (7, [.call [] (.d (.agg (kCore k12))) []]), (8, [.sv (ksCore [k12])]), (9, [.sv (ksCore z13)])] [] (And.intro (dCore.idn hx6) (And.intro (w36 n _ hk12) (And.intro (dCore.lit [k12]) (And.intro (And.intro (dCore.ap hz13) (rfl : (ksCore s4).length = (ksCore s4).length)) True.intro)))) [(1, .ptr (.own 1) 0), (2, .ptr (.own 2) 0), (3, .ptr (.own 3) 0), (4, .d (.v (.int .i64 (i3 : Int))))] [(1, .cells ((kCore a0).map .d)), (2, .cells [.d (.v (.int .i64 0)), .d (.v (.int .i64 0)), .d (.s []), .d (.v (.int .i64 0)), .d (.sl 1 true (ksInt [])), .d (.v (.int .i64 0)), .d (.s []), .d (.v (.int .i64 0)), .d (.sl 1 true (ksInt [])), .d (.sl 5 true (ksForm [])), .d (.sl 11 true (ksCore []))]), (100016, .tok (ksInt z1).length 3), (3, .cells [.d (.v (.int .i64 a0.kind)), .d (.v (.int .i64 a0.id)), .d (.s a0.name), .d (.v (.int .i64 a0.n)), .gs (.own 100016) 1 (ksInt z1), .d (.v (.int .i64 k2.kind)), .d (.s k2.name), .d (.v (.int .i64 k2.n)), .d (.sl 1 false (ksInt k2.scopes)), .d (.sl 5 false (ksForm k2.kids)), .vs (.own 100037) 11 ((ksCore z13).length)]), (100037, .vec 29 11 (ksCore z13))] [none, none] rfl (by kernel_rfl) ?_
      refine WG.reg [.v ((i3 + 1 : Nat) : Int)] [] (And.intro (wn (i := i3) (by omega)) True.intro) [(1, .ptr (.own 1) 0), (2, .ptr (.own 2) 0), (3, .ptr (.own 3) 0), (4, .d (.v (.int .i64 ((i3 + 1 : Nat) : Int))))] [(1, .cells ((kCore a0).map .d)), (2, .cells [.d (.v (.int .i64 0)), .d (.v (.int .i64 0)), .d (.s []), .d (.v (.int .i64 0)), .d (.sl 1 true (ksInt [])), .d (.v (.int .i64 0)), .d (.s []), .d (.v (.int .i64 0)), .d (.sl 1 true (ksInt [])), .d (.sl 5 true (ksForm [])), .d (.sl 11 true (ksCore []))]), (100016, .tok (ksInt z1).length 3), (3, .cells [.d (.v (.int .i64 a0.kind)), .d (.v (.int .i64 a0.id)), .d (.s a0.name), .d (.v (.int .i64 a0.n)), .gs (.own 100016) 1 (ksInt z1), .d (.v (.int .i64 k2.kind)), .d (.s k2.name), .d (.v (.int .i64 k2.n)), .d (.sl 1 false (ksInt k2.scopes)), .d (.sl 5 false (ksForm k2.kids)), .vs (.own 100037) 11 ((ksCore z13).length)]), (100037, .vec 29 11 (ksCore z13))] [none, none] rfl (by kernel_rfl) ?_
      have e := some_inj' h1
      subst e
      exact WG.nextL rfl (i3 + 1) _ hd8 (by omega) hn1 [] rfl rfl rfl
    · obtain rfl := drop_nil' hd7 (by omega)
      have h0 := forL_nil h0
      refine WG.reg [] [] True.intro [(2, .ptr (.own 2) 0)] [(1, .cells ((kCore a0).map .d)), (2, .cells [.d (.v (.int .i64 a0.kind)), .d (.v (.int .i64 a0.id)), .d (.s a0.name), .d (.v (.int .i64 a0.n)), .gs (.own 100016) 1 (ksInt z1), .d (.v (.int .i64 k2.kind)), .d (.s k2.name), .d (.v (.int .i64 k2.n)), .d (.sl 1 false (ksInt k2.scopes)), .d (.sl 5 false (ksForm k2.kids)), .vs (.own 100037) 11 ((ksCore s4).length)]), (100016, .tok (ksInt z1).length 3), (3, .cells [.d (.v (.int .i64 a0.kind)), .d (.v (.int .i64 a0.id)), .d (.s a0.name), .d (.v (.int .i64 a0.n)), .gs (.own 100016) 1 (ksInt z1), .d (.v (.int .i64 k2.kind)), .d (.s k2.name), .d (.v (.int .i64 k2.n)), .d (.sl 1 false (ksInt k2.scopes)), .d (.sl 5 false (ksForm k2.kids)), .vs (.own 100037) 11 ((ksCore s4).length)]), (100037, .vec 29 11 (ksCore s4))] [none, none] rfl (by kernel_rfl) ?_
      refine WG.less [] [(2, .ptr (.own 2) 0)] rfl ?_
      refine WG.drop 1 rfl rfl ?_
      refine WG.drop 3 rfl rfl ?_
      refine WG.moveCellT 2 4 100016 0 rfl rfl rfl rfl rfl rfl rfl [(2, .cells [.d (.v (.int .i64 a0.kind)), .d (.v (.int .i64 a0.id)), .d (.s a0.name), .d (.v (.int .i64 a0.n)), .gs (.low 0) 1 (ksInt z1), .d (.v (.int .i64 k2.kind)), .d (.s k2.name), .d (.v (.int .i64 k2.n)), .d (.sl 1 false (ksInt k2.scopes)), .d (.sl 5 false (ksForm k2.kids)), .vs (.own 100037) 11 ((ksCore s4).length)]), (100037, .vec 29 11 (ksCore s4))] rfl rfl ?_
      refine WG.moveCell 2 10 100037 1 rfl rfl rfl rfl rfl rfl rfl [(2, .cells [.d (.v (.int .i64 a0.kind)), .d (.v (.int .i64 a0.id)), .d (.s a0.name), .d (.v (.int .i64 a0.n)), .gs (.low 0) 1 (ksInt z1), .d (.v (.int .i64 k2.kind)), .d (.s k2.name), .d (.v (.int .i64 k2.n)), .d (.sl 1 false (ksInt k2.scopes)), .d (.sl 5 false (ksForm k2.kids)), .vs (.low 1) 11 ((ksCore s4).length)])] rfl rfl ?_
      have e := some_inj' h0
      subst e
      exact WG.ret rfl rfl (by kernel_rfl) hK
def m30 : Nat → Core → L15Rd → Option (Core × L15Rd)
  | 0, _, _ => none
  | n + 1, a1, o0 => (m36 n a1).bind fun k1 => Option.bind ((if (k1.kids.length : Int) > 0 then (m29 n 2 o0).bind fun k21 => some ((decide (k21.1 > 0)), k21.2) else some (false, o0)) : Option (Bool × L15Rd)) (fun (o2 : Bool × L15Rd) => (if o2.1 = true then (m29 n (k1.kids.length : Int) o2.2).bind fun k4 => (inB k4.1 k1.kids.length).bind fun u5 => (k1.kids[(Int.toNat k4.1)]?).bind fun e6 => (m30 n e6 k4.2).bind fun k7 => (inB k4.1 k1.kids.length).bind fun u8 => some ((⟨k1.kind, k1.id, k1.name, k1.n, k1.ids, k1.data, (k1.kids.set (Int.toNat k4.1) k7.1)⟩ : Core), k7.2) else (m29 n 12 o2.2).bind fun k9 => Option.bind ((if k9.1 = 0 then (m28 n [0, 8, 3, 6] k9.2).bind fun k12 => some (k12.1, k1.id, k1.name, k1.ids, k12.2) else (if k9.1 = 1 then (m28 n [0, 1, 1000, 2] k9.2).bind fun k14 => some (k1.kind, k14.1, k1.name, k1.ids, k14.2) else (if k9.1 = 2 then (m28 n [1, 900, 0] k9.2).bind fun k16 => (apB 8 k1.ids [k16.1]).bind fun z17 => some (k1.kind, k1.id, k1.name, z17, k16.2) else (if k9.1 = 3 then (m35 n [[], [103], [65]] k9.2).bind fun k19 => some (k1.kind, k1.id, k19.1, k1.ids, k19.2) else some (k1.kind, k1.id, k1.name, k1.ids, k9.2))))) : Option (Int × Int × (List UInt8) × (List Int) × L15Rd)) (fun (o10 : Int × Int × (List UInt8) × (List Int) × L15Rd) => some ((⟨o10.1, o10.2.1, o10.2.2.1, k1.n, o10.2.2.2.1, k1.data, k1.kids⟩ : Core), o10.2.2.2.2))))
theorem w30 (n : Nat) : ∀ (a1 : Core) (o0 : L15Rd) {r : Core × L15Rd}, m30 n a1 o0 = some r → SCall X.E 30 [.ptr (.low 0) 0, .d (.agg (kCore a1))] [some (.cells ((kL15Rd o0).map .d))] (.d (.agg (kCore r.1))) [.cells ((kL15Rd r.2).map .d)] := by
  induction n with
  | zero => intro a1 o0 r h; cases h
  | succ n ih =>
    intro a1 o0 r h0
    rw [m30] at h0
    refine SCall.mk Try.func30 rfl rfl rfl rfl [(0, .ptr (.low 0) 0), (1, .d (.agg (kCore a1)))] rfl rfl rfl (fun L ks low K hl hL hlen hK => ?_)
    refine WG.reg [] [] True.intro [(0, .ptr (.low 0) 0), (3, .ptr (.own 3) 0), (4, .ptr (.own 4) 0)] [(3, .cells ((kCore a1).map .d)), (4, .cells [.d (.v (.int .i64 0)), .d (.v (.int .i64 0)), .d (.s []), .d (.v (.int .i64 0)), .d (.sl 1 true (ksInt [])), .d (.v (.int .i64 0)), .d (.s []), .d (.v (.int .i64 0)), .d (.sl 1 true (ksInt [])), .d (.sl 5 true (ksForm [])), .d (.sl 11 true (ksCore []))])] [some (.cells ((kL15Rd o0).map .d))] rfl (by kernel_rfl) ?_
    obtain ⟨k1, hk1, h0⟩ := bnd h0
    refine WG.reg [.call [.own 300080, .own 300081] (.agg [.d (.v (.int .i64 k1.kind)), .d (.v (.int .i64 k1.id)), .d (.s k1.name), .d (.v (.int .i64 k1.n)), .gs (.low 0) 1 (ksInt k1.ids), .d (.v (.int .i64 k1.data.kind)), .d (.s k1.data.name), .d (.v (.int .i64 k1.data.n)), .d (.sl 1 false (ksInt k1.data.scopes)), .d (.sl 5 false (ksForm k1.data.kids)), .vs (.low 1) 11 ((ksCore k1.kids).length)]) [.tok (ksInt k1.ids).length 3, .vec 29 11 (ksCore k1.kids)]] [] (And.intro (w36o n _ hk1) True.intro) [(0, .ptr (.low 0) 0), (4, .ptr (.own 4) 0), (5, .ptr (.own 5) 0)] [(3, .cells ((kCore a1).map .d)), (4, .cells [.d (.v (.int .i64 0)), .d (.v (.int .i64 0)), .d (.s []), .d (.v (.int .i64 0)), .d (.sl 1 true (ksInt [])), .d (.v (.int .i64 0)), .d (.s []), .d (.v (.int .i64 0)), .d (.sl 1 true (ksInt [])), .d (.sl 5 true (ksForm [])), .d (.sl 11 true (ksCore []))]), (300080, .tok (ksInt k1.ids).length 3), (300081, .vec 29 11 (ksCore k1.kids)), (5, .cells [.d (.v (.int .i64 k1.kind)), .d (.v (.int .i64 k1.id)), .d (.s k1.name), .d (.v (.int .i64 k1.n)), .gs (.own 300080) 1 (ksInt k1.ids), .d (.v (.int .i64 k1.data.kind)), .d (.s k1.data.name), .d (.v (.int .i64 k1.data.n)), .d (.sl 1 false (ksInt k1.data.scopes)), .d (.sl 5 false (ksForm k1.data.kids)), .vs (.own 300081) 11 ((ksCore k1.kids).length)])] [some (.cells ((kL15Rd o0).map .d))] rfl (by kernel_rfl) ?_
    refine WG.bindP h0 rfl (fun o2 => [(0, .ptr (.low 0) 0), (4, .ptr (.own 4) 0), (5, .ptr (.own 5) 0), (17, .d (.v (.bool o2.1)))]) (fun o2 => [(3, .cells ((kCore a1).map .d)), (4, .cells [.d (.v (.int .i64 0)), .d (.v (.int .i64 0)), .d (.s []), .d (.v (.int .i64 0)), .d (.sl 1 true (ksInt [])), .d (.v (.int .i64 0)), .d (.s []), .d (.v (.int .i64 0)), .d (.sl 1 true (ksInt [])), .d (.sl 5 true (ksForm [])), .d (.sl 11 true (ksCore []))]), (300080, .tok (ksInt k1.ids).length 3), (300081, .vec 29 11 (ksCore k1.kids)), (5, .cells [.d (.v (.int .i64 k1.kind)), .d (.v (.int .i64 k1.id)), .d (.s k1.name), .d (.v (.int .i64 k1.n)), .gs (.own 300080) 1 (ksInt k1.ids), .d (.v (.int .i64 k1.data.kind)), .d (.s k1.data.name), .d (.v (.int .i64 k1.data.n)), .d (.sl 1 false (ksInt k1.data.scopes)), .d (.sl 5 false (ksForm k1.data.kids)), .vs (.own 300081) 11 ((ksCore k1.kids).length)])]) (fun o2 => [some (.cells ((kL15Rd o2.2).map .d))]) (fun o2 h0 => ?_) (fun y1 h1 hj1 => ?_)
    · refine WG.cond rfl rfl (fun hc3 => ?_) (fun hc3 => ?_)
      · have h0 := iteP hc3 h0
        obtain ⟨k4, hk4, h0⟩ := bnd h0
        refine WG.reg [.v (k1.kids.length : Int), .call [.low 0] (.d (.v (.int .i64 k4.1))) [.cells ((kL15Rd k4.2).map .d)]] [] (And.intro (dCore.len' k1.kids) (And.intro (w29 n _ _ hk4) True.intro)) [(0, .ptr (.low 0) 0), (4, .ptr (.own 4) 0), (5, .ptr (.own 5) 0), (6, .d (.v (.int .i64 k4.1)))] [(3, .cells ((kCore a1).map .d)), (4, .cells [.d (.v (.int .i64 0)), .d (.v (.int .i64 0)), .d (.s []), .d (.v (.int .i64 0)), .d (.sl 1 true (ksInt [])), .d (.v (.int .i64 0)), .d (.s []), .d (.v (.int .i64 0)), .d (.sl 1 true (ksInt [])), .d (.sl 5 true (ksForm [])), .d (.sl 11 true (ksCore []))]), (300080, .tok (ksInt k1.ids).length 3), (300081, .vec 29 11 (ksCore k1.kids)), (5, .cells [.d (.v (.int .i64 k1.kind)), .d (.v (.int .i64 k1.id)), .d (.s k1.name), .d (.v (.int .i64 k1.n)), .gs (.own 300080) 1 (ksInt k1.ids), .d (.v (.int .i64 k1.data.kind)), .d (.s k1.data.name), .d (.v (.int .i64 k1.data.n)), .d (.sl 1 false (ksInt k1.data.scopes)), .d (.sl 5 false (ksForm k1.data.kids)), .vs (.own 300081) 11 ((ksCore k1.kids).length)])] [some (.cells ((kL15Rd k4.2).map .d))] rfl (by kernel_rfl) ?_
        obtain ⟨u5, hu5, h0⟩ := bnd h0
        obtain ⟨e6, he6, h0⟩ := bnd h0
        obtain ⟨k7, hk7, h0⟩ := bnd h0
        obtain ⟨u8, hu8, h0⟩ := bnd h0
        refine WG.regD mixed [(8, [.cs (kCore e6)]), (9, [.call [.low 0] (.d (.agg (kCore k7.1))) [.cells ((kL15Rd k7.2).map .d)]]), (11, [.cs (kCore e6), .sv (ksCore (k1.kids.set (Int.toNat k4.1) k7.1))])] [] (And.intro (And.intro (dCore.inv hu5 (rfl : (ksCore k1.kids).length = (ksCore k1.kids).length)) (rfl : (ksCore k1.kids).length = (ksCore k1.kids).length)) (And.intro (And.intro (And.intro (dCore.rows k1.kids) (dCore.ixr he6)) (rfl : (ksCore k1.kids).length = (ksCore k1.kids).length)) (And.intro (ih _ _ hk7) (And.intro (And.intro (dCore.inv hu8 (rfl : (ksCore k1.kids).length = (ksCore k1.kids).length)) (rfl : (ksCore k1.kids).length = (ksCore k1.kids).length)) (And.intro (And.intro (And.intro (And.intro (dCore.rows k1.kids) (dCore.ixr he6)) (rfl : (ksCore k1.kids).length = (ksCore k1.kids).length)) (dCore.seti k1.kids (Int.toNat k4.1) k7.1)) True.intro))))) [(4, .ptr (.own 4) 0), (5, .ptr (.own 5) 0)] [(3, .cells ((kCore a1).map .d)), (4, .cells [.d (.v (.int .i64 0)), .d (.v (.int .i64 0)), .d (.s []), .d (.v (.int .i64 0)), .d (.sl 1 true (ksInt [])), .d (.v (.int .i64 0)), .d (.s []), .d (.v (.int .i64 0)), .d (.sl 1 true (ksInt [])), .d (.sl 5 true (ksForm [])), .d (.sl 11 true (ksCore []))]), (300080, .tok (ksInt k1.ids).length 3), (300081, .vec 29 11 (ksCore (k1.kids.set (Int.toNat k4.1) k7.1))), (5, .cells [.d (.v (.int .i64 k1.kind)), .d (.v (.int .i64 k1.id)), .d (.s k1.name), .d (.v (.int .i64 k1.n)), .gs (.own 300080) 1 (ksInt k1.ids), .d (.v (.int .i64 k1.data.kind)), .d (.s k1.data.name), .d (.v (.int .i64 k1.data.n)), .d (.sl 1 false (ksInt k1.data.scopes)), .d (.sl 5 false (ksForm k1.data.kids)), .vs (.own 300081) 11 ((ksCore k1.kids).length)])] [some (.cells ((kL15Rd k7.2).map .d))] rfl (by kernel_rfl) ?_
        refine WG.reg [] [] True.intro [(4, .ptr (.own 4) 0)] [(3, .cells ((kCore a1).map .d)), (4, .cells [.d (.v (.int .i64 k1.kind)), .d (.v (.int .i64 k1.id)), .d (.s k1.name), .d (.v (.int .i64 k1.n)), .gs (.own 300080) 1 (ksInt k1.ids), .d (.v (.int .i64 k1.data.kind)), .d (.s k1.data.name), .d (.v (.int .i64 k1.data.n)), .d (.sl 1 false (ksInt k1.data.scopes)), .d (.sl 5 false (ksForm k1.data.kids)), .vs (.own 300081) 11 ((ksCore k1.kids).length)]), (300080, .tok (ksInt k1.ids).length 3), (300081, .vec 29 11 (ksCore (k1.kids.set (Int.toNat k4.1) k7.1))), (5, .cells [.d (.v (.int .i64 k1.kind)), .d (.v (.int .i64 k1.id)), .d (.s k1.name), .d (.v (.int .i64 k1.n)), .gs (.own 300080) 1 (ksInt k1.ids), .d (.v (.int .i64 k1.data.kind)), .d (.s k1.data.name), .d (.v (.int .i64 k1.data.n)), .d (.sl 1 false (ksInt k1.data.scopes)), .d (.sl 5 false (ksForm k1.data.kids)), .vs (.own 300081) 11 ((ksCore k1.kids).length)])] [some (.cells ((kL15Rd k7.2).map .d))] rfl (by kernel_rfl) ?_
        refine WG.less [] [(4, .ptr (.own 4) 0)] rfl ?_
        refine WG.drop 3 rfl rfl ?_
        refine WG.drop 5 rfl rfl ?_
        refine WG.freezeCell 4 10 300081 rfl rfl rfl (by simp only [dCore.length, List.length_set] : (ksCore (k1.kids.set (Int.toNat k4.1) k7.1)).length = (ksCore k1.kids).length) (dCore.rows (k1.kids.set (Int.toNat k4.1) k7.1)) rfl rfl rfl [(4, .cells [.d (.v (.int .i64 k1.kind)), .d (.v (.int .i64 k1.id)), .d (.s k1.name), .d (.v (.int .i64 k1.n)), .gs (.own 300080) 1 (ksInt k1.ids), .d (.v (.int .i64 k1.data.kind)), .d (.s k1.data.name), .d (.v (.int .i64 k1.data.n)), .d (.sl 1 false (ksInt k1.data.scopes)), .d (.sl 5 false (ksForm k1.data.kids)), .d (.sl 11 false (ksCore (k1.kids.set (Int.toNat k4.1) k7.1)))]), (300080, .tok (ksInt k1.ids).length 3)] rfl rfl ?_
        have e := some_inj' h0
        subst e
        exact WG.ret rfl rfl (by kernel_rfl) hK
      · have hc3 := Bool.eq_false_iff.1 hc3
        have h0 := iteN hc3 h0
        obtain ⟨k9, hk9, h0⟩ := bnd h0
        refine WG.reg [.call [.low 0] (.d (.v (.int .i64 k9.1))) [.cells ((kL15Rd k9.2).map .d)]] [] (And.intro (w29 n _ _ hk9) True.intro) [(0, .ptr (.low 0) 0), (4, .ptr (.own 4) 0), (5, .ptr (.own 5) 0), (36, .d (.v (.int .i64 k9.1)))] [(3, .cells ((kCore a1).map .d)), (4, .cells [.d (.v (.int .i64 0)), .d (.v (.int .i64 0)), .d (.s []), .d (.v (.int .i64 0)), .d (.sl 1 true (ksInt [])), .d (.v (.int .i64 0)), .d (.s []), .d (.v (.int .i64 0)), .d (.sl 1 true (ksInt [])), .d (.sl 5 true (ksForm [])), .d (.sl 11 true (ksCore []))]), (300080, .tok (ksInt k1.ids).length 3), (300081, .vec 29 11 (ksCore k1.kids)), (5, .cells [.d (.v (.int .i64 k1.kind)), .d (.v (.int .i64 k1.id)), .d (.s k1.name), .d (.v (.int .i64 k1.n)), .gs (.own 300080) 1 (ksInt k1.ids), .d (.v (.int .i64 k1.data.kind)), .d (.s k1.data.name), .d (.v (.int .i64 k1.data.n)), .d (.sl 1 false (ksInt k1.data.scopes)), .d (.sl 5 false (ksForm k1.data.kids)), .vs (.own 300081) 11 ((ksCore k1.kids).length)])] [some (.cells ((kL15Rd k9.2).map .d))] rfl (by kernel_rfl) ?_
        refine WG.bindPB h0 rfl (fun o10 => [(4, .ptr (.own 4) 0), (5, .ptr (.own 5) 0)]) (fun o10 => [(3, .cells ((kCore a1).map .d)), (4, .cells [.d (.v (.int .i64 0)), .d (.v (.int .i64 0)), .d (.s []), .d (.v (.int .i64 0)), .d (.sl 1 true (ksInt [])), .d (.v (.int .i64 0)), .d (.s []), .d (.v (.int .i64 0)), .d (.sl 1 true (ksInt [])), .d (.sl 5 true (ksForm [])), .d (.sl 11 true (ksCore []))]), (300080, .tok (ksInt o10.2.2.2.1).length 3), (300081, .vec 29 11 (ksCore k1.kids)), (5, .cells [.d (.v (.int .i64 o10.1)), .d (.v (.int .i64 o10.2.1)), .d (.s o10.2.2.1), .d (.v (.int .i64 k1.n)), .gs (.own 300080) 1 (ksInt o10.2.2.2.1), .d (.v (.int .i64 k1.data.kind)), .d (.s k1.data.name), .d (.v (.int .i64 k1.data.n)), .d (.sl 1 false (ksInt k1.data.scopes)), .d (.sl 5 false (ksForm k1.data.kids)), .vs (.own 300081) 11 ((ksCore k1.kids).length)])]) (fun o10 => [some (.cells ((kL15Rd o10.2.2.2.2).map .d))]) (fun o10 h0 => ?_) (fun y1 h1 hj1 => ?_)
        · refine WG.reg [] [] True.intro [(4, .ptr (.own 4) 0)] [(3, .cells ((kCore a1).map .d)), (4, .cells [.d (.v (.int .i64 o10.1)), .d (.v (.int .i64 o10.2.1)), .d (.s o10.2.2.1), .d (.v (.int .i64 k1.n)), .gs (.own 300080) 1 (ksInt o10.2.2.2.1), .d (.v (.int .i64 k1.data.kind)), .d (.s k1.data.name), .d (.v (.int .i64 k1.data.n)), .d (.sl 1 false (ksInt k1.data.scopes)), .d (.sl 5 false (ksForm k1.data.kids)), .vs (.own 300081) 11 ((ksCore k1.kids).length)]), (300080, .tok (ksInt o10.2.2.2.1).length 3), (300081, .vec 29 11 (ksCore k1.kids)), (5, .cells [.d (.v (.int .i64 o10.1)), .d (.v (.int .i64 o10.2.1)), .d (.s o10.2.2.1), .d (.v (.int .i64 k1.n)), .gs (.own 300080) 1 (ksInt o10.2.2.2.1), .d (.v (.int .i64 k1.data.kind)), .d (.s k1.data.name), .d (.v (.int .i64 k1.data.n)), .d (.sl 1 false (ksInt k1.data.scopes)), .d (.sl 5 false (ksForm k1.data.kids)), .vs (.own 300081) 11 ((ksCore k1.kids).length)])] [some (.cells ((kL15Rd o10.2.2.2.2).map .d))] rfl (by kernel_rfl) ?_
          refine WG.less [] [(4, .ptr (.own 4) 0)] rfl ?_
          refine WG.drop 3 rfl rfl ?_
          refine WG.drop 5 rfl rfl ?_
          refine WG.freezeCell 4 10 300081 rfl rfl rfl (rfl : (ksCore k1.kids).length = (ksCore k1.kids).length) (dCore.rows k1.kids) rfl rfl rfl [(4, .cells [.d (.v (.int .i64 o10.1)), .d (.v (.int .i64 o10.2.1)), .d (.s o10.2.2.1), .d (.v (.int .i64 k1.n)), .gs (.own 300080) 1 (ksInt o10.2.2.2.1), .d (.v (.int .i64 k1.data.kind)), .d (.s k1.data.name), .d (.v (.int .i64 k1.data.n)), .d (.sl 1 false (ksInt k1.data.scopes)), .d (.sl 5 false (ksForm k1.data.kids)), .d (.sl 11 false (ksCore k1.kids))]), (300080, .tok (ksInt o10.2.2.2.1).length 3)] rfl rfl ?_
          have e := some_inj' h0
          subst e
          exact WG.ret rfl rfl (by kernel_rfl) hK
        · refine WG.reg [] [] True.intro [(0, .ptr (.low 0) 0), (4, .ptr (.own 4) 0), (5, .ptr (.own 5) 0), (36, .d (.v (.int .i64 k9.1))), (37, .d (.v (.bool (decide (k9.1 = 0)))))] [(3, .cells ((kCore a1).map .d)), (4, .cells [.d (.v (.int .i64 0)), .d (.v (.int .i64 0)), .d (.s []), .d (.v (.int .i64 0)), .d (.sl 1 true (ksInt [])), .d (.v (.int .i64 0)), .d (.s []), .d (.v (.int .i64 0)), .d (.sl 1 true (ksInt [])), .d (.sl 5 true (ksForm [])), .d (.sl 11 true (ksCore []))]), (300080, .tok (ksInt k1.ids).length 3), (300081, .vec 29 11 (ksCore k1.kids)), (5, .cells [.d (.v (.int .i64 k1.kind)), .d (.v (.int .i64 k1.id)), .d (.s k1.name), .d (.v (.int .i64 k1.n)), .gs (.own 300080) 1 (ksInt k1.ids), .d (.v (.int .i64 k1.data.kind)), .d (.s k1.data.name), .d (.v (.int .i64 k1.data.n)), .d (.sl 1 false (ksInt k1.data.scopes)), .d (.sl 5 false (ksForm k1.data.kids)), .vs (.own 300081) 11 ((ksCore k1.kids).length)])] [some (.cells ((kL15Rd k9.2).map .d))] rfl (by kernel_rfl) ?_
          refine WG.condP rfl rfl (fun hc11 => ?_) (fun hc11 => ?_)
          · have h1 := iteP hc11 h1
            obtain ⟨k12, hk12, h1⟩ := bnd h1
            refine WG.reg [.sv (ksInt [0, 8, 3, 6]), .call [.low 0] (.d (.v (.int .i64 k12.1))) [.cells ((kL15Rd k12.2).map .d)]] [] (And.intro (dInt.lit [0, 8, 3, 6]) (And.intro (w28 n _ _ hk12) True.intro)) [(4, .ptr (.own 4) 0), (5, .ptr (.own 5) 0)] [(3, .cells ((kCore a1).map .d)), (4, .cells [.d (.v (.int .i64 0)), .d (.v (.int .i64 0)), .d (.s []), .d (.v (.int .i64 0)), .d (.sl 1 true (ksInt [])), .d (.v (.int .i64 0)), .d (.s []), .d (.v (.int .i64 0)), .d (.sl 1 true (ksInt [])), .d (.sl 5 true (ksForm [])), .d (.sl 11 true (ksCore []))]), (300080, .tok (ksInt k1.ids).length 3), (300081, .vec 29 11 (ksCore k1.kids)), (5, .cells [.d (.v (.int .i64 k12.1)), .d (.v (.int .i64 k1.id)), .d (.s k1.name), .d (.v (.int .i64 k1.n)), .gs (.own 300080) 1 (ksInt k1.ids), .d (.v (.int .i64 k1.data.kind)), .d (.s k1.data.name), .d (.v (.int .i64 k1.data.n)), .d (.sl 1 false (ksInt k1.data.scopes)), .d (.sl 5 false (ksForm k1.data.kids)), .vs (.own 300081) 11 ((ksCore k1.kids).length)])] [some (.cells ((kL15Rd k12.2).map .d))] rfl (by kernel_rfl) ?_
            have e := some_inj' h1
            subst e
            exact WG.leaf hj1 rfl [] rfl rfl rfl
          · have h1 := iteN hc11 h1
            refine WG.reg [] [] True.intro [(0, .ptr (.low 0) 0), (4, .ptr (.own 4) 0), (5, .ptr (.own 5) 0), (36, .d (.v (.int .i64 k9.1))), (43, .d (.v (.bool (decide (k9.1 = 1)))))] [(3, .cells ((kCore a1).map .d)), (4, .cells [.d (.v (.int .i64 0)), .d (.v (.int .i64 0)), .d (.s []), .d (.v (.int .i64 0)), .d (.sl 1 true (ksInt [])), .d (.v (.int .i64 0)), .d (.s []), .d (.v (.int .i64 0)), .d (.sl 1 true (ksInt [])), .d (.sl 5 true (ksForm [])), .d (.sl 11 true (ksCore []))]), (300080, .tok (ksInt k1.ids).length 3), (300081, .vec 29 11 (ksCore k1.kids)), (5, .cells [.d (.v (.int .i64 k1.kind)), .d (.v (.int .i64 k1.id)), .d (.s k1.name), .d (.v (.int .i64 k1.n)), .gs (.own 300080) 1 (ksInt k1.ids), .d (.v (.int .i64 k1.data.kind)), .d (.s k1.data.name), .d (.v (.int .i64 k1.data.n)), .d (.sl 1 false (ksInt k1.data.scopes)), .d (.sl 5 false (ksForm k1.data.kids)), .vs (.own 300081) 11 ((ksCore k1.kids).length)])] [some (.cells ((kL15Rd k9.2).map .d))] rfl (by kernel_rfl) ?_
            refine WG.condP rfl rfl (fun hc13 => ?_) (fun hc13 => ?_)
            · have h1 := iteP hc13 h1
              obtain ⟨k14, hk14, h1⟩ := bnd h1
              refine WG.reg [.sv (ksInt [0, 1, 1000, 2]), .call [.low 0] (.d (.v (.int .i64 k14.1))) [.cells ((kL15Rd k14.2).map .d)]] [] (And.intro (dInt.lit [0, 1, 1000, 2]) (And.intro (w28 n _ _ hk14) True.intro)) [(4, .ptr (.own 4) 0), (5, .ptr (.own 5) 0)] [(3, .cells ((kCore a1).map .d)), (4, .cells [.d (.v (.int .i64 0)), .d (.v (.int .i64 0)), .d (.s []), .d (.v (.int .i64 0)), .d (.sl 1 true (ksInt [])), .d (.v (.int .i64 0)), .d (.s []), .d (.v (.int .i64 0)), .d (.sl 1 true (ksInt [])), .d (.sl 5 true (ksForm [])), .d (.sl 11 true (ksCore []))]), (300080, .tok (ksInt k1.ids).length 3), (300081, .vec 29 11 (ksCore k1.kids)), (5, .cells [.d (.v (.int .i64 k1.kind)), .d (.v (.int .i64 k14.1)), .d (.s k1.name), .d (.v (.int .i64 k1.n)), .gs (.own 300080) 1 (ksInt k1.ids), .d (.v (.int .i64 k1.data.kind)), .d (.s k1.data.name), .d (.v (.int .i64 k1.data.n)), .d (.sl 1 false (ksInt k1.data.scopes)), .d (.sl 5 false (ksForm k1.data.kids)), .vs (.own 300081) 11 ((ksCore k1.kids).length)])] [some (.cells ((kL15Rd k14.2).map .d))] rfl (by kernel_rfl) ?_
              have e := some_inj' h1
              subst e
              exact WG.leaf hj1 rfl [] rfl rfl rfl
            · have h1 := iteN hc13 h1
              refine WG.reg [] [] True.intro [(0, .ptr (.low 0) 0), (4, .ptr (.own 4) 0), (5, .ptr (.own 5) 0), (36, .d (.v (.int .i64 k9.1))), (49, .d (.v (.bool (decide (k9.1 = 2)))))] [(3, .cells ((kCore a1).map .d)), (4, .cells [.d (.v (.int .i64 0)), .d (.v (.int .i64 0)), .d (.s []), .d (.v (.int .i64 0)), .d (.sl 1 true (ksInt [])), .d (.v (.int .i64 0)), .d (.s []), .d (.v (.int .i64 0)), .d (.sl 1 true (ksInt [])), .d (.sl 5 true (ksForm [])), .d (.sl 11 true (ksCore []))]), (300080, .tok (ksInt k1.ids).length 3), (300081, .vec 29 11 (ksCore k1.kids)), (5, .cells [.d (.v (.int .i64 k1.kind)), .d (.v (.int .i64 k1.id)), .d (.s k1.name), .d (.v (.int .i64 k1.n)), .gs (.own 300080) 1 (ksInt k1.ids), .d (.v (.int .i64 k1.data.kind)), .d (.s k1.data.name), .d (.v (.int .i64 k1.data.n)), .d (.sl 1 false (ksInt k1.data.scopes)), .d (.sl 5 false (ksForm k1.data.kids)), .vs (.own 300081) 11 ((ksCore k1.kids).length)])] [some (.cells ((kL15Rd k9.2).map .d))] rfl (by kernel_rfl) ?_
              refine WG.condP rfl rfl (fun hc15 => ?_) (fun hc15 => ?_)
              · have h1 := iteP hc15 h1
                obtain ⟨k16, hk16, h1⟩ := bnd h1
                obtain ⟨z17, hz17, h1⟩ := bnd h1
                refine WG.regD mixed [(3, [.sv (ksInt [1, 900, 0])]), (4, [.call [.low 0] (.d (.v (.int .i64 k16.1))) [.cells ((kL15Rd k16.2).map .d)]]), (5, [.sv (ksInt [k16.1])]), (6, [.sv (ksInt z17)])] [((ksInt k1.ids).length : Int)] (And.intro (dInt.lit [1, 900, 0]) (And.intro (w28 n _ _ hk16) (And.intro (dInt.lit [k16.1]) (And.intro (dInt.ap hz17) True.intro)))) [(4, .ptr (.own 4) 0), (5, .ptr (.own 5) 0)] [(3, .cells ((kCore a1).map .d)), (4, .cells [.d (.v (.int .i64 0)), .d (.v (.int .i64 0)), .d (.s []), .d (.v (.int .i64 0)), .d (.sl 1 true (ksInt [])), .d (.v (.int .i64 0)), .d (.s []), .d (.v (.int .i64 0)), .d (.sl 1 true (ksInt [])), .d (.sl 5 true (ksForm [])), .d (.sl 11 true (ksCore []))]), (300080, .tok (ksInt z17).length 3), (300081, .vec 29 11 (ksCore k1.kids)), (5, .cells [.d (.v (.int .i64 k1.kind)), .d (.v (.int .i64 k1.id)), .d (.s k1.name), .d (.v (.int .i64 k1.n)), .gs (.own 300080) 1 (ksInt z17), .d (.v (.int .i64 k1.data.kind)), .d (.s k1.data.name), .d (.v (.int .i64 k1.data.n)), .d (.sl 1 false (ksInt k1.data.scopes)), .d (.sl 5 false (ksForm k1.data.kids)), .vs (.own 300081) 11 ((ksCore k1.kids).length)])] [some (.cells ((kL15Rd k16.2).map .d))] rfl (by kernel_rfl) ?_
                have e := some_inj' h1
                subst e
                exact WG.leaf hj1 rfl [] rfl rfl rfl
              · have h1 := iteN hc15 h1
                refine WG.reg [] [] True.intro [(0, .ptr (.low 0) 0), (4, .ptr (.own 4) 0), (5, .ptr (.own 5) 0), (59, .d (.v (.bool (decide (k9.1 = 3)))))] [(3, .cells ((kCore a1).map .d)), (4, .cells [.d (.v (.int .i64 0)), .d (.v (.int .i64 0)), .d (.s []), .d (.v (.int .i64 0)), .d (.sl 1 true (ksInt [])), .d (.v (.int .i64 0)), .d (.s []), .d (.v (.int .i64 0)), .d (.sl 1 true (ksInt [])), .d (.sl 5 true (ksForm [])), .d (.sl 11 true (ksCore []))]), (300080, .tok (ksInt k1.ids).length 3), (300081, .vec 29 11 (ksCore k1.kids)), (5, .cells [.d (.v (.int .i64 k1.kind)), .d (.v (.int .i64 k1.id)), .d (.s k1.name), .d (.v (.int .i64 k1.n)), .gs (.own 300080) 1 (ksInt k1.ids), .d (.v (.int .i64 k1.data.kind)), .d (.s k1.data.name), .d (.v (.int .i64 k1.data.n)), .d (.sl 1 false (ksInt k1.data.scopes)), .d (.sl 5 false (ksForm k1.data.kids)), .vs (.own 300081) 11 ((ksCore k1.kids).length)])] [some (.cells ((kL15Rd k9.2).map .d))] rfl (by kernel_rfl) ?_
                refine WG.condP rfl rfl (fun hc18 => ?_) (fun hc18 => ?_)
                · have h1 := iteP hc18 h1
                  obtain ⟨k19, hk19, h1⟩ := bnd h1
                  refine WG.reg [.sv (ksStr [[], [103], [65]]), .call [.low 0] (.d (.s k19.1)) [.cells ((kL15Rd k19.2).map .d)]] [] (And.intro (dStr.lit [[], [103], [65]]) (And.intro (w35 n _ _ hk19) True.intro)) [(4, .ptr (.own 4) 0), (5, .ptr (.own 5) 0)] [(3, .cells ((kCore a1).map .d)), (4, .cells [.d (.v (.int .i64 0)), .d (.v (.int .i64 0)), .d (.s []), .d (.v (.int .i64 0)), .d (.sl 1 true (ksInt [])), .d (.v (.int .i64 0)), .d (.s []), .d (.v (.int .i64 0)), .d (.sl 1 true (ksInt [])), .d (.sl 5 true (ksForm [])), .d (.sl 11 true (ksCore []))]), (300080, .tok (ksInt k1.ids).length 3), (300081, .vec 29 11 (ksCore k1.kids)), (5, .cells [.d (.v (.int .i64 k1.kind)), .d (.v (.int .i64 k1.id)), .d (.s k19.1), .d (.v (.int .i64 k1.n)), .gs (.own 300080) 1 (ksInt k1.ids), .d (.v (.int .i64 k1.data.kind)), .d (.s k1.data.name), .d (.v (.int .i64 k1.data.n)), .d (.sl 1 false (ksInt k1.data.scopes)), .d (.sl 5 false (ksForm k1.data.kids)), .vs (.own 300081) 11 ((ksCore k1.kids).length)])] [some (.cells ((kL15Rd k19.2).map .d))] rfl (by kernel_rfl) ?_
                  have e := some_inj' h1
                  subst e
                  exact WG.leaf hj1 rfl [] rfl rfl rfl
                · have h1 := iteN hc18 h1
                  have e := some_inj' h1
                  subst e
                  exact WG.leaf hj1 rfl [] rfl rfl rfl
    · by_cases g20 : (k1.kids.length : Int) > 0
      · have h1 := iteP g20 h1
        obtain ⟨k21, hk21, h1⟩ := bnd h1
        refine WG.reg [.v (k1.kids.length : Int), .b true, .b true, .call [.low 0] (.d (.v (.int .i64 k21.1))) [.cells ((kL15Rd k21.2).map .d)], .b true, .b true] [] (And.intro (dCore.len' k1.kids) (And.intro (decide_eq_true g20 : decide ((k1.kids.length : Int) > 0) = true) (And.intro (And.intro (decide_eq_true g20 : decide ((k1.kids.length : Int) > 0) = true) (w29 n _ _ hk21)) (And.intro (decide_eq_true g20 : decide ((k1.kids.length : Int) > 0) = true) (And.intro (decide_eq_true g20 : decide ((k1.kids.length : Int) > 0) = true) True.intro))))) [(0, .ptr (.low 0) 0), (4, .ptr (.own 4) 0), (5, .ptr (.own 5) 0), (17, .d (.v (.bool (decide (k21.1 > 0)))))] [(3, .cells ((kCore a1).map .d)), (4, .cells [.d (.v (.int .i64 0)), .d (.v (.int .i64 0)), .d (.s []), .d (.v (.int .i64 0)), .d (.sl 1 true (ksInt [])), .d (.v (.int .i64 0)), .d (.s []), .d (.v (.int .i64 0)), .d (.sl 1 true (ksInt [])), .d (.sl 5 true (ksForm [])), .d (.sl 11 true (ksCore []))]), (300080, .tok (ksInt k1.ids).length 3), (300081, .vec 29 11 (ksCore k1.kids)), (5, .cells [.d (.v (.int .i64 k1.kind)), .d (.v (.int .i64 k1.id)), .d (.s k1.name), .d (.v (.int .i64 k1.n)), .gs (.own 300080) 1 (ksInt k1.ids), .d (.v (.int .i64 k1.data.kind)), .d (.s k1.data.name), .d (.v (.int .i64 k1.data.n)), .d (.sl 1 false (ksInt k1.data.scopes)), .d (.sl 5 false (ksForm k1.data.kids)), .vs (.own 300081) 11 ((ksCore k1.kids).length)])] [some (.cells ((kL15Rd k21.2).map .d))] rfl (by kernel_rfl) ?_
        have e := some_inj' h1
        subst e
        exact WG.leaf hj1 rfl [] rfl rfl rfl
      · have h1 := iteN g20 h1
        refine WG.reg [.v (k1.kids.length : Int), .b false, .b false, .b false, .b false] [] (And.intro (dCore.len' k1.kids) (And.intro (decide_eq_false g20 : decide ((k1.kids.length : Int) > 0) = false) (And.intro (decide_eq_false g20 : decide ((k1.kids.length : Int) > 0) = false) (And.intro (decide_eq_false g20 : decide ((k1.kids.length : Int) > 0) = false) (And.intro (decide_eq_false g20 : decide ((k1.kids.length : Int) > 0) = false) True.intro))))) [(0, .ptr (.low 0) 0), (4, .ptr (.own 4) 0), (5, .ptr (.own 5) 0), (17, .d (.v (.bool false)))] [(3, .cells ((kCore a1).map .d)), (4, .cells [.d (.v (.int .i64 0)), .d (.v (.int .i64 0)), .d (.s []), .d (.v (.int .i64 0)), .d (.sl 1 true (ksInt [])), .d (.v (.int .i64 0)), .d (.s []), .d (.v (.int .i64 0)), .d (.sl 1 true (ksInt [])), .d (.sl 5 true (ksForm [])), .d (.sl 11 true (ksCore []))]), (300080, .tok (ksInt k1.ids).length 3), (300081, .vec 29 11 (ksCore k1.kids)), (5, .cells [.d (.v (.int .i64 k1.kind)), .d (.v (.int .i64 k1.id)), .d (.s k1.name), .d (.v (.int .i64 k1.n)), .gs (.own 300080) 1 (ksInt k1.ids), .d (.v (.int .i64 k1.data.kind)), .d (.s k1.data.name), .d (.v (.int .i64 k1.data.n)), .d (.sl 1 false (ksInt k1.data.scopes)), .d (.sl 5 false (ksForm k1.data.kids)), .vs (.own 300081) 11 ((ksCore k1.kids).length)])] [some (.cells ((kL15Rd o0).map .d))] rfl (by kernel_rfl) ?_
        have e := some_inj' h1
        subst e
        exact WG.leaf hj1 rfl [] rfl rfl rfl
def m14 (n : Nat) (a0 : List UInt8) : Option (Core) :=
  (m26 n a0).bind fun k1 => (m28 n [3, 4, 2] k1).bind fun k2 => (m27 n [] k2.1 0 k2.2).bind fun k3 => (m29 n 8 k3.2.2).bind fun k4 => (if k4.1 = 0 then (m30 n k3.1 k4.2).bind fun k6 => (m30 n k6.1 k6.2).bind fun k7 => some k7.1 else some k3.1)
theorem w14 (n : Nat) : ∀ (a0 : List UInt8) {r : Core}, m14 n a0 = some r → SCall X.E 14 [.d (.sl 1 false (ksByte a0))] [] (.d (.agg (kCore r))) [] := by
  intro a0 r h0
  rw [m14] at h0
  refine SCall.mk Try.func14 rfl rfl rfl rfl [(0, .d (.sl 1 false (ksByte a0)))] rfl rfl rfl (fun L ks low K hl hL hlen hK => ?_)
  refine WG.reg [] [] True.intro [(0, .d (.sl 1 false (ksByte a0))), (2, .ptr (.own 2) 0)] [(2, .cells [.d (.v (.int .i64 0)), .d (.v (.int .i64 0)), .d (.s []), .d (.v (.int .i64 0)), .d (.sl 1 true (ksInt [])), .d (.v (.int .i64 0)), .d (.s []), .d (.v (.int .i64 0)), .d (.sl 1 true (ksInt [])), .d (.sl 5 true (ksForm [])), .d (.sl 11 true (ksCore []))])] [] rfl (by kernel_rfl) ?_
  obtain ⟨k1, hk1, h0⟩ := bnd h0
  refine WG.reg [.call [.own 200007] (.ptr (.low 0) 0) [.cells ((kL15Rd k1).map .d)]] [] (And.intro (w26 n _ hk1) True.intro) [(2, .ptr (.own 2) 0), (3, .ptr (.own 200007) 0)] [(2, .cells [.d (.v (.int .i64 0)), .d (.v (.int .i64 0)), .d (.s []), .d (.v (.int .i64 0)), .d (.sl 1 true (ksInt [])), .d (.v (.int .i64 0)), .d (.s []), .d (.v (.int .i64 0)), .d (.sl 1 true (ksInt [])), .d (.sl 5 true (ksForm [])), .d (.sl 11 true (ksCore []))]), (200007, .cells ((kL15Rd k1).map .d))] [] rfl (by kernel_rfl) ?_
  obtain ⟨k2, hk2, h0⟩ := bnd h0
  obtain ⟨k3, hk3, h0⟩ := bnd h0
  refine WG.reg [.sv (ksInt []), .sv (ksInt [3, 4, 2]), .call [.own 200007] (.d (.v (.int .i64 k2.1))) [.cells ((kL15Rd k2.2).map .d)], .call [.own 200007] (.tup [.d (.agg (kCore k3.1)), .d (.v (.int .i64 k3.2.1))]) [.cells ((kL15Rd k3.2.2).map .d)]] [] (And.intro (dInt.lit []) (And.intro (dInt.lit [3, 4, 2]) (And.intro (w28 n _ _ hk2) (And.intro (w27 n _ _ _ _ hk3) True.intro)))) [(2, .ptr (.own 2) 0), (3, .ptr (.own 200007) 0), (4, .ptr (.own 4) 0)] [(2, .cells [.d (.v (.int .i64 0)), .d (.v (.int .i64 0)), .d (.s []), .d (.v (.int .i64 0)), .d (.sl 1 true (ksInt [])), .d (.v (.int .i64 0)), .d (.s []), .d (.v (.int .i64 0)), .d (.sl 1 true (ksInt [])), .d (.sl 5 true (ksForm [])), .d (.sl 11 true (ksCore []))]), (200007, .cells ((kL15Rd k3.2.2).map .d)), (4, .cells ((kCore k3.1).map .d))] [] rfl (by kernel_rfl) ?_
  obtain ⟨k4, hk4, h0⟩ := bnd h0
  refine WG.reg [.call [.own 200007] (.d (.v (.int .i64 k4.1))) [.cells ((kL15Rd k4.2).map .d)]] [] (And.intro (w29 n _ _ hk4) True.intro) [(2, .ptr (.own 2) 0), (3, .ptr (.own 200007) 0), (4, .ptr (.own 4) 0), (19, .d (.v (.bool (decide (k4.1 = 0)))))] [(2, .cells [.d (.v (.int .i64 0)), .d (.v (.int .i64 0)), .d (.s []), .d (.v (.int .i64 0)), .d (.sl 1 true (ksInt [])), .d (.v (.int .i64 0)), .d (.s []), .d (.v (.int .i64 0)), .d (.sl 1 true (ksInt [])), .d (.sl 5 true (ksForm [])), .d (.sl 11 true (ksCore []))]), (200007, .cells ((kL15Rd k4.2).map .d)), (4, .cells ((kCore k3.1).map .d))] [] rfl (by kernel_rfl) ?_
  refine WG.condP rfl rfl (fun hc5 => ?_) (fun hc5 => ?_)
  · have h0 := iteP hc5 h0
    obtain ⟨k6, hk6, h0⟩ := bnd h0
    obtain ⟨k7, hk7, h0⟩ := bnd h0
    refine WG.reg [.call [.own 200007] (.d (.agg (kCore k6.1))) [.cells ((kL15Rd k6.2).map .d)], .call [.own 200007] (.d (.agg (kCore k7.1))) [.cells ((kL15Rd k7.2).map .d)]] [] (And.intro (w30 n _ _ hk6) (And.intro (w30 n _ _ hk7) True.intro)) [(2, .ptr (.own 2) 0)] [(2, .cells ((kCore k7.1).map .d)), (200007, .cells ((kL15Rd k7.2).map .d)), (4, .cells ((kCore k3.1).map .d))] [] rfl (by kernel_rfl) ?_
    have e := some_inj' h0
    subst e
    exact WG.ret rfl rfl (by kernel_rfl) hK
  · have h0 := iteN hc5 h0
    refine WG.reg [] [] True.intro [(2, .ptr (.own 2) 0)] [(2, .cells ((kCore k3.1).map .d)), (200007, .cells ((kL15Rd k4.2).map .d)), (4, .cells ((kCore k3.1).map .d))] [] rfl (by kernel_rfl) ?_
    have e := some_inj' h0
    subst e
    exact WG.ret rfl rfl (by kernel_rfl) hK
def m6 (n : Nat) (a0 : List UInt8) : Option (Core) :=
  (m14 n a0).bind fun k1 => some k1
theorem w6 (n : Nat) : ∀ (a0 : List UInt8) {r : Core}, m6 n a0 = some r → SCall X.E 6 [.d (.sl 1 false (ksByte a0))] [] (.d (.agg (kCore r))) [] := by
  intro a0 r h0
  rw [m6] at h0
  refine SCall.mk Try.func6 rfl rfl rfl rfl [(0, .d (.sl 1 false (ksByte a0)))] rfl rfl rfl (fun L ks low K hl hL hlen hK => ?_)
  refine WG.reg [] [] True.intro [(0, .d (.sl 1 false (ksByte a0))), (2, .ptr (.own 2) 0)] [(2, .cells [.d (.v (.int .i64 0)), .d (.v (.int .i64 0)), .d (.s []), .d (.v (.int .i64 0)), .d (.sl 1 true (ksInt [])), .d (.v (.int .i64 0)), .d (.s []), .d (.v (.int .i64 0)), .d (.sl 1 true (ksInt [])), .d (.sl 5 true (ksForm [])), .d (.sl 11 true (ksCore []))])] [] rfl (by kernel_rfl) ?_
  obtain ⟨k1, hk1, h0⟩ := bnd h0
  refine WG.reg [.call [] (.d (.agg (kCore k1))) []] [] (And.intro (w14 n _ hk1) True.intro) [(2, .ptr (.own 2) 0)] [(2, .cells ((kCore k1).map .d))] [] rfl (by kernel_rfl) ?_
  have e := some_inj' h0
  subst e
  exact WG.ret rfl rfl (by kernel_rfl) hK
def m7 : Nat → Core → Option (Int)
  | 0, _ => none
  | n + 1, a0 => Option.bind (forL (fun (s3 : Int) (i2 : Nat) (x5 : Core) => (m7 n x5).bind fun k10 => some (if k10 > s3 then k10 else s3)) 0 a0.kids 0) (fun (s3 : Int) => Option.bind ((if a0.kind = 5 then some (w64 (s3 + 1)) else some s3) : Option (Int)) (fun (o11 : Int) => some o11))
theorem w7 (n : Nat) : ∀ (a0 : Core) {r : Int}, m7 n a0 = some r → SCall X.E 7 [.d (.agg (kCore a0))] [] (.d (.v (.int .i64 r))) [] := by
  induction n with
  | zero => intro a0 r h; cases h
  | succ n ih =>
    intro a0 r h0
    rw [m7] at h0
    refine SCall.mk Try.func7 rfl rfl rfl rfl [(0, .d (.agg (kCore a0)))] rfl rfl rfl (fun L ks low K hl hL hlen hK => ?_)
    refine WG.reg [] [] True.intro [(1, .ptr (.own 1) 0)] [(1, .cells ((kCore a0).map .d))] [] rfl (by kernel_rfl) ?_
    refine WG.reg [] [] True.intro [(1, .ptr (.own 1) 0), (3, .d (.v (.int .i64 0)))] [(1, .cells ((kCore a0).map .d))] [] rfl (by kernel_rfl) ?_
    refine WG.reg [.v (a0.kids.length : Int)] [] (And.intro (dCore.len' a0.kids) True.intro) [(1, .ptr (.own 1) 0), (3, .d (.v (.int .i64 0))), (7, .d (.sl 11 false (ksCore a0.kids))), (8, .d (.v (.int .i64 (a0.kids.length : Int)))), (9, .d (.v (.int .i64 0)))] [(1, .cells ((kCore a0).map .d))] [] rfl (by kernel_rfl) ?_
    refine WG.slLen 7 rfl (fun hb1 => ?_)
    rw [dCore.length] at hb1
    refine WG.listL h0 rfl (fun i2 s3 => [(1, .ptr (.own 1) 0), (3, .d (.v (.int .i64 s3))), (7, .d (.sl 11 false (ksCore a0.kids))), (8, .d (.v (.int .i64 (a0.kids.length : Int)))), (9, .d (.v (.int .i64 (i2 : Int))))]) (fun i2 s3 => [(1, .cells ((kCore a0).map .d))]) (fun i2 s3 => []) [] rfl rfl rfl (fun i2 s3 q4 hd6 hi8 h0 => ?_)
    refine WG.reg [] [] True.intro [(1, .ptr (.own 1) 0), (3, .d (.v (.int .i64 s3))), (7, .d (.sl 11 false (ksCore a0.kids))), (8, .d (.v (.int .i64 (a0.kids.length : Int)))), (9, .d (.v (.int .i64 (i2 : Int)))), (10, .d (.v (.bool (decide ((i2 : Int) < (a0.kids.length : Int))))))] [(1, .cells ((kCore a0).map .d))] [] rfl (by kernel_rfl) ?_
    refine WG.condP rfl rfl (fun hc9 => ?_) (fun hc9 => ?_)
    · obtain ⟨x5, q42, rfl, hx5, hd7⟩ := drop_cons' hd6 (by omega)
      obtain ⟨y1, h1, hn1⟩ := forL_cons h0
      refine WG.reg [.cs (kCore x5)] [] (And.intro (dCore.idn hx5) True.intro) [(1, .ptr (.own 1) 0), (3, .d (.v (.int .i64 s3))), (5, .ptr (.own 5) 0), (7, .d (.sl 11 false (ksCore a0.kids))), (8, .d (.v (.int .i64 (a0.kids.length : Int)))), (9, .d (.v (.int .i64 (i2 : Int))))] [(1, .cells ((kCore a0).map .d)), (5, .cells ((kCore x5).map .d))] [] rfl (by kernel_rfl) ?_
      obtain ⟨k10, hk10, h1⟩ := bnd h1
      refine WG.reg [.call [] (.d (.v (.int .i64 k10))) []] [] (And.intro (ih _ hk10) True.intro) [(1, .ptr (.own 1) 0), (3, .d (.v (.int .i64 (if k10 > s3 then k10 else s3)))), (7, .d (.sl 11 false (ksCore a0.kids))), (8, .d (.v (.int .i64 (a0.kids.length : Int)))), (9, .d (.v (.int .i64 (i2 : Int))))] [(1, .cells ((kCore a0).map .d)), (5, .cells ((kCore x5).map .d))] [] rfl (by kernel_rfl) ?_
      refine WG.reg [.v ((i2 + 1 : Nat) : Int)] [] (And.intro (wn (i := i2) (by omega)) True.intro) [(1, .ptr (.own 1) 0), (3, .d (.v (.int .i64 (if k10 > s3 then k10 else s3)))), (7, .d (.sl 11 false (ksCore a0.kids))), (8, .d (.v (.int .i64 (a0.kids.length : Int)))), (9, .d (.v (.int .i64 ((i2 + 1 : Nat) : Int))))] [(1, .cells ((kCore a0).map .d)), (5, .cells ((kCore x5).map .d))] [] rfl (by kernel_rfl) ?_
      have e := some_inj' h1
      subst e
      refine WG.less [] [(1, .ptr (.own 1) 0), (3, .d (.v (.int .i64 (if k10 > s3 then k10 else s3)))), (7, .d (.sl 11 false (ksCore a0.kids))), (8, .d (.v (.int .i64 (a0.kids.length : Int)))), (9, .d (.v (.int .i64 ((i2 + 1 : Nat) : Int))))] rfl ?_
      refine WG.drop 5 rfl rfl ?_
      exact WG.nextL rfl (i2 + 1) _ hd7 (by omega) hn1 [] rfl rfl rfl
    · obtain rfl := drop_nil' hd6 (by omega)
      have h0 := forL_nil h0
      refine WG.reg [] [] True.intro [(3, .d (.v (.int .i64 s3))), (20, .d (.v (.bool (decide (a0.kind = 5)))))] [(1, .cells ((kCore a0).map .d))] [] rfl (by kernel_rfl) ?_
      refine WG.bindP h0 rfl (fun o11 => [(3, .d (.v (.int .i64 o11)))]) (fun o11 => [(1, .cells ((kCore a0).map .d))]) (fun o11 => []) (fun o11 h0 => ?_) (fun y1 h1 hj1 => ?_)
      · refine WG.reg [] [] True.intro [(2, .d (.v (.int .i64 o11)))] [(1, .cells ((kCore a0).map .d))] [] rfl (by kernel_rfl) ?_
        have e := some_inj' h0
        subst e
        exact WG.ret rfl rfl (by kernel_rfl) hK
      · refine WG.condP rfl rfl (fun hc12 => ?_) (fun hc12 => ?_)
        · have h1 := iteP hc12 h1
          refine WG.reg [.pl] [] True.intro [(3, .d (.v (.int .i64 (w64 (s3 + 1)))))] [(1, .cells ((kCore a0).map .d))] [] rfl (by kernel_rfl) ?_
          have e := some_inj' h1
          subst e
          exact WG.leaf hj1 rfl [] rfl rfl rfl
        · have h1 := iteN hc12 h1
          have e := some_inj' h1
          subst e
          exact WG.leaf hj1 rfl [] rfl rfl rfl
def m8 : Nat → Core → Option (Int)
  | 0, _ => none
  | n + 1, a0 => Option.bind (forL (fun (s2 : Int) (i1 : Nat) (x4 : Core) => Option.bind ((m8 n x4).bind fun k11 => (if k11 > s2 then some k11 else some s2) : Option (Int)) (fun (o10 : Int) => some o10)) 0 a0.kids 0) (fun (s2 : Int) => (if a0.kind = 5 then some (w64 (s2 + 1)) else some s2))
theorem w8 (n : Nat) : ∀ (a0 : Core) {r : Int}, m8 n a0 = some r → SCall X.E 8 [.d (.agg (kCore a0))] [] (.d (.v (.int .i64 r))) [] := by
  induction n with
  | zero => intro a0 r h; cases h
  | succ n ih =>
    intro a0 r h0
    rw [m8] at h0
    refine SCall.mk Try.func8 rfl rfl rfl rfl [(0, .d (.agg (kCore a0)))] rfl rfl rfl (fun L ks low K hl hL hlen hK => ?_)
    refine WG.reg [] [] True.intro [(1, .ptr (.own 1) 0)] [(1, .cells ((kCore a0).map .d))] [] rfl (by kernel_rfl) ?_
    refine WG.reg [] [] True.intro [(1, .ptr (.own 1) 0), (3, .d (.v (.int .i64 0)))] [(1, .cells ((kCore a0).map .d))] [] rfl (by kernel_rfl) ?_
    refine WG.reg [] [] True.intro [(1, .ptr (.own 1) 0), (3, .d (.v (.int .i64 0))), (4, .d (.v (.int .i64 0)))] [(1, .cells ((kCore a0).map .d))] [] rfl (by kernel_rfl) ?_
    refine WG.listL h0 rfl (fun i1 s2 => [(1, .ptr (.own 1) 0), (3, .d (.v (.int .i64 s2))), (4, .d (.v (.int .i64 (i1 : Int))))]) (fun i1 s2 => [(1, .cells ((kCore a0).map .d))]) (fun i1 s2 => []) [] rfl rfl rfl (fun i1 s2 q3 hd5 hi7 h0 => ?_)
    refine WG.reg [.v (a0.kids.length : Int)] [] (And.intro (dCore.len' a0.kids) True.intro) [(1, .ptr (.own 1) 0), (3, .d (.v (.int .i64 s2))), (4, .d (.v (.int .i64 (i1 : Int)))), (8, .d (.sl 11 false (ksCore a0.kids))), (10, .d (.v (.bool (decide ((i1 : Int) < (a0.kids.length : Int))))))] [(1, .cells ((kCore a0).map .d))] [] rfl (by kernel_rfl) ?_
    refine WG.slLen 8 rfl (fun hb8 => ?_)
    rw [dCore.length] at hb8
    refine WG.condP rfl rfl (fun hc9 => ?_) (fun hc9 => ?_)
    · obtain ⟨x4, q32, rfl, hx4, hd6⟩ := drop_cons' hd5 (by omega)
      obtain ⟨y1, h1, hn1⟩ := forL_cons h0
      refine WG.bindPB h1 rfl (fun o10 => [(1, .ptr (.own 1) 0), (3, .d (.v (.int .i64 o10))), (4, .d (.v (.int .i64 (i1 : Int))))]) (fun o10 => [(1, .cells ((kCore a0).map .d))]) (fun o10 => []) (fun o10 h1 => ?_) (fun y2 h2 hj2 => ?_)
      · refine WG.reg [.v ((i1 + 1 : Nat) : Int)] [] (And.intro (wn (i := i1) (by omega)) True.intro) [(1, .ptr (.own 1) 0), (3, .d (.v (.int .i64 o10))), (4, .d (.v (.int .i64 ((i1 + 1 : Nat) : Int))))] [(1, .cells ((kCore a0).map .d))] [] rfl (by kernel_rfl) ?_
        have e := some_inj' h1
        subst e
        exact WG.nextL rfl (i1 + 1) _ hd6 (by omega) hn1 [] rfl rfl rfl
      · obtain ⟨k11, hk11, h2⟩ := bnd h2
        refine WG.reg [.cs (kCore x4), .call [] (.d (.v (.int .i64 k11))) []] [] (And.intro (dCore.idn hx4) (And.intro (ih _ hk11) True.intro)) [(1, .ptr (.own 1) 0), (3, .d (.v (.int .i64 s2))), (4, .d (.v (.int .i64 (i1 : Int)))), (5, .d (.v (.int .i64 k11)))] [(1, .cells ((kCore a0).map .d))] [] rfl (by kernel_rfl) ?_
        refine WG.reg [] [] True.intro [(1, .ptr (.own 1) 0), (3, .d (.v (.int .i64 s2))), (4, .d (.v (.int .i64 (i1 : Int)))), (5, .d (.v (.int .i64 k11))), (21, .d (.v (.bool (decide (k11 > s2)))))] [(1, .cells ((kCore a0).map .d))] [] rfl (by kernel_rfl) ?_
        refine WG.condP rfl rfl (fun hc12 => ?_) (fun hc12 => ?_)
        · have h2 := iteP hc12 h2
          refine WG.reg [] [] True.intro [(1, .ptr (.own 1) 0), (3, .d (.v (.int .i64 k11))), (4, .d (.v (.int .i64 (i1 : Int))))] [(1, .cells ((kCore a0).map .d))] [] rfl (by kernel_rfl) ?_
          have e := some_inj' h2
          subst e
          exact WG.leaf hj2 rfl [] rfl rfl rfl
        · have h2 := iteN hc12 h2
          have e := some_inj' h2
          subst e
          exact WG.leaf hj2 rfl [] rfl rfl rfl
    · obtain rfl := drop_nil' hd5 (by omega)
      have h0 := forL_nil h0
      refine WG.reg [] [] True.intro [(3, .d (.v (.int .i64 s2))), (25, .d (.v (.bool (decide (a0.kind = 5)))))] [(1, .cells ((kCore a0).map .d))] [] rfl (by kernel_rfl) ?_
      refine WG.condP rfl rfl (fun hc13 => ?_) (fun hc13 => ?_)
      · have h0 := iteP hc13 h0
        refine WG.reg [.pl] [] True.intro [(2, .d (.v (.int .i64 (w64 (s2 + 1)))))] [(1, .cells ((kCore a0).map .d))] [] rfl (by kernel_rfl) ?_
        have e := some_inj' h0
        subst e
        exact WG.ret rfl rfl (by kernel_rfl) hK
      · have h0 := iteN hc13 h0
        refine WG.reg [] [] True.intro [(2, .d (.v (.int .i64 s2)))] [(1, .cells ((kCore a0).map .d))] [] rfl (by kernel_rfl) ?_
        have e := some_inj' h0
        subst e
        exact WG.ret rfl rfl (by kernel_rfl) hK
def m3 (n : Nat) (a0 : List UInt8) : Option (Bool) :=
  (if (a0.length : Int) > 1048576 then some true else (m6 n a0).bind fun k3 => (m7 n k3).bind fun k4 => (m8 n k3).bind fun k5 => (if ¬ k4 = k5 then some false else Option.bind (forL (fun (s8 : Int) (i7 : Nat) (x10 : Core) => Option.bind ((m7 n x10).bind fun k17 => (if k17 > s8 then some k17 else some s8) : Option (Int)) (fun (o16 : Int) => some o16)) 0 k3.kids 0) (fun (s8 : Int) => (if k3.kind = 5 then some (decide (k4 = (w64 (s8 + 1)))) else some (decide (k4 = s8))))))
theorem w3 (n : Nat) : ∀ (a0 : List UInt8) {r : Bool}, m3 n a0 = some r → SCall X.E 3 [.d (.sl 1 false (ksByte a0))] [] (.d (.v (.bool r))) [] := by
  intro a0 r h0
  rw [m3] at h0
  refine SCall.mk Try.func3 rfl rfl rfl rfl [(0, .d (.sl 1 false (ksByte a0)))] rfl rfl rfl (fun L ks low K hl hL hlen hK => ?_)
  refine WG.reg [] [] True.intro [(0, .d (.sl 1 false (ksByte a0)))] [] [] rfl (by kernel_rfl) ?_
  refine WG.reg [.v (a0.length : Int)] [] (And.intro (dByte.len' a0) True.intro) [(0, .d (.sl 1 false (ksByte a0))), (10, .d (.v (.bool (decide ((a0.length : Int) > 1048576)))))] [] [] rfl (by kernel_rfl) ?_
  refine WG.slLen 0 rfl (fun hb1 => ?_)
  rw [dByte.length] at hb1
  refine WG.condP rfl rfl (fun hc2 => ?_) (fun hc2 => ?_)
  · have h0 := iteP hc2 h0
    refine WG.reg [] [] True.intro [(2, .d (.v (.bool true)))] [] [] rfl (by kernel_rfl) ?_
    have e := some_inj' h0
    subst e
    exact WG.ret rfl rfl (by kernel_rfl) hK
  · have h0 := iteN hc2 h0
    obtain ⟨k3, hk3, h0⟩ := bnd h0
    refine WG.reg [.call [] (.d (.agg (kCore k3))) []] [] (And.intro (w6 n _ hk3) True.intro) [(3, .ptr (.own 3) 0)] [(3, .cells ((kCore k3).map .d))] [] rfl (by kernel_rfl) ?_
    obtain ⟨k4, hk4, h0⟩ := bnd h0
    refine WG.reg [.call [] (.d (.v (.int .i64 k4))) []] [] (And.intro (w7 n _ hk4) True.intro) [(3, .ptr (.own 3) 0), (4, .d (.v (.int .i64 k4)))] [(3, .cells ((kCore k3).map .d))] [] rfl (by kernel_rfl) ?_
    obtain ⟨k5, hk5, h0⟩ := bnd h0
    refine WG.reg [.call [] (.d (.v (.int .i64 k5))) []] [] (And.intro (w8 n _ hk5) True.intro) [(3, .ptr (.own 3) 0), (4, .d (.v (.int .i64 k4))), (18, .d (.v (.bool (decide (¬ k4 = k5)))))] [(3, .cells ((kCore k3).map .d))] [] rfl (by kernel_rfl) ?_
    refine WG.condP rfl rfl (fun hc6 => ?_) (fun hc6 => ?_)
    · have h0 := iteP hc6 h0
      refine WG.reg [] [] True.intro [(2, .d (.v (.bool false)))] [(3, .cells ((kCore k3).map .d))] [] rfl (by kernel_rfl) ?_
      have e := some_inj' h0
      subst e
      exact WG.ret rfl rfl (by kernel_rfl) hK
    · have h0 := iteN hc6 h0
      refine WG.reg [] [] True.intro [(3, .ptr (.own 3) 0), (4, .d (.v (.int .i64 k4))), (5, .d (.v (.int .i64 0)))] [(3, .cells ((kCore k3).map .d))] [] rfl (by kernel_rfl) ?_
      refine WG.reg [] [] True.intro [(3, .ptr (.own 3) 0), (4, .d (.v (.int .i64 k4))), (5, .d (.v (.int .i64 0))), (6, .d (.v (.int .i64 0)))] [(3, .cells ((kCore k3).map .d))] [] rfl (by kernel_rfl) ?_
      refine WG.listL h0 rfl (fun i7 s8 => [(3, .ptr (.own 3) 0), (4, .d (.v (.int .i64 k4))), (5, .d (.v (.int .i64 s8))), (6, .d (.v (.int .i64 (i7 : Int))))]) (fun i7 s8 => [(3, .cells ((kCore k3).map .d))]) (fun i7 s8 => []) [] rfl rfl rfl (fun i7 s8 q9 hd11 hi13 h0 => ?_)
      refine WG.reg [.v (k3.kids.length : Int)] [] (And.intro (dCore.len' k3.kids) True.intro) [(3, .ptr (.own 3) 0), (4, .d (.v (.int .i64 k4))), (5, .d (.v (.int .i64 s8))), (6, .d (.v (.int .i64 (i7 : Int)))), (21, .d (.sl 11 false (ksCore k3.kids))), (23, .d (.v (.bool (decide ((i7 : Int) < (k3.kids.length : Int))))))] [(3, .cells ((kCore k3).map .d))] [] rfl (by kernel_rfl) ?_
      refine WG.slLen 21 rfl (fun hb14 => ?_)
      rw [dCore.length] at hb14
      refine WG.condP rfl rfl (fun hc15 => ?_) (fun hc15 => ?_)
      · obtain ⟨x10, q92, rfl, hx10, hd12⟩ := drop_cons' hd11 (by omega)
        obtain ⟨y1, h1, hn1⟩ := forL_cons h0
        refine WG.bindPB h1 rfl (fun o16 => [(3, .ptr (.own 3) 0), (4, .d (.v (.int .i64 k4))), (5, .d (.v (.int .i64 o16))), (6, .d (.v (.int .i64 (i7 : Int))))]) (fun o16 => [(3, .cells ((kCore k3).map .d))]) (fun o16 => []) (fun o16 h1 => ?_) (fun y2 h2 hj2 => ?_)
        · refine WG.reg [.v ((i7 + 1 : Nat) : Int)] [] (And.intro (wn (i := i7) (by omega)) True.intro) [(3, .ptr (.own 3) 0), (4, .d (.v (.int .i64 k4))), (5, .d (.v (.int .i64 o16))), (6, .d (.v (.int .i64 ((i7 + 1 : Nat) : Int))))] [(3, .cells ((kCore k3).map .d))] [] rfl (by kernel_rfl) ?_
          have e := some_inj' h1
          subst e
          exact WG.nextL rfl (i7 + 1) _ hd12 (by omega) hn1 [] rfl rfl rfl
        · obtain ⟨k17, hk17, h2⟩ := bnd h2
          refine WG.reg [.cs (kCore x10), .call [] (.d (.v (.int .i64 k17))) []] [] (And.intro (dCore.idn hx10) (And.intro (w7 n _ hk17) True.intro)) [(3, .ptr (.own 3) 0), (4, .d (.v (.int .i64 k4))), (5, .d (.v (.int .i64 s8))), (6, .d (.v (.int .i64 (i7 : Int)))), (7, .d (.v (.int .i64 k17)))] [(3, .cells ((kCore k3).map .d))] [] rfl (by kernel_rfl) ?_
          refine WG.reg [] [] True.intro [(3, .ptr (.own 3) 0), (4, .d (.v (.int .i64 k4))), (5, .d (.v (.int .i64 s8))), (6, .d (.v (.int .i64 (i7 : Int)))), (7, .d (.v (.int .i64 k17))), (34, .d (.v (.bool (decide (k17 > s8)))))] [(3, .cells ((kCore k3).map .d))] [] rfl (by kernel_rfl) ?_
          refine WG.condP rfl rfl (fun hc18 => ?_) (fun hc18 => ?_)
          · have h2 := iteP hc18 h2
            refine WG.reg [] [] True.intro [(3, .ptr (.own 3) 0), (4, .d (.v (.int .i64 k4))), (5, .d (.v (.int .i64 k17))), (6, .d (.v (.int .i64 (i7 : Int))))] [(3, .cells ((kCore k3).map .d))] [] rfl (by kernel_rfl) ?_
            have e := some_inj' h2
            subst e
            exact WG.leaf hj2 rfl [] rfl rfl rfl
          · have h2 := iteN hc18 h2
            have e := some_inj' h2
            subst e
            exact WG.leaf hj2 rfl [] rfl rfl rfl
      · obtain rfl := drop_nil' hd11 (by omega)
        have h0 := forL_nil h0
        refine WG.reg [] [] True.intro [(4, .d (.v (.int .i64 k4))), (5, .d (.v (.int .i64 s8))), (38, .d (.v (.bool (decide (k3.kind = 5)))))] [(3, .cells ((kCore k3).map .d))] [] rfl (by kernel_rfl) ?_
        refine WG.condP rfl rfl (fun hc19 => ?_) (fun hc19 => ?_)
        · have h0 := iteP hc19 h0
          refine WG.reg [.pl] [] True.intro [(2, .d (.v (.bool (decide (k4 = (w64 (s8 + 1)))))))] [(3, .cells ((kCore k3).map .d))] [] rfl (by kernel_rfl) ?_
          have e := some_inj' h0
          subst e
          exact WG.ret rfl rfl (by kernel_rfl) hK
        · have h0 := iteN hc19 h0
          refine WG.reg [] [] True.intro [(2, .d (.v (.bool (decide (k4 = s8)))))] [(3, .cells ((kCore k3).map .d))] [] rfl (by kernel_rfl) ?_
          have e := some_inj' h0
          subst e
          exact WG.ret rfl rfl (by kernel_rfl) hK
end Go.Ev
