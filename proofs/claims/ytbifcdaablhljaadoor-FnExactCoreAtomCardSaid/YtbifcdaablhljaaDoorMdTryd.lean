/- Models of functions. No condition. -/
import Derived.Test.YtbifcdaablhljaaDoorEvTwo
import Derived.Test.YtbifcdaablhljaaDoorProg
import Derived.KernelRfl
namespace Go.Ev
open Go.Proofs Go.Mx
set_option linter.unusedVariables false
set_option maxRecDepth 10000
def tT : List (Nat × (Nat × Nat × Shp)) := [(3, (1, 8, .int .i64)), (4, (1, 1, .bool)), (9, (1, 16, .str)), (25, (1, 24, .slice 9)), (30, (1, 24, .slice 3)), (31, (1, 24, .slice 33)), (33, (5, 80, .struct [(0, 1), (1, 1), (2, 1), (3, 1), (4, 1)])), (34, (1, 24, .slice 36)), (36, (11, 168, .struct [(0, 1), (1, 1), (2, 1), (3, 1), (4, 1), (5, 5), (10, 1)])), (39, (1, 24, .slice 41)), (41, (5, 80, .struct [(0, 1), (1, 1), (2, 1), (3, 1), (4, 1)])), (42, (1, 24, .slice 44)), (44, (11, 168, .struct [(0, 1), (1, 1), (2, 1), (3, 1), (4, 1), (5, 5), (10, 1)])), (80, (6, 96, .array 6 9))]
def tZ : List (Nat × List KD) := [(3, [.v (.int .i64 0)]), (9, [.s []]), (41, [.v (.int .i64 0), .s [], .v (.int .i64 0), .sl 1 true (ksInt []), .sl 5 true (ksForm [])]), (44, [.v (.int .i64 0), .v (.int .i64 0), .s [], .v (.int .i64 0), .sl 1 true (ksInt []), .v (.int .i64 0), .s [], .v (.int .i64 0), .sl 1 true (ksInt []), .sl 5 true (ksForm []), .sl 11 true (ksCore [])])]
theorem tT_ok : allT (fun i x => tShape Tryd.prog i = some x) tT := by
  refine ⟨?_, ?_, ?_, ?_, ?_, ?_, ?_, ?_, ?_, ?_, ?_, ?_, ?_, ?_, trivial⟩ <;> (show tShape _ _ = _; kernel_rfl)
theorem tZ_ok : allT (fun i x => ∃ zs, tZero Tryd.prog i = some zs ∧ ZeroL (KD.DL x) zs) tZ :=
  ⟨⟨_, (by kernel_rfl : tZero Tryd.prog 3 = some [.int .i64 0]), (.v .nil)⟩, ⟨_, (by kernel_rfl : tZero Tryd.prog 9 = some [.string (mkS [])]), (.v .nil)⟩, ⟨_, (by kernel_rfl : tZero Tryd.prog 41 = some [.int .i64 0, .string (mkS []), .int .i64 0, .slice none 0 0, .slice none 0 0]), (.v (.v (.v (.sl (.sl .nil)))))⟩, ⟨_, (by kernel_rfl : tZero Tryd.prog 44 = some [.int .i64 0, .int .i64 0, .string (mkS []), .int .i64 0, .slice none 0 0, .int .i64 0, .string (mkS []), .int .i64 0, .slice none 0 0, .slice none 0 0, .slice none 0 0]), (.v (.v (.v (.v (.sl (.v (.v (.v (.sl (.sl (.sl .nil)))))))))))⟩, trivial⟩
def lp2 : List (List UInt8) := [[108, 105, 115, 116], [43], [60], [61], [104, 101, 97, 100], [116, 97, 105, 108]]
def gp2 : List KD := [.s [108, 105, 115, 116], .s [43], .s [60], .s [61], .s [104, 101, 97, 100], .s [116, 97, 105, 108]]
def globK : Nat → KD
  | 2 => .ro gp2
  | _ => .any
noncomputable def E0 : Setting := ⟨Tryd.prog, fun g => (globK g).D, fun g => KD.keyless _ _⟩
noncomputable def X : Ctx := ⟨E0, globK, fun _ => rfl, ⟨lkT tT, lkT tZ, lk_all tT_ok, lk_all tZ_ok⟩⟩
theorem mixed : X.E.P.follows .mixedOrders = true := by kernel_rfl
def m45 (n : Nat) (a0 : List Int) (a1 : Int) : Option (Int) :=
  (if (w64 (a1 - (a0.length : Int))) < 0 then some (-1) else some (w64 (a1 - (a0.length : Int))))
theorem w45 (n : Nat) : ∀ (a0 : List Int) (a1 : Int) {r : Int}, m45 n a0 a1 = some r → SCall X.E 45 [.d (.sl 1 false (ksInt a0)), .d (.v (.int .i64 a1))] [] (.d (.v (.int .i64 r))) [] := by
  intro a0 a1 r h0
  rw [m45] at h0
  refine SCall.mk Tryd.func45 rfl rfl rfl rfl [(0, .d (.sl 1 false (ksInt a0))), (1, .d (.v (.int .i64 a1)))] rfl rfl rfl (fun L ks low K hl hL hlen hK => ?_)
  refine WG.reg [] [] True.intro [(0, .d (.sl 1 false (ksInt a0))), (1, .d (.v (.int .i64 a1)))] [] [] rfl (by kernel_rfl) ?_
  refine WG.reg [.v (a0.length : Int), .pl] [] (And.intro (dInt.len' a0) True.intro) [(0, .d (.sl 1 false (ksInt a0))), (1, .d (.v (.int .i64 (w64 (a1 - (a0.length : Int))))))] [] [] rfl (by kernel_rfl) ?_
  refine WG.slLen 0 rfl (fun hb1 => ?_)
  rw [dInt.length] at hb1
  refine WG.reg [] [] True.intro [(1, .d (.v (.int .i64 (w64 (a1 - (a0.length : Int)))))), (10, .d (.v (.bool (decide ((w64 (a1 - (a0.length : Int))) < 0)))))] [] [] rfl (by kernel_rfl) ?_
  refine WG.condP rfl rfl (fun hc2 => ?_) (fun hc2 => ?_)
  · have h0 := iteP hc2 h0
    refine WG.reg [] [] True.intro [(4, .d (.v (.int .i64 (-1))))] [] [] rfl (by kernel_rfl) ?_
    have e := some_inj' h0
    subst e
    exact WG.ret rfl rfl (by kernel_rfl) hK
  · have h0 := iteN hc2 h0
    refine WG.reg [] [] True.intro [(4, .d (.v (.int .i64 (w64 (a1 - (a0.length : Int))))))] [] [] rfl (by kernel_rfl) ?_
    have e := some_inj' h0
    subst e
    exact WG.ret rfl rfl (by kernel_rfl) hK
mutual
def m22 : Nat → Form → Int → Option (Int)
  | 0, _, _ => none
  | n + 1, a0, a1 => (if (w64 (a1 - (a0.name.length : Int))) < 0 then some (-1) else (m45 n a0.scopes (w64 (a1 - (a0.name.length : Int)))).bind fun k2 => (if k2 < 0 then some (-1) else (m52 n a0.kids k2).bind fun k4 => (if k4 < 0 then some (-1) else some k4)))
def m52 : Nat → (List Form) → Int → Option (Int)
  | 0, _, _ => none
  | n + 1, a0, a1 => (if (w64 (a1 - (a0.length : Int))) < 0 then some (-1) else seqS (forI (fun (s4 : Int) (i3 : Nat) (x6 : Form) => ((m22 n x6 s4).bind fun k11 => (if k11 < 0 then some (Sum.inl (-1)) else some (Sum.inr k11)) : Option (Int ⊕ Int))) 0 a0 (w64 (a1 - (a0.length : Int)))) (fun (s4 : Int) => some s4))
end
theorem g22 (n : Nat) : (∀ (a0 : Form) (a1 : Int) {r : Int}, m22 n a0 a1 = some r → SCall X.E 22 [.d (.agg (kForm a0)), .d (.v (.int .i64 a1))] [] (.d (.v (.int .i64 r))) []) ∧ (∀ (a0 : List Form) (a1 : Int) {r : Int}, m52 n a0 a1 = some r → SCall X.E 52 [.d (.sl 5 false (ksForm a0)), .d (.v (.int .i64 a1))] [] (.d (.v (.int .i64 r))) []) := by
  induction n with
  | zero => exact ⟨(by intros; rename_i h; cases h), (by intros; rename_i h; cases h)⟩
  | succ n ih =>
    refine ⟨?_, ?_⟩
    · intro a0 a1 r h0
      rw [m22] at h0
      refine SCall.mk Tryd.func22 rfl rfl rfl rfl [(0, .d (.agg (kForm a0))), (1, .d (.v (.int .i64 a1)))] rfl rfl rfl (fun L ks low K hl hL hlen hK => ?_)
      refine WG.reg [] [] True.intro [(1, .d (.v (.int .i64 a1))), (2, .ptr (.own 2) 0)] [(2, .cells ((kForm a0).map .d))] [] rfl (by kernel_rfl) ?_
      refine WG.reg [.pl] [] True.intro [(1, .d (.v (.int .i64 (w64 (a1 - (a0.name.length : Int)))))), (2, .ptr (.own 2) 0)] [(2, .cells ((kForm a0).map .d))] [] rfl (by kernel_rfl) ?_
      refine WG.reg [] [] True.intro [(1, .d (.v (.int .i64 (w64 (a1 - (a0.name.length : Int)))))), (2, .ptr (.own 2) 0), (11, .d (.v (.bool (decide ((w64 (a1 - (a0.name.length : Int))) < 0)))))] [(2, .cells ((kForm a0).map .d))] [] rfl (by kernel_rfl) ?_
      refine WG.condP rfl rfl (fun hc1 => ?_) (fun hc1 => ?_)
      · have h0 := iteP hc1 h0
        refine WG.reg [] [] True.intro [(4, .d (.v (.int .i64 (-1))))] [(2, .cells ((kForm a0).map .d))] [] rfl (by kernel_rfl) ?_
        have e := some_inj' h0
        subst e
        exact WG.ret rfl rfl (by kernel_rfl) hK
      · have h0 := iteN hc1 h0
        obtain ⟨k2, hk2, h0⟩ := bnd h0
        refine WG.reg [.call [] (.d (.v (.int .i64 k2))) []] [] (And.intro (w45 n _ _ hk2) True.intro) [(1, .d (.v (.int .i64 k2))), (2, .ptr (.own 2) 0)] [(2, .cells ((kForm a0).map .d))] [] rfl (by kernel_rfl) ?_
        refine WG.reg [] [] True.intro [(1, .d (.v (.int .i64 k2))), (2, .ptr (.own 2) 0), (17, .d (.v (.bool (decide (k2 < 0)))))] [(2, .cells ((kForm a0).map .d))] [] rfl (by kernel_rfl) ?_
        refine WG.condP rfl rfl (fun hc3 => ?_) (fun hc3 => ?_)
        · have h0 := iteP hc3 h0
          refine WG.reg [] [] True.intro [(4, .d (.v (.int .i64 (-1))))] [(2, .cells ((kForm a0).map .d))] [] rfl (by kernel_rfl) ?_
          have e := some_inj' h0
          subst e
          exact WG.ret rfl rfl (by kernel_rfl) hK
        · have h0 := iteN hc3 h0
          obtain ⟨k4, hk4, h0⟩ := bnd h0
          refine WG.reg [.call [] (.d (.v (.int .i64 k4))) []] [] (And.intro (ih.2 _ _ hk4) True.intro) [(1, .d (.v (.int .i64 k4)))] [(2, .cells ((kForm a0).map .d))] [] rfl (by kernel_rfl) ?_
          refine WG.reg [] [] True.intro [(1, .d (.v (.int .i64 k4))), (23, .d (.v (.bool (decide (k4 < 0)))))] [(2, .cells ((kForm a0).map .d))] [] rfl (by kernel_rfl) ?_
          refine WG.condP rfl rfl (fun hc5 => ?_) (fun hc5 => ?_)
          · have h0 := iteP hc5 h0
            refine WG.reg [] [] True.intro [(4, .d (.v (.int .i64 (-1))))] [(2, .cells ((kForm a0).map .d))] [] rfl (by kernel_rfl) ?_
            have e := some_inj' h0
            subst e
            exact WG.ret rfl rfl (by kernel_rfl) hK
          · have h0 := iteN hc5 h0
            refine WG.reg [] [] True.intro [(4, .d (.v (.int .i64 k4)))] [(2, .cells ((kForm a0).map .d))] [] rfl (by kernel_rfl) ?_
            have e := some_inj' h0
            subst e
            exact WG.ret rfl rfl (by kernel_rfl) hK
    · intro a0 a1 r h0
      rw [m52] at h0
      refine SCall.mk Tryd.func52 rfl rfl rfl rfl [(0, .d (.sl 5 false (ksForm a0))), (1, .d (.v (.int .i64 a1)))] rfl rfl rfl (fun L ks low K hl hL hlen hK => ?_)
      refine WG.reg [] [] True.intro [(0, .d (.sl 5 false (ksForm a0))), (1, .d (.v (.int .i64 a1)))] [] [] rfl (by kernel_rfl) ?_
      refine WG.reg [.v (a0.length : Int), .pl] [] (And.intro (dForm.len' a0) True.intro) [(0, .d (.sl 5 false (ksForm a0))), (1, .d (.v (.int .i64 (w64 (a1 - (a0.length : Int))))))] [] [] rfl (by kernel_rfl) ?_
      refine WG.slLen 0 rfl (fun hb1 => ?_)
      rw [dForm.length] at hb1
      refine WG.reg [] [] True.intro [(0, .d (.sl 5 false (ksForm a0))), (1, .d (.v (.int .i64 (w64 (a1 - (a0.length : Int)))))), (11, .d (.v (.bool (decide ((w64 (a1 - (a0.length : Int))) < 0)))))] [] [] rfl (by kernel_rfl) ?_
      refine WG.condP rfl rfl (fun hc2 => ?_) (fun hc2 => ?_)
      · have h0 := iteP hc2 h0
        refine WG.reg [] [] True.intro [(4, .d (.v (.int .i64 (-1))))] [] [] rfl (by kernel_rfl) ?_
        have e := some_inj' h0
        subst e
        exact WG.ret rfl rfl (by kernel_rfl) hK
      · have h0 := iteN hc2 h0
        refine WG.reg [] [] True.intro [(0, .d (.sl 5 false (ksForm a0))), (1, .d (.v (.int .i64 (w64 (a1 - (a0.length : Int)))))), (5, .d (.v (.int .i64 0)))] [] [] rfl (by kernel_rfl) ?_
        refine WG.listI h0 rfl (fun i3 s4 => [(0, .d (.sl 5 false (ksForm a0))), (1, .d (.v (.int .i64 s4))), (5, .d (.v (.int .i64 (i3 : Int))))]) (fun i3 s4 => []) (fun i3 s4 => []) [] rfl rfl rfl (fun i3 s4 q5 hd7 hi9 h0 => ?_)
        refine WG.reg [.v (a0.length : Int)] [] (And.intro (dForm.len' a0) True.intro) [(0, .d (.sl 5 false (ksForm a0))), (1, .d (.v (.int .i64 s4))), (5, .d (.v (.int .i64 (i3 : Int)))), (15, .d (.v (.bool (decide ((i3 : Int) < (a0.length : Int))))))] [] [] rfl (by kernel_rfl) ?_
        refine WG.condP rfl rfl (fun hc10 => ?_) (fun hc10 => ?_)
        · obtain ⟨x6, q52, rfl, hx6, hd8⟩ := drop_cons' hd7 (by omega)
          obtain ⟨y1, h1, hw1, hn1⟩ := forI_cons h0
          obtain ⟨k11, hk11, h1⟩ := bnd h1
          refine WG.reg [.cs (kForm x6), .call [] (.d (.v (.int .i64 k11))) []] [] (And.intro (dForm.idn hx6) (And.intro (ih.1 _ _ hk11) True.intro)) [(0, .d (.sl 5 false (ksForm a0))), (1, .d (.v (.int .i64 k11))), (5, .d (.v (.int .i64 (i3 : Int))))] [] [] rfl (by kernel_rfl) ?_
          refine WG.reg [] [] True.intro [(0, .d (.sl 5 false (ksForm a0))), (1, .d (.v (.int .i64 k11))), (5, .d (.v (.int .i64 (i3 : Int)))), (25, .d (.v (.bool (decide (k11 < 0)))))] [] [] rfl (by kernel_rfl) ?_
          refine WG.condP rfl rfl (fun hc12 => ?_) (fun hc12 => ?_)
          · have h1 := iteP hc12 h1
            refine WG.reg [] [] True.intro [(4, .d (.v (.int .i64 (-1))))] [] [] rfl (by kernel_rfl) ?_
            have e := some_inj' h1
            subst e
            have e := hw1 _ rfl
            subst e
            exact WG.ret rfl rfl (by kernel_rfl) hK
          · have h1 := iteN hc12 h1
            refine WG.reg [.v ((i3 + 1 : Nat) : Int)] [] (And.intro (wn (i := i3) (by omega)) True.intro) [(0, .d (.sl 5 false (ksForm a0))), (1, .d (.v (.int .i64 k11))), (5, .d (.v (.int .i64 ((i3 + 1 : Nat) : Int))))] [] [] rfl (by kernel_rfl) ?_
            have e := some_inj' h1
            subst e
            exact WG.nextL rfl (i3 + 1) _ hd8 (by omega) (hn1 _ rfl) [] rfl rfl rfl
        · obtain rfl := drop_nil' hd7 (by omega)
          have h0 := forI_nil h0
          refine WG.reg [] [] True.intro [(4, .d (.v (.int .i64 s4)))] [] [] rfl (by kernel_rfl) ?_
          have e := some_inj' h0
          subst e
          exact WG.ret rfl rfl (by kernel_rfl) hK
theorem w22 (n : Nat) : ∀ (a0 : Form) (a1 : Int) {r : Int}, m22 n a0 a1 = some r → SCall X.E 22 [.d (.agg (kForm a0)), .d (.v (.int .i64 a1))] [] (.d (.v (.int .i64 r))) [] := (g22 n).1
theorem w52 (n : Nat) : ∀ (a0 : List Form) (a1 : Int) {r : Int}, m52 n a0 a1 = some r → SCall X.E 52 [.d (.sl 5 false (ksForm a0)), .d (.v (.int .i64 a1))] [] (.d (.v (.int .i64 r))) [] := (g22 n).2
mutual
def m17 : Nat → Core → Int → Option (Int)
  | 0, _, _ => none
  | n + 1, a0, a1 => (if (w64 (a1 - (a0.name.length : Int))) < 0 then some (-1) else (m45 n a0.ids (w64 (a1 - (a0.name.length : Int)))).bind fun k2 => (if k2 < 0 then some (-1) else (m22 n a0.data k2).bind fun k4 => (if k4 < 0 then some (-1) else (m46 n a0.kids k4).bind fun k6 => (if k6 < 0 then some (-1) else some k6))))
def m46 : Nat → (List Core) → Int → Option (Int)
  | 0, _, _ => none
  | n + 1, a0, a1 => (if (w64 (a1 - (a0.length : Int))) < 0 then some (-1) else seqS (forI (fun (s4 : Int) (i3 : Nat) (x6 : Core) => ((m17 n x6 s4).bind fun k11 => (if k11 < 0 then some (Sum.inl (-1)) else some (Sum.inr k11)) : Option (Int ⊕ Int))) 0 a0 (w64 (a1 - (a0.length : Int)))) (fun (s4 : Int) => some s4))
end
theorem g17 (n : Nat) : (∀ (a0 : Core) (a1 : Int) {r : Int}, m17 n a0 a1 = some r → SCall X.E 17 [.d (.agg (kCore a0)), .d (.v (.int .i64 a1))] [] (.d (.v (.int .i64 r))) []) ∧ (∀ (a0 : List Core) (a1 : Int) {r : Int}, m46 n a0 a1 = some r → SCall X.E 46 [.d (.sl 11 false (ksCore a0)), .d (.v (.int .i64 a1))] [] (.d (.v (.int .i64 r))) []) := by
  induction n with
  | zero => exact ⟨(by intros; rename_i h; cases h), (by intros; rename_i h; cases h)⟩
  | succ n ih =>
    refine ⟨?_, ?_⟩
    · intro a0 a1 r h0
      rw [m17] at h0
      refine SCall.mk Tryd.func17 rfl rfl rfl rfl [(0, .d (.agg (kCore a0))), (1, .d (.v (.int .i64 a1)))] rfl rfl rfl (fun L ks low K hl hL hlen hK => ?_)
      refine WG.reg [] [] True.intro [(1, .d (.v (.int .i64 a1))), (2, .ptr (.own 2) 0)] [(2, .cells ((kCore a0).map .d))] [] rfl (by kernel_rfl) ?_
      refine WG.reg [.pl] [] True.intro [(1, .d (.v (.int .i64 (w64 (a1 - (a0.name.length : Int)))))), (2, .ptr (.own 2) 0)] [(2, .cells ((kCore a0).map .d))] [] rfl (by kernel_rfl) ?_
      refine WG.reg [] [] True.intro [(1, .d (.v (.int .i64 (w64 (a1 - (a0.name.length : Int)))))), (2, .ptr (.own 2) 0), (11, .d (.v (.bool (decide ((w64 (a1 - (a0.name.length : Int))) < 0)))))] [(2, .cells ((kCore a0).map .d))] [] rfl (by kernel_rfl) ?_
      refine WG.condP rfl rfl (fun hc1 => ?_) (fun hc1 => ?_)
      · have h0 := iteP hc1 h0
        refine WG.reg [] [] True.intro [(4, .d (.v (.int .i64 (-1))))] [(2, .cells ((kCore a0).map .d))] [] rfl (by kernel_rfl) ?_
        have e := some_inj' h0
        subst e
        exact WG.ret rfl rfl (by kernel_rfl) hK
      · have h0 := iteN hc1 h0
        obtain ⟨k2, hk2, h0⟩ := bnd h0
        refine WG.reg [.call [] (.d (.v (.int .i64 k2))) []] [] (And.intro (w45 n _ _ hk2) True.intro) [(1, .d (.v (.int .i64 k2))), (2, .ptr (.own 2) 0)] [(2, .cells ((kCore a0).map .d))] [] rfl (by kernel_rfl) ?_
        refine WG.reg [] [] True.intro [(1, .d (.v (.int .i64 k2))), (2, .ptr (.own 2) 0), (17, .d (.v (.bool (decide (k2 < 0)))))] [(2, .cells ((kCore a0).map .d))] [] rfl (by kernel_rfl) ?_
        refine WG.condP rfl rfl (fun hc3 => ?_) (fun hc3 => ?_)
        · have h0 := iteP hc3 h0
          refine WG.reg [] [] True.intro [(4, .d (.v (.int .i64 (-1))))] [(2, .cells ((kCore a0).map .d))] [] rfl (by kernel_rfl) ?_
          have e := some_inj' h0
          subst e
          exact WG.ret rfl rfl (by kernel_rfl) hK
        · have h0 := iteN hc3 h0
          obtain ⟨k4, hk4, h0⟩ := bnd h0
          refine WG.reg [.call [] (.d (.v (.int .i64 k4))) []] [] (And.intro (w22 n _ _ hk4) True.intro) [(1, .d (.v (.int .i64 k4))), (2, .ptr (.own 2) 0)] [(2, .cells ((kCore a0).map .d))] [] rfl (by kernel_rfl) ?_
          refine WG.reg [] [] True.intro [(1, .d (.v (.int .i64 k4))), (2, .ptr (.own 2) 0), (23, .d (.v (.bool (decide (k4 < 0)))))] [(2, .cells ((kCore a0).map .d))] [] rfl (by kernel_rfl) ?_
          refine WG.condP rfl rfl (fun hc5 => ?_) (fun hc5 => ?_)
          · have h0 := iteP hc5 h0
            refine WG.reg [] [] True.intro [(4, .d (.v (.int .i64 (-1))))] [(2, .cells ((kCore a0).map .d))] [] rfl (by kernel_rfl) ?_
            have e := some_inj' h0
            subst e
            exact WG.ret rfl rfl (by kernel_rfl) hK
          · have h0 := iteN hc5 h0
            obtain ⟨k6, hk6, h0⟩ := bnd h0
            refine WG.reg [.call [] (.d (.v (.int .i64 k6))) []] [] (And.intro (ih.2 _ _ hk6) True.intro) [(1, .d (.v (.int .i64 k6)))] [(2, .cells ((kCore a0).map .d))] [] rfl (by kernel_rfl) ?_
            refine WG.reg [] [] True.intro [(1, .d (.v (.int .i64 k6))), (29, .d (.v (.bool (decide (k6 < 0)))))] [(2, .cells ((kCore a0).map .d))] [] rfl (by kernel_rfl) ?_
            refine WG.condP rfl rfl (fun hc7 => ?_) (fun hc7 => ?_)
            · have h0 := iteP hc7 h0
              refine WG.reg [] [] True.intro [(4, .d (.v (.int .i64 (-1))))] [(2, .cells ((kCore a0).map .d))] [] rfl (by kernel_rfl) ?_
              have e := some_inj' h0
              subst e
              exact WG.ret rfl rfl (by kernel_rfl) hK
            · have h0 := iteN hc7 h0
              refine WG.reg [] [] True.intro [(4, .d (.v (.int .i64 k6)))] [(2, .cells ((kCore a0).map .d))] [] rfl (by kernel_rfl) ?_
              have e := some_inj' h0
              subst e
              exact WG.ret rfl rfl (by kernel_rfl) hK
    · intro a0 a1 r h0
      rw [m46] at h0
      refine SCall.mk Tryd.func46 rfl rfl rfl rfl [(0, .d (.sl 11 false (ksCore a0))), (1, .d (.v (.int .i64 a1)))] rfl rfl rfl (fun L ks low K hl hL hlen hK => ?_)
      refine WG.reg [] [] True.intro [(0, .d (.sl 11 false (ksCore a0))), (1, .d (.v (.int .i64 a1)))] [] [] rfl (by kernel_rfl) ?_
      refine WG.reg [.v (a0.length : Int), .pl] [] (And.intro (dCore.len' a0) True.intro) [(0, .d (.sl 11 false (ksCore a0))), (1, .d (.v (.int .i64 (w64 (a1 - (a0.length : Int))))))] [] [] rfl (by kernel_rfl) ?_
      refine WG.slLen 0 rfl (fun hb1 => ?_)
      rw [dCore.length] at hb1
      refine WG.reg [] [] True.intro [(0, .d (.sl 11 false (ksCore a0))), (1, .d (.v (.int .i64 (w64 (a1 - (a0.length : Int)))))), (11, .d (.v (.bool (decide ((w64 (a1 - (a0.length : Int))) < 0)))))] [] [] rfl (by kernel_rfl) ?_
      refine WG.condP rfl rfl (fun hc2 => ?_) (fun hc2 => ?_)
      · have h0 := iteP hc2 h0
        refine WG.reg [] [] True.intro [(4, .d (.v (.int .i64 (-1))))] [] [] rfl (by kernel_rfl) ?_
        have e := some_inj' h0
        subst e
        exact WG.ret rfl rfl (by kernel_rfl) hK
      · have h0 := iteN hc2 h0
        refine WG.reg [] [] True.intro [(0, .d (.sl 11 false (ksCore a0))), (1, .d (.v (.int .i64 (w64 (a1 - (a0.length : Int)))))), (5, .d (.v (.int .i64 0)))] [] [] rfl (by kernel_rfl) ?_
        refine WG.listI h0 rfl (fun i3 s4 => [(0, .d (.sl 11 false (ksCore a0))), (1, .d (.v (.int .i64 s4))), (5, .d (.v (.int .i64 (i3 : Int))))]) (fun i3 s4 => []) (fun i3 s4 => []) [] rfl rfl rfl (fun i3 s4 q5 hd7 hi9 h0 => ?_)
        refine WG.reg [.v (a0.length : Int)] [] (And.intro (dCore.len' a0) True.intro) [(0, .d (.sl 11 false (ksCore a0))), (1, .d (.v (.int .i64 s4))), (5, .d (.v (.int .i64 (i3 : Int)))), (15, .d (.v (.bool (decide ((i3 : Int) < (a0.length : Int))))))] [] [] rfl (by kernel_rfl) ?_
        refine WG.condP rfl rfl (fun hc10 => ?_) (fun hc10 => ?_)
        · obtain ⟨x6, q52, rfl, hx6, hd8⟩ := drop_cons' hd7 (by omega)
          obtain ⟨y1, h1, hw1, hn1⟩ := forI_cons h0
          obtain ⟨k11, hk11, h1⟩ := bnd h1
          refine WG.reg [.cs (kCore x6), .call [] (.d (.v (.int .i64 k11))) []] [] (And.intro (dCore.idn hx6) (And.intro (ih.1 _ _ hk11) True.intro)) [(0, .d (.sl 11 false (ksCore a0))), (1, .d (.v (.int .i64 k11))), (5, .d (.v (.int .i64 (i3 : Int))))] [] [] rfl (by kernel_rfl) ?_
          refine WG.reg [] [] True.intro [(0, .d (.sl 11 false (ksCore a0))), (1, .d (.v (.int .i64 k11))), (5, .d (.v (.int .i64 (i3 : Int)))), (25, .d (.v (.bool (decide (k11 < 0)))))] [] [] rfl (by kernel_rfl) ?_
          refine WG.condP rfl rfl (fun hc12 => ?_) (fun hc12 => ?_)
          · have h1 := iteP hc12 h1
            refine WG.reg [] [] True.intro [(4, .d (.v (.int .i64 (-1))))] [] [] rfl (by kernel_rfl) ?_
            have e := some_inj' h1
            subst e
            have e := hw1 _ rfl
            subst e
            exact WG.ret rfl rfl (by kernel_rfl) hK
          · have h1 := iteN hc12 h1
            refine WG.reg [.v ((i3 + 1 : Nat) : Int)] [] (And.intro (wn (i := i3) (by omega)) True.intro) [(0, .d (.sl 11 false (ksCore a0))), (1, .d (.v (.int .i64 k11))), (5, .d (.v (.int .i64 ((i3 + 1 : Nat) : Int))))] [] [] rfl (by kernel_rfl) ?_
            have e := some_inj' h1
            subst e
            exact WG.nextL rfl (i3 + 1) _ hd8 (by omega) (hn1 _ rfl) [] rfl rfl rfl
        · obtain rfl := drop_nil' hd7 (by omega)
          have h0 := forI_nil h0
          refine WG.reg [] [] True.intro [(4, .d (.v (.int .i64 s4)))] [] [] rfl (by kernel_rfl) ?_
          have e := some_inj' h0
          subst e
          exact WG.ret rfl rfl (by kernel_rfl) hK
theorem w17 (n : Nat) : ∀ (a0 : Core) (a1 : Int) {r : Int}, m17 n a0 a1 = some r → SCall X.E 17 [.d (.agg (kCore a0)), .d (.v (.int .i64 a1))] [] (.d (.v (.int .i64 r))) [] := (g17 n).1
theorem w46 (n : Nat) : ∀ (a0 : List Core) (a1 : Int) {r : Int}, m46 n a0 a1 = some r → SCall X.E 46 [.d (.sl 11 false (ksCore a0)), .d (.v (.int .i64 a1))] [] (.d (.v (.int .i64 r))) [] := (g17 n).2
def m48 (n : Nat) (a0 : List Int) : Option (List Int) :=
  (mkB 8 (a0.length : Int)).bind fun u1 => Option.bind (forL (fun (s4 : List Int) (i3 : Nat) (x6 : Int) => (inB (i3 : Int) ((a0.length : Int).toNat)).bind fun u11 => (s4[i3]?).bind fun e12 => some (s4.set i3 x6)) 0 a0 (List.replicate (a0.length : Int).toNat 0)) (fun (s4 : List Int) => (lenB s4 ((a0.length : Int).toNat)).bind fun u13 => some s4)
theorem w48 (n : Nat) : ∀ (a0 : List Int) {r : List Int}, m48 n a0 = some r → SCall X.E 48 [.d (.sl 1 false (ksInt a0))] [] (.d (.sl 1 false (ksInt r))) [] := by
  intro a0 r h0
  rw [m48] at h0
  refine SCall.mk Tryd.func48 rfl rfl rfl rfl [(0, .d (.sl 1 false (ksInt a0)))] rfl rfl rfl (fun L ks low K hl hL hlen hK => ?_)
  refine WG.reg [] [] True.intro [(0, .d (.sl 1 false (ksInt a0)))] [] [] rfl (by kernel_rfl) ?_
  obtain ⟨u1, hu1, h0⟩ := bnd h0
  refine WG.reg [.v (a0.length : Int), .sv (ksInt (List.replicate (a0.length : Int).toNat 0))] [(a0.length : Int)] (And.intro (dInt.len' a0) (And.intro (And.intro (mk_ok hu1) (dInt.rep (a0.length : Int).toNat 0)) True.intro)) [(0, .d (.sl 1 false (ksInt a0))), (3, .sb (.own 7) ((a0.length : Int).toNat))] [(7, .rows 1 (ksInt (List.replicate (a0.length : Int).toNat 0)))] [] rfl (by kernel_rfl) ?_
  refine WG.slLen 0 rfl (fun hb2 => ?_)
  rw [dInt.length] at hb2
  refine WG.reg [] [] True.intro [(0, .d (.sl 1 false (ksInt a0))), (3, .sb (.own 7) ((a0.length : Int).toNat)), (4, .d (.v (.int .i64 0)))] [(7, .rows 1 (ksInt (List.replicate (a0.length : Int).toNat 0)))] [] rfl (by kernel_rfl) ?_
  refine WG.listL h0 rfl (fun i3 s4 => [(0, .d (.sl 1 false (ksInt a0))), (3, .sb (.own 7) ((a0.length : Int).toNat)), (4, .d (.v (.int .i64 (i3 : Int))))]) (fun i3 s4 => [(7, .rows 1 (ksInt s4))]) (fun i3 s4 => []) [] rfl rfl rfl (fun i3 s4 q5 hd7 hi9 h0 => ?_)
  refine WG.reg [.v (a0.length : Int)] [] (And.intro (dInt.len' a0) True.intro) [(0, .d (.sl 1 false (ksInt a0))), (3, .sb (.own 7) ((a0.length : Int).toNat)), (4, .d (.v (.int .i64 (i3 : Int)))), (11, .d (.v (.bool (decide ((i3 : Int) < (a0.length : Int))))))] [(7, .rows 1 (ksInt s4))] [] rfl (by kernel_rfl) ?_
  refine WG.condP rfl rfl (fun hc10 => ?_) (fun hc10 => ?_)
  · obtain ⟨x6, q52, rfl, hx6, hd8⟩ := drop_cons' hd7 (by omega)
    obtain ⟨y1, h1, hn1⟩ := forL_cons h0
    obtain ⟨u11, hu11, h1⟩ := bnd h1
    obtain ⟨e12, he12, h1⟩ := bnd h1
    refine WG.reg [.cs [.v (.int .i64 x6)], .cs [.v (.int .i64 e12)], .sv (ksInt (s4.set i3 x6))] [] (And.intro (dInt.idn hx6) (And.intro (in_ok hu11) (And.intro (And.intro (And.intro (dInt.rows s4) (dInt.ixr he12)) (dInt.seti s4 i3 x6)) True.intro))) [(0, .d (.sl 1 false (ksInt a0))), (3, .sb (.own 7) ((a0.length : Int).toNat)), (4, .d (.v (.int .i64 (i3 : Int))))] [(7, .rows 1 (ksInt (s4.set i3 x6)))] [] rfl (by kernel_rfl) ?_
    refine WG.reg [.v ((i3 + 1 : Nat) : Int)] [] (And.intro (wn (i := i3) (by omega)) True.intro) [(0, .d (.sl 1 false (ksInt a0))), (3, .sb (.own 7) ((a0.length : Int).toNat)), (4, .d (.v (.int .i64 ((i3 + 1 : Nat) : Int))))] [(7, .rows 1 (ksInt (s4.set i3 x6)))] [] rfl (by kernel_rfl) ?_
    have e := some_inj' h1
    subst e
    exact WG.nextL rfl (i3 + 1) _ hd8 (by omega) hn1 [] rfl rfl rfl
  · obtain rfl := drop_nil' hd7 (by omega)
    have h0 := forL_nil h0
    refine WG.reg [] [] True.intro [(2, .sb (.own 7) ((a0.length : Int).toNat))] [(7, .rows 1 (ksInt s4))] [] rfl (by kernel_rfl) ?_
    obtain ⟨u13, hu13, h0⟩ := bnd h0
    refine WG.freeze 2 7 (n := (a0.length : Int).toNat) (xs := ksInt s4) rfl rfl (dInt.frz hu13) (dInt.rows s4) [(2, .d (.sl 1 true (ksInt s4)))] [] rfl rfl rfl rfl ?_
    have e := some_inj' h0
    subst e
    exact WG.ret rfl rfl (by kernel_rfl) hK
mutual
def m24 : Nat → Form → Option (Form)
  | 0, _ => none
  | n + 1, a0 => (m48 n a0.scopes).bind fun k1 => (m54 n a0.kids).bind fun k2 => some (⟨a0.kind, a0.name, a0.n, k1, k2⟩ : Form)
def m54 : Nat → (List Form) → Option (List Form)
  | 0, _ => none
  | n + 1, a0 => (mkB 80 (a0.length : Int)).bind fun u1 => Option.bind (forL (fun (s4 : List Form) (i3 : Nat) (x6 : Form) => (m24 n x6).bind fun k11 => (inB (i3 : Int) ((a0.length : Int).toNat)).bind fun u12 => (s4[i3]?).bind fun e13 => some (s4.set i3 k11)) 0 a0 (List.replicate (a0.length : Int).toNat (⟨0, [], 0, [], []⟩ : Form))) (fun (s4 : List Form) => (lenB s4 ((a0.length : Int).toNat)).bind fun u14 => some s4)
end
theorem g24 (n : Nat) : (∀ (a0 : Form) {r : Form}, m24 n a0 = some r → SCall X.E 24 [.d (.agg (kForm a0))] [] (.d (.agg (kForm r))) []) ∧ (∀ (a0 : List Form) {r : List Form}, m54 n a0 = some r → SCall X.E 54 [.d (.sl 5 false (ksForm a0))] [] (.d (.sl 5 false (ksForm r))) []) := by
  induction n with
  | zero => exact ⟨(by intros; rename_i h; cases h), (by intros; rename_i h; cases h)⟩
  | succ n ih =>
    refine ⟨?_, ?_⟩
    · intro a0 r h0
      rw [m24] at h0
      refine SCall.mk Tryd.func24 rfl rfl rfl rfl [(0, .d (.agg (kForm a0)))] rfl rfl rfl (fun L ks low K hl hL hlen hK => ?_)
      refine WG.reg [] [] True.intro [(1, .ptr (.own 1) 0), (2, .ptr (.own 2) 0)] [(1, .cells ((kForm a0).map .d)), (2, .cells [.d (.v (.int .i64 0)), .d (.s []), .d (.v (.int .i64 0)), .d (.sl 1 true (ksInt [])), .d (.sl 5 true (ksForm []))])] [] rfl (by kernel_rfl) ?_
      refine WG.reg [] [] True.intro [(1, .ptr (.own 1) 0), (2, .ptr (.own 2) 0), (3, .ptr (.own 3) 0)] [(1, .cells ((kForm a0).map .d)), (2, .cells [.d (.v (.int .i64 0)), .d (.s []), .d (.v (.int .i64 0)), .d (.sl 1 true (ksInt [])), .d (.sl 5 true (ksForm []))]), (3, .cells [.d (.v (.int .i64 0)), .d (.s []), .d (.v (.int .i64 0)), .d (.sl 1 true (ksInt [])), .d (.sl 5 true (ksForm []))])] [] rfl (by kernel_rfl) ?_
      refine WG.reg [] [] True.intro [(1, .ptr (.own 1) 0), (2, .ptr (.own 2) 0), (3, .ptr (.own 3) 0)] [(1, .cells ((kForm a0).map .d)), (2, .cells [.d (.v (.int .i64 0)), .d (.s []), .d (.v (.int .i64 0)), .d (.sl 1 true (ksInt [])), .d (.sl 5 true (ksForm []))]), (3, .cells [.d (.v (.int .i64 a0.kind)), .d (.s []), .d (.v (.int .i64 0)), .d (.sl 1 true (ksInt [])), .d (.sl 5 true (ksForm []))])] [] rfl (by kernel_rfl) ?_
      refine WG.reg [] [] True.intro [(1, .ptr (.own 1) 0), (2, .ptr (.own 2) 0), (3, .ptr (.own 3) 0)] [(1, .cells ((kForm a0).map .d)), (2, .cells [.d (.v (.int .i64 0)), .d (.s []), .d (.v (.int .i64 0)), .d (.sl 1 true (ksInt [])), .d (.sl 5 true (ksForm []))]), (3, .cells [.d (.v (.int .i64 a0.kind)), .d (.s a0.name), .d (.v (.int .i64 0)), .d (.sl 1 true (ksInt [])), .d (.sl 5 true (ksForm []))])] [] rfl (by kernel_rfl) ?_
      refine WG.reg [] [] True.intro [(1, .ptr (.own 1) 0), (2, .ptr (.own 2) 0), (3, .ptr (.own 3) 0)] [(1, .cells ((kForm a0).map .d)), (2, .cells [.d (.v (.int .i64 0)), .d (.s []), .d (.v (.int .i64 0)), .d (.sl 1 true (ksInt [])), .d (.sl 5 true (ksForm []))]), (3, .cells [.d (.v (.int .i64 a0.kind)), .d (.s a0.name), .d (.v (.int .i64 a0.n)), .d (.sl 1 true (ksInt [])), .d (.sl 5 true (ksForm []))])] [] rfl (by kernel_rfl) ?_
      obtain ⟨k1, hk1, h0⟩ := bnd h0
      refine WG.reg [.call [] (.d (.sl 1 false (ksInt k1))) []] [] (And.intro (w48 n _ hk1) True.intro) [(1, .ptr (.own 1) 0), (2, .ptr (.own 2) 0), (3, .ptr (.own 3) 0)] [(1, .cells ((kForm a0).map .d)), (2, .cells [.d (.v (.int .i64 0)), .d (.s []), .d (.v (.int .i64 0)), .d (.sl 1 true (ksInt [])), .d (.sl 5 true (ksForm []))]), (3, .cells [.d (.v (.int .i64 a0.kind)), .d (.s a0.name), .d (.v (.int .i64 a0.n)), .d (.sl 1 false (ksInt k1)), .d (.sl 5 true (ksForm []))])] [] rfl (by kernel_rfl) ?_
      obtain ⟨k2, hk2, h0⟩ := bnd h0
      refine WG.reg [.call [] (.d (.sl 5 false (ksForm k2))) []] [] (And.intro (ih.2 _ hk2) True.intro) [(2, .ptr (.own 2) 0), (3, .ptr (.own 3) 0)] [(1, .cells ((kForm a0).map .d)), (2, .cells [.d (.v (.int .i64 0)), .d (.s []), .d (.v (.int .i64 0)), .d (.sl 1 true (ksInt [])), .d (.sl 5 true (ksForm []))]), (3, .cells [.d (.v (.int .i64 a0.kind)), .d (.s a0.name), .d (.v (.int .i64 a0.n)), .d (.sl 1 false (ksInt k1)), .d (.sl 5 false (ksForm k2))])] [] rfl (by kernel_rfl) ?_
      refine WG.reg [] [] True.intro [(2, .ptr (.own 2) 0)] [(1, .cells ((kForm a0).map .d)), (2, .cells [.d (.v (.int .i64 a0.kind)), .d (.s a0.name), .d (.v (.int .i64 a0.n)), .d (.sl 1 false (ksInt k1)), .d (.sl 5 false (ksForm k2))]), (3, .cells [.d (.v (.int .i64 a0.kind)), .d (.s a0.name), .d (.v (.int .i64 a0.n)), .d (.sl 1 false (ksInt k1)), .d (.sl 5 false (ksForm k2))])] [] rfl (by kernel_rfl) ?_
      have e := some_inj' h0
      subst e
      exact WG.ret rfl rfl (by kernel_rfl) hK
    · intro a0 r h0
      rw [m54] at h0
      refine SCall.mk Tryd.func54 rfl rfl rfl rfl [(0, .d (.sl 5 false (ksForm a0)))] rfl rfl rfl (fun L ks low K hl hL hlen hK => ?_)
      refine WG.reg [] [] True.intro [(0, .d (.sl 5 false (ksForm a0)))] [] [] rfl (by kernel_rfl) ?_
      obtain ⟨u1, hu1, h0⟩ := bnd h0
      refine WG.reg [.v (a0.length : Int), .sv (ksForm (List.replicate (a0.length : Int).toNat (⟨0, [], 0, [], []⟩ : Form)))] [(a0.length : Int)] (And.intro (dForm.len' a0) (And.intro (And.intro (mk_ok hu1) (dForm.rep (a0.length : Int).toNat (⟨0, [], 0, [], []⟩ : Form))) True.intro)) [(0, .d (.sl 5 false (ksForm a0))), (3, .sb (.own 7) ((a0.length : Int).toNat))] [(7, .rows 5 (ksForm (List.replicate (a0.length : Int).toNat (⟨0, [], 0, [], []⟩ : Form))))] [] rfl (by kernel_rfl) ?_
      refine WG.slLen 0 rfl (fun hb2 => ?_)
      rw [dForm.length] at hb2
      refine WG.reg [] [] True.intro [(0, .d (.sl 5 false (ksForm a0))), (3, .sb (.own 7) ((a0.length : Int).toNat)), (4, .d (.v (.int .i64 0)))] [(7, .rows 5 (ksForm (List.replicate (a0.length : Int).toNat (⟨0, [], 0, [], []⟩ : Form))))] [] rfl (by kernel_rfl) ?_
      refine WG.listL h0 rfl (fun i3 s4 => [(0, .d (.sl 5 false (ksForm a0))), (3, .sb (.own 7) ((a0.length : Int).toNat)), (4, .d (.v (.int .i64 (i3 : Int))))]) (fun i3 s4 => [(7, .rows 5 (ksForm s4))]) (fun i3 s4 => []) [] rfl rfl rfl (fun i3 s4 q5 hd7 hi9 h0 => ?_)
      refine WG.reg [.v (a0.length : Int)] [] (And.intro (dForm.len' a0) True.intro) [(0, .d (.sl 5 false (ksForm a0))), (3, .sb (.own 7) ((a0.length : Int).toNat)), (4, .d (.v (.int .i64 (i3 : Int)))), (11, .d (.v (.bool (decide ((i3 : Int) < (a0.length : Int))))))] [(7, .rows 5 (ksForm s4))] [] rfl (by kernel_rfl) ?_
      refine WG.condP rfl rfl (fun hc10 => ?_) (fun hc10 => ?_)
      · obtain ⟨x6, q52, rfl, hx6, hd8⟩ := drop_cons' hd7 (by omega)
        obtain ⟨y1, h1, hn1⟩ := forL_cons h0
        obtain ⟨k11, hk11, h1⟩ := bnd h1
        obtain ⟨u12, hu12, h1⟩ := bnd h1
        obtain ⟨e13, he13, h1⟩ := bnd h1
        refine WG.reg [.cs (kForm x6), .call [] (.d (.agg (kForm k11))) [], .cs (kForm e13), .sv (ksForm (s4.set i3 k11))] [] (And.intro (dForm.idn hx6) (And.intro (ih.1 _ hk11) (And.intro (in_ok hu12) (And.intro (And.intro (And.intro (dForm.rows s4) (dForm.ixr he13)) (dForm.seti s4 i3 k11)) True.intro)))) [(0, .d (.sl 5 false (ksForm a0))), (3, .sb (.own 7) ((a0.length : Int).toNat)), (4, .d (.v (.int .i64 (i3 : Int))))] [(7, .rows 5 (ksForm (s4.set i3 k11)))] [] rfl (by kernel_rfl) ?_
        refine WG.reg [.v ((i3 + 1 : Nat) : Int)] [] (And.intro (wn (i := i3) (by omega)) True.intro) [(0, .d (.sl 5 false (ksForm a0))), (3, .sb (.own 7) ((a0.length : Int).toNat)), (4, .d (.v (.int .i64 ((i3 + 1 : Nat) : Int))))] [(7, .rows 5 (ksForm (s4.set i3 k11)))] [] rfl (by kernel_rfl) ?_
        have e := some_inj' h1
        subst e
        exact WG.nextL rfl (i3 + 1) _ hd8 (by omega) hn1 [] rfl rfl rfl
      · obtain rfl := drop_nil' hd7 (by omega)
        have h0 := forL_nil h0
        refine WG.reg [] [] True.intro [(2, .sb (.own 7) ((a0.length : Int).toNat))] [(7, .rows 5 (ksForm s4))] [] rfl (by kernel_rfl) ?_
        obtain ⟨u14, hu14, h0⟩ := bnd h0
        refine WG.freeze 2 7 (n := (a0.length : Int).toNat) (xs := ksForm s4) rfl rfl (dForm.frz hu14) (dForm.rows s4) [(2, .d (.sl 5 true (ksForm s4)))] [] rfl rfl rfl rfl ?_
        have e := some_inj' h0
        subst e
        exact WG.ret rfl rfl (by kernel_rfl) hK
theorem w24 (n : Nat) : ∀ (a0 : Form) {r : Form}, m24 n a0 = some r → SCall X.E 24 [.d (.agg (kForm a0))] [] (.d (.agg (kForm r))) [] := (g24 n).1
theorem w54 (n : Nat) : ∀ (a0 : List Form) {r : List Form}, m54 n a0 = some r → SCall X.E 54 [.d (.sl 5 false (ksForm a0))] [] (.d (.sl 5 false (ksForm r))) [] := (g24 n).2
mutual
def m19 : Nat → Core → Option (Core)
  | 0, _ => none
  | n + 1, a0 => (m48 n a0.ids).bind fun k1 => (m24 n a0.data).bind fun k2 => (m49 n a0.kids).bind fun k3 => some (⟨a0.kind, a0.id, a0.name, a0.n, k1, k2, k3⟩ : Core)
def m49 : Nat → (List Core) → Option (List Core)
  | 0, _ => none
  | n + 1, a0 => (mkB 168 (a0.length : Int)).bind fun u1 => Option.bind (forL (fun (s4 : List Core) (i3 : Nat) (x6 : Core) => (m19 n x6).bind fun k11 => (inB (i3 : Int) ((a0.length : Int).toNat)).bind fun u12 => (s4[i3]?).bind fun e13 => some (s4.set i3 k11)) 0 a0 (List.replicate (a0.length : Int).toNat (⟨0, 0, [], 0, [], (⟨0, [], 0, [], []⟩ : Form), []⟩ : Core))) (fun (s4 : List Core) => (lenB s4 ((a0.length : Int).toNat)).bind fun u14 => some s4)
end
theorem g19 (n : Nat) : (∀ (a0 : Core) {r : Core}, m19 n a0 = some r → SCall X.E 19 [.d (.agg (kCore a0))] [] (.d (.agg (kCore r))) []) ∧ (∀ (a0 : List Core) {r : List Core}, m49 n a0 = some r → SCall X.E 49 [.d (.sl 11 false (ksCore a0))] [] (.d (.sl 11 false (ksCore r))) []) := by
  induction n with
  | zero => exact ⟨(by intros; rename_i h; cases h), (by intros; rename_i h; cases h)⟩
  | succ n ih =>
    refine ⟨?_, ?_⟩
    · intro a0 r h0
      rw [m19] at h0
      refine SCall.mk Tryd.func19 rfl rfl rfl rfl [(0, .d (.agg (kCore a0)))] rfl rfl rfl (fun L ks low K hl hL hlen hK => ?_)
      refine WG.reg [] [] True.intro [(1, .ptr (.own 1) 0), (2, .ptr (.own 2) 0)] [(1, .cells ((kCore a0).map .d)), (2, .cells [.d (.v (.int .i64 0)), .d (.v (.int .i64 0)), .d (.s []), .d (.v (.int .i64 0)), .d (.sl 1 true (ksInt [])), .d (.v (.int .i64 0)), .d (.s []), .d (.v (.int .i64 0)), .d (.sl 1 true (ksInt [])), .d (.sl 5 true (ksForm [])), .d (.sl 11 true (ksCore []))])] [] rfl (by kernel_rfl) ?_
      refine WG.reg [] [] True.intro [(1, .ptr (.own 1) 0), (2, .ptr (.own 2) 0), (3, .ptr (.own 3) 0)] [(1, .cells ((kCore a0).map .d)), (2, .cells [.d (.v (.int .i64 0)), .d (.v (.int .i64 0)), .d (.s []), .d (.v (.int .i64 0)), .d (.sl 1 true (ksInt [])), .d (.v (.int .i64 0)), .d (.s []), .d (.v (.int .i64 0)), .d (.sl 1 true (ksInt [])), .d (.sl 5 true (ksForm [])), .d (.sl 11 true (ksCore []))]), (3, .cells [.d (.v (.int .i64 0)), .d (.v (.int .i64 0)), .d (.s []), .d (.v (.int .i64 0)), .d (.sl 1 true (ksInt [])), .d (.v (.int .i64 0)), .d (.s []), .d (.v (.int .i64 0)), .d (.sl 1 true (ksInt [])), .d (.sl 5 true (ksForm [])), .d (.sl 11 true (ksCore []))])] [] rfl (by kernel_rfl) ?_
      refine WG.reg [] [] True.intro [(1, .ptr (.own 1) 0), (2, .ptr (.own 2) 0), (3, .ptr (.own 3) 0)] [(1, .cells ((kCore a0).map .d)), (2, .cells [.d (.v (.int .i64 0)), .d (.v (.int .i64 0)), .d (.s []), .d (.v (.int .i64 0)), .d (.sl 1 true (ksInt [])), .d (.v (.int .i64 0)), .d (.s []), .d (.v (.int .i64 0)), .d (.sl 1 true (ksInt [])), .d (.sl 5 true (ksForm [])), .d (.sl 11 true (ksCore []))]), (3, .cells [.d (.v (.int .i64 a0.kind)), .d (.v (.int .i64 0)), .d (.s []), .d (.v (.int .i64 0)), .d (.sl 1 true (ksInt [])), .d (.v (.int .i64 0)), .d (.s []), .d (.v (.int .i64 0)), .d (.sl 1 true (ksInt [])), .d (.sl 5 true (ksForm [])), .d (.sl 11 true (ksCore []))])] [] rfl (by kernel_rfl) ?_
      refine WG.reg [] [] True.intro [(1, .ptr (.own 1) 0), (2, .ptr (.own 2) 0), (3, .ptr (.own 3) 0)] [(1, .cells ((kCore a0).map .d)), (2, .cells [.d (.v (.int .i64 0)), .d (.v (.int .i64 0)), .d (.s []), .d (.v (.int .i64 0)), .d (.sl 1 true (ksInt [])), .d (.v (.int .i64 0)), .d (.s []), .d (.v (.int .i64 0)), .d (.sl 1 true (ksInt [])), .d (.sl 5 true (ksForm [])), .d (.sl 11 true (ksCore []))]), (3, .cells [.d (.v (.int .i64 a0.kind)), .d (.v (.int .i64 a0.id)), .d (.s []), .d (.v (.int .i64 0)), .d (.sl 1 true (ksInt [])), .d (.v (.int .i64 0)), .d (.s []), .d (.v (.int .i64 0)), .d (.sl 1 true (ksInt [])), .d (.sl 5 true (ksForm [])), .d (.sl 11 true (ksCore []))])] [] rfl (by kernel_rfl) ?_
      refine WG.reg [] [] True.intro [(1, .ptr (.own 1) 0), (2, .ptr (.own 2) 0), (3, .ptr (.own 3) 0)] [(1, .cells ((kCore a0).map .d)), (2, .cells [.d (.v (.int .i64 0)), .d (.v (.int .i64 0)), .d (.s []), .d (.v (.int .i64 0)), .d (.sl 1 true (ksInt [])), .d (.v (.int .i64 0)), .d (.s []), .d (.v (.int .i64 0)), .d (.sl 1 true (ksInt [])), .d (.sl 5 true (ksForm [])), .d (.sl 11 true (ksCore []))]), (3, .cells [.d (.v (.int .i64 a0.kind)), .d (.v (.int .i64 a0.id)), .d (.s a0.name), .d (.v (.int .i64 0)), .d (.sl 1 true (ksInt [])), .d (.v (.int .i64 0)), .d (.s []), .d (.v (.int .i64 0)), .d (.sl 1 true (ksInt [])), .d (.sl 5 true (ksForm [])), .d (.sl 11 true (ksCore []))])] [] rfl (by kernel_rfl) ?_
      refine WG.reg [] [] True.intro [(1, .ptr (.own 1) 0), (2, .ptr (.own 2) 0), (3, .ptr (.own 3) 0)] [(1, .cells ((kCore a0).map .d)), (2, .cells [.d (.v (.int .i64 0)), .d (.v (.int .i64 0)), .d (.s []), .d (.v (.int .i64 0)), .d (.sl 1 true (ksInt [])), .d (.v (.int .i64 0)), .d (.s []), .d (.v (.int .i64 0)), .d (.sl 1 true (ksInt [])), .d (.sl 5 true (ksForm [])), .d (.sl 11 true (ksCore []))]), (3, .cells [.d (.v (.int .i64 a0.kind)), .d (.v (.int .i64 a0.id)), .d (.s a0.name), .d (.v (.int .i64 a0.n)), .d (.sl 1 true (ksInt [])), .d (.v (.int .i64 0)), .d (.s []), .d (.v (.int .i64 0)), .d (.sl 1 true (ksInt [])), .d (.sl 5 true (ksForm [])), .d (.sl 11 true (ksCore []))])] [] rfl (by kernel_rfl) ?_
      obtain ⟨k1, hk1, h0⟩ := bnd h0
      refine WG.reg [.call [] (.d (.sl 1 false (ksInt k1))) []] [] (And.intro (w48 n _ hk1) True.intro) [(1, .ptr (.own 1) 0), (2, .ptr (.own 2) 0), (3, .ptr (.own 3) 0)] [(1, .cells ((kCore a0).map .d)), (2, .cells [.d (.v (.int .i64 0)), .d (.v (.int .i64 0)), .d (.s []), .d (.v (.int .i64 0)), .d (.sl 1 true (ksInt [])), .d (.v (.int .i64 0)), .d (.s []), .d (.v (.int .i64 0)), .d (.sl 1 true (ksInt [])), .d (.sl 5 true (ksForm [])), .d (.sl 11 true (ksCore []))]), (3, .cells [.d (.v (.int .i64 a0.kind)), .d (.v (.int .i64 a0.id)), .d (.s a0.name), .d (.v (.int .i64 a0.n)), .d (.sl 1 false (ksInt k1)), .d (.v (.int .i64 0)), .d (.s []), .d (.v (.int .i64 0)), .d (.sl 1 true (ksInt [])), .d (.sl 5 true (ksForm [])), .d (.sl 11 true (ksCore []))])] [] rfl (by kernel_rfl) ?_
      obtain ⟨k2, hk2, h0⟩ := bnd h0
      refine WG.reg [.call [] (.d (.agg (kForm k2))) []] [] (And.intro (w24 n _ hk2) True.intro) [(1, .ptr (.own 1) 0), (2, .ptr (.own 2) 0), (3, .ptr (.own 3) 0)] [(1, .cells ((kCore a0).map .d)), (2, .cells [.d (.v (.int .i64 0)), .d (.v (.int .i64 0)), .d (.s []), .d (.v (.int .i64 0)), .d (.sl 1 true (ksInt [])), .d (.v (.int .i64 0)), .d (.s []), .d (.v (.int .i64 0)), .d (.sl 1 true (ksInt [])), .d (.sl 5 true (ksForm [])), .d (.sl 11 true (ksCore []))]), (3, .cells [.d (.v (.int .i64 a0.kind)), .d (.v (.int .i64 a0.id)), .d (.s a0.name), .d (.v (.int .i64 a0.n)), .d (.sl 1 false (ksInt k1)), .d (.v (.int .i64 k2.kind)), .d (.s k2.name), .d (.v (.int .i64 k2.n)), .d (.sl 1 false (ksInt k2.scopes)), .d (.sl 5 false (ksForm k2.kids)), .d (.sl 11 true (ksCore []))])] [] rfl (by kernel_rfl) ?_
      obtain ⟨k3, hk3, h0⟩ := bnd h0
      refine WG.reg [.call [] (.d (.sl 11 false (ksCore k3))) []] [] (And.intro (ih.2 _ hk3) True.intro) [(2, .ptr (.own 2) 0), (3, .ptr (.own 3) 0)] [(1, .cells ((kCore a0).map .d)), (2, .cells [.d (.v (.int .i64 0)), .d (.v (.int .i64 0)), .d (.s []), .d (.v (.int .i64 0)), .d (.sl 1 true (ksInt [])), .d (.v (.int .i64 0)), .d (.s []), .d (.v (.int .i64 0)), .d (.sl 1 true (ksInt [])), .d (.sl 5 true (ksForm [])), .d (.sl 11 true (ksCore []))]), (3, .cells [.d (.v (.int .i64 a0.kind)), .d (.v (.int .i64 a0.id)), .d (.s a0.name), .d (.v (.int .i64 a0.n)), .d (.sl 1 false (ksInt k1)), .d (.v (.int .i64 k2.kind)), .d (.s k2.name), .d (.v (.int .i64 k2.n)), .d (.sl 1 false (ksInt k2.scopes)), .d (.sl 5 false (ksForm k2.kids)), .d (.sl 11 false (ksCore k3))])] [] rfl (by kernel_rfl) ?_
      refine WG.reg [] [] True.intro [(2, .ptr (.own 2) 0)] [(1, .cells ((kCore a0).map .d)), (2, .cells [.d (.v (.int .i64 a0.kind)), .d (.v (.int .i64 a0.id)), .d (.s a0.name), .d (.v (.int .i64 a0.n)), .d (.sl 1 false (ksInt k1)), .d (.v (.int .i64 k2.kind)), .d (.s k2.name), .d (.v (.int .i64 k2.n)), .d (.sl 1 false (ksInt k2.scopes)), .d (.sl 5 false (ksForm k2.kids)), .d (.sl 11 false (ksCore k3))]), (3, .cells [.d (.v (.int .i64 a0.kind)), .d (.v (.int .i64 a0.id)), .d (.s a0.name), .d (.v (.int .i64 a0.n)), .d (.sl 1 false (ksInt k1)), .d (.v (.int .i64 k2.kind)), .d (.s k2.name), .d (.v (.int .i64 k2.n)), .d (.sl 1 false (ksInt k2.scopes)), .d (.sl 5 false (ksForm k2.kids)), .d (.sl 11 false (ksCore k3))])] [] rfl (by kernel_rfl) ?_
      have e := some_inj' h0
      subst e
      exact WG.ret rfl rfl (by kernel_rfl) hK
    · intro a0 r h0
      rw [m49] at h0
      refine SCall.mk Tryd.func49 rfl rfl rfl rfl [(0, .d (.sl 11 false (ksCore a0)))] rfl rfl rfl (fun L ks low K hl hL hlen hK => ?_)
      refine WG.reg [] [] True.intro [(0, .d (.sl 11 false (ksCore a0)))] [] [] rfl (by kernel_rfl) ?_
      obtain ⟨u1, hu1, h0⟩ := bnd h0
      refine WG.reg [.v (a0.length : Int), .sv (ksCore (List.replicate (a0.length : Int).toNat (⟨0, 0, [], 0, [], (⟨0, [], 0, [], []⟩ : Form), []⟩ : Core)))] [(a0.length : Int)] (And.intro (dCore.len' a0) (And.intro (And.intro (mk_ok hu1) (dCore.rep (a0.length : Int).toNat (⟨0, 0, [], 0, [], (⟨0, [], 0, [], []⟩ : Form), []⟩ : Core))) True.intro)) [(0, .d (.sl 11 false (ksCore a0))), (3, .sb (.own 7) ((a0.length : Int).toNat))] [(7, .rows 11 (ksCore (List.replicate (a0.length : Int).toNat (⟨0, 0, [], 0, [], (⟨0, [], 0, [], []⟩ : Form), []⟩ : Core))))] [] rfl (by kernel_rfl) ?_
      refine WG.slLen 0 rfl (fun hb2 => ?_)
      rw [dCore.length] at hb2
      refine WG.reg [] [] True.intro [(0, .d (.sl 11 false (ksCore a0))), (3, .sb (.own 7) ((a0.length : Int).toNat)), (4, .d (.v (.int .i64 0)))] [(7, .rows 11 (ksCore (List.replicate (a0.length : Int).toNat (⟨0, 0, [], 0, [], (⟨0, [], 0, [], []⟩ : Form), []⟩ : Core))))] [] rfl (by kernel_rfl) ?_
      refine WG.listL h0 rfl (fun i3 s4 => [(0, .d (.sl 11 false (ksCore a0))), (3, .sb (.own 7) ((a0.length : Int).toNat)), (4, .d (.v (.int .i64 (i3 : Int))))]) (fun i3 s4 => [(7, .rows 11 (ksCore s4))]) (fun i3 s4 => []) [] rfl rfl rfl (fun i3 s4 q5 hd7 hi9 h0 => ?_)
      refine WG.reg [.v (a0.length : Int)] [] (And.intro (dCore.len' a0) True.intro) [(0, .d (.sl 11 false (ksCore a0))), (3, .sb (.own 7) ((a0.length : Int).toNat)), (4, .d (.v (.int .i64 (i3 : Int)))), (11, .d (.v (.bool (decide ((i3 : Int) < (a0.length : Int))))))] [(7, .rows 11 (ksCore s4))] [] rfl (by kernel_rfl) ?_
      refine WG.condP rfl rfl (fun hc10 => ?_) (fun hc10 => ?_)
      · obtain ⟨x6, q52, rfl, hx6, hd8⟩ := drop_cons' hd7 (by omega)
        obtain ⟨y1, h1, hn1⟩ := forL_cons h0
        obtain ⟨k11, hk11, h1⟩ := bnd h1
        obtain ⟨u12, hu12, h1⟩ := bnd h1
        obtain ⟨e13, he13, h1⟩ := bnd h1
        refine WG.reg [.cs (kCore x6), .call [] (.d (.agg (kCore k11))) [], .cs (kCore e13), .sv (ksCore (s4.set i3 k11))] [] (And.intro (dCore.idn hx6) (And.intro (ih.1 _ hk11) (And.intro (in_ok hu12) (And.intro (And.intro (And.intro (dCore.rows s4) (dCore.ixr he13)) (dCore.seti s4 i3 k11)) True.intro)))) [(0, .d (.sl 11 false (ksCore a0))), (3, .sb (.own 7) ((a0.length : Int).toNat)), (4, .d (.v (.int .i64 (i3 : Int))))] [(7, .rows 11 (ksCore (s4.set i3 k11)))] [] rfl (by kernel_rfl) ?_
        refine WG.reg [.v ((i3 + 1 : Nat) : Int)] [] (And.intro (wn (i := i3) (by omega)) True.intro) [(0, .d (.sl 11 false (ksCore a0))), (3, .sb (.own 7) ((a0.length : Int).toNat)), (4, .d (.v (.int .i64 ((i3 + 1 : Nat) : Int))))] [(7, .rows 11 (ksCore (s4.set i3 k11)))] [] rfl (by kernel_rfl) ?_
        have e := some_inj' h1
        subst e
        exact WG.nextL rfl (i3 + 1) _ hd8 (by omega) hn1 [] rfl rfl rfl
      · obtain rfl := drop_nil' hd7 (by omega)
        have h0 := forL_nil h0
        refine WG.reg [] [] True.intro [(2, .sb (.own 7) ((a0.length : Int).toNat))] [(7, .rows 11 (ksCore s4))] [] rfl (by kernel_rfl) ?_
        obtain ⟨u14, hu14, h0⟩ := bnd h0
        refine WG.freeze 2 7 (n := (a0.length : Int).toNat) (xs := ksCore s4) rfl rfl (dCore.frz hu14) (dCore.rows s4) [(2, .d (.sl 11 true (ksCore s4)))] [] rfl rfl rfl rfl ?_
        have e := some_inj' h0
        subst e
        exact WG.ret rfl rfl (by kernel_rfl) hK
theorem w19 (n : Nat) : ∀ (a0 : Core) {r : Core}, m19 n a0 = some r → SCall X.E 19 [.d (.agg (kCore a0))] [] (.d (.agg (kCore r))) [] := (g19 n).1
theorem w49 (n : Nat) : ∀ (a0 : List Core) {r : List Core}, m49 n a0 = some r → SCall X.E 49 [.d (.sl 11 false (ksCore a0))] [] (.d (.sl 11 false (ksCore r))) [] := (g19 n).2
def m66 (n : Nat)  : Option (List (List UInt8)) :=
  some [[43], [60], [61], [108, 105, 115, 116], [104, 101, 97, 100], [116, 97, 105, 108]]
theorem w66 (n : Nat) : ∀ {r : List (List UInt8)}, m66 n  = some r → SCall X.E 66 [] [] (.d (.sl 1 false (ksStr r))) [] := by
  intro r h0
  rw [m66] at h0
  refine SCall.mk Tryd.func66 rfl rfl rfl rfl [] rfl rfl rfl (fun L ks low K hl hL hlen hK => ?_)
  refine WG.reg [] [] True.intro [] [] [] rfl (by kernel_rfl) ?_
  refine WG.reg [.sv (ksStr [[43], [60], [61], [108, 105, 115, 116], [104, 101, 97, 100], [116, 97, 105, 108]])] [] (And.intro (dStr.lit [[43], [60], [61], [108, 105, 115, 116], [104, 101, 97, 100], [116, 97, 105, 108]]) True.intro) [(0, .d (.sl 1 true (ksStr [[43], [60], [61], [108, 105, 115, 116], [104, 101, 97, 100], [116, 97, 105, 108]])))] [] [] rfl (by kernel_rfl) ?_
  have e := some_inj' h0
  subst e
  exact WG.ret rfl rfl (by kernel_rfl) hK
def m65 (n : Nat) (a0 : List (List UInt8)) (a1 : List UInt8) : Option (Bool) :=
  seqS (forI (fun (s2 : Unit) (i1 : Nat) (x4 : List UInt8) => ((if x4 = a1 then some (Sum.inl true) else some (Sum.inr ())) : Option (Bool ⊕ Unit))) 0 a0 ()) (fun (s2 : Unit) => some false)
theorem w65 (n : Nat) : ∀ (a0 : List (List UInt8)) (a1 : List UInt8) {r : Bool}, m65 n a0 a1 = some r → SCall X.E 65 [.d (.sl 1 false (ksStr a0)), .d (.s a1)] [] (.d (.v (.bool r))) [] := by
  intro a0 a1 r h0
  rw [m65] at h0
  refine SCall.mk Tryd.func65 rfl rfl rfl rfl [(0, .d (.sl 1 false (ksStr a0))), (1, .d (.s a1))] rfl rfl rfl (fun L ks low K hl hL hlen hK => ?_)
  refine WG.reg [] [] True.intro [(0, .d (.sl 1 false (ksStr a0))), (1, .d (.s a1))] [] [] rfl (by kernel_rfl) ?_
  refine WG.reg [] [] True.intro [(0, .d (.sl 1 false (ksStr a0))), (1, .d (.s a1)), (5, .d (.v (.int .i64 0)))] [] [] rfl (by kernel_rfl) ?_
  refine WG.listI h0 rfl (fun i1 s2 => [(0, .d (.sl 1 false (ksStr a0))), (1, .d (.s a1)), (5, .d (.v (.int .i64 (i1 : Int))))]) (fun i1 s2 => []) (fun i1 s2 => []) [] rfl rfl rfl (fun i1 s2 q3 hd5 hi7 h0 => ?_)
  refine WG.reg [.v (a0.length : Int)] [] (And.intro (dStr.len' a0) True.intro) [(0, .d (.sl 1 false (ksStr a0))), (1, .d (.s a1)), (5, .d (.v (.int .i64 (i1 : Int)))), (9, .d (.v (.bool (decide ((i1 : Int) < (a0.length : Int))))))] [] [] rfl (by kernel_rfl) ?_
  refine WG.slLen 0 rfl (fun hb8 => ?_)
  rw [dStr.length] at hb8
  refine WG.condP rfl rfl (fun hc9 => ?_) (fun hc9 => ?_)
  · obtain ⟨x4, q32, rfl, hx4, hd6⟩ := drop_cons' hd5 (by omega)
    obtain ⟨y1, h1, hw1, hn1⟩ := forI_cons h0
    refine WG.reg [.cs [.s x4]] [] (And.intro (dStr.idn hx4) True.intro) [(0, .d (.sl 1 false (ksStr a0))), (1, .d (.s a1)), (5, .d (.v (.int .i64 (i1 : Int)))), (17, .d (.v (.bool (decide (x4 = a1)))))] [] [] rfl (by kernel_rfl) ?_
    refine WG.condP rfl rfl (fun hc10 => ?_) (fun hc10 => ?_)
    · have h1 := iteP hc10 h1
      refine WG.reg [] [] True.intro [(4, .d (.v (.bool true)))] [] [] rfl (by kernel_rfl) ?_
      have e := some_inj' h1
      subst e
      have e := hw1 _ rfl
      subst e
      exact WG.ret rfl rfl (by kernel_rfl) hK
    · have h1 := iteN hc10 h1
      refine WG.reg [.v ((i1 + 1 : Nat) : Int)] [] (And.intro (wn (i := i1) (by omega)) True.intro) [(0, .d (.sl 1 false (ksStr a0))), (1, .d (.s a1)), (5, .d (.v (.int .i64 ((i1 + 1 : Nat) : Int))))] [] [] rfl (by kernel_rfl) ?_
      have e := some_inj' h1
      subst e
      exact WG.nextL rfl (i1 + 1) _ hd6 (by omega) (hn1 _ rfl) [] rfl rfl rfl
  · obtain rfl := drop_nil' hd5 (by omega)
    have h0 := forI_nil h0
    refine WG.reg [] [] True.intro [(4, .d (.v (.bool false)))] [] [] rfl (by kernel_rfl) ?_
    have e := some_inj' h0
    subst e
    exact WG.ret rfl rfl (by kernel_rfl) hK
def m47 (n : Nat) (a0 : Core) : Option (Bool) :=
  Option.bind ((if a0.kind = 1 then some true else (if a0.kind = 3 then some true else (if a0.kind = 4 then some true else (if a0.kind = 2 then (m66 n).bind fun k6 => (m65 n k6 a0.name).bind fun k7 => some k7 else some false)))) : Option (Bool)) (fun (o1 : Bool) => some o1)
theorem w47 (n : Nat) : ∀ (a0 : Core) {r : Bool}, m47 n a0 = some r → SCall X.E 47 [.d (.agg (kCore a0))] [] (.d (.v (.bool r))) [] := by
  intro a0 r h0
  rw [m47] at h0
  refine SCall.mk Tryd.func47 rfl rfl rfl rfl [(0, .d (.agg (kCore a0)))] rfl rfl rfl (fun L ks low K hl hL hlen hK => ?_)
  refine WG.reg [] [] True.intro [(1, .ptr (.own 1) 0)] [(1, .cells ((kCore a0).map .d))] [] rfl (by kernel_rfl) ?_
  refine WG.bindP h0 rfl (fun o1 => [(2, .d (.v (.bool o1)))]) (fun o1 => [(1, .cells ((kCore a0).map .d))]) (fun o1 => []) (fun o1 h0 => ?_) (fun y1 h1 hj1 => ?_)
  · have e := some_inj' h0
    subst e
    exact WG.ret rfl rfl (by kernel_rfl) hK
  · by_cases g2 : a0.kind = 1
    · have h1 := iteP g2 h1
      refine WG.regD mixed [(4, [.b true]), (5, [.b true]), (6, [.b true]), (7, [.b true]), (9, [.b true]), (10, [.b true]), (11, [.b true]), (12, [.b true]), (14, [.b true]), (15, [.b true]), (16, [.b true]), (17, [.b true]), (22, [.b true]), (23, [.b true])] [] (And.intro (decide_eq_true g2 : decide (a0.kind = 1) = true) (And.intro (decide_eq_true g2 : decide (a0.kind = 1) = true) (And.intro (decide_eq_true g2 : decide (a0.kind = 1) = true) (And.intro (decide_eq_true g2 : decide (a0.kind = 1) = true) (And.intro (rfl : true = true) (And.intro (rfl : true = true) (And.intro (rfl : true = true) (And.intro (rfl : true = true) (And.intro (rfl : true = true) (And.intro (rfl : true = true) (And.intro (rfl : true = true) (And.intro (rfl : true = true) (And.intro (rfl : true = true) (And.intro (rfl : true = true) True.intro)))))))))))))) [(2, .d (.v (.bool true)))] [(1, .cells ((kCore a0).map .d))] [] rfl (by kernel_rfl) ?_
      have e := some_inj' h1
      subst e
      exact WG.leaf hj1 rfl [] rfl rfl rfl
    · have h1 := iteN g2 h1
      by_cases g3 : a0.kind = 3
      · have h1 := iteP g3 h1
        refine WG.regD mixed [(4, [.b false]), (5, [.b false]), (6, [.b false]), (7, [.b false]), (9, [.b true]), (10, [.b true]), (11, [.b true]), (12, [.b true]), (14, [.b true]), (15, [.b true]), (16, [.b true]), (17, [.b true]), (22, [.b true]), (23, [.b true])] [] (And.intro (decide_eq_false g2 : decide (a0.kind = 1) = false) (And.intro (decide_eq_false g2 : decide (a0.kind = 1) = false) (And.intro (decide_eq_false g2 : decide (a0.kind = 1) = false) (And.intro (decide_eq_false g2 : decide (a0.kind = 1) = false) (And.intro (decide_eq_true g3 : decide (a0.kind = 3) = true) (And.intro (decide_eq_true g3 : decide (a0.kind = 3) = true) (And.intro (decide_eq_true g3 : decide (a0.kind = 3) = true) (And.intro (decide_eq_true g3 : decide (a0.kind = 3) = true) (And.intro (rfl : true = true) (And.intro (rfl : true = true) (And.intro (rfl : true = true) (And.intro (rfl : true = true) (And.intro (rfl : true = true) (And.intro (rfl : true = true) True.intro)))))))))))))) [(2, .d (.v (.bool true)))] [(1, .cells ((kCore a0).map .d))] [] rfl (by kernel_rfl) ?_
        have e := some_inj' h1
        subst e
        exact WG.leaf hj1 rfl [] rfl rfl rfl
      · have h1 := iteN g3 h1
        by_cases g4 : a0.kind = 4
        · have h1 := iteP g4 h1
          refine WG.regD mixed [(4, [.b false]), (5, [.b false]), (6, [.b false]), (7, [.b false]), (9, [.b false]), (10, [.b false]), (11, [.b false]), (12, [.b false]), (14, [.b true]), (15, [.b true]), (16, [.b true]), (17, [.b true]), (22, [.b true]), (23, [.b true])] [] (And.intro (decide_eq_false g2 : decide (a0.kind = 1) = false) (And.intro (decide_eq_false g2 : decide (a0.kind = 1) = false) (And.intro (decide_eq_false g2 : decide (a0.kind = 1) = false) (And.intro (decide_eq_false g2 : decide (a0.kind = 1) = false) (And.intro (decide_eq_false g3 : decide (a0.kind = 3) = false) (And.intro (decide_eq_false g3 : decide (a0.kind = 3) = false) (And.intro (decide_eq_false g3 : decide (a0.kind = 3) = false) (And.intro (decide_eq_false g3 : decide (a0.kind = 3) = false) (And.intro (decide_eq_true g4 : decide (a0.kind = 4) = true) (And.intro (decide_eq_true g4 : decide (a0.kind = 4) = true) (And.intro (decide_eq_true g4 : decide (a0.kind = 4) = true) (And.intro (decide_eq_true g4 : decide (a0.kind = 4) = true) (And.intro (decide_eq_true g4 : decide (a0.kind = 4) = true) (And.intro (decide_eq_true g4 : decide (a0.kind = 4) = true) True.intro)))))))))))))) [(2, .d (.v (.bool true)))] [(1, .cells ((kCore a0).map .d))] [] rfl (by kernel_rfl) ?_
          have e := some_inj' h1
          subst e
          exact WG.leaf hj1 rfl [] rfl rfl rfl
        · have h1 := iteN g4 h1
          by_cases g5 : a0.kind = 2
          · have h1 := iteP g5 h1
            obtain ⟨k6, hk6, h1⟩ := bnd h1
            obtain ⟨k7, hk7, h1⟩ := bnd h1
            refine WG.regD mixed [(4, [.b false]), (5, [.b false]), (6, [.b false]), (7, [.b false]), (9, [.b false]), (10, [.b false]), (11, [.b false]), (12, [.b false]), (14, [.b false]), (15, [.b false]), (16, [.b false]), (17, [.b false]), (18, [.b true, .call [] (.d (.sl 1 false (ksStr k6))) []]), (19, [.b true]), (20, [.b true]), (21, [.b true, .call [] (.d (.v (.bool k7))) []]), (22, [.b false, .b true]), (23, [.b false])] [] (And.intro (decide_eq_false g2 : decide (a0.kind = 1) = false) (And.intro (decide_eq_false g2 : decide (a0.kind = 1) = false) (And.intro (decide_eq_false g2 : decide (a0.kind = 1) = false) (And.intro (decide_eq_false g2 : decide (a0.kind = 1) = false) (And.intro (decide_eq_false g3 : decide (a0.kind = 3) = false) (And.intro (decide_eq_false g3 : decide (a0.kind = 3) = false) (And.intro (decide_eq_false g3 : decide (a0.kind = 3) = false) (And.intro (decide_eq_false g3 : decide (a0.kind = 3) = false) (And.intro (decide_eq_false g4 : decide (a0.kind = 4) = false) (And.intro (decide_eq_false g4 : decide (a0.kind = 4) = false) (And.intro (decide_eq_false g4 : decide (a0.kind = 4) = false) (And.intro (decide_eq_false g4 : decide (a0.kind = 4) = false) (And.intro (And.intro (decide_eq_true g5 : decide (a0.kind = 2) = true) (w66 n  hk6)) (And.intro (decide_eq_true g5 : decide (a0.kind = 2) = true) (And.intro (decide_eq_true g5 : decide (a0.kind = 2) = true) (And.intro (And.intro (decide_eq_true g5 : decide (a0.kind = 2) = true) (w65 n _ _ hk7)) (And.intro (And.intro (decide_eq_false g4 : decide (a0.kind = 4) = false) (decide_eq_true g5 : decide (a0.kind = 2) = true)) (And.intro (decide_eq_false g4 : decide (a0.kind = 4) = false) True.intro)))))))))))))))))) [(2, .d (.v (.bool k7)))] [(1, .cells ((kCore a0).map .d))] [] rfl (by kernel_rfl) ?_
            have e := some_inj' h1
            subst e
            exact WG.leaf hj1 rfl [] rfl rfl rfl
          · have h1 := iteN g5 h1
            refine WG.regD mixed [(4, [.b false]), (5, [.b false]), (6, [.b false]), (7, [.b false]), (9, [.b false]), (10, [.b false]), (11, [.b false]), (12, [.b false]), (14, [.b false]), (15, [.b false]), (16, [.b false]), (17, [.b false]), (18, [.b false]), (19, [.b false]), (20, [.b false]), (21, [.b false]), (22, [.b false, .b false]), (23, [.b false])] [] (And.intro (decide_eq_false g2 : decide (a0.kind = 1) = false) (And.intro (decide_eq_false g2 : decide (a0.kind = 1) = false) (And.intro (decide_eq_false g2 : decide (a0.kind = 1) = false) (And.intro (decide_eq_false g2 : decide (a0.kind = 1) = false) (And.intro (decide_eq_false g3 : decide (a0.kind = 3) = false) (And.intro (decide_eq_false g3 : decide (a0.kind = 3) = false) (And.intro (decide_eq_false g3 : decide (a0.kind = 3) = false) (And.intro (decide_eq_false g3 : decide (a0.kind = 3) = false) (And.intro (decide_eq_false g4 : decide (a0.kind = 4) = false) (And.intro (decide_eq_false g4 : decide (a0.kind = 4) = false) (And.intro (decide_eq_false g4 : decide (a0.kind = 4) = false) (And.intro (decide_eq_false g4 : decide (a0.kind = 4) = false) (And.intro (decide_eq_false g5 : decide (a0.kind = 2) = false) (And.intro (decide_eq_false g5 : decide (a0.kind = 2) = false) (And.intro (decide_eq_false g5 : decide (a0.kind = 2) = false) (And.intro (decide_eq_false g5 : decide (a0.kind = 2) = false) (And.intro (And.intro (decide_eq_false g4 : decide (a0.kind = 4) = false) (decide_eq_false g5 : decide (a0.kind = 2) = false)) (And.intro (decide_eq_false g4 : decide (a0.kind = 4) = false) True.intro)))))))))))))))))) [(2, .d (.v (.bool false)))] [(1, .cells ((kCore a0).map .d))] [] rfl (by kernel_rfl) ?_
            have e := some_inj' h1
            subst e
            exact WG.leaf hj1 rfl [] rfl rfl rfl
def m18 (n : Nat) (a0 : Core) : Option (Bool) :=
  Option.bind ((if (a0.kids.length : Int) = 0 then (m47 n a0).bind fun k3 => some k3 else some false) : Option (Bool)) (fun (o1 : Bool) => some o1)
theorem w18 (n : Nat) : ∀ (a0 : Core) {r : Bool}, m18 n a0 = some r → SCall X.E 18 [.d (.agg (kCore a0))] [] (.d (.v (.bool r))) [] := by
  intro a0 r h0
  rw [m18] at h0
  refine SCall.mk Tryd.func18 rfl rfl rfl rfl [(0, .d (.agg (kCore a0)))] rfl rfl rfl (fun L ks low K hl hL hlen hK => ?_)
  refine WG.reg [] [] True.intro [(1, .ptr (.own 1) 0)] [(1, .cells ((kCore a0).map .d))] [] rfl (by kernel_rfl) ?_
  refine WG.bindP h0 rfl (fun o1 => [(2, .d (.v (.bool o1)))]) (fun o1 => [(1, .cells ((kCore a0).map .d))]) (fun o1 => []) (fun o1 h0 => ?_) (fun y1 h1 hj1 => ?_)
  · have e := some_inj' h0
    subst e
    exact WG.ret rfl rfl (by kernel_rfl) hK
  · by_cases g2 : (a0.kids.length : Int) = 0
    · have h1 := iteP g2 h1
      obtain ⟨k3, hk3, h1⟩ := bnd h1
      refine WG.reg [.v (a0.kids.length : Int), .b true, .b true, .call [] (.d (.v (.bool k3))) [], .b true] [] (And.intro (dCore.len' a0.kids) (And.intro (decide_eq_true g2 : decide ((a0.kids.length : Int) = 0) = true) (And.intro (And.intro (decide_eq_true g2 : decide ((a0.kids.length : Int) = 0) = true) (w47 n _ hk3)) (And.intro (decide_eq_true g2 : decide ((a0.kids.length : Int) = 0) = true) True.intro)))) [(2, .d (.v (.bool k3)))] [(1, .cells ((kCore a0).map .d))] [] rfl (by kernel_rfl) ?_
      have e := some_inj' h1
      subst e
      exact WG.leaf hj1 rfl [] rfl rfl rfl
    · have h1 := iteN g2 h1
      refine WG.reg [.v (a0.kids.length : Int), .b false, .b false, .b false] [] (And.intro (dCore.len' a0.kids) (And.intro (decide_eq_false g2 : decide ((a0.kids.length : Int) = 0) = false) (And.intro (decide_eq_false g2 : decide ((a0.kids.length : Int) = 0) = false) (And.intro (decide_eq_false g2 : decide ((a0.kids.length : Int) = 0) = false) True.intro)))) [(2, .d (.v (.bool false)))] [(1, .cells ((kCore a0).map .d))] [] rfl (by kernel_rfl) ?_
      have e := some_inj' h1
      subst e
      exact WG.leaf hj1 rfl [] rfl rfl rfl
def m42 (n : Nat) (a0 : List (List UInt8)) (a1 : List UInt8) : Option (Int) :=
  seqS (forI (fun (s3 : Unit) (i2 : Nat) (x5 : List UInt8) => ((if a1 = x5 then some (Sum.inl (i2 : Int)) else some (Sum.inr ())) : Option (Int ⊕ Unit))) 0 a0 ()) (fun (s3 : Unit) => some (-1))
theorem w42 (n : Nat) : ∀ (a0 : List (List UInt8)) (a1 : List UInt8) {r : Int}, m42 n a0 a1 = some r → SCall X.E 42 [.d (.sl 1 false (ksStr a0)), .d (.s a1)] [] (.d (.v (.int .i64 r))) [] := by
  intro a0 a1 r h0
  rw [m42] at h0
  refine SCall.mk Tryd.func42 rfl rfl rfl rfl [(0, .d (.sl 1 false (ksStr a0))), (1, .d (.s a1))] rfl rfl rfl (fun L ks low K hl hL hlen hK => ?_)
  refine WG.reg [] [] True.intro [(0, .d (.sl 1 false (ksStr a0))), (1, .d (.s a1))] [] [] rfl (by kernel_rfl) ?_
  refine WG.reg [.v (a0.length : Int)] [] (And.intro (dStr.len' a0) True.intro) [(0, .d (.sl 1 false (ksStr a0))), (1, .d (.s a1)), (7, .d (.v (.int .i64 (a0.length : Int)))), (8, .d (.v (.int .i64 0)))] [] [] rfl (by kernel_rfl) ?_
  refine WG.slLen 0 rfl (fun hb1 => ?_)
  rw [dStr.length] at hb1
  refine WG.listI h0 rfl (fun i2 s3 => [(0, .d (.sl 1 false (ksStr a0))), (1, .d (.s a1)), (7, .d (.v (.int .i64 (a0.length : Int)))), (8, .d (.v (.int .i64 (i2 : Int))))]) (fun i2 s3 => []) (fun i2 s3 => []) [] rfl rfl rfl (fun i2 s3 q4 hd6 hi8 h0 => ?_)
  refine WG.reg [] [] True.intro [(0, .d (.sl 1 false (ksStr a0))), (1, .d (.s a1)), (7, .d (.v (.int .i64 (a0.length : Int)))), (8, .d (.v (.int .i64 (i2 : Int)))), (9, .d (.v (.bool (decide ((i2 : Int) < (a0.length : Int))))))] [] [] rfl (by kernel_rfl) ?_
  refine WG.condP rfl rfl (fun hc9 => ?_) (fun hc9 => ?_)
  · obtain ⟨x5, q42, rfl, hx5, hd7⟩ := drop_cons' hd6 (by omega)
    obtain ⟨y1, h1, hw1, hn1⟩ := forI_cons h0
    refine WG.reg [] [] True.intro [(0, .d (.sl 1 false (ksStr a0))), (1, .d (.s a1)), (5, .d (.v (.int .i64 (i2 : Int)))), (7, .d (.v (.int .i64 (a0.length : Int)))), (8, .d (.v (.int .i64 (i2 : Int))))] [] [] rfl (by kernel_rfl) ?_
    refine WG.reg [.cs [.s x5]] [] (And.intro (dStr.idn hx5) True.intro) [(0, .d (.sl 1 false (ksStr a0))), (1, .d (.s a1)), (5, .d (.v (.int .i64 (i2 : Int)))), (7, .d (.v (.int .i64 (a0.length : Int)))), (8, .d (.v (.int .i64 (i2 : Int)))), (16, .d (.v (.bool (decide (a1 = x5)))))] [] [] rfl (by kernel_rfl) ?_
    refine WG.condP rfl rfl (fun hc10 => ?_) (fun hc10 => ?_)
    · have h1 := iteP hc10 h1
      refine WG.reg [] [] True.intro [(4, .d (.v (.int .i64 (i2 : Int))))] [] [] rfl (by kernel_rfl) ?_
      have e := some_inj' h1
      subst e
      have e := hw1 _ rfl
      subst e
      exact WG.ret rfl rfl (by kernel_rfl) hK
    · have h1 := iteN hc10 h1
      refine WG.reg [.v ((i2 + 1 : Nat) : Int)] [] (And.intro (wn (i := i2) (by omega)) True.intro) [(0, .d (.sl 1 false (ksStr a0))), (1, .d (.s a1)), (7, .d (.v (.int .i64 (a0.length : Int)))), (8, .d (.v (.int .i64 ((i2 + 1 : Nat) : Int))))] [] [] rfl (by kernel_rfl) ?_
      have e := some_inj' h1
      subst e
      exact WG.nextL rfl (i2 + 1) _ hd7 (by omega) (hn1 _ rfl) [] rfl rfl rfl
  · obtain rfl := drop_nil' hd6 (by omega)
    have h0 := forI_nil h0
    refine WG.reg [] [] True.intro [(4, .d (.v (.int .i64 (-1))))] [] [] rfl (by kernel_rfl) ?_
    have e := some_inj' h0
    subst e
    exact WG.ret rfl rfl (by kernel_rfl) hK
def m57 (n : Nat) (a0 : List (List UInt8)) (a1 : List UInt8) : Option (Bool) :=
  (m42 n a0 a1).bind fun k1 => some (decide (k1 ≥ 0))
theorem w57 (n : Nat) : ∀ (a0 : List (List UInt8)) (a1 : List UInt8) {r : Bool}, m57 n a0 a1 = some r → SCall X.E 57 [.d (.sl 1 false (ksStr a0)), .d (.s a1)] [] (.d (.v (.bool r))) [] := by
  intro a0 a1 r h0
  rw [m57] at h0
  refine SCall.mk Tryd.func57 rfl rfl rfl rfl [(0, .d (.sl 1 false (ksStr a0))), (1, .d (.s a1))] rfl rfl rfl (fun L ks low K hl hL hlen hK => ?_)
  refine WG.reg [] [] True.intro [(0, .d (.sl 1 false (ksStr a0))), (1, .d (.s a1))] [] [] rfl (by kernel_rfl) ?_
  obtain ⟨k1, hk1, h0⟩ := bnd h0
  refine WG.reg [.call [] (.d (.v (.int .i64 k1))) []] [] (And.intro (w42 n _ _ hk1) True.intro) [(4, .d (.v (.bool (decide (k1 ≥ 0)))))] [] [] rfl (by kernel_rfl) ?_
  have e := some_inj' h0
  subst e
  exact WG.ret rfl rfl (by kernel_rfl) hK
def m50 (n : Nat) (a0 : Core) : Option (Bool) :=
  Option.bind ((if a0.kind = 2 then (m57 n lp2 a0.name).bind fun k3 => some k3 else some false) : Option (Bool)) (fun (o1 : Bool) => some o1)
theorem w50 (n : Nat) : ∀ (a0 : Core) {r : Bool}, m50 n a0 = some r → SCall X.E 50 [.d (.agg (kCore a0))] [] (.d (.v (.bool r))) [] := by
  intro a0 r h0
  rw [m50] at h0
  refine SCall.mk Tryd.func50 rfl rfl rfl rfl [(0, .d (.agg (kCore a0)))] rfl rfl rfl (fun L ks low K hl hL hlen hK => ?_)
  refine WG.reg [] [] True.intro [(1, .ptr (.own 1) 0)] [(1, .cells ((kCore a0).map .d))] [] rfl (by kernel_rfl) ?_
  refine WG.bindP h0 rfl (fun o1 => [(2, .d (.v (.bool o1)))]) (fun o1 => [(1, .cells ((kCore a0).map .d))]) (fun o1 => []) (fun o1 h0 => ?_) (fun y1 h1 hj1 => ?_)
  · have e := some_inj' h0
    subst e
    exact WG.ret rfl rfl (by kernel_rfl) hK
  · by_cases g2 : a0.kind = 2
    · have h1 := iteP g2 h1
      obtain ⟨k3, hk3, h1⟩ := bnd h1
      refine WG.regD mixed [(4, [.b true]), (5, [.b true]), (6, [.b true]), (7, [.b true, .call [] (.d (.v (.bool k3))) []]), (8, [.b true])] [] (And.intro (decide_eq_true g2 : decide (a0.kind = 2) = true) (And.intro (decide_eq_true g2 : decide (a0.kind = 2) = true) (And.intro (decide_eq_true g2 : decide (a0.kind = 2) = true) (And.intro (And.intro (decide_eq_true g2 : decide (a0.kind = 2) = true) (w57 n _ _ hk3)) (And.intro (decide_eq_true g2 : decide (a0.kind = 2) = true) True.intro))))) [(2, .d (.v (.bool k3)))] [(1, .cells ((kCore a0).map .d))] [] rfl (by kernel_rfl) ?_
      have e := some_inj' h1
      subst e
      exact WG.leaf hj1 rfl [] rfl rfl rfl
    · have h1 := iteN g2 h1
      refine WG.regD mixed [(4, [.b false]), (5, [.b false]), (6, [.b false]), (7, [.b false]), (8, [.b false])] [] (And.intro (decide_eq_false g2 : decide (a0.kind = 2) = false) (And.intro (decide_eq_false g2 : decide (a0.kind = 2) = false) (And.intro (decide_eq_false g2 : decide (a0.kind = 2) = false) (And.intro (decide_eq_false g2 : decide (a0.kind = 2) = false) (And.intro (decide_eq_false g2 : decide (a0.kind = 2) = false) True.intro))))) [(2, .d (.v (.bool false)))] [(1, .cells ((kCore a0).map .d))] [] rfl (by kernel_rfl) ?_
      have e := some_inj' h1
      subst e
      exact WG.leaf hj1 rfl [] rfl rfl rfl
def m20 (n : Nat) (a0 : Core) : Option (Bool) :=
  Option.bind ((if (a0.kids.length : Int) = 0 then (if a0.kind = 1 then some true else (if a0.kind = 3 then some true else (if a0.kind = 4 then some true else (m50 n a0).bind fun k6 => some k6))) else some false) : Option (Bool)) (fun (o1 : Bool) => some o1)
theorem w20 (n : Nat) : ∀ (a0 : Core) {r : Bool}, m20 n a0 = some r → SCall X.E 20 [.d (.agg (kCore a0))] [] (.d (.v (.bool r))) [] := by
  intro a0 r h0
  rw [m20] at h0
  refine SCall.mk Tryd.func20 rfl rfl rfl rfl [(0, .d (.agg (kCore a0)))] rfl rfl rfl (fun L ks low K hl hL hlen hK => ?_)
  refine WG.reg [] [] True.intro [(1, .ptr (.own 1) 0)] [(1, .cells ((kCore a0).map .d))] [] rfl (by kernel_rfl) ?_
  refine WG.bindP h0 rfl (fun o1 => [(2, .d (.v (.bool o1)))]) (fun o1 => [(1, .cells ((kCore a0).map .d))]) (fun o1 => []) (fun o1 h0 => ?_) (fun y1 h1 hj1 => ?_)
  · have e := some_inj' h0
    subst e
    exact WG.ret rfl rfl (by kernel_rfl) hK
  · by_cases g2 : (a0.kids.length : Int) = 0
    · have h1 := iteP g2 h1
      by_cases g3 : a0.kind = 1
      · have h1 := iteP g3 h1
        refine WG.reg [.v (a0.kids.length : Int), .b true, .b true, .b true, .b true, .b true, .b true, .b true, .b true, .b true, .b true, .b true, .b true, .b true, .b true, .b true, .b true, .b true, .b true, .b true, .b true, .b true] [] (And.intro (dCore.len' a0.kids) (And.intro (decide_eq_true g2 : decide ((a0.kids.length : Int) = 0) = true) (And.intro (decide_eq_true g2 : decide ((a0.kids.length : Int) = 0) = true) (And.intro (decide_eq_true g2 : decide ((a0.kids.length : Int) = 0) = true) (And.intro (decide_eq_true g2 : decide ((a0.kids.length : Int) = 0) = true) (And.intro (decide_eq_true g3 : decide (a0.kind = 1) = true) (And.intro (decide_eq_true g3 : decide (a0.kind = 1) = true) (And.intro (decide_eq_true g3 : decide (a0.kind = 1) = true) (And.intro (And.intro (decide_eq_true g2 : decide ((a0.kids.length : Int) = 0) = true) (decide_eq_true g3 : decide (a0.kind = 1) = true)) (And.intro (decide_eq_true g2 : decide ((a0.kids.length : Int) = 0) = true) (And.intro (rfl : true = true) (And.intro (rfl : true = true) (And.intro (rfl : true = true) (And.intro (And.intro (decide_eq_true g2 : decide ((a0.kids.length : Int) = 0) = true) (rfl : true = true)) (And.intro (decide_eq_true g2 : decide ((a0.kids.length : Int) = 0) = true) (And.intro (rfl : true = true) (And.intro (rfl : true = true) (And.intro (And.intro (decide_eq_true g2 : decide ((a0.kids.length : Int) = 0) = true) (rfl : true = true)) (And.intro (decide_eq_true g2 : decide ((a0.kids.length : Int) = 0) = true) True.intro))))))))))))))))))) [(2, .d (.v (.bool true)))] [(1, .cells ((kCore a0).map .d))] [] rfl (by kernel_rfl) ?_
        have e := some_inj' h1
        subst e
        exact WG.leaf hj1 rfl [] rfl rfl rfl
      · have h1 := iteN g3 h1
        by_cases g4 : a0.kind = 3
        · have h1 := iteP g4 h1
          refine WG.reg [.v (a0.kids.length : Int), .b true, .b true, .b true, .b true, .b false, .b false, .b false, .b true, .b false, .b true, .b true, .b true, .b true, .b true, .b true, .b true, .b true, .b true, .b true, .b true, .b true] [] (And.intro (dCore.len' a0.kids) (And.intro (decide_eq_true g2 : decide ((a0.kids.length : Int) = 0) = true) (And.intro (decide_eq_true g2 : decide ((a0.kids.length : Int) = 0) = true) (And.intro (decide_eq_true g2 : decide ((a0.kids.length : Int) = 0) = true) (And.intro (decide_eq_true g2 : decide ((a0.kids.length : Int) = 0) = true) (And.intro (decide_eq_false g3 : decide (a0.kind = 1) = false) (And.intro (decide_eq_false g3 : decide (a0.kind = 1) = false) (And.intro (decide_eq_false g3 : decide (a0.kind = 1) = false) (And.intro (And.intro (decide_eq_true g2 : decide ((a0.kids.length : Int) = 0) = true) (decide_eq_false g3 : decide (a0.kind = 1) = false)) (And.intro (decide_eq_true g2 : decide ((a0.kids.length : Int) = 0) = true) (And.intro (decide_eq_true g4 : decide (a0.kind = 3) = true) (And.intro (decide_eq_true g4 : decide (a0.kind = 3) = true) (And.intro (decide_eq_true g4 : decide (a0.kind = 3) = true) (And.intro (And.intro (decide_eq_true g2 : decide ((a0.kids.length : Int) = 0) = true) (decide_eq_true g4 : decide (a0.kind = 3) = true)) (And.intro (decide_eq_true g2 : decide ((a0.kids.length : Int) = 0) = true) (And.intro (rfl : true = true) (And.intro (rfl : true = true) (And.intro (And.intro (decide_eq_true g2 : decide ((a0.kids.length : Int) = 0) = true) (rfl : true = true)) (And.intro (decide_eq_true g2 : decide ((a0.kids.length : Int) = 0) = true) True.intro))))))))))))))))))) [(2, .d (.v (.bool true)))] [(1, .cells ((kCore a0).map .d))] [] rfl (by kernel_rfl) ?_
          have e := some_inj' h1
          subst e
          exact WG.leaf hj1 rfl [] rfl rfl rfl
        · have h1 := iteN g4 h1
          by_cases g5 : a0.kind = 4
          · have h1 := iteP g5 h1
            refine WG.reg [.v (a0.kids.length : Int), .b true, .b true, .b true, .b true, .b false, .b false, .b false, .b true, .b false, .b true, .b false, .b false, .b false, .b true, .b false, .b true, .b true, .b true, .b true, .b true, .b true] [] (And.intro (dCore.len' a0.kids) (And.intro (decide_eq_true g2 : decide ((a0.kids.length : Int) = 0) = true) (And.intro (decide_eq_true g2 : decide ((a0.kids.length : Int) = 0) = true) (And.intro (decide_eq_true g2 : decide ((a0.kids.length : Int) = 0) = true) (And.intro (decide_eq_true g2 : decide ((a0.kids.length : Int) = 0) = true) (And.intro (decide_eq_false g3 : decide (a0.kind = 1) = false) (And.intro (decide_eq_false g3 : decide (a0.kind = 1) = false) (And.intro (decide_eq_false g3 : decide (a0.kind = 1) = false) (And.intro (And.intro (decide_eq_true g2 : decide ((a0.kids.length : Int) = 0) = true) (decide_eq_false g3 : decide (a0.kind = 1) = false)) (And.intro (decide_eq_true g2 : decide ((a0.kids.length : Int) = 0) = true) (And.intro (decide_eq_false g4 : decide (a0.kind = 3) = false) (And.intro (decide_eq_false g4 : decide (a0.kind = 3) = false) (And.intro (decide_eq_false g4 : decide (a0.kind = 3) = false) (And.intro (And.intro (decide_eq_true g2 : decide ((a0.kids.length : Int) = 0) = true) (decide_eq_false g4 : decide (a0.kind = 3) = false)) (And.intro (decide_eq_true g2 : decide ((a0.kids.length : Int) = 0) = true) (And.intro (decide_eq_true g5 : decide (a0.kind = 4) = true) (And.intro (decide_eq_true g5 : decide (a0.kind = 4) = true) (And.intro (And.intro (decide_eq_true g2 : decide ((a0.kids.length : Int) = 0) = true) (decide_eq_true g5 : decide (a0.kind = 4) = true)) (And.intro (decide_eq_true g2 : decide ((a0.kids.length : Int) = 0) = true) True.intro))))))))))))))))))) [(2, .d (.v (.bool true)))] [(1, .cells ((kCore a0).map .d))] [] rfl (by kernel_rfl) ?_
            have e := some_inj' h1
            subst e
            exact WG.leaf hj1 rfl [] rfl rfl rfl
          · have h1 := iteN g5 h1
            obtain ⟨k6, hk6, h1⟩ := bnd h1
            refine WG.reg [.v (a0.kids.length : Int), .b true, .b true, .b true, .b true, .b false, .b false, .b false, .b true, .b false, .b true, .b false, .b false, .b false, .b true, .b false, .b true, .b false, .b false, .call [] (.d (.v (.bool k6))) [], .b true, .b false, .b true] [] (And.intro (dCore.len' a0.kids) (And.intro (decide_eq_true g2 : decide ((a0.kids.length : Int) = 0) = true) (And.intro (decide_eq_true g2 : decide ((a0.kids.length : Int) = 0) = true) (And.intro (decide_eq_true g2 : decide ((a0.kids.length : Int) = 0) = true) (And.intro (decide_eq_true g2 : decide ((a0.kids.length : Int) = 0) = true) (And.intro (decide_eq_false g3 : decide (a0.kind = 1) = false) (And.intro (decide_eq_false g3 : decide (a0.kind = 1) = false) (And.intro (decide_eq_false g3 : decide (a0.kind = 1) = false) (And.intro (And.intro (decide_eq_true g2 : decide ((a0.kids.length : Int) = 0) = true) (decide_eq_false g3 : decide (a0.kind = 1) = false)) (And.intro (decide_eq_true g2 : decide ((a0.kids.length : Int) = 0) = true) (And.intro (decide_eq_false g4 : decide (a0.kind = 3) = false) (And.intro (decide_eq_false g4 : decide (a0.kind = 3) = false) (And.intro (decide_eq_false g4 : decide (a0.kind = 3) = false) (And.intro (And.intro (decide_eq_true g2 : decide ((a0.kids.length : Int) = 0) = true) (decide_eq_false g4 : decide (a0.kind = 3) = false)) (And.intro (decide_eq_true g2 : decide ((a0.kids.length : Int) = 0) = true) (And.intro (decide_eq_false g5 : decide (a0.kind = 4) = false) (And.intro (And.intro (decide_eq_false g5 : decide (a0.kind = 4) = false) (w50 n _ hk6)) (And.intro (And.intro (decide_eq_true g2 : decide ((a0.kids.length : Int) = 0) = true) (decide_eq_false g5 : decide (a0.kind = 4) = false)) (And.intro (decide_eq_true g2 : decide ((a0.kids.length : Int) = 0) = true) True.intro))))))))))))))))))) [(2, .d (.v (.bool k6)))] [(1, .cells ((kCore a0).map .d))] [] rfl (by kernel_rfl) ?_
            have e := some_inj' h1
            subst e
            exact WG.leaf hj1 rfl [] rfl rfl rfl
    · have h1 := iteN g2 h1
      refine WG.reg [.v (a0.kids.length : Int), .b false, .b false, .b false, .b false, .b false, .b false, .b false, .b false, .b false, .b false] [] (And.intro (dCore.len' a0.kids) (And.intro (decide_eq_false g2 : decide ((a0.kids.length : Int) = 0) = false) (And.intro (decide_eq_false g2 : decide ((a0.kids.length : Int) = 0) = false) (And.intro (decide_eq_false g2 : decide ((a0.kids.length : Int) = 0) = false) (And.intro (decide_eq_false g2 : decide ((a0.kids.length : Int) = 0) = false) (And.intro (decide_eq_false g2 : decide ((a0.kids.length : Int) = 0) = false) (And.intro (decide_eq_false g2 : decide ((a0.kids.length : Int) = 0) = false) (And.intro (decide_eq_false g2 : decide ((a0.kids.length : Int) = 0) = false) (And.intro (decide_eq_false g2 : decide ((a0.kids.length : Int) = 0) = false) (And.intro (decide_eq_false g2 : decide ((a0.kids.length : Int) = 0) = false) (And.intro (decide_eq_false g2 : decide ((a0.kids.length : Int) = 0) = false) True.intro))))))))))) [(2, .d (.v (.bool false)))] [(1, .cells ((kCore a0).map .d))] [] rfl (by kernel_rfl) ?_
      have e := some_inj' h1
      subst e
      exact WG.leaf hj1 rfl [] rfl rfl rfl
def m30 (n : Nat) (a0 : List Int) (a1 : List Int) : Option (Bool) :=
  (if ¬ (a0.length : Int) = (a1.length : Int) then some false else seqS (forI (fun (s5 : Unit) (i4 : Nat) (x7 : Int) => ((atI a1 (i4 : Int)).bind fun e12 => (if ¬ x7 = e12 then some (Sum.inl false) else some (Sum.inr ())) : Option (Bool ⊕ Unit))) 0 a0 ()) (fun (s5 : Unit) => some true))
theorem w30 (n : Nat) : ∀ (a0 : List Int) (a1 : List Int) {r : Bool}, m30 n a0 a1 = some r → SCall X.E 30 [.d (.sl 1 false (ksInt a0)), .d (.sl 1 false (ksInt a1))] [] (.d (.v (.bool r))) [] := by
  intro a0 a1 r h0
  rw [m30] at h0
  refine SCall.mk Tryd.func30 rfl rfl rfl rfl [(0, .d (.sl 1 false (ksInt a0))), (1, .d (.sl 1 false (ksInt a1)))] rfl rfl rfl (fun L ks low K hl hL hlen hK => ?_)
  refine WG.reg [] [] True.intro [(0, .d (.sl 1 false (ksInt a0))), (1, .d (.sl 1 false (ksInt a1)))] [] [] rfl (by kernel_rfl) ?_
  refine WG.reg [.v (a0.length : Int), .v (a1.length : Int)] [] (And.intro (dInt.len' a0) (And.intro (dInt.len' a1) True.intro)) [(0, .d (.sl 1 false (ksInt a0))), (1, .d (.sl 1 false (ksInt a1))), (10, .d (.v (.bool (decide (¬ (a0.length : Int) = (a1.length : Int))))))] [] [] rfl (by kernel_rfl) ?_
  refine WG.slLen 0 rfl (fun hb1 => ?_)
  rw [dInt.length] at hb1
  refine WG.slLen 1 rfl (fun hb2 => ?_)
  rw [dInt.length] at hb2
  refine WG.condP rfl rfl (fun hc3 => ?_) (fun hc3 => ?_)
  · have h0 := iteP hc3 h0
    refine WG.reg [] [] True.intro [(4, .d (.v (.bool false)))] [] [] rfl (by kernel_rfl) ?_
    have e := some_inj' h0
    subst e
    exact WG.ret rfl rfl (by kernel_rfl) hK
  · have h0 := iteN hc3 h0
    refine WG.reg [] [] True.intro [(0, .d (.sl 1 false (ksInt a0))), (1, .d (.sl 1 false (ksInt a1))), (5, .d (.v (.int .i64 0)))] [] [] rfl (by kernel_rfl) ?_
    refine WG.listI h0 rfl (fun i4 s5 => [(0, .d (.sl 1 false (ksInt a0))), (1, .d (.sl 1 false (ksInt a1))), (5, .d (.v (.int .i64 (i4 : Int))))]) (fun i4 s5 => []) (fun i4 s5 => []) [] rfl rfl rfl (fun i4 s5 q6 hd8 hi10 h0 => ?_)
    refine WG.reg [.v (a0.length : Int)] [] (And.intro (dInt.len' a0) True.intro) [(0, .d (.sl 1 false (ksInt a0))), (1, .d (.sl 1 false (ksInt a1))), (5, .d (.v (.int .i64 (i4 : Int)))), (14, .d (.v (.bool (decide ((i4 : Int) < (a0.length : Int))))))] [] [] rfl (by kernel_rfl) ?_
    refine WG.condP rfl rfl (fun hc11 => ?_) (fun hc11 => ?_)
    · obtain ⟨x7, q62, rfl, hx7, hd9⟩ := drop_cons' hd8 (by omega)
      obtain ⟨y1, h1, hw1, hn1⟩ := forI_cons h0
      obtain ⟨e12, he12, h1⟩ := bnd h1
      refine WG.regD mixed [(2, [.cs [.v (.int .i64 x7)]]), (6, [.cs [.v (.int .i64 e12)]])] [] (And.intro (dInt.idn hx7) (And.intro (dInt.idx he12) True.intro)) [(0, .d (.sl 1 false (ksInt a0))), (1, .d (.sl 1 false (ksInt a1))), (5, .d (.v (.int .i64 (i4 : Int)))), (25, .d (.v (.bool (decide (¬ x7 = e12)))))] [] [] rfl (by kernel_rfl) ?_
      refine WG.condP rfl rfl (fun hc13 => ?_) (fun hc13 => ?_)
      · have h1 := iteP hc13 h1
        refine WG.reg [] [] True.intro [(4, .d (.v (.bool false)))] [] [] rfl (by kernel_rfl) ?_
        have e := some_inj' h1
        subst e
        have e := hw1 _ rfl
        subst e
        exact WG.ret rfl rfl (by kernel_rfl) hK
      · have h1 := iteN hc13 h1
        refine WG.reg [.v ((i4 + 1 : Nat) : Int)] [] (And.intro (wn (i := i4) (by omega)) True.intro) [(0, .d (.sl 1 false (ksInt a0))), (1, .d (.sl 1 false (ksInt a1))), (5, .d (.v (.int .i64 ((i4 + 1 : Nat) : Int))))] [] [] rfl (by kernel_rfl) ?_
        have e := some_inj' h1
        subst e
        exact WG.nextL rfl (i4 + 1) _ hd9 (by omega) (hn1 _ rfl) [] rfl rfl rfl
    · obtain rfl := drop_nil' hd8 (by omega)
      have h0 := forI_nil h0
      refine WG.reg [] [] True.intro [(4, .d (.v (.bool true)))] [] [] rfl (by kernel_rfl) ?_
      have e := some_inj' h0
      subst e
      exact WG.ret rfl rfl (by kernel_rfl) hK
mutual
def m26 : Nat → Form → Form → Option (Bool)
  | 0, _, _ => none
  | n + 1, a0, a1 => (if ¬ a0.kind = a1.kind then some false else (if ¬ a0.name = a1.name then some false else (if ¬ a0.n = a1.n then some false else (m30 n a0.scopes a1.scopes).bind fun k4 => (if (!k4) = true then some false else (m58 n a0.kids a1.kids).bind fun k6 => (if (!k6) = true then some false else some true)))))
def m58 : Nat → (List Form) → (List Form) → Option (Bool)
  | 0, _, _ => none
  | n + 1, a0, a1 => (if ¬ (a0.length : Int) = (a1.length : Int) then some false else seqS (forI (fun (s5 : Unit) (i4 : Nat) (x7 : Form) => ((atI a1 (i4 : Int)).bind fun e12 => (m26 n x7 e12).bind fun k13 => (if (!k13) = true then some (Sum.inl false) else some (Sum.inr ())) : Option (Bool ⊕ Unit))) 0 a0 ()) (fun (s5 : Unit) => some true))
end
theorem g26 (n : Nat) : (∀ (a0 : Form) (a1 : Form) {r : Bool}, m26 n a0 a1 = some r → SCall X.E 26 [.d (.agg (kForm a0)), .d (.agg (kForm a1))] [] (.d (.v (.bool r))) []) ∧ (∀ (a0 : List Form) (a1 : List Form) {r : Bool}, m58 n a0 a1 = some r → SCall X.E 58 [.d (.sl 5 false (ksForm a0)), .d (.sl 5 false (ksForm a1))] [] (.d (.v (.bool r))) []) := by
  induction n with
  | zero => exact ⟨(by intros; rename_i h; cases h), (by intros; rename_i h; cases h)⟩
  | succ n ih =>
    refine ⟨?_, ?_⟩
    · intro a0 a1 r h0
      rw [m26] at h0
      refine SCall.mk Tryd.func26 rfl rfl rfl rfl [(0, .d (.agg (kForm a0))), (1, .d (.agg (kForm a1)))] rfl rfl rfl (fun L ks low K hl hL hlen hK => ?_)
      refine WG.reg [] [] True.intro [(2, .ptr (.own 2) 0), (3, .ptr (.own 3) 0)] [(2, .cells ((kForm a0).map .d)), (3, .cells ((kForm a1).map .d))] [] rfl (by kernel_rfl) ?_
      refine WG.reg [] [] True.intro [(2, .ptr (.own 2) 0), (3, .ptr (.own 3) 0), (9, .d (.v (.bool (decide (¬ a0.kind = a1.kind)))))] [(2, .cells ((kForm a0).map .d)), (3, .cells ((kForm a1).map .d))] [] rfl (by kernel_rfl) ?_
      refine WG.condP rfl rfl (fun hc1 => ?_) (fun hc1 => ?_)
      · have h0 := iteP hc1 h0
        refine WG.reg [] [] True.intro [(4, .d (.v (.bool false)))] [(2, .cells ((kForm a0).map .d)), (3, .cells ((kForm a1).map .d))] [] rfl (by kernel_rfl) ?_
        have e := some_inj' h0
        subst e
        exact WG.ret rfl rfl (by kernel_rfl) hK
      · have h0 := iteN hc1 h0
        refine WG.reg [] [] True.intro [(2, .ptr (.own 2) 0), (3, .ptr (.own 3) 0), (14, .d (.v (.bool (decide (¬ a0.name = a1.name)))))] [(2, .cells ((kForm a0).map .d)), (3, .cells ((kForm a1).map .d))] [] rfl (by kernel_rfl) ?_
        refine WG.condP rfl rfl (fun hc2 => ?_) (fun hc2 => ?_)
        · have h0 := iteP hc2 h0
          refine WG.reg [] [] True.intro [(4, .d (.v (.bool false)))] [(2, .cells ((kForm a0).map .d)), (3, .cells ((kForm a1).map .d))] [] rfl (by kernel_rfl) ?_
          have e := some_inj' h0
          subst e
          exact WG.ret rfl rfl (by kernel_rfl) hK
        · have h0 := iteN hc2 h0
          refine WG.reg [] [] True.intro [(2, .ptr (.own 2) 0), (3, .ptr (.own 3) 0), (19, .d (.v (.bool (decide (¬ a0.n = a1.n)))))] [(2, .cells ((kForm a0).map .d)), (3, .cells ((kForm a1).map .d))] [] rfl (by kernel_rfl) ?_
          refine WG.condP rfl rfl (fun hc3 => ?_) (fun hc3 => ?_)
          · have h0 := iteP hc3 h0
            refine WG.reg [] [] True.intro [(4, .d (.v (.bool false)))] [(2, .cells ((kForm a0).map .d)), (3, .cells ((kForm a1).map .d))] [] rfl (by kernel_rfl) ?_
            have e := some_inj' h0
            subst e
            exact WG.ret rfl rfl (by kernel_rfl) hK
          · have h0 := iteN hc3 h0
            obtain ⟨k4, hk4, h0⟩ := bnd h0
            refine WG.reg [.call [] (.d (.v (.bool k4))) []] [] (And.intro (w30 n _ _ hk4) True.intro) [(2, .ptr (.own 2) 0), (3, .ptr (.own 3) 0), (25, .d (.v (.bool (!k4))))] [(2, .cells ((kForm a0).map .d)), (3, .cells ((kForm a1).map .d))] [] rfl (by kernel_rfl) ?_
            refine WG.cond rfl rfl (fun hc5 => ?_) (fun hc5 => ?_)
            · have h0 := iteP hc5 h0
              refine WG.reg [] [] True.intro [(4, .d (.v (.bool false)))] [(2, .cells ((kForm a0).map .d)), (3, .cells ((kForm a1).map .d))] [] rfl (by kernel_rfl) ?_
              have e := some_inj' h0
              subst e
              exact WG.ret rfl rfl (by kernel_rfl) hK
            · have hc5 := Bool.eq_false_iff.1 hc5
              have h0 := iteN hc5 h0
              obtain ⟨k6, hk6, h0⟩ := bnd h0
              refine WG.reg [.call [] (.d (.v (.bool k6))) []] [] (And.intro (ih.2 _ _ hk6) True.intro) [(31, .d (.v (.bool (!k6))))] [(2, .cells ((kForm a0).map .d)), (3, .cells ((kForm a1).map .d))] [] rfl (by kernel_rfl) ?_
              refine WG.cond rfl rfl (fun hc7 => ?_) (fun hc7 => ?_)
              · have h0 := iteP hc7 h0
                refine WG.reg [] [] True.intro [(4, .d (.v (.bool false)))] [(2, .cells ((kForm a0).map .d)), (3, .cells ((kForm a1).map .d))] [] rfl (by kernel_rfl) ?_
                have e := some_inj' h0
                subst e
                exact WG.ret rfl rfl (by kernel_rfl) hK
              · have hc7 := Bool.eq_false_iff.1 hc7
                have h0 := iteN hc7 h0
                refine WG.reg [] [] True.intro [(4, .d (.v (.bool true)))] [(2, .cells ((kForm a0).map .d)), (3, .cells ((kForm a1).map .d))] [] rfl (by kernel_rfl) ?_
                have e := some_inj' h0
                subst e
                exact WG.ret rfl rfl (by kernel_rfl) hK
    · intro a0 a1 r h0
      rw [m58] at h0
      refine SCall.mk Tryd.func58 rfl rfl rfl rfl [(0, .d (.sl 5 false (ksForm a0))), (1, .d (.sl 5 false (ksForm a1)))] rfl rfl rfl (fun L ks low K hl hL hlen hK => ?_)
      refine WG.reg [] [] True.intro [(0, .d (.sl 5 false (ksForm a0))), (1, .d (.sl 5 false (ksForm a1)))] [] [] rfl (by kernel_rfl) ?_
      refine WG.reg [.v (a0.length : Int), .v (a1.length : Int)] [] (And.intro (dForm.len' a0) (And.intro (dForm.len' a1) True.intro)) [(0, .d (.sl 5 false (ksForm a0))), (1, .d (.sl 5 false (ksForm a1))), (10, .d (.v (.bool (decide (¬ (a0.length : Int) = (a1.length : Int))))))] [] [] rfl (by kernel_rfl) ?_
      refine WG.slLen 0 rfl (fun hb1 => ?_)
      rw [dForm.length] at hb1
      refine WG.slLen 1 rfl (fun hb2 => ?_)
      rw [dForm.length] at hb2
      refine WG.condP rfl rfl (fun hc3 => ?_) (fun hc3 => ?_)
      · have h0 := iteP hc3 h0
        refine WG.reg [] [] True.intro [(4, .d (.v (.bool false)))] [] [] rfl (by kernel_rfl) ?_
        have e := some_inj' h0
        subst e
        exact WG.ret rfl rfl (by kernel_rfl) hK
      · have h0 := iteN hc3 h0
        refine WG.reg [] [] True.intro [(0, .d (.sl 5 false (ksForm a0))), (1, .d (.sl 5 false (ksForm a1))), (5, .d (.v (.int .i64 0)))] [] [] rfl (by kernel_rfl) ?_
        refine WG.listI h0 rfl (fun i4 s5 => [(0, .d (.sl 5 false (ksForm a0))), (1, .d (.sl 5 false (ksForm a1))), (5, .d (.v (.int .i64 (i4 : Int))))]) (fun i4 s5 => []) (fun i4 s5 => []) [] rfl rfl rfl (fun i4 s5 q6 hd8 hi10 h0 => ?_)
        refine WG.reg [.v (a0.length : Int)] [] (And.intro (dForm.len' a0) True.intro) [(0, .d (.sl 5 false (ksForm a0))), (1, .d (.sl 5 false (ksForm a1))), (5, .d (.v (.int .i64 (i4 : Int)))), (14, .d (.v (.bool (decide ((i4 : Int) < (a0.length : Int))))))] [] [] rfl (by kernel_rfl) ?_
        refine WG.condP rfl rfl (fun hc11 => ?_) (fun hc11 => ?_)
        · obtain ⟨x7, q62, rfl, hx7, hd9⟩ := drop_cons' hd8 (by omega)
          obtain ⟨y1, h1, hw1, hn1⟩ := forI_cons h0
          obtain ⟨e12, he12, h1⟩ := bnd h1
          obtain ⟨k13, hk13, h1⟩ := bnd h1
          refine WG.regD mixed [(2, [.cs (kForm x7)]), (6, [.cs (kForm e12)]), (8, [.call [] (.d (.v (.bool k13))) []])] [] (And.intro (dForm.idn hx7) (And.intro (dForm.idx he12) (And.intro (ih.1 _ _ hk13) True.intro))) [(0, .d (.sl 5 false (ksForm a0))), (1, .d (.sl 5 false (ksForm a1))), (5, .d (.v (.int .i64 (i4 : Int)))), (26, .d (.v (.bool (!k13))))] [] [] rfl (by kernel_rfl) ?_
          refine WG.cond rfl rfl (fun hc14 => ?_) (fun hc14 => ?_)
          · have h1 := iteP hc14 h1
            refine WG.reg [] [] True.intro [(4, .d (.v (.bool false)))] [] [] rfl (by kernel_rfl) ?_
            have e := some_inj' h1
            subst e
            have e := hw1 _ rfl
            subst e
            exact WG.ret rfl rfl (by kernel_rfl) hK
          · have hc14 := Bool.eq_false_iff.1 hc14
            have h1 := iteN hc14 h1
            refine WG.reg [.v ((i4 + 1 : Nat) : Int)] [] (And.intro (wn (i := i4) (by omega)) True.intro) [(0, .d (.sl 5 false (ksForm a0))), (1, .d (.sl 5 false (ksForm a1))), (5, .d (.v (.int .i64 ((i4 + 1 : Nat) : Int))))] [] [] rfl (by kernel_rfl) ?_
            have e := some_inj' h1
            subst e
            exact WG.nextL rfl (i4 + 1) _ hd9 (by omega) (hn1 _ rfl) [] rfl rfl rfl
        · obtain rfl := drop_nil' hd8 (by omega)
          have h0 := forI_nil h0
          refine WG.reg [] [] True.intro [(4, .d (.v (.bool true)))] [] [] rfl (by kernel_rfl) ?_
          have e := some_inj' h0
          subst e
          exact WG.ret rfl rfl (by kernel_rfl) hK
theorem w26 (n : Nat) : ∀ (a0 : Form) (a1 : Form) {r : Bool}, m26 n a0 a1 = some r → SCall X.E 26 [.d (.agg (kForm a0)), .d (.agg (kForm a1))] [] (.d (.v (.bool r))) [] := (g26 n).1
theorem w58 (n : Nat) : ∀ (a0 : List Form) (a1 : List Form) {r : Bool}, m58 n a0 a1 = some r → SCall X.E 58 [.d (.sl 5 false (ksForm a0)), .d (.sl 5 false (ksForm a1))] [] (.d (.v (.bool r))) [] := (g26 n).2
mutual
def m21 : Nat → Core → Core → Option (Bool)
  | 0, _, _ => none
  | n + 1, a0, a1 => (if ¬ a0.kind = a1.kind then some false else (if ¬ a0.id = a1.id then some false else (if ¬ a0.name = a1.name then some false else (if ¬ a0.n = a1.n then some false else (m30 n a0.ids a1.ids).bind fun k5 => (if (!k5) = true then some false else (m26 n a0.data a1.data).bind fun k7 => (if (!k7) = true then some false else (m51 n a0.kids a1.kids).bind fun k9 => (if (!k9) = true then some false else some true)))))))
def m51 : Nat → (List Core) → (List Core) → Option (Bool)
  | 0, _, _ => none
  | n + 1, a0, a1 => (if ¬ (a0.length : Int) = (a1.length : Int) then some false else seqS (forI (fun (s5 : Unit) (i4 : Nat) (x7 : Core) => ((atI a1 (i4 : Int)).bind fun e12 => (m21 n x7 e12).bind fun k13 => (if (!k13) = true then some (Sum.inl false) else some (Sum.inr ())) : Option (Bool ⊕ Unit))) 0 a0 ()) (fun (s5 : Unit) => some true))
end
theorem g21 (n : Nat) : (∀ (a0 : Core) (a1 : Core) {r : Bool}, m21 n a0 a1 = some r → SCall X.E 21 [.d (.agg (kCore a0)), .d (.agg (kCore a1))] [] (.d (.v (.bool r))) []) ∧ (∀ (a0 : List Core) (a1 : List Core) {r : Bool}, m51 n a0 a1 = some r → SCall X.E 51 [.d (.sl 11 false (ksCore a0)), .d (.sl 11 false (ksCore a1))] [] (.d (.v (.bool r))) []) := by
  induction n with
  | zero => exact ⟨(by intros; rename_i h; cases h), (by intros; rename_i h; cases h)⟩
  | succ n ih =>
    refine ⟨?_, ?_⟩
    · intro a0 a1 r h0
      rw [m21] at h0
      refine SCall.mk Tryd.func21 rfl rfl rfl rfl [(0, .d (.agg (kCore a0))), (1, .d (.agg (kCore a1)))] rfl rfl rfl (fun L ks low K hl hL hlen hK => ?_)
      refine WG.reg [] [] True.intro [(2, .ptr (.own 2) 0), (3, .ptr (.own 3) 0)] [(2, .cells ((kCore a0).map .d)), (3, .cells ((kCore a1).map .d))] [] rfl (by kernel_rfl) ?_
      refine WG.reg [] [] True.intro [(2, .ptr (.own 2) 0), (3, .ptr (.own 3) 0), (9, .d (.v (.bool (decide (¬ a0.kind = a1.kind)))))] [(2, .cells ((kCore a0).map .d)), (3, .cells ((kCore a1).map .d))] [] rfl (by kernel_rfl) ?_
      refine WG.condP rfl rfl (fun hc1 => ?_) (fun hc1 => ?_)
      · have h0 := iteP hc1 h0
        refine WG.reg [] [] True.intro [(4, .d (.v (.bool false)))] [(2, .cells ((kCore a0).map .d)), (3, .cells ((kCore a1).map .d))] [] rfl (by kernel_rfl) ?_
        have e := some_inj' h0
        subst e
        exact WG.ret rfl rfl (by kernel_rfl) hK
      · have h0 := iteN hc1 h0
        refine WG.reg [] [] True.intro [(2, .ptr (.own 2) 0), (3, .ptr (.own 3) 0), (14, .d (.v (.bool (decide (¬ a0.id = a1.id)))))] [(2, .cells ((kCore a0).map .d)), (3, .cells ((kCore a1).map .d))] [] rfl (by kernel_rfl) ?_
        refine WG.condP rfl rfl (fun hc2 => ?_) (fun hc2 => ?_)
        · have h0 := iteP hc2 h0
          refine WG.reg [] [] True.intro [(4, .d (.v (.bool false)))] [(2, .cells ((kCore a0).map .d)), (3, .cells ((kCore a1).map .d))] [] rfl (by kernel_rfl) ?_
          have e := some_inj' h0
          subst e
          exact WG.ret rfl rfl (by kernel_rfl) hK
        · have h0 := iteN hc2 h0
          refine WG.reg [] [] True.intro [(2, .ptr (.own 2) 0), (3, .ptr (.own 3) 0), (19, .d (.v (.bool (decide (¬ a0.name = a1.name)))))] [(2, .cells ((kCore a0).map .d)), (3, .cells ((kCore a1).map .d))] [] rfl (by kernel_rfl) ?_
          refine WG.condP rfl rfl (fun hc3 => ?_) (fun hc3 => ?_)
          · have h0 := iteP hc3 h0
            refine WG.reg [] [] True.intro [(4, .d (.v (.bool false)))] [(2, .cells ((kCore a0).map .d)), (3, .cells ((kCore a1).map .d))] [] rfl (by kernel_rfl) ?_
            have e := some_inj' h0
            subst e
            exact WG.ret rfl rfl (by kernel_rfl) hK
          · have h0 := iteN hc3 h0
            refine WG.reg [] [] True.intro [(2, .ptr (.own 2) 0), (3, .ptr (.own 3) 0), (24, .d (.v (.bool (decide (¬ a0.n = a1.n)))))] [(2, .cells ((kCore a0).map .d)), (3, .cells ((kCore a1).map .d))] [] rfl (by kernel_rfl) ?_
            refine WG.condP rfl rfl (fun hc4 => ?_) (fun hc4 => ?_)
            · have h0 := iteP hc4 h0
              refine WG.reg [] [] True.intro [(4, .d (.v (.bool false)))] [(2, .cells ((kCore a0).map .d)), (3, .cells ((kCore a1).map .d))] [] rfl (by kernel_rfl) ?_
              have e := some_inj' h0
              subst e
              exact WG.ret rfl rfl (by kernel_rfl) hK
            · have h0 := iteN hc4 h0
              obtain ⟨k5, hk5, h0⟩ := bnd h0
              refine WG.reg [.call [] (.d (.v (.bool k5))) []] [] (And.intro (w30 n _ _ hk5) True.intro) [(2, .ptr (.own 2) 0), (3, .ptr (.own 3) 0), (30, .d (.v (.bool (!k5))))] [(2, .cells ((kCore a0).map .d)), (3, .cells ((kCore a1).map .d))] [] rfl (by kernel_rfl) ?_
              refine WG.cond rfl rfl (fun hc6 => ?_) (fun hc6 => ?_)
              · have h0 := iteP hc6 h0
                refine WG.reg [] [] True.intro [(4, .d (.v (.bool false)))] [(2, .cells ((kCore a0).map .d)), (3, .cells ((kCore a1).map .d))] [] rfl (by kernel_rfl) ?_
                have e := some_inj' h0
                subst e
                exact WG.ret rfl rfl (by kernel_rfl) hK
              · have hc6 := Bool.eq_false_iff.1 hc6
                have h0 := iteN hc6 h0
                obtain ⟨k7, hk7, h0⟩ := bnd h0
                refine WG.reg [.call [] (.d (.v (.bool k7))) []] [] (And.intro (w26 n _ _ hk7) True.intro) [(2, .ptr (.own 2) 0), (3, .ptr (.own 3) 0), (36, .d (.v (.bool (!k7))))] [(2, .cells ((kCore a0).map .d)), (3, .cells ((kCore a1).map .d))] [] rfl (by kernel_rfl) ?_
                refine WG.cond rfl rfl (fun hc8 => ?_) (fun hc8 => ?_)
                · have h0 := iteP hc8 h0
                  refine WG.reg [] [] True.intro [(4, .d (.v (.bool false)))] [(2, .cells ((kCore a0).map .d)), (3, .cells ((kCore a1).map .d))] [] rfl (by kernel_rfl) ?_
                  have e := some_inj' h0
                  subst e
                  exact WG.ret rfl rfl (by kernel_rfl) hK
                · have hc8 := Bool.eq_false_iff.1 hc8
                  have h0 := iteN hc8 h0
                  obtain ⟨k9, hk9, h0⟩ := bnd h0
                  refine WG.reg [.call [] (.d (.v (.bool k9))) []] [] (And.intro (ih.2 _ _ hk9) True.intro) [(42, .d (.v (.bool (!k9))))] [(2, .cells ((kCore a0).map .d)), (3, .cells ((kCore a1).map .d))] [] rfl (by kernel_rfl) ?_
                  refine WG.cond rfl rfl (fun hc10 => ?_) (fun hc10 => ?_)
                  · have h0 := iteP hc10 h0
                    refine WG.reg [] [] True.intro [(4, .d (.v (.bool false)))] [(2, .cells ((kCore a0).map .d)), (3, .cells ((kCore a1).map .d))] [] rfl (by kernel_rfl) ?_
                    have e := some_inj' h0
                    subst e
                    exact WG.ret rfl rfl (by kernel_rfl) hK
                  · have hc10 := Bool.eq_false_iff.1 hc10
                    have h0 := iteN hc10 h0
                    refine WG.reg [] [] True.intro [(4, .d (.v (.bool true)))] [(2, .cells ((kCore a0).map .d)), (3, .cells ((kCore a1).map .d))] [] rfl (by kernel_rfl) ?_
                    have e := some_inj' h0
                    subst e
                    exact WG.ret rfl rfl (by kernel_rfl) hK
    · intro a0 a1 r h0
      rw [m51] at h0
      refine SCall.mk Tryd.func51 rfl rfl rfl rfl [(0, .d (.sl 11 false (ksCore a0))), (1, .d (.sl 11 false (ksCore a1)))] rfl rfl rfl (fun L ks low K hl hL hlen hK => ?_)
      refine WG.reg [] [] True.intro [(0, .d (.sl 11 false (ksCore a0))), (1, .d (.sl 11 false (ksCore a1)))] [] [] rfl (by kernel_rfl) ?_
      refine WG.reg [.v (a0.length : Int), .v (a1.length : Int)] [] (And.intro (dCore.len' a0) (And.intro (dCore.len' a1) True.intro)) [(0, .d (.sl 11 false (ksCore a0))), (1, .d (.sl 11 false (ksCore a1))), (10, .d (.v (.bool (decide (¬ (a0.length : Int) = (a1.length : Int))))))] [] [] rfl (by kernel_rfl) ?_
      refine WG.slLen 0 rfl (fun hb1 => ?_)
      rw [dCore.length] at hb1
      refine WG.slLen 1 rfl (fun hb2 => ?_)
      rw [dCore.length] at hb2
      refine WG.condP rfl rfl (fun hc3 => ?_) (fun hc3 => ?_)
      · have h0 := iteP hc3 h0
        refine WG.reg [] [] True.intro [(4, .d (.v (.bool false)))] [] [] rfl (by kernel_rfl) ?_
        have e := some_inj' h0
        subst e
        exact WG.ret rfl rfl (by kernel_rfl) hK
      · have h0 := iteN hc3 h0
        refine WG.reg [] [] True.intro [(0, .d (.sl 11 false (ksCore a0))), (1, .d (.sl 11 false (ksCore a1))), (5, .d (.v (.int .i64 0)))] [] [] rfl (by kernel_rfl) ?_
        refine WG.listI h0 rfl (fun i4 s5 => [(0, .d (.sl 11 false (ksCore a0))), (1, .d (.sl 11 false (ksCore a1))), (5, .d (.v (.int .i64 (i4 : Int))))]) (fun i4 s5 => []) (fun i4 s5 => []) [] rfl rfl rfl (fun i4 s5 q6 hd8 hi10 h0 => ?_)
        refine WG.reg [.v (a0.length : Int)] [] (And.intro (dCore.len' a0) True.intro) [(0, .d (.sl 11 false (ksCore a0))), (1, .d (.sl 11 false (ksCore a1))), (5, .d (.v (.int .i64 (i4 : Int)))), (14, .d (.v (.bool (decide ((i4 : Int) < (a0.length : Int))))))] [] [] rfl (by kernel_rfl) ?_
        refine WG.condP rfl rfl (fun hc11 => ?_) (fun hc11 => ?_)
        · obtain ⟨x7, q62, rfl, hx7, hd9⟩ := drop_cons' hd8 (by omega)
          obtain ⟨y1, h1, hw1, hn1⟩ := forI_cons h0
          obtain ⟨e12, he12, h1⟩ := bnd h1
          obtain ⟨k13, hk13, h1⟩ := bnd h1
          refine WG.regD mixed [(2, [.cs (kCore x7)]), (6, [.cs (kCore e12)]), (8, [.call [] (.d (.v (.bool k13))) []])] [] (And.intro (dCore.idn hx7) (And.intro (dCore.idx he12) (And.intro (ih.1 _ _ hk13) True.intro))) [(0, .d (.sl 11 false (ksCore a0))), (1, .d (.sl 11 false (ksCore a1))), (5, .d (.v (.int .i64 (i4 : Int)))), (26, .d (.v (.bool (!k13))))] [] [] rfl (by kernel_rfl) ?_
          refine WG.cond rfl rfl (fun hc14 => ?_) (fun hc14 => ?_)
          · have h1 := iteP hc14 h1
            refine WG.reg [] [] True.intro [(4, .d (.v (.bool false)))] [] [] rfl (by kernel_rfl) ?_
            have e := some_inj' h1
            subst e
            have e := hw1 _ rfl
            subst e
            exact WG.ret rfl rfl (by kernel_rfl) hK
          · have hc14 := Bool.eq_false_iff.1 hc14
            have h1 := iteN hc14 h1
            refine WG.reg [.v ((i4 + 1 : Nat) : Int)] [] (And.intro (wn (i := i4) (by omega)) True.intro) [(0, .d (.sl 11 false (ksCore a0))), (1, .d (.sl 11 false (ksCore a1))), (5, .d (.v (.int .i64 ((i4 + 1 : Nat) : Int))))] [] [] rfl (by kernel_rfl) ?_
            have e := some_inj' h1
            subst e
            exact WG.nextL rfl (i4 + 1) _ hd9 (by omega) (hn1 _ rfl) [] rfl rfl rfl
        · obtain rfl := drop_nil' hd8 (by omega)
          have h0 := forI_nil h0
          refine WG.reg [] [] True.intro [(4, .d (.v (.bool true)))] [] [] rfl (by kernel_rfl) ?_
          have e := some_inj' h0
          subst e
          exact WG.ret rfl rfl (by kernel_rfl) hK
theorem w21 (n : Nat) : ∀ (a0 : Core) (a1 : Core) {r : Bool}, m21 n a0 a1 = some r → SCall X.E 21 [.d (.agg (kCore a0)), .d (.agg (kCore a1))] [] (.d (.v (.bool r))) [] := (g21 n).1
theorem w51 (n : Nat) : ∀ (a0 : List Core) (a1 : List Core) {r : Bool}, m51 n a0 a1 = some r → SCall X.E 51 [.d (.sl 11 false (ksCore a0)), .d (.sl 11 false (ksCore a1))] [] (.d (.v (.bool r))) [] := (g21 n).2
def m5 (n : Nat) (a0 : Core) : Option (Bool) :=
  (m17 n a0 1048576).bind fun k1 => (if k1 < 0 then some true else (m19 n a0).bind fun k3 => (m18 n k3).bind fun k4 => (m19 n a0).bind fun k5 => (m20 n k5).bind fun k6 => (if (!(k6 == k4)) = true then some false else (m19 n a0).bind fun k8 => (m21 n k5 k8).bind fun k9 => (if (!k9) = true then some false else some true)))
theorem w5 (n : Nat) : ∀ (a0 : Core) {r : Bool}, m5 n a0 = some r → SCall X.E 5 [.d (.agg (kCore a0))] [] (.d (.v (.bool r))) [] := by
  intro a0 r h0
  rw [m5] at h0
  refine SCall.mk Tryd.func5 rfl rfl rfl rfl [(0, .d (.agg (kCore a0)))] rfl rfl rfl (fun L ks low K hl hL hlen hK => ?_)
  refine WG.reg [] [] True.intro [(1, .ptr (.own 1) 0)] [(1, .cells ((kCore a0).map .d))] [] rfl (by kernel_rfl) ?_
  refine WG.reg [] [] True.intro [(1, .ptr (.own 1) 0), (3, .d (.v (.int .i64 1048576)))] [(1, .cells ((kCore a0).map .d))] [] rfl (by kernel_rfl) ?_
  obtain ⟨k1, hk1, h0⟩ := bnd h0
  refine WG.reg [.call [] (.d (.v (.int .i64 k1))) []] [] (And.intro (w17 n _ _ hk1) True.intro) [(1, .ptr (.own 1) 0), (3, .d (.v (.int .i64 k1)))] [(1, .cells ((kCore a0).map .d))] [] rfl (by kernel_rfl) ?_
  refine WG.reg [] [] True.intro [(1, .ptr (.own 1) 0), (11, .d (.v (.bool (decide (k1 < 0)))))] [(1, .cells ((kCore a0).map .d))] [] rfl (by kernel_rfl) ?_
  refine WG.condP rfl rfl (fun hc2 => ?_) (fun hc2 => ?_)
  · have h0 := iteP hc2 h0
    refine WG.reg [] [] True.intro [(2, .d (.v (.bool true)))] [(1, .cells ((kCore a0).map .d))] [] rfl (by kernel_rfl) ?_
    have e := some_inj' h0
    subst e
    exact WG.ret rfl rfl (by kernel_rfl) hK
  · have h0 := iteN hc2 h0
    obtain ⟨k3, hk3, h0⟩ := bnd h0
    obtain ⟨k4, hk4, h0⟩ := bnd h0
    refine WG.reg [.call [] (.d (.agg (kCore k3))) [], .call [] (.d (.v (.bool k4))) []] [] (And.intro (w19 n _ hk3) (And.intro (w18 n _ hk4) True.intro)) [(1, .ptr (.own 1) 0), (4, .d (.v (.bool k4)))] [(1, .cells ((kCore a0).map .d))] [] rfl (by kernel_rfl) ?_
    obtain ⟨k5, hk5, h0⟩ := bnd h0
    refine WG.reg [.call [] (.d (.agg (kCore k5))) []] [] (And.intro (w19 n _ hk5) True.intro) [(1, .ptr (.own 1) 0), (4, .d (.v (.bool k4))), (5, .ptr (.own 5) 0)] [(1, .cells ((kCore a0).map .d)), (5, .cells ((kCore k5).map .d))] [] rfl (by kernel_rfl) ?_
    obtain ⟨k6, hk6, h0⟩ := bnd h0
    refine WG.reg [.call [] (.d (.v (.bool k6))) []] [] (And.intro (w20 n _ hk6) True.intro) [(1, .ptr (.own 1) 0), (4, .d (.v (.bool k4))), (5, .ptr (.own 5) 0), (6, .d (.v (.bool k6)))] [(1, .cells ((kCore a0).map .d)), (5, .cells ((kCore k5).map .d))] [] rfl (by kernel_rfl) ?_
    refine WG.reg [] [] True.intro [(1, .ptr (.own 1) 0), (5, .ptr (.own 5) 0), (21, .d (.v (.bool (!(k6 == k4)))))] [(1, .cells ((kCore a0).map .d)), (5, .cells ((kCore k5).map .d))] [] rfl (by kernel_rfl) ?_
    refine WG.cond rfl rfl (fun hc7 => ?_) (fun hc7 => ?_)
    · have h0 := iteP hc7 h0
      refine WG.reg [] [] True.intro [(2, .d (.v (.bool false)))] [(1, .cells ((kCore a0).map .d)), (5, .cells ((kCore k5).map .d))] [] rfl (by kernel_rfl) ?_
      have e := some_inj' h0
      subst e
      exact WG.ret rfl rfl (by kernel_rfl) hK
    · have hc7 := Bool.eq_false_iff.1 hc7
      have h0 := iteN hc7 h0
      obtain ⟨k8, hk8, h0⟩ := bnd h0
      obtain ⟨k9, hk9, h0⟩ := bnd h0
      refine WG.regD mixed [(2, [.call [] (.d (.agg (kCore k8))) []]), (3, [.call [] (.d (.v (.bool k9))) []])] [] (And.intro (w19 n _ hk8) (And.intro (w21 n _ _ hk9) True.intro)) [(26, .d (.v (.bool (!k9))))] [(1, .cells ((kCore a0).map .d)), (5, .cells ((kCore k5).map .d))] [] rfl (by kernel_rfl) ?_
      refine WG.cond rfl rfl (fun hc10 => ?_) (fun hc10 => ?_)
      · have h0 := iteP hc10 h0
        refine WG.reg [] [] True.intro [(2, .d (.v (.bool false)))] [(1, .cells ((kCore a0).map .d)), (5, .cells ((kCore k5).map .d))] [] rfl (by kernel_rfl) ?_
        have e := some_inj' h0
        subst e
        exact WG.ret rfl rfl (by kernel_rfl) hK
      · have hc10 := Bool.eq_false_iff.1 hc10
        have h0 := iteN hc10 h0
        refine WG.reg [] [] True.intro [(2, .d (.v (.bool true)))] [(1, .cells ((kCore a0).map .d)), (5, .cells ((kCore k5).map .d))] [] rfl (by kernel_rfl) ?_
        have e := some_inj' h0
        subst e
        exact WG.ret rfl rfl (by kernel_rfl) hK
end Go.Ev
