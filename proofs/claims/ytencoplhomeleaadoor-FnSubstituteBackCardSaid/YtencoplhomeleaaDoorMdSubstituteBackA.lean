/- Models of the functions that FnSubstituteBack reaches. No condition. -/
import Derived.Test.YtencoplhomeleaaDoorEvTri
import Derived.Test.YtencoplhomeleaaDoorProg
import Derived.KernelRfl
import Derived.Test.YtencoplhomeleaaDoorShT3d
namespace Go.Ev
open Go.Proofs Go.Mx
set_option linter.unusedVariables false
set_option maxRecDepth 10000
def tT : List (Nat × (Nat × Nat × Shp)) := [(3, (1, 8, .int .i64)), (4, (1, 1, .bool)), (5, (1, 1, .int .u8)), (9, (1, 16, .str)), (22, (1, 24, .slice 5)), (23, (1, 24, .slice 3)), (24, (1, 24, .slice 26)), (26, (5, 80, .struct [(0, 1), (1, 1), (2, 1), (3, 1), (4, 1)])), (27, (1, 24, .slice 29)), (29, (11, 168, .struct [(0, 1), (1, 1), (2, 1), (3, 1), (4, 1), (5, 5), (10, 1)])), (71, (2, 32, .struct [(0, 1), (1, 1)])), (74, (1, 24, .slice 9)), (76, (6, 96, .array 6 9))]
def tZ : List (Nat × List KD) := [(3, [.v (.int .i64 0)]), (4, [.v (.bool false)]), (9, [.s []]), (23, [.sl 1 true (ksInt [])]), (26, [.v (.int .i64 0), .s [], .v (.int .i64 0), .sl 1 true (ksInt []), .sl 5 true (ksForm [])]), (29, [.v (.int .i64 0), .v (.int .i64 0), .s [], .v (.int .i64 0), .sl 1 true (ksInt []), .v (.int .i64 0), .s [], .v (.int .i64 0), .sl 1 true (ksInt []), .sl 5 true (ksForm []), .sl 11 true (ksCore [])]), (71, [.sl 1 true (ksByte []), .v (.int .i64 0)])]
theorem tT_ok : allT (fun i x => tShape Tryd.prog i = some x) tT := by
  refine ⟨?_, ?_, ?_, ?_, ?_, ?_, ?_, ?_, ?_, ?_, ?_, ?_, ?_, trivial⟩ <;> (show tShape _ _ = _; kernel_rfl)
theorem tZ_ok : allT (fun i x => ∃ zs, tZero Tryd.prog i = some zs ∧ ZeroL (KD.DL x) zs) tZ :=
  ⟨⟨_, (by kernel_rfl : tZero Tryd.prog 3 = some [.int .i64 0]), (.v .nil)⟩, ⟨_, (by kernel_rfl : tZero Tryd.prog 4 = some [.bool false]), (.v .nil)⟩, ⟨_, (by kernel_rfl : tZero Tryd.prog 9 = some [.string (mkS [])]), (.v .nil)⟩, ⟨_, (by kernel_rfl : tZero Tryd.prog 23 = some [.slice none 0 0]), (.sl .nil)⟩, ⟨_, (by kernel_rfl : tZero Tryd.prog 26 = some [.int .i64 0, .string (mkS []), .int .i64 0, .slice none 0 0, .slice none 0 0]), (.v (.v (.v (.sl (.sl .nil)))))⟩, ⟨_, (by kernel_rfl : tZero Tryd.prog 29 = some [.int .i64 0, .int .i64 0, .string (mkS []), .int .i64 0, .slice none 0 0, .int .i64 0, .string (mkS []), .int .i64 0, .slice none 0 0, .slice none 0 0, .slice none 0 0]), (.v (.v (.v (.v (.sl (.v (.v (.v (.sl (.sl (.sl .nil)))))))))))⟩, ⟨_, (by kernel_rfl : tZero Tryd.prog 71 = some [.slice none 0 0, .int .i64 0]), (.sl (.v .nil))⟩, trivial⟩
def lp0 : List (List UInt8) := [[108, 105, 115, 116], [43], [60], [61], [104, 101, 97, 100], [116, 97, 105, 108]]
def gp0 : List KD := [.s [108, 105, 115, 116], .s [43], .s [60], .s [61], .s [104, 101, 97, 100], .s [116, 97, 105, 108]]
def globK : Nat → KD
  | 0 => .ro gp0
  | _ => .any
noncomputable def E0 : Setting := ⟨Tryd.prog, fun g => (globK g).D, fun g => KD.keyless _ _⟩
noncomputable def X : Ctx := ⟨E0, globK, fun _ => rfl, ⟨lkT tT, lkT tZ, lk_all tT_ok, lk_all tZ_ok⟩⟩
theorem mixed : X.E.P.follows .mixedOrders = true := by kernel_rfl
def slices_Equal_int (n : Nat) (a0 : List Int) (a1 : List Int) : Option (Bool) :=
  (if ¬ (a0.length : Int) = (a1.length : Int) then some false else seqS (forI (fun (s5 : Unit) (i4 : Nat) (x7 : Int) => ((atI a1 (i4 : Int)).bind fun e12 => (if ¬ x7 = e12 then some (Sum.inl false) else some (Sum.inr ())) : Option (Bool ⊕ Unit))) 0 a0 ()) (fun (s5 : Unit) => some true))
theorem w_slices_Equal_int (n : Nat) : ∀ (a0 : List Int) (a1 : List Int) {r : Bool}, slices_Equal_int n a0 a1 = some r → SCall X.E 62 [lE 1 (ksInt a0), lE 1 (ksInt a1)] [] (bE r) [] := by
  intro a0 a1 r h0
  rw [slices_Equal_int] at h0
  refine .m Tryd.func62 rfl rfl rfl (by kernel_rfl) (fun L ks low K hl hL hlen hK => ?_)
  refine .r [] T [] rfl (by kernel_rfl) ?_
  refine .r [.v (a0.length : Int), .v (a1.length : Int)] (A (dInt.len' a0) (A (dInt.len' a1) T)) [(10, dE (¬ (a0.length : Int) = (a1.length : Int)))] rfl (by kernel_rfl) ?_
  refine .sn 0 dInt a0 (by kernel_rfl) (fun hb1 => ?_)
  refine .sn 1 dInt a1 (by kernel_rfl) (fun hb2 => ?_)
  refine .cP h0 rfl (by kernel_rfl) (fun hc3 h0 => ?_) (fun hc3 h0 => ?_)
  · refine .r [] T [(4, bE false)] rfl (by kernel_rfl) ?_
    cases h0
    exact .ret rfl rfl (by kernel_rfl) hK
  · refine .r [.v (a0.length : Int)] (A (dInt.len' a0) T) [(12, iE (a0.length : Int)), (13, iE 0)] rfl (by kernel_rfl) ?_
    refine .lI h0 rfl [0, 1, 12] (fun i4 s5 => [(13, iE (i4 : Int))]) n2 n2 [] (by kernel_rfl) (fun i4 s5 q6 hd8 hi10 h0 => ?_)
    refine .r [] T [(14, dE ((i4 : Int) < (a0.length : Int)))] rfl (by kernel_rfl) ?_
    refine .lc hd8 rfl (by kernel_rfl) (fun x7 q62 hc11 hx7 hd9 hd9l => ?_) (fun hc11 => ?_)
    · subst hc11
      obtain ⟨y1, h1, hw1, hn1⟩ := forI_cons h0
      refine .r [] T [(5, iE (i4 : Int))] rfl (by kernel_rfl) ?_
      obtain ⟨e12, he12, h1⟩ := bnd h1
      refine .rd mixed [(2, [.cs [.v (.int .i64 x7)]]), (6, [.cs [.v (.int .i64 e12)]])] [] (A (dInt.idn hx7) (A (dInt.idx he12) T)) [(24, dE (¬ x7 = e12))] [] [] rfl (by kernel_rfl) ?_
      refine .cP h1 rfl (by kernel_rfl) (fun hc13 h1 => ?_) (fun hc13 h1 => ?_)
      · refine .r [] T [(4, bE false)] rfl (by kernel_rfl) ?_
        cases h1
        cases hw1 _ rfl
        exact .ret rfl rfl (by kernel_rfl) hK
      · refine .r [.v ((i4 + 1 : Nat) : Int)] (A (wn (i := i4) (by omega)) T) [(13, iE ((i4 + 1 : Nat) : Int))] rfl (by kernel_rfl) ?_
        cases h1
        exact .nL rfl (i4 + 1) _ hd9 hd9l (hn1 _ rfl) [] (by kernel_rfl)
    · subst hc11
      have h0 := forI_nil h0
      refine .r [] T [(4, bE true)] rfl (by kernel_rfl) ?_
      cases h0
      exact .ret rfl rfl (by kernel_rfl) hK
mutual
def im_FormSame : Nat → Form → Form → Option (Bool)
  | 0, _, _ => none
  | n + 1, a0, a1 => Option.bind ((if a0.kind = a1.kind then (if a0.name = a1.name then (if a0.n = a1.n then (slices_Equal_int n a0.scopes a1.scopes).bind fun k5 => (if k5 = true then (slices_EqualFunc_impl_Form__im_FormSame n a0.kids a1.kids).bind fun k7 => some k7 else some false) else some false) else some false) else some false) : Option (Bool)) (fun (o1 : Bool) => some o1)
def slices_EqualFunc_impl_Form__im_FormSame : Nat → (List Form) → (List Form) → Option (Bool)
  | 0, _, _ => none
  | n + 1, a0, a1 => (if ¬ (a0.length : Int) = (a1.length : Int) then some false else seqS (forI (fun (s5 : Unit) (i4 : Nat) (x7 : Form) => ((atI a1 (i4 : Int)).bind fun e12 => (im_FormSame n x7 e12).bind fun k13 => (if (!k13) = true then some (Sum.inl false) else some (Sum.inr ())) : Option (Bool ⊕ Unit))) 0 a0 ()) (fun (s5 : Unit) => some true))
end
theorem g_im_FormSame (n : Nat) : (∀ (a0 : Form) (a1 : Form) {r : Bool}, im_FormSame n a0 a1 = some r → SCall X.E 63 [aE (kForm a0), aE (kForm a1)] [] (bE r) []) ∧ (∀ (a0 : List Form) (a1 : List Form) {r : Bool}, slices_EqualFunc_impl_Form__im_FormSame n a0 a1 = some r → SCall X.E 76 [lE 5 (ksForm a0), lE 5 (ksForm a1), .clo 63 [] []] [] (bE r) []) := by
  induction n with
  | zero => exact ⟨(by intros; rename_i h; cases h), (by intros; rename_i h; cases h)⟩
  | succ n ih =>
    refine ⟨?_, ?_⟩
    · intro a0 a1 r h0
      rw [im_FormSame] at h0
      refine .m Tryd.func63 rfl rfl rfl (by kernel_rfl) (fun L ks low K hl hL hlen hK => ?_)
      refine .rf [] T [(2, pw 2), (3, pw 3)] [.o 2 (.cells ((kForm a0).map .d)), .o 3 (.cells ((kForm a1).map .d))] rfl (by kernel_rfl) ?_
      refine .bP h0 rfl [] (fun o1 => [(4, bE o1)]) n1 n1 (fun o1 h0 => ?_) (fun y1 h1 hj1 => ?_)
      · cases h0
        exact .ret rfl rfl (by kernel_rfl) hK
      · by_cases g2 : a0.kind = a1.kind
        · have h1 := iteP g2 h1
          by_cases g3 : a0.name = a1.name
          · have h1 := iteP g3 h1
            by_cases g4 : a0.n = a1.n
            · have h1 := iteP g4 h1
              obtain ⟨k5, hk5, h1⟩ := bnd h1
              by_cases g6 : k5 = true
              · have h1 := iteP g6 h1
                obtain ⟨k7, hk7, h1⟩ := bnd h1
                refine .r [.b true, .b true, .b true, .b true, .b true, .b true, .b true, .b true, .b true, .b true, .b true, .b true, .b true, .b true, .b true, .b true, .b true, .call [] (bE k5) [], .b true, .b true, .b true, .b true, .b true, .b true, .call [] (bE k7) [], .b true] (A (decide_eq_true g2 : decide (a0.kind = a1.kind) = true) (A (decide_eq_true g2 : decide (a0.kind = a1.kind) = true) (A (decide_eq_true g2 : decide (a0.kind = a1.kind) = true) (A (decide_eq_true g2 : decide (a0.kind = a1.kind) = true) (A (decide_eq_true g2 : decide (a0.kind = a1.kind) = true) (A (decide_eq_true g2 : decide (a0.kind = a1.kind) = true) (A (decide_eq_true g3 : decide (a0.name = a1.name) = true) (A (decide_eq_true g3 : decide (a0.name = a1.name) = true) (A (decide_eq_true g3 : decide (a0.name = a1.name) = true) (A (decide_eq_true g3 : decide (a0.name = a1.name) = true) (A (decide_eq_true g3 : decide (a0.name = a1.name) = true) (A (decide_eq_true g3 : decide (a0.name = a1.name) = true) (A (decide_eq_true g4 : decide (a0.n = a1.n) = true) (A (decide_eq_true g4 : decide (a0.n = a1.n) = true) (A (decide_eq_true g4 : decide (a0.n = a1.n) = true) (A (decide_eq_true g4 : decide (a0.n = a1.n) = true) (A (A (decide_eq_true g4 : decide (a0.n = a1.n) = true) (w_slices_Equal_int n _ _ hk5)) (A (decide_eq_true g4 : decide (a0.n = a1.n) = true) (A g6 (A g6 (A g6 (A g6 (A (A g6 (ih.2 _ _ hk7)) (A g6 T)))))))))))))))))))))))) [(4, bE k7)] rfl (by kernel_rfl) ?_
                cases h1
                exact .lf hj1 rfl [] (by kernel_rfl)
              · have h1 := iteN g6 h1
                refine .r [.b true, .b true, .b true, .b true, .b true, .b true, .b true, .b true, .b true, .b true, .b true, .b true, .b true, .b true, .b true, .b true, .b true, .call [] (bE k5) [], .b true, .b false, .b false, .b false, .b false, .b false, .b false] (A (decide_eq_true g2 : decide (a0.kind = a1.kind) = true) (A (decide_eq_true g2 : decide (a0.kind = a1.kind) = true) (A (decide_eq_true g2 : decide (a0.kind = a1.kind) = true) (A (decide_eq_true g2 : decide (a0.kind = a1.kind) = true) (A (decide_eq_true g2 : decide (a0.kind = a1.kind) = true) (A (decide_eq_true g2 : decide (a0.kind = a1.kind) = true) (A (decide_eq_true g3 : decide (a0.name = a1.name) = true) (A (decide_eq_true g3 : decide (a0.name = a1.name) = true) (A (decide_eq_true g3 : decide (a0.name = a1.name) = true) (A (decide_eq_true g3 : decide (a0.name = a1.name) = true) (A (decide_eq_true g3 : decide (a0.name = a1.name) = true) (A (decide_eq_true g3 : decide (a0.name = a1.name) = true) (A (decide_eq_true g4 : decide (a0.n = a1.n) = true) (A (decide_eq_true g4 : decide (a0.n = a1.n) = true) (A (decide_eq_true g4 : decide (a0.n = a1.n) = true) (A (decide_eq_true g4 : decide (a0.n = a1.n) = true) (A (A (decide_eq_true g4 : decide (a0.n = a1.n) = true) (w_slices_Equal_int n _ _ hk5)) (A (decide_eq_true g4 : decide (a0.n = a1.n) = true) (A (Bool.eq_false_iff.2 g6) (A (Bool.eq_false_iff.2 g6) (A (Bool.eq_false_iff.2 g6) (A (Bool.eq_false_iff.2 g6) (A (Bool.eq_false_iff.2 g6) (A (Bool.eq_false_iff.2 g6) T)))))))))))))))))))))))) [(4, bE false)] rfl (by kernel_rfl) ?_
                cases h1
                exact .lf hj1 rfl [] (by kernel_rfl)
            · have h1 := iteN g4 h1
              refine .r [.b true, .b true, .b true, .b true, .b true, .b true, .b true, .b true, .b true, .b true, .b true, .b true, .b false, .b false, .b false, .b false, .b false, .b false, .b false, .b false, .b false, .b false, .b false, .b false] (A (decide_eq_true g2 : decide (a0.kind = a1.kind) = true) (A (decide_eq_true g2 : decide (a0.kind = a1.kind) = true) (A (decide_eq_true g2 : decide (a0.kind = a1.kind) = true) (A (decide_eq_true g2 : decide (a0.kind = a1.kind) = true) (A (decide_eq_true g2 : decide (a0.kind = a1.kind) = true) (A (decide_eq_true g2 : decide (a0.kind = a1.kind) = true) (A (decide_eq_true g3 : decide (a0.name = a1.name) = true) (A (decide_eq_true g3 : decide (a0.name = a1.name) = true) (A (decide_eq_true g3 : decide (a0.name = a1.name) = true) (A (decide_eq_true g3 : decide (a0.name = a1.name) = true) (A (decide_eq_true g3 : decide (a0.name = a1.name) = true) (A (decide_eq_true g3 : decide (a0.name = a1.name) = true) (A (decide_eq_false g4 : decide (a0.n = a1.n) = false) (A (decide_eq_false g4 : decide (a0.n = a1.n) = false) (A (decide_eq_false g4 : decide (a0.n = a1.n) = false) (A (decide_eq_false g4 : decide (a0.n = a1.n) = false) (A (decide_eq_false g4 : decide (a0.n = a1.n) = false) (A (decide_eq_false g4 : decide (a0.n = a1.n) = false) (A (rfl : false = false) (A (rfl : false = false) (A (rfl : false = false) (A (rfl : false = false) (A (rfl : false = false) (A (rfl : false = false) T)))))))))))))))))))))))) [(4, bE false)] rfl (by kernel_rfl) ?_
              cases h1
              exact .lf hj1 rfl [] (by kernel_rfl)
          · have h1 := iteN g3 h1
            refine .r [.b true, .b true, .b true, .b true, .b true, .b true, .b false, .b false, .b false, .b false, .b false, .b false, .b false, .b false, .b false, .b false, .b false, .b false, .b false, .b false, .b false, .b false, .b false, .b false] (A (decide_eq_true g2 : decide (a0.kind = a1.kind) = true) (A (decide_eq_true g2 : decide (a0.kind = a1.kind) = true) (A (decide_eq_true g2 : decide (a0.kind = a1.kind) = true) (A (decide_eq_true g2 : decide (a0.kind = a1.kind) = true) (A (decide_eq_true g2 : decide (a0.kind = a1.kind) = true) (A (decide_eq_true g2 : decide (a0.kind = a1.kind) = true) (A (decide_eq_false g3 : decide (a0.name = a1.name) = false) (A (decide_eq_false g3 : decide (a0.name = a1.name) = false) (A (decide_eq_false g3 : decide (a0.name = a1.name) = false) (A (decide_eq_false g3 : decide (a0.name = a1.name) = false) (A (decide_eq_false g3 : decide (a0.name = a1.name) = false) (A (decide_eq_false g3 : decide (a0.name = a1.name) = false) (A (rfl : false = false) (A (rfl : false = false) (A (rfl : false = false) (A (rfl : false = false) (A (rfl : false = false) (A (rfl : false = false) (A (rfl : false = false) (A (rfl : false = false) (A (rfl : false = false) (A (rfl : false = false) (A (rfl : false = false) (A (rfl : false = false) T)))))))))))))))))))))))) [(4, bE false)] rfl (by kernel_rfl) ?_
            cases h1
            exact .lf hj1 rfl [] (by kernel_rfl)
        · have h1 := iteN g2 h1
          refine .r [.b false, .b false, .b false, .b false, .b false, .b false, .b false, .b false, .b false, .b false, .b false, .b false, .b false, .b false, .b false, .b false, .b false, .b false, .b false, .b false, .b false, .b false, .b false, .b false] (A (decide_eq_false g2 : decide (a0.kind = a1.kind) = false) (A (decide_eq_false g2 : decide (a0.kind = a1.kind) = false) (A (decide_eq_false g2 : decide (a0.kind = a1.kind) = false) (A (decide_eq_false g2 : decide (a0.kind = a1.kind) = false) (A (decide_eq_false g2 : decide (a0.kind = a1.kind) = false) (A (decide_eq_false g2 : decide (a0.kind = a1.kind) = false) (A (rfl : false = false) (A (rfl : false = false) (A (rfl : false = false) (A (rfl : false = false) (A (rfl : false = false) (A (rfl : false = false) (A (rfl : false = false) (A (rfl : false = false) (A (rfl : false = false) (A (rfl : false = false) (A (rfl : false = false) (A (rfl : false = false) (A (rfl : false = false) (A (rfl : false = false) (A (rfl : false = false) (A (rfl : false = false) (A (rfl : false = false) (A (rfl : false = false) T)))))))))))))))))))))))) [(4, bE false)] rfl (by kernel_rfl) ?_
          cases h1
          exact .lf hj1 rfl [] (by kernel_rfl)
    · intro a0 a1 r h0
      rw [slices_EqualFunc_impl_Form__im_FormSame] at h0
      refine .m Tryd.func76 rfl rfl rfl (by kernel_rfl) (fun L ks low K hl hL hlen hK => ?_)
      refine .r [] T [] rfl (by kernel_rfl) ?_
      refine .r [.v (a0.length : Int), .v (a1.length : Int)] (A (dForm.len' a0) (A (dForm.len' a1) T)) [(14, dE (¬ (a0.length : Int) = (a1.length : Int)))] rfl (by kernel_rfl) ?_
      refine .sn 0 dForm a0 (by kernel_rfl) (fun hb1 => ?_)
      refine .sn 1 dForm a1 (by kernel_rfl) (fun hb2 => ?_)
      refine .cP h0 rfl (by kernel_rfl) (fun hc3 h0 => ?_) (fun hc3 h0 => ?_)
      · refine .r [] T [(6, bE false)] rfl (by kernel_rfl) ?_
        cases h0
        exact .ret rfl rfl (by kernel_rfl) hK
      · refine .r [.v (a0.length : Int)] (A (dForm.len' a0) T) [(15, lE 5 (ksForm a0)), (16, iE (a0.length : Int)), (17, iE 0)] rfl (by kernel_rfl) ?_
        refine .lI h0 rfl [1, 2, 15, 16] (fun i4 s5 => [(17, iE (i4 : Int))]) n2 n2 [] (by kernel_rfl) (fun i4 s5 q6 hd8 hi10 h0 => ?_)
        refine .r [] T [(18, dE ((i4 : Int) < (a0.length : Int)))] rfl (by kernel_rfl) ?_
        refine .lc hd8 rfl (by kernel_rfl) (fun x7 q62 hc11 hx7 hd9 hd9l => ?_) (fun hc11 => ?_)
        · subst hc11
          obtain ⟨y1, h1, hw1, hn1⟩ := forI_cons h0
          refine .rf [.cs (kForm x7)] (A (dForm.idn hx7) T) [(7, iE (i4 : Int)), (8, pw 8)] [.o 8 (.cells ((kForm x7).map .d))] rfl (by kernel_rfl) ?_
          obtain ⟨e12, he12, h1⟩ := bnd h1
          refine .rf [.cs (kForm e12)] (A (dForm.idx he12) T) [(9, pw 9)] [.o 9 (.cells ((kForm e12).map .d))] rfl (by kernel_rfl) ?_
          obtain ⟨k13, hk13, h1⟩ := bnd h1
          refine .r [.call [] (bE k13) []] (A (ih.1 _ _ hk13) T) [(30, bE (!k13))] rfl (by kernel_rfl) ?_
          refine .cT h1 rfl (by kernel_rfl) (fun hc14 h1 => ?_) (fun hc14 h1 => ?_)
          · refine .r [] T [(6, bE false)] rfl (by kernel_rfl) ?_
            cases h1
            cases hw1 _ rfl
            exact .ret rfl rfl (by kernel_rfl) hK
          · refine .r [.v ((i4 + 1 : Nat) : Int)] (A (wn (i := i4) (by omega)) T) [(17, iE ((i4 + 1 : Nat) : Int))] rfl (by kernel_rfl) ?_
            cases h1
            refine .kp [1, 2, 15, 16, 17] [] ?_
            refine .dr 8 (by kernel_rfl) ?_
            refine .dr 9 (by kernel_rfl) ?_
            exact .nL rfl (i4 + 1) _ hd9 hd9l (hn1 _ rfl) [] (by kernel_rfl)
        · subst hc11
          have h0 := forI_nil h0
          refine .r [] T [(6, bE true)] rfl (by kernel_rfl) ?_
          cases h0
          exact .ret rfl rfl (by kernel_rfl) hK
theorem w_im_FormSame (n : Nat) : ∀ (a0 : Form) (a1 : Form) {r : Bool}, im_FormSame n a0 a1 = some r → SCall X.E 63 [aE (kForm a0), aE (kForm a1)] [] (bE r) [] := (g_im_FormSame n).1
theorem w_slices_EqualFunc_impl_Form__im_FormSame (n : Nat) : ∀ (a0 : List Form) (a1 : List Form) {r : Bool}, slices_EqualFunc_impl_Form__im_FormSame n a0 a1 = some r → SCall X.E 76 [lE 5 (ksForm a0), lE 5 (ksForm a1), .clo 63 [] []] [] (bE r) [] := (g_im_FormSame n).2
mutual
def im_sameCore : Nat → Core → Core → Option (Bool)
  | 0, _, _ => none
  | n + 1, a0, a1 => Option.bind ((if a0.kind = a1.kind then (if a0.id = a1.id then (if a0.name = a1.name then (if a0.n = a1.n then (slices_Equal_int n a0.ids a1.ids).bind fun k6 => (if k6 = true then (im_FormSame n a0.data a1.data).bind fun k8 => (if k8 = true then (slices_EqualFunc_impl_Core__im_sameCore n a0.kids a1.kids).bind fun k10 => some k10 else some false) else some false) else some false) else some false) else some false) else some false) : Option (Bool)) (fun (o1 : Bool) => some o1)
def slices_EqualFunc_impl_Core__im_sameCore : Nat → (List Core) → (List Core) → Option (Bool)
  | 0, _, _ => none
  | n + 1, a0, a1 => (if ¬ (a0.length : Int) = (a1.length : Int) then some false else seqS (forI (fun (s5 : Unit) (i4 : Nat) (x7 : Core) => ((atI a1 (i4 : Int)).bind fun e12 => (im_sameCore n x7 e12).bind fun k13 => (if (!k13) = true then some (Sum.inl false) else some (Sum.inr ())) : Option (Bool ⊕ Unit))) 0 a0 ()) (fun (s5 : Unit) => some true))
end
theorem g_im_sameCore (n : Nat) : (∀ (a0 : Core) (a1 : Core) {r : Bool}, im_sameCore n a0 a1 = some r → SCall X.E 39 [aE (kCore a0), aE (kCore a1)] [] (bE r) []) ∧ (∀ (a0 : List Core) (a1 : List Core) {r : Bool}, slices_EqualFunc_impl_Core__im_sameCore n a0 a1 = some r → SCall X.E 64 [lE 11 (ksCore a0), lE 11 (ksCore a1), .clo 39 [] []] [] (bE r) []) := by
  induction n with
  | zero => exact ⟨(by intros; rename_i h; cases h), (by intros; rename_i h; cases h)⟩
  | succ n ih =>
    refine ⟨?_, ?_⟩
    · intro a0 a1 r h0
      rw [im_sameCore] at h0
      refine .m Tryd.func39 rfl rfl rfl (by kernel_rfl) (fun L ks low K hl hL hlen hK => ?_)
      refine .rf [] T [(2, pw 2), (3, pw 3)] [.o 2 (.cells ((kCore a0).map .d)), .o 3 (.cells ((kCore a1).map .d))] rfl (by kernel_rfl) ?_
      refine .bP h0 rfl [] (fun o1 => [(4, bE o1)]) n1 n1 (fun o1 h0 => ?_) (fun y1 h1 hj1 => ?_)
      · cases h0
        exact .ret rfl rfl (by kernel_rfl) hK
      · by_cases g2 : a0.kind = a1.kind
        · have h1 := iteP g2 h1
          by_cases g3 : a0.id = a1.id
          · have h1 := iteP g3 h1
            by_cases g4 : a0.name = a1.name
            · have h1 := iteP g4 h1
              by_cases g5 : a0.n = a1.n
              · have h1 := iteP g5 h1
                obtain ⟨k6, hk6, h1⟩ := bnd h1
                by_cases g7 : k6 = true
                · have h1 := iteP g7 h1
                  obtain ⟨k8, hk8, h1⟩ := bnd h1
                  by_cases g9 : k8 = true
                  · have h1 := iteP g9 h1
                    obtain ⟨k10, hk10, h1⟩ := bnd h1
                    refine .r [.b true, .b true, .b true, .b true, .b true, .b true, .b true, .b true, .b true, .b true, .b true, .b true, .b true, .b true, .b true, .b true, .b true, .b true, .b true, .b true, .b true, .b true, .b true, .call [] (bE k6) [], .b true, .b true, .b true, .b true, .b true, .b true, .call [] (bE k8) [], .b true, .b true, .b true, .b true, .b true, .b true, .call [] (bE k10) [], .b true] (A (decide_eq_true g2 : decide (a0.kind = a1.kind) = true) (A (decide_eq_true g2 : decide (a0.kind = a1.kind) = true) (A (decide_eq_true g2 : decide (a0.kind = a1.kind) = true) (A (decide_eq_true g2 : decide (a0.kind = a1.kind) = true) (A (decide_eq_true g2 : decide (a0.kind = a1.kind) = true) (A (decide_eq_true g2 : decide (a0.kind = a1.kind) = true) (A (decide_eq_true g3 : decide (a0.id = a1.id) = true) (A (decide_eq_true g3 : decide (a0.id = a1.id) = true) (A (decide_eq_true g3 : decide (a0.id = a1.id) = true) (A (decide_eq_true g3 : decide (a0.id = a1.id) = true) (A (decide_eq_true g3 : decide (a0.id = a1.id) = true) (A (decide_eq_true g3 : decide (a0.id = a1.id) = true) (A (decide_eq_true g4 : decide (a0.name = a1.name) = true) (A (decide_eq_true g4 : decide (a0.name = a1.name) = true) (A (decide_eq_true g4 : decide (a0.name = a1.name) = true) (A (decide_eq_true g4 : decide (a0.name = a1.name) = true) (A (decide_eq_true g4 : decide (a0.name = a1.name) = true) (A (decide_eq_true g4 : decide (a0.name = a1.name) = true) (A (decide_eq_true g5 : decide (a0.n = a1.n) = true) (A (decide_eq_true g5 : decide (a0.n = a1.n) = true) (A (decide_eq_true g5 : decide (a0.n = a1.n) = true) (A (decide_eq_true g5 : decide (a0.n = a1.n) = true) (A (A (decide_eq_true g5 : decide (a0.n = a1.n) = true) (w_slices_Equal_int n _ _ hk6)) (A (decide_eq_true g5 : decide (a0.n = a1.n) = true) (A g7 (A g7 (A g7 (A g7 (A (A g7 (w_im_FormSame n _ _ hk8)) (A g7 (A g9 (A g9 (A g9 (A g9 (A (A g9 (ih.2 _ _ hk10)) (A g9 T)))))))))))))))))))))))))))))))))))) [(4, bE k10)] rfl (by kernel_rfl) ?_
                    cases h1
                    exact .lf hj1 rfl [] (by kernel_rfl)
                  · have h1 := iteN g9 h1
                    refine .r [.b true, .b true, .b true, .b true, .b true, .b true, .b true, .b true, .b true, .b true, .b true, .b true, .b true, .b true, .b true, .b true, .b true, .b true, .b true, .b true, .b true, .b true, .b true, .call [] (bE k6) [], .b true, .b true, .b true, .b true, .b true, .b true, .call [] (bE k8) [], .b true, .b false, .b false, .b false, .b false, .b false, .b false] (A (decide_eq_true g2 : decide (a0.kind = a1.kind) = true) (A (decide_eq_true g2 : decide (a0.kind = a1.kind) = true) (A (decide_eq_true g2 : decide (a0.kind = a1.kind) = true) (A (decide_eq_true g2 : decide (a0.kind = a1.kind) = true) (A (decide_eq_true g2 : decide (a0.kind = a1.kind) = true) (A (decide_eq_true g2 : decide (a0.kind = a1.kind) = true) (A (decide_eq_true g3 : decide (a0.id = a1.id) = true) (A (decide_eq_true g3 : decide (a0.id = a1.id) = true) (A (decide_eq_true g3 : decide (a0.id = a1.id) = true) (A (decide_eq_true g3 : decide (a0.id = a1.id) = true) (A (decide_eq_true g3 : decide (a0.id = a1.id) = true) (A (decide_eq_true g3 : decide (a0.id = a1.id) = true) (A (decide_eq_true g4 : decide (a0.name = a1.name) = true) (A (decide_eq_true g4 : decide (a0.name = a1.name) = true) (A (decide_eq_true g4 : decide (a0.name = a1.name) = true) (A (decide_eq_true g4 : decide (a0.name = a1.name) = true) (A (decide_eq_true g4 : decide (a0.name = a1.name) = true) (A (decide_eq_true g4 : decide (a0.name = a1.name) = true) (A (decide_eq_true g5 : decide (a0.n = a1.n) = true) (A (decide_eq_true g5 : decide (a0.n = a1.n) = true) (A (decide_eq_true g5 : decide (a0.n = a1.n) = true) (A (decide_eq_true g5 : decide (a0.n = a1.n) = true) (A (A (decide_eq_true g5 : decide (a0.n = a1.n) = true) (w_slices_Equal_int n _ _ hk6)) (A (decide_eq_true g5 : decide (a0.n = a1.n) = true) (A g7 (A g7 (A g7 (A g7 (A (A g7 (w_im_FormSame n _ _ hk8)) (A g7 (A (Bool.eq_false_iff.2 g9) (A (Bool.eq_false_iff.2 g9) (A (Bool.eq_false_iff.2 g9) (A (Bool.eq_false_iff.2 g9) (A (Bool.eq_false_iff.2 g9) (A (Bool.eq_false_iff.2 g9) T)))))))))))))))))))))))))))))))))))) [(4, bE false)] rfl (by kernel_rfl) ?_
                    cases h1
                    exact .lf hj1 rfl [] (by kernel_rfl)
                · have h1 := iteN g7 h1
                  refine .r [.b true, .b true, .b true, .b true, .b true, .b true, .b true, .b true, .b true, .b true, .b true, .b true, .b true, .b true, .b true, .b true, .b true, .b true, .b true, .b true, .b true, .b true, .b true, .call [] (bE k6) [], .b true, .b false, .b false, .b false, .b false, .b false, .b false, .b false, .b false, .b false, .b false, .b false, .b false] (A (decide_eq_true g2 : decide (a0.kind = a1.kind) = true) (A (decide_eq_true g2 : decide (a0.kind = a1.kind) = true) (A (decide_eq_true g2 : decide (a0.kind = a1.kind) = true) (A (decide_eq_true g2 : decide (a0.kind = a1.kind) = true) (A (decide_eq_true g2 : decide (a0.kind = a1.kind) = true) (A (decide_eq_true g2 : decide (a0.kind = a1.kind) = true) (A (decide_eq_true g3 : decide (a0.id = a1.id) = true) (A (decide_eq_true g3 : decide (a0.id = a1.id) = true) (A (decide_eq_true g3 : decide (a0.id = a1.id) = true) (A (decide_eq_true g3 : decide (a0.id = a1.id) = true) (A (decide_eq_true g3 : decide (a0.id = a1.id) = true) (A (decide_eq_true g3 : decide (a0.id = a1.id) = true) (A (decide_eq_true g4 : decide (a0.name = a1.name) = true) (A (decide_eq_true g4 : decide (a0.name = a1.name) = true) (A (decide_eq_true g4 : decide (a0.name = a1.name) = true) (A (decide_eq_true g4 : decide (a0.name = a1.name) = true) (A (decide_eq_true g4 : decide (a0.name = a1.name) = true) (A (decide_eq_true g4 : decide (a0.name = a1.name) = true) (A (decide_eq_true g5 : decide (a0.n = a1.n) = true) (A (decide_eq_true g5 : decide (a0.n = a1.n) = true) (A (decide_eq_true g5 : decide (a0.n = a1.n) = true) (A (decide_eq_true g5 : decide (a0.n = a1.n) = true) (A (A (decide_eq_true g5 : decide (a0.n = a1.n) = true) (w_slices_Equal_int n _ _ hk6)) (A (decide_eq_true g5 : decide (a0.n = a1.n) = true) (A (Bool.eq_false_iff.2 g7) (A (Bool.eq_false_iff.2 g7) (A (Bool.eq_false_iff.2 g7) (A (Bool.eq_false_iff.2 g7) (A (Bool.eq_false_iff.2 g7) (A (Bool.eq_false_iff.2 g7) (A (rfl : false = false) (A (rfl : false = false) (A (rfl : false = false) (A (rfl : false = false) (A (rfl : false = false) (A (rfl : false = false) T)))))))))))))))))))))))))))))))))))) [(4, bE false)] rfl (by kernel_rfl) ?_
                  cases h1
                  exact .lf hj1 rfl [] (by kernel_rfl)
              · have h1 := iteN g5 h1
                refine .r [.b true, .b true, .b true, .b true, .b true, .b true, .b true, .b true, .b true, .b true, .b true, .b true, .b true, .b true, .b true, .b true, .b true, .b true, .b false, .b false, .b false, .b false, .b false, .b false, .b false, .b false, .b false, .b false, .b false, .b false, .b false, .b false, .b false, .b false, .b false, .b false] (A (decide_eq_true g2 : decide (a0.kind = a1.kind) = true) (A (decide_eq_true g2 : decide (a0.kind = a1.kind) = true) (A (decide_eq_true g2 : decide (a0.kind = a1.kind) = true) (A (decide_eq_true g2 : decide (a0.kind = a1.kind) = true) (A (decide_eq_true g2 : decide (a0.kind = a1.kind) = true) (A (decide_eq_true g2 : decide (a0.kind = a1.kind) = true) (A (decide_eq_true g3 : decide (a0.id = a1.id) = true) (A (decide_eq_true g3 : decide (a0.id = a1.id) = true) (A (decide_eq_true g3 : decide (a0.id = a1.id) = true) (A (decide_eq_true g3 : decide (a0.id = a1.id) = true) (A (decide_eq_true g3 : decide (a0.id = a1.id) = true) (A (decide_eq_true g3 : decide (a0.id = a1.id) = true) (A (decide_eq_true g4 : decide (a0.name = a1.name) = true) (A (decide_eq_true g4 : decide (a0.name = a1.name) = true) (A (decide_eq_true g4 : decide (a0.name = a1.name) = true) (A (decide_eq_true g4 : decide (a0.name = a1.name) = true) (A (decide_eq_true g4 : decide (a0.name = a1.name) = true) (A (decide_eq_true g4 : decide (a0.name = a1.name) = true) (A (decide_eq_false g5 : decide (a0.n = a1.n) = false) (A (decide_eq_false g5 : decide (a0.n = a1.n) = false) (A (decide_eq_false g5 : decide (a0.n = a1.n) = false) (A (decide_eq_false g5 : decide (a0.n = a1.n) = false) (A (decide_eq_false g5 : decide (a0.n = a1.n) = false) (A (decide_eq_false g5 : decide (a0.n = a1.n) = false) (A (rfl : false = false) (A (rfl : false = false) (A (rfl : false = false) (A (rfl : false = false) (A (rfl : false = false) (A (rfl : false = false) (A (rfl : false = false) (A (rfl : false = false) (A (rfl : false = false) (A (rfl : false = false) (A (rfl : false = false) (A (rfl : false = false) T)))))))))))))))))))))))))))))))))))) [(4, bE false)] rfl (by kernel_rfl) ?_
                cases h1
                exact .lf hj1 rfl [] (by kernel_rfl)
            · have h1 := iteN g4 h1
              refine .r [.b true, .b true, .b true, .b true, .b true, .b true, .b true, .b true, .b true, .b true, .b true, .b true, .b false, .b false, .b false, .b false, .b false, .b false, .b false, .b false, .b false, .b false, .b false, .b false, .b false, .b false, .b false, .b false, .b false, .b false, .b false, .b false, .b false, .b false, .b false, .b false] (A (decide_eq_true g2 : decide (a0.kind = a1.kind) = true) (A (decide_eq_true g2 : decide (a0.kind = a1.kind) = true) (A (decide_eq_true g2 : decide (a0.kind = a1.kind) = true) (A (decide_eq_true g2 : decide (a0.kind = a1.kind) = true) (A (decide_eq_true g2 : decide (a0.kind = a1.kind) = true) (A (decide_eq_true g2 : decide (a0.kind = a1.kind) = true) (A (decide_eq_true g3 : decide (a0.id = a1.id) = true) (A (decide_eq_true g3 : decide (a0.id = a1.id) = true) (A (decide_eq_true g3 : decide (a0.id = a1.id) = true) (A (decide_eq_true g3 : decide (a0.id = a1.id) = true) (A (decide_eq_true g3 : decide (a0.id = a1.id) = true) (A (decide_eq_true g3 : decide (a0.id = a1.id) = true) (A (decide_eq_false g4 : decide (a0.name = a1.name) = false) (A (decide_eq_false g4 : decide (a0.name = a1.name) = false) (A (decide_eq_false g4 : decide (a0.name = a1.name) = false) (A (decide_eq_false g4 : decide (a0.name = a1.name) = false) (A (decide_eq_false g4 : decide (a0.name = a1.name) = false) (A (decide_eq_false g4 : decide (a0.name = a1.name) = false) (A (rfl : false = false) (A (rfl : false = false) (A (rfl : false = false) (A (rfl : false = false) (A (rfl : false = false) (A (rfl : false = false) (A (rfl : false = false) (A (rfl : false = false) (A (rfl : false = false) (A (rfl : false = false) (A (rfl : false = false) (A (rfl : false = false) (A (rfl : false = false) (A (rfl : false = false) (A (rfl : false = false) (A (rfl : false = false) (A (rfl : false = false) (A (rfl : false = false) T)))))))))))))))))))))))))))))))))))) [(4, bE false)] rfl (by kernel_rfl) ?_
              cases h1
              exact .lf hj1 rfl [] (by kernel_rfl)
          · have h1 := iteN g3 h1
            refine .r [.b true, .b true, .b true, .b true, .b true, .b true, .b false, .b false, .b false, .b false, .b false, .b false, .b false, .b false, .b false, .b false, .b false, .b false, .b false, .b false, .b false, .b false, .b false, .b false, .b false, .b false, .b false, .b false, .b false, .b false, .b false, .b false, .b false, .b false, .b false, .b false] (A (decide_eq_true g2 : decide (a0.kind = a1.kind) = true) (A (decide_eq_true g2 : decide (a0.kind = a1.kind) = true) (A (decide_eq_true g2 : decide (a0.kind = a1.kind) = true) (A (decide_eq_true g2 : decide (a0.kind = a1.kind) = true) (A (decide_eq_true g2 : decide (a0.kind = a1.kind) = true) (A (decide_eq_true g2 : decide (a0.kind = a1.kind) = true) (A (decide_eq_false g3 : decide (a0.id = a1.id) = false) (A (decide_eq_false g3 : decide (a0.id = a1.id) = false) (A (decide_eq_false g3 : decide (a0.id = a1.id) = false) (A (decide_eq_false g3 : decide (a0.id = a1.id) = false) (A (decide_eq_false g3 : decide (a0.id = a1.id) = false) (A (decide_eq_false g3 : decide (a0.id = a1.id) = false) (A (rfl : false = false) (A (rfl : false = false) (A (rfl : false = false) (A (rfl : false = false) (A (rfl : false = false) (A (rfl : false = false) (A (rfl : false = false) (A (rfl : false = false) (A (rfl : false = false) (A (rfl : false = false) (A (rfl : false = false) (A (rfl : false = false) (A (rfl : false = false) (A (rfl : false = false) (A (rfl : false = false) (A (rfl : false = false) (A (rfl : false = false) (A (rfl : false = false) (A (rfl : false = false) (A (rfl : false = false) (A (rfl : false = false) (A (rfl : false = false) (A (rfl : false = false) (A (rfl : false = false) T)))))))))))))))))))))))))))))))))))) [(4, bE false)] rfl (by kernel_rfl) ?_
            cases h1
            exact .lf hj1 rfl [] (by kernel_rfl)
        · have h1 := iteN g2 h1
          refine .r [.b false, .b false, .b false, .b false, .b false, .b false, .b false, .b false, .b false, .b false, .b false, .b false, .b false, .b false, .b false, .b false, .b false, .b false, .b false, .b false, .b false, .b false, .b false, .b false, .b false, .b false, .b false, .b false, .b false, .b false, .b false, .b false, .b false, .b false, .b false, .b false] (A (decide_eq_false g2 : decide (a0.kind = a1.kind) = false) (A (decide_eq_false g2 : decide (a0.kind = a1.kind) = false) (A (decide_eq_false g2 : decide (a0.kind = a1.kind) = false) (A (decide_eq_false g2 : decide (a0.kind = a1.kind) = false) (A (decide_eq_false g2 : decide (a0.kind = a1.kind) = false) (A (decide_eq_false g2 : decide (a0.kind = a1.kind) = false) (A (rfl : false = false) (A (rfl : false = false) (A (rfl : false = false) (A (rfl : false = false) (A (rfl : false = false) (A (rfl : false = false) (A (rfl : false = false) (A (rfl : false = false) (A (rfl : false = false) (A (rfl : false = false) (A (rfl : false = false) (A (rfl : false = false) (A (rfl : false = false) (A (rfl : false = false) (A (rfl : false = false) (A (rfl : false = false) (A (rfl : false = false) (A (rfl : false = false) (A (rfl : false = false) (A (rfl : false = false) (A (rfl : false = false) (A (rfl : false = false) (A (rfl : false = false) (A (rfl : false = false) (A (rfl : false = false) (A (rfl : false = false) (A (rfl : false = false) (A (rfl : false = false) (A (rfl : false = false) (A (rfl : false = false) T)))))))))))))))))))))))))))))))))))) [(4, bE false)] rfl (by kernel_rfl) ?_
          cases h1
          exact .lf hj1 rfl [] (by kernel_rfl)
    · intro a0 a1 r h0
      rw [slices_EqualFunc_impl_Core__im_sameCore] at h0
      refine .m Tryd.func64 rfl rfl rfl (by kernel_rfl) (fun L ks low K hl hL hlen hK => ?_)
      refine .r [] T [] rfl (by kernel_rfl) ?_
      refine .r [.v (a0.length : Int), .v (a1.length : Int)] (A (dCore.len' a0) (A (dCore.len' a1) T)) [(14, dE (¬ (a0.length : Int) = (a1.length : Int)))] rfl (by kernel_rfl) ?_
      refine .sn 0 dCore a0 (by kernel_rfl) (fun hb1 => ?_)
      refine .sn 1 dCore a1 (by kernel_rfl) (fun hb2 => ?_)
      refine .cP h0 rfl (by kernel_rfl) (fun hc3 h0 => ?_) (fun hc3 h0 => ?_)
      · refine .r [] T [(6, bE false)] rfl (by kernel_rfl) ?_
        cases h0
        exact .ret rfl rfl (by kernel_rfl) hK
      · refine .r [.v (a0.length : Int)] (A (dCore.len' a0) T) [(15, lE 11 (ksCore a0)), (16, iE (a0.length : Int)), (17, iE 0)] rfl (by kernel_rfl) ?_
        refine .lI h0 rfl [1, 2, 15, 16] (fun i4 s5 => [(17, iE (i4 : Int))]) n2 n2 [] (by kernel_rfl) (fun i4 s5 q6 hd8 hi10 h0 => ?_)
        refine .r [] T [(18, dE ((i4 : Int) < (a0.length : Int)))] rfl (by kernel_rfl) ?_
        refine .lc hd8 rfl (by kernel_rfl) (fun x7 q62 hc11 hx7 hd9 hd9l => ?_) (fun hc11 => ?_)
        · subst hc11
          obtain ⟨y1, h1, hw1, hn1⟩ := forI_cons h0
          refine .rf [.cs (kCore x7)] (A (dCore.idn hx7) T) [(7, iE (i4 : Int)), (8, pw 8)] [.o 8 (.cells ((kCore x7).map .d))] rfl (by kernel_rfl) ?_
          obtain ⟨e12, he12, h1⟩ := bnd h1
          refine .rf [.cs (kCore e12)] (A (dCore.idx he12) T) [(9, pw 9)] [.o 9 (.cells ((kCore e12).map .d))] rfl (by kernel_rfl) ?_
          obtain ⟨k13, hk13, h1⟩ := bnd h1
          refine .r [.call [] (bE k13) []] (A (ih.1 _ _ hk13) T) [(30, bE (!k13))] rfl (by kernel_rfl) ?_
          refine .cT h1 rfl (by kernel_rfl) (fun hc14 h1 => ?_) (fun hc14 h1 => ?_)
          · refine .r [] T [(6, bE false)] rfl (by kernel_rfl) ?_
            cases h1
            cases hw1 _ rfl
            exact .ret rfl rfl (by kernel_rfl) hK
          · refine .r [.v ((i4 + 1 : Nat) : Int)] (A (wn (i := i4) (by omega)) T) [(17, iE ((i4 + 1 : Nat) : Int))] rfl (by kernel_rfl) ?_
            cases h1
            refine .kp [1, 2, 15, 16, 17] [] ?_
            refine .dr 8 (by kernel_rfl) ?_
            refine .dr 9 (by kernel_rfl) ?_
            exact .nL rfl (i4 + 1) _ hd9 hd9l (hn1 _ rfl) [] (by kernel_rfl)
        · subst hc11
          have h0 := forI_nil h0
          refine .r [] T [(6, bE true)] rfl (by kernel_rfl) ?_
          cases h0
          exact .ret rfl rfl (by kernel_rfl) hK
theorem w_im_sameCore (n : Nat) : ∀ (a0 : Core) (a1 : Core) {r : Bool}, im_sameCore n a0 a1 = some r → SCall X.E 39 [aE (kCore a0), aE (kCore a1)] [] (bE r) [] := (g_im_sameCore n).1
theorem w_slices_EqualFunc_impl_Core__im_sameCore (n : Nat) : ∀ (a0 : List Core) (a1 : List Core) {r : Bool}, slices_EqualFunc_impl_Core__im_sameCore n a0 a1 = some r → SCall X.E 64 [lE 11 (ksCore a0), lE 11 (ksCore a1), .clo 39 [] []] [] (bE r) [] := (g_im_sameCore n).2
def im_CoreSame (n : Nat) (a0 : Core) (a1 : Core) : Option (Bool) :=
  (im_sameCore n a0 a1).bind fun k1 => some k1
theorem w_im_CoreSame (n : Nat) : ∀ (a0 : Core) (a1 : Core) {r : Bool}, im_CoreSame n a0 a1 = some r → SCall X.E 13 [aE (kCore a0), aE (kCore a1)] [] (bE r) [] := by
  intro a0 a1 r h0
  rw [im_CoreSame] at h0
  refine .m Tryd.func13 rfl rfl rfl (by kernel_rfl) (fun L ks low K hl hL hlen hK => ?_)
  refine .rf [] T [(2, pw 2), (3, pw 3)] [.o 2 (.cells ((kCore a0).map .d)), .o 3 (.cells ((kCore a1).map .d))] rfl (by kernel_rfl) ?_
  obtain ⟨k1, hk1, h0⟩ := bnd h0
  refine .r [.call [] (bE k1) []] (A (w_im_sameCore n _ _ hk1) T) [(4, bE k1)] rfl (by kernel_rfl) ?_
  cases h0
  exact .ret rfl rfl (by kernel_rfl) hK
def slices_Index_string (n : Nat) (a0 : List (List UInt8)) (a1 : List UInt8) : Option (Int) :=
  seqS (forI (fun (s3 : Unit) (i2 : Nat) (x5 : List UInt8) => ((if a1 = x5 then some (Sum.inl (i2 : Int)) else some (Sum.inr ())) : Option (Int ⊕ Unit))) 0 a0 ()) (fun (s3 : Unit) => some (-1))
theorem w_slices_Index_string (n : Nat) : ∀ (a0 : List (List UInt8)) (a1 : List UInt8) {r : Int}, slices_Index_string n a0 a1 = some r → SCall X.E 66 [lE 1 (ksStr a0), sE a1] [] (iE r) [] := by
  intro a0 a1 r h0
  rw [slices_Index_string] at h0
  refine .m Tryd.func66 rfl rfl rfl (by kernel_rfl) (fun L ks low K hl hL hlen hK => ?_)
  refine .r [] T [] rfl (by kernel_rfl) ?_
  refine .r [.v (a0.length : Int)] (A (dStr.len' a0) T) [(7, iE (a0.length : Int)), (8, iE 0)] rfl (by kernel_rfl) ?_
  refine .sn 0 dStr a0 (by kernel_rfl) (fun hb1 => ?_)
  refine .lI h0 rfl [0, 1, 7] (fun i2 s3 => [(8, iE (i2 : Int))]) n2 n2 [] (by kernel_rfl) (fun i2 s3 q4 hd6 hi8 h0 => ?_)
  refine .r [] T [(9, dE ((i2 : Int) < (a0.length : Int)))] rfl (by kernel_rfl) ?_
  refine .lc hd6 rfl (by kernel_rfl) (fun x5 q42 hc9 hx5 hd7 hd7l => ?_) (fun hc9 => ?_)
  · subst hc9
    obtain ⟨y1, h1, hw1, hn1⟩ := forI_cons h0
    refine .r [] T [(5, iE (i2 : Int))] rfl (by kernel_rfl) ?_
    refine .r [.cs [.s x5]] (A (dStr.idn hx5) T) [(16, dE (a1 = x5))] rfl (by kernel_rfl) ?_
    refine .cP h1 rfl (by kernel_rfl) (fun hc10 h1 => ?_) (fun hc10 h1 => ?_)
    · refine .r [] T [(4, iE (i2 : Int))] rfl (by kernel_rfl) ?_
      cases h1
      cases hw1 _ rfl
      exact .ret rfl rfl (by kernel_rfl) hK
    · refine .r [.v ((i2 + 1 : Nat) : Int)] (A (wn (i := i2) (by omega)) T) [(8, iE ((i2 + 1 : Nat) : Int))] rfl (by kernel_rfl) ?_
      cases h1
      exact .nL rfl (i2 + 1) _ hd7 hd7l (hn1 _ rfl) [] (by kernel_rfl)
  · subst hc9
    have h0 := forI_nil h0
    refine .r [] T [(4, iE (-1))] rfl (by kernel_rfl) ?_
    cases h0
    exact .ret rfl rfl (by kernel_rfl) hK
def slices_Contains_string (n : Nat) (a0 : List (List UInt8)) (a1 : List UInt8) : Option (Bool) :=
  (slices_Index_string n a0 a1).bind fun k1 => some (decide (k1 ≥ 0))
theorem w_slices_Contains_string (n : Nat) : ∀ (a0 : List (List UInt8)) (a1 : List UInt8) {r : Bool}, slices_Contains_string n a0 a1 = some r → SCall X.E 44 [lE 1 (ksStr a0), sE a1] [] (bE r) [] := by
  intro a0 a1 r h0
  rw [slices_Contains_string] at h0
  refine .m Tryd.func44 rfl rfl rfl (by kernel_rfl) (fun L ks low K hl hL hlen hK => ?_)
  refine .r [] T [] rfl (by kernel_rfl) ?_
  obtain ⟨k1, hk1, h0⟩ := bnd h0
  refine .r [.call [] (iE k1) []] (A (w_slices_Index_string n _ _ hk1) T) [(4, dE (k1 ≥ 0))] rfl (by kernel_rfl) ?_
  cases h0
  exact .ret rfl rfl (by kernel_rfl) hK
def im_isPrimitive (n : Nat) (a0 : Core) : Option (Bool) :=
  Option.bind ((if a0.kind = 2 then (slices_Contains_string n lp0 a0.name).bind fun k3 => some k3 else some false) : Option (Bool)) (fun (o1 : Bool) => some o1)
theorem w_im_isPrimitive (n : Nat) : ∀ (a0 : Core) {r : Bool}, im_isPrimitive n a0 = some r → SCall X.E 20 [aE (kCore a0)] [] (bE r) [] := by
  intro a0 r h0
  rw [im_isPrimitive] at h0
  refine .m Tryd.func20 rfl rfl rfl (by kernel_rfl) (fun L ks low K hl hL hlen hK => ?_)
  refine .rf [] T [(1, pw 1)] [.o 1 (.cells ((kCore a0).map .d))] rfl (by kernel_rfl) ?_
  refine .bP h0 rfl [] (fun o1 => [(2, bE o1)]) n1 n1 (fun o1 h0 => ?_) (fun y1 h1 hj1 => ?_)
  · cases h0
    exact .ret rfl rfl (by kernel_rfl) hK
  · by_cases g2 : a0.kind = 2
    · have h1 := iteP g2 h1
      obtain ⟨k3, hk3, h1⟩ := bnd h1
      refine .rd mixed [(4, [.b true]), (5, [.b true]), (6, [.b true]), (7, [.b true, .call [] (bE k3) []]), (8, [.b true])] [] (A (decide_eq_true g2 : decide (a0.kind = 2) = true) (A (decide_eq_true g2 : decide (a0.kind = 2) = true) (A (decide_eq_true g2 : decide (a0.kind = 2) = true) (A (A (decide_eq_true g2 : decide (a0.kind = 2) = true) (w_slices_Contains_string n _ _ hk3)) (A (decide_eq_true g2 : decide (a0.kind = 2) = true) T))))) [(2, bE k3)] [] [] rfl (by kernel_rfl) ?_
      cases h1
      exact .lf hj1 rfl [] (by kernel_rfl)
    · have h1 := iteN g2 h1
      refine .rd mixed [(4, [.b false]), (5, [.b false]), (6, [.b false]), (7, [.b false]), (8, [.b false])] [] (A (decide_eq_false g2 : decide (a0.kind = 2) = false) (A (decide_eq_false g2 : decide (a0.kind = 2) = false) (A (decide_eq_false g2 : decide (a0.kind = 2) = false) (A (decide_eq_false g2 : decide (a0.kind = 2) = false) (A (decide_eq_false g2 : decide (a0.kind = 2) = false) T))))) [(2, bE false)] [] [] rfl (by kernel_rfl) ?_
      cases h1
      exact .lf hj1 rfl [] (by kernel_rfl)
def im_CoreAtom (n : Nat) (a0 : Core) : Option (Bool) :=
  Option.bind ((if (a0.kids.length : Int) = 0 then (if a0.kind = 1 then some true else (if a0.kind = 3 then some true else (if a0.kind = 4 then some true else (im_isPrimitive n a0).bind fun k6 => some k6))) else some false) : Option (Bool)) (fun (o1 : Bool) => some o1)
theorem w_im_CoreAtom (n : Nat) : ∀ (a0 : Core) {r : Bool}, im_CoreAtom n a0 = some r → SCall X.E 7 [aE (kCore a0)] [] (bE r) [] := by
  intro a0 r h0
  rw [im_CoreAtom] at h0
  refine .m Tryd.func7 rfl rfl rfl (by kernel_rfl) (fun L ks low K hl hL hlen hK => ?_)
  refine .rf [] T [(1, pw 1)] [.o 1 (.cells ((kCore a0).map .d))] rfl (by kernel_rfl) ?_
  refine .bP h0 rfl [] (fun o1 => [(2, bE o1)]) n1 n1 (fun o1 h0 => ?_) (fun y1 h1 hj1 => ?_)
  · cases h0
    exact .ret rfl rfl (by kernel_rfl) hK
  · by_cases g2 : (a0.kids.length : Int) = 0
    · have h1 := iteP g2 h1
      by_cases g3 : a0.kind = 1
      · have h1 := iteP g3 h1
        refine .r [.v (a0.kids.length : Int), .b true, .b true, .b true, .b true, .b true, .b true, .b true, .b true, .b true, .b true, .b true, .b true, .b true, .b true, .b true, .b true, .b true, .b true, .b true, .b true, .b true] (A (dCore.len' a0.kids) (A (decide_eq_true g2 : decide ((a0.kids.length : Int) = 0) = true) (A (decide_eq_true g2 : decide ((a0.kids.length : Int) = 0) = true) (A (decide_eq_true g2 : decide ((a0.kids.length : Int) = 0) = true) (A (decide_eq_true g2 : decide ((a0.kids.length : Int) = 0) = true) (A (decide_eq_true g3 : decide (a0.kind = 1) = true) (A (decide_eq_true g3 : decide (a0.kind = 1) = true) (A (decide_eq_true g3 : decide (a0.kind = 1) = true) (A (A (decide_eq_true g2 : decide ((a0.kids.length : Int) = 0) = true) (decide_eq_true g3 : decide (a0.kind = 1) = true)) (A (decide_eq_true g2 : decide ((a0.kids.length : Int) = 0) = true) (A (rfl : true = true) (A (rfl : true = true) (A (rfl : true = true) (A (A (decide_eq_true g2 : decide ((a0.kids.length : Int) = 0) = true) (rfl : true = true)) (A (decide_eq_true g2 : decide ((a0.kids.length : Int) = 0) = true) (A (rfl : true = true) (A (rfl : true = true) (A (A (decide_eq_true g2 : decide ((a0.kids.length : Int) = 0) = true) (rfl : true = true)) (A (decide_eq_true g2 : decide ((a0.kids.length : Int) = 0) = true) T))))))))))))))))))) [(2, bE true)] rfl (by kernel_rfl) ?_
        cases h1
        exact .lf hj1 rfl [] (by kernel_rfl)
      · have h1 := iteN g3 h1
        by_cases g4 : a0.kind = 3
        · have h1 := iteP g4 h1
          refine .r [.v (a0.kids.length : Int), .b true, .b true, .b true, .b true, .b false, .b false, .b false, .b true, .b false, .b true, .b true, .b true, .b true, .b true, .b true, .b true, .b true, .b true, .b true, .b true, .b true] (A (dCore.len' a0.kids) (A (decide_eq_true g2 : decide ((a0.kids.length : Int) = 0) = true) (A (decide_eq_true g2 : decide ((a0.kids.length : Int) = 0) = true) (A (decide_eq_true g2 : decide ((a0.kids.length : Int) = 0) = true) (A (decide_eq_true g2 : decide ((a0.kids.length : Int) = 0) = true) (A (decide_eq_false g3 : decide (a0.kind = 1) = false) (A (decide_eq_false g3 : decide (a0.kind = 1) = false) (A (decide_eq_false g3 : decide (a0.kind = 1) = false) (A (A (decide_eq_true g2 : decide ((a0.kids.length : Int) = 0) = true) (decide_eq_false g3 : decide (a0.kind = 1) = false)) (A (decide_eq_true g2 : decide ((a0.kids.length : Int) = 0) = true) (A (decide_eq_true g4 : decide (a0.kind = 3) = true) (A (decide_eq_true g4 : decide (a0.kind = 3) = true) (A (decide_eq_true g4 : decide (a0.kind = 3) = true) (A (A (decide_eq_true g2 : decide ((a0.kids.length : Int) = 0) = true) (decide_eq_true g4 : decide (a0.kind = 3) = true)) (A (decide_eq_true g2 : decide ((a0.kids.length : Int) = 0) = true) (A (rfl : true = true) (A (rfl : true = true) (A (A (decide_eq_true g2 : decide ((a0.kids.length : Int) = 0) = true) (rfl : true = true)) (A (decide_eq_true g2 : decide ((a0.kids.length : Int) = 0) = true) T))))))))))))))))))) [(2, bE true)] rfl (by kernel_rfl) ?_
          cases h1
          exact .lf hj1 rfl [] (by kernel_rfl)
        · have h1 := iteN g4 h1
          by_cases g5 : a0.kind = 4
          · have h1 := iteP g5 h1
            refine .r [.v (a0.kids.length : Int), .b true, .b true, .b true, .b true, .b false, .b false, .b false, .b true, .b false, .b true, .b false, .b false, .b false, .b true, .b false, .b true, .b true, .b true, .b true, .b true, .b true] (A (dCore.len' a0.kids) (A (decide_eq_true g2 : decide ((a0.kids.length : Int) = 0) = true) (A (decide_eq_true g2 : decide ((a0.kids.length : Int) = 0) = true) (A (decide_eq_true g2 : decide ((a0.kids.length : Int) = 0) = true) (A (decide_eq_true g2 : decide ((a0.kids.length : Int) = 0) = true) (A (decide_eq_false g3 : decide (a0.kind = 1) = false) (A (decide_eq_false g3 : decide (a0.kind = 1) = false) (A (decide_eq_false g3 : decide (a0.kind = 1) = false) (A (A (decide_eq_true g2 : decide ((a0.kids.length : Int) = 0) = true) (decide_eq_false g3 : decide (a0.kind = 1) = false)) (A (decide_eq_true g2 : decide ((a0.kids.length : Int) = 0) = true) (A (decide_eq_false g4 : decide (a0.kind = 3) = false) (A (decide_eq_false g4 : decide (a0.kind = 3) = false) (A (decide_eq_false g4 : decide (a0.kind = 3) = false) (A (A (decide_eq_true g2 : decide ((a0.kids.length : Int) = 0) = true) (decide_eq_false g4 : decide (a0.kind = 3) = false)) (A (decide_eq_true g2 : decide ((a0.kids.length : Int) = 0) = true) (A (decide_eq_true g5 : decide (a0.kind = 4) = true) (A (decide_eq_true g5 : decide (a0.kind = 4) = true) (A (A (decide_eq_true g2 : decide ((a0.kids.length : Int) = 0) = true) (decide_eq_true g5 : decide (a0.kind = 4) = true)) (A (decide_eq_true g2 : decide ((a0.kids.length : Int) = 0) = true) T))))))))))))))))))) [(2, bE true)] rfl (by kernel_rfl) ?_
            cases h1
            exact .lf hj1 rfl [] (by kernel_rfl)
          · have h1 := iteN g5 h1
            obtain ⟨k6, hk6, h1⟩ := bnd h1
            refine .r [.v (a0.kids.length : Int), .b true, .b true, .b true, .b true, .b false, .b false, .b false, .b true, .b false, .b true, .b false, .b false, .b false, .b true, .b false, .b true, .b false, .b false, .call [] (bE k6) [], .b true, .b false, .b true] (A (dCore.len' a0.kids) (A (decide_eq_true g2 : decide ((a0.kids.length : Int) = 0) = true) (A (decide_eq_true g2 : decide ((a0.kids.length : Int) = 0) = true) (A (decide_eq_true g2 : decide ((a0.kids.length : Int) = 0) = true) (A (decide_eq_true g2 : decide ((a0.kids.length : Int) = 0) = true) (A (decide_eq_false g3 : decide (a0.kind = 1) = false) (A (decide_eq_false g3 : decide (a0.kind = 1) = false) (A (decide_eq_false g3 : decide (a0.kind = 1) = false) (A (A (decide_eq_true g2 : decide ((a0.kids.length : Int) = 0) = true) (decide_eq_false g3 : decide (a0.kind = 1) = false)) (A (decide_eq_true g2 : decide ((a0.kids.length : Int) = 0) = true) (A (decide_eq_false g4 : decide (a0.kind = 3) = false) (A (decide_eq_false g4 : decide (a0.kind = 3) = false) (A (decide_eq_false g4 : decide (a0.kind = 3) = false) (A (A (decide_eq_true g2 : decide ((a0.kids.length : Int) = 0) = true) (decide_eq_false g4 : decide (a0.kind = 3) = false)) (A (decide_eq_true g2 : decide ((a0.kids.length : Int) = 0) = true) (A (decide_eq_false g5 : decide (a0.kind = 4) = false) (A (A (decide_eq_false g5 : decide (a0.kind = 4) = false) (w_im_isPrimitive n _ hk6)) (A (A (decide_eq_true g2 : decide ((a0.kids.length : Int) = 0) = true) (decide_eq_false g5 : decide (a0.kind = 4) = false)) (A (decide_eq_true g2 : decide ((a0.kids.length : Int) = 0) = true) T))))))))))))))))))) [(2, bE k6)] rfl (by kernel_rfl) ?_
            cases h1
            exact .lf hj1 rfl [] (by kernel_rfl)
    · have h1 := iteN g2 h1
      refine .r [.v (a0.kids.length : Int), .b false, .b false, .b false, .b false, .b false, .b false, .b false, .b false, .b false, .b false] (A (dCore.len' a0.kids) (A (decide_eq_false g2 : decide ((a0.kids.length : Int) = 0) = false) (A (decide_eq_false g2 : decide ((a0.kids.length : Int) = 0) = false) (A (decide_eq_false g2 : decide ((a0.kids.length : Int) = 0) = false) (A (decide_eq_false g2 : decide ((a0.kids.length : Int) = 0) = false) (A (decide_eq_false g2 : decide ((a0.kids.length : Int) = 0) = false) (A (decide_eq_false g2 : decide ((a0.kids.length : Int) = 0) = false) (A (decide_eq_false g2 : decide ((a0.kids.length : Int) = 0) = false) (A (decide_eq_false g2 : decide ((a0.kids.length : Int) = 0) = false) (A (decide_eq_false g2 : decide ((a0.kids.length : Int) = 0) = false) (A (decide_eq_false g2 : decide ((a0.kids.length : Int) = 0) = false) T))))))))))) [(2, bE false)] rfl (by kernel_rfl) ?_
      cases h1
      exact .lf hj1 rfl [] (by kernel_rfl)
def im_within (n : Nat) (a0 : Int) (a1 : Int) (a2 : Int) : Option (Bool) :=
  Option.bind ((if a0 ≥ a1 then some (decide (a0 ≤ a2)) else some false) : Option (Bool)) (fun (o1 : Bool) => some o1)
theorem w_im_within (n : Nat) : ∀ (a0 : Int) (a1 : Int) (a2 : Int) {r : Bool}, im_within n a0 a1 a2 = some r → SCall X.E 23 [iE a0, iE a1, iE a2] [] (bE r) [] := by
  intro a0 a1 a2 r h0
  rw [im_within] at h0
  refine .m Tryd.func23 rfl rfl rfl (by kernel_rfl) (fun L ks low K hl hL hlen hK => ?_)
  refine .r [] T [] rfl (by kernel_rfl) ?_
  refine .bP h0 rfl [] (fun o1 => [(6, bE o1)]) n1 n1 (fun o1 h0 => ?_) (fun y1 h1 hj1 => ?_)
  · cases h0
    exact .ret rfl rfl (by kernel_rfl) hK
  · by_cases g2 : a0 ≥ a1
    · have h1 := iteP g2 h1
      refine .r [.b true, .b true, .b true, .b true] (A (decide_eq_true g2 : decide (a0 ≥ a1) = true) (A (decide_eq_true g2 : decide (a0 ≥ a1) = true) (A (decide_eq_true g2 : decide (a0 ≥ a1) = true) (A (decide_eq_true g2 : decide (a0 ≥ a1) = true) T)))) [(6, dE (a0 ≤ a2))] rfl (by kernel_rfl) ?_
      cases h1
      exact .lf hj1 rfl [] (by kernel_rfl)
    · have h1 := iteN g2 h1
      refine .r [.b false, .b false, .b false, .b false] (A (decide_eq_false g2 : decide (a0 ≥ a1) = false) (A (decide_eq_false g2 : decide (a0 ≥ a1) = false) (A (decide_eq_false g2 : decide (a0 ≥ a1) = false) (A (decide_eq_false g2 : decide (a0 ≥ a1) = false) T)))) [(6, bE false)] rfl (by kernel_rfl) ?_
      cases h1
      exact .lf hj1 rfl [] (by kernel_rfl)
def strings_IndexByte (n : Nat) (a0 : List UInt8) (a1 : Int) : Option Int := some (Lib.indexByte a0 a1.toNat.toUInt8)
theorem w_strings_IndexByte (n : Nat) : ∀ (a0 : List UInt8) (a1 : Int) {r : Int}, strings_IndexByte n a0 a1 = some r → SCall X.E 77 [sE a0, .d (.v (.int .u8 a1))] [] (iE r) [] := by
  intro a0 a1 r h0
  cases h0
  exact SCall.of_calls Tryd.func77 rfl rfl (fun _ => rfl) (fun _ => rfl) (fun w => Tryd.strings_IndexByte (mkS a0) a1 w)
def im_NameValid (n : Nat) (a0 : List UInt8) : Option (Bool) :=
  Option.bind ((if a0 = [46, 46, 46] then some true else some (decide (a0 = [95]))) : Option (Bool)) (fun (o1 : Bool) => (if o1 = true then some true else iterM n (fun (s3 : Int) => ((if s3 < (a0.length : Int) then seqS ((atI a0 s3).bind fun y7 => Option.bind ((if (y7.toNat : Int) ≥ 97 then (if (y7.toNat : Int) ≤ 122 then some true else (strings_IndexByte n [42, 63, 61, 43, 60] (y7.toNat : Int)).bind fun k17 => some (decide (k17 ≥ 0))) else (strings_IndexByte n [42, 63, 61, 43, 60] (y7.toNat : Int)).bind fun k18 => some (decide (k18 ≥ 0))) : Option (Bool)) (fun (o8 : Bool) => (if o8 = true then some (Sum.inr ()) else Option.bind ((if s3 > 0 then (if (y7.toNat : Int) ≥ 48 then (if (y7.toNat : Int) ≤ 57 then some true else some (decide ((y7.toNat : Int) = 45))) else some (decide ((y7.toNat : Int) = 45))) else some false) : Option (Bool)) (fun (o10 : Bool) => (if o10 = true then some (Sum.inr ()) else some (Sum.inl (Sum.inl false)))))) : Option ((Bool ⊕ Int) ⊕ Unit)) (fun (o6 : Unit) => some (Sum.inr (w64 (s3 + 1)))) else (im_within n (a0.length : Int) 1 12).bind fun k19 => some (Sum.inl k19)) : Option (Bool ⊕ Int))) 0))
theorem w_im_NameValid (n : Nat) : ∀ (a0 : List UInt8) {r : Bool}, im_NameValid n a0 = some r → SCall X.E 67 [sE a0] [] (bE r) [] := by
  intro a0 r h0
  rw [im_NameValid] at h0
  refine .m Tryd.func67 rfl rfl rfl (by kernel_rfl) (fun L ks low K hl hL hlen hK => ?_)
  refine .r [] T [] rfl (by kernel_rfl) ?_
  refine .bP h0 rfl [0] (fun o1 => [(10, bE o1)]) n1 n1 (fun o1 h0 => ?_) (fun y1 h1 hj1 => ?_)
  · refine .cT h0 rfl (by kernel_rfl) (fun hc2 h0 => ?_) (fun hc2 h0 => ?_)
    · refine .r [] T [(2, bE true)] rfl (by kernel_rfl) ?_
      cases h0
      exact .ret rfl rfl (by kernel_rfl) hK
    · refine .r [] T [(3, iE 0)] rfl (by kernel_rfl) ?_
      refine .it h0 rfl [0] (fun s3 => [(3, iE s3)]) n1 n1 [] (by kernel_rfl) (fun n4 s3 h0 => ?_)
      obtain ⟨y1, h1, hw1, hn1⟩ := iter_cons h0
      refine .r [] T [(14, dE (s3 < (a0.length : Int)))] rfl (by kernel_rfl) ?_
      refine .cP h1 rfl (by kernel_rfl) (fun hc5 h1 => ?_) (fun hc5 h1 => ?_)
      · refine .bSB h1 rfl [0, 3] (fun o6 => []) n1 n1 (fun o6 h1 => ?_) (fun y2 h2 hj2 hw2 => ?_)
        · refine .r [.pl] T [(3, iE (w64 (s3 + 1)))] rfl (by kernel_rfl) ?_
          cases h1
          exact .nI rfl _ (hn1 _ rfl) [] (by kernel_rfl)
        · obtain ⟨y7, hy7, h2⟩ := bnd h2
          refine .r [.by_ y7] (A (idy hy7) T) [(4, .d (.v (.int .u8 (y7.toNat : Int))))] rfl (by kernel_rfl) ?_
          refine .bP h2 rfl [0, 3, 4] (fun o8 => [(20, bE o8)]) n1 n1 (fun o8 h2 => ?_) (fun y3 h3 hj3 => ?_)
          · refine .cT h2 rfl (by kernel_rfl) (fun hc9 h2 => ?_) (fun hc9 h2 => ?_)
            · cases h2
              exact .lf (hj2 _ rfl) rfl [] (by kernel_rfl)
            · refine .bP h2 rfl [0, 3] (fun o10 => [(32, bE o10)]) n1 n1 (fun o10 h2 => ?_) (fun y3 h3 hj3 => ?_)
              · refine .cT h2 rfl (by kernel_rfl) (fun hc11 h2 => ?_) (fun hc11 h2 => ?_)
                · cases h2
                  exact .lf (hj2 _ rfl) rfl [] (by kernel_rfl)
                · refine .r [] T [(2, bE false)] rfl (by kernel_rfl) ?_
                  cases h2
                  cases hw2 _ rfl
                  cases hw1 _ rfl
                  exact .ret rfl rfl (by kernel_rfl) hK
              · by_cases g12 : s3 > 0
                · have h3 := iteP g12 h3
                  by_cases g13 : (y7.toNat : Int) ≥ 48
                  · have h3 := iteP g13 h3
                    by_cases g14 : (y7.toNat : Int) ≤ 57
                    · have h3 := iteP g14 h3
                      refine .r [.b true, .b true, .b true, .b true, .b true, .b true, .b true, .b true, .b true, .b true, .b true, .b true, .b true] (A (decide_eq_true g12 : decide (s3 > 0) = true) (A (decide_eq_true g12 : decide (s3 > 0) = true) (A (decide_eq_true g12 : decide (s3 > 0) = true) (A (decide_eq_true g13 : decide ((y7.toNat : Int) ≥ 48) = true) (A (decide_eq_true g13 : decide ((y7.toNat : Int) ≥ 48) = true) (A (A (decide_eq_true g12 : decide (s3 > 0) = true) (decide_eq_true g13 : decide ((y7.toNat : Int) ≥ 48) = true)) (A (decide_eq_true g12 : decide (s3 > 0) = true) (A (decide_eq_true g14 : decide ((y7.toNat : Int) ≤ 57) = true) (A (decide_eq_true g14 : decide ((y7.toNat : Int) ≤ 57) = true) (A (A (decide_eq_true g12 : decide (s3 > 0) = true) (decide_eq_true g14 : decide ((y7.toNat : Int) ≤ 57) = true)) (A (decide_eq_true g12 : decide (s3 > 0) = true) T))))))))))) [(32, bE true)] rfl (by kernel_rfl) ?_
                      cases h3
                      exact .lf hj3 rfl [] (by kernel_rfl)
                    · have h3 := iteN g14 h3
                      refine .r [.b true, .b true, .b true, .b true, .b true, .b true, .b true, .b true, .b false, .b false, .b true, .b false, .b true] (A (decide_eq_true g12 : decide (s3 > 0) = true) (A (decide_eq_true g12 : decide (s3 > 0) = true) (A (decide_eq_true g12 : decide (s3 > 0) = true) (A (decide_eq_true g13 : decide ((y7.toNat : Int) ≥ 48) = true) (A (decide_eq_true g13 : decide ((y7.toNat : Int) ≥ 48) = true) (A (A (decide_eq_true g12 : decide (s3 > 0) = true) (decide_eq_true g13 : decide ((y7.toNat : Int) ≥ 48) = true)) (A (decide_eq_true g12 : decide (s3 > 0) = true) (A (decide_eq_false g14 : decide ((y7.toNat : Int) ≤ 57) = false) (A (decide_eq_false g14 : decide ((y7.toNat : Int) ≤ 57) = false) (A (A (decide_eq_true g12 : decide (s3 > 0) = true) (decide_eq_false g14 : decide ((y7.toNat : Int) ≤ 57) = false)) (A (decide_eq_true g12 : decide (s3 > 0) = true) T))))))))))) [(32, dE ((y7.toNat : Int) = 45))] rfl (by kernel_rfl) ?_
                      cases h3
                      exact .lf hj3 rfl [] (by kernel_rfl)
                  · have h3 := iteN g13 h3
                    refine .r [.b true, .b true, .b true, .b false, .b false, .b true, .b false, .b true, .b false, .b false, .b true, .b false, .b true] (A (decide_eq_true g12 : decide (s3 > 0) = true) (A (decide_eq_true g12 : decide (s3 > 0) = true) (A (decide_eq_true g12 : decide (s3 > 0) = true) (A (decide_eq_false g13 : decide ((y7.toNat : Int) ≥ 48) = false) (A (decide_eq_false g13 : decide ((y7.toNat : Int) ≥ 48) = false) (A (A (decide_eq_true g12 : decide (s3 > 0) = true) (decide_eq_false g13 : decide ((y7.toNat : Int) ≥ 48) = false)) (A (decide_eq_true g12 : decide (s3 > 0) = true) (A (rfl : false = false) (A (rfl : false = false) (A (A (decide_eq_true g12 : decide (s3 > 0) = true) (rfl : false = false)) (A (decide_eq_true g12 : decide (s3 > 0) = true) T))))))))))) [(32, dE ((y7.toNat : Int) = 45))] rfl (by kernel_rfl) ?_
                    cases h3
                    exact .lf hj3 rfl [] (by kernel_rfl)
                · have h3 := iteN g12 h3
                  refine .r [.b false, .b false, .b false, .b false, .b false, .b false, .b false] (A (decide_eq_false g12 : decide (s3 > 0) = false) (A (decide_eq_false g12 : decide (s3 > 0) = false) (A (decide_eq_false g12 : decide (s3 > 0) = false) (A (decide_eq_false g12 : decide (s3 > 0) = false) (A (decide_eq_false g12 : decide (s3 > 0) = false) (A (decide_eq_false g12 : decide (s3 > 0) = false) (A (decide_eq_false g12 : decide (s3 > 0) = false) T))))))) [(32, bE false)] rfl (by kernel_rfl) ?_
                  cases h3
                  exact .lf hj3 rfl [] (by kernel_rfl)
          · by_cases g15 : (y7.toNat : Int) ≥ 97
            · have h3 := iteP g15 h3
              by_cases g16 : (y7.toNat : Int) ≤ 122
              · have h3 := iteP g16 h3
                refine .r [.b true, .b true, .b true, .b true, .b true, .b true, .b true] (A (decide_eq_true g15 : decide ((y7.toNat : Int) ≥ 97) = true) (A (decide_eq_true g15 : decide ((y7.toNat : Int) ≥ 97) = true) (A (decide_eq_true g15 : decide ((y7.toNat : Int) ≥ 97) = true) (A (decide_eq_true g16 : decide ((y7.toNat : Int) ≤ 122) = true) (A (decide_eq_true g16 : decide ((y7.toNat : Int) ≤ 122) = true) (A (decide_eq_true g16 : decide ((y7.toNat : Int) ≤ 122) = true) (A (decide_eq_true g16 : decide ((y7.toNat : Int) ≤ 122) = true) T))))))) [(20, bE true)] rfl (by kernel_rfl) ?_
                cases h3
                exact .lf hj3 rfl [] (by kernel_rfl)
              · have h3 := iteN g16 h3
                obtain ⟨k17, hk17, h3⟩ := bnd h3
                refine .r [.b true, .b true, .b true, .b false, .b false, .call [] (iE k17) [], .b false, .b false] (A (decide_eq_true g15 : decide ((y7.toNat : Int) ≥ 97) = true) (A (decide_eq_true g15 : decide ((y7.toNat : Int) ≥ 97) = true) (A (decide_eq_true g15 : decide ((y7.toNat : Int) ≥ 97) = true) (A (decide_eq_false g16 : decide ((y7.toNat : Int) ≤ 122) = false) (A (A (decide_eq_false g16 : decide ((y7.toNat : Int) ≤ 122) = false) (w_strings_IndexByte n _ _ hk17)) (A (decide_eq_false g16 : decide ((y7.toNat : Int) ≤ 122) = false) (A (decide_eq_false g16 : decide ((y7.toNat : Int) ≤ 122) = false) T))))))) [(20, dE (k17 ≥ 0))] rfl (by kernel_rfl) ?_
                cases h3
                exact .lf hj3 rfl [] (by kernel_rfl)
            · have h3 := iteN g15 h3
              obtain ⟨k18, hk18, h3⟩ := bnd h3
              refine .r [.b false, .b false, .b false, .b false, .b false, .call [] (iE k18) [], .b false, .b false] (A (decide_eq_false g15 : decide ((y7.toNat : Int) ≥ 97) = false) (A (decide_eq_false g15 : decide ((y7.toNat : Int) ≥ 97) = false) (A (decide_eq_false g15 : decide ((y7.toNat : Int) ≥ 97) = false) (A (rfl : false = false) (A (A (rfl : false = false) (w_strings_IndexByte n _ _ hk18)) (A (rfl : false = false) (A (rfl : false = false) T))))))) [(20, dE (k18 ≥ 0))] rfl (by kernel_rfl) ?_
              cases h3
              exact .lf hj3 rfl [] (by kernel_rfl)
      · obtain ⟨k19, hk19, h1⟩ := bnd h1
        refine .r [.call [] (bE k19) []] (A (w_im_within n _ _ _ hk19) T) [(2, bE k19)] rfl (by kernel_rfl) ?_
        cases h1
        cases hw1 _ rfl
        exact .ret rfl rfl (by kernel_rfl) hK
  · by_cases g20 : a0 = [46, 46, 46]
    · have h1 := iteP g20 h1
      refine .r [.b true, .b true, .b true] (A (decide_eq_true g20 : decide (a0 = [46, 46, 46]) = true) (A (decide_eq_true g20 : decide (a0 = [46, 46, 46]) = true) (A (decide_eq_true g20 : decide (a0 = [46, 46, 46]) = true) T))) [(10, bE true)] rfl (by kernel_rfl) ?_
      cases h1
      exact .lf hj1 rfl [] (by kernel_rfl)
    · have h1 := iteN g20 h1
      refine .r [.b false, .b false, .b false] (A (decide_eq_false g20 : decide (a0 = [46, 46, 46]) = false) (A (decide_eq_false g20 : decide (a0 = [46, 46, 46]) = false) (A (decide_eq_false g20 : decide (a0 = [46, 46, 46]) = false) T))) [(10, dE (a0 = [95]))] rfl (by kernel_rfl) ?_
      cases h1
      exact .lf hj1 rfl [] (by kernel_rfl)
def im_scopesOk (n : Nat) (a0 : List Int) : Option (Bool) :=
  seqS (forI (fun (s3 : Unit) (i2 : Nat) (x5 : Int) => (Option.bind ((im_within n x5 1 99).bind fun k12 => (if (!k12) = true then some true else (if (i2 : Int) > 0 then (atI a0 (w64 ((i2 : Int) - 1))).bind fun e15 => some (decide (e15 ≥ x5)) else some false)) : Option (Bool)) (fun (o10 : Bool) => (if o10 = true then some (Sum.inl false) else some (Sum.inr ()))) : Option (Bool ⊕ Unit))) 0 a0 ()) (fun (s3 : Unit) => some (decide ((a0.length : Int) ≤ 24)))
theorem w_im_scopesOk (n : Nat) : ∀ (a0 : List Int) {r : Bool}, im_scopesOk n a0 = some r → SCall X.E 89 [lE 1 (ksInt a0)] [] (bE r) [] := by
  intro a0 r h0
  rw [im_scopesOk] at h0
  refine .m Tryd.func89 rfl rfl rfl (by kernel_rfl) (fun L ks low K hl hL hlen hK => ?_)
  refine .r [] T [] rfl (by kernel_rfl) ?_
  refine .r [.v (a0.length : Int)] (A (dInt.len' a0) T) [(5, lE 1 (ksInt a0)), (6, iE (a0.length : Int)), (7, iE 0)] rfl (by kernel_rfl) ?_
  refine .sn 0 dInt a0 (by kernel_rfl) (fun hb1 => ?_)
  refine .lI h0 rfl [0, 5, 6] (fun i2 s3 => [(7, iE (i2 : Int))]) n2 n2 [] (by kernel_rfl) (fun i2 s3 q4 hd6 hi8 h0 => ?_)
  refine .r [] T [(8, dE ((i2 : Int) < (a0.length : Int)))] rfl (by kernel_rfl) ?_
  refine .lc hd6 rfl (by kernel_rfl) (fun x5 q42 hc9 hx5 hd7 hd7l => ?_) (fun hc9 => ?_)
  · subst hc9
    obtain ⟨y1, h1, hw1, hn1⟩ := forI_cons h0
    refine .r [.cs [.v (.int .i64 x5)]] (A (dInt.idn hx5) T) [(3, iE (i2 : Int)), (4, iE x5)] rfl (by kernel_rfl) ?_
    refine .bP h1 rfl [0, 5, 6, 7] (fun o10 => [(27, bE o10)]) n1 n1 (fun o10 h1 => ?_) (fun y2 h2 hj2 => ?_)
    · refine .cT h1 rfl (by kernel_rfl) (fun hc11 h1 => ?_) (fun hc11 h1 => ?_)
      · refine .r [] T [(2, bE false)] rfl (by kernel_rfl) ?_
        cases h1
        cases hw1 _ rfl
        exact .ret rfl rfl (by kernel_rfl) hK
      · refine .r [.v ((i2 + 1 : Nat) : Int)] (A (wn (i := i2) (by omega)) T) [(7, iE ((i2 + 1 : Nat) : Int))] rfl (by kernel_rfl) ?_
        cases h1
        exact .nL rfl (i2 + 1) _ hd7 hd7l (hn1 _ rfl) [] (by kernel_rfl)
    · obtain ⟨k12, hk12, h2⟩ := bnd h2
      by_cases g13 : (!k12) = true
      · have h2 := iteP g13 h2
        refine .r [.call [] (bE k12) [], .b true, .b true, .b true, .b true, .b true] (A (w_im_within n _ _ _ hk12) (A g13 (A g13 (A g13 (A g13 (A g13 T)))))) [(27, bE true)] rfl (by kernel_rfl) ?_
        cases h2
        exact .lf hj2 rfl [] (by kernel_rfl)
      · have h2 := iteN g13 h2
        by_cases g14 : (i2 : Int) > 0
        · have h2 := iteP g14 h2
          obtain ⟨e15, he15, h2⟩ := bnd h2
          refine .r [.call [] (bE k12) [], .b false, .b false, .b false, .b true, .b true, .b true, .pl, .b true, .cs [.v (.int .i64 e15)], .b true, .b true, .b true, .b false, .b true, .b false] (A (w_im_within n _ _ _ hk12) (A (Bool.eq_false_iff.2 g13) (A (Bool.eq_false_iff.2 g13) (A (Bool.eq_false_iff.2 g13) (A (decide_eq_true g14 : decide ((i2 : Int) > 0) = true) (A (decide_eq_true g14 : decide ((i2 : Int) > 0) = true) (A (decide_eq_true g14 : decide ((i2 : Int) > 0) = true) (A (A (decide_eq_true g14 : decide ((i2 : Int) > 0) = true) (dInt.idx he15)) (A (decide_eq_true g14 : decide ((i2 : Int) > 0) = true) (A (decide_eq_true g14 : decide ((i2 : Int) > 0) = true) (A (decide_eq_true g14 : decide ((i2 : Int) > 0) = true) (A (A (Bool.eq_false_iff.2 g13) (decide_eq_true g14 : decide ((i2 : Int) > 0) = true)) (A (Bool.eq_false_iff.2 g13) T))))))))))))) [(27, dE (e15 ≥ x5))] rfl (by kernel_rfl) ?_
          cases h2
          exact .lf hj2 rfl [] (by kernel_rfl)
        · have h2 := iteN g14 h2
          refine .r [.call [] (bE k12) [], .b false, .b false, .b false, .b false, .b false, .b false, .b false, .b false, .b false, .b false, .b false, .b false, .b false] (A (w_im_within n _ _ _ hk12) (A (Bool.eq_false_iff.2 g13) (A (Bool.eq_false_iff.2 g13) (A (Bool.eq_false_iff.2 g13) (A (decide_eq_false g14 : decide ((i2 : Int) > 0) = false) (A (decide_eq_false g14 : decide ((i2 : Int) > 0) = false) (A (decide_eq_false g14 : decide ((i2 : Int) > 0) = false) (A (decide_eq_false g14 : decide ((i2 : Int) > 0) = false) (A (decide_eq_false g14 : decide ((i2 : Int) > 0) = false) (A (decide_eq_false g14 : decide ((i2 : Int) > 0) = false) (A (decide_eq_false g14 : decide ((i2 : Int) > 0) = false) (A (A (Bool.eq_false_iff.2 g13) (decide_eq_false g14 : decide ((i2 : Int) > 0) = false)) (A (Bool.eq_false_iff.2 g13) T))))))))))))) [(27, bE false)] rfl (by kernel_rfl) ?_
          cases h2
          exact .lf hj2 rfl [] (by kernel_rfl)
  · subst hc9
    have h0 := forI_nil h0
    refine .r [.v (a0.length : Int)] (A (dInt.len' a0) T) [(2, dE ((a0.length : Int) ≤ 24))] rfl (by kernel_rfl) ?_
    cases h0
    exact .ret rfl rfl (by kernel_rfl) hK
def im_formOk : Nat → Form → Int → Int → Option (Bool × Int)
  | 0, _, _, _ => none
  | n + 1, a0, a1, w0 => Option.bind ((if (w64 (w0 - 1)) < 0 then some true else some (decide (a1 > 40))) : Option (Bool)) (fun (o1 : Bool) => (if o1 = true then some (false, (w64 (w0 - 1))) else (if a0.kind = 1 then Option.bind ((im_NameValid n a0.name).bind fun k5 => (if k5 = true then (if a0.n = 0 then (im_scopesOk n a0.scopes).bind fun k8 => (if k8 = true then some (decide ((a0.kids.length : Int) = 0)) else some false) else some false) else some false) : Option (Bool)) (fun (o4 : Bool) => some (o4, (w64 (w0 - 1)))) else (if a0.kind = 2 then Option.bind ((if a0.name = [] then (im_within n a0.n 0 999).bind fun k13 => (if k13 = true then (if (a0.scopes.length : Int) = 0 then some (decide ((a0.kids.length : Int) = 0)) else some false) else some false) else some false) : Option (Bool)) (fun (o11 : Bool) => some (o11, (w64 (w0 - 1)))) else (if a0.kind = 3 then Option.bind ((if ¬ a0.name = [] then some true else (if ¬ a0.n = 0 then some true else some (decide ((a0.scopes.length : Int) > 0)))) : Option (Bool)) (fun (o17 : Bool) => (if o17 = true then some (false, (w64 (w0 - 1))) else seqS (forI (fun (s21 : Int) (i20 : Nat) (x23 : Form) => ((im_formOk n x23 (w64 (a1 + 1)) s21).bind fun k28 => (if (!k28.1) = true then some (Sum.inl (false, k28.2)) else some (Sum.inr k28.2)) : Option ((Bool × Int) ⊕ Int))) 0 a0.kids (w64 (w0 - 1))) (fun (s21 : Int) => some (true, s21)))) else some (false, (w64 (w0 - 1))))))))
theorem w_im_formOk (n : Nat) : ∀ (a0 : Form) (a1 : Int) (w0 : Int) {r : Bool × Int}, im_formOk n a0 a1 w0 = some r → SCall X.E 78 [aE (kForm a0), iE a1, pl 0] [some (.cells [iE w0])] (bE r.1) [.cells [iE r.2]] := by
  induction n with
  | zero => intro a0 a1 w0 r h; cases h
  | succ n ih =>
    intro a0 a1 w0 r h0
    rw [im_formOk] at h0
    refine .m Tryd.func78 rfl rfl rfl (by kernel_rfl) (fun L ks low K hl hL hlen hK => ?_)
    refine .rf [] T [(3, pw 3)] [.o 3 (.cells ((kForm a0).map .d))] rfl (by kernel_rfl) ?_
    refine .ro [.pl] T [] [.c 0 0 (iE (w64 (w0 - 1)))] rfl (by kernel_rfl) ?_
    refine .bP h0 rfl [1, 2, 3] (fun o1 => [(21, bE o1)]) n1 n1 (fun o1 h0 => ?_) (fun y1 h1 hj1 => ?_)
    · refine .cT h0 rfl (by kernel_rfl) (fun hc2 h0 => ?_) (fun hc2 h0 => ?_)
      · refine .r [] T [(6, bE false)] rfl (by kernel_rfl) ?_
        cases h0
        exact .ret rfl rfl (by kernel_rfl) hK
      · refine .r [] T [(23, iE a0.kind)] rfl (by kernel_rfl) ?_
        refine .r [] T [(24, dE (a0.kind = 1))] rfl (by kernel_rfl) ?_
        refine .cP h0 rfl (by kernel_rfl) (fun hc3 h0 => ?_) (fun hc3 h0 => ?_)
        · refine .bP h0 rfl [] (fun o4 => [(6, bE o4)]) n1 n1 (fun o4 h0 => ?_) (fun y1 h1 hj1 => ?_)
          · cases h0
            exact .ret rfl rfl (by kernel_rfl) hK
          · obtain ⟨k5, hk5, h1⟩ := bnd h1
            by_cases g6 : k5 = true
            · have h1 := iteP g6 h1
              by_cases g7 : a0.n = 0
              · have h1 := iteP g7 h1
                obtain ⟨k8, hk8, h1⟩ := bnd h1
                by_cases g9 : k8 = true
                · have h1 := iteP g9 h1
                  refine .r [.call [] (bE k5) [], .b true, .b true, .b true, .b true, .b true, .b true, .b true, .call [] (bE k8) [], .b true, .b true, .b true, .b true, .v (a0.kids.length : Int), .b true, .b true] (A (w_im_NameValid n _ hk5) (A g6 (A g6 (A g6 (A g6 (A (decide_eq_true g7 : decide (a0.n = 0) = true) (A (decide_eq_true g7 : decide (a0.n = 0) = true) (A (A (decide_eq_true g7 : decide (a0.n = 0) = true) (w_im_scopesOk n _ hk8)) (A (decide_eq_true g7 : decide (a0.n = 0) = true) (A g9 (A g9 (A (A g9 (dForm.len' a0.kids)) (A g9 (A g9 T)))))))))))))) [(6, dE ((a0.kids.length : Int) = 0))] rfl (by kernel_rfl) ?_
                  cases h1
                  exact .lf hj1 rfl [] (by kernel_rfl)
                · have h1 := iteN g9 h1
                  refine .r [.call [] (bE k5) [], .b true, .b true, .b true, .b true, .b true, .b true, .b true, .call [] (bE k8) [], .b true, .b false, .b false, .b false, .b false, .b false] (A (w_im_NameValid n _ hk5) (A g6 (A g6 (A g6 (A g6 (A (decide_eq_true g7 : decide (a0.n = 0) = true) (A (decide_eq_true g7 : decide (a0.n = 0) = true) (A (A (decide_eq_true g7 : decide (a0.n = 0) = true) (w_im_scopesOk n _ hk8)) (A (decide_eq_true g7 : decide (a0.n = 0) = true) (A (Bool.eq_false_iff.2 g9) (A (Bool.eq_false_iff.2 g9) (A (Bool.eq_false_iff.2 g9) (A (Bool.eq_false_iff.2 g9) (A (Bool.eq_false_iff.2 g9) T)))))))))))))) [(6, bE false)] rfl (by kernel_rfl) ?_
                  cases h1
                  exact .lf hj1 rfl [] (by kernel_rfl)
              · have h1 := iteN g7 h1
                refine .r [.call [] (bE k5) [], .b true, .b true, .b true, .b true, .b false, .b false, .b false, .b false, .b false, .b false, .b false, .b false, .b false] (A (w_im_NameValid n _ hk5) (A g6 (A g6 (A g6 (A g6 (A (decide_eq_false g7 : decide (a0.n = 0) = false) (A (decide_eq_false g7 : decide (a0.n = 0) = false) (A (decide_eq_false g7 : decide (a0.n = 0) = false) (A (decide_eq_false g7 : decide (a0.n = 0) = false) (A (rfl : false = false) (A (rfl : false = false) (A (rfl : false = false) (A (rfl : false = false) (A (rfl : false = false) T)))))))))))))) [(6, bE false)] rfl (by kernel_rfl) ?_
                cases h1
                exact .lf hj1 rfl [] (by kernel_rfl)
            · have h1 := iteN g6 h1
              refine .r [.call [] (bE k5) [], .b false, .b false, .b false, .b false, .b false, .b false, .b false, .b false, .b false, .b false, .b false, .b false, .b false] (A (w_im_NameValid n _ hk5) (A (Bool.eq_false_iff.2 g6) (A (Bool.eq_false_iff.2 g6) (A (Bool.eq_false_iff.2 g6) (A (Bool.eq_false_iff.2 g6) (A (rfl : false = false) (A (rfl : false = false) (A (rfl : false = false) (A (rfl : false = false) (A (rfl : false = false) (A (rfl : false = false) (A (rfl : false = false) (A (rfl : false = false) (A (rfl : false = false) T)))))))))))))) [(6, bE false)] rfl (by kernel_rfl) ?_
              cases h1
              exact .lf hj1 rfl [] (by kernel_rfl)
        · refine .r [] T [(45, dE (a0.kind = 2))] rfl (by kernel_rfl) ?_
          refine .cP h0 rfl (by kernel_rfl) (fun hc10 h0 => ?_) (fun hc10 h0 => ?_)
          · refine .bP h0 rfl [] (fun o11 => [(6, bE o11)]) n1 n1 (fun o11 h0 => ?_) (fun y1 h1 hj1 => ?_)
            · cases h0
              exact .ret rfl rfl (by kernel_rfl) hK
            · by_cases g12 : a0.name = []
              · have h1 := iteP g12 h1
                obtain ⟨k13, hk13, h1⟩ := bnd h1
                by_cases g14 : k13 = true
                · have h1 := iteP g14 h1
                  by_cases g15 : (a0.scopes.length : Int) = 0
                  · have h1 := iteP g15 h1
                    refine .r [.b true, .b true, .b true, .call [] (bE k13) [], .b true, .b true, .b true, .b true, .v (a0.scopes.length : Int), .b true, .b true, .b true, .b true, .b true, .v (a0.kids.length : Int), .b true, .b true] (A (decide_eq_true g12 : decide (a0.name = []) = true) (A (decide_eq_true g12 : decide (a0.name = []) = true) (A (A (decide_eq_true g12 : decide (a0.name = []) = true) (w_im_within n _ _ _ hk13)) (A (decide_eq_true g12 : decide (a0.name = []) = true) (A g14 (A g14 (A (A g14 (dInt.len' a0.scopes)) (A g14 (A g14 (A (decide_eq_true g15 : decide ((a0.scopes.length : Int) = 0) = true) (A (decide_eq_true g15 : decide ((a0.scopes.length : Int) = 0) = true) (A (A (decide_eq_true g15 : decide ((a0.scopes.length : Int) = 0) = true) (dForm.len' a0.kids)) (A (decide_eq_true g15 : decide ((a0.scopes.length : Int) = 0) = true) (A (decide_eq_true g15 : decide ((a0.scopes.length : Int) = 0) = true) T)))))))))))))) [(6, dE ((a0.kids.length : Int) = 0))] rfl (by kernel_rfl) ?_
                    cases h1
                    exact .lf hj1 rfl [] (by kernel_rfl)
                  · have h1 := iteN g15 h1
                    refine .r [.b true, .b true, .b true, .call [] (bE k13) [], .b true, .b true, .b true, .b true, .v (a0.scopes.length : Int), .b true, .b true, .b false, .b false, .b false, .b false, .b false] (A (decide_eq_true g12 : decide (a0.name = []) = true) (A (decide_eq_true g12 : decide (a0.name = []) = true) (A (A (decide_eq_true g12 : decide (a0.name = []) = true) (w_im_within n _ _ _ hk13)) (A (decide_eq_true g12 : decide (a0.name = []) = true) (A g14 (A g14 (A (A g14 (dInt.len' a0.scopes)) (A g14 (A g14 (A (decide_eq_false g15 : decide ((a0.scopes.length : Int) = 0) = false) (A (decide_eq_false g15 : decide ((a0.scopes.length : Int) = 0) = false) (A (decide_eq_false g15 : decide ((a0.scopes.length : Int) = 0) = false) (A (decide_eq_false g15 : decide ((a0.scopes.length : Int) = 0) = false) (A (decide_eq_false g15 : decide ((a0.scopes.length : Int) = 0) = false) T)))))))))))))) [(6, bE false)] rfl (by kernel_rfl) ?_
                    cases h1
                    exact .lf hj1 rfl [] (by kernel_rfl)
                · have h1 := iteN g14 h1
                  refine .r [.b true, .b true, .b true, .call [] (bE k13) [], .b true, .b false, .b false, .b false, .b false, .b false, .b false, .b false, .b false, .b false, .b false] (A (decide_eq_true g12 : decide (a0.name = []) = true) (A (decide_eq_true g12 : decide (a0.name = []) = true) (A (A (decide_eq_true g12 : decide (a0.name = []) = true) (w_im_within n _ _ _ hk13)) (A (decide_eq_true g12 : decide (a0.name = []) = true) (A (Bool.eq_false_iff.2 g14) (A (Bool.eq_false_iff.2 g14) (A (Bool.eq_false_iff.2 g14) (A (Bool.eq_false_iff.2 g14) (A (Bool.eq_false_iff.2 g14) (A (rfl : false = false) (A (rfl : false = false) (A (rfl : false = false) (A (rfl : false = false) (A (rfl : false = false) T)))))))))))))) [(6, bE false)] rfl (by kernel_rfl) ?_
                  cases h1
                  exact .lf hj1 rfl [] (by kernel_rfl)
              · have h1 := iteN g12 h1
                refine .r [.b false, .b false, .b false, .b false, .b false, .b false, .b false, .b false, .b false, .b false, .b false, .b false, .b false, .b false] (A (decide_eq_false g12 : decide (a0.name = []) = false) (A (decide_eq_false g12 : decide (a0.name = []) = false) (A (decide_eq_false g12 : decide (a0.name = []) = false) (A (decide_eq_false g12 : decide (a0.name = []) = false) (A (rfl : false = false) (A (rfl : false = false) (A (rfl : false = false) (A (rfl : false = false) (A (rfl : false = false) (A (rfl : false = false) (A (rfl : false = false) (A (rfl : false = false) (A (rfl : false = false) (A (rfl : false = false) T)))))))))))))) [(6, bE false)] rfl (by kernel_rfl) ?_
                cases h1
                exact .lf hj1 rfl [] (by kernel_rfl)
          · refine .r [] T [(67, dE (a0.kind = 3))] rfl (by kernel_rfl) ?_
            refine .cP h0 rfl (by kernel_rfl) (fun hc16 h0 => ?_) (fun hc16 h0 => ?_)
            · refine .bP h0 rfl [1, 2, 3] (fun o17 => [(82, bE o17)]) n1 n1 (fun o17 h0 => ?_) (fun y1 h1 hj1 => ?_)
              · refine .cT h0 rfl (by kernel_rfl) (fun hc18 h0 => ?_) (fun hc18 h0 => ?_)
                · refine .r [] T [(6, bE false)] rfl (by kernel_rfl) ?_
                  cases h0
                  exact .ret rfl rfl (by kernel_rfl) hK
                · refine .r [.v (a0.kids.length : Int)] (A (dForm.len' a0.kids) T) [(84, lE 5 (ksForm a0.kids)), (85, iE (a0.kids.length : Int)), (86, iE 0)] rfl (by kernel_rfl) ?_
                  refine .sn 84 dForm a0.kids (by kernel_rfl) (fun hb19 => ?_)
                  refine .lI h0 rfl [1, 2, 84, 85] (fun i20 s21 => [(86, iE (i20 : Int))]) n2 (fun i20 s21 => [.c 0 0 (iE s21)]) [] (by kernel_rfl) (fun i20 s21 q22 hd24 hi26 h0 => ?_)
                  refine .r [] T [(87, dE ((i20 : Int) < (a0.kids.length : Int)))] rfl (by kernel_rfl) ?_
                  refine .lc hd24 rfl (by kernel_rfl) (fun x23 q222 hc27 hx23 hd25 hd25l => ?_) (fun hc27 => ?_)
                  · subst hc27
                    obtain ⟨y1, h1, hw1, hn1⟩ := forI_cons h0
                    refine .rf [.cs (kForm x23)] (A (dForm.idn hx23) T) [(8, pw 8)] [.o 8 (.cells ((kForm x23).map .d))] rfl (by kernel_rfl) ?_
                    obtain ⟨k28, hk28, h1⟩ := bnd h1
                    refine .ro [.pl, .call [.low 0] (bE k28.1) [.cells [iE k28.2]]] (A (ih _ _ _ hk28) T) [(95, bE (!k28.1))] [.c 0 0 (iE k28.2)] rfl (by kernel_rfl) ?_
                    refine .cT h1 rfl (by kernel_rfl) (fun hc29 h1 => ?_) (fun hc29 h1 => ?_)
                    · refine .r [] T [(6, bE false)] rfl (by kernel_rfl) ?_
                      cases h1
                      cases hw1 _ rfl
                      exact .ret rfl rfl (by kernel_rfl) hK
                    · refine .r [.v ((i20 + 1 : Nat) : Int)] (A (wn (i := i20) (by omega)) T) [(86, iE ((i20 + 1 : Nat) : Int))] rfl (by kernel_rfl) ?_
                      cases h1
                      refine .kp [1, 2, 84, 85, 86] [] ?_
                      refine .dr 8 (by kernel_rfl) ?_
                      exact .nL rfl (i20 + 1) _ hd25 hd25l (hn1 _ rfl) [] (by kernel_rfl)
                  · subst hc27
                    have h0 := forI_nil h0
                    refine .r [] T [(6, bE true)] rfl (by kernel_rfl) ?_
                    cases h0
                    exact .ret rfl rfl (by kernel_rfl) hK
              · by_cases g30 : ¬ a0.name = []
                · have h1 := iteP g30 h1
                  refine .r [.b true, .b true, .b true, .b true, .b true, .b true, .b true, .b true, .b true] (A (decide_eq_true g30 : decide (¬ a0.name = []) = true) (A (decide_eq_true g30 : decide (¬ a0.name = []) = true) (A (decide_eq_true g30 : decide (¬ a0.name = []) = true) (A (decide_eq_true g30 : decide (¬ a0.name = []) = true) (A (rfl : true = true) (A (rfl : true = true) (A (rfl : true = true) (A (rfl : true = true) (A (rfl : true = true) T))))))))) [(82, bE true)] rfl (by kernel_rfl) ?_
                  cases h1
                  exact .lf hj1 rfl [] (by kernel_rfl)
                · have h1 := iteN g30 h1
                  by_cases g31 : ¬ a0.n = 0
                  · have h1 := iteP g31 h1
                    refine .r [.b false, .b false, .b false, .b false, .b true, .b true, .b true, .b true, .b true] (A (decide_eq_false g30 : decide (¬ a0.name = []) = false) (A (decide_eq_false g30 : decide (¬ a0.name = []) = false) (A (decide_eq_false g30 : decide (¬ a0.name = []) = false) (A (decide_eq_false g30 : decide (¬ a0.name = []) = false) (A (decide_eq_true g31 : decide (¬ a0.n = 0) = true) (A (decide_eq_true g31 : decide (¬ a0.n = 0) = true) (A (decide_eq_true g31 : decide (¬ a0.n = 0) = true) (A (decide_eq_true g31 : decide (¬ a0.n = 0) = true) (A (decide_eq_true g31 : decide (¬ a0.n = 0) = true) T))))))))) [(82, bE true)] rfl (by kernel_rfl) ?_
                    cases h1
                    exact .lf hj1 rfl [] (by kernel_rfl)
                  · have h1 := iteN g31 h1
                    refine .r [.b false, .b false, .b false, .b false, .b false, .b false, .b false, .v (a0.scopes.length : Int), .b false, .b false] (A (decide_eq_false g30 : decide (¬ a0.name = []) = false) (A (decide_eq_false g30 : decide (¬ a0.name = []) = false) (A (decide_eq_false g30 : decide (¬ a0.name = []) = false) (A (decide_eq_false g30 : decide (¬ a0.name = []) = false) (A (decide_eq_false g31 : decide (¬ a0.n = 0) = false) (A (decide_eq_false g31 : decide (¬ a0.n = 0) = false) (A (A (decide_eq_false g31 : decide (¬ a0.n = 0) = false) (dInt.len' a0.scopes)) (A (decide_eq_false g31 : decide (¬ a0.n = 0) = false) (A (decide_eq_false g31 : decide (¬ a0.n = 0) = false) T))))))))) [(82, dE ((a0.scopes.length : Int) > 0))] rfl (by kernel_rfl) ?_
                    cases h1
                    exact .lf hj1 rfl [] (by kernel_rfl)
            · refine .r [] T [(6, bE false)] rfl (by kernel_rfl) ?_
              cases h0
              exact .ret rfl rfl (by kernel_rfl) hK
    · by_cases g32 : (w64 (w0 - 1)) < 0
      · have h1 := iteP g32 h1
        refine .r [.b true, .b true, .b true] (A (decide_eq_true g32 : decide ((w64 (w0 - 1)) < 0) = true) (A (decide_eq_true g32 : decide ((w64 (w0 - 1)) < 0) = true) (A (decide_eq_true g32 : decide ((w64 (w0 - 1)) < 0) = true) T))) [(21, bE true)] rfl (by kernel_rfl) ?_
        cases h1
        exact .lf hj1 rfl [] (by kernel_rfl)
      · have h1 := iteN g32 h1
        refine .r [.b false, .b false, .b false] (A (decide_eq_false g32 : decide ((w64 (w0 - 1)) < 0) = false) (A (decide_eq_false g32 : decide ((w64 (w0 - 1)) < 0) = false) (A (decide_eq_false g32 : decide ((w64 (w0 - 1)) < 0) = false) T))) [(21, dE (a1 > 40))] rfl (by kernel_rfl) ?_
        cases h1
        exact .lf hj1 rfl [] (by kernel_rfl)
def im_FormValid (n : Nat) (a0 : Form) : Option (Bool) :=
  (im_formOk n a0 1 400).bind fun k1 => some k1.1
theorem w_im_FormValid (n : Nat) : ∀ (a0 : Form) {r : Bool}, im_FormValid n a0 = some r → SCall X.E 68 [aE (kForm a0)] [] (bE r) [] := by
  intro a0 r h0
  rw [im_FormValid] at h0
  refine .m Tryd.func68 rfl rfl rfl (by kernel_rfl) (fun L ks low K hl hL hlen hK => ?_)
  refine .rf [] T [(1, pw 1)] [.o 1 (.cells ((kForm a0).map .d))] rfl (by kernel_rfl) ?_
  refine .rf [] T [(3, pw 3)] [.o 3 (.cells [iE 400])] rfl (by kernel_rfl) ?_
  obtain ⟨k1, hk1, h0⟩ := bnd h0
  refine .rf [.call [.own 3] (bE k1.1) [.cells [iE k1.2]]] (A (w_im_formOk n _ _ _ hk1) T) [(2, bE k1.1)] [.c 3 0 (iE k1.2)] rfl (by kernel_rfl) ?_
  cases h0
  exact .ret rfl rfl (by kernel_rfl) hK
def im_ScopesOf_1 (n : Nat) (a0 : Form) (w0 : List Int) : Option (List Int) :=
  (apB 8 w0 a0.scopes).bind fun z1 => some z1
theorem w_im_ScopesOf_1 (n : Nat) : ∀ (a0 : Form) (w0 : List Int) {r : List Int}, im_ScopesOf_1 n a0 w0 = some r → SCall X.E 80 [aE (kForm a0), pl 0] [some (.cells [.vs (.low 1) 1 ((ksInt w0).length)]), some (.vec 3 1 (ksInt w0))] (.tup []) [.cells [.vs (.low 1) 1 ((ksInt r).length)], .vec 3 1 (ksInt r)] := by
  intro a0 w0 r h0
  rw [im_ScopesOf_1] at h0
  refine .m Tryd.func80 rfl rfl rfl (by kernel_rfl) (fun L ks low K hl hL hlen hK => ?_)
  refine .rf [] T [(2, pw 2)] [.o 2 (.cells ((kForm a0).map .d))] rfl (by kernel_rfl) ?_
  obtain ⟨z1, hz1, h0⟩ := bnd h0
  refine .ro [.sv (ksInt z1)] (A (A (dInt.ap hz1) (rfl : (ksInt w0).length = (ksInt w0).length)) T) [] [.c 0 0 (.vs (.low 1) 1 ((ksInt z1).length)), .o 1 (.vec 3 1 (ksInt z1))] rfl (by kernel_rfl) ?_
  cases h0
  exact .fin rfl rfl rfl rfl hK
def im_eachForm__im_ScopesOf_1 : Nat → Form → (List Int) → Option (List Int)
  | 0, _, _ => none
  | n + 1, a0, w0 => (im_ScopesOf_1 n a0 w0).bind fun k1 => Option.bind (forL (fun (s4 : List Int) (i3 : Nat) (x6 : Form) => (im_eachForm__im_ScopesOf_1 n x6 s4).bind fun k11 => some k11) 0 a0.kids k1) (fun (s4 : List Int) => some s4)
theorem w_im_eachForm__im_ScopesOf_1 (n : Nat) : ∀ (a0 : Form) (w0 : List Int) {r : List Int}, im_eachForm__im_ScopesOf_1 n a0 w0 = some r → SCall X.E 79 [aE (kForm a0), .clo 80 [] [pl 0]] [some (.cells [.vs (.low 1) 1 ((ksInt w0).length)]), some (.vec 3 1 (ksInt w0))] (.tup []) [.cells [.vs (.low 1) 1 ((ksInt r).length)], .vec 3 1 (ksInt r)] := by
  induction n with
  | zero => intro a0 w0 r h; cases h
  | succ n ih =>
    intro a0 w0 r h0
    rw [im_eachForm__im_ScopesOf_1] at h0
    refine .m Tryd.func79 rfl rfl rfl (by kernel_rfl) (fun L ks low K hl hL hlen hK => ?_)
    refine .rf [] T [(2, pw 2)] [.o 2 (.cells ((kForm a0).map .d))] rfl (by kernel_rfl) ?_
    obtain ⟨k1, hk1, h0⟩ := bnd h0
    refine .ro [.call [.low 0, .low 1] (.tup []) [.cells [.vs (.low 1) 1 ((ksInt k1).length)], .vec 3 1 (ksInt k1)]] (A (w_im_ScopesOf_1 n _ _ hk1) T) [] [.c 0 0 (.vs (.low 1) 1 ((ksInt k1).length)), .o 1 (.vec 3 1 (ksInt k1))] rfl (by kernel_rfl) ?_
    refine .r [.v (a0.kids.length : Int)] (A (dForm.len' a0.kids) T) [(10, lE 5 (ksForm a0.kids)), (11, iE (a0.kids.length : Int)), (12, iE 0)] rfl (by kernel_rfl) ?_
    refine .sn 10 dForm a0.kids (by kernel_rfl) (fun hb2 => ?_)
    refine .lL h0 rfl [1, 10, 11] (fun i3 s4 => [(12, iE (i3 : Int))]) n2 (fun i3 s4 => [.c 0 0 (.vs (.low 1) 1 ((ksInt s4).length)), .o 1 (.vec 3 1 (ksInt s4))]) [] (by kernel_rfl) (fun i3 s4 q5 hd7 hi9 h0 => ?_)
    refine .r [] T [(13, dE ((i3 : Int) < (a0.kids.length : Int)))] rfl (by kernel_rfl) ?_
    refine .lc hd7 rfl (by kernel_rfl) (fun x6 q52 hc10 hx6 hd8 hd8l => ?_) (fun hc10 => ?_)
    · subst hc10
      obtain ⟨y1, h1, hn1⟩ := forL_cons h0
      refine .rf [.cs (kForm x6)] (A (dForm.idn hx6) T) [(5, pw 5)] [.o 5 (.cells ((kForm x6).map .d))] rfl (by kernel_rfl) ?_
      obtain ⟨k11, hk11, h1⟩ := bnd h1
      refine .ro [.call [.low 0, .low 1] (.tup []) [.cells [.vs (.low 1) 1 ((ksInt k11).length)], .vec 3 1 (ksInt k11)]] (A (ih _ _ hk11) T) [] [.c 0 0 (.vs (.low 1) 1 ((ksInt k11).length)), .o 1 (.vec 3 1 (ksInt k11))] rfl (by kernel_rfl) ?_
      refine .r [.v ((i3 + 1 : Nat) : Int)] (A (wn (i := i3) (by omega)) T) [(12, iE ((i3 + 1 : Nat) : Int))] rfl (by kernel_rfl) ?_
      cases h1
      refine .kp [1, 10, 11, 12] [] ?_
      refine .dr 5 (by kernel_rfl) ?_
      exact .nL rfl (i3 + 1) _ hd8 hd8l hn1 [] (by kernel_rfl)
    · subst hc10
      have h0 := forL_nil h0
      cases h0
      exact .fin rfl rfl rfl rfl hK
def slices_Compact_int_v (n : Nat) (a0 : List Int) : Option (List Int) := some (Lib.compact a0)
theorem w_slices_Compact_int_v (n : Nat) : ∀ (a0 : List Int) {r : List Int}, slices_Compact_int_v n a0 = some r → SCall X.E 82 [.vs (.low 0) 1 ((ksInt a0).length)] [some (.vec 3 1 (ksInt a0))] (lE 1 (ksInt r)) [.tok 9223372036854775808 3] := by
  intro a0 r h0
  cases h0
  exact SCall.rowCut Tryd.func82 rfl rfl (Lib.compact_length_le a0) (fun _ p cap w => Tryd.slices_Compact_int_empty p cap w) (fun b cap w hc hm hH hb => (Tryd.slices_Compact_int b 0 cap a0 w hH hm hc).mono (by rintro e w' ⟨rfl, q, rfl⟩; exact ⟨rfl, OnRow.pre (.of_put0 w q b _ hb)⟩))
def slices_Sort_int_v (n : Nat) (a0 : List Int) : Option (List Int) := if a0.length < 4611686018427387904 then some (a0.mergeSort fun x y => decide (x ≤ y)) else none
theorem w_slices_Sort_int_v (n : Nat) : ∀ (a0 : List Int) {r : List Int}, slices_Sort_int_v n a0 = some r → SCall X.E 81 [.vs (.low 0) 1 ((ksInt a0).length)] [some (.vec 3 1 (ksInt a0))] (.tup []) [.vec 3 1 (ksInt r)] := by
  intro a0 r h0
  rw [slices_Sort_int_v] at h0
  split at h0
  · rename_i hlt; cases h0; exact SCall.row Tryd.func81 rfl rfl (by simp) (fun _ p cap w => Tryd.slices_Sort_int_none p cap w) (fun b cap w _ hH hb => (Tryd.slices_Sort_int b 0 cap a0 w hH hb hlt).mono (by rintro e w' ⟨rfl, n, os, rfl⟩; exact ⟨rfl, .of_put w n b _ os hb⟩))
  · cases h0
def im_ScopesOf (n : Nat) (a0 : Form) : Option (List Int) :=
  (im_FormValid n a0).bind fun k1 => (if (!k1) = true then some [] else (im_eachForm__im_ScopesOf_1 n a0 []).bind fun k3 => (slices_Sort_int_v n k3).bind fun k4 => (lenB k4 k3.length).bind fun u5 => (slices_Compact_int_v n k4).bind fun k7 => some k7)
theorem w_im_ScopesOf (n : Nat) : ∀ (a0 : Form) {r : List Int}, im_ScopesOf n a0 = some r → SCall X.E 69 [aE (kForm a0)] [] (lE 1 (ksInt r)) [] := by
  intro a0 r h0
  rw [im_ScopesOf] at h0
  refine .m Tryd.func69 rfl rfl rfl (by kernel_rfl) (fun L ks low K hl hL hlen hK => ?_)
  refine .rf [] T [(1, pw 1)] [.o 1 (.cells ((kForm a0).map .d))] rfl (by kernel_rfl) ?_
  refine .rf [.sv (ksInt [])] (A (dInt.lit []) T) [(3, pw 3)] [.o 3 (.cells [fE 1 (ksInt [])])] rfl (by kernel_rfl) ?_
  obtain ⟨k1, hk1, h0⟩ := bnd h0
  refine .r [.call [] (bE k1) []] (A (w_im_FormValid n _ hk1) T) [(7, bE (!k1))] rfl (by kernel_rfl) ?_
  refine .cT h0 rfl (by kernel_rfl) (fun hc2 h0 => ?_) (fun hc2 h0 => ?_)
  · refine .r [] T [(2, fE 1 (ksInt []))] rfl (by kernel_rfl) ?_
    cases h0
    exact .ret rfl rfl (by kernel_rfl) hK
  · refine .ov 3 0 400300 3 (by kernel_rfl) ?_
    obtain ⟨k3, hk3, h0⟩ := bnd h0
    refine .rf [.call [.own 3, .own 400300] (.tup []) [.cells [.vs (.low 1) 1 ((ksInt k3).length)], .vec 3 1 (ksInt k3)]] (A (w_im_eachForm__im_ScopesOf_1 n _ _ hk3) T) [] [.c 3 0 (.vs (.own 400300) 1 ((ksInt k3).length)), .o 400300 (.vec 3 1 (ksInt k3))] rfl (by kernel_rfl) ?_
    obtain ⟨k4, hk4, h0⟩ := bnd h0
    obtain ⟨u5, hu5, h0⟩ := bnd h0
    refine .rf [.call [.own 400300] (.tup []) [.vec 3 1 (ksInt k4)]] (A (w_slices_Sort_int_v n _ hk4) T) [] [.c 3 0 (.vs (.own 400300) 1 ((ksInt k3).length)), .o 400300 (.vec 3 1 (ksInt k4))] rfl (by kernel_rfl) ?_
    refine .rn (by rw [dInt.length, dInt.length]; exact (lenB_ok hu5).symm : (ksInt k3).length = (ksInt k4).length) (fun n6 => []) (fun n6 => [.c 3 0 (.vs (.own 400300) 1 n6)]) (fun n6 => []) (by kernel_rfl) ?_
    obtain ⟨k7, hk7, h0⟩ := bnd h0
    refine .rf [.call [.own 400300] (lE 1 (ksInt k7)) [.tok 9223372036854775808 3]] (A (w_slices_Compact_int_v n _ hk7) T) [(2, lE 1 (ksInt k7))] [.o 400300 (.tok 9223372036854775808 3)] rfl (by kernel_rfl) ?_
    cases h0
    exact .ret rfl rfl (by kernel_rfl) hK
def slices_Clone_int (n : Nat) (a0 : List Int) : Option (List Int) :=
  (apB 8 [] a0).bind fun z1 => some z1
theorem w_slices_Clone_int (n : Nat) : ∀ (a0 : List Int) {r : List Int}, slices_Clone_int n a0 = some r → SCall X.E 58 [lE 1 (ksInt a0)] [] (lE 1 (ksInt r)) [] := by
  intro a0 r h0
  rw [slices_Clone_int] at h0
  refine .m Tryd.func58 rfl rfl rfl (by kernel_rfl) (fun L ks low K hl hL hlen hK => ?_)
  refine .r [] T [] rfl (by kernel_rfl) ?_
  refine .nq rfl (by kernel_rfl) rfl rfl (fun e => ?_) ?_
  · have e : a0 = [] := by cases a0 with
      | nil => rfl
      | cons x q => rw [dInt.eq] at e; cases e
    subst e
    have e : r = [] := by simp [apB] at h0; exact h0
    subst e
    refine .cB true rfl (by kernel_rfl) ?_
    refine .r [] T [(2, fE 1 (ksInt []))] rfl (by kernel_rfl) ?_
    refine .kp [2] [] ?_
    refine .owV 2 400002 3 [] rfl rfl (by kernel_rfl) ?_
    refine .ft 2 400002 [] dInt [] rfl (by kernel_rfl) ?_
    exact .ret rfl rfl (by kernel_rfl) hK
  · refine .cB false rfl (by kernel_rfl) ?_
    obtain ⟨z1, hz1, h0⟩ := bnd h0
    refine .rf [.sv (ksInt []), .mv 7, .sv (ksInt z1)] (A (dInt.lit []) (A (dInt.ap0 hz1) T)) [(2, .vs (.own 100007) 1 (ksInt z1).length)] [.o 100007 (.vec 3 1 (ksInt z1))] rfl (by kernel_rfl) ?_
    refine .kp [2] [] ?_
    cases h0
    refine .ft 2 100007 [] dInt r rfl (by kernel_rfl) ?_
    exact .ret rfl rfl (by kernel_rfl) hK
def slices_Index_int (n : Nat) (a0 : List Int) (a1 : Int) : Option (Int) :=
  seqS (forI (fun (s3 : Unit) (i2 : Nat) (x5 : Int) => ((if a1 = x5 then some (Sum.inl (i2 : Int)) else some (Sum.inr ())) : Option (Int ⊕ Unit))) 0 a0 ()) (fun (s3 : Unit) => some (-1))
theorem w_slices_Index_int (n : Nat) : ∀ (a0 : List Int) (a1 : Int) {r : Int}, slices_Index_int n a0 a1 = some r → SCall X.E 57 [lE 1 (ksInt a0), iE a1] [] (iE r) [] := by
  intro a0 a1 r h0
  rw [slices_Index_int] at h0
  refine .m Tryd.func57 rfl rfl rfl (by kernel_rfl) (fun L ks low K hl hL hlen hK => ?_)
  refine .r [] T [] rfl (by kernel_rfl) ?_
  refine .r [.v (a0.length : Int)] (A (dInt.len' a0) T) [(7, iE (a0.length : Int)), (8, iE 0)] rfl (by kernel_rfl) ?_
  refine .sn 0 dInt a0 (by kernel_rfl) (fun hb1 => ?_)
  refine .lI h0 rfl [0, 1, 7] (fun i2 s3 => [(8, iE (i2 : Int))]) n2 n2 [] (by kernel_rfl) (fun i2 s3 q4 hd6 hi8 h0 => ?_)
  refine .r [] T [(9, dE ((i2 : Int) < (a0.length : Int)))] rfl (by kernel_rfl) ?_
  refine .lc hd6 rfl (by kernel_rfl) (fun x5 q42 hc9 hx5 hd7 hd7l => ?_) (fun hc9 => ?_)
  · subst hc9
    obtain ⟨y1, h1, hw1, hn1⟩ := forI_cons h0
    refine .r [] T [(5, iE (i2 : Int))] rfl (by kernel_rfl) ?_
    refine .r [.cs [.v (.int .i64 x5)]] (A (dInt.idn hx5) T) [(16, dE (a1 = x5))] rfl (by kernel_rfl) ?_
    refine .cP h1 rfl (by kernel_rfl) (fun hc10 h1 => ?_) (fun hc10 h1 => ?_)
    · refine .r [] T [(4, iE (i2 : Int))] rfl (by kernel_rfl) ?_
      cases h1
      cases hw1 _ rfl
      exact .ret rfl rfl (by kernel_rfl) hK
    · refine .r [.v ((i2 + 1 : Nat) : Int)] (A (wn (i := i2) (by omega)) T) [(8, iE ((i2 + 1 : Nat) : Int))] rfl (by kernel_rfl) ?_
      cases h1
      exact .nL rfl (i2 + 1) _ hd7 hd7l (hn1 _ rfl) [] (by kernel_rfl)
  · subst hc9
    have h0 := forI_nil h0
    refine .r [] T [(4, iE (-1))] rfl (by kernel_rfl) ?_
    cases h0
    exact .ret rfl rfl (by kernel_rfl) hK
def slices_Contains_int (n : Nat) (a0 : List Int) (a1 : Int) : Option (Bool) :=
  (slices_Index_int n a0 a1).bind fun k1 => some (decide (k1 ≥ 0))
theorem w_slices_Contains_int (n : Nat) : ∀ (a0 : List Int) (a1 : Int) {r : Bool}, slices_Contains_int n a0 a1 = some r → SCall X.E 33 [lE 1 (ksInt a0), iE a1] [] (bE r) [] := by
  intro a0 a1 r h0
  rw [slices_Contains_int] at h0
  refine .m Tryd.func33 rfl rfl rfl (by kernel_rfl) (fun L ks low K hl hL hlen hK => ?_)
  refine .r [] T [] rfl (by kernel_rfl) ?_
  obtain ⟨k1, hk1, h0⟩ := bnd h0
  refine .r [.call [] (iE k1) []] (A (w_slices_Index_int n _ _ hk1) T) [(4, dE (k1 ≥ 0))] rfl (by kernel_rfl) ?_
  cases h0
  exact .ret rfl rfl (by kernel_rfl) hK
def slices_Index_int_v (n : Nat) (a0 : List Int) (a1 : Int) : Option (Int) :=
  seqS (forI (fun (s3 : Unit) (i2 : Nat) (x5 : Int) => ((if a1 = x5 then some (Sum.inl (i2 : Int)) else some (Sum.inr ())) : Option (Int ⊕ Unit))) 0 a0 ()) (fun (s3 : Unit) => some (-1))
theorem w_slices_Index_int_v (n : Nat) : ∀ (a0 : List Int) (a1 : Int) {r : Int}, slices_Index_int_v n a0 a1 = some r → SCall X.E 57 [.vs (.low 0) 1 ((ksInt a0).length), iE a1] [some (.vec 3 1 (ksInt a0))] (iE r) [.vec 3 1 (ksInt a0)] := by
  intro a0 a1 r h0
  rw [slices_Index_int_v] at h0
  refine .m Tryd.func57 rfl rfl rfl (by kernel_rfl) (fun L ks low K hl hL hlen hK => ?_)
  refine .r [] T [] rfl (by kernel_rfl) ?_
  refine .r [.v (a0.length : Int)] (A (dInt.len' a0) T) [(7, iE (a0.length : Int)), (8, iE 0)] rfl (by kernel_rfl) ?_
  refine .snV 0 dInt a0 (by kernel_rfl) (fun hb1 => ?_)
  refine .lI h0 rfl [0, 1, 7] (fun i2 s3 => [(8, iE (i2 : Int))]) n2 n2 [] (by kernel_rfl) (fun i2 s3 q4 hd6 hi8 h0 => ?_)
  refine .r [] T [(9, dE ((i2 : Int) < (a0.length : Int)))] rfl (by kernel_rfl) ?_
  refine .lc hd6 rfl (by kernel_rfl) (fun x5 q42 hc9 hx5 hd7 hd7l => ?_) (fun hc9 => ?_)
  · subst hc9
    obtain ⟨y1, h1, hw1, hn1⟩ := forI_cons h0
    refine .r [] T [(5, iE (i2 : Int))] rfl (by kernel_rfl) ?_
    refine .r [.cs [.v (.int .i64 x5)]] (A (A (dInt.inv (inB_of hx5) (rfl : (ksInt a0).length = (ksInt a0).length)) (rfl : (ksInt a0).length = (ksInt a0).length)) (A (A (A (dInt.rows a0) (dInt.ixr hx5)) (rfl : (ksInt a0).length = (ksInt a0).length)) T)) [(16, dE (a1 = x5))] rfl (by kernel_rfl) ?_
    refine .cP h1 rfl (by kernel_rfl) (fun hc10 h1 => ?_) (fun hc10 h1 => ?_)
    · refine .r [] T [(4, iE (i2 : Int))] rfl (by kernel_rfl) ?_
      cases h1
      cases hw1 _ rfl
      exact .ret rfl rfl (by kernel_rfl) hK
    · refine .r [.v ((i2 + 1 : Nat) : Int)] (A (wn (i := i2) (by omega)) T) [(8, iE ((i2 + 1 : Nat) : Int))] rfl (by kernel_rfl) ?_
      cases h1
      exact .nL rfl (i2 + 1) _ hd7 hd7l (hn1 _ rfl) [] (by kernel_rfl)
  · subst hc9
    have h0 := forI_nil h0
    refine .r [] T [(4, iE (-1))] rfl (by kernel_rfl) ?_
    cases h0
    exact .ret rfl rfl (by kernel_rfl) hK
def slices_Contains_int_v (n : Nat) (a0 : List Int) (a1 : Int) : Option (Bool) :=
  (slices_Index_int_v n a0 a1).bind fun k1 => some (decide (k1 ≥ 0))
theorem w_slices_Contains_int_v (n : Nat) : ∀ (a0 : List Int) (a1 : Int) {r : Bool}, slices_Contains_int_v n a0 a1 = some r → SCall X.E 33 [.vs (.low 0) 1 ((ksInt a0).length), iE a1] [some (.vec 3 1 (ksInt a0))] (bE r) [.vec 3 1 (ksInt a0)] := by
  intro a0 a1 r h0
  rw [slices_Contains_int_v] at h0
  refine .m Tryd.func33 rfl rfl rfl (by kernel_rfl) (fun L ks low K hl hL hlen hK => ?_)
  refine .r [] T [] rfl (by kernel_rfl) ?_
  obtain ⟨k1, hk1, h0⟩ := bnd h0
  refine .r [.call [.low 0] (iE k1) [.vec 3 1 (ksInt a0)]] (A (w_slices_Index_int_v n _ _ hk1) T) [(4, dE (k1 ≥ 0))] rfl (by kernel_rfl) ?_
  cases h0
  exact .ret rfl rfl (by kernel_rfl) hK
theorem w_slices_Clone_int_o (n : Nat) : ∀ (a0 : List Int) {r : List Int}, slices_Clone_int n a0 = some r → SCall X.E 58 [lE 1 (ksInt a0)] [none] (.vs (.low 0) 1 ((ksInt r).length)) [.vec 3 1 (ksInt r)] := by
  intro a0 r h0
  rw [slices_Clone_int] at h0
  refine .m Tryd.func58 rfl rfl rfl (by kernel_rfl) (fun L ks low K hl hL hlen hK => ?_)
  refine .r [] T [] rfl (by kernel_rfl) ?_
  refine .nq rfl (by kernel_rfl) rfl rfl (fun e => ?_) ?_
  · have e : a0 = [] := by cases a0 with
      | nil => rfl
      | cons x q => rw [dInt.eq] at e; cases e
    subst e
    have e : r = [] := by simp [apB] at h0; exact h0
    subst e
    refine .cB true rfl (by kernel_rfl) ?_
    refine .r [] T [(2, fE 1 (ksInt []))] rfl (by kernel_rfl) ?_
    refine .kp [2] [] ?_
    refine .owV 2 400002 3 [] rfl rfl (by kernel_rfl) ?_
    refine .mv 2 400002 0 [] (by kernel_rfl) ?_
    exact .ret rfl rfl (by kernel_rfl) hK
  · refine .cB false rfl (by kernel_rfl) ?_
    obtain ⟨z1, hz1, h0⟩ := bnd h0
    refine .rf [.sv (ksInt []), .mv 7, .sv (ksInt z1)] (A (dInt.lit []) (A (dInt.ap0 hz1) T)) [(2, .vs (.own 100007) 1 (ksInt z1).length)] [.o 100007 (.vec 3 1 (ksInt z1))] rfl (by kernel_rfl) ?_
    refine .kp [2] [] ?_
    cases h0
    refine .mv 2 100007 0 [] (by kernel_rfl) ?_
    exact .ret rfl rfl (by kernel_rfl) hK
def im_coreOk : Nat → Core → (List Int) → Int → Int → Option (Bool × Int)
  | 0, _, _, _, _ => none
  | n + 1, a0, a1, a2, w0 => Option.bind ((if (w64 (w0 - 1)) < 0 then some true else some (decide (a2 > 120))) : Option (Bool)) (fun (o1 : Bool) => (if o1 = true then some (false, (w64 (w0 - 1))) else seqS ((if a0.kind = 1 then Option.bind ((im_within n a0.id 1 999).bind fun k22 => (if (!k22) = true then some true else (slices_Contains_int n a1 a0.id).bind fun k24 => some (!k24)) : Option (Bool)) (fun (o20 : Bool) => (if o20 = true then some (Sum.inl (false, (w64 (w0 - 1)))) else some (Sum.inr (0, a1, a0.id, [], 0, [], 0, [], 0, [], [])))) else (if a0.kind = 2 then (im_NameValid n a0.name).bind fun k26 => (if (!k26) = true then some (Sum.inl (false, (w64 (w0 - 1)))) else some (Sum.inr (0, a1, 0, a0.name, 0, [], 0, [], 0, [], []))) else (if a0.kind = 3 then (im_within n a0.n 0 999).bind fun k29 => (if (!k29) = true then some (Sum.inl (false, (w64 (w0 - 1)))) else some (Sum.inr (0, a1, 0, [], a0.n, [], 0, [], 0, [], []))) else (if a0.kind = 4 then Option.bind ((im_FormValid n a0.data).bind fun k34 => (if (!k34) = true then some true else (im_ScopesOf n a0.data).bind fun k36 => some (decide ((k36.length : Int) > 0))) : Option (Bool)) (fun (o32 : Bool) => (if o32 = true then some (Sum.inl (false, (w64 (w0 - 1)))) else some (Sum.inr (0, a1, 0, [], 0, [], a0.data.kind, a0.data.name, a0.data.n, a0.data.scopes, a0.data.kids)))) else (if a0.kind = 5 then (slices_Clone_int n a1).bind fun k38 => seqS (forI (fun (s41 : List Int) (i40 : Nat) (x43 : Int) => (Option.bind ((im_within n x43 1 999).bind fun k51 => (if (!k51) = true then some true else (slices_Contains_int_v n s41 x43).bind fun k53 => some k53) : Option (Bool)) (fun (o48 : Bool) => (if o48 = true then some (Sum.inl (Sum.inl (false, (w64 (w0 - 1))))) else (apB 8 s41 [x43]).bind fun z50 => some (Sum.inr z50))) : Option (((Bool × Int) ⊕ (Int × (List Int) × Int × (List UInt8) × Int × (List Int) × Int × (List UInt8) × Int × (List Int) × (List Form))) ⊕ (List Int)))) 0 a0.ids k38) (fun (s41 : List Int) => some (Sum.inr (1, s41, 0, [], 0, a0.ids, 0, [], 0, [], []))) else (if a0.kind = 6 then some (Sum.inr ((if (a0.kids.length : Int) > 1 then (a0.kids.length : Int) else 1), a1, 0, [], 0, [], 0, [], 0, [], [])) else (if a0.kind = 7 then some (Sum.inr (3, a1, 0, [], 0, [], 0, [], 0, [], [])) else some (Sum.inl (false, (w64 (w0 - 1))))))))))) : Option ((Bool × Int) ⊕ (Int × (List Int) × Int × (List UInt8) × Int × (List Int) × Int × (List UInt8) × Int × (List Int) × (List Form)))) (fun (o3 : Int × (List Int) × Int × (List UInt8) × Int × (List Int) × Int × (List UInt8) × Int × (List Int) × (List Form)) => Option.bind ((if ¬ (a0.kids.length : Int) = o3.1 then some true else (im_sameCore n a0 (⟨a0.kind, o3.2.2.1, o3.2.2.2.1, o3.2.2.2.2.1, o3.2.2.2.2.2.1, (⟨o3.2.2.2.2.2.2.1, o3.2.2.2.2.2.2.2.1, o3.2.2.2.2.2.2.2.2.1, o3.2.2.2.2.2.2.2.2.2.1, o3.2.2.2.2.2.2.2.2.2.2⟩ : Form), a0.kids⟩ : Core)).bind fun k18 => some (!k18)) : Option (Bool)) (fun (o4 : Bool) => (if o4 = true then some (false, (w64 (w0 - 1))) else seqS (forI (fun (s8 : Int) (i7 : Nat) (x10 : Core) => ((im_coreOk n x10 o3.2.1 (w64 (a2 + 1)) s8).bind fun k15 => (if (!k15.1) = true then some (Sum.inl (false, k15.2)) else some (Sum.inr k15.2)) : Option ((Bool × Int) ⊕ Int))) 0 a0.kids (w64 (w0 - 1))) (fun (s8 : Int) => some (true, s8)))))))
theorem w_im_coreOk (n : Nat) : ∀ (a0 : Core) (a1 : List Int) (a2 : Int) (w0 : Int) {r : Bool × Int}, im_coreOk n a0 a1 a2 w0 = some r → SCall X.E 47 [aE (kCore a0), lE 1 (ksInt a1), iE a2, pl 0] [some (.cells [iE w0])] (bE r.1) [.cells [iE r.2]] := by
  induction n with
  | zero => intro a0 a1 a2 w0 r h; cases h
  | succ n ih =>
    intro a0 a1 a2 w0 r h0
    rw [im_coreOk] at h0
    refine .m Tryd.func47 rfl rfl rfl (by kernel_rfl) (fun L ks low K hl hL hlen hK => ?_)
    refine .rf [] T [(4, pw 4)] [.o 4 (.cells ((kCore a0).map .d))] rfl (by kernel_rfl) ?_
    refine .ro [.pl] T [] [.c 0 0 (iE (w64 (w0 - 1)))] rfl (by kernel_rfl) ?_
    refine .bP h0 rfl [1, 2, 3, 4] (fun o1 => [(28, bE o1)]) n1 n1 (fun o1 h0 => ?_) (fun y1 h1 hj1 => ?_)
    · refine .cT h0 rfl (by kernel_rfl) (fun hc2 h0 => ?_) (fun hc2 h0 => ?_)
      · refine .r [] T [(8, bE false)] rfl (by kernel_rfl) ?_
        cases h0
        exact .ret rfl rfl (by kernel_rfl) hK
      · refine .rf [] T [(9, pw 9), (10, iE 0), (11, lE 1 (ksInt a1))] [.o 9 (.cells [iE a0.kind, iE 0, sE [], iE 0, fE 1 (ksInt []), iE 0, sE [], iE 0, fE 1 (ksInt []), fE 5 (ksForm []), lE 11 (ksCore a0.kids)])] rfl (by kernel_rfl) ?_
        refine .r [] T [(36, iE a0.kind)] rfl (by kernel_rfl) ?_
        refine .bSB h0 rfl [2, 3, 4, 9] (fun o3 => [(10, iE o3.1), (11, lE 1 (ksInt o3.2.1))]) (fun o3 => [.o 9 (.cells [iE a0.kind, iE o3.2.2.1, sE o3.2.2.2.1, iE o3.2.2.2.2.1, lE 1 (ksInt o3.2.2.2.2.2.1), iE o3.2.2.2.2.2.2.1, sE o3.2.2.2.2.2.2.2.1, iE o3.2.2.2.2.2.2.2.2.1, lE 1 (ksInt o3.2.2.2.2.2.2.2.2.2.1), lE 5 (ksForm o3.2.2.2.2.2.2.2.2.2.2), lE 11 (ksCore a0.kids)])]) n1 (fun o3 h0 => ?_) (fun y1 h1 hj1 hw1 => ?_)
        · refine .bP h0 rfl [2, 3, 4, 11] (fun o4 => [(132, bE o4)]) n1 n1 (fun o4 h0 => ?_) (fun y1 h1 hj1 => ?_)
          · refine .cT h0 rfl (by kernel_rfl) (fun hc5 h0 => ?_) (fun hc5 h0 => ?_)
            · refine .r [] T [(8, bE false)] rfl (by kernel_rfl) ?_
              cases h0
              exact .ret rfl rfl (by kernel_rfl) hK
            · refine .r [.v (a0.kids.length : Int)] (A (dCore.len' a0.kids) T) [(134, lE 11 (ksCore a0.kids)), (135, iE (a0.kids.length : Int)), (136, iE 0)] rfl (by kernel_rfl) ?_
              refine .sn 134 dCore a0.kids (by kernel_rfl) (fun hb6 => ?_)
              refine .lI h0 rfl [2, 3, 11, 134, 135] (fun i7 s8 => [(136, iE (i7 : Int))]) n2 (fun i7 s8 => [.c 0 0 (iE s8)]) [] (by kernel_rfl) (fun i7 s8 q9 hd11 hi13 h0 => ?_)
              refine .r [] T [(137, dE ((i7 : Int) < (a0.kids.length : Int)))] rfl (by kernel_rfl) ?_
              refine .lc hd11 rfl (by kernel_rfl) (fun x10 q92 hc14 hx10 hd12 hd12l => ?_) (fun hc14 => ?_)
              · subst hc14
                obtain ⟨y1, h1, hw1, hn1⟩ := forI_cons h0
                refine .rf [.cs (kCore x10)] (A (dCore.idn hx10) T) [(15, pw 15)] [.o 15 (.cells ((kCore x10).map .d))] rfl (by kernel_rfl) ?_
                obtain ⟨k15, hk15, h1⟩ := bnd h1
                refine .ro [.pl, .call [.low 0] (bE k15.1) [.cells [iE k15.2]]] (A (ih _ _ _ _ hk15) T) [(146, bE (!k15.1))] [.c 0 0 (iE k15.2)] rfl (by kernel_rfl) ?_
                refine .cT h1 rfl (by kernel_rfl) (fun hc16 h1 => ?_) (fun hc16 h1 => ?_)
                · refine .r [] T [(8, bE false)] rfl (by kernel_rfl) ?_
                  cases h1
                  cases hw1 _ rfl
                  exact .ret rfl rfl (by kernel_rfl) hK
                · refine .r [.v ((i7 + 1 : Nat) : Int)] (A (wn (i := i7) (by omega)) T) [(136, iE ((i7 + 1 : Nat) : Int))] rfl (by kernel_rfl) ?_
                  cases h1
                  refine .kp [2, 3, 11, 134, 135, 136] [] ?_
                  refine .dr 15 (by kernel_rfl) ?_
                  exact .nL rfl (i7 + 1) _ hd12 hd12l (hn1 _ rfl) [] (by kernel_rfl)
              · subst hc14
                have h0 := forI_nil h0
                refine .r [] T [(8, bE true)] rfl (by kernel_rfl) ?_
                cases h0
                exact .ret rfl rfl (by kernel_rfl) hK
          · by_cases g17 : ¬ (a0.kids.length : Int) = o3.1
            · have h1 := iteP g17 h1
              refine .r [.v (a0.kids.length : Int), .b true, .b true, .b true, .b true, .b true] (A (dCore.len' a0.kids) (A (decide_eq_true g17 : decide (¬ (a0.kids.length : Int) = o3.1) = true) (A (decide_eq_true g17 : decide (¬ (a0.kids.length : Int) = o3.1) = true) (A (decide_eq_true g17 : decide (¬ (a0.kids.length : Int) = o3.1) = true) (A (decide_eq_true g17 : decide (¬ (a0.kids.length : Int) = o3.1) = true) (A (decide_eq_true g17 : decide (¬ (a0.kids.length : Int) = o3.1) = true) T)))))) [(132, bE true)] rfl (by kernel_rfl) ?_
              cases h1
              exact .lf hj1 rfl [] (by kernel_rfl)
            · have h1 := iteN g17 h1
              obtain ⟨k18, hk18, h1⟩ := bnd h1
              refine .r [.v (a0.kids.length : Int), .b false, .b false, .b false, .call [] (bE k18) [], .b false, .b false] (A (dCore.len' a0.kids) (A (decide_eq_false g17 : decide (¬ (a0.kids.length : Int) = o3.1) = false) (A (decide_eq_false g17 : decide (¬ (a0.kids.length : Int) = o3.1) = false) (A (A (decide_eq_false g17 : decide (¬ (a0.kids.length : Int) = o3.1) = false) (w_im_sameCore n _ _ hk18)) (A (decide_eq_false g17 : decide (¬ (a0.kids.length : Int) = o3.1) = false) (A (decide_eq_false g17 : decide (¬ (a0.kids.length : Int) = o3.1) = false) T)))))) [(132, bE (!k18))] rfl (by kernel_rfl) ?_
              cases h1
              exact .lf hj1 rfl [] (by kernel_rfl)
        · refine .r [] T [(37, dE (a0.kind = 1))] rfl (by kernel_rfl) ?_
          refine .cP h1 rfl (by kernel_rfl) (fun hc19 h1 => ?_) (fun hc19 h1 => ?_)
          · refine .rf [] T [] [.c 9 1 (iE a0.id)] rfl (by kernel_rfl) ?_
            refine .bP h1 rfl [2, 3, 4, 9, 10, 11] (fun o20 => [(52, bE o20)]) n1 n1 (fun o20 h1 => ?_) (fun y2 h2 hj2 => ?_)
            · refine .cT h1 rfl (by kernel_rfl) (fun hc21 h1 => ?_) (fun hc21 h1 => ?_)
              · refine .r [] T [(8, bE false)] rfl (by kernel_rfl) ?_
                cases h1
                cases hw1 _ rfl
                exact .ret rfl rfl (by kernel_rfl) hK
              · cases h1
                refine .fg 9 [4, 8, 9] ?_
                exact .lf (hj1 _ rfl) rfl [] (by kernel_rfl)
            · obtain ⟨k22, hk22, h2⟩ := bnd h2
              by_cases g23 : (!k22) = true
              · have h2 := iteP g23 h2
                refine .r [.call [] (bE k22) [], .b true, .b true, .b true, .b true, .b true, .b true] (A (w_im_within n _ _ _ hk22) (A g23 (A g23 (A g23 (A g23 (A g23 (A g23 T))))))) [(52, bE true)] rfl (by kernel_rfl) ?_
                cases h2
                exact .lf hj2 rfl [] (by kernel_rfl)
              · have h2 := iteN g23 h2
                obtain ⟨k24, hk24, h2⟩ := bnd h2
                refine .r [.call [] (bE k22) [], .b false, .b false, .b false, .b false, .call [] (bE k24) [], .b false, .b false] (A (w_im_within n _ _ _ hk22) (A (Bool.eq_false_iff.2 g23) (A (Bool.eq_false_iff.2 g23) (A (Bool.eq_false_iff.2 g23) (A (A (Bool.eq_false_iff.2 g23) (w_slices_Contains_int n _ _ hk24)) (A (Bool.eq_false_iff.2 g23) (A (Bool.eq_false_iff.2 g23) T))))))) [(52, bE (!k24))] rfl (by kernel_rfl) ?_
                cases h2
                exact .lf hj2 rfl [] (by kernel_rfl)
          · refine .r [] T [(53, dE (a0.kind = 2))] rfl (by kernel_rfl) ?_
            refine .cP h1 rfl (by kernel_rfl) (fun hc25 h1 => ?_) (fun hc25 h1 => ?_)
            · refine .rf [] T [] [.c 9 2 (sE a0.name)] rfl (by kernel_rfl) ?_
              obtain ⟨k26, hk26, h1⟩ := bnd h1
              refine .r [.call [] (bE k26) []] (A (w_im_NameValid n _ hk26) T) [(61, bE (!k26))] rfl (by kernel_rfl) ?_
              refine .cT h1 rfl (by kernel_rfl) (fun hc27 h1 => ?_) (fun hc27 h1 => ?_)
              · refine .r [] T [(8, bE false)] rfl (by kernel_rfl) ?_
                cases h1
                cases hw1 _ rfl
                exact .ret rfl rfl (by kernel_rfl) hK
              · cases h1
                refine .fg 9 [4, 8, 9] ?_
                exact .lf (hj1 _ rfl) rfl [] (by kernel_rfl)
            · refine .r [] T [(62, dE (a0.kind = 3))] rfl (by kernel_rfl) ?_
              refine .cP h1 rfl (by kernel_rfl) (fun hc28 h1 => ?_) (fun hc28 h1 => ?_)
              · refine .rf [] T [] [.c 9 3 (iE a0.n)] rfl (by kernel_rfl) ?_
                obtain ⟨k29, hk29, h1⟩ := bnd h1
                refine .r [.call [] (bE k29) []] (A (w_im_within n _ _ _ hk29) T) [(70, bE (!k29))] rfl (by kernel_rfl) ?_
                refine .cT h1 rfl (by kernel_rfl) (fun hc30 h1 => ?_) (fun hc30 h1 => ?_)
                · refine .r [] T [(8, bE false)] rfl (by kernel_rfl) ?_
                  cases h1
                  cases hw1 _ rfl
                  exact .ret rfl rfl (by kernel_rfl) hK
                · cases h1
                  refine .fg 9 [4, 8, 9] ?_
                  exact .lf (hj1 _ rfl) rfl [] (by kernel_rfl)
              · refine .r [] T [(71, dE (a0.kind = 4))] rfl (by kernel_rfl) ?_
                refine .cP h1 rfl (by kernel_rfl) (fun hc31 h1 => ?_) (fun hc31 h1 => ?_)
                · refine .rf [] T [] [.c 9 5 (iE a0.data.kind), .c 9 6 (sE a0.data.name), .c 9 7 (iE a0.data.n), .c 9 8 (lE 1 (ksInt a0.data.scopes)), .c 9 9 (lE 5 (ksForm a0.data.kids))] rfl (by kernel_rfl) ?_
                  refine .bP h1 rfl [2, 3, 4, 9, 10, 11] (fun o32 => [(86, bE o32)]) n1 n1 (fun o32 h1 => ?_) (fun y2 h2 hj2 => ?_)
                  · refine .cT h1 rfl (by kernel_rfl) (fun hc33 h1 => ?_) (fun hc33 h1 => ?_)
                    · refine .r [] T [(8, bE false)] rfl (by kernel_rfl) ?_
                      cases h1
                      cases hw1 _ rfl
                      exact .ret rfl rfl (by kernel_rfl) hK
                    · cases h1
                      refine .fg 9 [4] ?_
                      exact .lf (hj1 _ rfl) rfl [] (by kernel_rfl)
                  · obtain ⟨k34, hk34, h2⟩ := bnd h2
                    by_cases g35 : (!k34) = true
                    · have h2 := iteP g35 h2
                      refine .r [.call [] (bE k34) [], .b true, .b true, .b true, .b true, .b true, .b true] (A (w_im_FormValid n _ hk34) (A g35 (A g35 (A g35 (A g35 (A g35 (A g35 T))))))) [(86, bE true)] rfl (by kernel_rfl) ?_
                      cases h2
                      exact .lf hj2 rfl [] (by kernel_rfl)
                    · have h2 := iteN g35 h2
                      obtain ⟨k36, hk36, h2⟩ := bnd h2
                      refine .r [.call [] (bE k34) [], .b false, .b false, .b false, .call [] (lE 1 (ksInt k36)) [], .b false, .v (k36.length : Int), .b false, .b false] (A (w_im_FormValid n _ hk34) (A (Bool.eq_false_iff.2 g35) (A (Bool.eq_false_iff.2 g35) (A (A (Bool.eq_false_iff.2 g35) (w_im_ScopesOf n _ hk36)) (A (A (Bool.eq_false_iff.2 g35) (dInt.len' k36)) (A (Bool.eq_false_iff.2 g35) (A (Bool.eq_false_iff.2 g35) T))))))) [(86, dE ((k36.length : Int) > 0))] rfl (by kernel_rfl) ?_
                      cases h2
                      exact .lf hj2 rfl [] (by kernel_rfl)
                · refine .r [] T [(87, dE (a0.kind = 5))] rfl (by kernel_rfl) ?_
                  refine .cP h1 rfl (by kernel_rfl) (fun hc37 h1 => ?_) (fun hc37 h1 => ?_)
                  · refine .rf [] T [(10, iE 1)] [.c 9 4 (lE 1 (ksInt a0.ids))] rfl (by kernel_rfl) ?_
                    obtain ⟨k38, hk38, h1⟩ := bnd h1
                    refine .rf [.call [.own 300930] (.vs (.low 0) 1 ((ksInt k38).length)) [.vec 3 1 (ksInt k38)]] (A (w_slices_Clone_int_o n _ hk38) T) [(11, .vs (.own 300930) 1 ((ksInt k38).length))] [.o 300930 (.vec 3 1 (ksInt k38))] rfl (by kernel_rfl) ?_
                    refine .r [.v (a0.ids.length : Int)] (A (dInt.len' a0.ids) T) [(95, lE 1 (ksInt a0.ids)), (96, iE (a0.ids.length : Int)), (97, iE 0)] rfl (by kernel_rfl) ?_
                    refine .sn 95 dInt a0.ids (by kernel_rfl) (fun hb39 => ?_)
                    refine .lI h1 rfl [2, 3, 4, 9, 10, 95, 96] (fun i40 s41 => [(11, .vs (.own 300930) 1 ((ksInt s41).length)), (97, iE (i40 : Int))]) (fun i40 s41 => [.o 300930 (.vec 3 1 (ksInt s41))]) n2 [] (by kernel_rfl) (fun i40 s41 q42 hd44 hi46 h1 => ?_)
                    refine .r [] T [(98, dE ((i40 : Int) < (a0.ids.length : Int)))] rfl (by kernel_rfl) ?_
                    refine .lc hd44 rfl (by kernel_rfl) (fun x43 q422 hc47 hx43 hd45 hd45l => ?_) (fun hc47 => ?_)
                    · subst hc47
                      obtain ⟨y2, h2, hw2, hn2⟩ := forI_cons h1
                      refine .r [.cs [.v (.int .i64 x43)]] (A (dInt.idn hx43) T) [(13, iE x43)] rfl (by kernel_rfl) ?_
                      refine .bP h2 rfl [2, 3, 4, 9, 10, 11, 13, 95, 96, 97] (fun o48 => [(108, bE o48)]) n1 n1 (fun o48 h2 => ?_) (fun y3 h3 hj3 => ?_)
                      · refine .cT h2 rfl (by kernel_rfl) (fun hc49 h2 => ?_) (fun hc49 h2 => ?_)
                        · refine .r [] T [(8, bE false)] rfl (by kernel_rfl) ?_
                          cases h2
                          cases hw2 _ rfl
                          cases hw1 _ rfl
                          exact .ret rfl rfl (by kernel_rfl) hK
                        · obtain ⟨z50, hz50, h2⟩ := bnd h2
                          refine .rf [.sv (ksInt [x43]), .sv (ksInt z50)] (A (dInt.lit [x43]) (A (A (dInt.ap hz50) (rfl : (ksInt s41).length = (ksInt s41).length)) T)) [(11, .vs (.own 300930) 1 ((ksInt z50).length))] [.o 300930 (.vec 3 1 (ksInt z50))] rfl (by kernel_rfl) ?_
                          refine .r [.v ((i40 + 1 : Nat) : Int)] (A (wn (i := i40) (by omega)) T) [(97, iE ((i40 + 1 : Nat) : Int))] rfl (by kernel_rfl) ?_
                          cases h2
                          exact .nL rfl (i40 + 1) _ hd45 hd45l (hn2 _ rfl) [] (by kernel_rfl)
                      · obtain ⟨k51, hk51, h3⟩ := bnd h3
                        by_cases g52 : (!k51) = true
                        · have h3 := iteP g52 h3
                          refine .r [.call [] (bE k51) [], .b true, .b true, .b true, .b true] (A (w_im_within n _ _ _ hk51) (A g52 (A g52 (A g52 (A g52 T))))) [(108, bE true)] rfl (by kernel_rfl) ?_
                          cases h3
                          exact .lf hj3 rfl [] (by kernel_rfl)
                        · have h3 := iteN g52 h3
                          obtain ⟨k53, hk53, h3⟩ := bnd h3
                          refine .r [.call [] (bE k51) [], .b false, .b false, .b false, .call [.own 300930] (bE k53) [.vec 3 1 (ksInt s41)], .b false] (A (w_im_within n _ _ _ hk51) (A (Bool.eq_false_iff.2 g52) (A (Bool.eq_false_iff.2 g52) (A (A (Bool.eq_false_iff.2 g52) (w_slices_Contains_int_v n _ _ hk53)) (A (Bool.eq_false_iff.2 g52) T))))) [(108, bE k53)] rfl (by kernel_rfl) ?_
                          cases h3
                          exact .lf hj3 rfl [] (by kernel_rfl)
                    · subst hc47
                      have h1 := forI_nil h1
                      cases h1
                      refine .kp [2, 3, 4, 9, 10, 11] [] ?_
                      refine .ft 11 300930 [2, 3, 4, 9, 10] dInt s41 (rfl : (ksInt s41).length = (ksInt s41).length) (by kernel_rfl) ?_
                      refine .fg 9 [8, 9] ?_
                      exact .lf (hj1 _ rfl) rfl [] (by kernel_rfl)
                  · refine .r [] T [(114, dE (a0.kind = 6))] rfl (by kernel_rfl) ?_
                    refine .cP h1 rfl (by kernel_rfl) (fun hc54 h1 => ?_) (fun hc54 h1 => ?_)
                    · refine .r [.v (a0.kids.length : Int)] (A (dCore.len' a0.kids) T) [(10, iE (if (a0.kids.length : Int) > 1 then (a0.kids.length : Int) else 1)), (117, lE 11 (ksCore a0.kids))] rfl (by kernel_rfl) ?_
                      refine .sn 117 dCore a0.kids (by kernel_rfl) (fun hb55 => ?_)
                      cases h1
                      refine .fg 9 [4, 8, 9] ?_
                      exact .lf (hj1 _ rfl) rfl [] (by kernel_rfl)
                    · refine .r [] T [(120, dE (a0.kind = 7))] rfl (by kernel_rfl) ?_
                      refine .cP h1 rfl (by kernel_rfl) (fun hc56 h1 => ?_) (fun hc56 h1 => ?_)
                      · refine .r [] T [(10, iE 3)] rfl (by kernel_rfl) ?_
                        cases h1
                        refine .fg 9 [4, 8, 9] ?_
                        exact .lf (hj1 _ rfl) rfl [] (by kernel_rfl)
                      · refine .r [] T [(8, bE false)] rfl (by kernel_rfl) ?_
                        cases h1
                        cases hw1 _ rfl
                        exact .ret rfl rfl (by kernel_rfl) hK
    · by_cases g57 : (w64 (w0 - 1)) < 0
      · have h1 := iteP g57 h1
        refine .r [.b true, .b true, .b true] (A (decide_eq_true g57 : decide ((w64 (w0 - 1)) < 0) = true) (A (decide_eq_true g57 : decide ((w64 (w0 - 1)) < 0) = true) (A (decide_eq_true g57 : decide ((w64 (w0 - 1)) < 0) = true) T))) [(28, bE true)] rfl (by kernel_rfl) ?_
        cases h1
        exact .lf hj1 rfl [] (by kernel_rfl)
      · have h1 := iteN g57 h1
        refine .r [.b false, .b false, .b false] (A (decide_eq_false g57 : decide ((w64 (w0 - 1)) < 0) = false) (A (decide_eq_false g57 : decide ((w64 (w0 - 1)) < 0) = false) (A (decide_eq_false g57 : decide ((w64 (w0 - 1)) < 0) = false) T))) [(28, dE (a2 > 120))] rfl (by kernel_rfl) ?_
        cases h1
        exact .lf hj1 rfl [] (by kernel_rfl)
def im_CoreValid (n : Nat) (a0 : Core) : Option (Bool) :=
  (im_coreOk n a0 [] 1 600).bind fun k1 => some k1.1
theorem w_im_CoreValid (n : Nat) : ∀ (a0 : Core) {r : Bool}, im_CoreValid n a0 = some r → SCall X.E 22 [aE (kCore a0)] [] (bE r) [] := by
  intro a0 r h0
  rw [im_CoreValid] at h0
  refine .m Tryd.func22 rfl rfl rfl (by kernel_rfl) (fun L ks low K hl hL hlen hK => ?_)
  refine .rf [] T [(1, pw 1)] [.o 1 (.cells ((kCore a0).map .d))] rfl (by kernel_rfl) ?_
  refine .rf [] T [(3, pw 3)] [.o 3 (.cells [iE 600])] rfl (by kernel_rfl) ?_
  obtain ⟨k1, hk1, h0⟩ := bnd h0
  refine .rf [.call [.own 3] (bE k1.1) [.cells [iE k1.2]]] (A (w_im_coreOk n _ _ _ _ hk1) T) [(2, bE k1.1)] [.c 3 0 (iE k1.2)] rfl (by kernel_rfl) ?_
  cases h0
  exact .ret rfl rfl (by kernel_rfl) hK
def im_SubstituteVar_2 (n : Nat) (a0 : Core) (w0 : List Int) : Option (Bool) :=
  (im_CoreValid n (⟨5, 0, [], 0, w0, (⟨0, [], 0, [], []⟩ : Form), [a0]⟩ : Core)).bind fun k1 => some k1
theorem w_im_SubstituteVar_2 (n : Nat) : ∀ (a0 : Core) (w0 : List Int) {r : Bool}, im_SubstituteVar_2 n a0 w0 = some r → SCall X.E 35 [aE (kCore a0), pl 0] [some (.cells [lE 1 (ksInt w0)])] (bE r) [.cells [lE 1 (ksInt w0)]] := by
  intro a0 w0 r h0
  rw [im_SubstituteVar_2] at h0
  refine .m Tryd.func35 rfl rfl rfl (by kernel_rfl) (fun L ks low K hl hL hlen hK => ?_)
  refine .rf [] T [(2, pw 2)] [.o 2 (.cells ((kCore a0).map .d))] rfl (by kernel_rfl) ?_
  obtain ⟨k1, hk1, h0⟩ := bnd h0
  refine .r [.sv (ksCore [a0]), .call [] (bE k1) []] (A (dCore.lit [a0]) (A (w_im_CoreValid n _ hk1) T)) [(3, bE k1)] rfl (by kernel_rfl) ?_
  cases h0
  exact .ret rfl rfl (by kernel_rfl) hK
def im_SubstituteVar_1_1 (n : Nat) (a0 : Int) (w0 : List Int) : Option (Bool) :=
  (slices_Contains_int n w0 a0).bind fun k1 => some k1
theorem w_im_SubstituteVar_1_1 (n : Nat) : ∀ (a0 : Int) (w0 : List Int) {r : Bool}, im_SubstituteVar_1_1 n a0 w0 = some r → SCall X.E 32 [iE a0, pl 0] [some (.cells [lE 1 (ksInt w0)])] (bE r) [.cells [lE 1 (ksInt w0)]] := by
  intro a0 w0 r h0
  rw [im_SubstituteVar_1_1] at h0
  refine .m Tryd.func32 rfl rfl rfl (by kernel_rfl) (fun L ks low K hl hL hlen hK => ?_)
  refine .r [] T [] rfl (by kernel_rfl) ?_
  obtain ⟨k1, hk1, h0⟩ := bnd h0
  refine .r [.call [] (bE k1) []] (A (w_slices_Contains_int n _ _ hk1) T) [(3, bE k1)] rfl (by kernel_rfl) ?_
  cases h0
  exact .ret rfl rfl (by kernel_rfl) hK
def slices_IndexFunc_int__im_SubstituteVar_1_1 (n : Nat) (a0 : List Int) (w0 : List Int) : Option (Int) :=
  seqS (forI (fun (s3 : Unit) (i2 : Nat) (x5 : Int) => ((im_SubstituteVar_1_1 n x5 w0).bind fun k10 => (if k10 = true then some (Sum.inl (i2 : Int)) else some (Sum.inr ())) : Option (Int ⊕ Unit))) 0 a0 ()) (fun (s3 : Unit) => some (-1))
theorem w_slices_IndexFunc_int__im_SubstituteVar_1_1 (n : Nat) : ∀ (a0 : List Int) (w0 : List Int) {r : Int}, slices_IndexFunc_int__im_SubstituteVar_1_1 n a0 w0 = some r → SCall X.E 56 [lE 1 (ksInt a0), .clo 32 [] [pl 0]] [some (.cells [lE 1 (ksInt w0)])] (iE r) [.cells [lE 1 (ksInt w0)]] := by
  intro a0 w0 r h0
  rw [slices_IndexFunc_int__im_SubstituteVar_1_1] at h0
  refine .m Tryd.func56 rfl rfl rfl (by kernel_rfl) (fun L ks low K hl hL hlen hK => ?_)
  refine .r [] T [] rfl (by kernel_rfl) ?_
  refine .r [.v (a0.length : Int)] (A (dInt.len' a0) T) [(7, iE (a0.length : Int)), (8, iE 0)] rfl (by kernel_rfl) ?_
  refine .sn 0 dInt a0 (by kernel_rfl) (fun hb1 => ?_)
  refine .lI h0 rfl [0, 1, 7] (fun i2 s3 => [(8, iE (i2 : Int))]) n2 n2 [] (by kernel_rfl) (fun i2 s3 q4 hd6 hi8 h0 => ?_)
  refine .r [] T [(9, dE ((i2 : Int) < (a0.length : Int)))] rfl (by kernel_rfl) ?_
  refine .lc hd6 rfl (by kernel_rfl) (fun x5 q42 hc9 hx5 hd7 hd7l => ?_) (fun hc9 => ?_)
  · subst hc9
    obtain ⟨y1, h1, hw1, hn1⟩ := forI_cons h0
    refine .r [] T [(5, iE (i2 : Int))] rfl (by kernel_rfl) ?_
    obtain ⟨k10, hk10, h1⟩ := bnd h1
    refine .r [.cs [.v (.int .i64 x5)], .call [.low 0] (bE k10) [.cells [lE 1 (ksInt w0)]]] (A (dInt.idn hx5) (A (w_im_SubstituteVar_1_1 n _ _ hk10) T)) [(16, bE k10)] rfl (by kernel_rfl) ?_
    refine .cT h1 rfl (by kernel_rfl) (fun hc11 h1 => ?_) (fun hc11 h1 => ?_)
    · refine .r [] T [(4, iE (i2 : Int))] rfl (by kernel_rfl) ?_
      cases h1
      cases hw1 _ rfl
      exact .ret rfl rfl (by kernel_rfl) hK
    · refine .r [.v ((i2 + 1 : Nat) : Int)] (A (wn (i := i2) (by omega)) T) [(8, iE ((i2 + 1 : Nat) : Int))] rfl (by kernel_rfl) ?_
      cases h1
      exact .nL rfl (i2 + 1) _ hd7 hd7l (hn1 _ rfl) [] (by kernel_rfl)
  · subst hc9
    have h0 := forI_nil h0
    refine .r [] T [(4, iE (-1))] rfl (by kernel_rfl) ?_
    cases h0
    exact .ret rfl rfl (by kernel_rfl) hK
def slices_ContainsFunc_int__im_SubstituteVar_1_1 (n : Nat) (a0 : List Int) (w0 : List Int) : Option (Bool) :=
  (slices_IndexFunc_int__im_SubstituteVar_1_1 n a0 w0).bind fun k1 => some (decide (k1 ≥ 0))
theorem w_slices_ContainsFunc_int__im_SubstituteVar_1_1 (n : Nat) : ∀ (a0 : List Int) (w0 : List Int) {r : Bool}, slices_ContainsFunc_int__im_SubstituteVar_1_1 n a0 w0 = some r → SCall X.E 31 [lE 1 (ksInt a0), .clo 32 [] [pl 0]] [some (.cells [lE 1 (ksInt w0)])] (bE r) [.cells [lE 1 (ksInt w0)]] := by
  intro a0 w0 r h0
  rw [slices_ContainsFunc_int__im_SubstituteVar_1_1] at h0
  refine .m Tryd.func31 rfl rfl rfl (by kernel_rfl) (fun L ks low K hl hL hlen hK => ?_)
  refine .r [] T [] rfl (by kernel_rfl) ?_
  obtain ⟨k1, hk1, h0⟩ := bnd h0
  refine .r [.call [.low 0] (iE k1) [.cells [lE 1 (ksInt w0)]]] (A (w_slices_IndexFunc_int__im_SubstituteVar_1_1 n _ _ hk1) T) [(4, dE (k1 ≥ 0))] rfl (by kernel_rfl) ?_
  cases h0
  exact .ret rfl rfl (by kernel_rfl) hK
def im_SubstituteVar_1 (n : Nat) (a0 : Core) (w0 : Bool) (w1 : List Int) : Option (Bool) :=
  Option.bind ((if w0 = true then some true else (slices_ContainsFunc_int__im_SubstituteVar_1_1 n a0.ids w1).bind fun k3 => some k3) : Option (Bool)) (fun (o1 : Bool) => some o1)
theorem w_im_SubstituteVar_1 (n : Nat) : ∀ (a0 : Core) (w0 : Bool) (w1 : List Int) {r : Bool}, im_SubstituteVar_1 n a0 w0 w1 = some r → SCall X.E 30 [aE (kCore a0), pl 0, pl 1] [some (.cells [bE w0]), some (.cells [lE 1 (ksInt w1)])] (.tup []) [.cells [bE r], .cells [lE 1 (ksInt w1)]] := by
  intro a0 w0 w1 r h0
  rw [im_SubstituteVar_1] at h0
  refine .m Tryd.func30 rfl rfl rfl (by kernel_rfl) (fun L ks low K hl hL hlen hK => ?_)
  refine .rf [] T [(3, pw 3)] [.o 3 (.cells ((kCore a0).map .d))] rfl (by kernel_rfl) ?_
  refine .bP h0 rfl [] (fun o1 => []) n1 (fun o1 => [.c 0 0 (bE o1)]) (fun o1 h0 => ?_) (fun y1 h1 hj1 => ?_)
  · cases h0
    exact .fin rfl rfl rfl rfl hK
  · by_cases g2 : w0 = true
    · have h1 := iteP g2 h1
      refine .ro [.b true, .b true, .b true, .b true, .b true] (A g2 (A g2 (A g2 (A g2 (A g2 T))))) [] [.c 0 0 (bE true)] rfl (by kernel_rfl) ?_
      cases h1
      exact .lf hj1 rfl [] (by kernel_rfl)
    · have h1 := iteN g2 h1
      obtain ⟨k3, hk3, h1⟩ := bnd h1
      refine .ro [.b false, .b false, .b false, .b false, .call [.low 1] (bE k3) [.cells [lE 1 (ksInt w1)]], .b false] (A (Bool.eq_false_iff.2 g2) (A (Bool.eq_false_iff.2 g2) (A (Bool.eq_false_iff.2 g2) (A (A (Bool.eq_false_iff.2 g2) (w_slices_ContainsFunc_int__im_SubstituteVar_1_1 n _ _ hk3)) (A (Bool.eq_false_iff.2 g2) T))))) [] [.c 0 0 (bE k3)] rfl (by kernel_rfl) ?_
      cases h1
      exact .lf hj1 rfl [] (by kernel_rfl)
def im_eachCore__im_SubstituteVar_1 : Nat → Core → Bool → (List Int) → Option (Bool)
  | 0, _, _, _ => none
  | n + 1, a0, w0, w1 => (im_SubstituteVar_1 n a0 w0 w1).bind fun k1 => Option.bind (forL (fun (s4 : Bool) (i3 : Nat) (x6 : Core) => (im_eachCore__im_SubstituteVar_1 n x6 s4 w1).bind fun k11 => some k11) 0 a0.kids k1) (fun (s4 : Bool) => some s4)
theorem w_im_eachCore__im_SubstituteVar_1 (n : Nat) : ∀ (a0 : Core) (w0 : Bool) (w1 : List Int) {r : Bool}, im_eachCore__im_SubstituteVar_1 n a0 w0 w1 = some r → SCall X.E 29 [aE (kCore a0), .clo 30 [] [pl 0, pl 1]] [some (.cells [bE w0]), some (.cells [lE 1 (ksInt w1)])] (.tup []) [.cells [bE r], .cells [lE 1 (ksInt w1)]] := by
  induction n with
  | zero => intro a0 w0 w1 r h; cases h
  | succ n ih =>
    intro a0 w0 w1 r h0
    rw [im_eachCore__im_SubstituteVar_1] at h0
    refine .m Tryd.func29 rfl rfl rfl (by kernel_rfl) (fun L ks low K hl hL hlen hK => ?_)
    refine .rf [] T [(2, pw 2)] [.o 2 (.cells ((kCore a0).map .d))] rfl (by kernel_rfl) ?_
    obtain ⟨k1, hk1, h0⟩ := bnd h0
    refine .ro [.call [.low 0, .low 1] (.tup []) [.cells [bE k1], .cells [lE 1 (ksInt w1)]]] (A (w_im_SubstituteVar_1 n _ _ _ hk1) T) [] [.c 0 0 (bE k1)] rfl (by kernel_rfl) ?_
    refine .r [.v (a0.kids.length : Int)] (A (dCore.len' a0.kids) T) [(10, lE 11 (ksCore a0.kids)), (11, iE (a0.kids.length : Int)), (12, iE 0)] rfl (by kernel_rfl) ?_
    refine .sn 10 dCore a0.kids (by kernel_rfl) (fun hb2 => ?_)
    refine .lL h0 rfl [1, 10, 11] (fun i3 s4 => [(12, iE (i3 : Int))]) n2 (fun i3 s4 => [.c 0 0 (bE s4)]) [] (by kernel_rfl) (fun i3 s4 q5 hd7 hi9 h0 => ?_)
    refine .r [] T [(13, dE ((i3 : Int) < (a0.kids.length : Int)))] rfl (by kernel_rfl) ?_
    refine .lc hd7 rfl (by kernel_rfl) (fun x6 q52 hc10 hx6 hd8 hd8l => ?_) (fun hc10 => ?_)
    · subst hc10
      obtain ⟨y1, h1, hn1⟩ := forL_cons h0
      refine .rf [.cs (kCore x6)] (A (dCore.idn hx6) T) [(5, pw 5)] [.o 5 (.cells ((kCore x6).map .d))] rfl (by kernel_rfl) ?_
      obtain ⟨k11, hk11, h1⟩ := bnd h1
      refine .ro [.call [.low 0, .low 1] (.tup []) [.cells [bE k11], .cells [lE 1 (ksInt w1)]]] (A (ih _ _ _ hk11) T) [] [.c 0 0 (bE k11)] rfl (by kernel_rfl) ?_
      refine .r [.v ((i3 + 1 : Nat) : Int)] (A (wn (i := i3) (by omega)) T) [(12, iE ((i3 + 1 : Nat) : Int))] rfl (by kernel_rfl) ?_
      cases h1
      refine .kp [1, 10, 11, 12] [] ?_
      refine .dr 5 (by kernel_rfl) ?_
      exact .nL rfl (i3 + 1) _ hd8 hd8l hn1 [] (by kernel_rfl)
    · subst hc10
      have h0 := forL_nil h0
      cases h0
      exact .fin rfl rfl rfl rfl hK
def im_copyForm : Nat → Form → Option (Form)
  | 0, _ => none
  | n + 1, a0 => (slices_Clone_int n a0.scopes).bind fun k1 => Option.bind (forL (fun (s4 : List Form) (i3 : Nat) (x6 : Form) => (im_copyForm n x6).bind fun k11 => (apB 80 s4 [k11]).bind fun z12 => some z12) 0 a0.kids []) (fun (s4 : List Form) => some (⟨a0.kind, a0.name, a0.n, k1, s4⟩ : Form))
theorem w_im_copyForm (n : Nat) : ∀ (a0 : Form) {r : Form}, im_copyForm n a0 = some r → SCall X.E 59 [aE (kForm a0)] [] (aE (kForm r)) [] := by
  induction n with
  | zero => intro a0 r h; cases h
  | succ n ih =>
    intro a0 r h0
    rw [im_copyForm] at h0
    refine .m Tryd.func59 rfl rfl rfl (by kernel_rfl) (fun L ks low K hl hL hlen hK => ?_)
    refine .rf [] T [(1, pw 1), (2, pw 2)] [.o 1 (.cells ((kForm a0).map .d)), .o 2 (.cells [iE 0, sE [], iE 0, fE 1 (ksInt []), fE 5 (ksForm [])])] rfl (by kernel_rfl) ?_
    obtain ⟨k1, hk1, h0⟩ := bnd h0
    refine .rd mixed [(8, [.call [] (lE 1 (ksInt k1)) []])] [] (A (w_slices_Clone_int n _ hk1) T) [(3, pw 3)] [.o 3 (.cells [iE a0.kind, sE a0.name, iE a0.n, lE 1 (ksInt k1), fE 5 (ksForm [])])] [] rfl (by kernel_rfl) ?_
    refine .r [.v (a0.kids.length : Int)] (A (dForm.len' a0.kids) T) [(17, lE 5 (ksForm a0.kids)), (18, iE (a0.kids.length : Int)), (19, iE 0)] rfl (by kernel_rfl) ?_
    refine .sn 17 dForm a0.kids (by kernel_rfl) (fun hb2 => ?_)
    refine .oc 3 4 100028 26 (by kernel_rfl) ?_
    refine .lL h0 rfl [2, 3, 17, 18] (fun i3 s4 => [(19, iE (i3 : Int))]) (fun i3 s4 => [.c 3 4 (.gs (.own 100028) 5 (ksForm s4)), .o 100028 (.tok (ksForm s4).length 26)]) n2 [] (by kernel_rfl) (fun i3 s4 q5 hd7 hi9 h0 => ?_)
    refine .r [] T [(20, dE ((i3 : Int) < (a0.kids.length : Int)))] rfl (by kernel_rfl) ?_
    refine .lc hd7 rfl (by kernel_rfl) (fun x6 q52 hc10 hx6 hd8 hd8l => ?_) (fun hc10 => ?_)
    · subst hc10
      obtain ⟨y1, h1, hn1⟩ := forL_cons h0
      refine .rf [.cs (kForm x6)] (A (dForm.idn hx6) T) [(5, pw 5)] [.o 5 (.cells ((kForm x6).map .d))] rfl (by kernel_rfl) ?_
      obtain ⟨k11, hk11, h1⟩ := bnd h1
      obtain ⟨z12, hz12, h1⟩ := bnd h1
      refine .rd mixed [(3, [.call [] (aE (kForm k11)) []]), (4, [.sv (ksForm [k11])]), (5, [.sv (ksForm z12)])] [((ksForm s4).length : Int)] (A (ih _ hk11) (A (dForm.lit [k11]) (A (dForm.ap hz12) T))) [] [.c 3 4 (.gs (.own 100028) 5 (ksForm z12)), .o 100028 (.tok (ksForm z12).length 26)] [] rfl (by kernel_rfl) ?_
      refine .r [.v ((i3 + 1 : Nat) : Int)] (A (wn (i := i3) (by omega)) T) [(19, iE ((i3 + 1 : Nat) : Int))] rfl (by kernel_rfl) ?_
      cases h1
      refine .kp [2, 3, 17, 18, 19] [] ?_
      refine .dr 5 (by kernel_rfl) ?_
      exact .nL rfl (i3 + 1) _ hd8 hd8l hn1 [] (by kernel_rfl)
    · subst hc10
      have h0 := forL_nil h0
      refine .rf [] T [] [.o 2 (.cells [iE a0.kind, sE a0.name, iE a0.n, lE 1 (ksInt k1), .gs (.own 100028) 5 (ksForm s4)])] rfl (by kernel_rfl) ?_
      cases h0
      exact .ret rfl rfl (by kernel_rfl) hK
def im_copyCore : Nat → Core → Option (Core)
  | 0, _ => none
  | n + 1, a0 => (slices_Clone_int n a0.ids).bind fun k1 => (im_copyForm n a0.data).bind fun k2 => Option.bind (forL (fun (s5 : List Core) (i4 : Nat) (x7 : Core) => (im_copyCore n x7).bind fun k12 => (apB 168 s5 [k12]).bind fun z13 => some z13) 0 a0.kids []) (fun (s5 : List Core) => some (⟨a0.kind, a0.id, a0.name, a0.n, k1, k2, s5⟩ : Core))
theorem w_im_copyCore (n : Nat) : ∀ (a0 : Core) {r : Core}, im_copyCore n a0 = some r → SCall X.E 53 [aE (kCore a0)] [] (aE (kCore r)) [] := by
  induction n with
  | zero => intro a0 r h; cases h
  | succ n ih =>
    intro a0 r h0
    rw [im_copyCore] at h0
    refine .m Tryd.func53 rfl rfl rfl (by kernel_rfl) (fun L ks low K hl hL hlen hK => ?_)
    refine .rf [] T [(1, pw 1), (2, pw 2)] [.o 1 (.cells ((kCore a0).map .d)), .o 2 (.cells [iE 0, iE 0, sE [], iE 0, fE 1 (ksInt []), iE 0, sE [], iE 0, fE 1 (ksInt []), fE 5 (ksForm []), fE 11 (ksCore [])])] rfl (by kernel_rfl) ?_
    obtain ⟨k1, hk1, h0⟩ := bnd h0
    obtain ⟨k2, hk2, h0⟩ := bnd h0
    refine .rd mixed [(10, [.call [] (lE 1 (ksInt k1)) []]), (13, [.call [] (aE (kForm k2)) []])] [] (A (w_slices_Clone_int n _ hk1) (A (w_im_copyForm n _ hk2) T)) [(3, pw 3)] [.o 3 (.cells [iE a0.kind, iE a0.id, sE a0.name, iE a0.n, lE 1 (ksInt k1), iE k2.kind, sE k2.name, iE k2.n, lE 1 (ksInt k2.scopes), lE 5 (ksForm k2.kids), fE 11 (ksCore [])])] [] rfl (by kernel_rfl) ?_
    refine .r [.v (a0.kids.length : Int)] (A (dCore.len' a0.kids) T) [(22, lE 11 (ksCore a0.kids)), (23, iE (a0.kids.length : Int)), (24, iE 0)] rfl (by kernel_rfl) ?_
    refine .sn 22 dCore a0.kids (by kernel_rfl) (fun hb3 => ?_)
    refine .oc 3 10 100033 29 (by kernel_rfl) ?_
    refine .lL h0 rfl [2, 3, 22, 23] (fun i4 s5 => [(24, iE (i4 : Int))]) (fun i4 s5 => [.c 3 10 (.gs (.own 100033) 11 (ksCore s5)), .o 100033 (.tok (ksCore s5).length 29)]) n2 [] (by kernel_rfl) (fun i4 s5 q6 hd8 hi10 h0 => ?_)
    refine .r [] T [(25, dE ((i4 : Int) < (a0.kids.length : Int)))] rfl (by kernel_rfl) ?_
    refine .lc hd8 rfl (by kernel_rfl) (fun x7 q62 hc11 hx7 hd9 hd9l => ?_) (fun hc11 => ?_)
    · subst hc11
      obtain ⟨y1, h1, hn1⟩ := forL_cons h0
      refine .rf [.cs (kCore x7)] (A (dCore.idn hx7) T) [(5, pw 5)] [.o 5 (.cells ((kCore x7).map .d))] rfl (by kernel_rfl) ?_
      obtain ⟨k12, hk12, h1⟩ := bnd h1
      obtain ⟨z13, hz13, h1⟩ := bnd h1
      refine .rd mixed [(3, [.call [] (aE (kCore k12)) []]), (4, [.sv (ksCore [k12])]), (5, [.sv (ksCore z13)])] [((ksCore s5).length : Int)] (A (ih _ hk12) (A (dCore.lit [k12]) (A (dCore.ap hz13) T))) [] [.c 3 10 (.gs (.own 100033) 11 (ksCore z13)), .o 100033 (.tok (ksCore z13).length 29)] [] rfl (by kernel_rfl) ?_
      refine .r [.v ((i4 + 1 : Nat) : Int)] (A (wn (i := i4) (by omega)) T) [(24, iE ((i4 + 1 : Nat) : Int))] rfl (by kernel_rfl) ?_
      cases h1
      refine .kp [2, 3, 22, 23, 24] [] ?_
      refine .dr 5 (by kernel_rfl) ?_
      exact .nL rfl (i4 + 1) _ hd9 hd9l hn1 [] (by kernel_rfl)
    · subst hc11
      have h0 := forL_nil h0
      refine .rf [] T [] [.o 2 (.cells [iE a0.kind, iE a0.id, sE a0.name, iE a0.n, lE 1 (ksInt k1), iE k2.kind, sE k2.name, iE k2.n, lE 1 (ksInt k2.scopes), lE 5 (ksForm k2.kids), .gs (.own 100033) 11 (ksCore s5)])] rfl (by kernel_rfl) ?_
      cases h0
      exact .ret rfl rfl (by kernel_rfl) hK
def im_substituted : Nat → Core → Int → Core → Option (Core)
  | 0, _, _, _ => none
  | n + 1, a0, a1k, a1v => seqS ((if a0.kind = 1 then Option.bind ((if a0.id = a1k then some (true, a1v.kind, a1v.id, a1v.name, a1v.n, a1v.ids, a1v.data.kind, a1v.data.name, a1v.data.n, a1v.data.scopes, a1v.data.kids, a1v.kids) else some (false, 0, 0, [], 0, [], 0, [], 0, [], [], [])) : Option (Bool × Int × Int × (List UInt8) × Int × (List Int) × Int × (List UInt8) × Int × (List Int) × (List Form) × (List Core))) (fun (o16 : Bool × Int × Int × (List UInt8) × Int × (List Int) × Int × (List UInt8) × Int × (List Int) × (List Form) × (List Core)) => (if o16.1 = true then (im_copyCore n (⟨o16.2.1, o16.2.2.1, o16.2.2.2.1, o16.2.2.2.2.1, o16.2.2.2.2.2.1, (⟨o16.2.2.2.2.2.2.1, o16.2.2.2.2.2.2.2.1, o16.2.2.2.2.2.2.2.2.1, o16.2.2.2.2.2.2.2.2.2.1, o16.2.2.2.2.2.2.2.2.2.2.1⟩ : Form), o16.2.2.2.2.2.2.2.2.2.2.2⟩ : Core)).bind fun k18 => some (Sum.inl k18) else some (Sum.inr ()))) else some (Sum.inr ())) : Option (Core ⊕ Unit)) (fun (o1 : Unit) => (slices_Clone_int n a0.ids).bind fun k2 => (im_copyForm n a0.data).bind fun k3 => Option.bind (forL (fun (s6 : List Core) (i5 : Nat) (x8 : Core) => (im_substituted n x8 a1k a1v).bind fun k13 => (apB 168 s6 [k13]).bind fun z14 => some z14) 0 a0.kids []) (fun (s6 : List Core) => some (⟨a0.kind, a0.id, a0.name, a0.n, k2, k3, s6⟩ : Core)))
theorem w_im_substituted (n : Nat) : ∀ (a0 : Core) (a1k : Int) (a1v : Core) {r : Core}, im_substituted n a0 a1k a1v = some r → SCall X.E 34 [aE (kCore a0), .d (.mp [a1k] [.agg (kCore a1v)])] [] (aE (kCore r)) [] := by
  induction n with
  | zero => intro a0 a1k a1v r h; cases h
  | succ n ih =>
    intro a0 a1k a1v r h0
    rw [im_substituted] at h0
    refine .m Tryd.func34 rfl rfl rfl (by kernel_rfl) (fun L ks low K hl hL hlen hK => ?_)
    refine .rf [] T [(2, pw 2), (4, pw 4)] [.o 2 (.cells ((kCore a0).map .d)), .o 4 (.cells [iE 0, iE 0, sE [], iE 0, fE 1 (ksInt []), iE 0, sE [], iE 0, fE 1 (ksInt []), fE 5 (ksForm []), fE 11 (ksCore [])])] rfl (by kernel_rfl) ?_
    refine .r [] T [(12, dE (a0.kind = 1))] rfl (by kernel_rfl) ?_
    refine .bS h0 rfl [1, 2, 4] (fun o1 => []) n1 n1 (fun o1 h0 => ?_) (fun y1 h1 hj1 hw1 => ?_)
    · obtain ⟨k2, hk2, h0⟩ := bnd h0
      obtain ⟨k3, hk3, h0⟩ := bnd h0
      refine .rd mixed [(10, [.call [] (lE 1 (ksInt k2)) []]), (13, [.call [] (aE (kForm k3)) []])] [] (A (w_slices_Clone_int n _ hk2) (A (w_im_copyForm n _ hk3) T)) [(7, pw 7)] [.o 7 (.cells [iE a0.kind, iE a0.id, sE a0.name, iE a0.n, lE 1 (ksInt k2), iE k3.kind, sE k3.name, iE k3.n, lE 1 (ksInt k3.scopes), lE 5 (ksForm k3.kids), fE 11 (ksCore [])])] [] rfl (by kernel_rfl) ?_
      refine .r [.v (a0.kids.length : Int)] (A (dCore.len' a0.kids) T) [(39, lE 11 (ksCore a0.kids)), (40, iE (a0.kids.length : Int)), (41, iE 0)] rfl (by kernel_rfl) ?_
      refine .sn 39 dCore a0.kids (by kernel_rfl) (fun hb4 => ?_)
      refine .oc 7 10 100051 29 (by kernel_rfl) ?_
      refine .lL h0 rfl [1, 4, 7, 39, 40] (fun i5 s6 => [(41, iE (i5 : Int))]) (fun i5 s6 => [.c 7 10 (.gs (.own 100051) 11 (ksCore s6)), .o 100051 (.tok (ksCore s6).length 29)]) n2 [] (by kernel_rfl) (fun i5 s6 q7 hd9 hi11 h0 => ?_)
      refine .r [] T [(42, dE ((i5 : Int) < (a0.kids.length : Int)))] rfl (by kernel_rfl) ?_
      refine .lc hd9 rfl (by kernel_rfl) (fun x8 q72 hc12 hx8 hd10 hd10l => ?_) (fun hc12 => ?_)
      · subst hc12
        obtain ⟨y1, h1, hn1⟩ := forL_cons h0
        refine .rf [.cs (kCore x8)] (A (dCore.idn hx8) T) [(9, pw 9)] [.o 9 (.cells ((kCore x8).map .d))] rfl (by kernel_rfl) ?_
        obtain ⟨k13, hk13, h1⟩ := bnd h1
        obtain ⟨z14, hz14, h1⟩ := bnd h1
        refine .rd mixed [(4, [.call [] (aE (kCore k13)) []]), (5, [.sv (ksCore [k13])]), (6, [.sv (ksCore z14)])] [((ksCore s6).length : Int)] (A (ih _ _ _ hk13) (A (dCore.lit [k13]) (A (dCore.ap hz14) T))) [] [.c 7 10 (.gs (.own 100051) 11 (ksCore z14)), .o 100051 (.tok (ksCore z14).length 29)] [] rfl (by kernel_rfl) ?_
        refine .r [.v ((i5 + 1 : Nat) : Int)] (A (wn (i := i5) (by omega)) T) [(41, iE ((i5 + 1 : Nat) : Int))] rfl (by kernel_rfl) ?_
        cases h1
        refine .kp [1, 4, 7, 39, 40, 41] [] ?_
        refine .dr 9 (by kernel_rfl) ?_
        exact .nL rfl (i5 + 1) _ hd10 hd10l hn1 [] (by kernel_rfl)
      · subst hc12
        have h0 := forL_nil h0
        refine .rf [] T [] [.o 4 (.cells [iE a0.kind, iE a0.id, sE a0.name, iE a0.n, lE 1 (ksInt k2), iE k3.kind, sE k3.name, iE k3.n, lE 1 (ksInt k3.scopes), lE 5 (ksForm k3.kids), .gs (.own 100051) 11 (ksCore s6)])] rfl (by kernel_rfl) ?_
        cases h0
        exact .ret rfl rfl (by kernel_rfl) hK
    · refine .cP h1 rfl (by kernel_rfl) (fun hc15 h1 => ?_) (fun hc15 h1 => ?_)
      · refine .bP h1 rfl [1, 2, 4] (fun o16 => [(5, pw 5), (6, bE o16.1)]) (fun o16 => [.o 5 (.cells [iE o16.2.1, iE o16.2.2.1, sE o16.2.2.2.1, iE o16.2.2.2.2.1, lE 1 (ksInt o16.2.2.2.2.2.1), iE o16.2.2.2.2.2.2.1, sE o16.2.2.2.2.2.2.2.1, iE o16.2.2.2.2.2.2.2.2.1, lE 1 (ksInt o16.2.2.2.2.2.2.2.2.2.1), lE 5 (ksForm o16.2.2.2.2.2.2.2.2.2.2.1), lE 11 (ksCore o16.2.2.2.2.2.2.2.2.2.2.2)])]) n1 (fun o16 h1 => ?_) (fun y2 h2 hj2 => ?_)
        · refine .r [] T [(20, bE o16.1)] rfl (by kernel_rfl) ?_
          refine .cT h1 rfl (by kernel_rfl) (fun hc17 h1 => ?_) (fun hc17 h1 => ?_)
          · obtain ⟨k18, hk18, h1⟩ := bnd h1
            refine .rf [.call [] (aE (kCore k18)) []] (A (w_im_copyCore n _ hk18) T) [] [.o 4 (.cells ((kCore k18).map .d))] rfl (by kernel_rfl) ?_
            cases h1
            cases hw1 _ rfl
            exact .ret rfl rfl (by kernel_rfl) hK
          · cases h1
            refine .kp [1, 2, 4] [] ?_
            refine .dr 5 (by kernel_rfl) ?_
            exact .lf (hj1 _ rfl) rfl [] (by kernel_rfl)
        · by_cases g19 : a0.id = a1k
          · have h2 := iteP g19 h2
            refine .rf [.lk 3 29 true] (A (A (A (A (by kernel_rfl : X.E.P.underlying 68 = some (.map 3 29)) (by kernel_rfl : X.E.P.underlying 3 = some (.int .i64))) (by decide : ([.v (.int .i64 0), .v (.int .i64 0), .s [], .v (.int .i64 0), .sl 1 true (ksInt []), .v (.int .i64 0), .s [], .v (.int .i64 0), .sl 1 true (ksInt []), .sl 5 true (ksForm []), .sl 11 true (ksCore [])] : List KD).length ≠ 1)) (decide_eq_true g19 : decide (a0.id = a1k) = true)) T) [(5, pw 5), (6, bE true)] [.o 5 (.cells ((kCore a1v).map .d))] rfl (by kernel_rfl) ?_
            cases h2
            exact .lf hj2 rfl [] (by kernel_rfl)
          · have h2 := iteN g19 h2
            refine .rf [.lk 3 29 false] (A (A (A (A (by kernel_rfl : X.E.P.underlying 68 = some (.map 3 29)) (by kernel_rfl : X.E.P.underlying 3 = some (.int .i64))) (by decide : ([.v (.int .i64 0), .v (.int .i64 0), .s [], .v (.int .i64 0), .sl 1 true (ksInt []), .v (.int .i64 0), .s [], .v (.int .i64 0), .sl 1 true (ksInt []), .sl 5 true (ksForm []), .sl 11 true (ksCore [])] : List KD).length ≠ 1)) (decide_eq_false g19 : decide (a0.id = a1k) = false)) T) [(5, pw 5), (6, bE false)] [.o 5 (.cells [iE 0, iE 0, sE [], iE 0, fE 1 (ksInt []), iE 0, sE [], iE 0, fE 1 (ksInt []), fE 5 (ksForm []), fE 11 (ksCore [])])] rfl (by kernel_rfl) ?_
            cases h2
            refine .fg 5 [4, 8, 9, 10] ?_
            exact .lf hj2 rfl [] (by kernel_rfl)
      · cases h1
        exact .lf (hj1 _ rfl) rfl [] (by kernel_rfl)
def im_SubstituteVar (n : Nat) (a0 : Core) (a1 : Int) (a2 : Core) : Option (Core × Bool) :=
  (im_CoreAtom n a2).bind fun k1 => (if (!k1) = true then some ((⟨0, 0, [], 0, [], (⟨0, [], 0, [], []⟩ : Form), []⟩ : Core), false) else Option.bind ((if a2.kind = 1 then some (decide (¬ a2.id = a1)) else some false) : Option (Bool)) (fun (o3 : Bool) => Option.bind ((if o3 = true then (apB 8 [a1] [a2.id]).bind fun z14 => some z14 else some [a1]) : Option (List Int)) (fun (o4 : List Int) => (im_eachCore__im_SubstituteVar_1 n a0 false o4).bind fun k5 => (im_substituted n a0 a1 a2).bind fun k6 => Option.bind ((if k5 = true then some true else (im_SubstituteVar_2 n a0 o4).bind fun k10 => (if (!k10) = true then some true else (im_SubstituteVar_2 n k6 o4).bind fun k12 => some (!k12))) : Option (Bool)) (fun (o7 : Bool) => (if o7 = true then some ((⟨0, 0, [], 0, [], (⟨0, [], 0, [], []⟩ : Form), []⟩ : Core), false) else some (k6, true))))))
theorem w_im_SubstituteVar (n : Nat) : ∀ (a0 : Core) (a1 : Int) (a2 : Core) {r : Core × Bool}, im_SubstituteVar n a0 a1 a2 = some r → SCall X.E 11 [aE (kCore a0), iE a1, aE (kCore a2)] [] (.tup [aE (kCore r.1), bE r.2]) [] := by
  intro a0 a1 a2 r h0
  rw [im_SubstituteVar] at h0
  refine .m Tryd.func11 rfl rfl rfl (by kernel_rfl) (fun L ks low K hl hL hlen hK => ?_)
  refine .rf [] T [(3, pw 3), (5, pw 5), (6, pw 6)] [.o 3 (.cells ((kCore a0).map .d)), .o 5 (.cells ((kCore a2).map .d)), .o 6 (.cells [iE 0, iE 0, sE [], iE 0, fE 1 (ksInt []), iE 0, sE [], iE 0, fE 1 (ksInt []), fE 5 (ksForm []), fE 11 (ksCore [])])] rfl (by kernel_rfl) ?_
  obtain ⟨k1, hk1, h0⟩ := bnd h0
  refine .r [.call [] (bE k1) []] (A (w_im_CoreAtom n _ hk1) T) [(14, bE (!k1))] rfl (by kernel_rfl) ?_
  refine .cT h0 rfl (by kernel_rfl) (fun hc2 h0 => ?_) (fun hc2 h0 => ?_)
  · refine .r [] T [(7, bE false)] rfl (by kernel_rfl) ?_
    cases h0
    exact .ret rfl rfl (by kernel_rfl) hK
  · refine .rf [.sv (ksInt [a1])] (A (dInt.lit [a1]) T) [(8, pw 8)] [.o 8 (.cells [fE 1 (ksInt [a1])])] rfl (by kernel_rfl) ?_
    refine .bP h0 rfl [1, 3, 5, 6, 8] (fun o3 => [(26, bE o3)]) n1 n1 (fun o3 h0 => ?_) (fun y1 h1 hj1 => ?_)
    · refine .oc 8 0 100031 3 (by kernel_rfl) ?_
      refine .bP h0 rfl [1, 3, 5, 6, 8] (fun o4 => []) (fun o4 => [.c 8 0 (.gs (.own 100031) 1 (ksInt o4)), .o 100031 (.tok (ksInt o4).length 3)]) n1 (fun o4 h0 => ?_) (fun y1 h1 hj1 => ?_)
      · refine .rf [] T [(9, pw 9)] [.o 9 (.cells [bE false])] rfl (by kernel_rfl) ?_
        refine .fg 8 [0] ?_
        obtain ⟨k5, hk5, h0⟩ := bnd h0
        refine .rf [.call [.own 9, .own 8] (.tup []) [.cells [bE k5], .cells [lE 1 (ksInt o4)]]] (A (w_im_eachCore__im_SubstituteVar_1 n _ _ _ hk5) T) [] [.c 9 0 (bE k5)] rfl (by kernel_rfl) ?_
        obtain ⟨k6, hk6, h0⟩ := bnd h0
        refine .rm (T := 68) (kt := 3) (el := 29) 1 [] [.call [] (aE (kCore k6)) []] (A T (A (w_im_substituted n _ _ _ hk6) T)) [(10, pw 10)] [.o 10 (.cells ((kCore k6).map .d))] [] rfl (by kernel_rfl) (by kernel_rfl) (by kernel_rfl) ?_
        refine .r [] T [(11, .clo 35 [] [pw 8])] rfl (by kernel_rfl) ?_
        refine .bP h0 rfl [6, 10] (fun o7 => [(54, bE o7)]) n1 n1 (fun o7 h0 => ?_) (fun y1 h1 hj1 => ?_)
        · refine .cT h0 rfl (by kernel_rfl) (fun hc8 h0 => ?_) (fun hc8 h0 => ?_)
          · refine .r [] T [(7, bE false)] rfl (by kernel_rfl) ?_
            cases h0
            exact .ret rfl rfl (by kernel_rfl) hK
          · refine .rf [] T [(7, bE true)] [.o 6 (.cells ((kCore k6).map .d))] rfl (by kernel_rfl) ?_
            cases h0
            exact .ret rfl rfl (by kernel_rfl) hK
        · by_cases g9 : k5 = true
          · have h1 := iteP g9 h1
            refine .r [.b true, .b true, .b true, .b true, .b true, .b true, .b true, .b true, .b true, .b true] (A g9 (A g9 (A g9 (A g9 (A g9 (A (rfl : true = true) (A (rfl : true = true) (A (rfl : true = true) (A (rfl : true = true) (A (rfl : true = true) T)))))))))) [(54, bE true)] rfl (by kernel_rfl) ?_
            cases h1
            exact .lf hj1 rfl [] (by kernel_rfl)
          · have h1 := iteN g9 h1
            obtain ⟨k10, hk10, h1⟩ := bnd h1
            by_cases g11 : (!k10) = true
            · have h1 := iteP g11 h1
              refine .r [.b false, .b false, .b false, .call [.own 8] (bE k10) [.cells [lE 1 (ksInt o4)]], .b false, .b false, .b true, .b true, .b true, .b true, .b true] (A (Bool.eq_false_iff.2 g9) (A (Bool.eq_false_iff.2 g9) (A (A (Bool.eq_false_iff.2 g9) (w_im_SubstituteVar_2 n _ _ hk10)) (A (Bool.eq_false_iff.2 g9) (A (Bool.eq_false_iff.2 g9) (A g11 (A g11 (A g11 (A g11 (A g11 T)))))))))) [(54, bE true)] rfl (by kernel_rfl) ?_
              cases h1
              exact .lf hj1 rfl [] (by kernel_rfl)
            · have h1 := iteN g11 h1
              obtain ⟨k12, hk12, h1⟩ := bnd h1
              refine .r [.b false, .b false, .b false, .call [.own 8] (bE k10) [.cells [lE 1 (ksInt o4)]], .b false, .b false, .b false, .b false, .b false, .call [.own 8] (bE k12) [.cells [lE 1 (ksInt o4)]], .b false, .b false] (A (Bool.eq_false_iff.2 g9) (A (Bool.eq_false_iff.2 g9) (A (A (Bool.eq_false_iff.2 g9) (w_im_SubstituteVar_2 n _ _ hk10)) (A (Bool.eq_false_iff.2 g9) (A (Bool.eq_false_iff.2 g9) (A (Bool.eq_false_iff.2 g11) (A (Bool.eq_false_iff.2 g11) (A (A (Bool.eq_false_iff.2 g11) (w_im_SubstituteVar_2 n _ _ hk12)) (A (Bool.eq_false_iff.2 g11) (A (Bool.eq_false_iff.2 g11) T)))))))))) [(54, bE (!k12))] rfl (by kernel_rfl) ?_
              cases h1
              exact .lf hj1 rfl [] (by kernel_rfl)
      · refine .cT h1 rfl (by kernel_rfl) (fun hc13 h1 => ?_) (fun hc13 h1 => ?_)
        · obtain ⟨z14, hz14, h1⟩ := bnd h1
          refine .rq [.sv (ksInt [a2.id]), .sv (ksInt z14)] [((ksInt [a1]).length : Int)] (A (dInt.lit [a2.id]) (A (dInt.ap hz14) T)) [] [.c 8 0 (.gs (.own 100031) 1 (ksInt z14)), .o 100031 (.tok (ksInt z14).length 3)] [] rfl (by kernel_rfl) ?_
          cases h1
          exact .lf hj1 rfl [] (by kernel_rfl)
        · cases h1
          exact .lf hj1 rfl [] (by kernel_rfl)
    · by_cases g15 : a2.kind = 1
      · have h1 := iteP g15 h1
        refine .r [.b true, .b true, .b true, .b true, .b true] (A (decide_eq_true g15 : decide (a2.kind = 1) = true) (A (decide_eq_true g15 : decide (a2.kind = 1) = true) (A (decide_eq_true g15 : decide (a2.kind = 1) = true) (A (decide_eq_true g15 : decide (a2.kind = 1) = true) (A (decide_eq_true g15 : decide (a2.kind = 1) = true) T))))) [(26, dE (¬ a2.id = a1))] rfl (by kernel_rfl) ?_
        cases h1
        exact .lf hj1 rfl [] (by kernel_rfl)
      · have h1 := iteN g15 h1
        refine .r [.b false, .b false, .b false, .b false, .b false] (A (decide_eq_false g15 : decide (a2.kind = 1) = false) (A (decide_eq_false g15 : decide (a2.kind = 1) = false) (A (decide_eq_false g15 : decide (a2.kind = 1) = false) (A (decide_eq_false g15 : decide (a2.kind = 1) = false) (A (decide_eq_false g15 : decide (a2.kind = 1) = false) T))))) [(26, bE false)] rfl (by kernel_rfl) ?_
        cases h1
        exact .lf hj1 rfl [] (by kernel_rfl)
def im_VarUses_1 (n : Nat) (a0 : Core) (w0 : Int) (w1 : Int) : Option (Int) :=
  Option.bind ((if a0.kind = 1 then some (decide (a0.id = w0)) else some false) : Option (Bool)) (fun (o1 : Bool) => (if o1 = true then some (w64 (w1 + 1)) else some w1))
theorem w_im_VarUses_1 (n : Nat) : ∀ (a0 : Core) (w0 : Int) (w1 : Int) {r : Int}, im_VarUses_1 n a0 w0 w1 = some r → SCall X.E 40 [aE (kCore a0), pl 0, pl 1] [some (.cells [iE w0]), some (.cells [iE w1])] (.tup []) [.cells [iE w0], .cells [iE r]] := by
  intro a0 w0 w1 r h0
  rw [im_VarUses_1] at h0
  refine .m Tryd.func40 rfl rfl rfl (by kernel_rfl) (fun L ks low K hl hL hlen hK => ?_)
  refine .rf [] T [(3, pw 3)] [.o 3 (.cells ((kCore a0).map .d))] rfl (by kernel_rfl) ?_
  refine .bP h0 rfl [2] (fun o1 => [(12, bE o1)]) n1 n1 (fun o1 h0 => ?_) (fun y1 h1 hj1 => ?_)
  · refine .cT h0 rfl (by kernel_rfl) (fun hc2 h0 => ?_) (fun hc2 h0 => ?_)
    · refine .ro [.pl] T [] [.c 1 0 (iE (w64 (w1 + 1)))] rfl (by kernel_rfl) ?_
      cases h0
      exact .fin rfl rfl rfl rfl hK
    · cases h0
      exact .fin rfl rfl rfl rfl hK
  · by_cases g3 : a0.kind = 1
    · have h1 := iteP g3 h1
      refine .r [.b true, .b true, .b true, .b true, .b true] (A (decide_eq_true g3 : decide (a0.kind = 1) = true) (A (decide_eq_true g3 : decide (a0.kind = 1) = true) (A (decide_eq_true g3 : decide (a0.kind = 1) = true) (A (decide_eq_true g3 : decide (a0.kind = 1) = true) (A (decide_eq_true g3 : decide (a0.kind = 1) = true) T))))) [(12, dE (a0.id = w0))] rfl (by kernel_rfl) ?_
      cases h1
      exact .lf hj1 rfl [] (by kernel_rfl)
    · have h1 := iteN g3 h1
      refine .r [.b false, .b false, .b false, .b false, .b false] (A (decide_eq_false g3 : decide (a0.kind = 1) = false) (A (decide_eq_false g3 : decide (a0.kind = 1) = false) (A (decide_eq_false g3 : decide (a0.kind = 1) = false) (A (decide_eq_false g3 : decide (a0.kind = 1) = false) (A (decide_eq_false g3 : decide (a0.kind = 1) = false) T))))) [(12, bE false)] rfl (by kernel_rfl) ?_
      cases h1
      exact .lf hj1 rfl [] (by kernel_rfl)
def im_eachCore__im_VarUses_1 : Nat → Core → Int → Int → Option (Int)
  | 0, _, _, _ => none
  | n + 1, a0, w0, w1 => (im_VarUses_1 n a0 w0 w1).bind fun k1 => Option.bind (forL (fun (s4 : Int) (i3 : Nat) (x6 : Core) => (im_eachCore__im_VarUses_1 n x6 w0 s4).bind fun k11 => some k11) 0 a0.kids k1) (fun (s4 : Int) => some s4)
theorem w_im_eachCore__im_VarUses_1 (n : Nat) : ∀ (a0 : Core) (w0 : Int) (w1 : Int) {r : Int}, im_eachCore__im_VarUses_1 n a0 w0 w1 = some r → SCall X.E 29 [aE (kCore a0), .clo 40 [] [pl 0, pl 1]] [some (.cells [iE w0]), some (.cells [iE w1])] (.tup []) [.cells [iE w0], .cells [iE r]] := by
  induction n with
  | zero => intro a0 w0 w1 r h; cases h
  | succ n ih =>
    intro a0 w0 w1 r h0
    rw [im_eachCore__im_VarUses_1] at h0
    refine .m Tryd.func29 rfl rfl rfl (by kernel_rfl) (fun L ks low K hl hL hlen hK => ?_)
    refine .rf [] T [(2, pw 2)] [.o 2 (.cells ((kCore a0).map .d))] rfl (by kernel_rfl) ?_
    obtain ⟨k1, hk1, h0⟩ := bnd h0
    refine .ro [.call [.low 0, .low 1] (.tup []) [.cells [iE w0], .cells [iE k1]]] (A (w_im_VarUses_1 n _ _ _ hk1) T) [] [.c 1 0 (iE k1)] rfl (by kernel_rfl) ?_
    refine .r [.v (a0.kids.length : Int)] (A (dCore.len' a0.kids) T) [(10, lE 11 (ksCore a0.kids)), (11, iE (a0.kids.length : Int)), (12, iE 0)] rfl (by kernel_rfl) ?_
    refine .sn 10 dCore a0.kids (by kernel_rfl) (fun hb2 => ?_)
    refine .lL h0 rfl [1, 10, 11] (fun i3 s4 => [(12, iE (i3 : Int))]) n2 (fun i3 s4 => [.c 1 0 (iE s4)]) [] (by kernel_rfl) (fun i3 s4 q5 hd7 hi9 h0 => ?_)
    refine .r [] T [(13, dE ((i3 : Int) < (a0.kids.length : Int)))] rfl (by kernel_rfl) ?_
    refine .lc hd7 rfl (by kernel_rfl) (fun x6 q52 hc10 hx6 hd8 hd8l => ?_) (fun hc10 => ?_)
    · subst hc10
      obtain ⟨y1, h1, hn1⟩ := forL_cons h0
      refine .rf [.cs (kCore x6)] (A (dCore.idn hx6) T) [(5, pw 5)] [.o 5 (.cells ((kCore x6).map .d))] rfl (by kernel_rfl) ?_
      obtain ⟨k11, hk11, h1⟩ := bnd h1
      refine .ro [.call [.low 0, .low 1] (.tup []) [.cells [iE w0], .cells [iE k11]]] (A (ih _ _ _ hk11) T) [] [.c 1 0 (iE k11)] rfl (by kernel_rfl) ?_
      refine .r [.v ((i3 + 1 : Nat) : Int)] (A (wn (i := i3) (by omega)) T) [(12, iE ((i3 + 1 : Nat) : Int))] rfl (by kernel_rfl) ?_
      cases h1
      refine .kp [1, 10, 11, 12] [] ?_
      refine .dr 5 (by kernel_rfl) ?_
      exact .nL rfl (i3 + 1) _ hd8 hd8l hn1 [] (by kernel_rfl)
    · subst hc10
      have h0 := forL_nil h0
      cases h0
      exact .fin rfl rfl rfl rfl hK
def im_VarUses (n : Nat) (a0 : Core) (a1 : Int) : Option (Int) :=
  (im_eachCore__im_VarUses_1 n a0 a1 0).bind fun k1 => some k1
theorem w_im_VarUses (n : Nat) : ∀ (a0 : Core) (a1 : Int) {r : Int}, im_VarUses n a0 a1 = some r → SCall X.E 14 [aE (kCore a0), iE a1] [] (iE r) [] := by
  intro a0 a1 r h0
  rw [im_VarUses] at h0
  refine .m Tryd.func14 rfl rfl rfl (by kernel_rfl) (fun L ks low K hl hL hlen hK => ?_)
  refine .rf [] T [(2, pw 2), (3, pw 3)] [.o 2 (.cells ((kCore a0).map .d)), .o 3 (.cells [iE a1])] rfl (by kernel_rfl) ?_
  refine .rf [] T [(5, pw 5)] [.o 5 (.cells [iE 0])] rfl (by kernel_rfl) ?_
  obtain ⟨k1, hk1, h0⟩ := bnd h0
  refine .rf [.call [.own 3, .own 5] (.tup []) [.cells [iE a1], .cells [iE k1]]] (A (w_im_eachCore__im_VarUses_1 n _ _ _ hk1) T) [] [.c 5 0 (iE k1)] rfl (by kernel_rfl) ?_
  refine .r [] T [(4, iE k1)] rfl (by kernel_rfl) ?_
  cases h0
  exact .ret rfl rfl (by kernel_rfl) hK
def la_mxIn (n : Nat) (a0 : List Int) (a1 : Int) : Option (Bool) :=
  seqS (forI (fun (s2 : Unit) (i1 : Nat) (x4 : Int) => ((if x4 = a1 then some (Sum.inl true) else some (Sum.inr ())) : Option (Bool ⊕ Unit))) 0 a0 ()) (fun (s2 : Unit) => some false)
theorem w_la_mxIn (n : Nat) : ∀ (a0 : List Int) (a1 : Int) {r : Bool}, la_mxIn n a0 a1 = some r → SCall X.E 41 [lE 1 (ksInt a0), iE a1] [] (bE r) [] := by
  intro a0 a1 r h0
  rw [la_mxIn] at h0
  refine .m Tryd.func41 rfl rfl rfl (by kernel_rfl) (fun L ks low K hl hL hlen hK => ?_)
  refine .r [] T [] rfl (by kernel_rfl) ?_
  refine .r [] T [(5, iE 0)] rfl (by kernel_rfl) ?_
  refine .lI h0 rfl [0, 1] (fun i1 s2 => [(5, iE (i1 : Int))]) n2 n2 [] (by kernel_rfl) (fun i1 s2 q3 hd5 hi7 h0 => ?_)
  refine .r [.v (a0.length : Int)] (A (dInt.len' a0) T) [(9, dE ((i1 : Int) < (a0.length : Int)))] rfl (by kernel_rfl) ?_
  refine .sn 0 dInt a0 (by kernel_rfl) (fun hb8 => ?_)
  refine .lc hd5 rfl (by kernel_rfl) (fun x4 q32 hc9 hx4 hd6 hd6l => ?_) (fun hc9 => ?_)
  · subst hc9
    obtain ⟨y1, h1, hw1, hn1⟩ := forI_cons h0
    refine .r [.cs [.v (.int .i64 x4)]] (A (dInt.idn hx4) T) [(17, dE (x4 = a1))] rfl (by kernel_rfl) ?_
    refine .cP h1 rfl (by kernel_rfl) (fun hc10 h1 => ?_) (fun hc10 h1 => ?_)
    · refine .r [] T [(4, bE true)] rfl (by kernel_rfl) ?_
      cases h1
      cases hw1 _ rfl
      exact .ret rfl rfl (by kernel_rfl) hK
    · refine .r [.v ((i1 + 1 : Nat) : Int)] (A (wn (i := i1) (by omega)) T) [(5, iE ((i1 + 1 : Nat) : Int))] rfl (by kernel_rfl) ?_
      cases h1
      exact .nL rfl (i1 + 1) _ hd6 hd6l (hn1 _ rfl) [] (by kernel_rfl)
  · subst hc9
    have h0 := forI_nil h0
    refine .r [] T [(4, bE false)] rfl (by kernel_rfl) ?_
    cases h0
    exact .ret rfl rfl (by kernel_rfl) hK
def la_mxCoreHas : Nat → Core → Int → Option (Bool)
  | 0, _, _ => none
  | n + 1, a0, a1 => (la_mxIn n a0.ids a1).bind fun k1 => (if k1 = true then some true else seqS (forI (fun (s4 : Unit) (i3 : Nat) (x6 : Core) => ((la_mxCoreHas n x6 a1).bind fun k12 => (if k12 = true then some (Sum.inl true) else some (Sum.inr ())) : Option (Bool ⊕ Unit))) 0 a0.kids ()) (fun (s4 : Unit) => some false))
theorem w_la_mxCoreHas (n : Nat) : ∀ (a0 : Core) (a1 : Int) {r : Bool}, la_mxCoreHas n a0 a1 = some r → SCall X.E 16 [aE (kCore a0), iE a1] [] (bE r) [] := by
  induction n with
  | zero => intro a0 a1 r h; cases h
  | succ n ih =>
    intro a0 a1 r h0
    rw [la_mxCoreHas] at h0
    refine .m Tryd.func16 rfl rfl rfl (by kernel_rfl) (fun L ks low K hl hL hlen hK => ?_)
    refine .rf [] T [(2, pw 2)] [.o 2 (.cells ((kCore a0).map .d))] rfl (by kernel_rfl) ?_
    obtain ⟨k1, hk1, h0⟩ := bnd h0
    refine .r [.call [] (bE k1) []] (A (w_la_mxIn n _ _ hk1) T) [(9, bE k1)] rfl (by kernel_rfl) ?_
    refine .cT h0 rfl (by kernel_rfl) (fun hc2 h0 => ?_) (fun hc2 h0 => ?_)
    · refine .r [] T [(4, bE true)] rfl (by kernel_rfl) ?_
      cases h0
      exact .ret rfl rfl (by kernel_rfl) hK
    · refine .r [] T [(5, iE 0)] rfl (by kernel_rfl) ?_
      refine .lI h0 rfl [1, 2] (fun i3 s4 => [(5, iE (i3 : Int))]) n2 n2 [] (by kernel_rfl) (fun i3 s4 q5 hd7 hi9 h0 => ?_)
      refine .r [.v (a0.kids.length : Int)] (A (dCore.len' a0.kids) T) [(12, lE 11 (ksCore a0.kids)), (14, dE ((i3 : Int) < (a0.kids.length : Int)))] rfl (by kernel_rfl) ?_
      refine .sn 12 dCore a0.kids (by kernel_rfl) (fun hb10 => ?_)
      refine .lc hd7 rfl (by kernel_rfl) (fun x6 q52 hc11 hx6 hd8 hd8l => ?_) (fun hc11 => ?_)
      · subst hc11
        obtain ⟨y1, h1, hw1, hn1⟩ := forI_cons h0
        obtain ⟨k12, hk12, h1⟩ := bnd h1
        refine .r [.cs (kCore x6), .call [] (bE k12) []] (A (dCore.idn hx6) (A (ih _ _ hk12) T)) [(23, bE k12)] rfl (by kernel_rfl) ?_
        refine .cT h1 rfl (by kernel_rfl) (fun hc13 h1 => ?_) (fun hc13 h1 => ?_)
        · refine .r [] T [(4, bE true)] rfl (by kernel_rfl) ?_
          cases h1
          cases hw1 _ rfl
          exact .ret rfl rfl (by kernel_rfl) hK
        · refine .r [.v ((i3 + 1 : Nat) : Int)] (A (wn (i := i3) (by omega)) T) [(5, iE ((i3 + 1 : Nat) : Int))] rfl (by kernel_rfl) ?_
          cases h1
          exact .nL rfl (i3 + 1) _ hd8 hd8l (hn1 _ rfl) [] (by kernel_rfl)
      · subst hc11
        have h0 := forI_nil h0
        refine .r [] T [(4, bE false)] rfl (by kernel_rfl) ?_
        cases h0
        exact .ret rfl rfl (by kernel_rfl) hK
def sp_l15Open (n : Nat) (a0 : List UInt8) : Option (L15Rd) :=
  Option.bind ((if (a0.length : Int) > 2000 then (slI a0 0 2000).bind fun z4 => some z4 else some a0) : Option (List UInt8)) (fun (o2 : List UInt8) => some (⟨o2, 0⟩ : L15Rd))
theorem w_sp_l15Open (n : Nat) : ∀ (a0 : List UInt8) {r : L15Rd}, sp_l15Open n a0 = some r → SCall X.E 17 [lE 1 (ksByte a0)] [none] (pl 0) [.cells ((kL15Rd r).map .d)] := by
  intro a0 r h0
  rw [sp_l15Open] at h0
  refine .m Tryd.func17 rfl rfl rfl (by kernel_rfl) (fun L ks low K hl hL hlen hK => ?_)
  refine .r [] T [] rfl (by kernel_rfl) ?_
  refine .r [.v (a0.length : Int)] (A (dByte.len' a0) T) [(5, dE ((a0.length : Int) > 2000))] rfl (by kernel_rfl) ?_
  refine .sn 0 dByte a0 (by kernel_rfl) (fun hb1 => ?_)
  refine .bP h0 rfl [] (fun o2 => [(0, lE 1 (ksByte o2))]) n1 n1 (fun o2 h0 => ?_) (fun y1 h1 hj1 => ?_)
  · refine .rf [] T [(2, pw 10)] [.o 10 (.cells [lE 1 (ksByte o2), iE 0])] rfl (by kernel_rfl) ?_
    refine .kp [2] [] ?_
    refine .move 2 10 0 (cs := [.sl 1 false (ksByte o2), .v (.int .i64 0)]) rfl rfl rfl rfl ?_
    cases h0
    exact .ret rfl rfl (by kernel_rfl) hK
  · refine .cP h1 rfl (by kernel_rfl) (fun hc3 h1 => ?_) (fun hc3 h1 => ?_)
    · obtain ⟨z4, hz4, h1⟩ := bnd h1
      refine .r [.sv (ksByte z4)] (A (dByte.sl hz4) T) [(0, lE 1 (ksByte z4))] rfl (by kernel_rfl) ?_
      cases h1
      exact .lf hj1 rfl [] (by kernel_rfl)
    · cases h1
      exact .lf hj1 rfl [] (by kernel_rfl)
def sp_l15Rd_pick (n : Nat) (a1 : Int) (w0 : L15Rd) : Option (Int × L15Rd) :=
  Option.bind ((if a1 < 1 then some true else some (decide ((w0.b.length : Int) = 0))) : Option (Bool)) (fun (o1 : Bool) => (if o1 = true then some (0, (⟨w0.b, (w64 (w0.p + 1))⟩ : L15Rd)) else (if (w64 ((w64 (w0.p + 1)) - 1)) < (w0.b.length : Int) then (atI w0.b (w64 ((w64 (w0.p + 1)) - 1))).bind fun e5 => (remI (IntKind.i64.wrap (e5.toNat : Int)) a1).bind fun z6 => some (z6, (⟨w0.b, (w64 (w0.p + 1))⟩ : L15Rd)) else (remI (w64 ((w64 (w0.p + 1)) - 1)) (w0.b.length : Int)).bind fun z7 => (atI w0.b z7).bind fun e8 => (remI (w64 ((w64 ((w64 ((w64 (w0.p + 1)) - 1)) * 7)) + 3)) (w0.b.length : Int)).bind fun z9 => (atI w0.b z9).bind fun e10 => (quoI (w64 ((w64 (w0.p + 1)) - 1)) (w0.b.length : Int)).bind fun z11 => (quoI (w64 ((w64 ((w64 ((w64 ((IntKind.i64.wrap (e8.toNat : Int)) * 131)) + (w64 ((IntKind.i64.wrap (e10.toNat : Int)) * 1117)))) + (w64 ((w64 ((w64 (w0.p + 1)) - 1)) * 29)))) + (w64 (z11 * 53)))) 64).bind fun z12 => (remI (bitsI .xor .i64 (w64 ((w64 ((w64 ((w64 ((IntKind.i64.wrap (e8.toNat : Int)) * 131)) + (w64 ((IntKind.i64.wrap (e10.toNat : Int)) * 1117)))) + (w64 ((w64 ((w64 (w0.p + 1)) - 1)) * 29)))) + (w64 (z11 * 53)))) z12) a1).bind fun z13 => some (z13, (⟨w0.b, (w64 (w0.p + 1))⟩ : L15Rd)))))
theorem w_sp_l15Rd_pick (n : Nat) : ∀ (a1 : Int) (w0 : L15Rd) {r : Int × L15Rd}, sp_l15Rd_pick n a1 w0 = some r → SCall X.E 27 [pl 0, iE a1] [some (.cells ((kL15Rd w0).map .d))] (iE r.1) [.cells ((kL15Rd r.2).map .d)] := by
  intro a1 w0 r h0
  rw [sp_l15Rd_pick] at h0
  refine .m Tryd.func27 rfl rfl rfl (by kernel_rfl) (fun L ks low K hl hL hlen hK => ?_)
  refine .r [] T [] rfl (by kernel_rfl) ?_
  refine .ro [.pl] T [] [.c 0 1 (iE (w64 (w0.p + 1)))] rfl (by kernel_rfl) ?_
  refine .bP h0 rfl [0, 1] (fun o1 => [(24, bE o1)]) n1 n1 (fun o1 h0 => ?_) (fun y1 h1 hj1 => ?_)
  · refine .cT h0 rfl (by kernel_rfl) (fun hc2 h0 => ?_) (fun hc2 h0 => ?_)
    · refine .r [] T [(4, iE 0)] rfl (by kernel_rfl) ?_
      cases h0
      exact .ret rfl rfl (by kernel_rfl) hK
    · refine .r [.pl] T [(5, iE (w64 ((w64 (w0.p + 1)) - 1)))] rfl (by kernel_rfl) ?_
      refine .r [.v (w0.b.length : Int)] (A (dByte.len' w0.b) T) [(34, lE 1 (ksByte w0.b)), (36, dE ((w64 ((w64 (w0.p + 1)) - 1)) < (w0.b.length : Int)))] rfl (by kernel_rfl) ?_
      refine .sn 34 dByte w0.b (by kernel_rfl) (fun hb3 => ?_)
      refine .cP h0 rfl (by kernel_rfl) (fun hc4 h0 => ?_) (fun hc4 h0 => ?_)
      · obtain ⟨e5, he5, h0⟩ := bnd h0
        obtain ⟨z6, hz6, h0⟩ := bnd h0
        refine .r [.cs [.v (.int .u8 (e5.toNat : Int))], .pl, .v z6] (A (dByte.idx he5) (A (rem_ok hz6) T)) [(4, iE z6)] rfl (by kernel_rfl) ?_
        cases h0
        exact .ret rfl rfl (by kernel_rfl) hK
      · obtain ⟨z7, hz7, h0⟩ := bnd h0
        obtain ⟨e8, he8, h0⟩ := bnd h0
        obtain ⟨z9, hz9, h0⟩ := bnd h0
        obtain ⟨e10, he10, h0⟩ := bnd h0
        obtain ⟨z11, hz11, h0⟩ := bnd h0
        refine .rd mixed [(9, [.v (w0.b.length : Int)]), (10, [.v z7]), (11, [.cs [.v (.int .u8 (e8.toNat : Int))]]), (13, [.pl]), (14, [.pl]), (20, [.pl]), (21, [.pl]), (26, [.v (w0.b.length : Int)]), (27, [.v z9]), (28, [.cs [.v (.int .u8 (e10.toNat : Int))]]), (30, [.pl]), (31, [.pl]), (32, [.pl]), (34, [.pl]), (35, [.pl]), (41, [.v (w0.b.length : Int)]), (42, [.v z11]), (43, [.pl]), (44, [.pl])] [] (A (dByte.len' w0.b) (A (rem_ok hz7) (A (dByte.idx he8) (A (dByte.len' w0.b) (A (rem_ok hz9) (A (dByte.idx he10) (A (dByte.len' w0.b) (A (quo_ok hz11) T)))))))) [(6, iE (w64 ((w64 ((w64 ((w64 ((IntKind.i64.wrap (e8.toNat : Int)) * 131)) + (w64 ((IntKind.i64.wrap (e10.toNat : Int)) * 1117)))) + (w64 ((w64 ((w64 (w0.p + 1)) - 1)) * 29)))) + (w64 (z11 * 53)))))] [] [] rfl (by kernel_rfl) ?_
        obtain ⟨z12, hz12, h0⟩ := bnd h0
        refine .r [.v z12, .pl] (A (quo_ok hz12) T) [(6, iE (bitsI .xor .i64 (w64 ((w64 ((w64 ((w64 ((IntKind.i64.wrap (e8.toNat : Int)) * 131)) + (w64 ((IntKind.i64.wrap (e10.toNat : Int)) * 1117)))) + (w64 ((w64 ((w64 (w0.p + 1)) - 1)) * 29)))) + (w64 (z11 * 53)))) z12))] rfl (by kernel_rfl) ?_
        obtain ⟨z13, hz13, h0⟩ := bnd h0
        refine .r [.v z13] (A (rem_ok hz13) T) [(4, iE z13)] rfl (by kernel_rfl) ?_
        cases h0
        exact .ret rfl rfl (by kernel_rfl) hK
  · by_cases g14 : a1 < 1
    · have h1 := iteP g14 h1
      refine .r [.b true, .b true, .b true, .b true, .b true, .b true, .b true] (A (decide_eq_true g14 : decide (a1 < 1) = true) (A (decide_eq_true g14 : decide (a1 < 1) = true) (A (decide_eq_true g14 : decide (a1 < 1) = true) (A (decide_eq_true g14 : decide (a1 < 1) = true) (A (decide_eq_true g14 : decide (a1 < 1) = true) (A (decide_eq_true g14 : decide (a1 < 1) = true) (A (decide_eq_true g14 : decide (a1 < 1) = true) T))))))) [(24, bE true)] rfl (by kernel_rfl) ?_
      cases h1
      exact .lf hj1 rfl [] (by kernel_rfl)
    · have h1 := iteN g14 h1
      refine .r [.b false, .b false, .b false, .b false, .b false, .v (w0.b.length : Int), .b false, .b false] (A (decide_eq_false g14 : decide (a1 < 1) = false) (A (decide_eq_false g14 : decide (a1 < 1) = false) (A (decide_eq_false g14 : decide (a1 < 1) = false) (A (decide_eq_false g14 : decide (a1 < 1) = false) (A (A (decide_eq_false g14 : decide (a1 < 1) = false) (dByte.len' w0.b)) (A (decide_eq_false g14 : decide (a1 < 1) = false) (A (decide_eq_false g14 : decide (a1 < 1) = false) T))))))) [(24, dE ((w0.b.length : Int) = 0))] rfl (by kernel_rfl) ?_
      cases h1
      exact .lf hj1 rfl [] (by kernel_rfl)
def sp_l15Rd_num (n : Nat) (a1 : List Int) (w0 : L15Rd) : Option (Int × L15Rd) :=
  (sp_l15Rd_pick n (a1.length : Int) w0).bind fun k1 => (atI a1 k1.1).bind fun e2 => some (e2, k1.2)
theorem w_sp_l15Rd_num (n : Nat) : ∀ (a1 : List Int) (w0 : L15Rd) {r : Int × L15Rd}, sp_l15Rd_num n a1 w0 = some r → SCall X.E 19 [pl 0, lE 1 (ksInt a1)] [some (.cells ((kL15Rd w0).map .d))] (iE r.1) [.cells ((kL15Rd r.2).map .d)] := by
  intro a1 w0 r h0
  rw [sp_l15Rd_num] at h0
  refine .m Tryd.func19 rfl rfl rfl (by kernel_rfl) (fun L ks low K hl hL hlen hK => ?_)
  refine .r [] T [] rfl (by kernel_rfl) ?_
  obtain ⟨k1, hk1, h0⟩ := bnd h0
  obtain ⟨e2, he2, h0⟩ := bnd h0
  refine .ro [.v (a1.length : Int), .call [.low 0] (iE k1.1) [.cells ((kL15Rd k1.2).map .d)], .cs [.v (.int .i64 e2)]] (A (dInt.len' a1) (A (w_sp_l15Rd_pick n _ _ hk1) (A (dInt.idx he2) T))) [(4, iE e2)] [.o 0 (.cells ((kL15Rd k1.2).map .d))] rfl (by kernel_rfl) ?_
  refine .sn 1 dInt a1 (by kernel_rfl) (fun hb3 => ?_)
  cases h0
  exact .ret rfl rfl (by kernel_rfl) hK
def sp_l15Rd_of (n : Nat) (a1 : List (List UInt8)) (w0 : L15Rd) : Option ((List UInt8) × L15Rd) :=
  (sp_l15Rd_pick n (a1.length : Int) w0).bind fun k1 => (atI a1 k1.1).bind fun e2 => some (e2, k1.2)
theorem w_sp_l15Rd_of (n : Nat) : ∀ (a1 : List (List UInt8)) (w0 : L15Rd) {r : (List UInt8) × L15Rd}, sp_l15Rd_of n a1 w0 = some r → SCall X.E 43 [pl 0, lE 1 (ksStr a1)] [some (.cells ((kL15Rd w0).map .d))] (sE r.1) [.cells ((kL15Rd r.2).map .d)] := by
  intro a1 w0 r h0
  rw [sp_l15Rd_of] at h0
  refine .m Tryd.func43 rfl rfl rfl (by kernel_rfl) (fun L ks low K hl hL hlen hK => ?_)
  refine .r [] T [] rfl (by kernel_rfl) ?_
  obtain ⟨k1, hk1, h0⟩ := bnd h0
  obtain ⟨e2, he2, h0⟩ := bnd h0
  refine .ro [.v (a1.length : Int), .call [.low 0] (iE k1.1) [.cells ((kL15Rd k1.2).map .d)], .cs [.s e2]] (A (dStr.len' a1) (A (w_sp_l15Rd_pick n _ _ hk1) (A (dStr.idx he2) T))) [(4, sE e2)] [.o 0 (.cells ((kL15Rd k1.2).map .d))] rfl (by kernel_rfl) ?_
  refine .sn 1 dStr a1 (by kernel_rfl) (fun hb3 => ?_)
  cases h0
  exact .ret rfl rfl (by kernel_rfl) hK
def sp_l1Name (n : Nat) (a0 : List UInt8) : Option (Form) :=
  some (⟨1, a0, 0, [], []⟩ : Form)
theorem w_sp_l1Name (n : Nat) : ∀ (a0 : List UInt8) {r : Form}, sp_l1Name n a0 = some r → SCall X.E 65 [sE a0] [] (aE (kForm r)) [] := by
  intro a0 r h0
  rw [sp_l1Name] at h0
  refine .m Tryd.func65 rfl rfl rfl (by kernel_rfl) (fun L ks low K hl hL hlen hK => ?_)
  refine .rf [] T [(2, pw 2)] [.o 2 (.cells [iE 0, sE [], iE 0, fE 1 (ksInt []), fE 5 (ksForm [])])] rfl (by kernel_rfl) ?_
  refine .rf [] T [] [.c 2 0 (iE 1), .c 2 1 (sE a0)] rfl (by kernel_rfl) ?_
  cases h0
  exact .ret rfl rfl (by kernel_rfl) hK
def sp_l1Some : Nat → Int → L15Rd → Option (Form × L15Rd)
  | 0, _, _ => none
  | n + 1, a1, w0 => Option.bind ((if a1 = 0 then some (true, w0) else (sp_l15Rd_pick n 3 w0).bind fun k15 => some ((decide (k15.1 = 0)), k15.2)) : Option (Bool × L15Rd)) (fun (o1 : Bool × L15Rd) => (if o1.1 = true then (sp_l15Rd_pick n 4 o1.2).bind fun k3 => (if k3.1 = 0 then (sp_l15Rd_num n [0, 1, 2, 7, 42, 999] k3.2).bind fun k5 => some ((⟨2, [], k5.1, [], []⟩ : Form), k5.2) else (sp_l15Rd_of n [[97], [98], [120], [121], [102], [105, 102], [108, 101, 116], [43]] k3.2).bind fun k6 => (sp_l1Name n k6.1).bind fun k7 => some (k7, k6.2)) else (sp_l15Rd_pick n 4 o1.2).bind fun k8 => iterM n (fun (s9 : Int × (List Form) × (List UInt8) × Int) => ((if s9.1 > 0 then (sp_l1Some n (w64 (a1 - 1)) (⟨s9.2.2.1, s9.2.2.2⟩ : L15Rd)).bind fun k12 => (apB 80 s9.2.1 [k12.1]).bind fun z13 => some (Sum.inr ((w64 (s9.1 - 1)), z13, k12.2.b, k12.2.p)) else some (Sum.inl ((⟨3, [], 0, [], s9.2.1⟩ : Form), (⟨s9.2.2.1, s9.2.2.2⟩ : L15Rd)))) : Option ((Form × L15Rd) ⊕ (Int × (List Form) × (List UInt8) × Int)))) (k8.1, [], k8.2.b, k8.2.p)))
theorem w_sp_l1Some (n : Nat) : ∀ (a1 : Int) (w0 : L15Rd) {r : Form × L15Rd}, sp_l1Some n a1 w0 = some r → SCall X.E 42 [pl 0, iE a1] [some (.cells ((kL15Rd w0).map .d))] (aE (kForm r.1)) [.cells ((kL15Rd r.2).map .d)] := by
  induction n with
  | zero => intro a1 w0 r h; cases h
  | succ n ih =>
    intro a1 w0 r h0
    rw [sp_l1Some] at h0
    refine .m Tryd.func42 rfl rfl rfl (by kernel_rfl) (fun L ks low K hl hL hlen hK => ?_)
    refine .rf [] T [(4, pw 4)] [.o 4 (.cells [iE 0, sE [], iE 0, fE 1 (ksInt []), fE 5 (ksForm [])])] rfl (by kernel_rfl) ?_
    refine .bP h0 rfl [0, 1, 4] (fun o1 => [(13, bE o1.1)]) n1 (fun o1 => [.o 0 (.cells ((kL15Rd o1.2).map .d))]) (fun o1 h0 => ?_) (fun y1 h1 hj1 => ?_)
    · refine .cT h0 rfl (by kernel_rfl) (fun hc2 h0 => ?_) (fun hc2 h0 => ?_)
      · obtain ⟨k3, hk3, h0⟩ := bnd h0
        refine .ro [.call [.low 0] (iE k3.1) [.cells ((kL15Rd k3.2).map .d)]] (A (w_sp_l15Rd_pick n _ _ hk3) T) [(16, dE (k3.1 = 0))] [.o 0 (.cells ((kL15Rd k3.2).map .d))] rfl (by kernel_rfl) ?_
        refine .cP h0 rfl (by kernel_rfl) (fun hc4 h0 => ?_) (fun hc4 h0 => ?_)
        · obtain ⟨k5, hk5, h0⟩ := bnd h0
          refine .rq [.sv (ksInt [0, 1, 2, 7, 42, 999]), .call [.low 0] (iE k5.1) [.cells ((kL15Rd k5.2).map .d)]] [] (A (dInt.lit [0, 1, 2, 7, 42, 999]) (A (w_sp_l15Rd_num n _ _ hk5) T)) [] [.c 4 0 (iE 2), .c 4 2 (iE k5.1)] [.o 0 (.cells ((kL15Rd k5.2).map .d))] rfl (by kernel_rfl) ?_
          cases h0
          exact .ret rfl rfl (by kernel_rfl) hK
        · obtain ⟨k6, hk6, h0⟩ := bnd h0
          obtain ⟨k7, hk7, h0⟩ := bnd h0
          refine .rq [.sv (ksStr [[97], [98], [120], [121], [102], [105, 102], [108, 101, 116], [43]]), .call [.low 0] (sE k6.1) [.cells ((kL15Rd k6.2).map .d)], .call [] (aE (kForm k7)) []] [] (A (dStr.lit [[97], [98], [120], [121], [102], [105, 102], [108, 101, 116], [43]]) (A (w_sp_l15Rd_of n _ _ hk6) (A (w_sp_l1Name n _ hk7) T))) [] [.o 4 (.cells ((kForm k7).map .d))] [.o 0 (.cells ((kL15Rd k6.2).map .d))] rfl (by kernel_rfl) ?_
          cases h0
          exact .ret rfl rfl (by kernel_rfl) hK
      · refine .rf [] T [(5, pw 5)] [.o 5 (.cells [iE 3, sE [], iE 0, fE 1 (ksInt []), fE 5 (ksForm [])])] rfl (by kernel_rfl) ?_
        obtain ⟨k8, hk8, h0⟩ := bnd h0
        refine .ro [.call [.low 0] (iE k8.1) [.cells ((kL15Rd k8.2).map .d)]] (A (w_sp_l15Rd_pick n _ _ hk8) T) [(6, iE k8.1)] [.o 0 (.cells ((kL15Rd k8.2).map .d))] rfl (by kernel_rfl) ?_
        refine .oc 5 4 100039 26 (by kernel_rfl) ?_
        refine .it h0 rfl [0, 1, 4, 5] (fun s9 => [(6, iE s9.1)]) (fun s9 => [.c 5 4 (.gs (.own 100039) 5 (ksForm s9.2.1)), .o 100039 (.tok (ksForm s9.2.1).length 26)]) (fun s9 => [.o 0 (.cells [lE 1 (ksByte s9.2.2.1), iE s9.2.2.2])]) [] (by kernel_rfl) (fun n10 s9 h0 => ?_)
        obtain ⟨y1, h1, hw1, hn1⟩ := iter_cons h0
        refine .r [] T [(29, dE (s9.1 > 0))] rfl (by kernel_rfl) ?_
        refine .cP h1 rfl (by kernel_rfl) (fun hc11 h1 => ?_) (fun hc11 h1 => ?_)
        · obtain ⟨k12, hk12, h1⟩ := bnd h1
          obtain ⟨z13, hz13, h1⟩ := bnd h1
          refine .rd mixed [(4, [.pl]), (5, [.call [.low 0] (aE (kForm k12.1)) [.cells ((kL15Rd k12.2).map .d)]]), (6, [.sv (ksForm [k12.1])]), (7, [.sv (ksForm z13)])] [((ksForm s9.2.1).length : Int)] (A (ih _ _ hk12) (A (dForm.lit [k12.1]) (A (dForm.ap hz13) T))) [] [.c 5 4 (.gs (.own 100039) 5 (ksForm z13)), .o 100039 (.tok (ksForm z13).length 26)] [.o 0 (.cells ((kL15Rd k12.2).map .d))] rfl (by kernel_rfl) ?_
          refine .r [.pl] T [(6, iE (w64 (s9.1 - 1)))] rfl (by kernel_rfl) ?_
          cases h1
          exact .nI rfl _ (hn1 _ rfl) [] (by kernel_rfl)
        · refine .rf [] T [] [.c 4 0 (iE 3), .c 4 4 (.gs (.own 100039) 5 (ksForm s9.2.1))] rfl (by kernel_rfl) ?_
          cases h1
          cases hw1 _ rfl
          exact .ret rfl rfl (by kernel_rfl) hK
    · by_cases g14 : a1 = 0
      · have h1 := iteP g14 h1
        refine .r [.b true, .b true, .b true, .b true] (A (decide_eq_true g14 : decide (a1 = 0) = true) (A (decide_eq_true g14 : decide (a1 = 0) = true) (A (decide_eq_true g14 : decide (a1 = 0) = true) (A (decide_eq_true g14 : decide (a1 = 0) = true) T)))) [(13, bE true)] rfl (by kernel_rfl) ?_
        cases h1
        exact .lf hj1 rfl [] (by kernel_rfl)
      · have h1 := iteN g14 h1
        obtain ⟨k15, hk15, h1⟩ := bnd h1
        refine .ro [.b false, .b false, .call [.low 0] (iE k15.1) [.cells ((kL15Rd k15.2).map .d)], .b false, .b false] (A (decide_eq_false g14 : decide (a1 = 0) = false) (A (A (decide_eq_false g14 : decide (a1 = 0) = false) (w_sp_l15Rd_pick n _ _ hk15)) (A (decide_eq_false g14 : decide (a1 = 0) = false) (A (decide_eq_false g14 : decide (a1 = 0) = false) T)))) [(13, dE (k15.1 = 0))] [.o 0 (.cells ((kL15Rd k15.2).map .d))] rfl (by kernel_rfl) ?_
        cases h1
        exact .lf hj1 rfl [] (by kernel_rfl)
def sp_l6Some : Nat → (List Int) → Int → Int → L15Rd → Option (Core × Int × L15Rd)
  | 0, _, _, _, _ => none
  | n + 1, a1, a2, a3, w0 => Option.bind ((if a2 = 0 then some (true, w0) else (sp_l15Rd_pick n 4 w0).bind fun k37 => some ((decide (k37.1 = 0)), k37.2)) : Option (Bool × L15Rd)) (fun (o1 : Bool × L15Rd) => (if o1.1 = true then Option.bind ((if (a1.length : Int) > 0 then (sp_l15Rd_pick n 3 o1.2).bind fun k15 => some ((decide (k15.1 > 0)), k15.2) else some (false, o1.2)) : Option (Bool × L15Rd)) (fun (o3 : Bool × L15Rd) => (if o3.1 = true then (sp_l15Rd_pick n (a1.length : Int) o3.2).bind fun k5 => (atI a1 k5.1).bind fun e6 => some ((⟨1, e6, [], 0, [], (⟨0, [], 0, [], []⟩ : Form), []⟩ : Core), a3, k5.2) else (sp_l15Rd_pick n 4 o3.2).bind fun k8 => (if k8.1 = 0 then (sp_l1Some n 1 k8.2).bind fun k10 => some ((⟨4, 0, [], 0, [], k10.1, []⟩ : Core), a3, k10.2) else (if k8.1 = 1 then (sp_l15Rd_of n [[102], [43], [108, 105, 115, 116]] k8.2).bind fun k12 => some ((⟨2, 0, k12.1, 0, [], (⟨0, [], 0, [], []⟩ : Form), []⟩ : Core), a3, k12.2) else (sp_l15Rd_num n [0, 1, 5, 42] k8.2).bind fun k13 => some ((⟨3, 0, [], k13.1, [], (⟨0, [], 0, [], []⟩ : Form), []⟩ : Core), a3, k13.2))))) else (sp_l15Rd_num n [6, 5, 7, 5] o1.2).bind fun k18 => Option.bind ((if k18.1 = 5 then (sp_l15Rd_num n [1, 2, 0] k18.2).bind fun k26 => iterM n (fun (s27 : (List Int) × Int × Int × (List Int) × (List UInt8) × Int) => ((if s27.2.2.1 > 0 then (sp_l15Rd_num n [1, 2, 5] (⟨s27.2.2.2.2.1, s27.2.2.2.2.2⟩ : L15Rd)).bind fun k30 => (apB 8 s27.2.2.2.1 [(w64 (s27.2.1 + k30.1))]).bind fun z31 => (apB 8 [] s27.1).bind fun z32 => (apB 8 z32 [(w64 (s27.2.1 + k30.1))]).bind fun z33 => some (Sum.inr (z33, (w64 (s27.2.1 + k30.1)), (w64 (s27.2.2.1 - 1)), z31, k30.2.b, k30.2.p)) else some (Sum.inl (s27.1, s27.2.1, 1, s27.2.2.2.1, s27.2.2.2.2.1, s27.2.2.2.2.2))) : Option (((List Int) × Int × Int × (List Int) × (List UInt8) × Int) ⊕ ((List Int) × Int × Int × (List Int) × (List UInt8) × Int)))) (a1, a3, k26.1, [], k26.2.b, k26.2.p) else (if k18.1 = 6 then (sp_l15Rd_num n [2, 1, 3] k18.2).bind fun k35 => some (a1, a3, k35.1, [], k35.2.b, k35.2.p) else some (a1, a3, 3, [], k18.2.b, k18.2.p))) : Option ((List Int) × Int × Int × (List Int) × (List UInt8) × Int)) (fun (o19 : (List Int) × Int × Int × (List Int) × (List UInt8) × Int) => iterM n (fun (s20 : Int × Int × (List Core) × (List UInt8) × Int) => ((if s20.2.1 < o19.2.2.1 then (sp_l6Some n o19.1 (w64 (a2 - 1)) s20.1 (⟨s20.2.2.2.1, s20.2.2.2.2⟩ : L15Rd)).bind fun k23 => (apB 168 s20.2.2.1 [k23.1]).bind fun z24 => some (Sum.inr (k23.2.1, (w64 (s20.2.1 + 1)), z24, k23.2.2.b, k23.2.2.p)) else some (Sum.inl ((⟨k18.1, 0, [], 0, o19.2.2.2.1, (⟨0, [], 0, [], []⟩ : Form), s20.2.2.1⟩ : Core), s20.1, (⟨s20.2.2.2.1, s20.2.2.2.2⟩ : L15Rd)))) : Option ((Core × Int × L15Rd) ⊕ (Int × Int × (List Core) × (List UInt8) × Int)))) (o19.2.1, 0, [], o19.2.2.2.2.1, o19.2.2.2.2.2))))
theorem w_sp_l6Some (n : Nat) : ∀ (a1 : List Int) (a2 : Int) (a3 : Int) (w0 : L15Rd) {r : Core × Int × L15Rd}, sp_l6Some n a1 a2 a3 w0 = some r → SCall X.E 18 [pl 0, lE 1 (ksInt a1), iE a2, iE a3] [some (.cells ((kL15Rd w0).map .d))] (.tup [aE (kCore r.1), iE r.2.1]) [.cells ((kL15Rd r.2.2).map .d)] := by
  induction n with
  | zero => intro a1 a2 a3 w0 r h; cases h
  | succ n ih =>
    intro a1 a2 a3 w0 r h0
    rw [sp_l6Some] at h0
    refine .m Tryd.func18 rfl rfl rfl (by kernel_rfl) (fun L ks low K hl hL hlen hK => ?_)
    refine .rf [] T [(8, pw 8)] [.o 8 (.cells [iE 0, iE 0, sE [], iE 0, fE 1 (ksInt []), iE 0, sE [], iE 0, fE 1 (ksInt []), fE 5 (ksForm []), fE 11 (ksCore [])])] rfl (by kernel_rfl) ?_
    refine .bP h0 rfl [0, 1, 2, 3, 8] (fun o1 => [(22, bE o1.1)]) n1 (fun o1 => [.o 0 (.cells ((kL15Rd o1.2).map .d))]) (fun o1 h0 => ?_) (fun y1 h1 hj1 => ?_)
    · refine .cT h0 rfl (by kernel_rfl) (fun hc2 h0 => ?_) (fun hc2 h0 => ?_)
      · refine .bP h0 rfl [0, 1, 3, 8] (fun o3 => [(30, bE o3.1)]) n1 (fun o3 => [.o 0 (.cells ((kL15Rd o3.2).map .d))]) (fun o3 h0 => ?_) (fun y1 h1 hj1 => ?_)
        · refine .cT h0 rfl (by kernel_rfl) (fun hc4 h0 => ?_) (fun hc4 h0 => ?_)
          · obtain ⟨k5, hk5, h0⟩ := bnd h0
            obtain ⟨e6, he6, h0⟩ := bnd h0
            refine .rq [.v (a1.length : Int), .call [.low 0] (iE k5.1) [.cells ((kL15Rd k5.2).map .d)], .cs [.v (.int .i64 e6)]] [] (A (dInt.len' a1) (A (w_sp_l15Rd_pick n _ _ hk5) (A (dInt.idx he6) T))) [(9, iE a3)] [.c 8 0 (iE 1), .c 8 1 (iE e6)] [.o 0 (.cells ((kL15Rd k5.2).map .d))] rfl (by kernel_rfl) ?_
            refine .sn 1 dInt a1 (by kernel_rfl) (fun hb7 => ?_)
            cases h0
            exact .ret rfl rfl (by kernel_rfl) hK
          · obtain ⟨k8, hk8, h0⟩ := bnd h0
            refine .ro [.call [.low 0] (iE k8.1) [.cells ((kL15Rd k8.2).map .d)]] (A (w_sp_l15Rd_pick n _ _ hk8) T) [(41, iE k8.1)] [.o 0 (.cells ((kL15Rd k8.2).map .d))] rfl (by kernel_rfl) ?_
            refine .r [] T [(42, dE (k8.1 = 0))] rfl (by kernel_rfl) ?_
            refine .cP h0 rfl (by kernel_rfl) (fun hc9 h0 => ?_) (fun hc9 h0 => ?_)
            · obtain ⟨k10, hk10, h0⟩ := bnd h0
              refine .rq [.call [.low 0] (aE (kForm k10.1)) [.cells ((kL15Rd k10.2).map .d)]] [] (A (w_sp_l1Some n _ _ hk10) T) [(9, iE a3)] [.c 8 0 (iE 4), .c 8 5 (iE k10.1.kind), .c 8 6 (sE k10.1.name), .c 8 7 (iE k10.1.n), .c 8 8 (lE 1 (ksInt k10.1.scopes)), .c 8 9 (lE 5 (ksForm k10.1.kids))] [.o 0 (.cells ((kL15Rd k10.2).map .d))] rfl (by kernel_rfl) ?_
              cases h0
              exact .ret rfl rfl (by kernel_rfl) hK
            · refine .r [] T [(48, dE (k8.1 = 1))] rfl (by kernel_rfl) ?_
              refine .cP h0 rfl (by kernel_rfl) (fun hc11 h0 => ?_) (fun hc11 h0 => ?_)
              · obtain ⟨k12, hk12, h0⟩ := bnd h0
                refine .rq [.sv (ksStr [[102], [43], [108, 105, 115, 116]]), .call [.low 0] (sE k12.1) [.cells ((kL15Rd k12.2).map .d)]] [] (A (dStr.lit [[102], [43], [108, 105, 115, 116]]) (A (w_sp_l15Rd_of n _ _ hk12) T)) [(9, iE a3)] [.c 8 0 (iE 2), .c 8 2 (sE k12.1)] [.o 0 (.cells ((kL15Rd k12.2).map .d))] rfl (by kernel_rfl) ?_
                cases h0
                exact .ret rfl rfl (by kernel_rfl) hK
              · obtain ⟨k13, hk13, h0⟩ := bnd h0
                refine .rq [.sv (ksInt [0, 1, 5, 42]), .call [.low 0] (iE k13.1) [.cells ((kL15Rd k13.2).map .d)]] [] (A (dInt.lit [0, 1, 5, 42]) (A (w_sp_l15Rd_num n _ _ hk13) T)) [(9, iE a3)] [.c 8 0 (iE 3), .c 8 3 (iE k13.1)] [.o 0 (.cells ((kL15Rd k13.2).map .d))] rfl (by kernel_rfl) ?_
                cases h0
                exact .ret rfl rfl (by kernel_rfl) hK
        · by_cases g14 : (a1.length : Int) > 0
          · have h1 := iteP g14 h1
            obtain ⟨k15, hk15, h1⟩ := bnd h1
            refine .ro [.v (a1.length : Int), .b true, .b true, .call [.low 0] (iE k15.1) [.cells ((kL15Rd k15.2).map .d)], .b true, .b true] (A (dInt.len' a1) (A (decide_eq_true g14 : decide ((a1.length : Int) > 0) = true) (A (A (decide_eq_true g14 : decide ((a1.length : Int) > 0) = true) (w_sp_l15Rd_pick n _ _ hk15)) (A (decide_eq_true g14 : decide ((a1.length : Int) > 0) = true) (A (decide_eq_true g14 : decide ((a1.length : Int) > 0) = true) T))))) [(30, dE (k15.1 > 0))] [.o 0 (.cells ((kL15Rd k15.2).map .d))] rfl (by kernel_rfl) ?_
            refine .sn 1 dInt a1 (by kernel_rfl) (fun hb16 => ?_)
            cases h1
            exact .lf hj1 rfl [] (by kernel_rfl)
          · have h1 := iteN g14 h1
            refine .r [.v (a1.length : Int), .b false, .b false, .b false, .b false] (A (dInt.len' a1) (A (decide_eq_false g14 : decide ((a1.length : Int) > 0) = false) (A (decide_eq_false g14 : decide ((a1.length : Int) > 0) = false) (A (decide_eq_false g14 : decide ((a1.length : Int) > 0) = false) (A (decide_eq_false g14 : decide ((a1.length : Int) > 0) = false) T))))) [(30, bE false)] rfl (by kernel_rfl) ?_
            refine .sn 1 dInt a1 (by kernel_rfl) (fun hb17 => ?_)
            cases h1
            exact .lf hj1 rfl [] (by kernel_rfl)
      · obtain ⟨k18, hk18, h0⟩ := bnd h0
        refine .rq [.sv (ksInt [6, 5, 7, 5]), .call [.low 0] (iE k18.1) [.cells ((kL15Rd k18.2).map .d)]] [] (A (dInt.lit [6, 5, 7, 5]) (A (w_sp_l15Rd_num n _ _ hk18) T)) [(10, pw 10)] [.o 10 (.cells [iE k18.1, iE 0, sE [], iE 0, fE 1 (ksInt []), iE 0, sE [], iE 0, fE 1 (ksInt []), fE 5 (ksForm []), fE 11 (ksCore [])])] [.o 0 (.cells ((kL15Rd k18.2).map .d))] rfl (by kernel_rfl) ?_
        refine .r [] T [(11, iE 3)] rfl (by kernel_rfl) ?_
        refine .r [] T [(65, iE k18.1)] rfl (by kernel_rfl) ?_
        refine .oc 10 4 100084 3 (by kernel_rfl) ?_
        refine .bPB h0 rfl [0, 2, 8, 10] (fun o19 => [(1, lE 1 (ksInt o19.1)), (3, iE o19.2.1), (11, iE o19.2.2.1)]) (fun o19 => [.c 10 4 (.gs (.own 100084) 1 (ksInt o19.2.2.2.1)), .o 100084 (.tok (ksInt o19.2.2.2.1).length 3)]) (fun o19 => [.o 0 (.cells [lE 1 (ksByte o19.2.2.2.2.1), iE o19.2.2.2.2.2])]) (fun o19 h0 => ?_) (fun y1 h1 hj1 => ?_)
        · refine .r [] T [(13, iE 0)] rfl (by kernel_rfl) ?_
          refine .oc 10 10 100116 29 (by kernel_rfl) ?_
          refine .it h0 rfl [0, 1, 2, 8, 10, 11] (fun s20 => [(3, iE s20.1), (13, iE s20.2.1)]) (fun s20 => [.c 10 10 (.gs (.own 100116) 11 (ksCore s20.2.2.1)), .o 100116 (.tok (ksCore s20.2.2.1).length 29)]) (fun s20 => [.o 0 (.cells [lE 1 (ksByte s20.2.2.2.1), iE s20.2.2.2.2])]) [] (by kernel_rfl) (fun n21 s20 h0 => ?_)
          obtain ⟨y1, h1, hw1, hn1⟩ := iter_cons h0
          refine .r [] T [(99, dE (s20.2.1 < o19.2.2.1))] rfl (by kernel_rfl) ?_
          refine .cP h1 rfl (by kernel_rfl) (fun hc22 h1 => ?_) (fun hc22 h1 => ?_)
          · obtain ⟨k23, hk23, h1⟩ := bnd h1
            refine .rq [.pl, .call [.low 0] (.tup [aE (kCore k23.1), iE k23.2.1]) [.cells ((kL15Rd k23.2.2).map .d)]] [] (A (ih _ _ _ _ hk23) T) [(14, pw 14), (15, iE k23.2.1)] [.o 14 (.cells ((kCore k23.1).map .d))] [.o 0 (.cells ((kL15Rd k23.2.2).map .d))] rfl (by kernel_rfl) ?_
            refine .r [] T [(3, iE k23.2.1)] rfl (by kernel_rfl) ?_
            obtain ⟨z24, hz24, h1⟩ := bnd h1
            refine .rq [.sv (ksCore [k23.1]), .sv (ksCore z24)] [((ksCore s20.2.2.1).length : Int)] (A (dCore.lit [k23.1]) (A (dCore.ap hz24) T)) [] [.c 10 10 (.gs (.own 100116) 11 (ksCore z24)), .o 100116 (.tok (ksCore z24).length 29)] [] rfl (by kernel_rfl) ?_
            refine .r [.pl] T [(13, iE (w64 (s20.2.1 + 1)))] rfl (by kernel_rfl) ?_
            cases h1
            refine .kp [0, 1, 2, 3, 8, 10, 11, 13] [] ?_
            refine .dr 14 (by kernel_rfl) ?_
            exact .nI rfl _ (hn1 _ rfl) [] (by kernel_rfl)
          · refine .rf [] T [(9, iE s20.1)] [.c 8 0 (iE k18.1), .c 8 4 (.gs (.own 100084) 1 (ksInt o19.2.2.2.1)), .c 8 10 (.gs (.own 100116) 11 (ksCore s20.2.2.1))] rfl (by kernel_rfl) ?_
            cases h1
            cases hw1 _ rfl
            exact .ret rfl rfl (by kernel_rfl) hK
        · refine .r [] T [(66, dE (k18.1 = 5))] rfl (by kernel_rfl) ?_
          refine .cP h1 rfl (by kernel_rfl) (fun hc25 h1 => ?_) (fun hc25 h1 => ?_)
          · refine .r [] T [(11, iE 1)] rfl (by kernel_rfl) ?_
            obtain ⟨k26, hk26, h1⟩ := bnd h1
            refine .ro [.sv (ksInt [1, 2, 0]), .call [.low 0] (iE k26.1) [.cells ((kL15Rd k26.2).map .d)]] (A (dInt.lit [1, 2, 0]) (A (w_sp_l15Rd_num n _ _ hk26) T)) [(12, iE k26.1)] [.o 0 (.cells ((kL15Rd k26.2).map .d))] rfl (by kernel_rfl) ?_
            refine .it h1 rfl [0, 2, 8, 10, 11] (fun s27 => [(1, lE 1 (ksInt s27.1)), (3, iE s27.2.1), (12, iE s27.2.2.1)]) (fun s27 => [.c 10 4 (.gs (.own 100084) 1 (ksInt s27.2.2.2.1)), .o 100084 (.tok (ksInt s27.2.2.2.1).length 3)]) (fun s27 => [.o 0 (.cells [lE 1 (ksByte s27.2.2.2.2.1), iE s27.2.2.2.2.2])]) [] (by kernel_rfl) (fun n28 s27 h1 => ?_)
            obtain ⟨y2, h2, hw2, hn2⟩ := iter_cons h1
            refine .r [] T [(72, dE (s27.2.2.1 > 0))] rfl (by kernel_rfl) ?_
            refine .cP h2 rfl (by kernel_rfl) (fun hc29 h2 => ?_) (fun hc29 h2 => ?_)
            · obtain ⟨k30, hk30, h2⟩ := bnd h2
              refine .ro [.sv (ksInt [1, 2, 5]), .call [.low 0] (iE k30.1) [.cells ((kL15Rd k30.2).map .d)], .pl] (A (dInt.lit [1, 2, 5]) (A (w_sp_l15Rd_num n _ _ hk30) T)) [(3, iE (w64 (s27.2.1 + k30.1)))] [.o 0 (.cells ((kL15Rd k30.2).map .d))] rfl (by kernel_rfl) ?_
              obtain ⟨z31, hz31, h2⟩ := bnd h2
              refine .rq [.sv (ksInt [(w64 (s27.2.1 + k30.1))]), .sv (ksInt z31)] [((ksInt s27.2.2.2.1).length : Int)] (A (dInt.lit [(w64 (s27.2.1 + k30.1))]) (A (dInt.ap hz31) T)) [] [.c 10 4 (.gs (.own 100084) 1 (ksInt z31)), .o 100084 (.tok (ksInt z31).length 3)] [] rfl (by kernel_rfl) ?_
              obtain ⟨z32, hz32, h2⟩ := bnd h2
              obtain ⟨z33, hz33, h2⟩ := bnd h2
              refine .rq [.sv (ksInt []), .sv (ksInt z32), .sv (ksInt [(w64 (s27.2.1 + k30.1))]), .sv (ksInt z33)] [((ksInt z32).length : Int)] (A (dInt.lit []) (A (dInt.ap hz32) (A (dInt.lit [(w64 (s27.2.1 + k30.1))]) (A (dInt.ap hz33) T)))) [(1, .gs (.own 100088) 1 (ksInt z33))] [.o 100088 (.tok (ksInt z33).length 3)] [] rfl (by kernel_rfl) ?_
              refine .r [.pl] T [(12, iE (w64 (s27.2.2.1 - 1)))] rfl (by kernel_rfl) ?_
              cases h2
              refine .kp [0, 1, 2, 3, 8, 10, 11, 12] [1] ?_
              refine .dr 100088 (by kernel_rfl) ?_
              exact .nI rfl _ (hn2 _ rfl) [] (by kernel_rfl)
            · cases h2
              cases hw2 _ rfl
              exact .lf hj1 rfl [] (by kernel_rfl)
          · refine .r [] T [(92, dE (k18.1 = 6))] rfl (by kernel_rfl) ?_
            refine .cP h1 rfl (by kernel_rfl) (fun hc34 h1 => ?_) (fun hc34 h1 => ?_)
            · obtain ⟨k35, hk35, h1⟩ := bnd h1
              refine .ro [.sv (ksInt [2, 1, 3]), .call [.low 0] (iE k35.1) [.cells ((kL15Rd k35.2).map .d)]] (A (dInt.lit [2, 1, 3]) (A (w_sp_l15Rd_num n _ _ hk35) T)) [(11, iE k35.1)] [.o 0 (.cells ((kL15Rd k35.2).map .d))] rfl (by kernel_rfl) ?_
              cases h1
              exact .lf hj1 rfl [] (by kernel_rfl)
            · cases h1
              exact .lf hj1 rfl [] (by kernel_rfl)
    · by_cases g36 : a2 = 0
      · have h1 := iteP g36 h1
        refine .r [.b true, .b true, .b true, .b true] (A (decide_eq_true g36 : decide (a2 = 0) = true) (A (decide_eq_true g36 : decide (a2 = 0) = true) (A (decide_eq_true g36 : decide (a2 = 0) = true) (A (decide_eq_true g36 : decide (a2 = 0) = true) T)))) [(22, bE true)] rfl (by kernel_rfl) ?_
        cases h1
        exact .lf hj1 rfl [] (by kernel_rfl)
      · have h1 := iteN g36 h1
        obtain ⟨k37, hk37, h1⟩ := bnd h1
        refine .ro [.b false, .b false, .call [.low 0] (iE k37.1) [.cells ((kL15Rd k37.2).map .d)], .b false, .b false] (A (decide_eq_false g36 : decide (a2 = 0) = false) (A (A (decide_eq_false g36 : decide (a2 = 0) = false) (w_sp_l15Rd_pick n _ _ hk37)) (A (decide_eq_false g36 : decide (a2 = 0) = false) (A (decide_eq_false g36 : decide (a2 = 0) = false) T)))) [(22, dE (k37.1 = 0))] [.o 0 (.cells ((kL15Rd k37.2).map .d))] rfl (by kernel_rfl) ?_
        cases h1
        exact .lf hj1 rfl [] (by kernel_rfl)
def sp_DrawCoreAtom (n : Nat) (a0 : List UInt8) : Option (Core) :=
  (sp_l15Open n a0).bind fun k1 => (sp_l15Rd_num n [0, 0, 1] k1).bind fun k2 => (sp_l6Some n [1] k2.1 1 k2.2).bind fun k3 => some k3.1
theorem w_sp_DrawCoreAtom (n : Nat) : ∀ (a0 : List UInt8) {r : Core}, sp_DrawCoreAtom n a0 = some r → SCall X.E 6 [lE 1 (ksByte a0)] [] (aE (kCore r)) [] := by
  intro a0 r h0
  rw [sp_DrawCoreAtom] at h0
  refine .m Tryd.func6 rfl rfl rfl (by kernel_rfl) (fun L ks low K hl hL hlen hK => ?_)
  refine .rf [] T [(2, pw 2)] [.o 2 (.cells [iE 0, iE 0, sE [], iE 0, fE 1 (ksInt []), iE 0, sE [], iE 0, fE 1 (ksInt []), fE 5 (ksForm []), fE 11 (ksCore [])])] rfl (by kernel_rfl) ?_
  obtain ⟨k1, hk1, h0⟩ := bnd h0
  refine .rf [.call [.own 200007] (pl 0) [.cells ((kL15Rd k1).map .d)]] (A (w_sp_l15Open n _ hk1) T) [(3, pw 200007)] [.o 200007 (.cells ((kL15Rd k1).map .d))] rfl (by kernel_rfl) ?_
  obtain ⟨k2, hk2, h0⟩ := bnd h0
  obtain ⟨k3, hk3, h0⟩ := bnd h0
  refine .rf [.sv (ksInt [1]), .sv (ksInt [0, 0, 1]), .call [.own 200007] (iE k2.1) [.cells ((kL15Rd k2.2).map .d)], .call [.own 200007] (.tup [aE (kCore k3.1), iE k3.2.1]) [.cells ((kL15Rd k3.2.2).map .d)]] (A (dInt.lit [1]) (A (dInt.lit [0, 0, 1]) (A (w_sp_l15Rd_num n _ _ hk2) (A (w_sp_l6Some n _ _ _ _ hk3) T)))) [(4, pw 4)] [.o 200007 (.cells ((kL15Rd k3.2.2).map .d)), .o 4 (.cells ((kCore k3.1).map .d))] rfl (by kernel_rfl) ?_
  refine .rf [] T [] [.o 2 (.cells ((kCore k3.1).map .d))] rfl (by kernel_rfl) ?_
  cases h0
  exact .ret rfl rfl (by kernel_rfl) hK
def sp_l1Copy : Nat → Form → Option (Form)
  | 0, _ => none
  | n + 1, a0 => (apB 8 [] a0.scopes).bind fun z1 => Option.bind (forL (fun (s3 : List Form) (i2 : Nat) (x5 : Form) => (sp_l1Copy n x5).bind fun k11 => (apB 80 s3 [k11]).bind fun z12 => some z12) 0 a0.kids []) (fun (s3 : List Form) => some (⟨a0.kind, a0.name, a0.n, z1, s3⟩ : Form))
theorem w_sp_l1Copy (n : Nat) : ∀ (a0 : Form) {r : Form}, sp_l1Copy n a0 = some r → SCall X.E 55 [aE (kForm a0)] [] (aE (kForm r)) [] := by
  induction n with
  | zero => intro a0 r h; cases h
  | succ n ih =>
    intro a0 r h0
    rw [sp_l1Copy] at h0
    refine .m Tryd.func55 rfl rfl rfl (by kernel_rfl) (fun L ks low K hl hL hlen hK => ?_)
    refine .rf [] T [(1, pw 1), (2, pw 2)] [.o 1 (.cells ((kForm a0).map .d)), .o 2 (.cells [iE 0, sE [], iE 0, fE 1 (ksInt []), fE 5 (ksForm [])])] rfl (by kernel_rfl) ?_
    obtain ⟨z1, hz1, h0⟩ := bnd h0
    refine .rd mixed [(6, [.sv (ksInt [])]), (9, [.sv (ksInt z1)])] [] (A (dInt.lit []) (A (dInt.ap hz1) T)) [(3, pw 3)] [.o 100014 (.tok (ksInt z1).length 3), .o 3 (.cells [iE a0.kind, sE a0.name, iE a0.n, .gs (.own 100014) 1 (ksInt z1), fE 5 (ksForm [])])] [] rfl (by kernel_rfl) ?_
    refine .r [] T [(4, iE 0)] rfl (by kernel_rfl) ?_
    refine .oc 3 4 100032 26 (by kernel_rfl) ?_
    refine .lL h0 rfl [1, 2, 3] (fun i2 s3 => [(4, iE (i2 : Int))]) (fun i2 s3 => [.c 3 4 (.gs (.own 100032) 5 (ksForm s3)), .o 100032 (.tok (ksForm s3).length 26)]) n2 [] (by kernel_rfl) (fun i2 s3 q4 hd6 hi8 h0 => ?_)
    refine .r [.v (a0.kids.length : Int)] (A (dForm.len' a0.kids) T) [(18, lE 5 (ksForm a0.kids)), (20, dE ((i2 : Int) < (a0.kids.length : Int)))] rfl (by kernel_rfl) ?_
    refine .sn 18 dForm a0.kids (by kernel_rfl) (fun hb9 => ?_)
    refine .lc hd6 rfl (by kernel_rfl) (fun x5 q42 hc10 hx5 hd7 hd7l => ?_) (fun hc10 => ?_)
    · subst hc10
      obtain ⟨y1, h1, hn1⟩ := forL_cons h0
      obtain ⟨k11, hk11, h1⟩ := bnd h1
      obtain ⟨z12, hz12, h1⟩ := bnd h1
      refine .rd mixed [(5, [.cs (kForm x5)]), (7, [.call [] (aE (kForm k11)) []]), (8, [.sv (ksForm [k11])]), (9, [.sv (ksForm z12)])] [((ksForm s3).length : Int)] (A (dForm.idn hx5) (A (ih _ hk11) (A (dForm.lit [k11]) (A (dForm.ap hz12) T)))) [] [.c 3 4 (.gs (.own 100032) 5 (ksForm z12)), .o 100032 (.tok (ksForm z12).length 26)] [] rfl (by kernel_rfl) ?_
      refine .r [.v ((i2 + 1 : Nat) : Int)] (A (wn (i := i2) (by omega)) T) [(4, iE ((i2 + 1 : Nat) : Int))] rfl (by kernel_rfl) ?_
      cases h1
      exact .nL rfl (i2 + 1) _ hd7 hd7l hn1 [] (by kernel_rfl)
    · subst hc10
      have h0 := forL_nil h0
      refine .rf [] T [] [.o 2 (.cells [iE a0.kind, sE a0.name, iE a0.n, .gs (.own 100014) 1 (ksInt z1), .gs (.own 100032) 5 (ksForm s3)])] rfl (by kernel_rfl) ?_
      cases h0
      exact .ret rfl rfl (by kernel_rfl) hK
def sp_l6Copy : Nat → Core → Option (Core)
  | 0, _ => none
  | n + 1, a0 => (apB 8 [] a0.ids).bind fun z1 => (sp_l1Copy n a0.data).bind fun k2 => Option.bind (forL (fun (s4 : List Core) (i3 : Nat) (x6 : Core) => (sp_l6Copy n x6).bind fun k12 => (apB 168 s4 [k12]).bind fun z13 => some z13) 0 a0.kids []) (fun (s4 : List Core) => some (⟨a0.kind, a0.id, a0.name, a0.n, z1, k2, s4⟩ : Core))
theorem w_sp_l6Copy (n : Nat) : ∀ (a0 : Core) {r : Core}, sp_l6Copy n a0 = some r → SCall X.E 54 [aE (kCore a0)] [] (aE (kCore r)) [] := by
  induction n with
  | zero => intro a0 r h; cases h
  | succ n ih =>
    intro a0 r h0
    rw [sp_l6Copy] at h0
    refine .m Tryd.func54 rfl rfl rfl (by kernel_rfl) (fun L ks low K hl hL hlen hK => ?_)
    refine .rf [] T [(1, pw 1), (2, pw 2)] [.o 1 (.cells ((kCore a0).map .d)), .o 2 (.cells [iE 0, iE 0, sE [], iE 0, fE 1 (ksInt []), iE 0, sE [], iE 0, fE 1 (ksInt []), fE 5 (ksForm []), fE 11 (ksCore [])])] rfl (by kernel_rfl) ?_
    obtain ⟨z1, hz1, h0⟩ := bnd h0
    obtain ⟨k2, hk2, h0⟩ := bnd h0
    refine .rd mixed [(8, [.sv (ksInt [])]), (11, [.sv (ksInt z1)]), (14, [.call [] (aE (kForm k2)) []])] [] (A (dInt.lit []) (A (dInt.ap hz1) (A (w_sp_l1Copy n _ hk2) T))) [(3, pw 3)] [.o 100016 (.tok (ksInt z1).length 3), .o 3 (.cells [iE a0.kind, iE a0.id, sE a0.name, iE a0.n, .gs (.own 100016) 1 (ksInt z1), iE k2.kind, sE k2.name, iE k2.n, lE 1 (ksInt k2.scopes), lE 5 (ksForm k2.kids), fE 11 (ksCore [])])] [] rfl (by kernel_rfl) ?_
    refine .r [] T [(4, iE 0)] rfl (by kernel_rfl) ?_
    refine .oc 3 10 100037 29 (by kernel_rfl) ?_
    refine .lL h0 rfl [1, 2, 3] (fun i3 s4 => [(4, iE (i3 : Int))]) (fun i3 s4 => [.c 3 10 (.gs (.own 100037) 11 (ksCore s4)), .o 100037 (.tok (ksCore s4).length 29)]) n2 [] (by kernel_rfl) (fun i3 s4 q5 hd7 hi9 h0 => ?_)
    refine .r [.v (a0.kids.length : Int)] (A (dCore.len' a0.kids) T) [(23, lE 11 (ksCore a0.kids)), (25, dE ((i3 : Int) < (a0.kids.length : Int)))] rfl (by kernel_rfl) ?_
    refine .sn 23 dCore a0.kids (by kernel_rfl) (fun hb10 => ?_)
    refine .lc hd7 rfl (by kernel_rfl) (fun x6 q52 hc11 hx6 hd8 hd8l => ?_) (fun hc11 => ?_)
    · subst hc11
      obtain ⟨y1, h1, hn1⟩ := forL_cons h0
      obtain ⟨k12, hk12, h1⟩ := bnd h1
      obtain ⟨z13, hz13, h1⟩ := bnd h1
      refine .rd mixed [(5, [.cs (kCore x6)]), (7, [.call [] (aE (kCore k12)) []]), (8, [.sv (ksCore [k12])]), (9, [.sv (ksCore z13)])] [((ksCore s4).length : Int)] (A (dCore.idn hx6) (A (ih _ hk12) (A (dCore.lit [k12]) (A (dCore.ap hz13) T)))) [] [.c 3 10 (.gs (.own 100037) 11 (ksCore z13)), .o 100037 (.tok (ksCore z13).length 29)] [] rfl (by kernel_rfl) ?_
      refine .r [.v ((i3 + 1 : Nat) : Int)] (A (wn (i := i3) (by omega)) T) [(4, iE ((i3 + 1 : Nat) : Int))] rfl (by kernel_rfl) ?_
      cases h1
      exact .nL rfl (i3 + 1) _ hd8 hd8l hn1 [] (by kernel_rfl)
    · subst hc11
      have h0 := forL_nil h0
      refine .rf [] T [] [.o 2 (.cells [iE a0.kind, iE a0.id, sE a0.name, iE a0.n, .gs (.own 100016) 1 (ksInt z1), iE k2.kind, sE k2.name, iE k2.n, lE 1 (ksInt k2.scopes), lE 5 (ksForm k2.kids), .gs (.own 100037) 11 (ksCore s4)])] rfl (by kernel_rfl) ?_
      cases h0
      exact .ret rfl rfl (by kernel_rfl) hK
def sp_l13Put : Nat → Core → Int → Core → Option (Core)
  | 0, _, _, _ => none
  | n + 1, a0, a1, a2 => Option.bind ((if a0.kind = 1 then some (decide (a0.id = a1)) else some false) : Option (Bool)) (fun (o1 : Bool) => (if o1 = true then (sp_l6Copy n a2).bind fun k3 => some k3 else (apB 8 [] a0.ids).bind fun z4 => (sp_l1Copy n a0.data).bind fun k5 => Option.bind (forL (fun (s7 : List Core) (i6 : Nat) (x9 : Core) => (sp_l13Put n x9 a1 a2).bind fun k15 => (apB 168 s7 [k15]).bind fun z16 => some z16) 0 a0.kids []) (fun (s7 : List Core) => some (⟨a0.kind, a0.id, a0.name, a0.n, z4, k5, s7⟩ : Core))))
theorem w_sp_l13Put (n : Nat) : ∀ (a0 : Core) (a1 : Int) (a2 : Core) {r : Core}, sp_l13Put n a0 a1 a2 = some r → SCall X.E 28 [aE (kCore a0), iE a1, aE (kCore a2)] [] (aE (kCore r)) [] := by
  induction n with
  | zero => intro a0 a1 a2 r h; cases h
  | succ n ih =>
    intro a0 a1 a2 r h0
    rw [sp_l13Put] at h0
    refine .m Tryd.func28 rfl rfl rfl (by kernel_rfl) (fun L ks low K hl hL hlen hK => ?_)
    refine .rf [] T [(3, pw 3), (5, pw 5), (6, pw 6)] [.o 3 (.cells ((kCore a0).map .d)), .o 5 (.cells ((kCore a2).map .d)), .o 6 (.cells [iE 0, iE 0, sE [], iE 0, fE 1 (ksInt []), iE 0, sE [], iE 0, fE 1 (ksInt []), fE 5 (ksForm []), fE 11 (ksCore [])])] rfl (by kernel_rfl) ?_
    refine .bP h0 rfl [1, 3, 5, 6] (fun o1 => [(17, bE o1)]) n1 n1 (fun o1 h0 => ?_) (fun y1 h1 hj1 => ?_)
    · refine .cT h0 rfl (by kernel_rfl) (fun hc2 h0 => ?_) (fun hc2 h0 => ?_)
      · obtain ⟨k3, hk3, h0⟩ := bnd h0
        refine .rf [.call [] (aE (kCore k3)) []] (A (w_sp_l6Copy n _ hk3) T) [] [.o 6 (.cells ((kCore k3).map .d))] rfl (by kernel_rfl) ?_
        cases h0
        exact .ret rfl rfl (by kernel_rfl) hK
      · obtain ⟨z4, hz4, h0⟩ := bnd h0
        obtain ⟨k5, hk5, h0⟩ := bnd h0
        refine .rd mixed [(8, [.sv (ksInt [])]), (11, [.sv (ksInt z4)]), (14, [.call [] (aE (kForm k5)) []])] [] (A (dInt.lit []) (A (dInt.ap hz4) (A (w_sp_l1Copy n _ hk5) T))) [(7, pw 7)] [.o 100031 (.tok (ksInt z4).length 3), .o 7 (.cells [iE a0.kind, iE a0.id, sE a0.name, iE a0.n, .gs (.own 100031) 1 (ksInt z4), iE k5.kind, sE k5.name, iE k5.n, lE 1 (ksInt k5.scopes), lE 5 (ksForm k5.kids), fE 11 (ksCore [])])] [] rfl (by kernel_rfl) ?_
        refine .r [] T [(8, iE 0)] rfl (by kernel_rfl) ?_
        refine .oc 7 10 100054 29 (by kernel_rfl) ?_
        refine .lL h0 rfl [1, 3, 5, 6, 7] (fun i6 s7 => [(8, iE (i6 : Int))]) (fun i6 s7 => [.c 7 10 (.gs (.own 100054) 11 (ksCore s7)), .o 100054 (.tok (ksCore s7).length 29)]) n2 [] (by kernel_rfl) (fun i6 s7 q8 hd10 hi12 h0 => ?_)
        refine .r [.v (a0.kids.length : Int)] (A (dCore.len' a0.kids) T) [(38, lE 11 (ksCore a0.kids)), (40, dE ((i6 : Int) < (a0.kids.length : Int)))] rfl (by kernel_rfl) ?_
        refine .sn 38 dCore a0.kids (by kernel_rfl) (fun hb13 => ?_)
        refine .lc hd10 rfl (by kernel_rfl) (fun x9 q82 hc14 hx9 hd11 hd11l => ?_) (fun hc14 => ?_)
        · subst hc14
          obtain ⟨y1, h1, hn1⟩ := forL_cons h0
          obtain ⟨k15, hk15, h1⟩ := bnd h1
          obtain ⟨z16, hz16, h1⟩ := bnd h1
          refine .rd mixed [(5, [.cs (kCore x9)]), (9, [.call [] (aE (kCore k15)) []]), (10, [.sv (ksCore [k15])]), (11, [.sv (ksCore z16)])] [((ksCore s7).length : Int)] (A (dCore.idn hx9) (A (ih _ _ _ hk15) (A (dCore.lit [k15]) (A (dCore.ap hz16) T)))) [] [.c 7 10 (.gs (.own 100054) 11 (ksCore z16)), .o 100054 (.tok (ksCore z16).length 29)] [] rfl (by kernel_rfl) ?_
          refine .r [.v ((i6 + 1 : Nat) : Int)] (A (wn (i := i6) (by omega)) T) [(8, iE ((i6 + 1 : Nat) : Int))] rfl (by kernel_rfl) ?_
          cases h1
          exact .nL rfl (i6 + 1) _ hd11 hd11l hn1 [] (by kernel_rfl)
        · subst hc14
          have h0 := forL_nil h0
          refine .rf [] T [] [.o 6 (.cells [iE a0.kind, iE a0.id, sE a0.name, iE a0.n, .gs (.own 100031) 1 (ksInt z4), iE k5.kind, sE k5.name, iE k5.n, lE 1 (ksInt k5.scopes), lE 5 (ksForm k5.kids), .gs (.own 100054) 11 (ksCore s7)])] rfl (by kernel_rfl) ?_
          cases h0
          exact .ret rfl rfl (by kernel_rfl) hK
    · by_cases g17 : a0.kind = 1
      · have h1 := iteP g17 h1
        refine .r [.b true, .b true, .b true, .b true, .b true] (A (decide_eq_true g17 : decide (a0.kind = 1) = true) (A (decide_eq_true g17 : decide (a0.kind = 1) = true) (A (decide_eq_true g17 : decide (a0.kind = 1) = true) (A (decide_eq_true g17 : decide (a0.kind = 1) = true) (A (decide_eq_true g17 : decide (a0.kind = 1) = true) T))))) [(17, dE (a0.id = a1))] rfl (by kernel_rfl) ?_
        cases h1
        exact .lf hj1 rfl [] (by kernel_rfl)
      · have h1 := iteN g17 h1
        refine .r [.b false, .b false, .b false, .b false, .b false] (A (decide_eq_false g17 : decide (a0.kind = 1) = false) (A (decide_eq_false g17 : decide (a0.kind = 1) = false) (A (decide_eq_false g17 : decide (a0.kind = 1) = false) (A (decide_eq_false g17 : decide (a0.kind = 1) = false) (A (decide_eq_false g17 : decide (a0.kind = 1) = false) T))))) [(17, bE false)] rfl (by kernel_rfl) ?_
        cases h1
        exact .lf hj1 rfl [] (by kernel_rfl)
def sp_DrawSubstituteVar (n : Nat) (a0 : List UInt8) : Option (Core × Int × Core) :=
  (sp_l15Open n a0).bind fun k1 => (sp_l15Rd_num n [3, 2] k1).bind fun k2 => (sp_l6Some n [1, 2] k2.1 2 k2.2).bind fun k3 => (sp_l15Rd_pick n 2 k3.2.2).bind fun k4 => Option.bind ((if k4.1 = 0 then (sp_l13Put n k3.1 2 (⟨1, 1, [], 0, [], (⟨0, [], 0, [], []⟩ : Form), []⟩ : Core)).bind fun k9 => some k9 else some k3.1) : Option (Core)) (fun (o5 : Core) => (sp_l15Rd_num n [1, 1, 2, 4] k4.2).bind fun k6 => (sp_DrawCoreAtom n a0).bind fun k7 => some (o5, k6.1, k7))
theorem w_sp_DrawSubstituteVar (n : Nat) : ∀ (a0 : List UInt8) {r : Core × Int × Core}, sp_DrawSubstituteVar n a0 = some r → SCall X.E 10 [lE 1 (ksByte a0)] [] (.tup [aE (kCore r.1), iE r.2.1, aE (kCore r.2.2)]) [] := by
  intro a0 r h0
  rw [sp_DrawSubstituteVar] at h0
  refine .m Tryd.func10 rfl rfl rfl (by kernel_rfl) (fun L ks low K hl hL hlen hK => ?_)
  refine .rf [] T [(2, pw 2), (4, pw 4)] [.o 2 (.cells [iE 0, iE 0, sE [], iE 0, fE 1 (ksInt []), iE 0, sE [], iE 0, fE 1 (ksInt []), fE 5 (ksForm []), fE 11 (ksCore [])]), .o 4 (.cells [iE 0, iE 0, sE [], iE 0, fE 1 (ksInt []), iE 0, sE [], iE 0, fE 1 (ksInt []), fE 5 (ksForm []), fE 11 (ksCore [])])] rfl (by kernel_rfl) ?_
  obtain ⟨k1, hk1, h0⟩ := bnd h0
  refine .rf [.call [.own 200009] (pl 0) [.cells ((kL15Rd k1).map .d)]] (A (w_sp_l15Open n _ hk1) T) [(5, pw 200009)] [.o 200009 (.cells ((kL15Rd k1).map .d))] rfl (by kernel_rfl) ?_
  obtain ⟨k2, hk2, h0⟩ := bnd h0
  obtain ⟨k3, hk3, h0⟩ := bnd h0
  refine .rf [.sv (ksInt [1, 2]), .sv (ksInt [3, 2]), .call [.own 200009] (iE k2.1) [.cells ((kL15Rd k2.2).map .d)], .call [.own 200009] (.tup [aE (kCore k3.1), iE k3.2.1]) [.cells ((kL15Rd k3.2.2).map .d)]] (A (dInt.lit [1, 2]) (A (dInt.lit [3, 2]) (A (w_sp_l15Rd_num n _ _ hk2) (A (w_sp_l6Some n _ _ _ _ hk3) T)))) [(6, pw 6)] [.o 200009 (.cells ((kL15Rd k3.2.2).map .d)), .o 6 (.cells ((kCore k3.1).map .d))] rfl (by kernel_rfl) ?_
  obtain ⟨k4, hk4, h0⟩ := bnd h0
  refine .rf [.call [.own 200009] (iE k4.1) [.cells ((kL15Rd k4.2).map .d)]] (A (w_sp_l15Rd_pick n _ _ hk4) T) [(21, dE (k4.1 = 0))] [.o 200009 (.cells ((kL15Rd k4.2).map .d))] rfl (by kernel_rfl) ?_
  refine .bP h0 rfl [0, 2, 4, 5, 6] (fun o5 => []) (fun o5 => [.o 6 (.cells ((kCore o5).map .d))]) n1 (fun o5 h0 => ?_) (fun y1 h1 hj1 => ?_)
  · obtain ⟨k6, hk6, h0⟩ := bnd h0
    obtain ⟨k7, hk7, h0⟩ := bnd h0
    refine .rd mixed [(2, [.sv (ksInt [1, 1, 2, 4])]), (3, [.call [.own 200009] (iE k6.1) [.cells ((kL15Rd k6.2).map .d)]]), (5, [.call [] (aE (kCore k7)) []])] [] (A (dInt.lit [1, 1, 2, 4]) (A (w_sp_l15Rd_num n _ _ hk6) (A (w_sp_DrawCoreAtom n _ hk7) T))) [(3, iE k6.1)] [.o 2 (.cells ((kCore o5).map .d)), .o 4 (.cells ((kCore k7).map .d)), .o 200009 (.cells ((kL15Rd k6.2).map .d))] [] rfl (by kernel_rfl) ?_
    cases h0
    exact .ret rfl rfl (by kernel_rfl) hK
  · refine .cP h1 rfl (by kernel_rfl) (fun hc8 h1 => ?_) (fun hc8 h1 => ?_)
    · obtain ⟨k9, hk9, h1⟩ := bnd h1
      refine .rf [.call [] (aE (kCore k9)) []] (A (w_sp_l13Put n _ _ _ hk9) T) [] [.o 6 (.cells ((kCore k9).map .d))] rfl (by kernel_rfl) ?_
      cases h1
      exact .lf hj1 rfl [] (by kernel_rfl)
    · cases h1
      exact .lf hj1 rfl [] (by kernel_rfl)
def sp_l1In (n : Nat) (a0 : List (List UInt8)) (a1 : List UInt8) : Option (Bool) :=
  seqS (forI (fun (s2 : Unit) (i1 : Nat) (x4 : List UInt8) => ((if x4 = a1 then some (Sum.inl true) else some (Sum.inr ())) : Option (Bool ⊕ Unit))) 0 a0 ()) (fun (s2 : Unit) => some false)
theorem w_sp_l1In (n : Nat) : ∀ (a0 : List (List UInt8)) (a1 : List UInt8) {r : Bool}, sp_l1In n a0 a1 = some r → SCall X.E 45 [lE 1 (ksStr a0), sE a1] [] (bE r) [] := by
  intro a0 a1 r h0
  rw [sp_l1In] at h0
  refine .m Tryd.func45 rfl rfl rfl (by kernel_rfl) (fun L ks low K hl hL hlen hK => ?_)
  refine .r [] T [] rfl (by kernel_rfl) ?_
  refine .r [] T [(5, iE 0)] rfl (by kernel_rfl) ?_
  refine .lI h0 rfl [0, 1] (fun i1 s2 => [(5, iE (i1 : Int))]) n2 n2 [] (by kernel_rfl) (fun i1 s2 q3 hd5 hi7 h0 => ?_)
  refine .r [.v (a0.length : Int)] (A (dStr.len' a0) T) [(9, dE ((i1 : Int) < (a0.length : Int)))] rfl (by kernel_rfl) ?_
  refine .sn 0 dStr a0 (by kernel_rfl) (fun hb8 => ?_)
  refine .lc hd5 rfl (by kernel_rfl) (fun x4 q32 hc9 hx4 hd6 hd6l => ?_) (fun hc9 => ?_)
  · subst hc9
    obtain ⟨y1, h1, hw1, hn1⟩ := forI_cons h0
    refine .r [.cs [.s x4]] (A (dStr.idn hx4) T) [(17, dE (x4 = a1))] rfl (by kernel_rfl) ?_
    refine .cP h1 rfl (by kernel_rfl) (fun hc10 h1 => ?_) (fun hc10 h1 => ?_)
    · refine .r [] T [(4, bE true)] rfl (by kernel_rfl) ?_
      cases h1
      cases hw1 _ rfl
      exact .ret rfl rfl (by kernel_rfl) hK
    · refine .r [.v ((i1 + 1 : Nat) : Int)] (A (wn (i := i1) (by omega)) T) [(5, iE ((i1 + 1 : Nat) : Int))] rfl (by kernel_rfl) ?_
      cases h1
      exact .nL rfl (i1 + 1) _ hd6 hd6l (hn1 _ rfl) [] (by kernel_rfl)
  · subst hc9
    have h0 := forI_nil h0
    refine .r [] T [(4, bE false)] rfl (by kernel_rfl) ?_
    cases h0
    exact .ret rfl rfl (by kernel_rfl) hK
def sp_l8Prims (n : Nat)  : Option (List (List UInt8)) :=
  some [[43], [60], [61], [108, 105, 115, 116], [104, 101, 97, 100], [116, 97, 105, 108]]
theorem w_sp_l8Prims (n : Nat) : ∀ {r : List (List UInt8)}, sp_l8Prims n  = some r → SCall X.E 46 [] [] (lE 1 (ksStr r)) [] := by
  intro r h0
  rw [sp_l8Prims] at h0
  refine .m Tryd.func46 rfl rfl rfl (by kernel_rfl) (fun L ks low K hl hL hlen hK => ?_)
  refine .r [] T [] rfl (by kernel_rfl) ?_
  refine .r [.sv (ksStr [[43], [60], [61], [108, 105, 115, 116], [104, 101, 97, 100], [116, 97, 105, 108]])] (A (dStr.lit [[43], [60], [61], [108, 105, 115, 116], [104, 101, 97, 100], [116, 97, 105, 108]]) T) [(0, fE 1 (ksStr [[43], [60], [61], [108, 105, 115, 116], [104, 101, 97, 100], [116, 97, 105, 108]]))] rfl (by kernel_rfl) ?_
  cases h0
  exact .ret rfl rfl (by kernel_rfl) hK
def sp_l13Atom (n : Nat) (a0 : Core) : Option (Bool) :=
  Option.bind ((if a0.kind = 1 then some true else (if a0.kind = 3 then some true else (if a0.kind = 4 then some true else (if a0.kind = 2 then (sp_l8Prims n).bind fun k6 => (sp_l1In n k6 a0.name).bind fun k7 => some k7 else some false)))) : Option (Bool)) (fun (o1 : Bool) => some o1)
theorem w_sp_l13Atom (n : Nat) : ∀ (a0 : Core) {r : Bool}, sp_l13Atom n a0 = some r → SCall X.E 21 [aE (kCore a0)] [] (bE r) [] := by
  intro a0 r h0
  rw [sp_l13Atom] at h0
  refine .m Tryd.func21 rfl rfl rfl (by kernel_rfl) (fun L ks low K hl hL hlen hK => ?_)
  refine .rf [] T [(1, pw 1)] [.o 1 (.cells ((kCore a0).map .d))] rfl (by kernel_rfl) ?_
  refine .bP h0 rfl [] (fun o1 => [(2, bE o1)]) n1 n1 (fun o1 h0 => ?_) (fun y1 h1 hj1 => ?_)
  · cases h0
    exact .ret rfl rfl (by kernel_rfl) hK
  · by_cases g2 : a0.kind = 1
    · have h1 := iteP g2 h1
      refine .rd mixed [(4, [.b true]), (5, [.b true]), (6, [.b true]), (7, [.b true]), (9, [.b true]), (10, [.b true]), (11, [.b true]), (12, [.b true]), (14, [.b true]), (15, [.b true]), (16, [.b true]), (17, [.b true]), (22, [.b true]), (23, [.b true])] [] (A (decide_eq_true g2 : decide (a0.kind = 1) = true) (A (decide_eq_true g2 : decide (a0.kind = 1) = true) (A (decide_eq_true g2 : decide (a0.kind = 1) = true) (A (decide_eq_true g2 : decide (a0.kind = 1) = true) (A (rfl : true = true) (A (rfl : true = true) (A (rfl : true = true) (A (rfl : true = true) (A (rfl : true = true) (A (rfl : true = true) (A (rfl : true = true) (A (rfl : true = true) (A (rfl : true = true) (A (rfl : true = true) T)))))))))))))) [(2, bE true)] [] [] rfl (by kernel_rfl) ?_
      cases h1
      exact .lf hj1 rfl [] (by kernel_rfl)
    · have h1 := iteN g2 h1
      by_cases g3 : a0.kind = 3
      · have h1 := iteP g3 h1
        refine .rd mixed [(4, [.b false]), (5, [.b false]), (6, [.b false]), (7, [.b false]), (9, [.b true]), (10, [.b true]), (11, [.b true]), (12, [.b true]), (14, [.b true]), (15, [.b true]), (16, [.b true]), (17, [.b true]), (22, [.b true]), (23, [.b true])] [] (A (decide_eq_false g2 : decide (a0.kind = 1) = false) (A (decide_eq_false g2 : decide (a0.kind = 1) = false) (A (decide_eq_false g2 : decide (a0.kind = 1) = false) (A (decide_eq_false g2 : decide (a0.kind = 1) = false) (A (decide_eq_true g3 : decide (a0.kind = 3) = true) (A (decide_eq_true g3 : decide (a0.kind = 3) = true) (A (decide_eq_true g3 : decide (a0.kind = 3) = true) (A (decide_eq_true g3 : decide (a0.kind = 3) = true) (A (rfl : true = true) (A (rfl : true = true) (A (rfl : true = true) (A (rfl : true = true) (A (rfl : true = true) (A (rfl : true = true) T)))))))))))))) [(2, bE true)] [] [] rfl (by kernel_rfl) ?_
        cases h1
        exact .lf hj1 rfl [] (by kernel_rfl)
      · have h1 := iteN g3 h1
        by_cases g4 : a0.kind = 4
        · have h1 := iteP g4 h1
          refine .rd mixed [(4, [.b false]), (5, [.b false]), (6, [.b false]), (7, [.b false]), (9, [.b false]), (10, [.b false]), (11, [.b false]), (12, [.b false]), (14, [.b true]), (15, [.b true]), (16, [.b true]), (17, [.b true]), (22, [.b true]), (23, [.b true])] [] (A (decide_eq_false g2 : decide (a0.kind = 1) = false) (A (decide_eq_false g2 : decide (a0.kind = 1) = false) (A (decide_eq_false g2 : decide (a0.kind = 1) = false) (A (decide_eq_false g2 : decide (a0.kind = 1) = false) (A (decide_eq_false g3 : decide (a0.kind = 3) = false) (A (decide_eq_false g3 : decide (a0.kind = 3) = false) (A (decide_eq_false g3 : decide (a0.kind = 3) = false) (A (decide_eq_false g3 : decide (a0.kind = 3) = false) (A (decide_eq_true g4 : decide (a0.kind = 4) = true) (A (decide_eq_true g4 : decide (a0.kind = 4) = true) (A (decide_eq_true g4 : decide (a0.kind = 4) = true) (A (decide_eq_true g4 : decide (a0.kind = 4) = true) (A (decide_eq_true g4 : decide (a0.kind = 4) = true) (A (decide_eq_true g4 : decide (a0.kind = 4) = true) T)))))))))))))) [(2, bE true)] [] [] rfl (by kernel_rfl) ?_
          cases h1
          exact .lf hj1 rfl [] (by kernel_rfl)
        · have h1 := iteN g4 h1
          by_cases g5 : a0.kind = 2
          · have h1 := iteP g5 h1
            obtain ⟨k6, hk6, h1⟩ := bnd h1
            obtain ⟨k7, hk7, h1⟩ := bnd h1
            refine .rd mixed [(4, [.b false]), (5, [.b false]), (6, [.b false]), (7, [.b false]), (9, [.b false]), (10, [.b false]), (11, [.b false]), (12, [.b false]), (14, [.b false]), (15, [.b false]), (16, [.b false]), (17, [.b false]), (18, [.b true, .call [] (lE 1 (ksStr k6)) []]), (19, [.b true]), (20, [.b true]), (21, [.b true, .call [] (bE k7) []]), (22, [.b false, .b true]), (23, [.b false])] [] (A (decide_eq_false g2 : decide (a0.kind = 1) = false) (A (decide_eq_false g2 : decide (a0.kind = 1) = false) (A (decide_eq_false g2 : decide (a0.kind = 1) = false) (A (decide_eq_false g2 : decide (a0.kind = 1) = false) (A (decide_eq_false g3 : decide (a0.kind = 3) = false) (A (decide_eq_false g3 : decide (a0.kind = 3) = false) (A (decide_eq_false g3 : decide (a0.kind = 3) = false) (A (decide_eq_false g3 : decide (a0.kind = 3) = false) (A (decide_eq_false g4 : decide (a0.kind = 4) = false) (A (decide_eq_false g4 : decide (a0.kind = 4) = false) (A (decide_eq_false g4 : decide (a0.kind = 4) = false) (A (decide_eq_false g4 : decide (a0.kind = 4) = false) (A (A (decide_eq_true g5 : decide (a0.kind = 2) = true) (w_sp_l8Prims n  hk6)) (A (decide_eq_true g5 : decide (a0.kind = 2) = true) (A (decide_eq_true g5 : decide (a0.kind = 2) = true) (A (A (decide_eq_true g5 : decide (a0.kind = 2) = true) (w_sp_l1In n _ _ hk7)) (A (A (decide_eq_false g4 : decide (a0.kind = 4) = false) (decide_eq_true g5 : decide (a0.kind = 2) = true)) (A (decide_eq_false g4 : decide (a0.kind = 4) = false) T)))))))))))))))))) [(2, bE k7)] [] [] rfl (by kernel_rfl) ?_
            cases h1
            exact .lf hj1 rfl [] (by kernel_rfl)
          · have h1 := iteN g5 h1
            refine .rd mixed [(4, [.b false]), (5, [.b false]), (6, [.b false]), (7, [.b false]), (9, [.b false]), (10, [.b false]), (11, [.b false]), (12, [.b false]), (14, [.b false]), (15, [.b false]), (16, [.b false]), (17, [.b false]), (18, [.b false]), (19, [.b false]), (20, [.b false]), (21, [.b false]), (22, [.b false, .b false]), (23, [.b false])] [] (A (decide_eq_false g2 : decide (a0.kind = 1) = false) (A (decide_eq_false g2 : decide (a0.kind = 1) = false) (A (decide_eq_false g2 : decide (a0.kind = 1) = false) (A (decide_eq_false g2 : decide (a0.kind = 1) = false) (A (decide_eq_false g3 : decide (a0.kind = 3) = false) (A (decide_eq_false g3 : decide (a0.kind = 3) = false) (A (decide_eq_false g3 : decide (a0.kind = 3) = false) (A (decide_eq_false g3 : decide (a0.kind = 3) = false) (A (decide_eq_false g4 : decide (a0.kind = 4) = false) (A (decide_eq_false g4 : decide (a0.kind = 4) = false) (A (decide_eq_false g4 : decide (a0.kind = 4) = false) (A (decide_eq_false g4 : decide (a0.kind = 4) = false) (A (decide_eq_false g5 : decide (a0.kind = 2) = false) (A (decide_eq_false g5 : decide (a0.kind = 2) = false) (A (decide_eq_false g5 : decide (a0.kind = 2) = false) (A (decide_eq_false g5 : decide (a0.kind = 2) = false) (A (A (decide_eq_false g4 : decide (a0.kind = 4) = false) (decide_eq_false g5 : decide (a0.kind = 2) = false)) (A (decide_eq_false g4 : decide (a0.kind = 4) = false) T)))))))))))))))))) [(2, bE false)] [] [] rfl (by kernel_rfl) ?_
            cases h1
            exact .lf hj1 rfl [] (by kernel_rfl)
def sp_CoreAtom (n : Nat) (a0 : Core) : Option (Bool) :=
  Option.bind ((if (a0.kids.length : Int) = 0 then (sp_l13Atom n a0).bind fun k3 => some k3 else some false) : Option (Bool)) (fun (o1 : Bool) => some o1)
theorem w_sp_CoreAtom (n : Nat) : ∀ (a0 : Core) {r : Bool}, sp_CoreAtom n a0 = some r → SCall X.E 8 [aE (kCore a0)] [] (bE r) [] := by
  intro a0 r h0
  rw [sp_CoreAtom] at h0
  refine .m Tryd.func8 rfl rfl rfl (by kernel_rfl) (fun L ks low K hl hL hlen hK => ?_)
  refine .rf [] T [(1, pw 1)] [.o 1 (.cells ((kCore a0).map .d))] rfl (by kernel_rfl) ?_
  refine .bP h0 rfl [] (fun o1 => [(2, bE o1)]) n1 n1 (fun o1 h0 => ?_) (fun y1 h1 hj1 => ?_)
  · cases h0
    exact .ret rfl rfl (by kernel_rfl) hK
  · by_cases g2 : (a0.kids.length : Int) = 0
    · have h1 := iteP g2 h1
      obtain ⟨k3, hk3, h1⟩ := bnd h1
      refine .r [.v (a0.kids.length : Int), .b true, .b true, .call [] (bE k3) [], .b true] (A (dCore.len' a0.kids) (A (decide_eq_true g2 : decide ((a0.kids.length : Int) = 0) = true) (A (A (decide_eq_true g2 : decide ((a0.kids.length : Int) = 0) = true) (w_sp_l13Atom n _ hk3)) (A (decide_eq_true g2 : decide ((a0.kids.length : Int) = 0) = true) T)))) [(2, bE k3)] rfl (by kernel_rfl) ?_
      cases h1
      exact .lf hj1 rfl [] (by kernel_rfl)
    · have h1 := iteN g2 h1
      refine .r [.v (a0.kids.length : Int), .b false, .b false, .b false] (A (dCore.len' a0.kids) (A (decide_eq_false g2 : decide ((a0.kids.length : Int) = 0) = false) (A (decide_eq_false g2 : decide ((a0.kids.length : Int) = 0) = false) (A (decide_eq_false g2 : decide ((a0.kids.length : Int) = 0) = false) T)))) [(2, bE false)] rfl (by kernel_rfl) ?_
      cases h1
      exact .lf hj1 rfl [] (by kernel_rfl)
def sp_l6Count : Nat → Core → Option (Int)
  | 0, _ => none
  | n + 1, a0 => Option.bind (forL (fun (s2 : Int) (i1 : Nat) (x4 : Core) => (sp_l6Count n x4).bind fun k10 => some (w64 (s2 + k10))) 0 a0.kids 1) (fun (s2 : Int) => some s2)
theorem w_sp_l6Count (n : Nat) : ∀ (a0 : Core) {r : Int}, sp_l6Count n a0 = some r → SCall X.E 61 [aE (kCore a0)] [] (iE r) [] := by
  induction n with
  | zero => intro a0 r h; cases h
  | succ n ih =>
    intro a0 r h0
    rw [sp_l6Count] at h0
    refine .m Tryd.func61 rfl rfl rfl (by kernel_rfl) (fun L ks low K hl hL hlen hK => ?_)
    refine .rf [] T [(1, pw 1)] [.o 1 (.cells ((kCore a0).map .d))] rfl (by kernel_rfl) ?_
    refine .r [] T [(3, iE 1)] rfl (by kernel_rfl) ?_
    refine .r [] T [(4, iE 0)] rfl (by kernel_rfl) ?_
    refine .lL h0 rfl [1] (fun i1 s2 => [(3, iE s2), (4, iE (i1 : Int))]) n2 n2 [] (by kernel_rfl) (fun i1 s2 q3 hd5 hi7 h0 => ?_)
    refine .r [.v (a0.kids.length : Int)] (A (dCore.len' a0.kids) T) [(7, lE 11 (ksCore a0.kids)), (9, dE ((i1 : Int) < (a0.kids.length : Int)))] rfl (by kernel_rfl) ?_
    refine .sn 7 dCore a0.kids (by kernel_rfl) (fun hb8 => ?_)
    refine .lc hd5 rfl (by kernel_rfl) (fun x4 q32 hc9 hx4 hd6 hd6l => ?_) (fun hc9 => ?_)
    · subst hc9
      obtain ⟨y1, h1, hn1⟩ := forL_cons h0
      obtain ⟨k10, hk10, h1⟩ := bnd h1
      refine .r [.cs (kCore x4), .call [] (iE k10) [], .pl] (A (dCore.idn hx4) (A (ih _ hk10) T)) [(3, iE (w64 (s2 + k10)))] rfl (by kernel_rfl) ?_
      refine .r [.v ((i1 + 1 : Nat) : Int)] (A (wn (i := i1) (by omega)) T) [(4, iE ((i1 + 1 : Nat) : Int))] rfl (by kernel_rfl) ?_
      cases h1
      exact .nL rfl (i1 + 1) _ hd6 hd6l hn1 [] (by kernel_rfl)
    · subst hc9
      have h0 := forL_nil h0
      refine .r [] T [(2, iE s2)] rfl (by kernel_rfl) ?_
      cases h0
      exact .ret rfl rfl (by kernel_rfl) hK
end Go.Ev
