/- Models of the functions that FnNeededMacros reaches. No condition. -/
import Derived.Test.YtbifcdaablhljaaDoorEvTri
import Derived.Test.YtbifcdaablhljaaDoorProg
import Derived.KernelRfl
namespace Go.Ev
open Go.Proofs Go.Mx
set_option linter.unusedVariables false
set_option maxRecDepth 10000
def tT : List (Nat × (Nat × Nat × Shp)) := [(3, (1, 8, .int .i64)), (5, (1, 1, .int .u8)), (9, (1, 16, .str)), (25, (1, 24, .slice 9)), (30, (1, 24, .slice 3)), (39, (1, 24, .slice 41)), (41, (5, 80, .struct [(0, 1), (1, 1), (2, 1), (3, 1), (4, 1)])), (59, (1, 24, .slice 5)), (64, (7, 112, .array 7 9)), (94, (2, 32, .struct [(0, 1), (1, 1)]))]
def tZ : List (Nat × List KD) := [(3, [.v (.int .i64 0)]), (9, [.s []]), (25, [.sl 1 true (ksStr [])]), (41, [.v (.int .i64 0), .s [], .v (.int .i64 0), .sl 1 true (ksInt []), .sl 5 true (ksForm [])]), (94, [.sl 1 true (ksByte []), .v (.int .i64 0)])]
theorem tT_ok : allT (fun i x => tShape Tryd.prog i = some x) tT := by
  refine ⟨?_, ?_, ?_, ?_, ?_, ?_, ?_, ?_, ?_, ?_, trivial⟩ <;> (show tShape _ _ = _; kernel_rfl)
theorem tZ_ok : allT (fun i x => ∃ zs, tZero Tryd.prog i = some zs ∧ ZeroL (KD.DL x) zs) tZ :=
  ⟨⟨_, (by kernel_rfl : tZero Tryd.prog 3 = some [.int .i64 0]), (.v .nil)⟩, ⟨_, (by kernel_rfl : tZero Tryd.prog 9 = some [.string (mkS [])]), (.v .nil)⟩, ⟨_, (by kernel_rfl : tZero Tryd.prog 25 = some [.slice none 0 0]), (.sl .nil)⟩, ⟨_, (by kernel_rfl : tZero Tryd.prog 41 = some [.int .i64 0, .string (mkS []), .int .i64 0, .slice none 0 0, .slice none 0 0]), (.v (.v (.v (.sl (.sl .nil)))))⟩, ⟨_, (by kernel_rfl : tZero Tryd.prog 94 = some [.slice none 0 0, .int .i64 0]), (.sl (.v .nil))⟩, trivial⟩
def lp0 : List (List UInt8) := [[97, 110, 100], [111, 114], [110, 111, 116], [119, 104, 101, 110], [99, 111, 110, 100], [108, 101, 116, 42], [115, 119, 97, 112]]
def gp0 : List KD := [.s [97, 110, 100], .s [111, 114], .s [110, 111, 116], .s [119, 104, 101, 110], .s [99, 111, 110, 100], .s [108, 101, 116, 42], .s [115, 119, 97, 112]]
def globK : Nat → KD
  | 0 => .ro gp0
  | _ => .any
noncomputable def E0 : Setting := ⟨Tryd.prog, fun g => (globK g).D, fun g => KD.keyless _ _⟩
noncomputable def X : Ctx := ⟨E0, globK, fun _ => rfl, ⟨lkT tT, lkT tZ, lk_all tT_ok, lk_all tZ_ok⟩⟩
theorem mixed : X.E.P.follows .mixedOrders = true := by kernel_rfl
def qand12377ad : List UInt8 := [40, 97, 110, 100, 32, 49, 32, 50, 32, 51, 41]
def qcond215165ee : List UInt8 := [40, 99, 111, 110, 100, 32, 40, 40, 60, 32, 50, 32, 49, 41, 32, 53, 41, 32, 40, 40, 61, 32, 49, 32, 49, 41, 32, 54, 41, 32, 40, 101, 108, 115, 101, 32, 55, 41, 41]
def qlambdaxl5d0d : List UInt8 := [40, 108, 97, 109, 98, 100, 97, 32, 40, 120, 41, 32, 40, 108, 97, 109, 98, 100, 97, 32, 40, 120, 32, 121, 41, 32, 40, 120, 32, 121, 32, 40, 113, 117, 111, 116, 101, 32, 40, 120, 32, 49, 41, 41, 41, 41, 41]
def qletelse0177b : List UInt8 := [40, 108, 101, 116, 32, 40, 40, 101, 108, 115, 101, 32, 48, 41, 41, 32, 40, 99, 111, 110, 100, 32, 40, 101, 108, 115, 101, 32, 53, 41, 41, 41]
def qletiflis93a4 : List UInt8 := [40, 108, 101, 116, 32, 40, 40, 105, 102, 32, 108, 105, 115, 116, 41, 41, 32, 40, 108, 101, 116, 45, 115, 121, 110, 116, 97, 120, 32, 40, 40, 109, 32, 40, 114, 117, 108, 101, 115, 32, 40, 41, 32, 40, 40, 95, 32, 97, 41, 32, 40, 105, 102, 32, 97, 32, 49, 32, 50, 41, 41, 41, 41, 41, 32, 40, 109, 32, 53, 41, 41, 41]
def qletnotlifa37 : List UInt8 := [40, 108, 101, 116, 32, 40, 40, 110, 111, 116, 32, 108, 105, 115, 116, 41, 41, 32, 40, 110, 111, 116, 32, 49, 32, 50, 41, 41]
def qletsynta0fb6 : List UInt8 := [40, 108, 101, 116, 45, 115, 121, 110, 116, 97, 120, 32, 40, 40, 100, 101, 102, 32, 40, 114, 117, 108, 101, 115, 32, 40, 41, 32, 40, 40, 95, 32, 110, 32, 101, 32, 98, 41, 32, 40, 108, 101, 116, 32, 40, 40, 110, 32, 101, 41, 41, 32, 98, 41, 41, 41, 41, 41, 32, 40, 100, 101, 102, 32, 122, 32, 51, 32, 40, 43, 32, 122, 32, 122, 41, 41, 41]
def qletsynta299d : List UInt8 := [40, 108, 101, 116, 45, 115, 121, 110, 116, 97, 120, 32, 40, 40, 107, 32, 40, 114, 117, 108, 101, 115, 32, 40, 101, 108, 115, 101, 41, 32, 40, 40, 95, 32, 101, 108, 115, 101, 32, 97, 41, 32, 97, 41, 32, 40, 40, 95, 32, 98, 32, 97, 41, 32, 40, 108, 105, 115, 116, 32, 98, 32, 97, 41, 41, 41, 41, 41, 32, 40, 107, 32, 101, 108, 115, 101, 32, 52, 41, 41]
def qletsynta3586 : List UInt8 := [40, 108, 101, 116, 45, 115, 121, 110, 116, 97, 120, 32, 40, 40, 109, 32, 40, 114, 117, 108, 101, 115, 32, 40, 41, 32, 40, 40, 95, 32, 97, 41, 32, 40, 105, 102, 32, 97, 32, 49, 32, 50, 41, 41, 41, 41, 41, 32, 40, 108, 101, 116, 32, 40, 40, 105, 102, 32, 108, 105, 115, 116, 41, 41, 32, 40, 109, 32, 105, 102, 41, 41, 41]
def qletsynta4596 : List UInt8 := [40, 108, 101, 116, 45, 115, 121, 110, 116, 97, 120, 32, 40, 40, 107, 32, 40, 114, 117, 108, 101, 115, 32, 40, 101, 108, 115, 101, 41, 32, 40, 40, 95, 32, 101, 108, 115, 101, 32, 97, 41, 32, 97, 41, 32, 40, 40, 95, 32, 98, 32, 97, 41, 32, 40, 108, 105, 115, 116, 32, 98, 32, 97, 41, 41, 41, 41, 41, 32, 40, 108, 101, 116, 32, 40, 40, 101, 108, 115, 101, 32, 51, 41, 41, 32, 40, 107, 32, 101, 108, 115, 101, 32, 52, 41, 41, 41]
def qletsynta5388 : List UInt8 := [108, 101, 116, 45, 115, 121, 110, 116, 97, 120]
def qletsynta6432 : List UInt8 := [40, 108, 101, 116, 45, 115, 121, 110, 116, 97, 120, 32, 40, 40, 111, 114, 32, 40, 114, 117, 108, 101, 115, 32, 40, 41, 32, 40, 40, 95, 41, 32, 48, 41, 32, 40, 40, 95, 32, 97, 41, 32, 97, 41, 32, 40, 40, 95, 32, 97, 32, 98, 32, 46, 46, 46, 41, 32, 40, 108, 101, 116, 32, 40, 40, 116, 32, 97, 41, 41, 32, 40, 105, 102, 32, 116, 32, 116, 32, 40, 111, 114, 32, 98, 32, 46, 46, 46, 41, 41, 41, 41, 41, 41, 41, 32, 40, 108, 101, 116, 32, 40, 40, 116, 32, 53, 41, 41, 32, 40, 111, 114, 32, 48, 32, 116, 32, 55, 41, 41, 41]
def qletsynta7279 : List UInt8 := [40, 108, 101, 116, 45, 115, 121, 110, 116, 97, 120, 32, 40, 40, 109, 121, 32, 40, 114, 117, 108, 101, 115, 32, 40, 41, 32, 40, 40, 95, 32, 102, 41, 32, 40, 108, 97, 109, 98, 100, 97, 32, 40, 120, 41, 32, 40, 102, 32, 120, 41, 41, 41, 41, 41, 41, 32, 40, 108, 101, 116, 32, 40, 40, 120, 32, 51, 41, 41, 32, 40, 40, 109, 121, 32, 40, 108, 97, 109, 98, 100, 97, 32, 40, 121, 41, 32, 40, 43, 32, 120, 32, 121, 41, 41, 41, 32, 52, 41, 41, 41]
def qletsynta9c06 : List UInt8 := [40, 108, 101, 116, 45, 115, 121, 110, 116, 97, 120, 32, 40, 40, 108, 111, 111, 112, 32, 40, 114, 117, 108, 101, 115, 32, 40, 41, 32, 40, 40, 95, 41, 32, 40, 108, 111, 111, 112, 41, 41, 41, 41, 41, 32, 40, 108, 111, 111, 112, 41, 41]
def qletsyntaba1c : List UInt8 := [40, 108, 101, 116, 45, 115, 121, 110, 116, 97, 120, 32, 40, 40, 119, 105, 116, 104, 32, 40, 114, 117, 108, 101, 115, 32, 40, 41, 32, 40, 40, 95, 32, 40, 40, 120, 32, 118, 41, 32, 46, 46, 46, 41, 32, 98, 111, 100, 121, 41, 32, 40, 40, 108, 97, 109, 98, 100, 97, 32, 40, 120, 32, 46, 46, 46, 41, 32, 98, 111, 100, 121, 41, 32, 118, 32, 46, 46, 46, 41, 41, 41, 41, 41, 32, 40, 119, 105, 116, 104, 32, 40, 40, 112, 32, 49, 41, 32, 40, 113, 32, 50, 41, 41, 32, 40, 43, 32, 112, 32, 113, 41, 41, 41]
def qletsyntac7f1 : List UInt8 := [40, 108, 101, 116, 45, 115, 121, 110, 116, 97, 120, 32, 40, 40, 116, 119, 111, 32, 40, 114, 117, 108, 101, 115, 32, 40, 41, 32, 40, 40, 95, 32, 110, 41, 32, 40, 108, 97, 109, 98, 100, 97, 32, 40, 110, 32, 120, 41, 32, 40, 43, 32, 110, 32, 120, 41, 41, 41, 41, 41, 41, 32, 40, 116, 119, 111, 32, 120, 41, 41]
def qletsyntae5c9 : List UInt8 := [40, 108, 101, 116, 45, 115, 121, 110, 116, 97, 120, 32, 40, 40, 97, 32, 40, 114, 117, 108, 101, 115, 32, 40, 41, 32, 40, 40, 95, 32, 120, 41, 32, 40, 98, 32, 120, 41, 41, 41, 41, 32, 40, 98, 32, 40, 114, 117, 108, 101, 115, 32, 40, 41, 32, 40, 40, 95, 32, 121, 41, 32, 40, 108, 105, 115, 116, 32, 121, 32, 121, 41, 41, 41, 41, 41, 32, 40, 97, 32, 55, 41, 41]
def qletsyntae69a : List UInt8 := [40, 108, 101, 116, 45, 115, 121, 110, 116, 97, 120, 32, 40, 40, 109, 32, 40, 114, 117, 108, 101, 115, 32, 40, 41, 32, 40, 40, 95, 32, 97, 41, 32, 49, 41, 41, 41, 41, 32, 40, 109, 41, 41]
def qlett7or0924b : List UInt8 := [40, 108, 101, 116, 32, 40, 40, 116, 32, 55, 41, 41, 32, 40, 111, 114, 32, 48, 32, 116, 41, 41]
def qlettmp1z1b94 : List UInt8 := [40, 108, 101, 116, 32, 40, 40, 116, 109, 112, 32, 49, 41, 32, 40, 122, 32, 50, 41, 41, 32, 40, 115, 119, 97, 112, 32, 116, 109, 112, 32, 122, 41, 41]
def qlettmp5ze0b0 : List UInt8 := [40, 108, 101, 116, 32, 40, 40, 116, 109, 112, 32, 53, 41, 32, 40, 122, 32, 54, 41, 41, 32, 40, 108, 101, 116, 45, 115, 121, 110, 116, 97, 120, 32, 40, 40, 115, 119, 97, 112, 32, 40, 114, 117, 108, 101, 115, 32, 40, 41, 32, 40, 40, 95, 32, 97, 32, 98, 41, 32, 40, 108, 101, 116, 32, 40, 40, 116, 109, 112, 32, 97, 41, 41, 32, 40, 108, 105, 115, 116, 32, 98, 32, 116, 109, 112, 41, 41, 41, 41, 41, 41, 32, 40, 115, 119, 97, 112, 32, 116, 109, 112, 32, 122, 41, 41, 41]
def qletx1y2la01a : List UInt8 := [40, 108, 101, 116, 32, 40, 40, 120, 32, 49, 41, 32, 40, 121, 32, 50, 41, 41, 32, 40, 108, 101, 116, 45, 115, 121, 110, 116, 97, 120, 32, 40, 40, 115, 119, 97, 112, 32, 40, 114, 117, 108, 101, 115, 32, 40, 41, 32, 40, 40, 95, 32, 97, 32, 98, 41, 32, 40, 108, 101, 116, 32, 40, 40, 116, 109, 112, 32, 97, 41, 41, 32, 40, 108, 105, 115, 116, 32, 98, 32, 116, 109, 112, 41, 41, 41, 41, 41, 41, 32, 40, 115, 119, 97, 112, 32, 120, 32, 121, 41, 41, 41]
def qletx1yx12e87 : List UInt8 := [40, 108, 101, 116, 42, 32, 40, 40, 120, 32, 49, 41, 32, 40, 121, 32, 40, 43, 32, 120, 32, 49, 41, 41, 41, 32, 40, 108, 105, 115, 116, 32, 120, 32, 121, 41, 41]
def qlistando50f9 : List UInt8 := [40, 108, 105, 115, 116, 32, 40, 97, 110, 100, 41, 32, 40, 111, 114, 32, 48, 32, 48, 41, 32, 40, 110, 111, 116, 32, 51, 41, 32, 40, 99, 111, 110, 100, 41, 41]
def qrulesabl4b2b : List UInt8 := [40, 114, 117, 108, 101, 115, 32, 40, 41, 32, 40, 40, 95, 32, 97, 32, 98, 41, 32, 40, 108, 101, 116, 32, 40, 40, 116, 32, 97, 41, 41, 32, 40, 108, 105, 115, 116, 32, 98, 32, 116, 41, 41, 41, 32, 40, 40, 95, 32, 97, 41, 32, 40, 108, 101, 116, 32, 40, 40, 120, 32, 97, 41, 41, 32, 40, 108, 105, 115, 116, 32, 120, 32, 97, 41, 41, 41, 41]
def qtoolongaa406 : List UInt8 := [116, 111, 111, 108, 111, 110, 103, 97, 110, 97, 109, 101, 49]
def qwhennot0e6d9 : List UInt8 := [40, 119, 104, 101, 110, 32, 40, 110, 111, 116, 32, 48, 41, 32, 40, 113, 117, 111, 116, 101, 32, 40, 97, 110, 100, 32, 111, 114, 41, 41, 41]
def slices_Clone_string (n : Nat) (a0 : List (List UInt8)) : Option (List (List UInt8)) :=
  (apB 16 [] a0).bind fun z1 => some z1
theorem w_slices_Clone_string (n : Nat) : ∀ (a0 : List (List UInt8)) {r : List (List UInt8)}, slices_Clone_string n a0 = some r → SCall X.E 43 [lE 1 (ksStr a0)] [] (lE 1 (ksStr r)) [] := by
  intro a0 r h0
  rw [slices_Clone_string] at h0
  refine .m Tryd.func43 rfl rfl rfl (by kernel_rfl) (fun L ks low K hl hL hlen hK => ?_)
  refine .r [] T [] rfl (by kernel_rfl) ?_
  refine .nq rfl (by kernel_rfl) rfl rfl (fun e => ?_) ?_
  · have e : a0 = [] := by cases a0 with
      | nil => rfl
      | cons x q => rw [dStr.eq] at e; cases e
    subst e
    have e : r = [] := by simp [apB] at h0; exact h0
    subst e
    refine .cB true rfl (by kernel_rfl) ?_
    refine .r [] T [(2, fE 1 (ksStr []))] rfl (by kernel_rfl) ?_
    refine .kp [2] [] ?_
    refine .owV 2 400002 9 [] rfl rfl (by kernel_rfl) ?_
    refine .ft 2 400002 [] dStr [] rfl (by kernel_rfl) ?_
    exact .ret rfl rfl (by kernel_rfl) hK
  · refine .cB false rfl (by kernel_rfl) ?_
    obtain ⟨z1, hz1, h0⟩ := bnd h0
    refine .rf [.sv (ksStr []), .mv 7, .sv (ksStr z1)] (A (dStr.lit []) (A (dStr.ap0 hz1) T)) [(2, .vs (.own 100007) 1 (ksStr z1).length)] [.o 100007 (.vec 9 1 (ksStr z1))] rfl (by kernel_rfl) ?_
    refine .kp [2] [] ?_
    cases h0
    refine .ft 2 100007 [] dStr r rfl (by kernel_rfl) ?_
    exact .ret rfl rfl (by kernel_rfl) hK
def im_LibraryNames (n : Nat)  : Option (List (List UInt8)) :=
  (slices_Clone_string n lp0).bind fun k1 => some k1
theorem w_im_LibraryNames (n : Nat) : ∀ {r : List (List UInt8)}, im_LibraryNames n  = some r → SCall X.E 13 [] [] (lE 1 (ksStr r)) [] := by
  intro r h0
  rw [im_LibraryNames] at h0
  refine .m Tryd.func13 rfl rfl rfl (by kernel_rfl) (fun L ks low K hl hL hlen hK => ?_)
  refine .r [] T [] rfl (by kernel_rfl) ?_
  obtain ⟨k1, hk1, h0⟩ := bnd h0
  refine .r [.call [] (lE 1 (ksStr k1)) []] (A (w_slices_Clone_string n _ hk1) T) [(0, lE 1 (ksStr k1))] rfl (by kernel_rfl) ?_
  cases h0
  exact .ret rfl rfl (by kernel_rfl) hK
def slices_Index_string (n : Nat) (a0 : List (List UInt8)) (a1 : List UInt8) : Option (Int) :=
  seqS (forI (fun (s3 : Unit) (i2 : Nat) (x5 : List UInt8) => ((if a1 = x5 then some (Sum.inl (i2 : Int)) else some (Sum.inr ())) : Option (Int ⊕ Unit))) 0 a0 ()) (fun (s3 : Unit) => some (-1))
theorem w_slices_Index_string (n : Nat) : ∀ (a0 : List (List UInt8)) (a1 : List UInt8) {r : Int}, slices_Index_string n a0 a1 = some r → SCall X.E 42 [lE 1 (ksStr a0), sE a1] [] (iE r) [] := by
  intro a0 a1 r h0
  rw [slices_Index_string] at h0
  refine .m Tryd.func42 rfl rfl rfl (by kernel_rfl) (fun L ks low K hl hL hlen hK => ?_)
  refine .r [] T [] rfl (by kernel_rfl) ?_
  refine .r [.v (a0.length : Int)] (A (dStr.len' a0) T) [(7, iE (a0.length : Int)), (8, iE 0)] rfl (by kernel_rfl) ?_
  refine .sn 0 dStr a0 (by kernel_rfl) (fun hb1 => ?_)
  refine .lI h0 rfl [0, 1, 7] (fun i2 s3 => [(8, iE (i2 : Int))]) n2 n2 [] (by kernel_rfl) (fun i2 s3 q4 hd6 hi8 h0 => ?_)
  refine .r [] T [(9, dE ((i2 : Int) < (a0.length : Int)))] rfl (by kernel_rfl) ?_
  refine .lc hd6 rfl (by kernel_rfl) (fun x5 q42 hc9 hx5 hd7 hd7l => ?_) (fun hc9 => ?_)
  · subst hc9
    obtain ⟨y1, h1, hw1, hn1⟩ := forI_cons h0
    refine .r [] T [(5, iE (i2 : Int))] rfl (by kernel_rfl) ?_
    refine .r [.cs [.s x5]] (A (dStr.idn hx5) T) [(16, dE (a1 = x5))] rfl (by kernel_rfl) ?_
    refine .cP h1 rfl (by kernel_rfl) (fun hc10 h1 => ?_) (fun hc10 h1 => ?_)
    · refine .r [] T [(4, iE (i2 : Int))] rfl (by kernel_rfl) ?_
      cases h1
      cases hw1 _ rfl
      exact .ret rfl rfl (by kernel_rfl) hK
    · refine .r [.v ((i2 + 1 : Nat) : Int)] (A (wn (i := i2) (by omega)) T) [(8, iE ((i2 + 1 : Nat) : Int))] rfl (by kernel_rfl) ?_
      cases h1
      exact .nL rfl (i2 + 1) _ hd7 hd7l (hn1 _ rfl) [] (by kernel_rfl)
  · subst hc9
    have h0 := forI_nil h0
    refine .r [] T [(4, iE (-1))] rfl (by kernel_rfl) ?_
    cases h0
    exact .ret rfl rfl (by kernel_rfl) hK
def slices_Contains_string (n : Nat) (a0 : List (List UInt8)) (a1 : List UInt8) : Option (Bool) :=
  (slices_Index_string n a0 a1).bind fun k1 => some (decide (k1 ≥ 0))
theorem w_slices_Contains_string (n : Nat) : ∀ (a0 : List (List UInt8)) (a1 : List UInt8) {r : Bool}, slices_Contains_string n a0 a1 = some r → SCall X.E 57 [lE 1 (ksStr a0), sE a1] [] (bE r) [] := by
  intro a0 a1 r h0
  rw [slices_Contains_string] at h0
  refine .m Tryd.func57 rfl rfl rfl (by kernel_rfl) (fun L ks low K hl hL hlen hK => ?_)
  refine .r [] T [] rfl (by kernel_rfl) ?_
  obtain ⟨k1, hk1, h0⟩ := bnd h0
  refine .r [.call [] (iE k1) []] (A (w_slices_Index_string n _ _ hk1) T) [(4, dE (k1 ≥ 0))] rfl (by kernel_rfl) ?_
  cases h0
  exact .ret rfl rfl (by kernel_rfl) hK
def slices_Index_string_v (n : Nat) (a0 : List (List UInt8)) (a1 : List UInt8) : Option (Int) :=
  seqS (forI (fun (s3 : Unit) (i2 : Nat) (x5 : List UInt8) => ((if a1 = x5 then some (Sum.inl (i2 : Int)) else some (Sum.inr ())) : Option (Int ⊕ Unit))) 0 a0 ()) (fun (s3 : Unit) => some (-1))
theorem w_slices_Index_string_v (n : Nat) : ∀ (a0 : List (List UInt8)) (a1 : List UInt8) {r : Int}, slices_Index_string_v n a0 a1 = some r → SCall X.E 42 [.vs (.low 0) 1 ((ksStr a0).length), sE a1] [some (.vec 9 1 (ksStr a0))] (iE r) [.vec 9 1 (ksStr a0)] := by
  intro a0 a1 r h0
  rw [slices_Index_string_v] at h0
  refine .m Tryd.func42 rfl rfl rfl (by kernel_rfl) (fun L ks low K hl hL hlen hK => ?_)
  refine .r [] T [] rfl (by kernel_rfl) ?_
  refine .r [.v (a0.length : Int)] (A (dStr.len' a0) T) [(7, iE (a0.length : Int)), (8, iE 0)] rfl (by kernel_rfl) ?_
  refine .snV 0 dStr a0 (by kernel_rfl) (fun hb1 => ?_)
  refine .lI h0 rfl [0, 1, 7] (fun i2 s3 => [(8, iE (i2 : Int))]) n2 n2 [] (by kernel_rfl) (fun i2 s3 q4 hd6 hi8 h0 => ?_)
  refine .r [] T [(9, dE ((i2 : Int) < (a0.length : Int)))] rfl (by kernel_rfl) ?_
  refine .lc hd6 rfl (by kernel_rfl) (fun x5 q42 hc9 hx5 hd7 hd7l => ?_) (fun hc9 => ?_)
  · subst hc9
    obtain ⟨y1, h1, hw1, hn1⟩ := forI_cons h0
    refine .r [] T [(5, iE (i2 : Int))] rfl (by kernel_rfl) ?_
    refine .r [.cs [.s x5]] (A (A (dStr.inv (inB_of hx5) (rfl : (ksStr a0).length = (ksStr a0).length)) (rfl : (ksStr a0).length = (ksStr a0).length)) (A (A (A (dStr.rows a0) (dStr.ixr hx5)) (rfl : (ksStr a0).length = (ksStr a0).length)) T)) [(16, dE (a1 = x5))] rfl (by kernel_rfl) ?_
    refine .cP h1 rfl (by kernel_rfl) (fun hc10 h1 => ?_) (fun hc10 h1 => ?_)
    · refine .r [] T [(4, iE (i2 : Int))] rfl (by kernel_rfl) ?_
      cases h1
      cases hw1 _ rfl
      exact .ret rfl rfl (by kernel_rfl) hK
    · refine .r [.v ((i2 + 1 : Nat) : Int)] (A (wn (i := i2) (by omega)) T) [(8, iE ((i2 + 1 : Nat) : Int))] rfl (by kernel_rfl) ?_
      cases h1
      exact .nL rfl (i2 + 1) _ hd7 hd7l (hn1 _ rfl) [] (by kernel_rfl)
  · subst hc9
    have h0 := forI_nil h0
    refine .r [] T [(4, iE (-1))] rfl (by kernel_rfl) ?_
    cases h0
    exact .ret rfl rfl (by kernel_rfl) hK
def slices_Contains_string_v (n : Nat) (a0 : List (List UInt8)) (a1 : List UInt8) : Option (Bool) :=
  (slices_Index_string_v n a0 a1).bind fun k1 => some (decide (k1 ≥ 0))
theorem w_slices_Contains_string_v (n : Nat) : ∀ (a0 : List (List UInt8)) (a1 : List UInt8) {r : Bool}, slices_Contains_string_v n a0 a1 = some r → SCall X.E 57 [.vs (.low 0) 1 ((ksStr a0).length), sE a1] [some (.vec 9 1 (ksStr a0))] (bE r) [.vec 9 1 (ksStr a0)] := by
  intro a0 a1 r h0
  rw [slices_Contains_string_v] at h0
  refine .m Tryd.func57 rfl rfl rfl (by kernel_rfl) (fun L ks low K hl hL hlen hK => ?_)
  refine .r [] T [] rfl (by kernel_rfl) ?_
  obtain ⟨k1, hk1, h0⟩ := bnd h0
  refine .r [.call [.low 0] (iE k1) [.vec 9 1 (ksStr a0)]] (A (w_slices_Index_string_v n _ _ hk1) T) [(4, dE (k1 ≥ 0))] rfl (by kernel_rfl) ?_
  cases h0
  exact .ret rfl rfl (by kernel_rfl) hK
def im_NamesOf_1 (n : Nat) (a0 : Form) (w0 : List (List UInt8)) : Option (List (List UInt8)) :=
  Option.bind ((if a0.kind = 1 then (slices_Contains_string_v n w0 a0.name).bind fun k5 => some (!k5) else some false) : Option (Bool)) (fun (o1 : Bool) => (if o1 = true then (apB 16 w0 [a0.name]).bind fun z3 => some z3 else some w0))
theorem w_im_NamesOf_1 (n : Nat) : ∀ (a0 : Form) (w0 : List (List UInt8)) {r : List (List UInt8)}, im_NamesOf_1 n a0 w0 = some r → SCall X.E 72 [aE (kForm a0), pl 0] [some (.cells [.vs (.low 1) 1 ((ksStr w0).length)]), some (.vec 9 1 (ksStr w0))] (.tup []) [.cells [.vs (.low 1) 1 ((ksStr r).length)], .vec 9 1 (ksStr r)] := by
  intro a0 w0 r h0
  rw [im_NamesOf_1] at h0
  refine .m Tryd.func72 rfl rfl rfl (by kernel_rfl) (fun L ks low K hl hL hlen hK => ?_)
  refine .rf [] T [(2, pw 2)] [.o 2 (.cells ((kForm a0).map .d))] rfl (by kernel_rfl) ?_
  refine .bP h0 rfl [1, 2] (fun o1 => [(12, bE o1)]) n1 n1 (fun o1 h0 => ?_) (fun y1 h1 hj1 => ?_)
  · refine .cT h0 rfl (by kernel_rfl) (fun hc2 h0 => ?_) (fun hc2 h0 => ?_)
    · obtain ⟨z3, hz3, h0⟩ := bnd h0
      refine .ro [.sv (ksStr [a0.name]), .sv (ksStr z3)] (A (dStr.lit [a0.name]) (A (A (dStr.ap hz3) (rfl : (ksStr w0).length = (ksStr w0).length)) T)) [] [.c 0 0 (.vs (.low 1) 1 ((ksStr z3).length)), .o 1 (.vec 9 1 (ksStr z3))] rfl (by kernel_rfl) ?_
      cases h0
      exact .fin rfl rfl rfl rfl hK
    · cases h0
      exact .fin rfl rfl rfl rfl hK
  · by_cases g4 : a0.kind = 1
    · have h1 := iteP g4 h1
      obtain ⟨k5, hk5, h1⟩ := bnd h1
      refine .r [.b true, .b true, .b true, .b true, .call [.low 1] (bE k5) [.vec 9 1 (ksStr w0)], .b true, .b true] (A (decide_eq_true g4 : decide (a0.kind = 1) = true) (A (decide_eq_true g4 : decide (a0.kind = 1) = true) (A (decide_eq_true g4 : decide (a0.kind = 1) = true) (A (A (decide_eq_true g4 : decide (a0.kind = 1) = true) (w_slices_Contains_string_v n _ _ hk5)) (A (decide_eq_true g4 : decide (a0.kind = 1) = true) (A (decide_eq_true g4 : decide (a0.kind = 1) = true) T)))))) [(12, bE (!k5))] rfl (by kernel_rfl) ?_
      cases h1
      exact .lf hj1 rfl [] (by kernel_rfl)
    · have h1 := iteN g4 h1
      refine .r [.b false, .b false, .b false, .b false, .b false, .b false] (A (decide_eq_false g4 : decide (a0.kind = 1) = false) (A (decide_eq_false g4 : decide (a0.kind = 1) = false) (A (decide_eq_false g4 : decide (a0.kind = 1) = false) (A (decide_eq_false g4 : decide (a0.kind = 1) = false) (A (decide_eq_false g4 : decide (a0.kind = 1) = false) (A (decide_eq_false g4 : decide (a0.kind = 1) = false) T)))))) [(12, bE false)] rfl (by kernel_rfl) ?_
      cases h1
      exact .lf hj1 rfl [] (by kernel_rfl)
def im_eachForm__im_NamesOf_1 : Nat → Form → (List (List UInt8)) → Option (List (List UInt8))
  | 0, _, _ => none
  | n + 1, a0, w0 => (im_NamesOf_1 n a0 w0).bind fun k1 => Option.bind (forL (fun (s4 : List (List UInt8)) (i3 : Nat) (x6 : Form) => (im_eachForm__im_NamesOf_1 n x6 s4).bind fun k11 => some k11) 0 a0.kids k1) (fun (s4 : List (List UInt8)) => some s4)
theorem w_im_eachForm__im_NamesOf_1 (n : Nat) : ∀ (a0 : Form) (w0 : List (List UInt8)) {r : List (List UInt8)}, im_eachForm__im_NamesOf_1 n a0 w0 = some r → SCall X.E 71 [aE (kForm a0), .clo 72 [] [pl 0]] [some (.cells [.vs (.low 1) 1 ((ksStr w0).length)]), some (.vec 9 1 (ksStr w0))] (.tup []) [.cells [.vs (.low 1) 1 ((ksStr r).length)], .vec 9 1 (ksStr r)] := by
  induction n with
  | zero => intro a0 w0 r h; cases h
  | succ n ih =>
    intro a0 w0 r h0
    rw [im_eachForm__im_NamesOf_1] at h0
    refine .m Tryd.func71 rfl rfl rfl (by kernel_rfl) (fun L ks low K hl hL hlen hK => ?_)
    refine .rf [] T [(2, pw 2)] [.o 2 (.cells ((kForm a0).map .d))] rfl (by kernel_rfl) ?_
    obtain ⟨k1, hk1, h0⟩ := bnd h0
    refine .ro [.call [.low 0, .low 1] (.tup []) [.cells [.vs (.low 1) 1 ((ksStr k1).length)], .vec 9 1 (ksStr k1)]] (A (w_im_NamesOf_1 n _ _ hk1) T) [] [.c 0 0 (.vs (.low 1) 1 ((ksStr k1).length)), .o 1 (.vec 9 1 (ksStr k1))] rfl (by kernel_rfl) ?_
    refine .r [.v (a0.kids.length : Int)] (A (dForm.len' a0.kids) T) [(10, lE 5 (ksForm a0.kids)), (11, iE (a0.kids.length : Int)), (12, iE 0)] rfl (by kernel_rfl) ?_
    refine .sn 10 dForm a0.kids (by kernel_rfl) (fun hb2 => ?_)
    refine .lL h0 rfl [1, 10, 11] (fun i3 s4 => [(12, iE (i3 : Int))]) n2 (fun i3 s4 => [.c 0 0 (.vs (.low 1) 1 ((ksStr s4).length)), .o 1 (.vec 9 1 (ksStr s4))]) [] (by kernel_rfl) (fun i3 s4 q5 hd7 hi9 h0 => ?_)
    refine .r [] T [(13, dE ((i3 : Int) < (a0.kids.length : Int)))] rfl (by kernel_rfl) ?_
    refine .lc hd7 rfl (by kernel_rfl) (fun x6 q52 hc10 hx6 hd8 hd8l => ?_) (fun hc10 => ?_)
    · subst hc10
      obtain ⟨y1, h1, hn1⟩ := forL_cons h0
      refine .rf [.cs (kForm x6)] (A (dForm.idn hx6) T) [(5, pw 5)] [.o 5 (.cells ((kForm x6).map .d))] rfl (by kernel_rfl) ?_
      obtain ⟨k11, hk11, h1⟩ := bnd h1
      refine .ro [.call [.low 0, .low 1] (.tup []) [.cells [.vs (.low 1) 1 ((ksStr k11).length)], .vec 9 1 (ksStr k11)]] (A (ih _ _ hk11) T) [] [.c 0 0 (.vs (.low 1) 1 ((ksStr k11).length)), .o 1 (.vec 9 1 (ksStr k11))] rfl (by kernel_rfl) ?_
      refine .r [.v ((i3 + 1 : Nat) : Int)] (A (wn (i := i3) (by omega)) T) [(12, iE ((i3 + 1 : Nat) : Int))] rfl (by kernel_rfl) ?_
      cases h1
      refine .kp [1, 10, 11, 12] [] ?_
      refine .dr 5 (by kernel_rfl) ?_
      exact .nL rfl (i3 + 1) _ hd8 hd8l hn1 [] (by kernel_rfl)
    · subst hc10
      have h0 := forL_nil h0
      cases h0
      exact .fin rfl rfl rfl rfl hK
def im_NamesOf (n : Nat) (a0 : Form) : Option (List (List UInt8)) :=
  (im_eachForm__im_NamesOf_1 n a0 []).bind fun k1 => some k1
theorem w_im_NamesOf (n : Nat) : ∀ (a0 : Form) {r : List (List UInt8)}, im_NamesOf n a0 = some r → SCall X.E 38 [aE (kForm a0)] [] (lE 1 (ksStr r)) [] := by
  intro a0 r h0
  rw [im_NamesOf] at h0
  refine .m Tryd.func38 rfl rfl rfl (by kernel_rfl) (fun L ks low K hl hL hlen hK => ?_)
  refine .rf [] T [(1, pw 1)] [.o 1 (.cells ((kForm a0).map .d))] rfl (by kernel_rfl) ?_
  refine .rf [.sv (ksStr [])] (A (dStr.lit []) T) [(3, pw 3)] [.o 3 (.cells [fE 1 (ksStr [])])] rfl (by kernel_rfl) ?_
  refine .ov 3 0 400300 9 (by kernel_rfl) ?_
  obtain ⟨k1, hk1, h0⟩ := bnd h0
  refine .rf [.call [.own 3, .own 400300] (.tup []) [.cells [.vs (.low 1) 1 ((ksStr k1).length)], .vec 9 1 (ksStr k1)]] (A (w_im_eachForm__im_NamesOf_1 n _ _ hk1) T) [] [.c 3 0 (.vs (.own 400300) 1 ((ksStr k1).length)), .o 400300 (.vec 9 1 (ksStr k1))] rfl (by kernel_rfl) ?_
  refine .r [] T [(2, .vs (.own 400300) 1 ((ksStr k1).length))] rfl (by kernel_rfl) ?_
  refine .kp [2] [] ?_
  refine .dr 1 (by kernel_rfl) ?_
  refine .dr 3 (by kernel_rfl) ?_
  refine .ft 2 400300 [] dStr k1 (rfl : (ksStr k1).length = (ksStr k1).length) (by kernel_rfl) ?_
  cases h0
  exact .ret rfl rfl (by kernel_rfl) hK
def im_NeededMacros_1 (n : Nat) (a0 : List UInt8) (w0 : List (List UInt8)) : Option (Bool) :=
  (slices_Contains_string n w0 a0).bind fun k1 => some (!k1)
theorem w_im_NeededMacros_1 (n : Nat) : ∀ (a0 : List UInt8) (w0 : List (List UInt8)) {r : Bool}, im_NeededMacros_1 n a0 w0 = some r → SCall X.E 56 [sE a0, pl 0] [some (.cells [lE 1 (ksStr w0)])] (bE r) [.cells [lE 1 (ksStr w0)]] := by
  intro a0 w0 r h0
  rw [im_NeededMacros_1] at h0
  refine .m Tryd.func56 rfl rfl rfl (by kernel_rfl) (fun L ks low K hl hL hlen hK => ?_)
  refine .r [] T [] rfl (by kernel_rfl) ?_
  obtain ⟨k1, hk1, h0⟩ := bnd h0
  refine .r [.call [] (bE k1) []] (A (w_slices_Contains_string n _ _ hk1) T) [(3, bE (!k1))] rfl (by kernel_rfl) ?_
  cases h0
  exact .ret rfl rfl (by kernel_rfl) hK
def slices_IndexFunc_string__im_NeededMacros_1 (n : Nat) (a0 : List (List UInt8)) (w0 : List (List UInt8)) : Option (Int) :=
  seqS (forI (fun (s3 : Unit) (i2 : Nat) (x5 : List UInt8) => ((im_NeededMacros_1 n x5 w0).bind fun k10 => (if k10 = true then some (Sum.inl (i2 : Int)) else some (Sum.inr ())) : Option (Int ⊕ Unit))) 0 a0 ()) (fun (s3 : Unit) => some (-1))
theorem w_slices_IndexFunc_string__im_NeededMacros_1 (n : Nat) : ∀ (a0 : List (List UInt8)) (w0 : List (List UInt8)) {r : Int}, slices_IndexFunc_string__im_NeededMacros_1 n a0 w0 = some r → SCall X.E 74 [lE 1 (ksStr a0), .clo 56 [] [pl 0]] [some (.cells [lE 1 (ksStr w0)])] (iE r) [.cells [lE 1 (ksStr w0)]] := by
  intro a0 w0 r h0
  rw [slices_IndexFunc_string__im_NeededMacros_1] at h0
  refine .m Tryd.func74 rfl rfl rfl (by kernel_rfl) (fun L ks low K hl hL hlen hK => ?_)
  refine .r [] T [] rfl (by kernel_rfl) ?_
  refine .r [.v (a0.length : Int)] (A (dStr.len' a0) T) [(7, iE (a0.length : Int)), (8, iE 0)] rfl (by kernel_rfl) ?_
  refine .sn 0 dStr a0 (by kernel_rfl) (fun hb1 => ?_)
  refine .lI h0 rfl [0, 1, 7] (fun i2 s3 => [(8, iE (i2 : Int))]) n2 n2 [] (by kernel_rfl) (fun i2 s3 q4 hd6 hi8 h0 => ?_)
  refine .r [] T [(9, dE ((i2 : Int) < (a0.length : Int)))] rfl (by kernel_rfl) ?_
  refine .lc hd6 rfl (by kernel_rfl) (fun x5 q42 hc9 hx5 hd7 hd7l => ?_) (fun hc9 => ?_)
  · subst hc9
    obtain ⟨y1, h1, hw1, hn1⟩ := forI_cons h0
    refine .r [] T [(5, iE (i2 : Int))] rfl (by kernel_rfl) ?_
    obtain ⟨k10, hk10, h1⟩ := bnd h1
    refine .r [.cs [.s x5], .call [.low 0] (bE k10) [.cells [lE 1 (ksStr w0)]]] (A (dStr.idn hx5) (A (w_im_NeededMacros_1 n _ _ hk10) T)) [(16, bE k10)] rfl (by kernel_rfl) ?_
    refine .cT h1 rfl (by kernel_rfl) (fun hc11 h1 => ?_) (fun hc11 h1 => ?_)
    · refine .r [] T [(4, iE (i2 : Int))] rfl (by kernel_rfl) ?_
      cases h1
      cases hw1 _ rfl
      exact .ret rfl rfl (by kernel_rfl) hK
    · refine .r [.v ((i2 + 1 : Nat) : Int)] (A (wn (i := i2) (by omega)) T) [(8, iE ((i2 + 1 : Nat) : Int))] rfl (by kernel_rfl) ?_
      cases h1
      exact .nL rfl (i2 + 1) _ hd7 hd7l (hn1 _ rfl) [] (by kernel_rfl)
  · subst hc9
    have h0 := forI_nil h0
    refine .r [] T [(4, iE (-1))] rfl (by kernel_rfl) ?_
    cases h0
    exact .ret rfl rfl (by kernel_rfl) hK
def slices_IndexFunc_string__im_NeededMacros_1_v (n : Nat) (a0 : List (List UInt8)) (w0 : List (List UInt8)) : Option (Int) :=
  seqS (forI (fun (s3 : Unit) (i2 : Nat) (x5 : List UInt8) => ((im_NeededMacros_1 n x5 w0).bind fun k10 => (if k10 = true then some (Sum.inl (i2 : Int)) else some (Sum.inr ())) : Option (Int ⊕ Unit))) 0 a0 ()) (fun (s3 : Unit) => some (-1))
theorem w_slices_IndexFunc_string__im_NeededMacros_1_v (n : Nat) : ∀ (a0 : List (List UInt8)) (w0 : List (List UInt8)) {r : Int}, slices_IndexFunc_string__im_NeededMacros_1_v n a0 w0 = some r → SCall X.E 74 [.vs (.low 1) 1 ((ksStr a0).length), .clo 56 [] [pl 0]] [some (.cells [lE 1 (ksStr w0)]), some (.vec 9 1 (ksStr a0))] (iE r) [.cells [lE 1 (ksStr w0)], .vec 9 1 (ksStr a0)] := by
  intro a0 w0 r h0
  rw [slices_IndexFunc_string__im_NeededMacros_1_v] at h0
  refine .m Tryd.func74 rfl rfl rfl (by kernel_rfl) (fun L ks low K hl hL hlen hK => ?_)
  refine .r [] T [] rfl (by kernel_rfl) ?_
  refine .r [.v (a0.length : Int)] (A (dStr.len' a0) T) [(7, iE (a0.length : Int)), (8, iE 0)] rfl (by kernel_rfl) ?_
  refine .snV 0 dStr a0 (by kernel_rfl) (fun hb1 => ?_)
  refine .lI h0 rfl [0, 1, 7] (fun i2 s3 => [(8, iE (i2 : Int))]) n2 n2 [] (by kernel_rfl) (fun i2 s3 q4 hd6 hi8 h0 => ?_)
  refine .r [] T [(9, dE ((i2 : Int) < (a0.length : Int)))] rfl (by kernel_rfl) ?_
  refine .lc hd6 rfl (by kernel_rfl) (fun x5 q42 hc9 hx5 hd7 hd7l => ?_) (fun hc9 => ?_)
  · subst hc9
    obtain ⟨y1, h1, hw1, hn1⟩ := forI_cons h0
    refine .r [] T [(5, iE (i2 : Int))] rfl (by kernel_rfl) ?_
    obtain ⟨k10, hk10, h1⟩ := bnd h1
    refine .r [.cs [.s x5], .call [.low 0] (bE k10) [.cells [lE 1 (ksStr w0)]]] (A (A (dStr.inv (inB_of hx5) (rfl : (ksStr a0).length = (ksStr a0).length)) (rfl : (ksStr a0).length = (ksStr a0).length)) (A (A (A (dStr.rows a0) (dStr.ixr hx5)) (rfl : (ksStr a0).length = (ksStr a0).length)) (A (w_im_NeededMacros_1 n _ _ hk10) T))) [(16, bE k10)] rfl (by kernel_rfl) ?_
    refine .cT h1 rfl (by kernel_rfl) (fun hc11 h1 => ?_) (fun hc11 h1 => ?_)
    · refine .r [] T [(4, iE (i2 : Int))] rfl (by kernel_rfl) ?_
      cases h1
      cases hw1 _ rfl
      exact .ret rfl rfl (by kernel_rfl) hK
    · refine .r [.v ((i2 + 1 : Nat) : Int)] (A (wn (i := i2) (by omega)) T) [(8, iE ((i2 + 1 : Nat) : Int))] rfl (by kernel_rfl) ?_
      cases h1
      exact .nL rfl (i2 + 1) _ hd7 hd7l (hn1 _ rfl) [] (by kernel_rfl)
  · subst hc9
    have h0 := forI_nil h0
    refine .r [] T [(4, iE (-1))] rfl (by kernel_rfl) ?_
    cases h0
    exact .ret rfl rfl (by kernel_rfl) hK
def slices_DeleteFunc_string__im_NeededMacros_1 (n : Nat) (a0 : List (List UInt8)) (w0 : List (List UInt8)) : Option (List (List UInt8)) :=
  (slices_IndexFunc_string__im_NeededMacros_1_v n a0 w0).bind fun k1 => (if k1 = (-1) then some a0 else iterM n (fun (s3 : Int × Int × (List (List UInt8))) => ((if s3.2.1 < (s3.2.2.length : Int) then Option.bind ((inB s3.2.1 s3.2.2.length).bind fun u8 => (s3.2.2[(Int.toNat s3.2.1)]?).bind fun e9 => (im_NeededMacros_1 n e9 w0).bind fun k10 => (if (!k10) = true then (inB s3.1 s3.2.2.length).bind fun u12 => (s3.2.2[(Int.toNat s3.1)]?).bind fun e13 => some ((w64 (s3.1 + 1)), (s3.2.2.set (Int.toNat s3.1) e9)) else some (s3.1, s3.2.2)) : Option (Int × (List (List UInt8)))) (fun (o7 : Int × (List (List UInt8))) => some (Sum.inr (o7.1, (w64 (s3.2.1 + 1)), o7.2))) else (clI s3.2.2 s3.1 []).bind fun z15 => (takeI z15 s3.1).bind fun z17 => some (Sum.inl z17)) : Option ((List (List UInt8)) ⊕ (Int × Int × (List (List UInt8)))))) (k1, (w64 (k1 + 1)), a0))
theorem w_slices_DeleteFunc_string__im_NeededMacros_1 (n : Nat) : ∀ (a0 : List (List UInt8)) (w0 : List (List UInt8)) {r : List (List UInt8)}, slices_DeleteFunc_string__im_NeededMacros_1 n a0 w0 = some r → SCall X.E 55 [.vs (.low 1) 1 ((ksStr a0).length), .clo 56 [] [pl 0]] [some (.cells [lE 1 (ksStr w0)]), some (.vec 9 1 (ksStr a0))] (lE 1 (ksStr r)) [.cells [lE 1 (ksStr w0)], .tok 9223372036854775808 9] := by
  intro a0 w0 r h0
  rw [slices_DeleteFunc_string__im_NeededMacros_1] at h0
  refine .m Tryd.func55 rfl rfl rfl (by kernel_rfl) (fun L ks low K hl hL hlen hK => ?_)
  refine .r [] T [] rfl (by kernel_rfl) ?_
  obtain ⟨k1, hk1, h0⟩ := bnd h0
  refine .r [.call [.low 0, .low 1] (iE k1) [.cells [lE 1 (ksStr w0)], .vec 9 1 (ksStr a0)]] (A (w_slices_IndexFunc_string__im_NeededMacros_1_v n _ _ hk1) T) [(5, iE k1)] rfl (by kernel_rfl) ?_
  refine .r [] T [(12, dE (k1 = (-1)))] rfl (by kernel_rfl) ?_
  refine .cP h0 rfl (by kernel_rfl) (fun hc2 h0 => ?_) (fun hc2 h0 => ?_)
  · refine .r [] T [(4, .vs (.low 1) 1 ((ksStr a0).length))] rfl (by kernel_rfl) ?_
    refine .kp [4] [] ?_
    refine .ct 4 1 500004 [] (rfl : (ksStr a0).length = (ksStr a0).length) (by kernel_rfl) ?_
    refine .ft 4 500004 [] dStr a0 (rfl : (ksStr a0).length = (ksStr a0).length) (by kernel_rfl) ?_
    cases h0
    exact .ret rfl rfl (by kernel_rfl) hK
  · refine .r [.pl] T [(6, iE (w64 (k1 + 1)))] rfl (by kernel_rfl) ?_
    refine .it h0 rfl [1] (fun s3 => [(0, .vs (.low 1) 1 ((ksStr s3.2.2).length)), (5, iE s3.1), (6, iE s3.2.1)]) n1 (fun s3 => [.o 1 (.vec 9 1 (ksStr s3.2.2))]) [] (by kernel_rfl) (fun n4 s3 h0 => ?_)
    obtain ⟨y1, h1, hw1, hn1⟩ := iter_cons h0
    refine .r [.v (s3.2.2.length : Int)] (A (dStr.len' s3.2.2) T) [(19, dE (s3.2.1 < (s3.2.2.length : Int)))] rfl (by kernel_rfl) ?_
    refine .snV 0 dStr s3.2.2 (by kernel_rfl) (fun hb5 => ?_)
    refine .cP h1 rfl (by kernel_rfl) (fun hc6 h1 => ?_) (fun hc6 h1 => ?_)
    · refine .bPB h1 rfl [1, 6] (fun o7 => [(0, .vs (.low 1) 1 ((ksStr o7.2).length)), (5, iE o7.1)]) n1 (fun o7 => [.o 1 (.vec 9 1 (ksStr o7.2))]) (fun o7 h1 => ?_) (fun y2 h2 hj2 => ?_)
      · refine .r [.pl] T [(6, iE (w64 (s3.2.1 + 1)))] rfl (by kernel_rfl) ?_
        cases h1
        exact .nI rfl _ (hn1 _ rfl) [] (by kernel_rfl)
      · obtain ⟨u8, hu8, h2⟩ := bnd h2
        obtain ⟨e9, he9, h2⟩ := bnd h2
        refine .r [.cs [.s e9]] (A (A (dStr.inv hu8 (rfl : (ksStr s3.2.2).length = (ksStr s3.2.2).length)) (rfl : (ksStr s3.2.2).length = (ksStr s3.2.2).length)) (A (A (A (dStr.rows s3.2.2) (dStr.ixr he9)) (rfl : (ksStr s3.2.2).length = (ksStr s3.2.2).length)) T)) [(7, sE e9)] rfl (by kernel_rfl) ?_
        obtain ⟨k10, hk10, h2⟩ := bnd h2
        refine .r [.call [.low 0] (bE k10) [.cells [lE 1 (ksStr w0)]]] (A (w_im_NeededMacros_1 n _ _ hk10) T) [(29, bE (!k10))] rfl (by kernel_rfl) ?_
        refine .cT h2 rfl (by kernel_rfl) (fun hc11 h2 => ?_) (fun hc11 h2 => ?_)
        · obtain ⟨u12, hu12, h2⟩ := bnd h2
          obtain ⟨e13, he13, h2⟩ := bnd h2
          refine .ro [.cs [.s e13], .sv (ksStr (s3.2.2.set (Int.toNat s3.1) e9))] (A (A (dStr.inv hu12 (rfl : (ksStr s3.2.2).length = (ksStr s3.2.2).length)) (rfl : (ksStr s3.2.2).length = (ksStr s3.2.2).length)) (A (A (A (A (dStr.rows s3.2.2) (dStr.ixr he13)) (rfl : (ksStr s3.2.2).length = (ksStr s3.2.2).length)) (dStr.seti s3.2.2 (Int.toNat s3.1) e9)) T)) [(0, .vs (.low 1) 1 ((ksStr s3.2.2).length))] [.o 1 (.vec 9 1 (ksStr (s3.2.2.set (Int.toNat s3.1) e9)))] rfl (by kernel_rfl) ?_
          refine .rn (by simp only [dStr.length, List.length_set] : (ksStr s3.2.2).length = (ksStr (s3.2.2.set (Int.toNat s3.1) e9)).length) (fun n14 => [(0, .vs (.low 1) 1 n14)]) (fun n14 => []) (fun n14 => []) (by kernel_rfl) ?_
          refine .r [.pl] T [(5, iE (w64 (s3.1 + 1)))] rfl (by kernel_rfl) ?_
          cases h2
          exact .lf hj2 rfl [] (by kernel_rfl)
        · cases h2
          exact .lf hj2 rfl [] (by kernel_rfl)
    · obtain ⟨z15, hz15, h1⟩ := bnd h1
      refine .clr (xs := ksStr s3.2.2) rfl rfl rfl rfl rfl rfl rfl rfl (dStr.cl1 hz15 (rfl : (ksStr s3.2.2).length = (ksStr s3.2.2).length)) (rfl : (ksStr s3.2.2).length = (ksStr s3.2.2).length) (dStr.rows _) (ksStr z15) (dStr.cl2 hz15 (rfl : (ksStr s3.2.2).length = (ksStr s3.2.2).length)) ?_
      refine .rn (by rw [dStr.length, dStr.length, clI_len hz15] : (ksStr s3.2.2).length = (ksStr z15).length) (fun n16 => [(0, .vs (.low 1) 1 n16)]) (fun n16 => []) (fun n16 => []) (by kernel_rfl) ?_
      obtain ⟨z17, hz17, h1⟩ := bnd h1
      refine .rq [.sv (ksStr z17)] [] (A (dStr.tk hz17 (rfl : (ksStr z15).length = (ksStr z15).length)) T) [(4, .vs (.own 100041) 1 ((ksStr z17).length))] [.o 100041 (.vec 9 1 (ksStr z17))] [.o 1 (.tok 9223372036854775808 9)] rfl (by kernel_rfl) ?_
      refine .kp [4] [] ?_
      refine .ft 4 100041 [] dStr z17 (rfl : (ksStr z17).length = (ksStr z17).length) (by kernel_rfl) ?_
      cases h1
      cases hw1 _ rfl
      exact .ret rfl rfl (by kernel_rfl) hK
def slices_DeleteFunc_string__im_NeededMacros_1_v (n : Nat) (a0 : List (List UInt8)) (w0 : List (List UInt8)) : Option (List (List UInt8)) :=
  (slices_IndexFunc_string__im_NeededMacros_1_v n a0 w0).bind fun k1 => (if k1 = (-1) then some a0 else iterM n (fun (s3 : Int × Int × (List (List UInt8))) => ((if s3.2.1 < (s3.2.2.length : Int) then Option.bind ((inB s3.2.1 s3.2.2.length).bind fun u8 => (s3.2.2[(Int.toNat s3.2.1)]?).bind fun e9 => (im_NeededMacros_1 n e9 w0).bind fun k10 => (if (!k10) = true then (inB s3.1 s3.2.2.length).bind fun u12 => (s3.2.2[(Int.toNat s3.1)]?).bind fun e13 => some ((w64 (s3.1 + 1)), (s3.2.2.set (Int.toNat s3.1) e9)) else some (s3.1, s3.2.2)) : Option (Int × (List (List UInt8)))) (fun (o7 : Int × (List (List UInt8))) => some (Sum.inr (o7.1, (w64 (s3.2.1 + 1)), o7.2))) else (clI s3.2.2 s3.1 []).bind fun z15 => (takeI z15 s3.1).bind fun z17 => some (Sum.inl z17)) : Option ((List (List UInt8)) ⊕ (Int × Int × (List (List UInt8)))))) (k1, (w64 (k1 + 1)), a0))
theorem w_slices_DeleteFunc_string__im_NeededMacros_1_v (n : Nat) : ∀ (a0 : List (List UInt8)) (w0 : List (List UInt8)) {r : List (List UInt8)}, slices_DeleteFunc_string__im_NeededMacros_1_v n a0 w0 = some r → SCall X.E 55 [.vs (.low 1) 1 ((ksStr a0).length), .clo 56 [] [pl 0]] [some (.cells [lE 1 (ksStr w0)]), some (.vec 9 1 (ksStr a0))] (lE 1 (ksStr r)) [.cells [lE 1 (ksStr w0)], .tok 9223372036854775808 9] := by
  intro a0 w0 r h0
  rw [slices_DeleteFunc_string__im_NeededMacros_1_v] at h0
  refine .m Tryd.func55 rfl rfl rfl (by kernel_rfl) (fun L ks low K hl hL hlen hK => ?_)
  refine .r [] T [] rfl (by kernel_rfl) ?_
  obtain ⟨k1, hk1, h0⟩ := bnd h0
  refine .r [.call [.low 0, .low 1] (iE k1) [.cells [lE 1 (ksStr w0)], .vec 9 1 (ksStr a0)]] (A (w_slices_IndexFunc_string__im_NeededMacros_1_v n _ _ hk1) T) [(5, iE k1)] rfl (by kernel_rfl) ?_
  refine .r [] T [(12, dE (k1 = (-1)))] rfl (by kernel_rfl) ?_
  refine .cP h0 rfl (by kernel_rfl) (fun hc2 h0 => ?_) (fun hc2 h0 => ?_)
  · refine .r [] T [(4, .vs (.low 1) 1 ((ksStr a0).length))] rfl (by kernel_rfl) ?_
    refine .kp [4] [] ?_
    refine .ct 4 1 500004 [] (rfl : (ksStr a0).length = (ksStr a0).length) (by kernel_rfl) ?_
    refine .ft 4 500004 [] dStr a0 (rfl : (ksStr a0).length = (ksStr a0).length) (by kernel_rfl) ?_
    cases h0
    exact .ret rfl rfl (by kernel_rfl) hK
  · refine .r [.pl] T [(6, iE (w64 (k1 + 1)))] rfl (by kernel_rfl) ?_
    refine .it h0 rfl [1] (fun s3 => [(0, .vs (.low 1) 1 ((ksStr s3.2.2).length)), (5, iE s3.1), (6, iE s3.2.1)]) n1 (fun s3 => [.o 1 (.vec 9 1 (ksStr s3.2.2))]) [] (by kernel_rfl) (fun n4 s3 h0 => ?_)
    obtain ⟨y1, h1, hw1, hn1⟩ := iter_cons h0
    refine .r [.v (s3.2.2.length : Int)] (A (dStr.len' s3.2.2) T) [(19, dE (s3.2.1 < (s3.2.2.length : Int)))] rfl (by kernel_rfl) ?_
    refine .snV 0 dStr s3.2.2 (by kernel_rfl) (fun hb5 => ?_)
    refine .cP h1 rfl (by kernel_rfl) (fun hc6 h1 => ?_) (fun hc6 h1 => ?_)
    · refine .bPB h1 rfl [1, 6] (fun o7 => [(0, .vs (.low 1) 1 ((ksStr o7.2).length)), (5, iE o7.1)]) n1 (fun o7 => [.o 1 (.vec 9 1 (ksStr o7.2))]) (fun o7 h1 => ?_) (fun y2 h2 hj2 => ?_)
      · refine .r [.pl] T [(6, iE (w64 (s3.2.1 + 1)))] rfl (by kernel_rfl) ?_
        cases h1
        exact .nI rfl _ (hn1 _ rfl) [] (by kernel_rfl)
      · obtain ⟨u8, hu8, h2⟩ := bnd h2
        obtain ⟨e9, he9, h2⟩ := bnd h2
        refine .r [.cs [.s e9]] (A (A (dStr.inv hu8 (rfl : (ksStr s3.2.2).length = (ksStr s3.2.2).length)) (rfl : (ksStr s3.2.2).length = (ksStr s3.2.2).length)) (A (A (A (dStr.rows s3.2.2) (dStr.ixr he9)) (rfl : (ksStr s3.2.2).length = (ksStr s3.2.2).length)) T)) [(7, sE e9)] rfl (by kernel_rfl) ?_
        obtain ⟨k10, hk10, h2⟩ := bnd h2
        refine .r [.call [.low 0] (bE k10) [.cells [lE 1 (ksStr w0)]]] (A (w_im_NeededMacros_1 n _ _ hk10) T) [(29, bE (!k10))] rfl (by kernel_rfl) ?_
        refine .cT h2 rfl (by kernel_rfl) (fun hc11 h2 => ?_) (fun hc11 h2 => ?_)
        · obtain ⟨u12, hu12, h2⟩ := bnd h2
          obtain ⟨e13, he13, h2⟩ := bnd h2
          refine .ro [.cs [.s e13], .sv (ksStr (s3.2.2.set (Int.toNat s3.1) e9))] (A (A (dStr.inv hu12 (rfl : (ksStr s3.2.2).length = (ksStr s3.2.2).length)) (rfl : (ksStr s3.2.2).length = (ksStr s3.2.2).length)) (A (A (A (A (dStr.rows s3.2.2) (dStr.ixr he13)) (rfl : (ksStr s3.2.2).length = (ksStr s3.2.2).length)) (dStr.seti s3.2.2 (Int.toNat s3.1) e9)) T)) [(0, .vs (.low 1) 1 ((ksStr s3.2.2).length))] [.o 1 (.vec 9 1 (ksStr (s3.2.2.set (Int.toNat s3.1) e9)))] rfl (by kernel_rfl) ?_
          refine .rn (by simp only [dStr.length, List.length_set] : (ksStr s3.2.2).length = (ksStr (s3.2.2.set (Int.toNat s3.1) e9)).length) (fun n14 => [(0, .vs (.low 1) 1 n14)]) (fun n14 => []) (fun n14 => []) (by kernel_rfl) ?_
          refine .r [.pl] T [(5, iE (w64 (s3.1 + 1)))] rfl (by kernel_rfl) ?_
          cases h2
          exact .lf hj2 rfl [] (by kernel_rfl)
        · cases h2
          exact .lf hj2 rfl [] (by kernel_rfl)
    · obtain ⟨z15, hz15, h1⟩ := bnd h1
      refine .clr (xs := ksStr s3.2.2) rfl rfl rfl rfl rfl rfl rfl rfl (dStr.cl1 hz15 (rfl : (ksStr s3.2.2).length = (ksStr s3.2.2).length)) (rfl : (ksStr s3.2.2).length = (ksStr s3.2.2).length) (dStr.rows _) (ksStr z15) (dStr.cl2 hz15 (rfl : (ksStr s3.2.2).length = (ksStr s3.2.2).length)) ?_
      refine .rn (by rw [dStr.length, dStr.length, clI_len hz15] : (ksStr s3.2.2).length = (ksStr z15).length) (fun n16 => [(0, .vs (.low 1) 1 n16)]) (fun n16 => []) (fun n16 => []) (by kernel_rfl) ?_
      obtain ⟨z17, hz17, h1⟩ := bnd h1
      refine .rq [.sv (ksStr z17)] [] (A (dStr.tk hz17 (rfl : (ksStr z15).length = (ksStr z15).length)) T) [(4, .vs (.own 100041) 1 ((ksStr z17).length))] [.o 100041 (.vec 9 1 (ksStr z17))] [.o 1 (.tok 9223372036854775808 9)] rfl (by kernel_rfl) ?_
      refine .kp [4] [] ?_
      refine .ft 4 100041 [] dStr z17 (rfl : (ksStr z17).length = (ksStr z17).length) (by kernel_rfl) ?_
      cases h1
      cases hw1 _ rfl
      exact .ret rfl rfl (by kernel_rfl) hK
theorem w_slices_Clone_string_o (n : Nat) : ∀ (a0 : List (List UInt8)) {r : List (List UInt8)}, slices_Clone_string n a0 = some r → SCall X.E 43 [lE 1 (ksStr a0)] [none] (.vs (.low 0) 1 ((ksStr r).length)) [.vec 9 1 (ksStr r)] := by
  intro a0 r h0
  rw [slices_Clone_string] at h0
  refine .m Tryd.func43 rfl rfl rfl (by kernel_rfl) (fun L ks low K hl hL hlen hK => ?_)
  refine .r [] T [] rfl (by kernel_rfl) ?_
  refine .nq rfl (by kernel_rfl) rfl rfl (fun e => ?_) ?_
  · have e : a0 = [] := by cases a0 with
      | nil => rfl
      | cons x q => rw [dStr.eq] at e; cases e
    subst e
    have e : r = [] := by simp [apB] at h0; exact h0
    subst e
    refine .cB true rfl (by kernel_rfl) ?_
    refine .r [] T [(2, fE 1 (ksStr []))] rfl (by kernel_rfl) ?_
    refine .kp [2] [] ?_
    refine .owV 2 400002 9 [] rfl rfl (by kernel_rfl) ?_
    refine .mv 2 400002 0 [] (by kernel_rfl) ?_
    exact .ret rfl rfl (by kernel_rfl) hK
  · refine .cB false rfl (by kernel_rfl) ?_
    obtain ⟨z1, hz1, h0⟩ := bnd h0
    refine .rf [.sv (ksStr []), .mv 7, .sv (ksStr z1)] (A (dStr.lit []) (A (dStr.ap0 hz1) T)) [(2, .vs (.own 100007) 1 (ksStr z1).length)] [.o 100007 (.vec 9 1 (ksStr z1))] rfl (by kernel_rfl) ?_
    refine .kp [2] [] ?_
    cases h0
    refine .mv 2 100007 0 [] (by kernel_rfl) ?_
    exact .ret rfl rfl (by kernel_rfl) hK
theorem w_im_LibraryNames_o (n : Nat) : ∀ {r : List (List UInt8)}, im_LibraryNames n  = some r → SCall X.E 13 [] [none] (.vs (.low 0) 1 ((ksStr r).length)) [.vec 9 1 (ksStr r)] := by
  intro  r h0
  rw [im_LibraryNames] at h0
  refine .m Tryd.func13 rfl rfl rfl (by kernel_rfl) (fun L ks low K hl hL hlen hK => ?_)
  refine .r [] T [] rfl (by kernel_rfl) ?_
  obtain ⟨k1, hk1, h0⟩ := bnd h0
  refine .rf [.call [.own 300020] (.vs (.low 0) 1 ((ksStr k1).length)) [.vec 9 1 (ksStr k1)]] (A (w_slices_Clone_string_o n _ hk1) T) [(0, .vs (.own 300020) 1 ((ksStr k1).length))] [.o 300020 (.vec 9 1 (ksStr k1))] rfl (by kernel_rfl) ?_
  refine .kp [0] [] ?_
  refine .mv 0 300020 0 [] (by kernel_rfl) ?_
  cases h0
  exact .ret rfl rfl (by kernel_rfl) hK
def im_NeededMacros (n : Nat) (a0 : Form) : Option (List (List UInt8)) :=
  (im_NamesOf n a0).bind fun k1 => (im_LibraryNames n).bind fun k2 => (slices_DeleteFunc_string__im_NeededMacros_1_v n k2 k1).bind fun k3 => some k3
theorem w_im_NeededMacros (n : Nat) : ∀ (a0 : Form) {r : List (List UInt8)}, im_NeededMacros n a0 = some r → SCall X.E 25 [aE (kForm a0)] [] (lE 1 (ksStr r)) [] := by
  intro a0 r h0
  rw [im_NeededMacros] at h0
  refine .m Tryd.func25 rfl rfl rfl (by kernel_rfl) (fun L ks low K hl hL hlen hK => ?_)
  refine .rf [] T [(1, pw 1)] [.o 1 (.cells ((kForm a0).map .d))] rfl (by kernel_rfl) ?_
  obtain ⟨k1, hk1, h0⟩ := bnd h0
  refine .rf [.call [] (lE 1 (ksStr k1)) []] (A (w_im_NamesOf n _ hk1) T) [(3, pw 3)] [.o 3 (.cells [lE 1 (ksStr k1)])] rfl (by kernel_rfl) ?_
  obtain ⟨k2, hk2, h0⟩ := bnd h0
  obtain ⟨k3, hk3, h0⟩ := bnd h0
  refine .rf [.call [.own 300060] (.vs (.low 0) 1 ((ksStr k2).length)) [.vec 9 1 (ksStr k2)], .call [.own 3, .own 300060] (lE 1 (ksStr k3)) [.cells [lE 1 (ksStr k1)], .tok 9223372036854775808 9]] (A (w_im_LibraryNames_o n  hk2) (A (w_slices_DeleteFunc_string__im_NeededMacros_1_v n _ _ hk3) T)) [(2, lE 1 (ksStr k3))] [.o 300060 (.tok 9223372036854775808 9)] rfl (by kernel_rfl) ?_
  cases h0
  exact .ret rfl rfl (by kernel_rfl) hK
def la_mxName (n : Nat) (a0 : List (List UInt8)) (a1 : List UInt8) : Option (Bool) :=
  seqS (forI (fun (s2 : Unit) (i1 : Nat) (x4 : List UInt8) => ((if x4 = a1 then some (Sum.inl true) else some (Sum.inr ())) : Option (Bool ⊕ Unit))) 0 a0 ()) (fun (s2 : Unit) => some false)
theorem w_la_mxName (n : Nat) : ∀ (a0 : List (List UInt8)) (a1 : List UInt8) {r : Bool}, la_mxName n a0 a1 = some r → SCall X.E 39 [lE 1 (ksStr a0), sE a1] [] (bE r) [] := by
  intro a0 a1 r h0
  rw [la_mxName] at h0
  refine .m Tryd.func39 rfl rfl rfl (by kernel_rfl) (fun L ks low K hl hL hlen hK => ?_)
  refine .r [] T [] rfl (by kernel_rfl) ?_
  refine .r [] T [(5, iE 0)] rfl (by kernel_rfl) ?_
  refine .lI h0 rfl [0, 1] (fun i1 s2 => [(5, iE (i1 : Int))]) n2 n2 [] (by kernel_rfl) (fun i1 s2 q3 hd5 hi7 h0 => ?_)
  refine .r [.v (a0.length : Int)] (A (dStr.len' a0) T) [(9, dE ((i1 : Int) < (a0.length : Int)))] rfl (by kernel_rfl) ?_
  refine .sn 0 dStr a0 (by kernel_rfl) (fun hb8 => ?_)
  refine .lc hd5 rfl (by kernel_rfl) (fun x4 q32 hc9 hx4 hd6 hd6l => ?_) (fun hc9 => ?_)
  · subst hc9
    obtain ⟨y1, h1, hw1, hn1⟩ := forI_cons h0
    refine .r [.cs [.s x4]] (A (dStr.idn hx4) T) [(17, dE (x4 = a1))] rfl (by kernel_rfl) ?_
    refine .cP h1 rfl (by kernel_rfl) (fun hc10 h1 => ?_) (fun hc10 h1 => ?_)
    · refine .r [] T [(4, bE true)] rfl (by kernel_rfl) ?_
      cases h1
      cases hw1 _ rfl
      exact .ret rfl rfl (by kernel_rfl) hK
    · refine .r [.v ((i1 + 1 : Nat) : Int)] (A (wn (i := i1) (by omega)) T) [(5, iE ((i1 + 1 : Nat) : Int))] rfl (by kernel_rfl) ?_
      cases h1
      exact .nL rfl (i1 + 1) _ hd6 hd6l (hn1 _ rfl) [] (by kernel_rfl)
  · subst hc9
    have h0 := forI_nil h0
    refine .r [] T [(4, bE false)] rfl (by kernel_rfl) ?_
    cases h0
    exact .ret rfl rfl (by kernel_rfl) hK
def la_mxTexts (n : Nat) (a0 : List (List UInt8)) (a1 : List (List UInt8)) : Option (Bool) :=
  (if ¬ (a0.length : Int) = (a1.length : Int) then some false else seqS (forI (fun (s5 : Unit) (i4 : Nat) (x7 : List UInt8) => ((atI a1 (i4 : Int)).bind fun e12 => (if ¬ x7 = e12 then some (Sum.inl false) else some (Sum.inr ())) : Option (Bool ⊕ Unit))) 0 a0 ()) (fun (s5 : Unit) => some true))
theorem w_la_mxTexts (n : Nat) : ∀ (a0 : List (List UInt8)) (a1 : List (List UInt8)) {r : Bool}, la_mxTexts n a0 a1 = some r → SCall X.E 37 [lE 1 (ksStr a0), lE 1 (ksStr a1)] [] (bE r) [] := by
  intro a0 a1 r h0
  rw [la_mxTexts] at h0
  refine .m Tryd.func37 rfl rfl rfl (by kernel_rfl) (fun L ks low K hl hL hlen hK => ?_)
  refine .r [] T [] rfl (by kernel_rfl) ?_
  refine .r [.v (a0.length : Int), .v (a1.length : Int)] (A (dStr.len' a0) (A (dStr.len' a1) T)) [(10, dE (¬ (a0.length : Int) = (a1.length : Int)))] rfl (by kernel_rfl) ?_
  refine .sn 0 dStr a0 (by kernel_rfl) (fun hb1 => ?_)
  refine .sn 1 dStr a1 (by kernel_rfl) (fun hb2 => ?_)
  refine .cP h0 rfl (by kernel_rfl) (fun hc3 h0 => ?_) (fun hc3 h0 => ?_)
  · refine .r [] T [(4, bE false)] rfl (by kernel_rfl) ?_
    cases h0
    exact .ret rfl rfl (by kernel_rfl) hK
  · refine .r [] T [(5, iE 0)] rfl (by kernel_rfl) ?_
    refine .lI h0 rfl [0, 1] (fun i4 s5 => [(5, iE (i4 : Int))]) n2 n2 [] (by kernel_rfl) (fun i4 s5 q6 hd8 hi10 h0 => ?_)
    refine .r [.v (a0.length : Int)] (A (dStr.len' a0) T) [(14, dE ((i4 : Int) < (a0.length : Int)))] rfl (by kernel_rfl) ?_
    refine .lc hd8 rfl (by kernel_rfl) (fun x7 q62 hc11 hx7 hd9 hd9l => ?_) (fun hc11 => ?_)
    · subst hc11
      obtain ⟨y1, h1, hw1, hn1⟩ := forI_cons h0
      obtain ⟨e12, he12, h1⟩ := bnd h1
      refine .rd mixed [(2, [.cs [.s x7]]), (6, [.cs [.s e12]])] [] (A (dStr.idn hx7) (A (dStr.idx he12) T)) [(25, dE (¬ x7 = e12))] [] [] rfl (by kernel_rfl) ?_
      refine .cP h1 rfl (by kernel_rfl) (fun hc13 h1 => ?_) (fun hc13 h1 => ?_)
      · refine .r [] T [(4, bE false)] rfl (by kernel_rfl) ?_
        cases h1
        cases hw1 _ rfl
        exact .ret rfl rfl (by kernel_rfl) hK
      · refine .r [.v ((i4 + 1 : Nat) : Int)] (A (wn (i := i4) (by omega)) T) [(5, iE ((i4 + 1 : Nat) : Int))] rfl (by kernel_rfl) ?_
        cases h1
        exact .nL rfl (i4 + 1) _ hd9 hd9l (hn1 _ rfl) [] (by kernel_rfl)
    · subst hc11
      have h0 := forI_nil h0
      refine .r [] T [(4, bE true)] rfl (by kernel_rfl) ?_
      cases h0
      exact .ret rfl rfl (by kernel_rfl) hK
def sp_l11Texts (n : Nat)  : Option (List (List UInt8)) :=
  some [qand12377ad, qlett7or0924b, qcond215165ee, qletx1yx12e87, qlettmp1z1b94, qwhennot0e6d9, qletnotlifa37, [40, 111, 114, 41], qlistando50f9, qletelse0177b, [40, 97, 110, 100, 41], [40, 110, 111, 116, 41]]
theorem w_sp_l11Texts (n : Nat) : ∀ {r : List (List UInt8)}, sp_l11Texts n  = some r → SCall X.E 77 [] [] (lE 1 (ksStr r)) [] := by
  intro r h0
  rw [sp_l11Texts] at h0
  refine .m Tryd.func77 rfl rfl rfl (by kernel_rfl) (fun L ks low K hl hL hlen hK => ?_)
  refine .r [] T [] rfl (by kernel_rfl) ?_
  refine .r [.sv (ksStr [qand12377ad, qlett7or0924b, qcond215165ee, qletx1yx12e87, qlettmp1z1b94, qwhennot0e6d9, qletnotlifa37, [40, 111, 114, 41], qlistando50f9, qletelse0177b, [40, 97, 110, 100, 41], [40, 110, 111, 116, 41]])] (A (dStr.lit [qand12377ad, qlett7or0924b, qcond215165ee, qletx1yx12e87, qlettmp1z1b94, qwhennot0e6d9, qletnotlifa37, [40, 111, 114, 41], qlistando50f9, qletelse0177b, [40, 97, 110, 100, 41], [40, 110, 111, 116, 41]]) T) [(0, fE 1 (ksStr [qand12377ad, qlett7or0924b, qcond215165ee, qletx1yx12e87, qlettmp1z1b94, qwhennot0e6d9, qletnotlifa37, [40, 111, 114, 41], qlistando50f9, qletelse0177b, [40, 97, 110, 100, 41], [40, 110, 111, 116, 41]]))] rfl (by kernel_rfl) ?_
  cases h0
  exact .ret rfl rfl (by kernel_rfl) hK
def sp_l15Rd_pick (n : Nat) (a1 : Int) (w0 : L15Rd) : Option (Int × L15Rd) :=
  Option.bind ((if a1 < 1 then some true else some (decide ((w0.b.length : Int) = 0))) : Option (Bool)) (fun (o1 : Bool) => (if o1 = true then some (0, (⟨w0.b, (w64 (w0.p + 1))⟩ : L15Rd)) else (if (w64 ((w64 (w0.p + 1)) - 1)) < (w0.b.length : Int) then (atI w0.b (w64 ((w64 (w0.p + 1)) - 1))).bind fun e5 => (remI (IntKind.i64.wrap (e5.toNat : Int)) a1).bind fun z6 => some (z6, (⟨w0.b, (w64 (w0.p + 1))⟩ : L15Rd)) else (remI (w64 ((w64 (w0.p + 1)) - 1)) (w0.b.length : Int)).bind fun z7 => (atI w0.b z7).bind fun e8 => (remI (w64 ((w64 ((w64 ((w64 (w0.p + 1)) - 1)) * 7)) + 3)) (w0.b.length : Int)).bind fun z9 => (atI w0.b z9).bind fun e10 => (quoI (w64 ((w64 (w0.p + 1)) - 1)) (w0.b.length : Int)).bind fun z11 => (quoI (w64 ((w64 ((w64 ((w64 ((IntKind.i64.wrap (e8.toNat : Int)) * 131)) + (w64 ((IntKind.i64.wrap (e10.toNat : Int)) * 1117)))) + (w64 ((w64 ((w64 (w0.p + 1)) - 1)) * 29)))) + (w64 (z11 * 53)))) 64).bind fun z12 => (remI (bitsI .xor .i64 (w64 ((w64 ((w64 ((w64 ((IntKind.i64.wrap (e8.toNat : Int)) * 131)) + (w64 ((IntKind.i64.wrap (e10.toNat : Int)) * 1117)))) + (w64 ((w64 ((w64 (w0.p + 1)) - 1)) * 29)))) + (w64 (z11 * 53)))) z12) a1).bind fun z13 => some (z13, (⟨w0.b, (w64 (w0.p + 1))⟩ : L15Rd)))))
theorem w_sp_l15Rd_pick (n : Nat) : ∀ (a1 : Int) (w0 : L15Rd) {r : Int × L15Rd}, sp_l15Rd_pick n a1 w0 = some r → SCall X.E 78 [pl 0, iE a1] [some (.cells ((kL15Rd w0).map .d))] (iE r.1) [.cells ((kL15Rd r.2).map .d)] := by
  intro a1 w0 r h0
  rw [sp_l15Rd_pick] at h0
  refine .m Tryd.func78 rfl rfl rfl (by kernel_rfl) (fun L ks low K hl hL hlen hK => ?_)
  refine .r [] T [] rfl (by kernel_rfl) ?_
  refine .ro [.pl] T [] [.c 0 1 (iE (w64 (w0.p + 1)))] rfl (by kernel_rfl) ?_
  refine .bP h0 rfl [0, 1] (fun o1 => [(24, bE o1)]) n1 n1 (fun o1 h0 => ?_) (fun y1 h1 hj1 => ?_)
  · refine .cT h0 rfl (by kernel_rfl) (fun hc2 h0 => ?_) (fun hc2 h0 => ?_)
    · refine .r [] T [(4, iE 0)] rfl (by kernel_rfl) ?_
      cases h0
      exact .ret rfl rfl (by kernel_rfl) hK
    · refine .r [.pl] T [(5, iE (w64 ((w64 (w0.p + 1)) - 1)))] rfl (by kernel_rfl) ?_
      refine .r [.v (w0.b.length : Int)] (A (dByte.len' w0.b) T) [(34, lE 1 (ksByte w0.b)), (36, dE ((w64 ((w64 (w0.p + 1)) - 1)) < (w0.b.length : Int)))] rfl (by kernel_rfl) ?_
      refine .sn 34 dByte w0.b (by kernel_rfl) (fun hb3 => ?_)
      refine .cP h0 rfl (by kernel_rfl) (fun hc4 h0 => ?_) (fun hc4 h0 => ?_)
      · obtain ⟨e5, he5, h0⟩ := bnd h0
        obtain ⟨z6, hz6, h0⟩ := bnd h0
        refine .r [.cs [.v (.int .u8 (e5.toNat : Int))], .pl, .v z6] (A (dByte.idx he5) (A (rem_ok hz6) T)) [(4, iE z6)] rfl (by kernel_rfl) ?_
        cases h0
        exact .ret rfl rfl (by kernel_rfl) hK
      · obtain ⟨z7, hz7, h0⟩ := bnd h0
        obtain ⟨e8, he8, h0⟩ := bnd h0
        obtain ⟨z9, hz9, h0⟩ := bnd h0
        obtain ⟨e10, he10, h0⟩ := bnd h0
        obtain ⟨z11, hz11, h0⟩ := bnd h0
        refine .rd mixed [(9, [.v (w0.b.length : Int)]), (10, [.v z7]), (11, [.cs [.v (.int .u8 (e8.toNat : Int))]]), (13, [.pl]), (14, [.pl]), (20, [.pl]), (21, [.pl]), (26, [.v (w0.b.length : Int)]), (27, [.v z9]), (28, [.cs [.v (.int .u8 (e10.toNat : Int))]]), (30, [.pl]), (31, [.pl]), (32, [.pl]), (34, [.pl]), (35, [.pl]), (41, [.v (w0.b.length : Int)]), (42, [.v z11]), (43, [.pl]), (44, [.pl])] [] (A (dByte.len' w0.b) (A (rem_ok hz7) (A (dByte.idx he8) (A (dByte.len' w0.b) (A (rem_ok hz9) (A (dByte.idx he10) (A (dByte.len' w0.b) (A (quo_ok hz11) T)))))))) [(6, iE (w64 ((w64 ((w64 ((w64 ((IntKind.i64.wrap (e8.toNat : Int)) * 131)) + (w64 ((IntKind.i64.wrap (e10.toNat : Int)) * 1117)))) + (w64 ((w64 ((w64 (w0.p + 1)) - 1)) * 29)))) + (w64 (z11 * 53)))))] [] [] rfl (by kernel_rfl) ?_
        obtain ⟨z12, hz12, h0⟩ := bnd h0
        refine .r [.v z12, .pl] (A (quo_ok hz12) T) [(6, iE (bitsI .xor .i64 (w64 ((w64 ((w64 ((w64 ((IntKind.i64.wrap (e8.toNat : Int)) * 131)) + (w64 ((IntKind.i64.wrap (e10.toNat : Int)) * 1117)))) + (w64 ((w64 ((w64 (w0.p + 1)) - 1)) * 29)))) + (w64 (z11 * 53)))) z12))] rfl (by kernel_rfl) ?_
        obtain ⟨z13, hz13, h0⟩ := bnd h0
        refine .r [.v z13] (A (rem_ok hz13) T) [(4, iE z13)] rfl (by kernel_rfl) ?_
        cases h0
        exact .ret rfl rfl (by kernel_rfl) hK
  · by_cases g14 : a1 < 1
    · have h1 := iteP g14 h1
      refine .r [.b true, .b true, .b true, .b true, .b true, .b true, .b true] (A (decide_eq_true g14 : decide (a1 < 1) = true) (A (decide_eq_true g14 : decide (a1 < 1) = true) (A (decide_eq_true g14 : decide (a1 < 1) = true) (A (decide_eq_true g14 : decide (a1 < 1) = true) (A (decide_eq_true g14 : decide (a1 < 1) = true) (A (decide_eq_true g14 : decide (a1 < 1) = true) (A (decide_eq_true g14 : decide (a1 < 1) = true) T))))))) [(24, bE true)] rfl (by kernel_rfl) ?_
      cases h1
      exact .lf hj1 rfl [] (by kernel_rfl)
    · have h1 := iteN g14 h1
      refine .r [.b false, .b false, .b false, .b false, .b false, .v (w0.b.length : Int), .b false, .b false] (A (decide_eq_false g14 : decide (a1 < 1) = false) (A (decide_eq_false g14 : decide (a1 < 1) = false) (A (decide_eq_false g14 : decide (a1 < 1) = false) (A (decide_eq_false g14 : decide (a1 < 1) = false) (A (A (decide_eq_false g14 : decide (a1 < 1) = false) (dByte.len' w0.b)) (A (decide_eq_false g14 : decide (a1 < 1) = false) (A (decide_eq_false g14 : decide (a1 < 1) = false) T))))))) [(24, dE ((w0.b.length : Int) = 0))] rfl (by kernel_rfl) ?_
      cases h1
      exact .lf hj1 rfl [] (by kernel_rfl)
def sp_l15Rd_num (n : Nat) (a1 : List Int) (w0 : L15Rd) : Option (Int × L15Rd) :=
  (sp_l15Rd_pick n (a1.length : Int) w0).bind fun k1 => (atI a1 k1.1).bind fun e2 => some (e2, k1.2)
theorem w_sp_l15Rd_num (n : Nat) : ∀ (a1 : List Int) (w0 : L15Rd) {r : Int × L15Rd}, sp_l15Rd_num n a1 w0 = some r → SCall X.E 85 [pl 0, lE 1 (ksInt a1)] [some (.cells ((kL15Rd w0).map .d))] (iE r.1) [.cells ((kL15Rd r.2).map .d)] := by
  intro a1 w0 r h0
  rw [sp_l15Rd_num] at h0
  refine .m Tryd.func85 rfl rfl rfl (by kernel_rfl) (fun L ks low K hl hL hlen hK => ?_)
  refine .r [] T [] rfl (by kernel_rfl) ?_
  obtain ⟨k1, hk1, h0⟩ := bnd h0
  obtain ⟨e2, he2, h0⟩ := bnd h0
  refine .ro [.v (a1.length : Int), .call [.low 0] (iE k1.1) [.cells ((kL15Rd k1.2).map .d)], .cs [.v (.int .i64 e2)]] (A (dInt.len' a1) (A (w_sp_l15Rd_pick n _ _ hk1) (A (dInt.idx he2) T))) [(4, iE e2)] [.o 0 (.cells ((kL15Rd k1.2).map .d))] rfl (by kernel_rfl) ?_
  refine .sn 1 dInt a1 (by kernel_rfl) (fun hb3 => ?_)
  cases h0
  exact .ret rfl rfl (by kernel_rfl) hK
def sp_l15Rd_of (n : Nat) (a1 : List (List UInt8)) (w0 : L15Rd) : Option ((List UInt8) × L15Rd) :=
  (sp_l15Rd_pick n (a1.length : Int) w0).bind fun k1 => (atI a1 k1.1).bind fun e2 => some (e2, k1.2)
theorem w_sp_l15Rd_of (n : Nat) : ∀ (a1 : List (List UInt8)) (w0 : L15Rd) {r : (List UInt8) × L15Rd}, sp_l15Rd_of n a1 w0 = some r → SCall X.E 89 [pl 0, lE 1 (ksStr a1)] [some (.cells ((kL15Rd w0).map .d))] (sE r.1) [.cells ((kL15Rd r.2).map .d)] := by
  intro a1 w0 r h0
  rw [sp_l15Rd_of] at h0
  refine .m Tryd.func89 rfl rfl rfl (by kernel_rfl) (fun L ks low K hl hL hlen hK => ?_)
  refine .r [] T [] rfl (by kernel_rfl) ?_
  obtain ⟨k1, hk1, h0⟩ := bnd h0
  obtain ⟨e2, he2, h0⟩ := bnd h0
  refine .ro [.v (a1.length : Int), .call [.low 0] (iE k1.1) [.cells ((kL15Rd k1.2).map .d)], .cs [.s e2]] (A (dStr.len' a1) (A (w_sp_l15Rd_pick n _ _ hk1) (A (dStr.idx he2) T))) [(4, sE e2)] [.o 0 (.cells ((kL15Rd k1.2).map .d))] rfl (by kernel_rfl) ?_
  refine .sn 1 dStr a1 (by kernel_rfl) (fun hb3 => ?_)
  cases h0
  exact .ret rfl rfl (by kernel_rfl) hK
def sp_l1Copy : Nat → Form → Option (Form)
  | 0, _ => none
  | n + 1, a0 => (apB 8 [] a0.scopes).bind fun z1 => Option.bind (forL (fun (s3 : List Form) (i2 : Nat) (x5 : Form) => (sp_l1Copy n x5).bind fun k11 => (apB 80 s3 [k11]).bind fun z12 => some z12) 0 a0.kids []) (fun (s3 : List Form) => some (⟨a0.kind, a0.name, a0.n, z1, s3⟩ : Form))
theorem w_sp_l1Copy (n : Nat) : ∀ (a0 : Form) {r : Form}, sp_l1Copy n a0 = some r → SCall X.E 88 [aE (kForm a0)] [] (aE (kForm r)) [] := by
  induction n with
  | zero => intro a0 r h; cases h
  | succ n ih =>
    intro a0 r h0
    rw [sp_l1Copy] at h0
    refine .m Tryd.func88 rfl rfl rfl (by kernel_rfl) (fun L ks low K hl hL hlen hK => ?_)
    refine .rf [] T [(1, pw 1), (2, pw 2)] [.o 1 (.cells ((kForm a0).map .d)), .o 2 (.cells [iE 0, sE [], iE 0, fE 1 (ksInt []), fE 5 (ksForm [])])] rfl (by kernel_rfl) ?_
    obtain ⟨z1, hz1, h0⟩ := bnd h0
    refine .rd mixed [(6, [.sv (ksInt [])]), (9, [.sv (ksInt z1)])] [] (A (dInt.lit []) (A (dInt.ap hz1) T)) [(3, pw 3)] [.o 100014 (.tok (ksInt z1).length 3), .o 3 (.cells [iE a0.kind, sE a0.name, iE a0.n, .gs (.own 100014) 1 (ksInt z1), fE 5 (ksForm [])])] [] rfl (by kernel_rfl) ?_
    refine .r [] T [(4, iE 0)] rfl (by kernel_rfl) ?_
    refine .oc 3 4 100032 41 (by kernel_rfl) ?_
    refine .lL h0 rfl [1, 2, 3] (fun i2 s3 => [(4, iE (i2 : Int))]) (fun i2 s3 => [.c 3 4 (.gs (.own 100032) 5 (ksForm s3)), .o 100032 (.tok (ksForm s3).length 41)]) n2 [] (by kernel_rfl) (fun i2 s3 q4 hd6 hi8 h0 => ?_)
    refine .r [.v (a0.kids.length : Int)] (A (dForm.len' a0.kids) T) [(18, lE 5 (ksForm a0.kids)), (20, dE ((i2 : Int) < (a0.kids.length : Int)))] rfl (by kernel_rfl) ?_
    refine .sn 18 dForm a0.kids (by kernel_rfl) (fun hb9 => ?_)
    refine .lc hd6 rfl (by kernel_rfl) (fun x5 q42 hc10 hx5 hd7 hd7l => ?_) (fun hc10 => ?_)
    · subst hc10
      obtain ⟨y1, h1, hn1⟩ := forL_cons h0
      obtain ⟨k11, hk11, h1⟩ := bnd h1
      obtain ⟨z12, hz12, h1⟩ := bnd h1
      refine .rd mixed [(5, [.cs (kForm x5)]), (7, [.call [] (aE (kForm k11)) []]), (8, [.sv (ksForm [k11])]), (9, [.sv (ksForm z12)])] [((ksForm s3).length : Int)] (A (dForm.idn hx5) (A (ih _ hk11) (A (dForm.lit [k11]) (A (dForm.ap hz12) T)))) [] [.c 3 4 (.gs (.own 100032) 5 (ksForm z12)), .o 100032 (.tok (ksForm z12).length 41)] [] rfl (by kernel_rfl) ?_
      refine .r [.v ((i2 + 1 : Nat) : Int)] (A (wn (i := i2) (by omega)) T) [(4, iE ((i2 + 1 : Nat) : Int))] rfl (by kernel_rfl) ?_
      cases h1
      exact .nL rfl (i2 + 1) _ hd7 hd7l hn1 [] (by kernel_rfl)
    · subst hc10
      have h0 := forL_nil h0
      refine .rf [] T [] [.o 2 (.cells [iE a0.kind, sE a0.name, iE a0.n, .gs (.own 100014) 1 (ksInt z1), .gs (.own 100032) 5 (ksForm s3)])] rfl (by kernel_rfl) ?_
      cases h0
      exact .ret rfl rfl (by kernel_rfl) hK
theorem w_sp_l1Copy_o (n : Nat) : ∀ (a0 : Form) {r : Form}, sp_l1Copy n a0 = some r → SCall X.E 88 [aE (kForm a0)] [none, none] (.agg [iE r.kind, sE r.name, iE r.n, .gs (.low 0) 1 (ksInt r.scopes), .vs (.low 1) 5 ((ksForm r.kids).length)]) [.tok (ksInt r.scopes).length 3, .vec 41 5 (ksForm r.kids)] := by
  cases n with
  | zero => intro a0 r h; cases h
  | succ n =>
    intro a0 r h0
    rw [sp_l1Copy] at h0
    refine .m Tryd.func88 rfl rfl rfl (by kernel_rfl) (fun L ks low K hl hL hlen hK => ?_)
    refine .rf [] T [(1, pw 1), (2, pw 2)] [.o 1 (.cells ((kForm a0).map .d)), .o 2 (.cells [iE 0, sE [], iE 0, fE 1 (ksInt []), fE 5 (ksForm [])])] rfl (by kernel_rfl) ?_
    obtain ⟨z1, hz1, h0⟩ := bnd h0
    refine .rd mixed [(6, [.sv (ksInt [])]), (9, [.sv (ksInt z1)])] [] (A (dInt.lit []) (A (dInt.ap hz1) T)) [(3, pw 3)] [.o 100014 (.tok (ksInt z1).length 3), .o 3 (.cells [iE a0.kind, sE a0.name, iE a0.n, .gs (.own 100014) 1 (ksInt z1), fE 5 (ksForm [])])] [] rfl (by kernel_rfl) ?_
    refine .r [] T [(4, iE 0)] rfl (by kernel_rfl) ?_
    refine .ov 3 4 100032 41 (by kernel_rfl) ?_
    refine .lL h0 rfl [1, 2, 3] (fun i2 s3 => [(4, iE (i2 : Int))]) (fun i2 s3 => [.c 3 4 (.vs (.own 100032) 5 ((ksForm s3).length)), .o 100032 (.vec 41 5 (ksForm s3))]) n2 [] (by kernel_rfl) (fun i2 s3 q4 hd6 hi8 h0 => ?_)
    refine .r [.v (a0.kids.length : Int)] (A (dForm.len' a0.kids) T) [(18, lE 5 (ksForm a0.kids)), (20, dE ((i2 : Int) < (a0.kids.length : Int)))] rfl (by kernel_rfl) ?_
    refine .sn 18 dForm a0.kids (by kernel_rfl) (fun hb9 => ?_)
    refine .lc hd6 rfl (by kernel_rfl) (fun x5 q42 hc10 hx5 hd7 hd7l => ?_) (fun hc10 => ?_)
    · subst hc10
      obtain ⟨y1, h1, hn1⟩ := forL_cons h0
      obtain ⟨k11, hk11, h1⟩ := bnd h1
      obtain ⟨z12, hz12, h1⟩ := bnd h1
      refine .rd mixed [(5, [.cs (kForm x5)]), (7, [.call [] (aE (kForm k11)) []]), (8, [.sv (ksForm [k11])]), (9, [.sv (ksForm z12)])] [] (A (dForm.idn hx5) (A (w_sp_l1Copy n _ hk11) (A (dForm.lit [k11]) (A (A (dForm.ap hz12) (rfl : (ksForm s3).length = (ksForm s3).length)) T)))) [] [.c 3 4 (.vs (.own 100032) 5 ((ksForm z12).length)), .o 100032 (.vec 41 5 (ksForm z12))] [] rfl (by kernel_rfl) ?_
      refine .r [.v ((i2 + 1 : Nat) : Int)] (A (wn (i := i2) (by omega)) T) [(4, iE ((i2 + 1 : Nat) : Int))] rfl (by kernel_rfl) ?_
      cases h1
      exact .nL rfl (i2 + 1) _ hd7 hd7l hn1 [] (by kernel_rfl)
    · subst hc10
      have h0 := forL_nil h0
      refine .rf [] T [] [.o 2 (.cells [iE a0.kind, sE a0.name, iE a0.n, .gs (.own 100014) 1 (ksInt z1), .vs (.own 100032) 5 ((ksForm s3).length)])] rfl (by kernel_rfl) ?_
      refine .kp [2] [] ?_
      refine .dr 1 (by kernel_rfl) ?_
      refine .dr 3 (by kernel_rfl) ?_
      refine .mt 2 3 100014 0 (by kernel_rfl) ?_
      refine .mc 2 4 100032 1 (by kernel_rfl) ?_
      cases h0
      exact .ret rfl rfl (by kernel_rfl) hK
def sp_l1Mutate : Nat → Form → L15Rd → Option (Form × L15Rd)
  | 0, _, _ => none
  | n + 1, a1, w0 => (sp_l1Copy n a1).bind fun k1 => Option.bind ((if (k1.kids.length : Int) > 0 then (sp_l15Rd_pick n 2 w0).bind fun k23 => some ((decide (k23.1 > 0)), k23.2) else some (false, w0)) : Option (Bool × L15Rd)) (fun (o2 : Bool × L15Rd) => (if o2.1 = true then (sp_l15Rd_pick n (k1.kids.length : Int) o2.2).bind fun k4 => (inB k4.1 k1.kids.length).bind fun u6 => (k1.kids[(Int.toNat k4.1)]?).bind fun e7 => (sp_l1Mutate n e7 k4.2).bind fun k8 => (inB k4.1 k1.kids.length).bind fun u9 => some ((⟨k1.kind, k1.name, k1.n, k1.scopes, (k1.kids.set (Int.toNat k4.1) k8.1)⟩ : Form), k8.2) else (sp_l15Rd_pick n 14 o2.2).bind fun k11 => Option.bind ((if k11.1 = 0 then (sp_l15Rd_num n [0, 4, 1, 3] k11.2).bind fun k14 => some (k14.1, k1.name, k1.n, k1.scopes, k14.2) else (if k11.1 = 1 then (sp_l15Rd_of n [[], [65], qtoolongaa406, [122], [120, 32, 121]] k11.2).bind fun k16 => some (k1.kind, k16.1, k1.n, k1.scopes, k16.2) else (if k11.1 = 2 then (sp_l15Rd_num n [1000, (-1), 5] k11.2).bind fun k18 => some (k1.kind, k1.name, k18.1, k1.scopes, k18.2) else (if k11.1 = 3 then (sp_l15Rd_num n [0, 100, 1, 50] k11.2).bind fun k20 => (apB 8 k1.scopes [k20.1]).bind fun z21 => some (k1.kind, k1.name, k1.n, z21, k20.2) else some (k1.kind, k1.name, k1.n, k1.scopes, k11.2))))) : Option (Int × (List UInt8) × Int × (List Int) × L15Rd)) (fun (o12 : Int × (List UInt8) × Int × (List Int) × L15Rd) => some ((⟨o12.1, o12.2.1, o12.2.2.1, o12.2.2.2.1, k1.kids⟩ : Form), o12.2.2.2.2))))
theorem w_sp_l1Mutate (n : Nat) : ∀ (a1 : Form) (w0 : L15Rd) {r : Form × L15Rd}, sp_l1Mutate n a1 w0 = some r → SCall X.E 81 [pl 0, aE (kForm a1)] [some (.cells ((kL15Rd w0).map .d))] (aE (kForm r.1)) [.cells ((kL15Rd r.2).map .d)] := by
  induction n with
  | zero => intro a1 w0 r h; cases h
  | succ n ih =>
    intro a1 w0 r h0
    rw [sp_l1Mutate] at h0
    refine .m Tryd.func81 rfl rfl rfl (by kernel_rfl) (fun L ks low K hl hL hlen hK => ?_)
    refine .rf [] T [(3, pw 3), (4, pw 4)] [.o 3 (.cells ((kForm a1).map .d)), .o 4 (.cells [iE 0, sE [], iE 0, fE 1 (ksInt []), fE 5 (ksForm [])])] rfl (by kernel_rfl) ?_
    obtain ⟨k1, hk1, h0⟩ := bnd h0
    refine .rf [.call [.own 300080, .own 300081] (.agg [iE k1.kind, sE k1.name, iE k1.n, .gs (.low 0) 1 (ksInt k1.scopes), .vs (.low 1) 5 ((ksForm k1.kids).length)]) [.tok (ksInt k1.scopes).length 3, .vec 41 5 (ksForm k1.kids)]] (A (w_sp_l1Copy_o n _ hk1) T) [(5, pw 5)] [.o 300080 (.tok (ksInt k1.scopes).length 3), .o 300081 (.vec 41 5 (ksForm k1.kids)), .o 5 (.cells [iE k1.kind, sE k1.name, iE k1.n, .gs (.own 300080) 1 (ksInt k1.scopes), .vs (.own 300081) 5 ((ksForm k1.kids).length)])] rfl (by kernel_rfl) ?_
    refine .bP h0 rfl [0, 4, 5] (fun o2 => [(17, bE o2.1)]) n1 (fun o2 => [.o 0 (.cells ((kL15Rd o2.2).map .d))]) (fun o2 h0 => ?_) (fun y1 h1 hj1 => ?_)
    · refine .cT h0 rfl (by kernel_rfl) (fun hc3 h0 => ?_) (fun hc3 h0 => ?_)
      · obtain ⟨k4, hk4, h0⟩ := bnd h0
        refine .ro [.v (k1.kids.length : Int), .call [.low 0] (iE k4.1) [.cells ((kL15Rd k4.2).map .d)]] (A (dForm.len' k1.kids) (A (w_sp_l15Rd_pick n _ _ hk4) T)) [(6, iE k4.1), (20, .vs (.own 300081) 5 ((ksForm k1.kids).length))] [.o 0 (.cells ((kL15Rd k4.2).map .d))] rfl (by kernel_rfl) ?_
        refine .snV 20 dForm k1.kids (by kernel_rfl) (fun hb5 => ?_)
        obtain ⟨u6, hu6, h0⟩ := bnd h0
        obtain ⟨e7, he7, h0⟩ := bnd h0
        obtain ⟨k8, hk8, h0⟩ := bnd h0
        obtain ⟨u9, hu9, h0⟩ := bnd h0
        refine .rd mixed [(8, [.cs (kForm e7)]), (9, [.call [.low 0] (aE (kForm k8.1)) [.cells ((kL15Rd k8.2).map .d)]]), (11, [.cs (kForm e7), .sv (ksForm (k1.kids.set (Int.toNat k4.1) k8.1))])] [] (A (A (dForm.inv hu6 (rfl : (ksForm k1.kids).length = (ksForm k1.kids).length)) (rfl : (ksForm k1.kids).length = (ksForm k1.kids).length)) (A (A (A (dForm.rows k1.kids) (dForm.ixr he7)) (rfl : (ksForm k1.kids).length = (ksForm k1.kids).length)) (A (ih _ _ hk8) (A (A (dForm.inv hu9 (rfl : (ksForm k1.kids).length = (ksForm k1.kids).length)) (rfl : (ksForm k1.kids).length = (ksForm k1.kids).length)) (A (A (A (A (dForm.rows k1.kids) (dForm.ixr he7)) (rfl : (ksForm k1.kids).length = (ksForm k1.kids).length)) (dForm.seti k1.kids (Int.toNat k4.1) k8.1)) T))))) [] [.o 300081 (.vec 41 5 (ksForm (k1.kids.set (Int.toNat k4.1) k8.1))), .c 5 4 (.vs (.own 300081) 5 ((ksForm k1.kids).length))] [.o 0 (.cells ((kL15Rd k8.2).map .d))] rfl (by kernel_rfl) ?_
        refine .rn (by simp only [dForm.length, List.length_set] : (ksForm k1.kids).length = (ksForm (k1.kids.set (Int.toNat k4.1) k8.1)).length) (fun n10 => []) (fun n10 => [.c 5 4 (.vs (.own 300081) 5 n10)]) (fun n10 => []) (by kernel_rfl) ?_
        refine .rf [] T [] [.o 4 (.cells [iE k1.kind, sE k1.name, iE k1.n, .gs (.own 300080) 1 (ksInt k1.scopes), .vs (.own 300081) 5 ((ksForm (k1.kids.set (Int.toNat k4.1) k8.1)).length)])] rfl (by kernel_rfl) ?_
        refine .kp [4] [] ?_
        refine .dr 3 (by kernel_rfl) ?_
        refine .dr 5 (by kernel_rfl) ?_
        refine .fc 4 4 300081 dForm (k1.kids.set (Int.toNat k4.1) k8.1) (rfl : (ksForm (k1.kids.set (Int.toNat k4.1) k8.1)).length = (ksForm (k1.kids.set (Int.toNat k4.1) k8.1)).length) (by kernel_rfl) ?_
        cases h0
        exact .ret rfl rfl (by kernel_rfl) hK
      · obtain ⟨k11, hk11, h0⟩ := bnd h0
        refine .ro [.call [.low 0] (iE k11.1) [.cells ((kL15Rd k11.2).map .d)]] (A (w_sp_l15Rd_pick n _ _ hk11) T) [(36, iE k11.1)] [.o 0 (.cells ((kL15Rd k11.2).map .d))] rfl (by kernel_rfl) ?_
        refine .bPB h0 rfl [4, 5] (fun o12 => []) (fun o12 => [.o 300080 (.tok (ksInt o12.2.2.2.1).length 3), .c 5 0 (iE o12.1), .c 5 1 (sE o12.2.1), .c 5 2 (iE o12.2.2.1), .c 5 3 (.gs (.own 300080) 1 (ksInt o12.2.2.2.1))]) (fun o12 => [.o 0 (.cells ((kL15Rd o12.2.2.2.2).map .d))]) (fun o12 h0 => ?_) (fun y1 h1 hj1 => ?_)
        · refine .rf [] T [] [.o 4 (.cells [iE o12.1, sE o12.2.1, iE o12.2.2.1, .gs (.own 300080) 1 (ksInt o12.2.2.2.1), .vs (.own 300081) 5 ((ksForm k1.kids).length)])] rfl (by kernel_rfl) ?_
          refine .kp [4] [] ?_
          refine .dr 3 (by kernel_rfl) ?_
          refine .dr 5 (by kernel_rfl) ?_
          refine .fc 4 4 300081 dForm k1.kids (rfl : (ksForm k1.kids).length = (ksForm k1.kids).length) (by kernel_rfl) ?_
          cases h0
          exact .ret rfl rfl (by kernel_rfl) hK
        · refine .r [] T [(37, dE (k11.1 = 0))] rfl (by kernel_rfl) ?_
          refine .cP h1 rfl (by kernel_rfl) (fun hc13 h1 => ?_) (fun hc13 h1 => ?_)
          · obtain ⟨k14, hk14, h1⟩ := bnd h1
            refine .rq [.sv (ksInt [0, 4, 1, 3]), .call [.low 0] (iE k14.1) [.cells ((kL15Rd k14.2).map .d)]] [] (A (dInt.lit [0, 4, 1, 3]) (A (w_sp_l15Rd_num n _ _ hk14) T)) [] [.c 5 0 (iE k14.1)] [.o 0 (.cells ((kL15Rd k14.2).map .d))] rfl (by kernel_rfl) ?_
            cases h1
            exact .lf hj1 rfl [] (by kernel_rfl)
          · refine .r [] T [(43, dE (k11.1 = 1))] rfl (by kernel_rfl) ?_
            refine .cP h1 rfl (by kernel_rfl) (fun hc15 h1 => ?_) (fun hc15 h1 => ?_)
            · obtain ⟨k16, hk16, h1⟩ := bnd h1
              refine .rq [.sv (ksStr [[], [65], qtoolongaa406, [122], [120, 32, 121]]), .call [.low 0] (sE k16.1) [.cells ((kL15Rd k16.2).map .d)]] [] (A (dStr.lit [[], [65], qtoolongaa406, [122], [120, 32, 121]]) (A (w_sp_l15Rd_of n _ _ hk16) T)) [] [.c 5 1 (sE k16.1)] [.o 0 (.cells ((kL15Rd k16.2).map .d))] rfl (by kernel_rfl) ?_
              cases h1
              exact .lf hj1 rfl [] (by kernel_rfl)
            · refine .r [] T [(49, dE (k11.1 = 2))] rfl (by kernel_rfl) ?_
              refine .cP h1 rfl (by kernel_rfl) (fun hc17 h1 => ?_) (fun hc17 h1 => ?_)
              · obtain ⟨k18, hk18, h1⟩ := bnd h1
                refine .rq [.sv (ksInt [1000, (-1), 5]), .call [.low 0] (iE k18.1) [.cells ((kL15Rd k18.2).map .d)]] [] (A (dInt.lit [1000, (-1), 5]) (A (w_sp_l15Rd_num n _ _ hk18) T)) [] [.c 5 2 (iE k18.1)] [.o 0 (.cells ((kL15Rd k18.2).map .d))] rfl (by kernel_rfl) ?_
                cases h1
                exact .lf hj1 rfl [] (by kernel_rfl)
              · refine .r [] T [(55, dE (k11.1 = 3))] rfl (by kernel_rfl) ?_
                refine .cP h1 rfl (by kernel_rfl) (fun hc19 h1 => ?_) (fun hc19 h1 => ?_)
                · obtain ⟨k20, hk20, h1⟩ := bnd h1
                  obtain ⟨z21, hz21, h1⟩ := bnd h1
                  refine .rd mixed [(3, [.sv (ksInt [0, 100, 1, 50])]), (4, [.call [.low 0] (iE k20.1) [.cells ((kL15Rd k20.2).map .d)]]), (5, [.sv (ksInt [k20.1])]), (6, [.sv (ksInt z21)])] [((ksInt k1.scopes).length : Int)] (A (dInt.lit [0, 100, 1, 50]) (A (w_sp_l15Rd_num n _ _ hk20) (A (dInt.lit [k20.1]) (A (dInt.ap hz21) T)))) [] [.o 300080 (.tok (ksInt z21).length 3), .c 5 3 (.gs (.own 300080) 1 (ksInt z21))] [.o 0 (.cells ((kL15Rd k20.2).map .d))] rfl (by kernel_rfl) ?_
                  cases h1
                  exact .lf hj1 rfl [] (by kernel_rfl)
                · cases h1
                  exact .lf hj1 rfl [] (by kernel_rfl)
    · by_cases g22 : (k1.kids.length : Int) > 0
      · have h1 := iteP g22 h1
        obtain ⟨k23, hk23, h1⟩ := bnd h1
        refine .ro [.v (k1.kids.length : Int), .b true, .b true, .call [.low 0] (iE k23.1) [.cells ((kL15Rd k23.2).map .d)], .b true, .b true] (A (dForm.len' k1.kids) (A (decide_eq_true g22 : decide ((k1.kids.length : Int) > 0) = true) (A (A (decide_eq_true g22 : decide ((k1.kids.length : Int) > 0) = true) (w_sp_l15Rd_pick n _ _ hk23)) (A (decide_eq_true g22 : decide ((k1.kids.length : Int) > 0) = true) (A (decide_eq_true g22 : decide ((k1.kids.length : Int) > 0) = true) T))))) [(17, dE (k23.1 > 0))] [.o 0 (.cells ((kL15Rd k23.2).map .d))] rfl (by kernel_rfl) ?_
        cases h1
        exact .lf hj1 rfl [] (by kernel_rfl)
      · have h1 := iteN g22 h1
        refine .r [.v (k1.kids.length : Int), .b false, .b false, .b false, .b false] (A (dForm.len' k1.kids) (A (decide_eq_false g22 : decide ((k1.kids.length : Int) > 0) = false) (A (decide_eq_false g22 : decide ((k1.kids.length : Int) > 0) = false) (A (decide_eq_false g22 : decide ((k1.kids.length : Int) > 0) = false) (A (decide_eq_false g22 : decide ((k1.kids.length : Int) > 0) = false) T))))) [(17, bE false)] rfl (by kernel_rfl) ?_
        cases h1
        exact .lf hj1 rfl [] (by kernel_rfl)
def sp_l1Count : Nat → Form → Option (Int)
  | 0, _ => none
  | n + 1, a0 => Option.bind (forL (fun (s2 : Int) (i1 : Nat) (x4 : Form) => (sp_l1Count n x4).bind fun k10 => some (w64 (s2 + k10))) 0 a0.kids 1) (fun (s2 : Int) => some s2)
theorem w_sp_l1Count (n : Nat) : ∀ (a0 : Form) {r : Int}, sp_l1Count n a0 = some r → SCall X.E 96 [aE (kForm a0)] [] (iE r) [] := by
  induction n with
  | zero => intro a0 r h; cases h
  | succ n ih =>
    intro a0 r h0
    rw [sp_l1Count] at h0
    refine .m Tryd.func96 rfl rfl rfl (by kernel_rfl) (fun L ks low K hl hL hlen hK => ?_)
    refine .rf [] T [(1, pw 1)] [.o 1 (.cells ((kForm a0).map .d))] rfl (by kernel_rfl) ?_
    refine .r [] T [(3, iE 1)] rfl (by kernel_rfl) ?_
    refine .r [] T [(4, iE 0)] rfl (by kernel_rfl) ?_
    refine .lL h0 rfl [1] (fun i1 s2 => [(3, iE s2), (4, iE (i1 : Int))]) n2 n2 [] (by kernel_rfl) (fun i1 s2 q3 hd5 hi7 h0 => ?_)
    refine .r [.v (a0.kids.length : Int)] (A (dForm.len' a0.kids) T) [(7, lE 5 (ksForm a0.kids)), (9, dE ((i1 : Int) < (a0.kids.length : Int)))] rfl (by kernel_rfl) ?_
    refine .sn 7 dForm a0.kids (by kernel_rfl) (fun hb8 => ?_)
    refine .lc hd5 rfl (by kernel_rfl) (fun x4 q32 hc9 hx4 hd6 hd6l => ?_) (fun hc9 => ?_)
    · subst hc9
      obtain ⟨y1, h1, hn1⟩ := forL_cons h0
      obtain ⟨k10, hk10, h1⟩ := bnd h1
      refine .r [.cs (kForm x4), .call [] (iE k10) [], .pl] (A (dForm.idn hx4) (A (ih _ hk10) T)) [(3, iE (w64 (s2 + k10)))] rfl (by kernel_rfl) ?_
      refine .r [.v ((i1 + 1 : Nat) : Int)] (A (wn (i := i1) (by omega)) T) [(4, iE ((i1 + 1 : Nat) : Int))] rfl (by kernel_rfl) ?_
      cases h1
      exact .nL rfl (i1 + 1) _ hd6 hd6l hn1 [] (by kernel_rfl)
    · subst hc9
      have h0 := forL_nil h0
      refine .r [] T [(2, iE s2)] rfl (by kernel_rfl) ?_
      cases h0
      exact .ret rfl rfl (by kernel_rfl) hK
def sp_l1Letter (n : Nat) (a0 : Int) (a1 : Bool) : Option (Bool) :=
  Option.bind ((if a0 ≥ 97 then (if a0 ≤ 122 then some true else (if a0 = 42 then some true else (if a0 = 63 then some true else (if a0 = 61 then some true else (if a0 = 43 then some true else some (decide (a0 = 60))))))) else (if a0 = 42 then some true else (if a0 = 63 then some true else (if a0 = 61 then some true else (if a0 = 43 then some true else some (decide (a0 = 60))))))) : Option (Bool)) (fun (o1 : Bool) => (if o1 = true then some true else Option.bind ((if (!a1) = true then (if a0 ≥ 48 then (if a0 ≤ 57 then some true else some (decide (a0 = 45))) else some (decide (a0 = 45))) else some false) : Option (Bool)) (fun (o3 : Bool) => some o3)))
theorem w_sp_l1Letter (n : Nat) : ∀ (a0 : Int) (a1 : Bool) {r : Bool}, sp_l1Letter n a0 a1 = some r → SCall X.E 103 [.d (.v (.int .u8 a0)), bE a1] [] (bE r) [] := by
  intro a0 a1 r h0
  rw [sp_l1Letter] at h0
  refine .m Tryd.func103 rfl rfl rfl (by kernel_rfl) (fun L ks low K hl hL hlen hK => ?_)
  refine .r [] T [] rfl (by kernel_rfl) ?_
  refine .bP h0 rfl [0, 1] (fun o1 => [(30, bE o1)]) n1 n1 (fun o1 h0 => ?_) (fun y1 h1 hj1 => ?_)
  · refine .cT h0 rfl (by kernel_rfl) (fun hc2 h0 => ?_) (fun hc2 h0 => ?_)
    · refine .r [] T [(4, bE true)] rfl (by kernel_rfl) ?_
      cases h0
      exact .ret rfl rfl (by kernel_rfl) hK
    · refine .bP h0 rfl [] (fun o3 => [(4, bE o3)]) n1 n1 (fun o3 h0 => ?_) (fun y1 h1 hj1 => ?_)
      · cases h0
        exact .ret rfl rfl (by kernel_rfl) hK
      · by_cases g4 : (!a1) = true
        · have h1 := iteP g4 h1
          by_cases g5 : a0 ≥ 48
          · have h1 := iteP g5 h1
            by_cases g6 : a0 ≤ 57
            · have h1 := iteP g6 h1
              refine .r [.b true, .b true, .b true, .b true, .b true, .b true, .b true, .b true, .b true, .b true, .b true, .b true, .b true] (A g4 (A g4 (A g4 (A (decide_eq_true g5 : decide (a0 ≥ 48) = true) (A (decide_eq_true g5 : decide (a0 ≥ 48) = true) (A (A g4 (decide_eq_true g5 : decide (a0 ≥ 48) = true)) (A g4 (A (decide_eq_true g6 : decide (a0 ≤ 57) = true) (A (decide_eq_true g6 : decide (a0 ≤ 57) = true) (A (A g4 (decide_eq_true g6 : decide (a0 ≤ 57) = true)) (A g4 T))))))))))) [(4, bE true)] rfl (by kernel_rfl) ?_
              cases h1
              exact .lf hj1 rfl [] (by kernel_rfl)
            · have h1 := iteN g6 h1
              refine .r [.b true, .b true, .b true, .b true, .b true, .b true, .b true, .b true, .b false, .b false, .b true, .b false, .b true] (A g4 (A g4 (A g4 (A (decide_eq_true g5 : decide (a0 ≥ 48) = true) (A (decide_eq_true g5 : decide (a0 ≥ 48) = true) (A (A g4 (decide_eq_true g5 : decide (a0 ≥ 48) = true)) (A g4 (A (decide_eq_false g6 : decide (a0 ≤ 57) = false) (A (decide_eq_false g6 : decide (a0 ≤ 57) = false) (A (A g4 (decide_eq_false g6 : decide (a0 ≤ 57) = false)) (A g4 T))))))))))) [(4, dE (a0 = 45))] rfl (by kernel_rfl) ?_
              cases h1
              exact .lf hj1 rfl [] (by kernel_rfl)
          · have h1 := iteN g5 h1
            refine .r [.b true, .b true, .b true, .b false, .b false, .b true, .b false, .b true, .b false, .b false, .b true, .b false, .b true] (A g4 (A g4 (A g4 (A (decide_eq_false g5 : decide (a0 ≥ 48) = false) (A (decide_eq_false g5 : decide (a0 ≥ 48) = false) (A (A g4 (decide_eq_false g5 : decide (a0 ≥ 48) = false)) (A g4 (A (rfl : false = false) (A (rfl : false = false) (A (A g4 (rfl : false = false)) (A g4 T))))))))))) [(4, dE (a0 = 45))] rfl (by kernel_rfl) ?_
            cases h1
            exact .lf hj1 rfl [] (by kernel_rfl)
        · have h1 := iteN g4 h1
          refine .r [.b false, .b false, .b false, .b false, .b false, .b false, .b false] (A (Bool.eq_false_iff.2 g4) (A (Bool.eq_false_iff.2 g4) (A (Bool.eq_false_iff.2 g4) (A (Bool.eq_false_iff.2 g4) (A (Bool.eq_false_iff.2 g4) (A (Bool.eq_false_iff.2 g4) (A (Bool.eq_false_iff.2 g4) T))))))) [(4, bE false)] rfl (by kernel_rfl) ?_
          cases h1
          exact .lf hj1 rfl [] (by kernel_rfl)
  · by_cases g7 : a0 ≥ 97
    · have h1 := iteP g7 h1
      by_cases g8 : a0 ≤ 122
      · have h1 := iteP g8 h1
        refine .r [.b true, .b true, .b true, .b true, .b true, .b true, .b true, .b true, .b true, .b true, .b true, .b true, .b true, .b true, .b true, .b true, .b true, .b true] (A (decide_eq_true g7 : decide (a0 ≥ 97) = true) (A (decide_eq_true g7 : decide (a0 ≥ 97) = true) (A (decide_eq_true g7 : decide (a0 ≥ 97) = true) (A (decide_eq_true g8 : decide (a0 ≤ 122) = true) (A (decide_eq_true g8 : decide (a0 ≤ 122) = true) (A (decide_eq_true g8 : decide (a0 ≤ 122) = true) (A (rfl : true = true) (A (rfl : true = true) (A (rfl : true = true) (A (rfl : true = true) (A (rfl : true = true) (A (rfl : true = true) (A (rfl : true = true) (A (rfl : true = true) (A (rfl : true = true) (A (rfl : true = true) (A (rfl : true = true) (A (rfl : true = true) T)))))))))))))))))) [(30, bE true)] rfl (by kernel_rfl) ?_
        cases h1
        exact .lf hj1 rfl [] (by kernel_rfl)
      · have h1 := iteN g8 h1
        by_cases g9 : a0 = 42
        · have h1 := iteP g9 h1
          refine .r [.b true, .b true, .b true, .b false, .b false, .b false, .b true, .b true, .b true, .b true, .b true, .b true, .b true, .b true, .b true, .b true, .b true, .b true] (A (decide_eq_true g7 : decide (a0 ≥ 97) = true) (A (decide_eq_true g7 : decide (a0 ≥ 97) = true) (A (decide_eq_true g7 : decide (a0 ≥ 97) = true) (A (decide_eq_false g8 : decide (a0 ≤ 122) = false) (A (decide_eq_false g8 : decide (a0 ≤ 122) = false) (A (decide_eq_false g8 : decide (a0 ≤ 122) = false) (A (decide_eq_true g9 : decide (a0 = 42) = true) (A (decide_eq_true g9 : decide (a0 = 42) = true) (A (decide_eq_true g9 : decide (a0 = 42) = true) (A (rfl : true = true) (A (rfl : true = true) (A (rfl : true = true) (A (rfl : true = true) (A (rfl : true = true) (A (rfl : true = true) (A (rfl : true = true) (A (rfl : true = true) (A (rfl : true = true) T)))))))))))))))))) [(30, bE true)] rfl (by kernel_rfl) ?_
          cases h1
          exact .lf hj1 rfl [] (by kernel_rfl)
        · have h1 := iteN g9 h1
          by_cases g10 : a0 = 63
          · have h1 := iteP g10 h1
            refine .r [.b true, .b true, .b true, .b false, .b false, .b false, .b false, .b false, .b false, .b true, .b true, .b true, .b true, .b true, .b true, .b true, .b true, .b true] (A (decide_eq_true g7 : decide (a0 ≥ 97) = true) (A (decide_eq_true g7 : decide (a0 ≥ 97) = true) (A (decide_eq_true g7 : decide (a0 ≥ 97) = true) (A (decide_eq_false g8 : decide (a0 ≤ 122) = false) (A (decide_eq_false g8 : decide (a0 ≤ 122) = false) (A (decide_eq_false g8 : decide (a0 ≤ 122) = false) (A (decide_eq_false g9 : decide (a0 = 42) = false) (A (decide_eq_false g9 : decide (a0 = 42) = false) (A (decide_eq_false g9 : decide (a0 = 42) = false) (A (decide_eq_true g10 : decide (a0 = 63) = true) (A (decide_eq_true g10 : decide (a0 = 63) = true) (A (decide_eq_true g10 : decide (a0 = 63) = true) (A (rfl : true = true) (A (rfl : true = true) (A (rfl : true = true) (A (rfl : true = true) (A (rfl : true = true) (A (rfl : true = true) T)))))))))))))))))) [(30, bE true)] rfl (by kernel_rfl) ?_
            cases h1
            exact .lf hj1 rfl [] (by kernel_rfl)
          · have h1 := iteN g10 h1
            by_cases g11 : a0 = 61
            · have h1 := iteP g11 h1
              refine .r [.b true, .b true, .b true, .b false, .b false, .b false, .b false, .b false, .b false, .b false, .b false, .b false, .b true, .b true, .b true, .b true, .b true, .b true] (A (decide_eq_true g7 : decide (a0 ≥ 97) = true) (A (decide_eq_true g7 : decide (a0 ≥ 97) = true) (A (decide_eq_true g7 : decide (a0 ≥ 97) = true) (A (decide_eq_false g8 : decide (a0 ≤ 122) = false) (A (decide_eq_false g8 : decide (a0 ≤ 122) = false) (A (decide_eq_false g8 : decide (a0 ≤ 122) = false) (A (decide_eq_false g9 : decide (a0 = 42) = false) (A (decide_eq_false g9 : decide (a0 = 42) = false) (A (decide_eq_false g9 : decide (a0 = 42) = false) (A (decide_eq_false g10 : decide (a0 = 63) = false) (A (decide_eq_false g10 : decide (a0 = 63) = false) (A (decide_eq_false g10 : decide (a0 = 63) = false) (A (decide_eq_true g11 : decide (a0 = 61) = true) (A (decide_eq_true g11 : decide (a0 = 61) = true) (A (decide_eq_true g11 : decide (a0 = 61) = true) (A (rfl : true = true) (A (rfl : true = true) (A (rfl : true = true) T)))))))))))))))))) [(30, bE true)] rfl (by kernel_rfl) ?_
              cases h1
              exact .lf hj1 rfl [] (by kernel_rfl)
            · have h1 := iteN g11 h1
              by_cases g12 : a0 = 43
              · have h1 := iteP g12 h1
                refine .r [.b true, .b true, .b true, .b false, .b false, .b false, .b false, .b false, .b false, .b false, .b false, .b false, .b false, .b false, .b false, .b true, .b true, .b true] (A (decide_eq_true g7 : decide (a0 ≥ 97) = true) (A (decide_eq_true g7 : decide (a0 ≥ 97) = true) (A (decide_eq_true g7 : decide (a0 ≥ 97) = true) (A (decide_eq_false g8 : decide (a0 ≤ 122) = false) (A (decide_eq_false g8 : decide (a0 ≤ 122) = false) (A (decide_eq_false g8 : decide (a0 ≤ 122) = false) (A (decide_eq_false g9 : decide (a0 = 42) = false) (A (decide_eq_false g9 : decide (a0 = 42) = false) (A (decide_eq_false g9 : decide (a0 = 42) = false) (A (decide_eq_false g10 : decide (a0 = 63) = false) (A (decide_eq_false g10 : decide (a0 = 63) = false) (A (decide_eq_false g10 : decide (a0 = 63) = false) (A (decide_eq_false g11 : decide (a0 = 61) = false) (A (decide_eq_false g11 : decide (a0 = 61) = false) (A (decide_eq_false g11 : decide (a0 = 61) = false) (A (decide_eq_true g12 : decide (a0 = 43) = true) (A (decide_eq_true g12 : decide (a0 = 43) = true) (A (decide_eq_true g12 : decide (a0 = 43) = true) T)))))))))))))))))) [(30, bE true)] rfl (by kernel_rfl) ?_
                cases h1
                exact .lf hj1 rfl [] (by kernel_rfl)
              · have h1 := iteN g12 h1
                refine .r [.b true, .b true, .b true, .b false, .b false, .b false, .b false, .b false, .b false, .b false, .b false, .b false, .b false, .b false, .b false, .b false, .b false, .b false] (A (decide_eq_true g7 : decide (a0 ≥ 97) = true) (A (decide_eq_true g7 : decide (a0 ≥ 97) = true) (A (decide_eq_true g7 : decide (a0 ≥ 97) = true) (A (decide_eq_false g8 : decide (a0 ≤ 122) = false) (A (decide_eq_false g8 : decide (a0 ≤ 122) = false) (A (decide_eq_false g8 : decide (a0 ≤ 122) = false) (A (decide_eq_false g9 : decide (a0 = 42) = false) (A (decide_eq_false g9 : decide (a0 = 42) = false) (A (decide_eq_false g9 : decide (a0 = 42) = false) (A (decide_eq_false g10 : decide (a0 = 63) = false) (A (decide_eq_false g10 : decide (a0 = 63) = false) (A (decide_eq_false g10 : decide (a0 = 63) = false) (A (decide_eq_false g11 : decide (a0 = 61) = false) (A (decide_eq_false g11 : decide (a0 = 61) = false) (A (decide_eq_false g11 : decide (a0 = 61) = false) (A (decide_eq_false g12 : decide (a0 = 43) = false) (A (decide_eq_false g12 : decide (a0 = 43) = false) (A (decide_eq_false g12 : decide (a0 = 43) = false) T)))))))))))))))))) [(30, dE (a0 = 60))] rfl (by kernel_rfl) ?_
                cases h1
                exact .lf hj1 rfl [] (by kernel_rfl)
    · have h1 := iteN g7 h1
      by_cases g13 : a0 = 42
      · have h1 := iteP g13 h1
        refine .r [.b false, .b false, .b false, .b false, .b false, .b false, .b true, .b true, .b true, .b true, .b true, .b true, .b true, .b true, .b true, .b true, .b true, .b true] (A (decide_eq_false g7 : decide (a0 ≥ 97) = false) (A (decide_eq_false g7 : decide (a0 ≥ 97) = false) (A (decide_eq_false g7 : decide (a0 ≥ 97) = false) (A (rfl : false = false) (A (rfl : false = false) (A (rfl : false = false) (A (decide_eq_true g13 : decide (a0 = 42) = true) (A (decide_eq_true g13 : decide (a0 = 42) = true) (A (decide_eq_true g13 : decide (a0 = 42) = true) (A (rfl : true = true) (A (rfl : true = true) (A (rfl : true = true) (A (rfl : true = true) (A (rfl : true = true) (A (rfl : true = true) (A (rfl : true = true) (A (rfl : true = true) (A (rfl : true = true) T)))))))))))))))))) [(30, bE true)] rfl (by kernel_rfl) ?_
        cases h1
        exact .lf hj1 rfl [] (by kernel_rfl)
      · have h1 := iteN g13 h1
        by_cases g14 : a0 = 63
        · have h1 := iteP g14 h1
          refine .r [.b false, .b false, .b false, .b false, .b false, .b false, .b false, .b false, .b false, .b true, .b true, .b true, .b true, .b true, .b true, .b true, .b true, .b true] (A (decide_eq_false g7 : decide (a0 ≥ 97) = false) (A (decide_eq_false g7 : decide (a0 ≥ 97) = false) (A (decide_eq_false g7 : decide (a0 ≥ 97) = false) (A (rfl : false = false) (A (rfl : false = false) (A (rfl : false = false) (A (decide_eq_false g13 : decide (a0 = 42) = false) (A (decide_eq_false g13 : decide (a0 = 42) = false) (A (decide_eq_false g13 : decide (a0 = 42) = false) (A (decide_eq_true g14 : decide (a0 = 63) = true) (A (decide_eq_true g14 : decide (a0 = 63) = true) (A (decide_eq_true g14 : decide (a0 = 63) = true) (A (rfl : true = true) (A (rfl : true = true) (A (rfl : true = true) (A (rfl : true = true) (A (rfl : true = true) (A (rfl : true = true) T)))))))))))))))))) [(30, bE true)] rfl (by kernel_rfl) ?_
          cases h1
          exact .lf hj1 rfl [] (by kernel_rfl)
        · have h1 := iteN g14 h1
          by_cases g15 : a0 = 61
          · have h1 := iteP g15 h1
            refine .r [.b false, .b false, .b false, .b false, .b false, .b false, .b false, .b false, .b false, .b false, .b false, .b false, .b true, .b true, .b true, .b true, .b true, .b true] (A (decide_eq_false g7 : decide (a0 ≥ 97) = false) (A (decide_eq_false g7 : decide (a0 ≥ 97) = false) (A (decide_eq_false g7 : decide (a0 ≥ 97) = false) (A (rfl : false = false) (A (rfl : false = false) (A (rfl : false = false) (A (decide_eq_false g13 : decide (a0 = 42) = false) (A (decide_eq_false g13 : decide (a0 = 42) = false) (A (decide_eq_false g13 : decide (a0 = 42) = false) (A (decide_eq_false g14 : decide (a0 = 63) = false) (A (decide_eq_false g14 : decide (a0 = 63) = false) (A (decide_eq_false g14 : decide (a0 = 63) = false) (A (decide_eq_true g15 : decide (a0 = 61) = true) (A (decide_eq_true g15 : decide (a0 = 61) = true) (A (decide_eq_true g15 : decide (a0 = 61) = true) (A (rfl : true = true) (A (rfl : true = true) (A (rfl : true = true) T)))))))))))))))))) [(30, bE true)] rfl (by kernel_rfl) ?_
            cases h1
            exact .lf hj1 rfl [] (by kernel_rfl)
          · have h1 := iteN g15 h1
            by_cases g16 : a0 = 43
            · have h1 := iteP g16 h1
              refine .r [.b false, .b false, .b false, .b false, .b false, .b false, .b false, .b false, .b false, .b false, .b false, .b false, .b false, .b false, .b false, .b true, .b true, .b true] (A (decide_eq_false g7 : decide (a0 ≥ 97) = false) (A (decide_eq_false g7 : decide (a0 ≥ 97) = false) (A (decide_eq_false g7 : decide (a0 ≥ 97) = false) (A (rfl : false = false) (A (rfl : false = false) (A (rfl : false = false) (A (decide_eq_false g13 : decide (a0 = 42) = false) (A (decide_eq_false g13 : decide (a0 = 42) = false) (A (decide_eq_false g13 : decide (a0 = 42) = false) (A (decide_eq_false g14 : decide (a0 = 63) = false) (A (decide_eq_false g14 : decide (a0 = 63) = false) (A (decide_eq_false g14 : decide (a0 = 63) = false) (A (decide_eq_false g15 : decide (a0 = 61) = false) (A (decide_eq_false g15 : decide (a0 = 61) = false) (A (decide_eq_false g15 : decide (a0 = 61) = false) (A (decide_eq_true g16 : decide (a0 = 43) = true) (A (decide_eq_true g16 : decide (a0 = 43) = true) (A (decide_eq_true g16 : decide (a0 = 43) = true) T)))))))))))))))))) [(30, bE true)] rfl (by kernel_rfl) ?_
              cases h1
              exact .lf hj1 rfl [] (by kernel_rfl)
            · have h1 := iteN g16 h1
              refine .r [.b false, .b false, .b false, .b false, .b false, .b false, .b false, .b false, .b false, .b false, .b false, .b false, .b false, .b false, .b false, .b false, .b false, .b false] (A (decide_eq_false g7 : decide (a0 ≥ 97) = false) (A (decide_eq_false g7 : decide (a0 ≥ 97) = false) (A (decide_eq_false g7 : decide (a0 ≥ 97) = false) (A (rfl : false = false) (A (rfl : false = false) (A (rfl : false = false) (A (decide_eq_false g13 : decide (a0 = 42) = false) (A (decide_eq_false g13 : decide (a0 = 42) = false) (A (decide_eq_false g13 : decide (a0 = 42) = false) (A (decide_eq_false g14 : decide (a0 = 63) = false) (A (decide_eq_false g14 : decide (a0 = 63) = false) (A (decide_eq_false g14 : decide (a0 = 63) = false) (A (decide_eq_false g15 : decide (a0 = 61) = false) (A (decide_eq_false g15 : decide (a0 = 61) = false) (A (decide_eq_false g15 : decide (a0 = 61) = false) (A (decide_eq_false g16 : decide (a0 = 43) = false) (A (decide_eq_false g16 : decide (a0 = 43) = false) (A (decide_eq_false g16 : decide (a0 = 43) = false) T)))))))))))))))))) [(30, dE (a0 = 60))] rfl (by kernel_rfl) ?_
              cases h1
              exact .lf hj1 rfl [] (by kernel_rfl)
def sp_NameValid (n : Nat) (a0 : List UInt8) : Option (Bool) :=
  Option.bind ((if a0 = [46, 46, 46] then some true else some (decide (a0 = [95]))) : Option (Bool)) (fun (o1 : Bool) => (if o1 = true then some true else iterM n (fun (s3 : Int) => (Option.bind ((if s3 < (a0.length : Int) then some (decide (s3 ≤ 12)) else some false) : Option (Bool)) (fun (o5 : Bool) => (if o5 = true then (atI a0 s3).bind fun y7 => (sp_l1Letter n (y7.toNat : Int) (decide (s3 = 0))).bind fun k8 => (if (!k8) = true then some (Sum.inl false) else some (Sum.inr (w64 (s3 + 1)))) else Option.bind ((if (a0.length : Int) ≥ 1 then some (decide ((a0.length : Int) ≤ 12)) else some false) : Option (Bool)) (fun (o10 : Bool) => some (Sum.inl o10)))) : Option (Bool ⊕ Int))) 0))
theorem w_sp_NameValid (n : Nat) : ∀ (a0 : List UInt8) {r : Bool}, sp_NameValid n a0 = some r → SCall X.E 100 [sE a0] [] (bE r) [] := by
  intro a0 r h0
  rw [sp_NameValid] at h0
  refine .m Tryd.func100 rfl rfl rfl (by kernel_rfl) (fun L ks low K hl hL hlen hK => ?_)
  refine .r [] T [] rfl (by kernel_rfl) ?_
  refine .bP h0 rfl [0] (fun o1 => [(9, bE o1)]) n1 n1 (fun o1 h0 => ?_) (fun y1 h1 hj1 => ?_)
  · refine .cT h0 rfl (by kernel_rfl) (fun hc2 h0 => ?_) (fun hc2 h0 => ?_)
    · refine .r [] T [(2, bE true)] rfl (by kernel_rfl) ?_
      cases h0
      exact .ret rfl rfl (by kernel_rfl) hK
    · refine .r [] T [(3, iE 0)] rfl (by kernel_rfl) ?_
      refine .it h0 rfl [0] (fun s3 => [(3, iE s3)]) n1 n1 [] (by kernel_rfl) (fun n4 s3 h0 => ?_)
      obtain ⟨y1, h1, hw1, hn1⟩ := iter_cons h0
      refine .bP h1 rfl [0, 3] (fun o5 => [(17, bE o5)]) n1 n1 (fun o5 h1 => ?_) (fun y2 h2 hj2 => ?_)
      · refine .cT h1 rfl (by kernel_rfl) (fun hc6 h1 => ?_) (fun hc6 h1 => ?_)
        · obtain ⟨y7, hy7, h1⟩ := bnd h1
          obtain ⟨k8, hk8, h1⟩ := bnd h1
          refine .r [.by_ y7, .call [] (bE k8) []] (A (idy hy7) (A (w_sp_l1Letter n _ _ hk8) T)) [(26, bE (!k8))] rfl (by kernel_rfl) ?_
          refine .cT h1 rfl (by kernel_rfl) (fun hc9 h1 => ?_) (fun hc9 h1 => ?_)
          · refine .r [] T [(2, bE false)] rfl (by kernel_rfl) ?_
            cases h1
            cases hw1 _ rfl
            exact .ret rfl rfl (by kernel_rfl) hK
          · refine .r [.pl] T [(3, iE (w64 (s3 + 1)))] rfl (by kernel_rfl) ?_
            cases h1
            exact .nI rfl _ (hn1 _ rfl) [] (by kernel_rfl)
        · refine .bP h1 rfl [] (fun o10 => [(2, bE o10)]) n1 n1 (fun o10 h1 => ?_) (fun y2 h2 hj2 => ?_)
          · cases h1
            cases hw1 _ rfl
            exact .ret rfl rfl (by kernel_rfl) hK
          · by_cases g11 : (a0.length : Int) ≥ 1
            · have h2 := iteP g11 h2
              refine .r [.b true, .b true, .b true, .b true] (A (decide_eq_true g11 : decide ((a0.length : Int) ≥ 1) = true) (A (decide_eq_true g11 : decide ((a0.length : Int) ≥ 1) = true) (A (decide_eq_true g11 : decide ((a0.length : Int) ≥ 1) = true) (A (decide_eq_true g11 : decide ((a0.length : Int) ≥ 1) = true) T)))) [(2, dE ((a0.length : Int) ≤ 12))] rfl (by kernel_rfl) ?_
              cases h2
              exact .lf hj2 rfl [] (by kernel_rfl)
            · have h2 := iteN g11 h2
              refine .r [.b false, .b false, .b false, .b false] (A (decide_eq_false g11 : decide ((a0.length : Int) ≥ 1) = false) (A (decide_eq_false g11 : decide ((a0.length : Int) ≥ 1) = false) (A (decide_eq_false g11 : decide ((a0.length : Int) ≥ 1) = false) (A (decide_eq_false g11 : decide ((a0.length : Int) ≥ 1) = false) T)))) [(2, bE false)] rfl (by kernel_rfl) ?_
              cases h2
              exact .lf hj2 rfl [] (by kernel_rfl)
      · by_cases g12 : s3 < (a0.length : Int)
        · have h2 := iteP g12 h2
          refine .r [.b true, .b true, .b true] (A (decide_eq_true g12 : decide (s3 < (a0.length : Int)) = true) (A (decide_eq_true g12 : decide (s3 < (a0.length : Int)) = true) (A (decide_eq_true g12 : decide (s3 < (a0.length : Int)) = true) T))) [(17, dE (s3 ≤ 12))] rfl (by kernel_rfl) ?_
          cases h2
          exact .lf hj2 rfl [] (by kernel_rfl)
        · have h2 := iteN g12 h2
          refine .r [.b false, .b false, .b false] (A (decide_eq_false g12 : decide (s3 < (a0.length : Int)) = false) (A (decide_eq_false g12 : decide (s3 < (a0.length : Int)) = false) (A (decide_eq_false g12 : decide (s3 < (a0.length : Int)) = false) T))) [(17, bE false)] rfl (by kernel_rfl) ?_
          cases h2
          exact .lf hj2 rfl [] (by kernel_rfl)
  · by_cases g13 : a0 = [46, 46, 46]
    · have h1 := iteP g13 h1
      refine .r [.b true, .b true, .b true] (A (decide_eq_true g13 : decide (a0 = [46, 46, 46]) = true) (A (decide_eq_true g13 : decide (a0 = [46, 46, 46]) = true) (A (decide_eq_true g13 : decide (a0 = [46, 46, 46]) = true) T))) [(9, bE true)] rfl (by kernel_rfl) ?_
      cases h1
      exact .lf hj1 rfl [] (by kernel_rfl)
    · have h1 := iteN g13 h1
      refine .r [.b false, .b false, .b false] (A (decide_eq_false g13 : decide (a0 = [46, 46, 46]) = false) (A (decide_eq_false g13 : decide (a0 = [46, 46, 46]) = false) (A (decide_eq_false g13 : decide (a0 = [46, 46, 46]) = false) T))) [(9, dE (a0 = [95]))] rfl (by kernel_rfl) ?_
      cases h1
      exact .lf hj1 rfl [] (by kernel_rfl)
def sp_l1Scopes (n : Nat) (a0 : List Int) : Option (Bool) :=
  iterM n (fun (s1 : Int) => (Option.bind ((if s1 < (a0.length : Int) then some (decide (s1 ≤ 24)) else some false) : Option (Bool)) (fun (o3 : Bool) => (if o3 = true then Option.bind ((atI a0 s1).bind fun e7 => (if e7 < 1 then some true else (if e7 > 99 then some true else (if s1 > 0 then (atI a0 (w64 (s1 - 1))).bind fun e11 => some (decide (e7 ≤ e11)) else some false))) : Option (Bool)) (fun (o5 : Bool) => (if o5 = true then some (Sum.inl false) else some (Sum.inr (w64 (s1 + 1))))) else some (Sum.inl (decide ((a0.length : Int) ≤ 24))))) : Option (Bool ⊕ Int))) 0
theorem w_sp_l1Scopes (n : Nat) : ∀ (a0 : List Int) {r : Bool}, sp_l1Scopes n a0 = some r → SCall X.E 101 [lE 1 (ksInt a0)] [] (bE r) [] := by
  intro a0 r h0
  rw [sp_l1Scopes] at h0
  refine .m Tryd.func101 rfl rfl rfl (by kernel_rfl) (fun L ks low K hl hL hlen hK => ?_)
  refine .r [] T [] rfl (by kernel_rfl) ?_
  refine .r [] T [(3, iE 0)] rfl (by kernel_rfl) ?_
  refine .it h0 rfl [0] (fun s1 => [(3, iE s1)]) n1 n1 [] (by kernel_rfl) (fun n2 s1 h0 => ?_)
  obtain ⟨y1, h1, hw1, hn1⟩ := iter_cons h0
  refine .bP h1 rfl [0, 3] (fun o3 => [(11, bE o3)]) n1 n1 (fun o3 h1 => ?_) (fun y2 h2 hj2 => ?_)
  · refine .cT h1 rfl (by kernel_rfl) (fun hc4 h1 => ?_) (fun hc4 h1 => ?_)
    · refine .bP h1 rfl [0, 3] (fun o5 => [(41, bE o5)]) n1 n1 (fun o5 h1 => ?_) (fun y2 h2 hj2 => ?_)
      · refine .cT h1 rfl (by kernel_rfl) (fun hc6 h1 => ?_) (fun hc6 h1 => ?_)
        · refine .r [] T [(2, bE false)] rfl (by kernel_rfl) ?_
          cases h1
          cases hw1 _ rfl
          exact .ret rfl rfl (by kernel_rfl) hK
        · refine .r [.pl] T [(3, iE (w64 (s1 + 1)))] rfl (by kernel_rfl) ?_
          cases h1
          exact .nI rfl _ (hn1 _ rfl) [] (by kernel_rfl)
      · obtain ⟨e7, he7, h2⟩ := bnd h2
        by_cases g8 : e7 < 1
        · have h2 := iteP g8 h2
          refine .rd mixed [(2, [.cs [.v (.int .i64 e7)]]), (6, [.b true]), (7, [.b true]), (8, [.b true]), (9, [.b true]), (10, [.b true]), (11, [.b true]), (13, [.b true]), (14, [.b true]), (15, [.b true]), (26, [.b true]), (27, [.b true])] [] (A (dInt.idx he7) (A (decide_eq_true g8 : decide (e7 < 1) = true) (A (decide_eq_true g8 : decide (e7 < 1) = true) (A (decide_eq_true g8 : decide (e7 < 1) = true) (A (decide_eq_true g8 : decide (e7 < 1) = true) (A (decide_eq_true g8 : decide (e7 < 1) = true) (A (decide_eq_true g8 : decide (e7 < 1) = true) (A (rfl : true = true) (A (rfl : true = true) (A (rfl : true = true) (A (rfl : true = true) (A (rfl : true = true) T)))))))))))) [(41, bE true)] [] [] rfl (by kernel_rfl) ?_
          cases h2
          exact .lf hj2 rfl [] (by kernel_rfl)
        · have h2 := iteN g8 h2
          by_cases g9 : e7 > 99
          · have h2 := iteP g9 h2
            refine .rd mixed [(2, [.cs [.v (.int .i64 e7)]]), (6, [.b false]), (7, [.b false]), (8, [.b false, .cs [.v (.int .i64 e7)]]), (9, [.b false]), (10, [.b false]), (11, [.b false]), (13, [.b true]), (14, [.b true]), (15, [.b true]), (26, [.b true]), (27, [.b true])] [] (A (dInt.idx he7) (A (decide_eq_false g8 : decide (e7 < 1) = false) (A (decide_eq_false g8 : decide (e7 < 1) = false) (A (A (decide_eq_false g8 : decide (e7 < 1) = false) (dInt.idx he7)) (A (decide_eq_false g8 : decide (e7 < 1) = false) (A (decide_eq_false g8 : decide (e7 < 1) = false) (A (decide_eq_false g8 : decide (e7 < 1) = false) (A (decide_eq_true g9 : decide (e7 > 99) = true) (A (decide_eq_true g9 : decide (e7 > 99) = true) (A (decide_eq_true g9 : decide (e7 > 99) = true) (A (decide_eq_true g9 : decide (e7 > 99) = true) (A (decide_eq_true g9 : decide (e7 > 99) = true) T)))))))))))) [(41, bE true)] [] [] rfl (by kernel_rfl) ?_
            cases h2
            exact .lf hj2 rfl [] (by kernel_rfl)
          · have h2 := iteN g9 h2
            by_cases g10 : s1 > 0
            · have h2 := iteP g10 h2
              obtain ⟨e11, he11, h2⟩ := bnd h2
              refine .rd mixed [(2, [.cs [.v (.int .i64 e7)]]), (6, [.b false]), (7, [.b false]), (8, [.b false, .cs [.v (.int .i64 e7)]]), (9, [.b false]), (10, [.b false]), (11, [.b false]), (13, [.b false]), (14, [.b false]), (15, [.b false]), (16, [.b true]), (17, [.b true]), (18, [.b true, .cs [.v (.int .i64 e7)]]), (19, [.b true]), (20, [.b true]), (21, [.b true]), (22, [.b true, .pl]), (23, [.b true, .cs [.v (.int .i64 e11)]]), (24, [.b true]), (25, [.b true]), (26, [.b false, .b true]), (27, [.b false])] [] (A (dInt.idx he7) (A (decide_eq_false g8 : decide (e7 < 1) = false) (A (decide_eq_false g8 : decide (e7 < 1) = false) (A (A (decide_eq_false g8 : decide (e7 < 1) = false) (dInt.idx he7)) (A (decide_eq_false g8 : decide (e7 < 1) = false) (A (decide_eq_false g8 : decide (e7 < 1) = false) (A (decide_eq_false g8 : decide (e7 < 1) = false) (A (decide_eq_false g9 : decide (e7 > 99) = false) (A (decide_eq_false g9 : decide (e7 > 99) = false) (A (decide_eq_false g9 : decide (e7 > 99) = false) (A (decide_eq_true g10 : decide (s1 > 0) = true) (A (decide_eq_true g10 : decide (s1 > 0) = true) (A (A (decide_eq_true g10 : decide (s1 > 0) = true) (dInt.idx he7)) (A (decide_eq_true g10 : decide (s1 > 0) = true) (A (decide_eq_true g10 : decide (s1 > 0) = true) (A (decide_eq_true g10 : decide (s1 > 0) = true) (A (decide_eq_true g10 : decide (s1 > 0) = true) (A (A (decide_eq_true g10 : decide (s1 > 0) = true) (dInt.idx he11)) (A (decide_eq_true g10 : decide (s1 > 0) = true) (A (decide_eq_true g10 : decide (s1 > 0) = true) (A (A (decide_eq_false g9 : decide (e7 > 99) = false) (decide_eq_true g10 : decide (s1 > 0) = true)) (A (decide_eq_false g9 : decide (e7 > 99) = false) T)))))))))))))))))))))) [(41, dE (e7 ≤ e11))] [] [] rfl (by kernel_rfl) ?_
              cases h2
              exact .lf hj2 rfl [] (by kernel_rfl)
            · have h2 := iteN g10 h2
              refine .rd mixed [(2, [.cs [.v (.int .i64 e7)]]), (6, [.b false]), (7, [.b false]), (8, [.b false, .cs [.v (.int .i64 e7)]]), (9, [.b false]), (10, [.b false]), (11, [.b false]), (13, [.b false]), (14, [.b false]), (15, [.b false]), (16, [.b false]), (17, [.b false]), (18, [.b false]), (19, [.b false]), (20, [.b false]), (21, [.b false]), (22, [.b false]), (23, [.b false]), (24, [.b false]), (25, [.b false]), (26, [.b false, .b false]), (27, [.b false])] [] (A (dInt.idx he7) (A (decide_eq_false g8 : decide (e7 < 1) = false) (A (decide_eq_false g8 : decide (e7 < 1) = false) (A (A (decide_eq_false g8 : decide (e7 < 1) = false) (dInt.idx he7)) (A (decide_eq_false g8 : decide (e7 < 1) = false) (A (decide_eq_false g8 : decide (e7 < 1) = false) (A (decide_eq_false g8 : decide (e7 < 1) = false) (A (decide_eq_false g9 : decide (e7 > 99) = false) (A (decide_eq_false g9 : decide (e7 > 99) = false) (A (decide_eq_false g9 : decide (e7 > 99) = false) (A (decide_eq_false g10 : decide (s1 > 0) = false) (A (decide_eq_false g10 : decide (s1 > 0) = false) (A (decide_eq_false g10 : decide (s1 > 0) = false) (A (decide_eq_false g10 : decide (s1 > 0) = false) (A (decide_eq_false g10 : decide (s1 > 0) = false) (A (decide_eq_false g10 : decide (s1 > 0) = false) (A (decide_eq_false g10 : decide (s1 > 0) = false) (A (decide_eq_false g10 : decide (s1 > 0) = false) (A (decide_eq_false g10 : decide (s1 > 0) = false) (A (decide_eq_false g10 : decide (s1 > 0) = false) (A (A (decide_eq_false g9 : decide (e7 > 99) = false) (decide_eq_false g10 : decide (s1 > 0) = false)) (A (decide_eq_false g9 : decide (e7 > 99) = false) T)))))))))))))))))))))) [(41, bE false)] [] [] rfl (by kernel_rfl) ?_
              cases h2
              exact .lf hj2 rfl [] (by kernel_rfl)
    · refine .r [.v (a0.length : Int)] (A (dInt.len' a0) T) [(2, dE ((a0.length : Int) ≤ 24))] rfl (by kernel_rfl) ?_
      refine .sn 0 dInt a0 (by kernel_rfl) (fun hb12 => ?_)
      cases h1
      cases hw1 _ rfl
      exact .ret rfl rfl (by kernel_rfl) hK
  · by_cases g13 : s1 < (a0.length : Int)
    · have h2 := iteP g13 h2
      refine .r [.v (a0.length : Int), .b true, .b true, .b true] (A (dInt.len' a0) (A (decide_eq_true g13 : decide (s1 < (a0.length : Int)) = true) (A (decide_eq_true g13 : decide (s1 < (a0.length : Int)) = true) (A (decide_eq_true g13 : decide (s1 < (a0.length : Int)) = true) T)))) [(11, dE (s1 ≤ 24))] rfl (by kernel_rfl) ?_
      refine .sn 0 dInt a0 (by kernel_rfl) (fun hb14 => ?_)
      cases h2
      exact .lf hj2 rfl [] (by kernel_rfl)
    · have h2 := iteN g13 h2
      refine .r [.v (a0.length : Int), .b false, .b false, .b false] (A (dInt.len' a0) (A (decide_eq_false g13 : decide (s1 < (a0.length : Int)) = false) (A (decide_eq_false g13 : decide (s1 < (a0.length : Int)) = false) (A (decide_eq_false g13 : decide (s1 < (a0.length : Int)) = false) T)))) [(11, bE false)] rfl (by kernel_rfl) ?_
      refine .sn 0 dInt a0 (by kernel_rfl) (fun hb15 => ?_)
      cases h2
      exact .lf hj2 rfl [] (by kernel_rfl)
def sp_l1Is : Nat → Form → Int → Option (Bool)
  | 0, _, _ => none
  | n + 1, a0, a1 => (if a1 = 0 then some false else (if a0.kind = 1 then Option.bind ((sp_NameValid n a0.name).bind fun k4 => (if k4 = true then (if a0.n = 0 then (sp_l1Scopes n a0.scopes).bind fun k7 => (if k7 = true then some (decide ((a0.kids.length : Int) = 0)) else some false) else some false) else some false) : Option (Bool)) (fun (o3 : Bool) => some o3) else (if a0.kind = 2 then Option.bind ((if a0.name = [] then (if a0.n ≥ 0 then (if a0.n ≤ 999 then (if (a0.scopes.length : Int) = 0 then some (decide ((a0.kids.length : Int) = 0)) else some false) else some false) else some false) else some false) : Option (Bool)) (fun (o10 : Bool) => some o10) else Option.bind ((if ¬ a0.kind = 3 then some true else (if ¬ a0.name = [] then some true else (if ¬ a0.n = 0 then some true else some (decide (¬ (a0.scopes.length : Int) = 0))))) : Option (Bool)) (fun (o15 : Bool) => (if o15 = true then some false else seqS (forI (fun (s18 : Unit) (i17 : Nat) (x20 : Form) => ((sp_l1Is n x20 (w64 (a1 - 1))).bind fun k26 => (if (!k26) = true then some (Sum.inl false) else some (Sum.inr ())) : Option (Bool ⊕ Unit))) 0 a0.kids ()) (fun (s18 : Unit) => some true))))))
theorem w_sp_l1Is (n : Nat) : ∀ (a0 : Form) (a1 : Int) {r : Bool}, sp_l1Is n a0 a1 = some r → SCall X.E 95 [aE (kForm a0), iE a1] [] (bE r) [] := by
  induction n with
  | zero => intro a0 a1 r h; cases h
  | succ n ih =>
    intro a0 a1 r h0
    rw [sp_l1Is] at h0
    refine .m Tryd.func95 rfl rfl rfl (by kernel_rfl) (fun L ks low K hl hL hlen hK => ?_)
    refine .rf [] T [(2, pw 2)] [.o 2 (.cells ((kForm a0).map .d))] rfl (by kernel_rfl) ?_
    refine .r [] T [(7, dE (a1 = 0))] rfl (by kernel_rfl) ?_
    refine .cP h0 rfl (by kernel_rfl) (fun hc1 h0 => ?_) (fun hc1 h0 => ?_)
    · refine .r [] T [(4, bE false)] rfl (by kernel_rfl) ?_
      cases h0
      exact .ret rfl rfl (by kernel_rfl) hK
    · refine .r [] T [(9, iE a0.kind)] rfl (by kernel_rfl) ?_
      refine .r [] T [(10, dE (a0.kind = 1))] rfl (by kernel_rfl) ?_
      refine .cP h0 rfl (by kernel_rfl) (fun hc2 h0 => ?_) (fun hc2 h0 => ?_)
      · refine .bP h0 rfl [] (fun o3 => [(4, bE o3)]) n1 n1 (fun o3 h0 => ?_) (fun y1 h1 hj1 => ?_)
        · cases h0
          exact .ret rfl rfl (by kernel_rfl) hK
        · obtain ⟨k4, hk4, h1⟩ := bnd h1
          by_cases g5 : k4 = true
          · have h1 := iteP g5 h1
            by_cases g6 : a0.n = 0
            · have h1 := iteP g6 h1
              obtain ⟨k7, hk7, h1⟩ := bnd h1
              by_cases g8 : k7 = true
              · have h1 := iteP g8 h1
                refine .r [.call [] (bE k4) [], .b true, .b true, .b true, .b true, .b true, .b true, .b true, .call [] (bE k7) [], .b true, .b true, .b true, .b true, .v (a0.kids.length : Int), .b true, .b true] (A (w_sp_NameValid n _ hk4) (A g5 (A g5 (A g5 (A g5 (A (decide_eq_true g6 : decide (a0.n = 0) = true) (A (decide_eq_true g6 : decide (a0.n = 0) = true) (A (A (decide_eq_true g6 : decide (a0.n = 0) = true) (w_sp_l1Scopes n _ hk7)) (A (decide_eq_true g6 : decide (a0.n = 0) = true) (A g8 (A g8 (A (A g8 (dForm.len' a0.kids)) (A g8 (A g8 T)))))))))))))) [(4, dE ((a0.kids.length : Int) = 0))] rfl (by kernel_rfl) ?_
                cases h1
                exact .lf hj1 rfl [] (by kernel_rfl)
              · have h1 := iteN g8 h1
                refine .r [.call [] (bE k4) [], .b true, .b true, .b true, .b true, .b true, .b true, .b true, .call [] (bE k7) [], .b true, .b false, .b false, .b false, .b false, .b false] (A (w_sp_NameValid n _ hk4) (A g5 (A g5 (A g5 (A g5 (A (decide_eq_true g6 : decide (a0.n = 0) = true) (A (decide_eq_true g6 : decide (a0.n = 0) = true) (A (A (decide_eq_true g6 : decide (a0.n = 0) = true) (w_sp_l1Scopes n _ hk7)) (A (decide_eq_true g6 : decide (a0.n = 0) = true) (A (Bool.eq_false_iff.2 g8) (A (Bool.eq_false_iff.2 g8) (A (Bool.eq_false_iff.2 g8) (A (Bool.eq_false_iff.2 g8) (A (Bool.eq_false_iff.2 g8) T)))))))))))))) [(4, bE false)] rfl (by kernel_rfl) ?_
                cases h1
                exact .lf hj1 rfl [] (by kernel_rfl)
            · have h1 := iteN g6 h1
              refine .r [.call [] (bE k4) [], .b true, .b true, .b true, .b true, .b false, .b false, .b false, .b false, .b false, .b false, .b false, .b false, .b false] (A (w_sp_NameValid n _ hk4) (A g5 (A g5 (A g5 (A g5 (A (decide_eq_false g6 : decide (a0.n = 0) = false) (A (decide_eq_false g6 : decide (a0.n = 0) = false) (A (decide_eq_false g6 : decide (a0.n = 0) = false) (A (decide_eq_false g6 : decide (a0.n = 0) = false) (A (rfl : false = false) (A (rfl : false = false) (A (rfl : false = false) (A (rfl : false = false) (A (rfl : false = false) T)))))))))))))) [(4, bE false)] rfl (by kernel_rfl) ?_
              cases h1
              exact .lf hj1 rfl [] (by kernel_rfl)
          · have h1 := iteN g5 h1
            refine .r [.call [] (bE k4) [], .b false, .b false, .b false, .b false, .b false, .b false, .b false, .b false, .b false, .b false, .b false, .b false, .b false] (A (w_sp_NameValid n _ hk4) (A (Bool.eq_false_iff.2 g5) (A (Bool.eq_false_iff.2 g5) (A (Bool.eq_false_iff.2 g5) (A (Bool.eq_false_iff.2 g5) (A (rfl : false = false) (A (rfl : false = false) (A (rfl : false = false) (A (rfl : false = false) (A (rfl : false = false) (A (rfl : false = false) (A (rfl : false = false) (A (rfl : false = false) (A (rfl : false = false) T)))))))))))))) [(4, bE false)] rfl (by kernel_rfl) ?_
            cases h1
            exact .lf hj1 rfl [] (by kernel_rfl)
      · refine .r [] T [(31, dE (a0.kind = 2))] rfl (by kernel_rfl) ?_
        refine .cP h0 rfl (by kernel_rfl) (fun hc9 h0 => ?_) (fun hc9 h0 => ?_)
        · refine .bP h0 rfl [] (fun o10 => [(4, bE o10)]) n1 n1 (fun o10 h0 => ?_) (fun y1 h1 hj1 => ?_)
          · cases h0
            exact .ret rfl rfl (by kernel_rfl) hK
          · by_cases g11 : a0.name = []
            · have h1 := iteP g11 h1
              by_cases g12 : a0.n ≥ 0
              · have h1 := iteP g12 h1
                by_cases g13 : a0.n ≤ 999
                · have h1 := iteP g13 h1
                  by_cases g14 : (a0.scopes.length : Int) = 0
                  · have h1 := iteP g14 h1
                    refine .r [.b true, .b true, .b true, .b true, .b true, .b true, .b true, .b true, .b true, .b true, .b true, .v (a0.scopes.length : Int), .b true, .b true, .b true, .b true, .b true, .v (a0.kids.length : Int), .b true, .b true] (A (decide_eq_true g11 : decide (a0.name = []) = true) (A (decide_eq_true g11 : decide (a0.name = []) = true) (A (decide_eq_true g11 : decide (a0.name = []) = true) (A (decide_eq_true g11 : decide (a0.name = []) = true) (A (decide_eq_true g12 : decide (a0.n ≥ 0) = true) (A (decide_eq_true g12 : decide (a0.n ≥ 0) = true) (A (decide_eq_true g12 : decide (a0.n ≥ 0) = true) (A (decide_eq_true g12 : decide (a0.n ≥ 0) = true) (A (decide_eq_true g13 : decide (a0.n ≤ 999) = true) (A (decide_eq_true g13 : decide (a0.n ≤ 999) = true) (A (A (decide_eq_true g13 : decide (a0.n ≤ 999) = true) (dInt.len' a0.scopes)) (A (decide_eq_true g13 : decide (a0.n ≤ 999) = true) (A (decide_eq_true g13 : decide (a0.n ≤ 999) = true) (A (decide_eq_true g14 : decide ((a0.scopes.length : Int) = 0) = true) (A (decide_eq_true g14 : decide ((a0.scopes.length : Int) = 0) = true) (A (A (decide_eq_true g14 : decide ((a0.scopes.length : Int) = 0) = true) (dForm.len' a0.kids)) (A (decide_eq_true g14 : decide ((a0.scopes.length : Int) = 0) = true) (A (decide_eq_true g14 : decide ((a0.scopes.length : Int) = 0) = true) T)))))))))))))))))) [(4, dE ((a0.kids.length : Int) = 0))] rfl (by kernel_rfl) ?_
                    cases h1
                    exact .lf hj1 rfl [] (by kernel_rfl)
                  · have h1 := iteN g14 h1
                    refine .r [.b true, .b true, .b true, .b true, .b true, .b true, .b true, .b true, .b true, .b true, .b true, .v (a0.scopes.length : Int), .b true, .b true, .b false, .b false, .b false, .b false, .b false] (A (decide_eq_true g11 : decide (a0.name = []) = true) (A (decide_eq_true g11 : decide (a0.name = []) = true) (A (decide_eq_true g11 : decide (a0.name = []) = true) (A (decide_eq_true g11 : decide (a0.name = []) = true) (A (decide_eq_true g12 : decide (a0.n ≥ 0) = true) (A (decide_eq_true g12 : decide (a0.n ≥ 0) = true) (A (decide_eq_true g12 : decide (a0.n ≥ 0) = true) (A (decide_eq_true g12 : decide (a0.n ≥ 0) = true) (A (decide_eq_true g13 : decide (a0.n ≤ 999) = true) (A (decide_eq_true g13 : decide (a0.n ≤ 999) = true) (A (A (decide_eq_true g13 : decide (a0.n ≤ 999) = true) (dInt.len' a0.scopes)) (A (decide_eq_true g13 : decide (a0.n ≤ 999) = true) (A (decide_eq_true g13 : decide (a0.n ≤ 999) = true) (A (decide_eq_false g14 : decide ((a0.scopes.length : Int) = 0) = false) (A (decide_eq_false g14 : decide ((a0.scopes.length : Int) = 0) = false) (A (decide_eq_false g14 : decide ((a0.scopes.length : Int) = 0) = false) (A (decide_eq_false g14 : decide ((a0.scopes.length : Int) = 0) = false) (A (decide_eq_false g14 : decide ((a0.scopes.length : Int) = 0) = false) T)))))))))))))))))) [(4, bE false)] rfl (by kernel_rfl) ?_
                    cases h1
                    exact .lf hj1 rfl [] (by kernel_rfl)
                · have h1 := iteN g13 h1
                  refine .r [.b true, .b true, .b true, .b true, .b true, .b true, .b true, .b true, .b false, .b false, .b false, .b false, .b false, .b false, .b false, .b false, .b false, .b false] (A (decide_eq_true g11 : decide (a0.name = []) = true) (A (decide_eq_true g11 : decide (a0.name = []) = true) (A (decide_eq_true g11 : decide (a0.name = []) = true) (A (decide_eq_true g11 : decide (a0.name = []) = true) (A (decide_eq_true g12 : decide (a0.n ≥ 0) = true) (A (decide_eq_true g12 : decide (a0.n ≥ 0) = true) (A (decide_eq_true g12 : decide (a0.n ≥ 0) = true) (A (decide_eq_true g12 : decide (a0.n ≥ 0) = true) (A (decide_eq_false g13 : decide (a0.n ≤ 999) = false) (A (decide_eq_false g13 : decide (a0.n ≤ 999) = false) (A (decide_eq_false g13 : decide (a0.n ≤ 999) = false) (A (decide_eq_false g13 : decide (a0.n ≤ 999) = false) (A (decide_eq_false g13 : decide (a0.n ≤ 999) = false) (A (rfl : false = false) (A (rfl : false = false) (A (rfl : false = false) (A (rfl : false = false) (A (rfl : false = false) T)))))))))))))))))) [(4, bE false)] rfl (by kernel_rfl) ?_
                  cases h1
                  exact .lf hj1 rfl [] (by kernel_rfl)
              · have h1 := iteN g12 h1
                refine .r [.b true, .b true, .b true, .b true, .b false, .b false, .b false, .b false, .b false, .b false, .b false, .b false, .b false, .b false, .b false, .b false, .b false, .b false] (A (decide_eq_true g11 : decide (a0.name = []) = true) (A (decide_eq_true g11 : decide (a0.name = []) = true) (A (decide_eq_true g11 : decide (a0.name = []) = true) (A (decide_eq_true g11 : decide (a0.name = []) = true) (A (decide_eq_false g12 : decide (a0.n ≥ 0) = false) (A (decide_eq_false g12 : decide (a0.n ≥ 0) = false) (A (decide_eq_false g12 : decide (a0.n ≥ 0) = false) (A (decide_eq_false g12 : decide (a0.n ≥ 0) = false) (A (rfl : false = false) (A (rfl : false = false) (A (rfl : false = false) (A (rfl : false = false) (A (rfl : false = false) (A (rfl : false = false) (A (rfl : false = false) (A (rfl : false = false) (A (rfl : false = false) (A (rfl : false = false) T)))))))))))))))))) [(4, bE false)] rfl (by kernel_rfl) ?_
                cases h1
                exact .lf hj1 rfl [] (by kernel_rfl)
            · have h1 := iteN g11 h1
              refine .r [.b false, .b false, .b false, .b false, .b false, .b false, .b false, .b false, .b false, .b false, .b false, .b false, .b false, .b false, .b false, .b false, .b false, .b false] (A (decide_eq_false g11 : decide (a0.name = []) = false) (A (decide_eq_false g11 : decide (a0.name = []) = false) (A (decide_eq_false g11 : decide (a0.name = []) = false) (A (decide_eq_false g11 : decide (a0.name = []) = false) (A (rfl : false = false) (A (rfl : false = false) (A (rfl : false = false) (A (rfl : false = false) (A (rfl : false = false) (A (rfl : false = false) (A (rfl : false = false) (A (rfl : false = false) (A (rfl : false = false) (A (rfl : false = false) (A (rfl : false = false) (A (rfl : false = false) (A (rfl : false = false) (A (rfl : false = false) T)))))))))))))))))) [(4, bE false)] rfl (by kernel_rfl) ?_
              cases h1
              exact .lf hj1 rfl [] (by kernel_rfl)
        · refine .bP h0 rfl [1, 2] (fun o15 => [(76, bE o15)]) n1 n1 (fun o15 h0 => ?_) (fun y1 h1 hj1 => ?_)
          · refine .cT h0 rfl (by kernel_rfl) (fun hc16 h0 => ?_) (fun hc16 h0 => ?_)
            · refine .r [] T [(4, bE false)] rfl (by kernel_rfl) ?_
              cases h0
              exact .ret rfl rfl (by kernel_rfl) hK
            · refine .r [] T [(5, iE 0)] rfl (by kernel_rfl) ?_
              refine .lI h0 rfl [1, 2] (fun i17 s18 => [(5, iE (i17 : Int))]) n2 n2 [] (by kernel_rfl) (fun i17 s18 q19 hd21 hi23 h0 => ?_)
              refine .r [.v (a0.kids.length : Int)] (A (dForm.len' a0.kids) T) [(79, lE 5 (ksForm a0.kids)), (81, dE ((i17 : Int) < (a0.kids.length : Int)))] rfl (by kernel_rfl) ?_
              refine .sn 79 dForm a0.kids (by kernel_rfl) (fun hb24 => ?_)
              refine .lc hd21 rfl (by kernel_rfl) (fun x20 q192 hc25 hx20 hd22 hd22l => ?_) (fun hc25 => ?_)
              · subst hc25
                obtain ⟨y1, h1, hw1, hn1⟩ := forI_cons h0
                obtain ⟨k26, hk26, h1⟩ := bnd h1
                refine .r [.cs (kForm x20), .pl, .call [] (bE k26) []] (A (dForm.idn hx20) (A (ih _ _ hk26) T)) [(92, bE (!k26))] rfl (by kernel_rfl) ?_
                refine .cT h1 rfl (by kernel_rfl) (fun hc27 h1 => ?_) (fun hc27 h1 => ?_)
                · refine .r [] T [(4, bE false)] rfl (by kernel_rfl) ?_
                  cases h1
                  cases hw1 _ rfl
                  exact .ret rfl rfl (by kernel_rfl) hK
                · refine .r [.v ((i17 + 1 : Nat) : Int)] (A (wn (i := i17) (by omega)) T) [(5, iE ((i17 + 1 : Nat) : Int))] rfl (by kernel_rfl) ?_
                  cases h1
                  exact .nL rfl (i17 + 1) _ hd22 hd22l (hn1 _ rfl) [] (by kernel_rfl)
              · subst hc25
                have h0 := forI_nil h0
                refine .r [] T [(4, bE true)] rfl (by kernel_rfl) ?_
                cases h0
                exact .ret rfl rfl (by kernel_rfl) hK
          · by_cases g28 : ¬ a0.kind = 3
            · have h1 := iteP g28 h1
              refine .r [.b true, .b true, .b true, .b true, .b true, .b true, .b true, .b true, .b true, .b true, .b true, .b true, .b true] (A (decide_eq_true g28 : decide (¬ a0.kind = 3) = true) (A (decide_eq_true g28 : decide (¬ a0.kind = 3) = true) (A (decide_eq_true g28 : decide (¬ a0.kind = 3) = true) (A (decide_eq_true g28 : decide (¬ a0.kind = 3) = true) (A (rfl : true = true) (A (rfl : true = true) (A (rfl : true = true) (A (rfl : true = true) (A (rfl : true = true) (A (rfl : true = true) (A (rfl : true = true) (A (rfl : true = true) (A (rfl : true = true) T))))))))))))) [(76, bE true)] rfl (by kernel_rfl) ?_
              cases h1
              exact .lf hj1 rfl [] (by kernel_rfl)
            · have h1 := iteN g28 h1
              by_cases g29 : ¬ a0.name = []
              · have h1 := iteP g29 h1
                refine .r [.b false, .b false, .b false, .b false, .b true, .b true, .b true, .b true, .b true, .b true, .b true, .b true, .b true] (A (decide_eq_false g28 : decide (¬ a0.kind = 3) = false) (A (decide_eq_false g28 : decide (¬ a0.kind = 3) = false) (A (decide_eq_false g28 : decide (¬ a0.kind = 3) = false) (A (decide_eq_false g28 : decide (¬ a0.kind = 3) = false) (A (decide_eq_true g29 : decide (¬ a0.name = []) = true) (A (decide_eq_true g29 : decide (¬ a0.name = []) = true) (A (decide_eq_true g29 : decide (¬ a0.name = []) = true) (A (decide_eq_true g29 : decide (¬ a0.name = []) = true) (A (rfl : true = true) (A (rfl : true = true) (A (rfl : true = true) (A (rfl : true = true) (A (rfl : true = true) T))))))))))))) [(76, bE true)] rfl (by kernel_rfl) ?_
                cases h1
                exact .lf hj1 rfl [] (by kernel_rfl)
              · have h1 := iteN g29 h1
                by_cases g30 : ¬ a0.n = 0
                · have h1 := iteP g30 h1
                  refine .r [.b false, .b false, .b false, .b false, .b false, .b false, .b false, .b false, .b true, .b true, .b true, .b true, .b true] (A (decide_eq_false g28 : decide (¬ a0.kind = 3) = false) (A (decide_eq_false g28 : decide (¬ a0.kind = 3) = false) (A (decide_eq_false g28 : decide (¬ a0.kind = 3) = false) (A (decide_eq_false g28 : decide (¬ a0.kind = 3) = false) (A (decide_eq_false g29 : decide (¬ a0.name = []) = false) (A (decide_eq_false g29 : decide (¬ a0.name = []) = false) (A (decide_eq_false g29 : decide (¬ a0.name = []) = false) (A (decide_eq_false g29 : decide (¬ a0.name = []) = false) (A (decide_eq_true g30 : decide (¬ a0.n = 0) = true) (A (decide_eq_true g30 : decide (¬ a0.n = 0) = true) (A (decide_eq_true g30 : decide (¬ a0.n = 0) = true) (A (decide_eq_true g30 : decide (¬ a0.n = 0) = true) (A (decide_eq_true g30 : decide (¬ a0.n = 0) = true) T))))))))))))) [(76, bE true)] rfl (by kernel_rfl) ?_
                  cases h1
                  exact .lf hj1 rfl [] (by kernel_rfl)
                · have h1 := iteN g30 h1
                  refine .r [.b false, .b false, .b false, .b false, .b false, .b false, .b false, .b false, .b false, .b false, .b false, .v (a0.scopes.length : Int), .b false, .b false] (A (decide_eq_false g28 : decide (¬ a0.kind = 3) = false) (A (decide_eq_false g28 : decide (¬ a0.kind = 3) = false) (A (decide_eq_false g28 : decide (¬ a0.kind = 3) = false) (A (decide_eq_false g28 : decide (¬ a0.kind = 3) = false) (A (decide_eq_false g29 : decide (¬ a0.name = []) = false) (A (decide_eq_false g29 : decide (¬ a0.name = []) = false) (A (decide_eq_false g29 : decide (¬ a0.name = []) = false) (A (decide_eq_false g29 : decide (¬ a0.name = []) = false) (A (decide_eq_false g30 : decide (¬ a0.n = 0) = false) (A (decide_eq_false g30 : decide (¬ a0.n = 0) = false) (A (A (decide_eq_false g30 : decide (¬ a0.n = 0) = false) (dInt.len' a0.scopes)) (A (decide_eq_false g30 : decide (¬ a0.n = 0) = false) (A (decide_eq_false g30 : decide (¬ a0.n = 0) = false) T))))))))))))) [(76, dE (¬ (a0.scopes.length : Int) = 0))] rfl (by kernel_rfl) ?_
                  cases h1
                  exact .lf hj1 rfl [] (by kernel_rfl)
def sp_FormValid (n : Nat) (a0 : Form) : Option (Bool) :=
  Option.bind ((sp_l1Is n a0 40).bind fun k2 => (if k2 = true then (sp_l1Count n a0).bind fun k4 => some (decide (k4 ≤ 400)) else some false) : Option (Bool)) (fun (o1 : Bool) => some o1)
theorem w_sp_FormValid (n : Nat) : ∀ (a0 : Form) {r : Bool}, sp_FormValid n a0 = some r → SCall X.E 92 [aE (kForm a0)] [] (bE r) [] := by
  intro a0 r h0
  rw [sp_FormValid] at h0
  refine .m Tryd.func92 rfl rfl rfl (by kernel_rfl) (fun L ks low K hl hL hlen hK => ?_)
  refine .rf [] T [(1, pw 1)] [.o 1 (.cells ((kForm a0).map .d))] rfl (by kernel_rfl) ?_
  refine .bP h0 rfl [] (fun o1 => [(2, bE o1)]) n1 n1 (fun o1 h0 => ?_) (fun y1 h1 hj1 => ?_)
  · cases h0
    exact .ret rfl rfl (by kernel_rfl) hK
  · obtain ⟨k2, hk2, h1⟩ := bnd h1
    by_cases g3 : k2 = true
    · have h1 := iteP g3 h1
      obtain ⟨k4, hk4, h1⟩ := bnd h1
      refine .r [.call [] (bE k2) [], .b true, .b true, .call [] (iE k4) [], .b true, .b true] (A (w_sp_l1Is n _ _ hk2) (A g3 (A (A g3 (w_sp_l1Count n _ hk4)) (A g3 (A g3 T))))) [(2, dE (k4 ≤ 400))] rfl (by kernel_rfl) ?_
      cases h1
      exact .lf hj1 rfl [] (by kernel_rfl)
    · have h1 := iteN g3 h1
      refine .r [.call [] (bE k2) [], .b false, .b false, .b false, .b false] (A (w_sp_l1Is n _ _ hk2) (A (Bool.eq_false_iff.2 g3) (A (Bool.eq_false_iff.2 g3) (A (Bool.eq_false_iff.2 g3) (A (Bool.eq_false_iff.2 g3) T))))) [(2, bE false)] rfl (by kernel_rfl) ?_
      cases h1
      exact .lf hj1 rfl [] (by kernel_rfl)
def sp_l15Num (n : Nat) (a0 : List UInt8) : Option (Int × Bool) :=
  Option.bind ((if (a0.length : Int) > 0 then (atI a0 0).bind fun y23 => some (decide ((y23.toNat : Int) = 45)) else some false) : Option (Bool)) (fun (o1 : Bool) => Option.bind ((if o1 = true then (slI a0 1 (a0.length : Int)).bind fun z21 => some z21 else some a0) : Option (List UInt8)) (fun (o2 : List UInt8) => Option.bind ((if (o2.length : Int) = 0 then some true else (if (o2.length : Int) > 17 then some true else (atI o2 0).bind fun y17 => (if (y17.toNat : Int) = 48 then (if (o2.length : Int) > 1 then some true else some o1) else some false))) : Option (Bool)) (fun (o3 : Bool) => (if o3 = true then some (0, false) else iterM n (fun (s5 : Int × Int) => ((if s5.2 < (o2.length : Int) then Option.bind ((atI o2 s5.2).bind fun y11 => (if (y11.toNat : Int) < 48 then some true else some (decide ((y11.toNat : Int) > 57))) : Option (Bool)) (fun (o8 : Bool) => (if o8 = true then some (Sum.inl (0, false)) else (atI o2 s5.2).bind fun y10 => some (Sum.inr ((w64 ((w64 (s5.1 * 10)) + (IntKind.i64.wrap (IntKind.u8.wrap ((y10.toNat : Int) - 48))))), (w64 (s5.2 + 1)))))) else Option.bind ((if o1 = true then some (IntKind.i64.wrap (0 - s5.1)) else some s5.1) : Option (Int)) (fun (o13 : Int) => some (Sum.inl (o13, true)))) : Option ((Int × Bool) ⊕ (Int × Int)))) (0, 0)))))
theorem w_sp_l15Num (n : Nat) : ∀ (a0 : List UInt8) {r : Int × Bool}, sp_l15Num n a0 = some r → SCall X.E 98 [sE a0] [] (.tup [iE r.1, bE r.2]) [] := by
  intro a0 r h0
  rw [sp_l15Num] at h0
  refine .m Tryd.func98 rfl rfl rfl (by kernel_rfl) (fun L ks low K hl hL hlen hK => ?_)
  refine .r [] T [] rfl (by kernel_rfl) ?_
  refine .bP h0 rfl [0] (fun o1 => [(4, bE o1)]) n1 n1 (fun o1 h0 => ?_) (fun y1 h1 hj1 => ?_)
  · refine .r [] T [(15, bE o1)] rfl (by kernel_rfl) ?_
    refine .bP h0 rfl [4] (fun o2 => [(0, sE o2)]) n1 n1 (fun o2 h0 => ?_) (fun y1 h1 hj1 => ?_)
    · refine .bP h0 rfl [0, 4] (fun o3 => [(38, bE o3)]) n1 n1 (fun o3 h0 => ?_) (fun y1 h1 hj1 => ?_)
      · refine .cT h0 rfl (by kernel_rfl) (fun hc4 h0 => ?_) (fun hc4 h0 => ?_)
        · refine .r [] T [(2, iE 0), (3, bE false)] rfl (by kernel_rfl) ?_
          cases h0
          exact .ret rfl rfl (by kernel_rfl) hK
        · refine .r [] T [(5, iE 0)] rfl (by kernel_rfl) ?_
          refine .r [] T [(6, iE 0)] rfl (by kernel_rfl) ?_
          refine .it h0 rfl [0, 4] (fun s5 => [(5, iE s5.1), (6, iE s5.2)]) n1 n1 [] (by kernel_rfl) (fun n6 s5 h0 => ?_)
          obtain ⟨y1, h1, hw1, hn1⟩ := iter_cons h0
          refine .r [] T [(42, dE (s5.2 < (o2.length : Int)))] rfl (by kernel_rfl) ?_
          refine .cP h1 rfl (by kernel_rfl) (fun hc7 h1 => ?_) (fun hc7 h1 => ?_)
          · refine .bP h1 rfl [0, 4, 5, 6] (fun o8 => [(54, bE o8)]) n1 n1 (fun o8 h1 => ?_) (fun y2 h2 hj2 => ?_)
            · refine .cT h1 rfl (by kernel_rfl) (fun hc9 h1 => ?_) (fun hc9 h1 => ?_)
              · refine .r [] T [(2, iE 0), (3, bE false)] rfl (by kernel_rfl) ?_
                cases h1
                cases hw1 _ rfl
                exact .ret rfl rfl (by kernel_rfl) hK
              · obtain ⟨y10, hy10, h1⟩ := bnd h1
                refine .r [.pl, .by_ y10, .pl, .pl, .pl] (A (idy hy10) T) [(5, iE (w64 ((w64 (s5.1 * 10)) + (IntKind.i64.wrap (IntKind.u8.wrap ((y10.toNat : Int) - 48))))))] rfl (by kernel_rfl) ?_
                refine .r [.pl] T [(6, iE (w64 (s5.2 + 1)))] rfl (by kernel_rfl) ?_
                cases h1
                exact .nI rfl _ (hn1 _ rfl) [] (by kernel_rfl)
            · obtain ⟨y11, hy11, h2⟩ := bnd h2
              by_cases g12 : (y11.toNat : Int) < 48
              · have h2 := iteP g12 h2
                refine .r [.by_ y11, .b true, .b true, .b true, .b true, .b true] (A (idy hy11) (A (decide_eq_true g12 : decide ((y11.toNat : Int) < 48) = true) (A (decide_eq_true g12 : decide ((y11.toNat : Int) < 48) = true) (A (decide_eq_true g12 : decide ((y11.toNat : Int) < 48) = true) (A (decide_eq_true g12 : decide ((y11.toNat : Int) < 48) = true) (A (decide_eq_true g12 : decide ((y11.toNat : Int) < 48) = true) T)))))) [(54, bE true)] rfl (by kernel_rfl) ?_
                cases h2
                exact .lf hj2 rfl [] (by kernel_rfl)
              · have h2 := iteN g12 h2
                refine .r [.by_ y11, .b false, .b false, .b false, .by_ y11, .b false, .b false] (A (idy hy11) (A (decide_eq_false g12 : decide ((y11.toNat : Int) < 48) = false) (A (decide_eq_false g12 : decide ((y11.toNat : Int) < 48) = false) (A (A (decide_eq_false g12 : decide ((y11.toNat : Int) < 48) = false) (idy hy11)) (A (decide_eq_false g12 : decide ((y11.toNat : Int) < 48) = false) (A (decide_eq_false g12 : decide ((y11.toNat : Int) < 48) = false) T)))))) [(54, dE ((y11.toNat : Int) > 57))] rfl (by kernel_rfl) ?_
                cases h2
                exact .lf hj2 rfl [] (by kernel_rfl)
          · refine .r [] T [(63, bE o1)] rfl (by kernel_rfl) ?_
            refine .bP h1 rfl [] (fun o13 => [(5, iE o13)]) n1 n1 (fun o13 h1 => ?_) (fun y2 h2 hj2 => ?_)
            · refine .r [] T [(2, iE o13), (3, bE true)] rfl (by kernel_rfl) ?_
              cases h1
              cases hw1 _ rfl
              exact .ret rfl rfl (by kernel_rfl) hK
            · refine .cT h2 rfl (by kernel_rfl) (fun hc14 h2 => ?_) (fun hc14 h2 => ?_)
              · refine .r [] T [(5, iE (IntKind.i64.wrap (0 - s5.1)))] rfl (by kernel_rfl) ?_
                cases h2
                exact .lf hj2 rfl [] (by kernel_rfl)
              · cases h2
                exact .lf hj2 rfl [] (by kernel_rfl)
      · by_cases g15 : (o2.length : Int) = 0
        · have h1 := iteP g15 h1
          refine .r [.b true, .b true, .b true, .b true, .b true, .b true, .b true, .b true, .b true, .b true] (A (decide_eq_true g15 : decide ((o2.length : Int) = 0) = true) (A (decide_eq_true g15 : decide ((o2.length : Int) = 0) = true) (A (decide_eq_true g15 : decide ((o2.length : Int) = 0) = true) (A (decide_eq_true g15 : decide ((o2.length : Int) = 0) = true) (A (rfl : true = true) (A (rfl : true = true) (A (rfl : true = true) (A (rfl : true = true) (A (rfl : true = true) (A (rfl : true = true) T)))))))))) [(38, bE true)] rfl (by kernel_rfl) ?_
          cases h1
          exact .lf hj1 rfl [] (by kernel_rfl)
        · have h1 := iteN g15 h1
          by_cases g16 : (o2.length : Int) > 17
          · have h1 := iteP g16 h1
            refine .r [.b false, .b false, .b false, .b false, .b true, .b true, .b true, .b true, .b true, .b true] (A (decide_eq_false g15 : decide ((o2.length : Int) = 0) = false) (A (decide_eq_false g15 : decide ((o2.length : Int) = 0) = false) (A (decide_eq_false g15 : decide ((o2.length : Int) = 0) = false) (A (decide_eq_false g15 : decide ((o2.length : Int) = 0) = false) (A (decide_eq_true g16 : decide ((o2.length : Int) > 17) = true) (A (decide_eq_true g16 : decide ((o2.length : Int) > 17) = true) (A (decide_eq_true g16 : decide ((o2.length : Int) > 17) = true) (A (decide_eq_true g16 : decide ((o2.length : Int) > 17) = true) (A (decide_eq_true g16 : decide ((o2.length : Int) > 17) = true) (A (decide_eq_true g16 : decide ((o2.length : Int) > 17) = true) T)))))))))) [(38, bE true)] rfl (by kernel_rfl) ?_
            cases h1
            exact .lf hj1 rfl [] (by kernel_rfl)
          · have h1 := iteN g16 h1
            obtain ⟨y17, hy17, h1⟩ := bnd h1
            by_cases g18 : (y17.toNat : Int) = 48
            · have h1 := iteP g18 h1
              by_cases g19 : (o2.length : Int) > 1
              · have h1 := iteP g19 h1
                refine .r [.b false, .b false, .b false, .b false, .b false, .b false, .by_ y17, .b false, .b false, .b true, .b true, .b true, .b true, .b true, .b true, .b true, .b false, .b true, .b false] (A (decide_eq_false g15 : decide ((o2.length : Int) = 0) = false) (A (decide_eq_false g15 : decide ((o2.length : Int) = 0) = false) (A (decide_eq_false g15 : decide ((o2.length : Int) = 0) = false) (A (decide_eq_false g15 : decide ((o2.length : Int) = 0) = false) (A (decide_eq_false g16 : decide ((o2.length : Int) > 17) = false) (A (A (decide_eq_false g16 : decide ((o2.length : Int) > 17) = false) (idy hy17)) (A (decide_eq_false g16 : decide ((o2.length : Int) > 17) = false) (A (decide_eq_false g16 : decide ((o2.length : Int) > 17) = false) (A (decide_eq_true g18 : decide ((y17.toNat : Int) = 48) = true) (A (decide_eq_true g18 : decide ((y17.toNat : Int) = 48) = true) (A (decide_eq_true g18 : decide ((y17.toNat : Int) = 48) = true) (A (decide_eq_true g18 : decide ((y17.toNat : Int) = 48) = true) (A (decide_eq_true g19 : decide ((o2.length : Int) > 1) = true) (A (A (decide_eq_true g18 : decide ((y17.toNat : Int) = 48) = true) (decide_eq_true g19 : decide ((o2.length : Int) > 1) = true)) (A (A (decide_eq_false g16 : decide ((o2.length : Int) > 17) = false) (decide_eq_true g18 : decide ((y17.toNat : Int) = 48) = true)) (A (decide_eq_false g16 : decide ((o2.length : Int) > 17) = false) T)))))))))))))))) [(38, bE true)] rfl (by kernel_rfl) ?_
                cases h1
                exact .lf hj1 rfl [] (by kernel_rfl)
              · have h1 := iteN g19 h1
                refine .r [.b false, .b false, .b false, .b false, .b false, .b false, .by_ y17, .b false, .b false, .b true, .b true, .b true, .b true, .b false, .b true, .b false, .b false, .b true, .b false] (A (decide_eq_false g15 : decide ((o2.length : Int) = 0) = false) (A (decide_eq_false g15 : decide ((o2.length : Int) = 0) = false) (A (decide_eq_false g15 : decide ((o2.length : Int) = 0) = false) (A (decide_eq_false g15 : decide ((o2.length : Int) = 0) = false) (A (decide_eq_false g16 : decide ((o2.length : Int) > 17) = false) (A (A (decide_eq_false g16 : decide ((o2.length : Int) > 17) = false) (idy hy17)) (A (decide_eq_false g16 : decide ((o2.length : Int) > 17) = false) (A (decide_eq_false g16 : decide ((o2.length : Int) > 17) = false) (A (decide_eq_true g18 : decide ((y17.toNat : Int) = 48) = true) (A (decide_eq_true g18 : decide ((y17.toNat : Int) = 48) = true) (A (decide_eq_true g18 : decide ((y17.toNat : Int) = 48) = true) (A (decide_eq_true g18 : decide ((y17.toNat : Int) = 48) = true) (A (decide_eq_false g19 : decide ((o2.length : Int) > 1) = false) (A (A (decide_eq_true g18 : decide ((y17.toNat : Int) = 48) = true) (decide_eq_false g19 : decide ((o2.length : Int) > 1) = false)) (A (A (decide_eq_false g16 : decide ((o2.length : Int) > 17) = false) (decide_eq_true g18 : decide ((y17.toNat : Int) = 48) = true)) (A (decide_eq_false g16 : decide ((o2.length : Int) > 17) = false) T)))))))))))))))) [(38, bE o1)] rfl (by kernel_rfl) ?_
                cases h1
                exact .lf hj1 rfl [] (by kernel_rfl)
            · have h1 := iteN g18 h1
              refine .r [.b false, .b false, .b false, .b false, .b false, .b false, .by_ y17, .b false, .b false, .b false, .b false, .b false, .b false, .b false, .b false, .b false, .b false] (A (decide_eq_false g15 : decide ((o2.length : Int) = 0) = false) (A (decide_eq_false g15 : decide ((o2.length : Int) = 0) = false) (A (decide_eq_false g15 : decide ((o2.length : Int) = 0) = false) (A (decide_eq_false g15 : decide ((o2.length : Int) = 0) = false) (A (decide_eq_false g16 : decide ((o2.length : Int) > 17) = false) (A (A (decide_eq_false g16 : decide ((o2.length : Int) > 17) = false) (idy hy17)) (A (decide_eq_false g16 : decide ((o2.length : Int) > 17) = false) (A (decide_eq_false g16 : decide ((o2.length : Int) > 17) = false) (A (decide_eq_false g18 : decide ((y17.toNat : Int) = 48) = false) (A (decide_eq_false g18 : decide ((y17.toNat : Int) = 48) = false) (A (decide_eq_false g18 : decide ((y17.toNat : Int) = 48) = false) (A (decide_eq_false g18 : decide ((y17.toNat : Int) = 48) = false) (A (decide_eq_false g18 : decide ((y17.toNat : Int) = 48) = false) (A (A (decide_eq_false g16 : decide ((o2.length : Int) > 17) = false) (decide_eq_false g18 : decide ((y17.toNat : Int) = 48) = false)) (A (decide_eq_false g16 : decide ((o2.length : Int) > 17) = false) T))))))))))))))) [(38, bE false)] rfl (by kernel_rfl) ?_
              cases h1
              exact .lf hj1 rfl [] (by kernel_rfl)
    · refine .cT h1 rfl (by kernel_rfl) (fun hc20 h1 => ?_) (fun hc20 h1 => ?_)
      · obtain ⟨z21, hz21, h1⟩ := bnd h1
        refine .r [.st z21] (A (slS hz21) T) [(0, sE z21)] rfl (by kernel_rfl) ?_
        cases h1
        exact .lf hj1 rfl [] (by kernel_rfl)
      · cases h1
        exact .lf hj1 rfl [] (by kernel_rfl)
  · by_cases g22 : (a0.length : Int) > 0
    · have h1 := iteP g22 h1
      obtain ⟨y23, hy23, h1⟩ := bnd h1
      refine .r [.b true, .b true, .by_ y23, .b true, .b true] (A (decide_eq_true g22 : decide ((a0.length : Int) > 0) = true) (A (A (decide_eq_true g22 : decide ((a0.length : Int) > 0) = true) (idy hy23)) (A (decide_eq_true g22 : decide ((a0.length : Int) > 0) = true) (A (decide_eq_true g22 : decide ((a0.length : Int) > 0) = true) T)))) [(4, dE ((y23.toNat : Int) = 45))] rfl (by kernel_rfl) ?_
      cases h1
      exact .lf hj1 rfl [] (by kernel_rfl)
    · have h1 := iteN g22 h1
      refine .r [.b false, .b false, .b false, .b false] (A (decide_eq_false g22 : decide ((a0.length : Int) > 0) = false) (A (decide_eq_false g22 : decide ((a0.length : Int) > 0) = false) (A (decide_eq_false g22 : decide ((a0.length : Int) > 0) = false) (A (decide_eq_false g22 : decide ((a0.length : Int) > 0) = false) T)))) [(4, bE false)] rfl (by kernel_rfl) ?_
      cases h1
      exact .lf hj1 rfl [] (by kernel_rfl)
def sp_l15Cut (n : Nat) (a0 : List UInt8) (a1 : Int) : Option (List (List UInt8)) :=
  iterM n (fun (s1 : (List (List UInt8)) × Int × Int) => ((if s1.2.2 ≤ (a0.length : Int) then Option.bind (Option.bind ((if s1.2.2 = (a0.length : Int) then some true else (atI a0 s1.2.2).bind fun y10 => some (decide ((y10.toNat : Int) = a1))) : Option (Bool)) (fun (o5 : Bool) => (if o5 = true then (slI a0 s1.2.1 s1.2.2).bind fun z7 => (apB 16 s1.1 [z7]).bind fun z8 => some (z8, (w64 (s1.2.2 + 1))) else some (s1.1, s1.2.1))) : Option ((List (List UInt8)) × Int)) (fun (o4 : (List (List UInt8)) × Int) => some (Sum.inr (o4.1, o4.2, (w64 (s1.2.2 + 1))))) else some (Sum.inl s1.1)) : Option ((List (List UInt8)) ⊕ ((List (List UInt8)) × Int × Int)))) ([], 0, 0)
theorem w_sp_l15Cut (n : Nat) : ∀ (a0 : List UInt8) (a1 : Int) {r : List (List UInt8)}, sp_l15Cut n a0 a1 = some r → SCall X.E 102 [sE a0, .d (.v (.int .u8 a1))] [] (lE 1 (ksStr r)) [] := by
  intro a0 a1 r h0
  rw [sp_l15Cut] at h0
  refine .m Tryd.func102 rfl rfl rfl (by kernel_rfl) (fun L ks low K hl hL hlen hK => ?_)
  refine .r [] T [] rfl (by kernel_rfl) ?_
  refine .r [.sv (ksStr [])] (A (dStr.lit []) T) [(5, fE 1 (ksStr []))] rfl (by kernel_rfl) ?_
  refine .r [] T [(6, iE 0)] rfl (by kernel_rfl) ?_
  refine .r [] T [(7, iE 0)] rfl (by kernel_rfl) ?_
  refine .ow 5 100032 9 [0, 1, 6, 7] rfl rfl (by kernel_rfl) ?_
  refine .it h0 rfl [0, 1] (fun s1 => [(5, .gs (.own 100032) 1 (ksStr s1.1)), (6, iE s1.2.1), (7, iE s1.2.2)]) (fun s1 => [.o 100032 (.tok (ksStr s1.1).length 9)]) n1 [] (by kernel_rfl) (fun n2 s1 h0 => ?_)
  obtain ⟨y1, h1, hw1, hn1⟩ := iter_cons h0
  refine .r [] T [(12, dE (s1.2.2 ≤ (a0.length : Int)))] rfl (by kernel_rfl) ?_
  refine .cP h1 rfl (by kernel_rfl) (fun hc3 h1 => ?_) (fun hc3 h1 => ?_)
  · refine .bPB h1 rfl [0, 1, 7] (fun o4 => [(5, .gs (.own 100032) 1 (ksStr o4.1)), (6, iE o4.2)]) (fun o4 => [.o 100032 (.tok (ksStr o4.1).length 9)]) n1 (fun o4 h1 => ?_) (fun y2 h2 hj2 => ?_)
    · refine .r [.pl] T [(7, iE (w64 (s1.2.2 + 1)))] rfl (by kernel_rfl) ?_
      cases h1
      exact .nI rfl _ (hn1 _ rfl) [] (by kernel_rfl)
    · refine .bP h2 rfl [0, 1, 5, 6, 7] (fun o5 => [(25, bE o5)]) n1 n1 (fun o5 h2 => ?_) (fun y3 h3 hj3 => ?_)
      · refine .cT h2 rfl (by kernel_rfl) (fun hc6 h2 => ?_) (fun hc6 h2 => ?_)
        · obtain ⟨z7, hz7, h2⟩ := bnd h2
          obtain ⟨z8, hz8, h2⟩ := bnd h2
          refine .rq [.st z7, .sv (ksStr [z7]), .sv (ksStr z8)] [((ksStr s1.1).length : Int)] (A (slS hz7) (A (dStr.lit [z7]) (A (dStr.ap hz8) T))) [(5, .gs (.own 100032) 1 (ksStr z8))] [.o 100032 (.tok (ksStr z8).length 9)] [] rfl (by kernel_rfl) ?_
          refine .r [.pl] T [(6, iE (w64 (s1.2.2 + 1)))] rfl (by kernel_rfl) ?_
          cases h2
          exact .lf hj2 rfl [] (by kernel_rfl)
        · cases h2
          exact .lf hj2 rfl [] (by kernel_rfl)
      · by_cases g9 : s1.2.2 = (a0.length : Int)
        · have h3 := iteP g9 h3
          refine .r [.b true, .b true, .b true, .b true, .b true, .b true] (A (decide_eq_true g9 : decide (s1.2.2 = (a0.length : Int)) = true) (A (decide_eq_true g9 : decide (s1.2.2 = (a0.length : Int)) = true) (A (decide_eq_true g9 : decide (s1.2.2 = (a0.length : Int)) = true) (A (decide_eq_true g9 : decide (s1.2.2 = (a0.length : Int)) = true) (A (decide_eq_true g9 : decide (s1.2.2 = (a0.length : Int)) = true) (A (decide_eq_true g9 : decide (s1.2.2 = (a0.length : Int)) = true) T)))))) [(25, bE true)] rfl (by kernel_rfl) ?_
          cases h3
          exact .lf hj3 rfl [] (by kernel_rfl)
        · have h3 := iteN g9 h3
          obtain ⟨y10, hy10, h3⟩ := bnd h3
          refine .r [.b false, .b false, .b false, .by_ y10, .b false, .b false, .b false] (A (decide_eq_false g9 : decide (s1.2.2 = (a0.length : Int)) = false) (A (decide_eq_false g9 : decide (s1.2.2 = (a0.length : Int)) = false) (A (A (decide_eq_false g9 : decide (s1.2.2 = (a0.length : Int)) = false) (idy hy10)) (A (decide_eq_false g9 : decide (s1.2.2 = (a0.length : Int)) = false) (A (decide_eq_false g9 : decide (s1.2.2 = (a0.length : Int)) = false) (A (decide_eq_false g9 : decide (s1.2.2 = (a0.length : Int)) = false) T)))))) [(25, dE ((y10.toNat : Int) = a1))] rfl (by kernel_rfl) ?_
          cases h3
          exact .lf hj3 rfl [] (by kernel_rfl)
  · refine .r [] T [(4, .gs (.own 100032) 1 (ksStr s1.1))] rfl (by kernel_rfl) ?_
    cases h1
    cases hw1 _ rfl
    exact .ret rfl rfl (by kernel_rfl) hK
def sp_l1Sets (n : Nat) (a0 : List UInt8) (a1 : Int) : Option ((List Int) × Int) :=
  Option.bind ((if a1 ≥ (a0.length : Int) then some true else (atI a0 a1).bind fun y24 => some (decide (¬ (y24.toNat : Int) = 123))) : Option (Bool)) (fun (o1 : Bool) => (if o1 = true then some ([], a1) else iterM n (fun (s3 : Int) => (Option.bind ((if s3 < (a0.length : Int) then (atI a0 s3).bind fun y22 => some (decide (¬ (y22.toNat : Int) = 125)) else some false) : Option (Bool)) (fun (o5 : Bool) => (if o5 = true then some (Sum.inr (w64 (s3 + 1))) else (if s3 = (a0.length : Int) then some (Sum.inl ([], (-1))) else (slI a0 (w64 (a1 + 1)) s3).bind fun z8 => (sp_l15Cut n z8 44).bind fun k9 => iterM n (fun (s10 : (List Int) × Int) => (Option.bind ((if s10.2 < (k9.length : Int) then some (decide (s10.2 ≤ 24)) else some false) : Option (Bool)) (fun (o12 : Bool) => (if o12 = true then (atI k9 s10.2).bind fun e14 => (sp_l15Num n e14).bind fun k15 => (if (!k15.2) = true then some (Sum.inl (Sum.inl (s10.1, (-1)))) else (apB 8 s10.1 [k15.1]).bind fun z17 => some (Sum.inr (z17, (w64 (s10.2 + 1))))) else some (Sum.inl (Sum.inl (s10.1, (w64 (s3 + 1))))))) : Option ((((List Int) × Int) ⊕ Int) ⊕ ((List Int) × Int)))) ([], 0)))) : Option (((List Int) × Int) ⊕ Int))) a1))
theorem w_sp_l1Sets (n : Nat) : ∀ (a0 : List UInt8) (a1 : Int) {r : (List Int) × Int}, sp_l1Sets n a0 a1 = some r → SCall X.E 99 [sE a0, iE a1] [] (.tup [lE 1 (ksInt r.1), iE r.2]) [] := by
  intro a0 a1 r h0
  rw [sp_l1Sets] at h0
  refine .m Tryd.func99 rfl rfl rfl (by kernel_rfl) (fun L ks low K hl hL hlen hK => ?_)
  refine .r [] T [] rfl (by kernel_rfl) ?_
  refine .r [.sv (ksInt [])] (A (dInt.lit []) T) [(6, fE 1 (ksInt []))] rfl (by kernel_rfl) ?_
  refine .bP h0 rfl [0, 1, 6] (fun o1 => [(22, bE o1)]) n1 n1 (fun o1 h0 => ?_) (fun y1 h1 hj1 => ?_)
  · refine .cT h0 rfl (by kernel_rfl) (fun hc2 h0 => ?_) (fun hc2 h0 => ?_)
    · refine .r [] T [(4, fE 1 (ksInt [])), (5, iE a1)] rfl (by kernel_rfl) ?_
      cases h0
      exact .ret rfl rfl (by kernel_rfl) hK
    · refine .r [] T [(7, iE a1)] rfl (by kernel_rfl) ?_
      refine .it h0 rfl [0, 1, 6] (fun s3 => [(7, iE s3)]) n1 n1 [] (by kernel_rfl) (fun n4 s3 h0 => ?_)
      obtain ⟨y1, h1, hw1, hn1⟩ := iter_cons h0
      refine .bP h1 rfl [0, 1, 6, 7] (fun o5 => [(35, bE o5)]) n1 n1 (fun o5 h1 => ?_) (fun y2 h2 hj2 => ?_)
      · refine .cT h1 rfl (by kernel_rfl) (fun hc6 h1 => ?_) (fun hc6 h1 => ?_)
        · refine .r [.pl] T [(7, iE (w64 (s3 + 1)))] rfl (by kernel_rfl) ?_
          cases h1
          exact .nI rfl _ (hn1 _ rfl) [] (by kernel_rfl)
        · refine .r [] T [(41, dE (s3 = (a0.length : Int)))] rfl (by kernel_rfl) ?_
          refine .cP h1 rfl (by kernel_rfl) (fun hc7 h1 => ?_) (fun hc7 h1 => ?_)
          · refine .r [] T [(4, fE 1 (ksInt [])), (5, iE (-1))] rfl (by kernel_rfl) ?_
            cases h1
            cases hw1 _ rfl
            exact .ret rfl rfl (by kernel_rfl) hK
          · obtain ⟨z8, hz8, h1⟩ := bnd h1
            obtain ⟨k9, hk9, h1⟩ := bnd h1
            refine .r [.pl, .st z8, .call [] (lE 1 (ksStr k9)) []] (A (slS hz8) (A (w_sp_l15Cut n _ _ hk9) T)) [(8, lE 1 (ksStr k9))] rfl (by kernel_rfl) ?_
            refine .r [] T [(9, iE 0)] rfl (by kernel_rfl) ?_
            refine .ow 6 100073 3 [7, 8, 9] rfl rfl (by kernel_rfl) ?_
            refine .it h1 rfl [7, 8] (fun s10 => [(6, .gs (.own 100073) 1 (ksInt s10.1)), (9, iE s10.2)]) (fun s10 => [.o 100073 (.tok (ksInt s10.1).length 3)]) n1 [] (by kernel_rfl) (fun n11 s10 h1 => ?_)
            obtain ⟨y2, h2, hw2, hn2⟩ := iter_cons h1
            refine .bP h2 rfl [6, 7, 8, 9] (fun o12 => [(56, bE o12)]) n1 n1 (fun o12 h2 => ?_) (fun y3 h3 hj3 => ?_)
            · refine .cT h2 rfl (by kernel_rfl) (fun hc13 h2 => ?_) (fun hc13 h2 => ?_)
              · obtain ⟨e14, he14, h2⟩ := bnd h2
                obtain ⟨k15, hk15, h2⟩ := bnd h2
                refine .r [.cs [.s e14], .call [] (.tup [iE k15.1, bE k15.2]) []] (A (dStr.idx he14) (A (w_sp_l15Num n _ hk15) T)) [(10, iE k15.1), (11, bE k15.2)] rfl (by kernel_rfl) ?_
                refine .r [] T [(68, bE (!k15.2))] rfl (by kernel_rfl) ?_
                refine .cT h2 rfl (by kernel_rfl) (fun hc16 h2 => ?_) (fun hc16 h2 => ?_)
                · refine .r [] T [(4, .gs (.own 100073) 1 (ksInt s10.1)), (5, iE (-1))] rfl (by kernel_rfl) ?_
                  cases h2
                  cases hw2 _ rfl
                  cases hw1 _ rfl
                  exact .ret rfl rfl (by kernel_rfl) hK
                · obtain ⟨z17, hz17, h2⟩ := bnd h2
                  refine .rq [.sv (ksInt [k15.1]), .sv (ksInt z17)] [((ksInt s10.1).length : Int)] (A (dInt.lit [k15.1]) (A (dInt.ap hz17) T)) [(6, .gs (.own 100073) 1 (ksInt z17))] [.o 100073 (.tok (ksInt z17).length 3)] [] rfl (by kernel_rfl) ?_
                  refine .r [.pl] T [(9, iE (w64 (s10.2 + 1)))] rfl (by kernel_rfl) ?_
                  cases h2
                  exact .nI rfl _ (hn2 _ rfl) [] (by kernel_rfl)
              · refine .r [.pl] T [(4, .gs (.own 100073) 1 (ksInt s10.1)), (5, iE (w64 (s3 + 1)))] rfl (by kernel_rfl) ?_
                cases h2
                cases hw2 _ rfl
                cases hw1 _ rfl
                exact .ret rfl rfl (by kernel_rfl) hK
            · by_cases g18 : s10.2 < (k9.length : Int)
              · have h3 := iteP g18 h3
                refine .r [.v (k9.length : Int), .b true, .b true, .b true] (A (dStr.len' k9) (A (decide_eq_true g18 : decide (s10.2 < (k9.length : Int)) = true) (A (decide_eq_true g18 : decide (s10.2 < (k9.length : Int)) = true) (A (decide_eq_true g18 : decide (s10.2 < (k9.length : Int)) = true) T)))) [(56, dE (s10.2 ≤ 24))] rfl (by kernel_rfl) ?_
                refine .sn 8 dStr k9 (by kernel_rfl) (fun hb19 => ?_)
                cases h3
                exact .lf hj3 rfl [] (by kernel_rfl)
              · have h3 := iteN g18 h3
                refine .r [.v (k9.length : Int), .b false, .b false, .b false] (A (dStr.len' k9) (A (decide_eq_false g18 : decide (s10.2 < (k9.length : Int)) = false) (A (decide_eq_false g18 : decide (s10.2 < (k9.length : Int)) = false) (A (decide_eq_false g18 : decide (s10.2 < (k9.length : Int)) = false) T)))) [(56, bE false)] rfl (by kernel_rfl) ?_
                refine .sn 8 dStr k9 (by kernel_rfl) (fun hb20 => ?_)
                cases h3
                exact .lf hj3 rfl [] (by kernel_rfl)
      · by_cases g21 : s3 < (a0.length : Int)
        · have h2 := iteP g21 h2
          obtain ⟨y22, hy22, h2⟩ := bnd h2
          refine .r [.b true, .b true, .b true, .by_ y22, .b true, .b true] (A (decide_eq_true g21 : decide (s3 < (a0.length : Int)) = true) (A (decide_eq_true g21 : decide (s3 < (a0.length : Int)) = true) (A (A (decide_eq_true g21 : decide (s3 < (a0.length : Int)) = true) (idy hy22)) (A (decide_eq_true g21 : decide (s3 < (a0.length : Int)) = true) (A (decide_eq_true g21 : decide (s3 < (a0.length : Int)) = true) T))))) [(35, dE (¬ (y22.toNat : Int) = 125))] rfl (by kernel_rfl) ?_
          cases h2
          exact .lf hj2 rfl [] (by kernel_rfl)
        · have h2 := iteN g21 h2
          refine .r [.b false, .b false, .b false, .b false, .b false] (A (decide_eq_false g21 : decide (s3 < (a0.length : Int)) = false) (A (decide_eq_false g21 : decide (s3 < (a0.length : Int)) = false) (A (decide_eq_false g21 : decide (s3 < (a0.length : Int)) = false) (A (decide_eq_false g21 : decide (s3 < (a0.length : Int)) = false) (A (decide_eq_false g21 : decide (s3 < (a0.length : Int)) = false) T))))) [(35, bE false)] rfl (by kernel_rfl) ?_
          cases h2
          exact .lf hj2 rfl [] (by kernel_rfl)
  · by_cases g23 : a1 ≥ (a0.length : Int)
    · have h1 := iteP g23 h1
      refine .r [.b true, .b true, .b true, .b true, .b true] (A (decide_eq_true g23 : decide (a1 ≥ (a0.length : Int)) = true) (A (decide_eq_true g23 : decide (a1 ≥ (a0.length : Int)) = true) (A (decide_eq_true g23 : decide (a1 ≥ (a0.length : Int)) = true) (A (decide_eq_true g23 : decide (a1 ≥ (a0.length : Int)) = true) (A (decide_eq_true g23 : decide (a1 ≥ (a0.length : Int)) = true) T))))) [(22, bE true)] rfl (by kernel_rfl) ?_
      cases h1
      exact .lf hj1 rfl [] (by kernel_rfl)
    · have h1 := iteN g23 h1
      obtain ⟨y24, hy24, h1⟩ := bnd h1
      refine .r [.b false, .b false, .b false, .by_ y24, .b false, .b false] (A (decide_eq_false g23 : decide (a1 ≥ (a0.length : Int)) = false) (A (decide_eq_false g23 : decide (a1 ≥ (a0.length : Int)) = false) (A (A (decide_eq_false g23 : decide (a1 ≥ (a0.length : Int)) = false) (idy hy24)) (A (decide_eq_false g23 : decide (a1 ≥ (a0.length : Int)) = false) (A (decide_eq_false g23 : decide (a1 ≥ (a0.length : Int)) = false) T))))) [(22, dE (¬ (y24.toNat : Int) = 123))] rfl (by kernel_rfl) ?_
      cases h1
      exact .lf hj1 rfl [] (by kernel_rfl)
def sp_l1Word (n : Nat) (a0 : List UInt8) (a1 : Int) : Option (Int) :=
  iterM n (fun (s1 : Int) => (Option.bind ((if s1 < (a0.length : Int) then (atI a0 s1).bind fun y6 => (if ¬ (y6.toNat : Int) = 32 then (if ¬ (y6.toNat : Int) = 40 then (if ¬ (y6.toNat : Int) = 41 then some (decide (¬ (y6.toNat : Int) = 123)) else some false) else some false) else some false) else some false) : Option (Bool)) (fun (o3 : Bool) => (if o3 = true then some (Sum.inr (w64 (s1 + 1))) else some (Sum.inl s1))) : Option (Int ⊕ Int))) a1
theorem w_sp_l1Word (n : Nat) : ∀ (a0 : List UInt8) (a1 : Int) {r : Int}, sp_l1Word n a0 a1 = some r → SCall X.E 97 [sE a0, iE a1] [] (iE r) [] := by
  intro a0 a1 r h0
  rw [sp_l1Word] at h0
  refine .m Tryd.func97 rfl rfl rfl (by kernel_rfl) (fun L ks low K hl hL hlen hK => ?_)
  refine .r [] T [] rfl (by kernel_rfl) ?_
  refine .it h0 rfl [0] (fun s1 => [(1, iE s1)]) n1 n1 [] (by kernel_rfl) (fun n2 s1 h0 => ?_)
  obtain ⟨y1, h1, hw1, hn1⟩ := iter_cons h0
  refine .bP h1 rfl [0, 1] (fun o3 => [(32, bE o3)]) n1 n1 (fun o3 h1 => ?_) (fun y2 h2 hj2 => ?_)
  · refine .cT h1 rfl (by kernel_rfl) (fun hc4 h1 => ?_) (fun hc4 h1 => ?_)
    · refine .r [.pl] T [(1, iE (w64 (s1 + 1)))] rfl (by kernel_rfl) ?_
      cases h1
      exact .nI rfl _ (hn1 _ rfl) [] (by kernel_rfl)
    · refine .r [] T [(4, iE s1)] rfl (by kernel_rfl) ?_
      cases h1
      cases hw1 _ rfl
      exact .ret rfl rfl (by kernel_rfl) hK
  · by_cases g5 : s1 < (a0.length : Int)
    · have h2 := iteP g5 h2
      obtain ⟨y6, hy6, h2⟩ := bnd h2
      by_cases g7 : ¬ (y6.toNat : Int) = 32
      · have h2 := iteP g7 h2
        by_cases g8 : ¬ (y6.toNat : Int) = 40
        · have h2 := iteP g8 h2
          by_cases g9 : ¬ (y6.toNat : Int) = 41
          · have h2 := iteP g9 h2
            refine .r [.b true, .b true, .b true, .by_ y6, .b true, .b true, .b true, .b true, .b true, .by_ y6, .b true, .b true, .b true, .b true, .b true, .by_ y6, .b true, .b true, .b true, .b true, .b true, .by_ y6, .b true, .b true] (A (decide_eq_true g5 : decide (s1 < (a0.length : Int)) = true) (A (decide_eq_true g5 : decide (s1 < (a0.length : Int)) = true) (A (A (decide_eq_true g5 : decide (s1 < (a0.length : Int)) = true) (idy hy6)) (A (decide_eq_true g5 : decide (s1 < (a0.length : Int)) = true) (A (decide_eq_true g5 : decide (s1 < (a0.length : Int)) = true) (A (decide_eq_true g7 : decide (¬ (y6.toNat : Int) = 32) = true) (A (decide_eq_true g7 : decide (¬ (y6.toNat : Int) = 32) = true) (A (A (decide_eq_true g7 : decide (¬ (y6.toNat : Int) = 32) = true) (idy hy6)) (A (decide_eq_true g7 : decide (¬ (y6.toNat : Int) = 32) = true) (A (decide_eq_true g7 : decide (¬ (y6.toNat : Int) = 32) = true) (A (decide_eq_true g8 : decide (¬ (y6.toNat : Int) = 40) = true) (A (decide_eq_true g8 : decide (¬ (y6.toNat : Int) = 40) = true) (A (A (decide_eq_true g8 : decide (¬ (y6.toNat : Int) = 40) = true) (idy hy6)) (A (decide_eq_true g8 : decide (¬ (y6.toNat : Int) = 40) = true) (A (decide_eq_true g8 : decide (¬ (y6.toNat : Int) = 40) = true) (A (decide_eq_true g9 : decide (¬ (y6.toNat : Int) = 41) = true) (A (decide_eq_true g9 : decide (¬ (y6.toNat : Int) = 41) = true) (A (A (decide_eq_true g9 : decide (¬ (y6.toNat : Int) = 41) = true) (idy hy6)) (A (decide_eq_true g9 : decide (¬ (y6.toNat : Int) = 41) = true) (A (decide_eq_true g9 : decide (¬ (y6.toNat : Int) = 41) = true) T)))))))))))))))))))) [(32, dE (¬ (y6.toNat : Int) = 123))] rfl (by kernel_rfl) ?_
            cases h2
            exact .lf hj2 rfl [] (by kernel_rfl)
          · have h2 := iteN g9 h2
            refine .r [.b true, .b true, .b true, .by_ y6, .b true, .b true, .b true, .b true, .b true, .by_ y6, .b true, .b true, .b true, .b true, .b true, .by_ y6, .b true, .b true, .b false, .b false, .b false, .b false, .b false] (A (decide_eq_true g5 : decide (s1 < (a0.length : Int)) = true) (A (decide_eq_true g5 : decide (s1 < (a0.length : Int)) = true) (A (A (decide_eq_true g5 : decide (s1 < (a0.length : Int)) = true) (idy hy6)) (A (decide_eq_true g5 : decide (s1 < (a0.length : Int)) = true) (A (decide_eq_true g5 : decide (s1 < (a0.length : Int)) = true) (A (decide_eq_true g7 : decide (¬ (y6.toNat : Int) = 32) = true) (A (decide_eq_true g7 : decide (¬ (y6.toNat : Int) = 32) = true) (A (A (decide_eq_true g7 : decide (¬ (y6.toNat : Int) = 32) = true) (idy hy6)) (A (decide_eq_true g7 : decide (¬ (y6.toNat : Int) = 32) = true) (A (decide_eq_true g7 : decide (¬ (y6.toNat : Int) = 32) = true) (A (decide_eq_true g8 : decide (¬ (y6.toNat : Int) = 40) = true) (A (decide_eq_true g8 : decide (¬ (y6.toNat : Int) = 40) = true) (A (A (decide_eq_true g8 : decide (¬ (y6.toNat : Int) = 40) = true) (idy hy6)) (A (decide_eq_true g8 : decide (¬ (y6.toNat : Int) = 40) = true) (A (decide_eq_true g8 : decide (¬ (y6.toNat : Int) = 40) = true) (A (decide_eq_false g9 : decide (¬ (y6.toNat : Int) = 41) = false) (A (decide_eq_false g9 : decide (¬ (y6.toNat : Int) = 41) = false) (A (decide_eq_false g9 : decide (¬ (y6.toNat : Int) = 41) = false) (A (decide_eq_false g9 : decide (¬ (y6.toNat : Int) = 41) = false) (A (decide_eq_false g9 : decide (¬ (y6.toNat : Int) = 41) = false) T)))))))))))))))))))) [(32, bE false)] rfl (by kernel_rfl) ?_
            cases h2
            exact .lf hj2 rfl [] (by kernel_rfl)
        · have h2 := iteN g8 h2
          refine .r [.b true, .b true, .b true, .by_ y6, .b true, .b true, .b true, .b true, .b true, .by_ y6, .b true, .b true, .b false, .b false, .b false, .b false, .b false, .b false, .b false, .b false, .b false, .b false] (A (decide_eq_true g5 : decide (s1 < (a0.length : Int)) = true) (A (decide_eq_true g5 : decide (s1 < (a0.length : Int)) = true) (A (A (decide_eq_true g5 : decide (s1 < (a0.length : Int)) = true) (idy hy6)) (A (decide_eq_true g5 : decide (s1 < (a0.length : Int)) = true) (A (decide_eq_true g5 : decide (s1 < (a0.length : Int)) = true) (A (decide_eq_true g7 : decide (¬ (y6.toNat : Int) = 32) = true) (A (decide_eq_true g7 : decide (¬ (y6.toNat : Int) = 32) = true) (A (A (decide_eq_true g7 : decide (¬ (y6.toNat : Int) = 32) = true) (idy hy6)) (A (decide_eq_true g7 : decide (¬ (y6.toNat : Int) = 32) = true) (A (decide_eq_true g7 : decide (¬ (y6.toNat : Int) = 32) = true) (A (decide_eq_false g8 : decide (¬ (y6.toNat : Int) = 40) = false) (A (decide_eq_false g8 : decide (¬ (y6.toNat : Int) = 40) = false) (A (decide_eq_false g8 : decide (¬ (y6.toNat : Int) = 40) = false) (A (decide_eq_false g8 : decide (¬ (y6.toNat : Int) = 40) = false) (A (decide_eq_false g8 : decide (¬ (y6.toNat : Int) = 40) = false) (A (rfl : false = false) (A (rfl : false = false) (A (rfl : false = false) (A (rfl : false = false) (A (rfl : false = false) T)))))))))))))))))))) [(32, bE false)] rfl (by kernel_rfl) ?_
          cases h2
          exact .lf hj2 rfl [] (by kernel_rfl)
      · have h2 := iteN g7 h2
        refine .r [.b true, .b true, .b true, .by_ y6, .b true, .b true, .b false, .b false, .b false, .b false, .b false, .b false, .b false, .b false, .b false, .b false, .b false, .b false, .b false, .b false, .b false] (A (decide_eq_true g5 : decide (s1 < (a0.length : Int)) = true) (A (decide_eq_true g5 : decide (s1 < (a0.length : Int)) = true) (A (A (decide_eq_true g5 : decide (s1 < (a0.length : Int)) = true) (idy hy6)) (A (decide_eq_true g5 : decide (s1 < (a0.length : Int)) = true) (A (decide_eq_true g5 : decide (s1 < (a0.length : Int)) = true) (A (decide_eq_false g7 : decide (¬ (y6.toNat : Int) = 32) = false) (A (decide_eq_false g7 : decide (¬ (y6.toNat : Int) = 32) = false) (A (decide_eq_false g7 : decide (¬ (y6.toNat : Int) = 32) = false) (A (decide_eq_false g7 : decide (¬ (y6.toNat : Int) = 32) = false) (A (decide_eq_false g7 : decide (¬ (y6.toNat : Int) = 32) = false) (A (rfl : false = false) (A (rfl : false = false) (A (rfl : false = false) (A (rfl : false = false) (A (rfl : false = false) (A (rfl : false = false) (A (rfl : false = false) (A (rfl : false = false) (A (rfl : false = false) (A (rfl : false = false) T)))))))))))))))))))) [(32, bE false)] rfl (by kernel_rfl) ?_
        cases h2
        exact .lf hj2 rfl [] (by kernel_rfl)
    · have h2 := iteN g5 h2
      refine .r [.b false, .b false, .b false, .b false, .b false, .b false, .b false, .b false, .b false, .b false, .b false, .b false, .b false, .b false, .b false, .b false, .b false, .b false, .b false, .b false] (A (decide_eq_false g5 : decide (s1 < (a0.length : Int)) = false) (A (decide_eq_false g5 : decide (s1 < (a0.length : Int)) = false) (A (decide_eq_false g5 : decide (s1 < (a0.length : Int)) = false) (A (decide_eq_false g5 : decide (s1 < (a0.length : Int)) = false) (A (decide_eq_false g5 : decide (s1 < (a0.length : Int)) = false) (A (rfl : false = false) (A (rfl : false = false) (A (rfl : false = false) (A (rfl : false = false) (A (rfl : false = false) (A (rfl : false = false) (A (rfl : false = false) (A (rfl : false = false) (A (rfl : false = false) (A (rfl : false = false) (A (rfl : false = false) (A (rfl : false = false) (A (rfl : false = false) (A (rfl : false = false) (A (rfl : false = false) T)))))))))))))))))))) [(32, bE false)] rfl (by kernel_rfl) ?_
      cases h2
      exact .lf hj2 rfl [] (by kernel_rfl)
def sp_l1Atom (n : Nat) (a0 : List UInt8) (a1 : Int) : Option (Form × Int) :=
  (sp_l1Word n a0 a1).bind fun k1 => (slI a0 a1 k1).bind fun z2 => (sp_l15Num n z2).bind fun k3 => (if k3.2 = true then some ((⟨2, [], k3.1, [], []⟩ : Form), k1) else (if z2 = [] then some ((⟨0, [], 0, [], []⟩ : Form), (-1)) else (sp_l1Sets n a0 k1).bind fun k6 => some ((⟨1, z2, 0, k6.1, []⟩ : Form), k6.2)))
theorem w_sp_l1Atom (n : Nat) : ∀ (a0 : List UInt8) (a1 : Int) {r : Form × Int}, sp_l1Atom n a0 a1 = some r → SCall X.E 94 [sE a0, iE a1] [] (.tup [aE (kForm r.1), iE r.2]) [] := by
  intro a0 a1 r h0
  rw [sp_l1Atom] at h0
  refine .m Tryd.func94 rfl rfl rfl (by kernel_rfl) (fun L ks low K hl hL hlen hK => ?_)
  refine .rf [] T [(4, pw 4)] [.o 4 (.cells [iE 0, sE [], iE 0, fE 1 (ksInt []), fE 5 (ksForm [])])] rfl (by kernel_rfl) ?_
  obtain ⟨k1, hk1, h0⟩ := bnd h0
  refine .r [.call [] (iE k1) []] (A (w_sp_l1Word n _ _ hk1) T) [(6, iE k1)] rfl (by kernel_rfl) ?_
  obtain ⟨z2, hz2, h0⟩ := bnd h0
  refine .r [.st z2] (A (slS hz2) T) [(7, sE z2)] rfl (by kernel_rfl) ?_
  obtain ⟨k3, hk3, h0⟩ := bnd h0
  refine .r [.call [] (.tup [iE k3.1, bE k3.2]) []] (A (w_sp_l15Num n _ hk3) T) [(8, iE k3.1), (9, bE k3.2)] rfl (by kernel_rfl) ?_
  refine .r [] T [(24, bE k3.2)] rfl (by kernel_rfl) ?_
  refine .cT h0 rfl (by kernel_rfl) (fun hc4 h0 => ?_) (fun hc4 h0 => ?_)
  · refine .rf [] T [(5, iE k1)] [.c 4 0 (iE 2), .c 4 2 (iE k3.1)] rfl (by kernel_rfl) ?_
    cases h0
    exact .ret rfl rfl (by kernel_rfl) hK
  · refine .r [] T [(29, dE (z2 = []))] rfl (by kernel_rfl) ?_
    refine .cP h0 rfl (by kernel_rfl) (fun hc5 h0 => ?_) (fun hc5 h0 => ?_)
    · refine .r [] T [(5, iE (-1))] rfl (by kernel_rfl) ?_
      cases h0
      exact .ret rfl rfl (by kernel_rfl) hK
    · obtain ⟨k6, hk6, h0⟩ := bnd h0
      refine .r [.call [] (.tup [lE 1 (ksInt k6.1), iE k6.2]) []] (A (w_sp_l1Sets n _ _ hk6) T) [(10, lE 1 (ksInt k6.1)), (11, iE k6.2)] rfl (by kernel_rfl) ?_
      refine .rf [] T [(5, iE k6.2)] [.c 4 0 (iE 1), .c 4 1 (sE z2), .c 4 3 (lE 1 (ksInt k6.1))] rfl (by kernel_rfl) ?_
      cases h0
      exact .ret rfl rfl (by kernel_rfl) hK
def sp_l1Skip (n : Nat) (a0 : List UInt8) (a1 : Int) : Option (Int) :=
  iterM n (fun (s1 : Int) => (Option.bind ((if s1 < (a0.length : Int) then (atI a0 s1).bind fun y6 => some (decide ((y6.toNat : Int) = 32)) else some false) : Option (Bool)) (fun (o3 : Bool) => (if o3 = true then some (Sum.inr (w64 (s1 + 1))) else some (Sum.inl s1))) : Option (Int ⊕ Int))) a1
theorem w_sp_l1Skip (n : Nat) : ∀ (a0 : List UInt8) (a1 : Int) {r : Int}, sp_l1Skip n a0 a1 = some r → SCall X.E 91 [sE a0, iE a1] [] (iE r) [] := by
  intro a0 a1 r h0
  rw [sp_l1Skip] at h0
  refine .m Tryd.func91 rfl rfl rfl (by kernel_rfl) (fun L ks low K hl hL hlen hK => ?_)
  refine .r [] T [] rfl (by kernel_rfl) ?_
  refine .it h0 rfl [0] (fun s1 => [(1, iE s1)]) n1 n1 [] (by kernel_rfl) (fun n2 s1 h0 => ?_)
  obtain ⟨y1, h1, hw1, hn1⟩ := iter_cons h0
  refine .bP h1 rfl [0, 1] (fun o3 => [(14, bE o3)]) n1 n1 (fun o3 h1 => ?_) (fun y2 h2 hj2 => ?_)
  · refine .cT h1 rfl (by kernel_rfl) (fun hc4 h1 => ?_) (fun hc4 h1 => ?_)
    · refine .r [.pl] T [(1, iE (w64 (s1 + 1)))] rfl (by kernel_rfl) ?_
      cases h1
      exact .nI rfl _ (hn1 _ rfl) [] (by kernel_rfl)
    · refine .r [] T [(4, iE s1)] rfl (by kernel_rfl) ?_
      cases h1
      cases hw1 _ rfl
      exact .ret rfl rfl (by kernel_rfl) hK
  · by_cases g5 : s1 < (a0.length : Int)
    · have h2 := iteP g5 h2
      obtain ⟨y6, hy6, h2⟩ := bnd h2
      refine .r [.b true, .b true, .b true, .by_ y6, .b true, .b true] (A (decide_eq_true g5 : decide (s1 < (a0.length : Int)) = true) (A (decide_eq_true g5 : decide (s1 < (a0.length : Int)) = true) (A (A (decide_eq_true g5 : decide (s1 < (a0.length : Int)) = true) (idy hy6)) (A (decide_eq_true g5 : decide (s1 < (a0.length : Int)) = true) (A (decide_eq_true g5 : decide (s1 < (a0.length : Int)) = true) T))))) [(14, dE ((y6.toNat : Int) = 32))] rfl (by kernel_rfl) ?_
      cases h2
      exact .lf hj2 rfl [] (by kernel_rfl)
    · have h2 := iteN g5 h2
      refine .r [.b false, .b false, .b false, .b false, .b false] (A (decide_eq_false g5 : decide (s1 < (a0.length : Int)) = false) (A (decide_eq_false g5 : decide (s1 < (a0.length : Int)) = false) (A (decide_eq_false g5 : decide (s1 < (a0.length : Int)) = false) (A (decide_eq_false g5 : decide (s1 < (a0.length : Int)) = false) (A (decide_eq_false g5 : decide (s1 < (a0.length : Int)) = false) T))))) [(14, bE false)] rfl (by kernel_rfl) ?_
      cases h2
      exact .lf hj2 rfl [] (by kernel_rfl)
def sp_l1Read : Nat → (List UInt8) → Int → Int → Option (Form × Int)
  | 0, _, _, _ => none
  | n + 1, a0, a1, a2 => (sp_l1Skip n a0 a1).bind fun k1 => Option.bind ((if k1 ≥ (a0.length : Int) then some true else some (decide (a2 = 0))) : Option (Bool)) (fun (o2 : Bool) => (if o2 = true then some ((⟨0, [], 0, [], []⟩ : Form), (-1)) else (atI a0 k1).bind fun y4 => (if ¬ (y4.toNat : Int) = 40 then (sp_l1Atom n a0 k1).bind fun k6 => some (k6.1, k6.2) else (sp_l1Skip n a0 (w64 (k1 + 1))).bind fun k7 => iterM n (fun (s8 : Int × (List Form)) => (Option.bind ((if s8.1 < (a0.length : Int) then (atI a0 s8.1).bind fun y21 => (if ¬ (y21.toNat : Int) = 41 then some (decide ((s8.2.length : Int) < 400)) else some false) else some false) : Option (Bool)) (fun (o10 : Bool) => (if o10 = true then (sp_l1Read n a0 s8.1 (w64 (a2 - 1))).bind fun k12 => (if k12.2 < 0 then some (Sum.inl ((⟨3, [], 0, [], s8.2⟩ : Form), (-1))) else (apB 80 s8.2 [k12.1]).bind fun z14 => (sp_l1Skip n a0 k12.2).bind fun k15 => some (Sum.inr (k15, z14))) else Option.bind ((if s8.1 ≥ (a0.length : Int) then some true else (atI a0 s8.1).bind fun y19 => some (decide (¬ (y19.toNat : Int) = 41))) : Option (Bool)) (fun (o16 : Bool) => (if o16 = true then some (Sum.inl ((⟨3, [], 0, [], s8.2⟩ : Form), (-1))) else some (Sum.inl ((⟨3, [], 0, [], s8.2⟩ : Form), (w64 (s8.1 + 1)))))))) : Option ((Form × Int) ⊕ (Int × (List Form))))) (k7, []))))
theorem w_sp_l1Read (n : Nat) : ∀ (a0 : List UInt8) (a1 : Int) (a2 : Int) {r : Form × Int}, sp_l1Read n a0 a1 a2 = some r → SCall X.E 90 [sE a0, iE a1, iE a2] [] (.tup [aE (kForm r.1), iE r.2]) [] := by
  induction n with
  | zero => intro a0 a1 a2 r h; cases h
  | succ n ih =>
    intro a0 a1 a2 r h0
    rw [sp_l1Read] at h0
    refine .m Tryd.func90 rfl rfl rfl (by kernel_rfl) (fun L ks low K hl hL hlen hK => ?_)
    refine .rf [] T [(6, pw 6)] [.o 6 (.cells [iE 0, sE [], iE 0, fE 1 (ksInt []), fE 5 (ksForm [])])] rfl (by kernel_rfl) ?_
    obtain ⟨k1, hk1, h0⟩ := bnd h0
    refine .r [.call [] (iE k1) []] (A (w_sp_l1Skip n _ _ hk1) T) [(1, iE k1)] rfl (by kernel_rfl) ?_
    refine .bP h0 rfl [0, 1, 2, 6] (fun o2 => [(21, bE o2)]) n1 n1 (fun o2 h0 => ?_) (fun y1 h1 hj1 => ?_)
    · refine .cT h0 rfl (by kernel_rfl) (fun hc3 h0 => ?_) (fun hc3 h0 => ?_)
      · refine .r [] T [(7, iE (-1))] rfl (by kernel_rfl) ?_
        cases h0
        exact .ret rfl rfl (by kernel_rfl) hK
      · obtain ⟨y4, hy4, h0⟩ := bnd h0
        refine .r [.by_ y4] (A (idy hy4) T) [(26, dE (¬ (y4.toNat : Int) = 40))] rfl (by kernel_rfl) ?_
        refine .cP h0 rfl (by kernel_rfl) (fun hc5 h0 => ?_) (fun hc5 h0 => ?_)
        · obtain ⟨k6, hk6, h0⟩ := bnd h0
          refine .rf [.call [] (.tup [aE (kForm k6.1), iE k6.2]) []] (A (w_sp_l1Atom n _ _ hk6) T) [(7, iE k6.2)] [.o 6 (.cells ((kForm k6.1).map .d))] rfl (by kernel_rfl) ?_
          cases h0
          exact .ret rfl rfl (by kernel_rfl) hK
        · refine .rf [] T [(8, pw 8)] [.o 8 (.cells [iE 3, sE [], iE 0, fE 1 (ksInt []), fE 5 (ksForm [])])] rfl (by kernel_rfl) ?_
          obtain ⟨k7, hk7, h0⟩ := bnd h0
          refine .r [.pl, .call [] (iE k7) []] (A (w_sp_l1Skip n _ _ hk7) T) [(1, iE k7)] rfl (by kernel_rfl) ?_
          refine .oc 8 4 100068 41 (by kernel_rfl) ?_
          refine .it h0 rfl [0, 2, 6, 8] (fun s8 => [(1, iE s8.1)]) (fun s8 => [.c 8 4 (.gs (.own 100068) 5 (ksForm s8.2)), .o 100068 (.tok (ksForm s8.2).length 41)]) n1 [] (by kernel_rfl) (fun n9 s8 h0 => ?_)
          obtain ⟨y1, h1, hw1, hn1⟩ := iter_cons h0
          refine .bP h1 rfl [0, 1, 2, 6, 8] (fun o10 => [(52, bE o10)]) n1 n1 (fun o10 h1 => ?_) (fun y2 h2 hj2 => ?_)
          · refine .cT h1 rfl (by kernel_rfl) (fun hc11 h1 => ?_) (fun hc11 h1 => ?_)
            · obtain ⟨k12, hk12, h1⟩ := bnd h1
              refine .rf [.pl, .call [] (.tup [aE (kForm k12.1), iE k12.2]) []] (A (ih _ _ _ hk12) T) [(9, pw 9), (10, iE k12.2)] [.o 9 (.cells ((kForm k12.1).map .d))] rfl (by kernel_rfl) ?_
              refine .r [] T [(62, dE (k12.2 < 0))] rfl (by kernel_rfl) ?_
              refine .cP h1 rfl (by kernel_rfl) (fun hc13 h1 => ?_) (fun hc13 h1 => ?_)
              · refine .rf [] T [(7, iE (-1))] [.c 6 0 (iE 3), .c 6 4 (.gs (.own 100068) 5 (ksForm s8.2))] rfl (by kernel_rfl) ?_
                cases h1
                cases hw1 _ rfl
                exact .ret rfl rfl (by kernel_rfl) hK
              · obtain ⟨z14, hz14, h1⟩ := bnd h1
                refine .rq [.sv (ksForm [k12.1]), .sv (ksForm z14)] [((ksForm s8.2).length : Int)] (A (dForm.lit [k12.1]) (A (dForm.ap hz14) T)) [] [.c 8 4 (.gs (.own 100068) 5 (ksForm z14)), .o 100068 (.tok (ksForm z14).length 41)] [] rfl (by kernel_rfl) ?_
                obtain ⟨k15, hk15, h1⟩ := bnd h1
                refine .r [.call [] (iE k15) []] (A (w_sp_l1Skip n _ _ hk15) T) [(1, iE k15)] rfl (by kernel_rfl) ?_
                cases h1
                refine .kp [0, 1, 2, 6, 8] [] ?_
                refine .dr 9 (by kernel_rfl) ?_
                exact .nI rfl _ (hn1 _ rfl) [] (by kernel_rfl)
            · refine .bP h1 rfl [1, 6, 8] (fun o16 => [(82, bE o16)]) n1 n1 (fun o16 h1 => ?_) (fun y2 h2 hj2 => ?_)
              · refine .cT h1 rfl (by kernel_rfl) (fun hc17 h1 => ?_) (fun hc17 h1 => ?_)
                · refine .rf [] T [(7, iE (-1))] [.c 6 0 (iE 3), .c 6 4 (.gs (.own 100068) 5 (ksForm s8.2))] rfl (by kernel_rfl) ?_
                  cases h1
                  cases hw1 _ rfl
                  exact .ret rfl rfl (by kernel_rfl) hK
                · refine .rf [.pl] T [(7, iE (w64 (s8.1 + 1)))] [.c 6 0 (iE 3), .c 6 4 (.gs (.own 100068) 5 (ksForm s8.2))] rfl (by kernel_rfl) ?_
                  cases h1
                  cases hw1 _ rfl
                  exact .ret rfl rfl (by kernel_rfl) hK
              · by_cases g18 : s8.1 ≥ (a0.length : Int)
                · have h2 := iteP g18 h2
                  refine .r [.b true, .b true, .b true, .b true, .b true] (A (decide_eq_true g18 : decide (s8.1 ≥ (a0.length : Int)) = true) (A (decide_eq_true g18 : decide (s8.1 ≥ (a0.length : Int)) = true) (A (decide_eq_true g18 : decide (s8.1 ≥ (a0.length : Int)) = true) (A (decide_eq_true g18 : decide (s8.1 ≥ (a0.length : Int)) = true) (A (decide_eq_true g18 : decide (s8.1 ≥ (a0.length : Int)) = true) T))))) [(82, bE true)] rfl (by kernel_rfl) ?_
                  cases h2
                  exact .lf hj2 rfl [] (by kernel_rfl)
                · have h2 := iteN g18 h2
                  obtain ⟨y19, hy19, h2⟩ := bnd h2
                  refine .r [.b false, .b false, .b false, .by_ y19, .b false, .b false] (A (decide_eq_false g18 : decide (s8.1 ≥ (a0.length : Int)) = false) (A (decide_eq_false g18 : decide (s8.1 ≥ (a0.length : Int)) = false) (A (A (decide_eq_false g18 : decide (s8.1 ≥ (a0.length : Int)) = false) (idy hy19)) (A (decide_eq_false g18 : decide (s8.1 ≥ (a0.length : Int)) = false) (A (decide_eq_false g18 : decide (s8.1 ≥ (a0.length : Int)) = false) T))))) [(82, dE (¬ (y19.toNat : Int) = 41))] rfl (by kernel_rfl) ?_
                  cases h2
                  exact .lf hj2 rfl [] (by kernel_rfl)
          · by_cases g20 : s8.1 < (a0.length : Int)
            · have h2 := iteP g20 h2
              obtain ⟨y21, hy21, h2⟩ := bnd h2
              by_cases g22 : ¬ (y21.toNat : Int) = 41
              · have h2 := iteP g22 h2
                refine .r [.b true, .b true, .b true, .by_ y21, .b true, .b true, .b true, .b true, .b true, .v (s8.2.length : Int), .b true, .b true] (A (decide_eq_true g20 : decide (s8.1 < (a0.length : Int)) = true) (A (decide_eq_true g20 : decide (s8.1 < (a0.length : Int)) = true) (A (A (decide_eq_true g20 : decide (s8.1 < (a0.length : Int)) = true) (idy hy21)) (A (decide_eq_true g20 : decide (s8.1 < (a0.length : Int)) = true) (A (decide_eq_true g20 : decide (s8.1 < (a0.length : Int)) = true) (A (decide_eq_true g22 : decide (¬ (y21.toNat : Int) = 41) = true) (A (decide_eq_true g22 : decide (¬ (y21.toNat : Int) = 41) = true) (A (A (decide_eq_true g22 : decide (¬ (y21.toNat : Int) = 41) = true) (dForm.len' s8.2)) (A (decide_eq_true g22 : decide (¬ (y21.toNat : Int) = 41) = true) (A (decide_eq_true g22 : decide (¬ (y21.toNat : Int) = 41) = true) T)))))))))) [(52, dE ((s8.2.length : Int) < 400))] rfl (by kernel_rfl) ?_
                cases h2
                exact .lf hj2 rfl [] (by kernel_rfl)
              · have h2 := iteN g22 h2
                refine .r [.b true, .b true, .b true, .by_ y21, .b true, .b true, .b false, .b false, .b false, .b false, .b false] (A (decide_eq_true g20 : decide (s8.1 < (a0.length : Int)) = true) (A (decide_eq_true g20 : decide (s8.1 < (a0.length : Int)) = true) (A (A (decide_eq_true g20 : decide (s8.1 < (a0.length : Int)) = true) (idy hy21)) (A (decide_eq_true g20 : decide (s8.1 < (a0.length : Int)) = true) (A (decide_eq_true g20 : decide (s8.1 < (a0.length : Int)) = true) (A (decide_eq_false g22 : decide (¬ (y21.toNat : Int) = 41) = false) (A (decide_eq_false g22 : decide (¬ (y21.toNat : Int) = 41) = false) (A (decide_eq_false g22 : decide (¬ (y21.toNat : Int) = 41) = false) (A (decide_eq_false g22 : decide (¬ (y21.toNat : Int) = 41) = false) (A (decide_eq_false g22 : decide (¬ (y21.toNat : Int) = 41) = false) T)))))))))) [(52, bE false)] rfl (by kernel_rfl) ?_
                cases h2
                exact .lf hj2 rfl [] (by kernel_rfl)
            · have h2 := iteN g20 h2
              refine .r [.b false, .b false, .b false, .b false, .b false, .b false, .b false, .b false, .b false, .b false] (A (decide_eq_false g20 : decide (s8.1 < (a0.length : Int)) = false) (A (decide_eq_false g20 : decide (s8.1 < (a0.length : Int)) = false) (A (decide_eq_false g20 : decide (s8.1 < (a0.length : Int)) = false) (A (decide_eq_false g20 : decide (s8.1 < (a0.length : Int)) = false) (A (decide_eq_false g20 : decide (s8.1 < (a0.length : Int)) = false) (A (rfl : false = false) (A (rfl : false = false) (A (rfl : false = false) (A (rfl : false = false) (A (rfl : false = false) T)))))))))) [(52, bE false)] rfl (by kernel_rfl) ?_
              cases h2
              exact .lf hj2 rfl [] (by kernel_rfl)
    · by_cases g23 : k1 ≥ (a0.length : Int)
      · have h1 := iteP g23 h1
        refine .r [.b true, .b true, .b true] (A (decide_eq_true g23 : decide (k1 ≥ (a0.length : Int)) = true) (A (decide_eq_true g23 : decide (k1 ≥ (a0.length : Int)) = true) (A (decide_eq_true g23 : decide (k1 ≥ (a0.length : Int)) = true) T))) [(21, bE true)] rfl (by kernel_rfl) ?_
        cases h1
        exact .lf hj1 rfl [] (by kernel_rfl)
      · have h1 := iteN g23 h1
        refine .r [.b false, .b false, .b false] (A (decide_eq_false g23 : decide (k1 ≥ (a0.length : Int)) = false) (A (decide_eq_false g23 : decide (k1 ≥ (a0.length : Int)) = false) (A (decide_eq_false g23 : decide (k1 ≥ (a0.length : Int)) = false) T))) [(21, dE (a2 = 0))] rfl (by kernel_rfl) ?_
        cases h1
        exact .lf hj1 rfl [] (by kernel_rfl)
def sp_ParseForm (n : Nat) (a0 : List UInt8) : Option (Form × Bool) :=
  (sp_l1Read n a0 0 40).bind fun k1 => Option.bind ((if k1.2 < 0 then some true else (sp_l1Skip n a0 k1.2).bind fun k5 => (if ¬ k5 = (a0.length : Int) then some true else (sp_FormValid n k1.1).bind fun k7 => some (!k7))) : Option (Bool)) (fun (o2 : Bool) => (if o2 = true then some ((⟨0, [], 0, [], []⟩ : Form), false) else some (k1.1, true)))
theorem w_sp_ParseForm (n : Nat) : ∀ (a0 : List UInt8) {r : Form × Bool}, sp_ParseForm n a0 = some r → SCall X.E 82 [sE a0] [] (.tup [aE (kForm r.1), bE r.2]) [] := by
  intro a0 r h0
  rw [sp_ParseForm] at h0
  refine .m Tryd.func82 rfl rfl rfl (by kernel_rfl) (fun L ks low K hl hL hlen hK => ?_)
  refine .rf [] T [(2, pw 2)] [.o 2 (.cells [iE 0, sE [], iE 0, fE 1 (ksInt []), fE 5 (ksForm [])])] rfl (by kernel_rfl) ?_
  obtain ⟨k1, hk1, h0⟩ := bnd h0
  refine .rf [.call [] (.tup [aE (kForm k1.1), iE k1.2]) []] (A (w_sp_l1Read n _ _ _ hk1) T) [(4, pw 4), (5, iE k1.2)] [.o 4 (.cells ((kForm k1.1).map .d))] rfl (by kernel_rfl) ?_
  refine .bP h0 rfl [2, 4] (fun o2 => [(25, bE o2)]) n1 n1 (fun o2 h0 => ?_) (fun y1 h1 hj1 => ?_)
  · refine .cT h0 rfl (by kernel_rfl) (fun hc3 h0 => ?_) (fun hc3 h0 => ?_)
    · refine .r [] T [(3, bE false)] rfl (by kernel_rfl) ?_
      cases h0
      exact .ret rfl rfl (by kernel_rfl) hK
    · refine .rf [] T [(3, bE true)] [.o 2 (.cells ((kForm k1.1).map .d))] rfl (by kernel_rfl) ?_
      cases h0
      exact .ret rfl rfl (by kernel_rfl) hK
  · by_cases g4 : k1.2 < 0
    · have h1 := iteP g4 h1
      refine .r [.b true, .b true, .b true, .b true, .b true, .b true, .b true, .b true, .b true, .b true, .b true] (A (decide_eq_true g4 : decide (k1.2 < 0) = true) (A (decide_eq_true g4 : decide (k1.2 < 0) = true) (A (decide_eq_true g4 : decide (k1.2 < 0) = true) (A (decide_eq_true g4 : decide (k1.2 < 0) = true) (A (decide_eq_true g4 : decide (k1.2 < 0) = true) (A (decide_eq_true g4 : decide (k1.2 < 0) = true) (A (decide_eq_true g4 : decide (k1.2 < 0) = true) (A (rfl : true = true) (A (rfl : true = true) (A (rfl : true = true) (A (rfl : true = true) T))))))))))) [(25, bE true)] rfl (by kernel_rfl) ?_
      cases h1
      exact .lf hj1 rfl [] (by kernel_rfl)
    · have h1 := iteN g4 h1
      obtain ⟨k5, hk5, h1⟩ := bnd h1
      by_cases g6 : ¬ k5 = (a0.length : Int)
      · have h1 := iteP g6 h1
        refine .r [.b false, .b false, .b false, .call [] (iE k5) [], .b false, .b false, .b false, .b false, .b true, .b true, .b true, .b true] (A (decide_eq_false g4 : decide (k1.2 < 0) = false) (A (decide_eq_false g4 : decide (k1.2 < 0) = false) (A (A (decide_eq_false g4 : decide (k1.2 < 0) = false) (w_sp_l1Skip n _ _ hk5)) (A (decide_eq_false g4 : decide (k1.2 < 0) = false) (A (decide_eq_false g4 : decide (k1.2 < 0) = false) (A (decide_eq_false g4 : decide (k1.2 < 0) = false) (A (decide_eq_false g4 : decide (k1.2 < 0) = false) (A (decide_eq_true g6 : decide (¬ k5 = (a0.length : Int)) = true) (A (decide_eq_true g6 : decide (¬ k5 = (a0.length : Int)) = true) (A (decide_eq_true g6 : decide (¬ k5 = (a0.length : Int)) = true) (A (decide_eq_true g6 : decide (¬ k5 = (a0.length : Int)) = true) T))))))))))) [(25, bE true)] rfl (by kernel_rfl) ?_
        cases h1
        exact .lf hj1 rfl [] (by kernel_rfl)
      · have h1 := iteN g6 h1
        obtain ⟨k7, hk7, h1⟩ := bnd h1
        refine .r [.b false, .b false, .b false, .call [] (iE k5) [], .b false, .b false, .b false, .b false, .b false, .b false, .call [] (bE k7) [], .b false, .b false] (A (decide_eq_false g4 : decide (k1.2 < 0) = false) (A (decide_eq_false g4 : decide (k1.2 < 0) = false) (A (A (decide_eq_false g4 : decide (k1.2 < 0) = false) (w_sp_l1Skip n _ _ hk5)) (A (decide_eq_false g4 : decide (k1.2 < 0) = false) (A (decide_eq_false g4 : decide (k1.2 < 0) = false) (A (decide_eq_false g4 : decide (k1.2 < 0) = false) (A (decide_eq_false g4 : decide (k1.2 < 0) = false) (A (decide_eq_false g6 : decide (¬ k5 = (a0.length : Int)) = false) (A (A (decide_eq_false g6 : decide (¬ k5 = (a0.length : Int)) = false) (w_sp_FormValid n _ hk7)) (A (decide_eq_false g6 : decide (¬ k5 = (a0.length : Int)) = false) (A (decide_eq_false g6 : decide (¬ k5 = (a0.length : Int)) = false) T))))))))))) [(25, bE (!k7))] rfl (by kernel_rfl) ?_
        cases h1
        exact .lf hj1 rfl [] (by kernel_rfl)
def sp_l1Parse (n : Nat) (a0 : List UInt8) : Option (Form) :=
  (sp_ParseForm n a0).bind fun k1 => some k1.1
theorem w_sp_l1Parse (n : Nat) : ∀ (a0 : List UInt8) {r : Form}, sp_l1Parse n a0 = some r → SCall X.E 79 [sE a0] [] (aE (kForm r)) [] := by
  intro a0 r h0
  rw [sp_l1Parse] at h0
  refine .m Tryd.func79 rfl rfl rfl (by kernel_rfl) (fun L ks low K hl hL hlen hK => ?_)
  refine .rf [] T [(2, pw 2)] [.o 2 (.cells [iE 0, sE [], iE 0, fE 1 (ksInt []), fE 5 (ksForm [])])] rfl (by kernel_rfl) ?_
  obtain ⟨k1, hk1, h0⟩ := bnd h0
  refine .rf [.call [] (.tup [aE (kForm k1.1), bE k1.2]) []] (A (w_sp_ParseForm n _ hk1) T) [(3, pw 3)] [.o 3 (.cells ((kForm k1.1).map .d))] rfl (by kernel_rfl) ?_
  refine .rf [] T [] [.o 2 (.cells ((kForm k1.1).map .d))] rfl (by kernel_rfl) ?_
  cases h0
  exact .ret rfl rfl (by kernel_rfl) hK
def sp_l1List (n : Nat) (a0 : List Form) : Option (Form) :=
  some (⟨3, [], 0, [], a0⟩ : Form)
theorem w_sp_l1List (n : Nat) : ∀ (a0 : List Form) {r : Form}, sp_l1List n a0 = some r → SCall X.E 86 [lE 5 (ksForm a0)] [] (aE (kForm r)) [] := by
  intro a0 r h0
  rw [sp_l1List] at h0
  refine .m Tryd.func86 rfl rfl rfl (by kernel_rfl) (fun L ks low K hl hL hlen hK => ?_)
  refine .rf [] T [(2, pw 2)] [.o 2 (.cells [iE 0, sE [], iE 0, fE 1 (ksInt []), fE 5 (ksForm [])])] rfl (by kernel_rfl) ?_
  refine .rf [] T [] [.c 2 0 (iE 3), .c 2 4 (lE 5 (ksForm a0))] rfl (by kernel_rfl) ?_
  cases h0
  exact .ret rfl rfl (by kernel_rfl) hK
def sp_l1Name (n : Nat) (a0 : List UInt8) : Option (Form) :=
  some (⟨1, a0, 0, [], []⟩ : Form)
theorem w_sp_l1Name (n : Nat) : ∀ (a0 : List UInt8) {r : Form}, sp_l1Name n a0 = some r → SCall X.E 87 [sE a0] [] (aE (kForm r)) [] := by
  intro a0 r h0
  rw [sp_l1Name] at h0
  refine .m Tryd.func87 rfl rfl rfl (by kernel_rfl) (fun L ks low K hl hL hlen hK => ?_)
  refine .rf [] T [(2, pw 2)] [.o 2 (.cells [iE 0, sE [], iE 0, fE 1 (ksInt []), fE 5 (ksForm [])])] rfl (by kernel_rfl) ?_
  refine .rf [] T [] [.c 2 0 (iE 1), .c 2 1 (sE a0)] rfl (by kernel_rfl) ?_
  cases h0
  exact .ret rfl rfl (by kernel_rfl) hK
def sp_l1Some : Nat → Int → L15Rd → Option (Form × L15Rd)
  | 0, _, _ => none
  | n + 1, a1, w0 => Option.bind ((if a1 = 0 then some (true, w0) else (sp_l15Rd_pick n 3 w0).bind fun k15 => some ((decide (k15.1 = 0)), k15.2)) : Option (Bool × L15Rd)) (fun (o1 : Bool × L15Rd) => (if o1.1 = true then (sp_l15Rd_pick n 4 o1.2).bind fun k3 => (if k3.1 = 0 then (sp_l15Rd_num n [0, 1, 2, 7, 42, 999] k3.2).bind fun k5 => some ((⟨2, [], k5.1, [], []⟩ : Form), k5.2) else (sp_l15Rd_of n [[97], [98], [120], [121], [102], [105, 102], [108, 101, 116], [43]] k3.2).bind fun k6 => (sp_l1Name n k6.1).bind fun k7 => some (k7, k6.2)) else (sp_l15Rd_pick n 4 o1.2).bind fun k8 => iterM n (fun (s9 : Int × (List Form) × (List UInt8) × Int) => ((if s9.1 > 0 then (sp_l1Some n (w64 (a1 - 1)) (⟨s9.2.2.1, s9.2.2.2⟩ : L15Rd)).bind fun k12 => (apB 80 s9.2.1 [k12.1]).bind fun z13 => some (Sum.inr ((w64 (s9.1 - 1)), z13, k12.2.b, k12.2.p)) else some (Sum.inl ((⟨3, [], 0, [], s9.2.1⟩ : Form), (⟨s9.2.2.1, s9.2.2.2⟩ : L15Rd)))) : Option ((Form × L15Rd) ⊕ (Int × (List Form) × (List UInt8) × Int)))) (k8.1, [], k8.2.b, k8.2.p)))
theorem w_sp_l1Some (n : Nat) : ∀ (a1 : Int) (w0 : L15Rd) {r : Form × L15Rd}, sp_l1Some n a1 w0 = some r → SCall X.E 93 [pl 0, iE a1] [some (.cells ((kL15Rd w0).map .d))] (aE (kForm r.1)) [.cells ((kL15Rd r.2).map .d)] := by
  induction n with
  | zero => intro a1 w0 r h; cases h
  | succ n ih =>
    intro a1 w0 r h0
    rw [sp_l1Some] at h0
    refine .m Tryd.func93 rfl rfl rfl (by kernel_rfl) (fun L ks low K hl hL hlen hK => ?_)
    refine .rf [] T [(4, pw 4)] [.o 4 (.cells [iE 0, sE [], iE 0, fE 1 (ksInt []), fE 5 (ksForm [])])] rfl (by kernel_rfl) ?_
    refine .bP h0 rfl [0, 1, 4] (fun o1 => [(13, bE o1.1)]) n1 (fun o1 => [.o 0 (.cells ((kL15Rd o1.2).map .d))]) (fun o1 h0 => ?_) (fun y1 h1 hj1 => ?_)
    · refine .cT h0 rfl (by kernel_rfl) (fun hc2 h0 => ?_) (fun hc2 h0 => ?_)
      · obtain ⟨k3, hk3, h0⟩ := bnd h0
        refine .ro [.call [.low 0] (iE k3.1) [.cells ((kL15Rd k3.2).map .d)]] (A (w_sp_l15Rd_pick n _ _ hk3) T) [(16, dE (k3.1 = 0))] [.o 0 (.cells ((kL15Rd k3.2).map .d))] rfl (by kernel_rfl) ?_
        refine .cP h0 rfl (by kernel_rfl) (fun hc4 h0 => ?_) (fun hc4 h0 => ?_)
        · obtain ⟨k5, hk5, h0⟩ := bnd h0
          refine .rq [.sv (ksInt [0, 1, 2, 7, 42, 999]), .call [.low 0] (iE k5.1) [.cells ((kL15Rd k5.2).map .d)]] [] (A (dInt.lit [0, 1, 2, 7, 42, 999]) (A (w_sp_l15Rd_num n _ _ hk5) T)) [] [.c 4 0 (iE 2), .c 4 2 (iE k5.1)] [.o 0 (.cells ((kL15Rd k5.2).map .d))] rfl (by kernel_rfl) ?_
          cases h0
          exact .ret rfl rfl (by kernel_rfl) hK
        · obtain ⟨k6, hk6, h0⟩ := bnd h0
          obtain ⟨k7, hk7, h0⟩ := bnd h0
          refine .rq [.sv (ksStr [[97], [98], [120], [121], [102], [105, 102], [108, 101, 116], [43]]), .call [.low 0] (sE k6.1) [.cells ((kL15Rd k6.2).map .d)], .call [] (aE (kForm k7)) []] [] (A (dStr.lit [[97], [98], [120], [121], [102], [105, 102], [108, 101, 116], [43]]) (A (w_sp_l15Rd_of n _ _ hk6) (A (w_sp_l1Name n _ hk7) T))) [] [.o 4 (.cells ((kForm k7).map .d))] [.o 0 (.cells ((kL15Rd k6.2).map .d))] rfl (by kernel_rfl) ?_
          cases h0
          exact .ret rfl rfl (by kernel_rfl) hK
      · refine .rf [] T [(5, pw 5)] [.o 5 (.cells [iE 3, sE [], iE 0, fE 1 (ksInt []), fE 5 (ksForm [])])] rfl (by kernel_rfl) ?_
        obtain ⟨k8, hk8, h0⟩ := bnd h0
        refine .ro [.call [.low 0] (iE k8.1) [.cells ((kL15Rd k8.2).map .d)]] (A (w_sp_l15Rd_pick n _ _ hk8) T) [(6, iE k8.1)] [.o 0 (.cells ((kL15Rd k8.2).map .d))] rfl (by kernel_rfl) ?_
        refine .oc 5 4 100039 41 (by kernel_rfl) ?_
        refine .it h0 rfl [0, 1, 4, 5] (fun s9 => [(6, iE s9.1)]) (fun s9 => [.c 5 4 (.gs (.own 100039) 5 (ksForm s9.2.1)), .o 100039 (.tok (ksForm s9.2.1).length 41)]) (fun s9 => [.o 0 (.cells [lE 1 (ksByte s9.2.2.1), iE s9.2.2.2])]) [] (by kernel_rfl) (fun n10 s9 h0 => ?_)
        obtain ⟨y1, h1, hw1, hn1⟩ := iter_cons h0
        refine .r [] T [(29, dE (s9.1 > 0))] rfl (by kernel_rfl) ?_
        refine .cP h1 rfl (by kernel_rfl) (fun hc11 h1 => ?_) (fun hc11 h1 => ?_)
        · obtain ⟨k12, hk12, h1⟩ := bnd h1
          obtain ⟨z13, hz13, h1⟩ := bnd h1
          refine .rd mixed [(4, [.pl]), (5, [.call [.low 0] (aE (kForm k12.1)) [.cells ((kL15Rd k12.2).map .d)]]), (6, [.sv (ksForm [k12.1])]), (7, [.sv (ksForm z13)])] [((ksForm s9.2.1).length : Int)] (A (ih _ _ hk12) (A (dForm.lit [k12.1]) (A (dForm.ap hz13) T))) [] [.c 5 4 (.gs (.own 100039) 5 (ksForm z13)), .o 100039 (.tok (ksForm z13).length 41)] [.o 0 (.cells ((kL15Rd k12.2).map .d))] rfl (by kernel_rfl) ?_
          refine .r [.pl] T [(6, iE (w64 (s9.1 - 1)))] rfl (by kernel_rfl) ?_
          cases h1
          exact .nI rfl _ (hn1 _ rfl) [] (by kernel_rfl)
        · refine .rf [] T [] [.c 4 0 (iE 3), .c 4 4 (.gs (.own 100039) 5 (ksForm s9.2.1))] rfl (by kernel_rfl) ?_
          cases h1
          cases hw1 _ rfl
          exact .ret rfl rfl (by kernel_rfl) hK
    · by_cases g14 : a1 = 0
      · have h1 := iteP g14 h1
        refine .r [.b true, .b true, .b true, .b true] (A (decide_eq_true g14 : decide (a1 = 0) = true) (A (decide_eq_true g14 : decide (a1 = 0) = true) (A (decide_eq_true g14 : decide (a1 = 0) = true) (A (decide_eq_true g14 : decide (a1 = 0) = true) T)))) [(13, bE true)] rfl (by kernel_rfl) ?_
        cases h1
        exact .lf hj1 rfl [] (by kernel_rfl)
      · have h1 := iteN g14 h1
        obtain ⟨k15, hk15, h1⟩ := bnd h1
        refine .ro [.b false, .b false, .call [.low 0] (iE k15.1) [.cells ((kL15Rd k15.2).map .d)], .b false, .b false] (A (decide_eq_false g14 : decide (a1 = 0) = false) (A (A (decide_eq_false g14 : decide (a1 = 0) = false) (w_sp_l15Rd_pick n _ _ hk15)) (A (decide_eq_false g14 : decide (a1 = 0) = false) (A (decide_eq_false g14 : decide (a1 = 0) = false) T)))) [(13, dE (k15.1 = 0))] [.o 0 (.cells ((kL15Rd k15.2).map .d))] rfl (by kernel_rfl) ?_
        cases h1
        exact .lf hj1 rfl [] (by kernel_rfl)
def sp_l7Some : Nat → (List (List UInt8)) → Int → L15Rd → Option (Form × L15Rd)
  | 0, _, _, _ => none
  | n + 1, a1, a2, w0 => Option.bind ((if a2 = 0 then some (true, w0) else (sp_l15Rd_pick n 5 w0).bind fun k46 => some ((decide (k46.1 = 0)), k46.2)) : Option (Bool × L15Rd)) (fun (o1 : Bool × L15Rd) => (if o1.1 = true then (sp_l15Rd_pick n 3 o1.2).bind fun k3 => (if k3.1 = 0 then (sp_l15Rd_num n [0, 1, 2, 7] k3.2).bind fun k5 => some ((⟨2, [], k5.1, [], []⟩ : Form), k5.2) else (sp_l15Rd_pick n (a1.length : Int) k3.2).bind fun k6 => (atI a1 k6.1).bind fun e7 => (sp_l1Name n e7).bind fun k8 => some (k8, k6.2)) else (sp_l15Rd_of n [[120], [121], [116]] o1.2).bind fun k10 => (apB 16 [] a1).bind fun z11 => (apB 16 z11 [k10.1]).bind fun z12 => (sp_l15Rd_pick n 8 k10.2).bind fun k13 => Option.bind ((if k13.1 = 0 then some (decide (k13.1 = 0)) else some (decide (k13.1 = 1))) : Option (Bool)) (fun (o14 : Bool) => (if o14 = true then (sp_l1Name n [108, 97, 109, 98, 100, 97]).bind fun k16 => (sp_l1Name n k10.1).bind fun k17 => (sp_l1List n [k17]).bind fun k18 => (sp_l7Some n z12 (w64 (a2 - 1)) k13.2).bind fun k19 => (sp_l1List n [k16, k18, k19.1]).bind fun k20 => some (k20, k19.2) else Option.bind ((if k13.1 = 2 then some (decide (k13.1 = 2)) else some (decide (k13.1 = 3))) : Option (Bool)) (fun (o21 : Bool) => (if o21 = true then (sp_l1Name n k10.1).bind fun k23 => (sp_l7Some n a1 (w64 (a2 - 1)) k13.2).bind fun k24 => (sp_l1List n [k23, k24.1]).bind fun k25 => (sp_l1Name n [108, 101, 116]).bind fun k26 => (sp_l1List n [k25]).bind fun k27 => (sp_l7Some n z12 (w64 (a2 - 1)) k24.2).bind fun k28 => (sp_l1List n [k26, k27, k28.1]).bind fun k29 => some (k29, k28.2) else (if k13.1 = 4 then (sp_l1Name n [105, 102]).bind fun k31 => (sp_l7Some n a1 (w64 (a2 - 1)) k13.2).bind fun k32 => (sp_l7Some n a1 (w64 (a2 - 1)) k32.2).bind fun k33 => (sp_l7Some n a1 0 k33.2).bind fun k34 => (sp_l1List n [k31, k32.1, k33.1, k34.1]).bind fun k35 => some (k35, k34.2) else (if k13.1 = 5 then (sp_l1Name n [113, 117, 111, 116, 101]).bind fun k37 => (sp_l1Some n 1 k13.2).bind fun k38 => (sp_l1List n [k37, k38.1]).bind fun k39 => some (k39, k38.2) else (sp_l7Some n a1 (w64 (a2 - 1)) k13.2).bind fun k40 => (sp_l7Some n a1 (w64 (a2 - 1)) k40.2).bind fun k41 => (sp_l1List n [k40.1, k41.1]).bind fun k42 => some (k42, k41.2)))))))))
theorem w_sp_l7Some (n : Nat) : ∀ (a1 : List (List UInt8)) (a2 : Int) (w0 : L15Rd) {r : Form × L15Rd}, sp_l7Some n a1 a2 w0 = some r → SCall X.E 84 [pl 0, lE 1 (ksStr a1), iE a2] [some (.cells ((kL15Rd w0).map .d))] (aE (kForm r.1)) [.cells ((kL15Rd r.2).map .d)] := by
  induction n with
  | zero => intro a1 a2 w0 r h; cases h
  | succ n ih =>
    intro a1 a2 w0 r h0
    rw [sp_l7Some] at h0
    refine .m Tryd.func84 rfl rfl rfl (by kernel_rfl) (fun L ks low K hl hL hlen hK => ?_)
    refine .rf [] T [(6, pw 6)] [.o 6 (.cells [iE 0, sE [], iE 0, fE 1 (ksInt []), fE 5 (ksForm [])])] rfl (by kernel_rfl) ?_
    refine .bP h0 rfl [0, 1, 2, 6] (fun o1 => [(16, bE o1.1)]) n1 (fun o1 => [.o 0 (.cells ((kL15Rd o1.2).map .d))]) (fun o1 h0 => ?_) (fun y1 h1 hj1 => ?_)
    · refine .cT h0 rfl (by kernel_rfl) (fun hc2 h0 => ?_) (fun hc2 h0 => ?_)
      · obtain ⟨k3, hk3, h0⟩ := bnd h0
        refine .ro [.call [.low 0] (iE k3.1) [.cells ((kL15Rd k3.2).map .d)]] (A (w_sp_l15Rd_pick n _ _ hk3) T) [(19, dE (k3.1 = 0))] [.o 0 (.cells ((kL15Rd k3.2).map .d))] rfl (by kernel_rfl) ?_
        refine .cP h0 rfl (by kernel_rfl) (fun hc4 h0 => ?_) (fun hc4 h0 => ?_)
        · obtain ⟨k5, hk5, h0⟩ := bnd h0
          refine .rq [.sv (ksInt [0, 1, 2, 7]), .call [.low 0] (iE k5.1) [.cells ((kL15Rd k5.2).map .d)]] [] (A (dInt.lit [0, 1, 2, 7]) (A (w_sp_l15Rd_num n _ _ hk5) T)) [] [.c 6 0 (iE 2), .c 6 2 (iE k5.1)] [.o 0 (.cells ((kL15Rd k5.2).map .d))] rfl (by kernel_rfl) ?_
          cases h0
          exact .ret rfl rfl (by kernel_rfl) hK
        · obtain ⟨k6, hk6, h0⟩ := bnd h0
          obtain ⟨e7, he7, h0⟩ := bnd h0
          obtain ⟨k8, hk8, h0⟩ := bnd h0
          refine .rq [.v (a1.length : Int), .call [.low 0] (iE k6.1) [.cells ((kL15Rd k6.2).map .d)], .cs [.s e7], .call [] (aE (kForm k8)) []] [] (A (dStr.len' a1) (A (w_sp_l15Rd_pick n _ _ hk6) (A (dStr.idx he7) (A (w_sp_l1Name n _ hk8) T)))) [] [.o 6 (.cells ((kForm k8).map .d))] [.o 0 (.cells ((kL15Rd k6.2).map .d))] rfl (by kernel_rfl) ?_
          refine .sn 1 dStr a1 (by kernel_rfl) (fun hb9 => ?_)
          cases h0
          exact .ret rfl rfl (by kernel_rfl) hK
      · obtain ⟨k10, hk10, h0⟩ := bnd h0
        refine .ro [.sv (ksStr [[120], [121], [116]]), .call [.low 0] (sE k10.1) [.cells ((kL15Rd k10.2).map .d)]] (A (dStr.lit [[120], [121], [116]]) (A (w_sp_l15Rd_of n _ _ hk10) T)) [(7, sE k10.1)] [.o 0 (.cells ((kL15Rd k10.2).map .d))] rfl (by kernel_rfl) ?_
        obtain ⟨z11, hz11, h0⟩ := bnd h0
        obtain ⟨z12, hz12, h0⟩ := bnd h0
        refine .rq [.sv (ksStr []), .sv (ksStr z11), .sv (ksStr [k10.1]), .sv (ksStr z12)] [((ksStr z11).length : Int)] (A (dStr.lit []) (A (dStr.ap hz11) (A (dStr.lit [k10.1]) (A (dStr.ap hz12) T)))) [(8, .gs (.own 100037) 1 (ksStr z12))] [.o 100037 (.tok (ksStr z12).length 9)] [] rfl (by kernel_rfl) ?_
        obtain ⟨k13, hk13, h0⟩ := bnd h0
        refine .ro [.call [.low 0] (iE k13.1) [.cells ((kL15Rd k13.2).map .d)]] (A (w_sp_l15Rd_pick n _ _ hk13) T) [(42, iE k13.1)] [.o 0 (.cells ((kL15Rd k13.2).map .d))] rfl (by kernel_rfl) ?_
        refine .r [] T [(43, dE (k13.1 = 0))] rfl (by kernel_rfl) ?_
        refine .bP h0 rfl [0, 1, 2, 6, 7, 8, 42] (fun o14 => [(43, bE o14)]) n1 n1 (fun o14 h0 => ?_) (fun y1 h1 hj1 => ?_)
        · refine .cT h0 rfl (by kernel_rfl) (fun hc15 h0 => ?_) (fun hc15 h0 => ?_)
          · obtain ⟨k16, hk16, h0⟩ := bnd h0
            obtain ⟨k17, hk17, h0⟩ := bnd h0
            obtain ⟨k18, hk18, h0⟩ := bnd h0
            obtain ⟨k19, hk19, h0⟩ := bnd h0
            obtain ⟨k20, hk20, h0⟩ := bnd h0
            refine .rq [.call [] (aE (kForm k16)) [], .call [] (aE (kForm k17)) [], .sv (ksForm [k17]), .call [] (aE (kForm k18)) [], .pl, .call [.low 0] (aE (kForm k19.1)) [.cells ((kL15Rd k19.2).map .d)], .sv (ksForm [k16, k18, k19.1]), .call [] (aE (kForm k20)) []] [] (A (w_sp_l1Name n _ hk16) (A (w_sp_l1Name n _ hk17) (A (dForm.lit [k17]) (A (w_sp_l1List n _ hk18) (A (ih _ _ _ hk19) (A (dForm.lit [k16, k18, k19.1]) (A (w_sp_l1List n _ hk20) T))))))) [] [.o 6 (.cells ((kForm k20).map .d))] [.o 0 (.cells ((kL15Rd k19.2).map .d))] rfl (by kernel_rfl) ?_
            cases h0
            exact .ret rfl rfl (by kernel_rfl) hK
          · refine .r [] T [(58, dE (k13.1 = 2))] rfl (by kernel_rfl) ?_
            refine .bP h0 rfl [0, 1, 2, 6, 7, 8, 42] (fun o21 => [(58, bE o21)]) n1 n1 (fun o21 h0 => ?_) (fun y1 h1 hj1 => ?_)
            · refine .cT h0 rfl (by kernel_rfl) (fun hc22 h0 => ?_) (fun hc22 h0 => ?_)
              · obtain ⟨k23, hk23, h0⟩ := bnd h0
                obtain ⟨k24, hk24, h0⟩ := bnd h0
                obtain ⟨k25, hk25, h0⟩ := bnd h0
                refine .rq [.call [] (aE (kForm k23)) [], .pl, .call [.low 0] (aE (kForm k24.1)) [.cells ((kL15Rd k24.2).map .d)], .sv (ksForm [k23, k24.1]), .call [] (aE (kForm k25)) []] [] (A (w_sp_l1Name n _ hk23) (A (ih _ _ _ hk24) (A (dForm.lit [k23, k24.1]) (A (w_sp_l1List n _ hk25) T)))) [(9, pw 9)] [.o 9 (.cells ((kForm k25).map .d))] [.o 0 (.cells ((kL15Rd k24.2).map .d))] rfl (by kernel_rfl) ?_
                obtain ⟨k26, hk26, h0⟩ := bnd h0
                obtain ⟨k27, hk27, h0⟩ := bnd h0
                obtain ⟨k28, hk28, h0⟩ := bnd h0
                obtain ⟨k29, hk29, h0⟩ := bnd h0
                refine .rd mixed [(0, [.call [] (aE (kForm k26)) []]), (2, [.sv (ksForm [k25])]), (3, [.call [] (aE (kForm k27)) []]), (7, [.pl]), (8, [.call [.low 0] (aE (kForm k28.1)) [.cells ((kL15Rd k28.2).map .d)]]), (9, [.sv (ksForm [k26, k27, k28.1])]), (10, [.call [] (aE (kForm k29)) []])] [] (A (w_sp_l1Name n _ hk26) (A (dForm.lit [k25]) (A (w_sp_l1List n _ hk27) (A (ih _ _ _ hk28) (A (dForm.lit [k26, k27, k28.1]) (A (w_sp_l1List n _ hk29) T)))))) [] [.o 6 (.cells ((kForm k29).map .d))] [.o 0 (.cells ((kL15Rd k28.2).map .d))] rfl (by kernel_rfl) ?_
                cases h0
                exact .ret rfl rfl (by kernel_rfl) hK
              · refine .r [] T [(81, dE (k13.1 = 4))] rfl (by kernel_rfl) ?_
                refine .cP h0 rfl (by kernel_rfl) (fun hc30 h0 => ?_) (fun hc30 h0 => ?_)
                · obtain ⟨k31, hk31, h0⟩ := bnd h0
                  obtain ⟨k32, hk32, h0⟩ := bnd h0
                  obtain ⟨k33, hk33, h0⟩ := bnd h0
                  obtain ⟨k34, hk34, h0⟩ := bnd h0
                  obtain ⟨k35, hk35, h0⟩ := bnd h0
                  refine .rq [.call [] (aE (kForm k31)) [], .pl, .call [.low 0] (aE (kForm k32.1)) [.cells ((kL15Rd k32.2).map .d)], .pl, .call [.low 0] (aE (kForm k33.1)) [.cells ((kL15Rd k33.2).map .d)], .call [.low 0] (aE (kForm k34.1)) [.cells ((kL15Rd k34.2).map .d)], .sv (ksForm [k31, k32.1, k33.1, k34.1]), .call [] (aE (kForm k35)) []] [] (A (w_sp_l1Name n _ hk31) (A (ih _ _ _ hk32) (A (ih _ _ _ hk33) (A (ih _ _ _ hk34) (A (dForm.lit [k31, k32.1, k33.1, k34.1]) (A (w_sp_l1List n _ hk35) T)))))) [] [.o 6 (.cells ((kForm k35).map .d))] [.o 0 (.cells ((kL15Rd k34.2).map .d))] rfl (by kernel_rfl) ?_
                  cases h0
                  exact .ret rfl rfl (by kernel_rfl) hK
                · refine .r [] T [(99, dE (k13.1 = 5))] rfl (by kernel_rfl) ?_
                  refine .cP h0 rfl (by kernel_rfl) (fun hc36 h0 => ?_) (fun hc36 h0 => ?_)
                  · obtain ⟨k37, hk37, h0⟩ := bnd h0
                    obtain ⟨k38, hk38, h0⟩ := bnd h0
                    obtain ⟨k39, hk39, h0⟩ := bnd h0
                    refine .rq [.call [] (aE (kForm k37)) [], .call [.low 0] (aE (kForm k38.1)) [.cells ((kL15Rd k38.2).map .d)], .sv (ksForm [k37, k38.1]), .call [] (aE (kForm k39)) []] [] (A (w_sp_l1Name n _ hk37) (A (w_sp_l1Some n _ _ hk38) (A (dForm.lit [k37, k38.1]) (A (w_sp_l1List n _ hk39) T)))) [] [.o 6 (.cells ((kForm k39).map .d))] [.o 0 (.cells ((kL15Rd k38.2).map .d))] rfl (by kernel_rfl) ?_
                    cases h0
                    exact .ret rfl rfl (by kernel_rfl) hK
                  · obtain ⟨k40, hk40, h0⟩ := bnd h0
                    obtain ⟨k41, hk41, h0⟩ := bnd h0
                    obtain ⟨k42, hk42, h0⟩ := bnd h0
                    refine .rq [.pl, .call [.low 0] (aE (kForm k40.1)) [.cells ((kL15Rd k40.2).map .d)], .pl, .call [.low 0] (aE (kForm k41.1)) [.cells ((kL15Rd k41.2).map .d)], .sv (ksForm [k40.1, k41.1]), .call [] (aE (kForm k42)) []] [] (A (ih _ _ _ hk40) (A (ih _ _ _ hk41) (A (dForm.lit [k40.1, k41.1]) (A (w_sp_l1List n _ hk42) T)))) [] [.o 6 (.cells ((kForm k42).map .d))] [.o 0 (.cells ((kL15Rd k41.2).map .d))] rfl (by kernel_rfl) ?_
                    cases h0
                    exact .ret rfl rfl (by kernel_rfl) hK
            · refine .cP h1 rfl (by kernel_rfl) (fun hc43 h1 => ?_) (fun hc43 h1 => ?_)
              · cases h1
                exact .lf hj1 rfl [] (by kernel_rfl)
              · refine .r [] T [(58, dE (k13.1 = 3))] rfl (by kernel_rfl) ?_
                cases h1
                exact .lf hj1 rfl [] (by kernel_rfl)
        · refine .cP h1 rfl (by kernel_rfl) (fun hc44 h1 => ?_) (fun hc44 h1 => ?_)
          · cases h1
            exact .lf hj1 rfl [] (by kernel_rfl)
          · refine .r [] T [(43, dE (k13.1 = 1))] rfl (by kernel_rfl) ?_
            cases h1
            exact .lf hj1 rfl [] (by kernel_rfl)
    · by_cases g45 : a2 = 0
      · have h1 := iteP g45 h1
        refine .r [.b true, .b true, .b true, .b true] (A (decide_eq_true g45 : decide (a2 = 0) = true) (A (decide_eq_true g45 : decide (a2 = 0) = true) (A (decide_eq_true g45 : decide (a2 = 0) = true) (A (decide_eq_true g45 : decide (a2 = 0) = true) T)))) [(16, bE true)] rfl (by kernel_rfl) ?_
        cases h1
        exact .lf hj1 rfl [] (by kernel_rfl)
      · have h1 := iteN g45 h1
        obtain ⟨k46, hk46, h1⟩ := bnd h1
        refine .ro [.b false, .b false, .call [.low 0] (iE k46.1) [.cells ((kL15Rd k46.2).map .d)], .b false, .b false] (A (decide_eq_false g45 : decide (a2 = 0) = false) (A (A (decide_eq_false g45 : decide (a2 = 0) = false) (w_sp_l15Rd_pick n _ _ hk46)) (A (decide_eq_false g45 : decide (a2 = 0) = false) (A (decide_eq_false g45 : decide (a2 = 0) = false) T)))) [(16, dE (k46.1 = 0))] [.o 0 (.cells ((kL15Rd k46.2).map .d))] rfl (by kernel_rfl) ?_
        cases h1
        exact .lf hj1 rfl [] (by kernel_rfl)
def sp_l7Texts (n : Nat)  : Option (List (List UInt8)) :=
  some [qletx1y2la01a, qlettmp5ze0b0, qletsynta6432, qletsyntaba1c, qletiflis93a4, qletsynta3586, qletsynta4596, qletsynta299d, qletsynta9c06, qletsyntae69a, qlambdaxl5d0d, qletsynta0fb6, qletsyntae5c9, qletsynta7279, qletsyntac7f1]
theorem w_sp_l7Texts (n : Nat) : ∀ {r : List (List UInt8)}, sp_l7Texts n  = some r → SCall X.E 83 [] [] (lE 1 (ksStr r)) [] := by
  intro r h0
  rw [sp_l7Texts] at h0
  refine .m Tryd.func83 rfl rfl rfl (by kernel_rfl) (fun L ks low K hl hL hlen hK => ?_)
  refine .r [] T [] rfl (by kernel_rfl) ?_
  refine .r [.sv (ksStr [qletx1y2la01a, qlettmp5ze0b0, qletsynta6432, qletsyntaba1c, qletiflis93a4, qletsynta3586, qletsynta4596, qletsynta299d, qletsynta9c06, qletsyntae69a, qlambdaxl5d0d, qletsynta0fb6, qletsyntae5c9, qletsynta7279, qletsyntac7f1])] (A (dStr.lit [qletx1y2la01a, qlettmp5ze0b0, qletsynta6432, qletsyntaba1c, qletiflis93a4, qletsynta3586, qletsynta4596, qletsynta299d, qletsynta9c06, qletsyntae69a, qlambdaxl5d0d, qletsynta0fb6, qletsyntae5c9, qletsynta7279, qletsyntac7f1]) T) [(0, fE 1 (ksStr [qletx1y2la01a, qlettmp5ze0b0, qletsynta6432, qletsyntaba1c, qletiflis93a4, qletsynta3586, qletsynta4596, qletsynta299d, qletsynta9c06, qletsyntae69a, qlambdaxl5d0d, qletsynta0fb6, qletsyntae5c9, qletsynta7279, qletsyntac7f1]))] rfl (by kernel_rfl) ?_
  cases h0
  exact .ret rfl rfl (by kernel_rfl) hK
def sp_l7Draw (n : Nat) (w0 : L15Rd) : Option (Form × L15Rd) :=
  (sp_l7Texts n).bind fun k1 => (sp_l15Rd_pick n 3 w0).bind fun k2 => (if k2.1 > 0 then (sp_l15Rd_pick n (k1.length : Int) k2.2).bind fun k4 => (atI k1 k4.1).bind fun e5 => (sp_l1Parse n e5).bind fun k6 => some (k6, k4.2) else (sp_l15Rd_num n [4, 3, 2] k2.2).bind fun k8 => (sp_l7Some n [[43], [108, 105, 115, 116], [103]] k8.1 k8.2).bind fun k9 => (sp_l15Rd_pick n 2 k9.2).bind fun k10 => Option.bind ((if k10.1 = 0 then (sp_l1Parse n qrulesabl4b2b).bind fun k13 => (sp_l1Name n qletsynta5388).bind fun k14 => (sp_l1Name n [103]).bind fun k15 => (sp_l1List n [k15, k13]).bind fun k16 => (sp_l1List n [k16]).bind fun k17 => (sp_l1List n [k14, k17, k9.1]).bind fun k18 => some k18 else some k9.1) : Option (Form)) (fun (o11 : Form) => some (o11, k10.2)))
theorem w_sp_l7Draw (n : Nat) : ∀ (w0 : L15Rd) {r : Form × L15Rd}, sp_l7Draw n w0 = some r → SCall X.E 80 [pl 0] [some (.cells ((kL15Rd w0).map .d))] (aE (kForm r.1)) [.cells ((kL15Rd r.2).map .d)] := by
  intro w0 r h0
  rw [sp_l7Draw] at h0
  refine .m Tryd.func80 rfl rfl rfl (by kernel_rfl) (fun L ks low K hl hL hlen hK => ?_)
  refine .rf [] T [(2, pw 2)] [.o 2 (.cells [iE 0, sE [], iE 0, fE 1 (ksInt []), fE 5 (ksForm [])])] rfl (by kernel_rfl) ?_
  obtain ⟨k1, hk1, h0⟩ := bnd h0
  refine .r [.call [] (lE 1 (ksStr k1)) []] (A (w_sp_l7Texts n  hk1) T) [(3, lE 1 (ksStr k1))] rfl (by kernel_rfl) ?_
  obtain ⟨k2, hk2, h0⟩ := bnd h0
  refine .ro [.call [.low 0] (iE k2.1) [.cells ((kL15Rd k2.2).map .d)]] (A (w_sp_l15Rd_pick n _ _ hk2) T) [(9, dE (k2.1 > 0))] [.o 0 (.cells ((kL15Rd k2.2).map .d))] rfl (by kernel_rfl) ?_
  refine .cP h0 rfl (by kernel_rfl) (fun hc3 h0 => ?_) (fun hc3 h0 => ?_)
  · obtain ⟨k4, hk4, h0⟩ := bnd h0
    obtain ⟨e5, he5, h0⟩ := bnd h0
    obtain ⟨k6, hk6, h0⟩ := bnd h0
    refine .rq [.v (k1.length : Int), .call [.low 0] (iE k4.1) [.cells ((kL15Rd k4.2).map .d)], .cs [.s e5], .call [] (aE (kForm k6)) []] [] (A (dStr.len' k1) (A (w_sp_l15Rd_pick n _ _ hk4) (A (dStr.idx he5) (A (w_sp_l1Parse n _ hk6) T)))) [] [.o 2 (.cells ((kForm k6).map .d))] [.o 0 (.cells ((kL15Rd k4.2).map .d))] rfl (by kernel_rfl) ?_
    refine .sn 3 dStr k1 (by kernel_rfl) (fun hb7 => ?_)
    cases h0
    exact .ret rfl rfl (by kernel_rfl) hK
  · obtain ⟨k8, hk8, h0⟩ := bnd h0
    obtain ⟨k9, hk9, h0⟩ := bnd h0
    refine .rq [.sv (ksStr [[43], [108, 105, 115, 116], [103]]), .sv (ksInt [4, 3, 2]), .call [.low 0] (iE k8.1) [.cells ((kL15Rd k8.2).map .d)], .call [.low 0] (aE (kForm k9.1)) [.cells ((kL15Rd k9.2).map .d)]] [] (A (dStr.lit [[43], [108, 105, 115, 116], [103]]) (A (dInt.lit [4, 3, 2]) (A (w_sp_l15Rd_num n _ _ hk8) (A (w_sp_l7Some n _ _ _ hk9) T)))) [(4, pw 4)] [.o 4 (.cells ((kForm k9.1).map .d))] [.o 0 (.cells ((kL15Rd k9.2).map .d))] rfl (by kernel_rfl) ?_
    obtain ⟨k10, hk10, h0⟩ := bnd h0
    refine .ro [.call [.low 0] (iE k10.1) [.cells ((kL15Rd k10.2).map .d)]] (A (w_sp_l15Rd_pick n _ _ hk10) T) [(26, dE (k10.1 = 0))] [.o 0 (.cells ((kL15Rd k10.2).map .d))] rfl (by kernel_rfl) ?_
    refine .bP h0 rfl [2, 4] (fun o11 => []) (fun o11 => [.o 4 (.cells ((kForm o11).map .d))]) n1 (fun o11 h0 => ?_) (fun y1 h1 hj1 => ?_)
    · refine .rf [] T [] [.o 2 (.cells ((kForm o11).map .d))] rfl (by kernel_rfl) ?_
      cases h0
      exact .ret rfl rfl (by kernel_rfl) hK
    · refine .cP h1 rfl (by kernel_rfl) (fun hc12 h1 => ?_) (fun hc12 h1 => ?_)
      · obtain ⟨k13, hk13, h1⟩ := bnd h1
        refine .rf [.call [] (aE (kForm k13)) []] (A (w_sp_l1Parse n _ hk13) T) [(5, pw 5)] [.o 5 (.cells ((kForm k13).map .d))] rfl (by kernel_rfl) ?_
        obtain ⟨k14, hk14, h1⟩ := bnd h1
        obtain ⟨k15, hk15, h1⟩ := bnd h1
        obtain ⟨k16, hk16, h1⟩ := bnd h1
        obtain ⟨k17, hk17, h1⟩ := bnd h1
        obtain ⟨k18, hk18, h1⟩ := bnd h1
        refine .rd mixed [(0, [.call [] (aE (kForm k14)) []]), (1, [.call [] (aE (kForm k15)) []]), (3, [.sv (ksForm [k15, k13])]), (4, [.call [] (aE (kForm k16)) []]), (5, [.sv (ksForm [k16])]), (6, [.call [] (aE (kForm k17)) []]), (8, [.sv (ksForm [k14, k17, k9.1])]), (9, [.call [] (aE (kForm k18)) []])] [] (A (w_sp_l1Name n _ hk14) (A (w_sp_l1Name n _ hk15) (A (dForm.lit [k15, k13]) (A (w_sp_l1List n _ hk16) (A (dForm.lit [k16]) (A (w_sp_l1List n _ hk17) (A (dForm.lit [k14, k17, k9.1]) (A (w_sp_l1List n _ hk18) T)))))))) [] [.o 4 (.cells ((kForm k18).map .d))] [] rfl (by kernel_rfl) ?_
        cases h1
        refine .kp [2, 4] [] ?_
        refine .dr 5 (by kernel_rfl) ?_
        exact .lf hj1 rfl [] (by kernel_rfl)
      · cases h1
        exact .lf hj1 rfl [] (by kernel_rfl)
def sp_l11Draw (n : Nat) (w0 : L15Rd) : Option (Form × L15Rd) :=
  (sp_l11Texts n).bind fun k1 => (sp_l15Rd_pick n 4 w0).bind fun k2 => (if k2.1 > 0 then (sp_l15Rd_pick n (k1.length : Int) k2.2).bind fun k4 => (atI k1 k4.1).bind fun e5 => (sp_l1Parse n e5).bind fun k6 => some (k6, k4.2) else (sp_l15Rd_pick n 2 k2.2).bind fun k8 => (if k8.1 = 0 then (sp_l7Draw n k8.2).bind fun k10 => some (k10.1, k10.2) else (sp_l15Rd_pick n (k1.length : Int) k8.2).bind fun k11 => (atI k1 k11.1).bind fun e12 => (sp_l1Parse n e12).bind fun k13 => (sp_l1Mutate n k13 k11.2).bind fun k15 => (sp_l1Mutate n k15.1 k15.2).bind fun k16 => some (k16.1, k16.2)))
theorem w_sp_l11Draw (n : Nat) : ∀ (w0 : L15Rd) {r : Form × L15Rd}, sp_l11Draw n w0 = some r → SCall X.E 69 [pl 0] [some (.cells ((kL15Rd w0).map .d))] (aE (kForm r.1)) [.cells ((kL15Rd r.2).map .d)] := by
  intro w0 r h0
  rw [sp_l11Draw] at h0
  refine .m Tryd.func69 rfl rfl rfl (by kernel_rfl) (fun L ks low K hl hL hlen hK => ?_)
  refine .rf [] T [(2, pw 2)] [.o 2 (.cells [iE 0, sE [], iE 0, fE 1 (ksInt []), fE 5 (ksForm [])])] rfl (by kernel_rfl) ?_
  obtain ⟨k1, hk1, h0⟩ := bnd h0
  refine .r [.call [] (lE 1 (ksStr k1)) []] (A (w_sp_l11Texts n  hk1) T) [(3, lE 1 (ksStr k1))] rfl (by kernel_rfl) ?_
  obtain ⟨k2, hk2, h0⟩ := bnd h0
  refine .ro [.call [.low 0] (iE k2.1) [.cells ((kL15Rd k2.2).map .d)]] (A (w_sp_l15Rd_pick n _ _ hk2) T) [(8, dE (k2.1 > 0))] [.o 0 (.cells ((kL15Rd k2.2).map .d))] rfl (by kernel_rfl) ?_
  refine .cP h0 rfl (by kernel_rfl) (fun hc3 h0 => ?_) (fun hc3 h0 => ?_)
  · obtain ⟨k4, hk4, h0⟩ := bnd h0
    obtain ⟨e5, he5, h0⟩ := bnd h0
    obtain ⟨k6, hk6, h0⟩ := bnd h0
    refine .rq [.v (k1.length : Int), .call [.low 0] (iE k4.1) [.cells ((kL15Rd k4.2).map .d)], .cs [.s e5], .call [] (aE (kForm k6)) []] [] (A (dStr.len' k1) (A (w_sp_l15Rd_pick n _ _ hk4) (A (dStr.idx he5) (A (w_sp_l1Parse n _ hk6) T)))) [] [.o 2 (.cells ((kForm k6).map .d))] [.o 0 (.cells ((kL15Rd k4.2).map .d))] rfl (by kernel_rfl) ?_
    refine .sn 3 dStr k1 (by kernel_rfl) (fun hb7 => ?_)
    cases h0
    exact .ret rfl rfl (by kernel_rfl) hK
  · obtain ⟨k8, hk8, h0⟩ := bnd h0
    refine .ro [.call [.low 0] (iE k8.1) [.cells ((kL15Rd k8.2).map .d)]] (A (w_sp_l15Rd_pick n _ _ hk8) T) [(19, dE (k8.1 = 0))] [.o 0 (.cells ((kL15Rd k8.2).map .d))] rfl (by kernel_rfl) ?_
    refine .cP h0 rfl (by kernel_rfl) (fun hc9 h0 => ?_) (fun hc9 h0 => ?_)
    · obtain ⟨k10, hk10, h0⟩ := bnd h0
      refine .rq [.call [.low 0] (aE (kForm k10.1)) [.cells ((kL15Rd k10.2).map .d)]] [] (A (w_sp_l7Draw n _ hk10) T) [] [.o 2 (.cells ((kForm k10.1).map .d))] [.o 0 (.cells ((kL15Rd k10.2).map .d))] rfl (by kernel_rfl) ?_
      cases h0
      exact .ret rfl rfl (by kernel_rfl) hK
    · obtain ⟨k11, hk11, h0⟩ := bnd h0
      obtain ⟨e12, he12, h0⟩ := bnd h0
      obtain ⟨k13, hk13, h0⟩ := bnd h0
      refine .rq [.v (k1.length : Int), .call [.low 0] (iE k11.1) [.cells ((kL15Rd k11.2).map .d)], .cs [.s e12], .call [] (aE (kForm k13)) []] [] (A (dStr.len' k1) (A (w_sp_l15Rd_pick n _ _ hk11) (A (dStr.idx he12) (A (w_sp_l1Parse n _ hk13) T)))) [(4, pw 4)] [.o 4 (.cells ((kForm k13).map .d))] [.o 0 (.cells ((kL15Rd k11.2).map .d))] rfl (by kernel_rfl) ?_
      refine .sn 3 dStr k1 (by kernel_rfl) (fun hb14 => ?_)
      obtain ⟨k15, hk15, h0⟩ := bnd h0
      obtain ⟨k16, hk16, h0⟩ := bnd h0
      refine .rq [.call [.low 0] (aE (kForm k15.1)) [.cells ((kL15Rd k15.2).map .d)], .call [.low 0] (aE (kForm k16.1)) [.cells ((kL15Rd k16.2).map .d)]] [] (A (w_sp_l1Mutate n _ _ hk15) (A (w_sp_l1Mutate n _ _ hk16) T)) [] [.o 2 (.cells ((kForm k16.1).map .d))] [.o 0 (.cells ((kL15Rd k16.2).map .d))] rfl (by kernel_rfl) ?_
      cases h0
      exact .ret rfl rfl (by kernel_rfl) hK
def sp_l15Open (n : Nat) (a0 : List UInt8) : Option (L15Rd) :=
  Option.bind ((if (a0.length : Int) > 2000 then (slI a0 0 2000).bind fun z4 => some z4 else some a0) : Option (List UInt8)) (fun (o2 : List UInt8) => some (⟨o2, 0⟩ : L15Rd))
theorem w_sp_l15Open (n : Nat) : ∀ (a0 : List UInt8) {r : L15Rd}, sp_l15Open n a0 = some r → SCall X.E 70 [lE 1 (ksByte a0)] [none] (pl 0) [.cells ((kL15Rd r).map .d)] := by
  intro a0 r h0
  rw [sp_l15Open] at h0
  refine .m Tryd.func70 rfl rfl rfl (by kernel_rfl) (fun L ks low K hl hL hlen hK => ?_)
  refine .r [] T [] rfl (by kernel_rfl) ?_
  refine .r [.v (a0.length : Int)] (A (dByte.len' a0) T) [(5, dE ((a0.length : Int) > 2000))] rfl (by kernel_rfl) ?_
  refine .sn 0 dByte a0 (by kernel_rfl) (fun hb1 => ?_)
  refine .bP h0 rfl [] (fun o2 => [(0, lE 1 (ksByte o2))]) n1 n1 (fun o2 h0 => ?_) (fun y1 h1 hj1 => ?_)
  · refine .rf [] T [(2, pw 10)] [.o 10 (.cells [lE 1 (ksByte o2), iE 0])] rfl (by kernel_rfl) ?_
    refine .kp [2] [] ?_
    refine .move 2 10 0 (cs := [.sl 1 false (ksByte o2), .v (.int .i64 0)]) rfl rfl rfl rfl ?_
    cases h0
    exact .ret rfl rfl (by kernel_rfl) hK
  · refine .cP h1 rfl (by kernel_rfl) (fun hc3 h1 => ?_) (fun hc3 h1 => ?_)
    · obtain ⟨z4, hz4, h1⟩ := bnd h1
      refine .r [.sv (ksByte z4)] (A (dByte.sl hz4) T) [(0, lE 1 (ksByte z4))] rfl (by kernel_rfl) ?_
      cases h1
      exact .lf hj1 rfl [] (by kernel_rfl)
    · cases h1
      exact .lf hj1 rfl [] (by kernel_rfl)
def sp_DrawNeededMacros (n : Nat) (a0 : List UInt8) : Option (Form) :=
  (sp_l15Open n a0).bind fun k1 => (sp_l11Draw n k1).bind fun k2 => some k2.1
theorem w_sp_DrawNeededMacros (n : Nat) : ∀ (a0 : List UInt8) {r : Form}, sp_DrawNeededMacros n a0 = some r → SCall X.E 36 [lE 1 (ksByte a0)] [] (aE (kForm r)) [] := by
  intro a0 r h0
  rw [sp_DrawNeededMacros] at h0
  refine .m Tryd.func36 rfl rfl rfl (by kernel_rfl) (fun L ks low K hl hL hlen hK => ?_)
  refine .rf [] T [(2, pw 2)] [.o 2 (.cells [iE 0, sE [], iE 0, fE 1 (ksInt []), fE 5 (ksForm [])])] rfl (by kernel_rfl) ?_
  obtain ⟨k1, hk1, h0⟩ := bnd h0
  obtain ⟨k2, hk2, h0⟩ := bnd h0
  refine .rf [.call [.own 200004] (pl 0) [.cells ((kL15Rd k1).map .d)], .call [.own 200004] (aE (kForm k2.1)) [.cells ((kL15Rd k2.2).map .d)]] (A (w_sp_l15Open n _ hk1) (A (w_sp_l11Draw n _ hk2) T)) [] [.o 2 (.cells ((kForm k2.1).map .d)), .o 200004 (.cells ((kL15Rd k2.2).map .d))] rfl (by kernel_rfl) ?_
  cases h0
  exact .ret rfl rfl (by kernel_rfl) hK
def sp_CountName : Nat → Form → (List UInt8) → Option (Int)
  | 0, _, _ => none
  | n + 1, a0, a1 => Option.bind ((if a0.kind = 1 then some (decide (a0.name = a1)) else some false) : Option (Bool)) (fun (o1 : Bool) => Option.bind ((if o1 = true then some 1 else some 0) : Option (Int)) (fun (o2 : Int) => Option.bind (forL (fun (s4 : Int) (i3 : Nat) (x6 : Form) => (sp_CountName n x6 a1).bind fun k12 => some (w64 (s4 + k12))) 0 a0.kids o2) (fun (s4 : Int) => some s4)))
theorem w_sp_CountName (n : Nat) : ∀ (a0 : Form) (a1 : List UInt8) {r : Int}, sp_CountName n a0 a1 = some r → SCall X.E 73 [aE (kForm a0), sE a1] [] (iE r) [] := by
  induction n with
  | zero => intro a0 a1 r h; cases h
  | succ n ih =>
    intro a0 a1 r h0
    rw [sp_CountName] at h0
    refine .m Tryd.func73 rfl rfl rfl (by kernel_rfl) (fun L ks low K hl hL hlen hK => ?_)
    refine .rf [] T [(2, pw 2)] [.o 2 (.cells ((kForm a0).map .d))] rfl (by kernel_rfl) ?_
    refine .r [] T [(5, iE 0)] rfl (by kernel_rfl) ?_
    refine .bP h0 rfl [1, 2, 5] (fun o1 => [(15, bE o1)]) n1 n1 (fun o1 h0 => ?_) (fun y1 h1 hj1 => ?_)
    · refine .bP h0 rfl [1, 2] (fun o2 => [(5, iE o2)]) n1 n1 (fun o2 h0 => ?_) (fun y1 h1 hj1 => ?_)
      · refine .r [] T [(6, iE 0)] rfl (by kernel_rfl) ?_
        refine .lL h0 rfl [1, 2] (fun i3 s4 => [(5, iE s4), (6, iE (i3 : Int))]) n2 n2 [] (by kernel_rfl) (fun i3 s4 q5 hd7 hi9 h0 => ?_)
        refine .r [.v (a0.kids.length : Int)] (A (dForm.len' a0.kids) T) [(18, lE 5 (ksForm a0.kids)), (20, dE ((i3 : Int) < (a0.kids.length : Int)))] rfl (by kernel_rfl) ?_
        refine .sn 18 dForm a0.kids (by kernel_rfl) (fun hb10 => ?_)
        refine .lc hd7 rfl (by kernel_rfl) (fun x6 q52 hc11 hx6 hd8 hd8l => ?_) (fun hc11 => ?_)
        · subst hc11
          obtain ⟨y1, h1, hn1⟩ := forL_cons h0
          obtain ⟨k12, hk12, h1⟩ := bnd h1
          refine .r [.cs (kForm x6), .call [] (iE k12) [], .pl] (A (dForm.idn hx6) (A (ih _ _ hk12) T)) [(5, iE (w64 (s4 + k12)))] rfl (by kernel_rfl) ?_
          refine .r [.v ((i3 + 1 : Nat) : Int)] (A (wn (i := i3) (by omega)) T) [(6, iE ((i3 + 1 : Nat) : Int))] rfl (by kernel_rfl) ?_
          cases h1
          exact .nL rfl (i3 + 1) _ hd8 hd8l hn1 [] (by kernel_rfl)
        · subst hc11
          have h0 := forL_nil h0
          refine .r [] T [(4, iE s4)] rfl (by kernel_rfl) ?_
          cases h0
          exact .ret rfl rfl (by kernel_rfl) hK
      · refine .cT h1 rfl (by kernel_rfl) (fun hc13 h1 => ?_) (fun hc13 h1 => ?_)
        · refine .r [] T [(5, iE 1)] rfl (by kernel_rfl) ?_
          cases h1
          exact .lf hj1 rfl [] (by kernel_rfl)
        · cases h1
          exact .lf hj1 rfl [] (by kernel_rfl)
    · by_cases g14 : a0.kind = 1
      · have h1 := iteP g14 h1
        refine .r [.b true, .b true, .b true, .b true, .b true] (A (decide_eq_true g14 : decide (a0.kind = 1) = true) (A (decide_eq_true g14 : decide (a0.kind = 1) = true) (A (decide_eq_true g14 : decide (a0.kind = 1) = true) (A (decide_eq_true g14 : decide (a0.kind = 1) = true) (A (decide_eq_true g14 : decide (a0.kind = 1) = true) T))))) [(15, dE (a0.name = a1))] rfl (by kernel_rfl) ?_
        cases h1
        exact .lf hj1 rfl [] (by kernel_rfl)
      · have h1 := iteN g14 h1
        refine .r [.b false, .b false, .b false, .b false, .b false] (A (decide_eq_false g14 : decide (a0.kind = 1) = false) (A (decide_eq_false g14 : decide (a0.kind = 1) = false) (A (decide_eq_false g14 : decide (a0.kind = 1) = false) (A (decide_eq_false g14 : decide (a0.kind = 1) = false) (A (decide_eq_false g14 : decide (a0.kind = 1) = false) T))))) [(15, bE false)] rfl (by kernel_rfl) ?_
        cases h1
        exact .lf hj1 rfl [] (by kernel_rfl)
def sp_l11Names (n : Nat)  : Option (List (List UInt8)) :=
  some [[97, 110, 100], [111, 114], [110, 111, 116], [119, 104, 101, 110], [99, 111, 110, 100], [108, 101, 116, 42], [115, 119, 97, 112]]
theorem w_sp_l11Names (n : Nat) : ∀ {r : List (List UInt8)}, sp_l11Names n  = some r → SCall X.E 40 [] [] (lE 1 (ksStr r)) [] := by
  intro r h0
  rw [sp_l11Names] at h0
  refine .m Tryd.func40 rfl rfl rfl (by kernel_rfl) (fun L ks low K hl hL hlen hK => ?_)
  refine .r [] T [] rfl (by kernel_rfl) ?_
  refine .r [.sv (ksStr [[97, 110, 100], [111, 114], [110, 111, 116], [119, 104, 101, 110], [99, 111, 110, 100], [108, 101, 116, 42], [115, 119, 97, 112]])] (A (dStr.lit [[97, 110, 100], [111, 114], [110, 111, 116], [119, 104, 101, 110], [99, 111, 110, 100], [108, 101, 116, 42], [115, 119, 97, 112]]) T) [(0, fE 1 (ksStr [[97, 110, 100], [111, 114], [110, 111, 116], [119, 104, 101, 110], [99, 111, 110, 100], [108, 101, 116, 42], [115, 119, 97, 112]]))] rfl (by kernel_rfl) ?_
  cases h0
  exact .ret rfl rfl (by kernel_rfl) hK
def sp_l11Needed (n : Nat) (a0 : Form) : Option (List (List UInt8)) :=
  (sp_l11Names n).bind fun k1 => Option.bind (forL (fun (s3 : List (List UInt8)) (i2 : Nat) (x5 : List UInt8) => Option.bind ((sp_CountName n a0 x5).bind fun k12 => (if k12 > 0 then (apB 16 s3 [x5]).bind fun z14 => some z14 else some s3) : Option (List (List UInt8))) (fun (o11 : List (List UInt8)) => some o11)) 0 k1 []) (fun (s3 : List (List UInt8)) => some s3)
theorem w_sp_l11Needed (n : Nat) : ∀ (a0 : Form) {r : List (List UInt8)}, sp_l11Needed n a0 = some r → SCall X.E 53 [aE (kForm a0)] [] (lE 1 (ksStr r)) [] := by
  intro a0 r h0
  rw [sp_l11Needed] at h0
  refine .m Tryd.func53 rfl rfl rfl (by kernel_rfl) (fun L ks low K hl hL hlen hK => ?_)
  refine .rf [] T [(1, pw 1)] [.o 1 (.cells ((kForm a0).map .d))] rfl (by kernel_rfl) ?_
  refine .r [.sv (ksStr [])] (A (dStr.lit []) T) [(3, fE 1 (ksStr []))] rfl (by kernel_rfl) ?_
  obtain ⟨k1, hk1, h0⟩ := bnd h0
  refine .r [.call [] (lE 1 (ksStr k1)) []] (A (w_sp_l11Names n  hk1) T) [(4, lE 1 (ksStr k1))] rfl (by kernel_rfl) ?_
  refine .r [] T [(5, iE 0)] rfl (by kernel_rfl) ?_
  refine .ow 3 100027 9 [1, 4, 5] rfl rfl (by kernel_rfl) ?_
  refine .lL h0 rfl [1, 4] (fun i2 s3 => [(3, .gs (.own 100027) 1 (ksStr s3)), (5, iE (i2 : Int))]) (fun i2 s3 => [.o 100027 (.tok (ksStr s3).length 9)]) n2 [] (by kernel_rfl) (fun i2 s3 q4 hd6 hi8 h0 => ?_)
  refine .r [.v (k1.length : Int)] (A (dStr.len' k1) T) [(11, dE ((i2 : Int) < (k1.length : Int)))] rfl (by kernel_rfl) ?_
  refine .sn 4 dStr k1 (by kernel_rfl) (fun hb9 => ?_)
  refine .lc hd6 rfl (by kernel_rfl) (fun x5 q42 hc10 hx5 hd7 hd7l => ?_) (fun hc10 => ?_)
  · subst hc10
    obtain ⟨y1, h1, hn1⟩ := forL_cons h0
    refine .bPB h1 rfl [1, 4, 5] (fun o11 => [(3, .gs (.own 100027) 1 (ksStr o11))]) (fun o11 => [.o 100027 (.tok (ksStr o11).length 9)]) n1 (fun o11 h1 => ?_) (fun y2 h2 hj2 => ?_)
    · refine .r [.v ((i2 + 1 : Nat) : Int)] (A (wn (i := i2) (by omega)) T) [(5, iE ((i2 + 1 : Nat) : Int))] rfl (by kernel_rfl) ?_
      cases h1
      exact .nL rfl (i2 + 1) _ hd7 hd7l hn1 [] (by kernel_rfl)
    · obtain ⟨k12, hk12, h2⟩ := bnd h2
      refine .rd mixed [(3, [.cs [.s x5]]), (5, [.call [] (iE k12) []])] [] (A (dStr.idn hx5) (A (w_sp_CountName n _ _ hk12) T)) [(20, dE (k12 > 0))] [] [] rfl (by kernel_rfl) ?_
      refine .cP h2 rfl (by kernel_rfl) (fun hc13 h2 => ?_) (fun hc13 h2 => ?_)
      · obtain ⟨z14, hz14, h2⟩ := bnd h2
        refine .rq [.cs [.s x5], .sv (ksStr [x5]), .sv (ksStr z14)] [((ksStr s3).length : Int)] (A (dStr.idn hx5) (A (dStr.lit [x5]) (A (dStr.ap hz14) T))) [(3, .gs (.own 100027) 1 (ksStr z14))] [.o 100027 (.tok (ksStr z14).length 9)] [] rfl (by kernel_rfl) ?_
        cases h2
        exact .lf hj2 rfl [] (by kernel_rfl)
      · cases h2
        exact .lf hj2 rfl [] (by kernel_rfl)
  · subst hc10
    have h0 := forL_nil h0
    refine .r [] T [(2, .gs (.own 100027) 1 (ksStr s3))] rfl (by kernel_rfl) ?_
    cases h0
    exact .ret rfl rfl (by kernel_rfl) hK
def sp_NeededMacros (n : Nat) (a0 : Form) : Option (List (List UInt8)) :=
  (sp_l11Needed n a0).bind fun k1 => some k1
theorem w_sp_NeededMacros (n : Nat) : ∀ (a0 : Form) {r : List (List UInt8)}, sp_NeededMacros n a0 = some r → SCall X.E 23 [aE (kForm a0)] [] (lE 1 (ksStr r)) [] := by
  intro a0 r h0
  rw [sp_NeededMacros] at h0
  refine .m Tryd.func23 rfl rfl rfl (by kernel_rfl) (fun L ks low K hl hL hlen hK => ?_)
  refine .rf [] T [(1, pw 1)] [.o 1 (.cells ((kForm a0).map .d))] rfl (by kernel_rfl) ?_
  obtain ⟨k1, hk1, h0⟩ := bnd h0
  refine .r [.call [] (lE 1 (ksStr k1)) []] (A (w_sp_l11Needed n _ hk1) T) [(2, lE 1 (ksStr k1))] rfl (by kernel_rfl) ?_
  cases h0
  exact .ret rfl rfl (by kernel_rfl) hK
def la_FnNeededMacros (n : Nat) (a0 : List UInt8) : Option (Bool) :=
  (if (a0.length : Int) > 1048576 then some true else (sp_DrawNeededMacros n a0).bind fun k3 => (im_NeededMacros n k3).bind fun k4 => (sp_NeededMacros n k3).bind fun k5 => (la_mxTexts n k4 k5).bind fun k6 => (if (!k6) = true then some false else (im_NamesOf n k3).bind fun k8 => (im_LibraryNames n).bind fun k9 => Option.bind (forL (fun (s11 : Int) (i10 : Nat) (x13 : List UInt8) => Option.bind ((la_mxName n k8 x13).bind fun k20 => (if k20 = true then some (w64 (s11 + 1)) else some s11) : Option (Int)) (fun (o19 : Int) => some o19)) 0 k9 0) (fun (s11 : Int) => seqS (forI (fun (s23 : Unit) (i22 : Nat) (x25 : List UInt8) => (Option.bind ((la_mxName n k8 x25).bind fun k33 => (if (!k33) = true then some true else (la_mxName n k9 x25).bind fun k35 => some (!k35)) : Option (Bool)) (fun (o31 : Bool) => (if o31 = true then some (Sum.inl false) else some (Sum.inr ()))) : Option (Bool ⊕ Unit))) 0 k4 ()) (fun (s23 : Unit) => some (decide (s11 = (k4.length : Int)))))))
theorem w_la_FnNeededMacros (n : Nat) : ∀ (a0 : List UInt8) {r : Bool}, la_FnNeededMacros n a0 = some r → SCall X.E 9 [lE 1 (ksByte a0)] [] (bE r) [] := by
  intro a0 r h0
  rw [la_FnNeededMacros] at h0
  refine .m Tryd.func9 rfl rfl rfl (by kernel_rfl) (fun L ks low K hl hL hlen hK => ?_)
  refine .r [] T [] rfl (by kernel_rfl) ?_
  refine .r [.v (a0.length : Int)] (A (dByte.len' a0) T) [(12, dE ((a0.length : Int) > 1048576))] rfl (by kernel_rfl) ?_
  refine .sn 0 dByte a0 (by kernel_rfl) (fun hb1 => ?_)
  refine .cP h0 rfl (by kernel_rfl) (fun hc2 h0 => ?_) (fun hc2 h0 => ?_)
  · refine .r [] T [(2, bE true)] rfl (by kernel_rfl) ?_
    cases h0
    exact .ret rfl rfl (by kernel_rfl) hK
  · obtain ⟨k3, hk3, h0⟩ := bnd h0
    refine .rf [.call [] (aE (kForm k3)) []] (A (w_sp_DrawNeededMacros n _ hk3) T) [(3, pw 3)] [.o 3 (.cells ((kForm k3).map .d))] rfl (by kernel_rfl) ?_
    obtain ⟨k4, hk4, h0⟩ := bnd h0
    refine .r [.call [] (lE 1 (ksStr k4)) []] (A (w_im_NeededMacros n _ hk4) T) [(4, lE 1 (ksStr k4))] rfl (by kernel_rfl) ?_
    obtain ⟨k5, hk5, h0⟩ := bnd h0
    obtain ⟨k6, hk6, h0⟩ := bnd h0
    refine .r [.call [] (lE 1 (ksStr k5)) [], .call [] (bE k6) []] (A (w_sp_NeededMacros n _ hk5) (A (w_la_mxTexts n _ _ hk6) T)) [(21, bE (!k6))] rfl (by kernel_rfl) ?_
    refine .cT h0 rfl (by kernel_rfl) (fun hc7 h0 => ?_) (fun hc7 h0 => ?_)
    · refine .r [] T [(2, bE false)] rfl (by kernel_rfl) ?_
      cases h0
      exact .ret rfl rfl (by kernel_rfl) hK
    · obtain ⟨k8, hk8, h0⟩ := bnd h0
      refine .r [.call [] (lE 1 (ksStr k8)) []] (A (w_im_NamesOf n _ hk8) T) [(5, lE 1 (ksStr k8))] rfl (by kernel_rfl) ?_
      refine .r [] T [(6, iE 0)] rfl (by kernel_rfl) ?_
      obtain ⟨k9, hk9, h0⟩ := bnd h0
      refine .r [.call [] (lE 1 (ksStr k9)) []] (A (w_im_LibraryNames n  hk9) T) [(7, lE 1 (ksStr k9))] rfl (by kernel_rfl) ?_
      refine .r [] T [(8, iE 0)] rfl (by kernel_rfl) ?_
      refine .lL h0 rfl [4, 5, 7] (fun i10 s11 => [(6, iE s11), (8, iE (i10 : Int))]) n2 n2 [] (by kernel_rfl) (fun i10 s11 q12 hd14 hi16 h0 => ?_)
      refine .r [.v (k9.length : Int)] (A (dStr.len' k9) T) [(28, dE ((i10 : Int) < (k9.length : Int)))] rfl (by kernel_rfl) ?_
      refine .sn 7 dStr k9 (by kernel_rfl) (fun hb17 => ?_)
      refine .lc hd14 rfl (by kernel_rfl) (fun x13 q122 hc18 hx13 hd15 hd15l => ?_) (fun hc18 => ?_)
      · subst hc18
        obtain ⟨y1, h1, hn1⟩ := forL_cons h0
        refine .bPB h1 rfl [4, 5, 7, 8] (fun o19 => [(6, iE o19)]) n1 n1 (fun o19 h1 => ?_) (fun y2 h2 hj2 => ?_)
        · refine .r [.v ((i10 + 1 : Nat) : Int)] (A (wn (i := i10) (by omega)) T) [(8, iE ((i10 + 1 : Nat) : Int))] rfl (by kernel_rfl) ?_
          cases h1
          exact .nL rfl (i10 + 1) _ hd15 hd15l hn1 [] (by kernel_rfl)
        · obtain ⟨k20, hk20, h2⟩ := bnd h2
          refine .r [.cs [.s x13], .call [] (bE k20) []] (A (dStr.idn hx13) (A (w_la_mxName n _ _ hk20) T)) [(36, bE k20)] rfl (by kernel_rfl) ?_
          refine .cT h2 rfl (by kernel_rfl) (fun hc21 h2 => ?_) (fun hc21 h2 => ?_)
          · refine .r [.pl] T [(6, iE (w64 (s11 + 1)))] rfl (by kernel_rfl) ?_
            cases h2
            exact .lf hj2 rfl [] (by kernel_rfl)
          · cases h2
            exact .lf hj2 rfl [] (by kernel_rfl)
      · subst hc18
        have h0 := forL_nil h0
        refine .r [] T [(9, iE 0)] rfl (by kernel_rfl) ?_
        refine .lI h0 rfl [4, 5, 6, 7] (fun i22 s23 => [(9, iE (i22 : Int))]) n2 n2 [] (by kernel_rfl) (fun i22 s23 q24 hd26 hi28 h0 => ?_)
        refine .r [.v (k4.length : Int)] (A (dStr.len' k4) T) [(42, dE ((i22 : Int) < (k4.length : Int)))] rfl (by kernel_rfl) ?_
        refine .sn 4 dStr k4 (by kernel_rfl) (fun hb29 => ?_)
        refine .lc hd26 rfl (by kernel_rfl) (fun x25 q242 hc30 hx25 hd27 hd27l => ?_) (fun hc30 => ?_)
        · subst hc30
          obtain ⟨y1, h1, hw1, hn1⟩ := forI_cons h0
          refine .bP h1 rfl [4, 5, 6, 7, 9] (fun o31 => [(60, bE o31)]) n1 n1 (fun o31 h1 => ?_) (fun y2 h2 hj2 => ?_)
          · refine .cT h1 rfl (by kernel_rfl) (fun hc32 h1 => ?_) (fun hc32 h1 => ?_)
            · refine .r [] T [(2, bE false)] rfl (by kernel_rfl) ?_
              cases h1
              cases hw1 _ rfl
              exact .ret rfl rfl (by kernel_rfl) hK
            · refine .r [.v ((i22 + 1 : Nat) : Int)] (A (wn (i := i22) (by omega)) T) [(9, iE ((i22 + 1 : Nat) : Int))] rfl (by kernel_rfl) ?_
              cases h1
              exact .nL rfl (i22 + 1) _ hd27 hd27l (hn1 _ rfl) [] (by kernel_rfl)
          · obtain ⟨k33, hk33, h2⟩ := bnd h2
            by_cases g34 : (!k33) = true
            · have h2 := iteP g34 h2
              refine .r [.cs [.s x25], .call [] (bE k33) [], .b true, .b true, .b true, .b true, .b true, .b true, .b true, .b true] (A (dStr.idn hx25) (A (w_la_mxName n _ _ hk33) (A g34 (A g34 (A g34 (A g34 (A g34 (A g34 (A g34 (A g34 T)))))))))) [(60, bE true)] rfl (by kernel_rfl) ?_
              cases h2
              exact .lf hj2 rfl [] (by kernel_rfl)
            · have h2 := iteN g34 h2
              obtain ⟨k35, hk35, h2⟩ := bnd h2
              refine .r [.cs [.s x25], .call [] (bE k33) [], .b false, .b false, .b false, .b false, .cs [.s x25], .b false, .b false, .call [] (bE k35) [], .b false, .b false] (A (dStr.idn hx25) (A (w_la_mxName n _ _ hk33) (A (Bool.eq_false_iff.2 g34) (A (Bool.eq_false_iff.2 g34) (A (Bool.eq_false_iff.2 g34) (A (A (Bool.eq_false_iff.2 g34) (dStr.idn hx25)) (A (Bool.eq_false_iff.2 g34) (A (A (Bool.eq_false_iff.2 g34) (w_la_mxName n _ _ hk35)) (A (Bool.eq_false_iff.2 g34) (A (Bool.eq_false_iff.2 g34) T)))))))))) [(60, bE (!k35))] rfl (by kernel_rfl) ?_
              cases h2
              exact .lf hj2 rfl [] (by kernel_rfl)
        · subst hc30
          have h0 := forI_nil h0
          refine .r [.v (k4.length : Int)] (A (dStr.len' k4) T) [(2, dE (s11 = (k4.length : Int)))] rfl (by kernel_rfl) ?_
          cases h0
          exact .ret rfl rfl (by kernel_rfl) hK
end Go.Ev
