/- Models of the functions that FnSubstituteBack reaches. No condition. -/
import Derived.Test.YtencoplhomeleaaDoorMdSubstituteBackA
import Derived.Test.YtencoplhomeleaaDoorEvTri
import Derived.Test.YtencoplhomeleaaDoorProg
import Derived.KernelRfl
import Derived.Test.YtencoplhomeleaaDoorShT3d
namespace Go.Ev
open Go.Proofs Go.Mx
set_option linter.unusedVariables false
set_option maxRecDepth 10000
def sp_l2Has (n : Nat) (a0 : List Int) (a1 : Int) : Option (Bool) :=
  seqS (forI (fun (s2 : Unit) (i1 : Nat) (x4 : Int) => ((if x4 = a1 then some (Sum.inl true) else some (Sum.inr ())) : Option (Bool ⊕ Unit))) 0 a0 ()) (fun (s2 : Unit) => some false)
theorem w_sp_l2Has (n : Nat) : ∀ (a0 : List Int) (a1 : Int) {r : Bool}, sp_l2Has n a0 a1 = some r → SCall X.E 36 [lE 1 (ksInt a0), iE a1] [] (bE r) [] := by
  intro a0 a1 r h0
  rw [sp_l2Has] at h0
  refine .m Tryd.func36 rfl rfl rfl (by kernel_rfl) (fun L ks low K hl hL hlen hK => ?_)
  refine .r [] T [] rfl (by kernel_rfl) ?_
  refine .r [] T [(5, iE 0)] rfl (by kernel_rfl) ?_
  refine .lI h0 rfl [0, 1] (fun i1 s2 => [(5, iE (i1 : Int))]) n2 n2 [] (by kernel_rfl) (fun i1 s2 q3 hd5 hi7 h0 => ?_)
  refine .r [.v (a0.length : Int)] (A (dInt.len' a0) T) [(9, dE ((i1 : Int) < (a0.length : Int)))] rfl (by kernel_rfl) ?_
  refine .sn 0 dInt a0 (by kernel_rfl) (fun hb8 => ?_)
  refine .lc hd5 rfl (by kernel_rfl) (fun x4 q32 hc9 hx4 hd6 hd6l => ?_) (fun hc9 => ?_)
  · subst hc9
    obtain ⟨y1, h1, hw1, hn1⟩ := forI_cons h0
    refine .r [.cs [.v (.int .i64 x4)]] (A (dInt.idn hx4) T) [(17, dE (x4 = a1))] rfl (by kernel_rfl) ?_
    refine .cP h1 rfl (by kernel_rfl) (fun hc10 h1 => ?_) (fun hc10 h1 => ?_)
    · refine .r [] T [(4, bE true)] rfl (by kernel_rfl) ?_
      cases h1
      cases hw1 _ rfl
      exact .ret rfl rfl (by kernel_rfl) hK
    · refine .r [.v ((i1 + 1 : Nat) : Int)] (A (wn (i := i1) (by omega)) T) [(5, iE ((i1 + 1 : Nat) : Int))] rfl (by kernel_rfl) ?_
      cases h1
      exact .nL rfl (i1 + 1) _ hd6 hd6l (hn1 _ rfl) [] (by kernel_rfl)
  · subst hc9
    have h0 := forI_nil h0
    refine .r [] T [(4, bE false)] rfl (by kernel_rfl) ?_
    cases h0
    exact .ret rfl rfl (by kernel_rfl) hK
def sp_l1Ints (n : Nat) (a0 : List Int) (a1 : List Int) : Option (Bool) :=
  (if ¬ (a0.length : Int) = (a1.length : Int) then some false else seqS (forI (fun (s5 : Unit) (i4 : Nat) (x7 : Int) => ((atI a1 (i4 : Int)).bind fun e12 => (if ¬ x7 = e12 then some (Sum.inl false) else some (Sum.inr ())) : Option (Bool ⊕ Unit))) 0 a0 ()) (fun (s5 : Unit) => some true))
theorem w_sp_l1Ints (n : Nat) : ∀ (a0 : List Int) (a1 : List Int) {r : Bool}, sp_l1Ints n a0 a1 = some r → SCall X.E 95 [lE 1 (ksInt a0), lE 1 (ksInt a1)] [] (bE r) [] := by
  intro a0 a1 r h0
  rw [sp_l1Ints] at h0
  refine .m Tryd.func95 rfl rfl rfl (by kernel_rfl) (fun L ks low K hl hL hlen hK => ?_)
  refine .r [] T [] rfl (by kernel_rfl) ?_
  refine .r [.v (a0.length : Int), .v (a1.length : Int)] (A (dInt.len' a0) (A (dInt.len' a1) T)) [(10, dE (¬ (a0.length : Int) = (a1.length : Int)))] rfl (by kernel_rfl) ?_
  refine .sn 0 dInt a0 (by kernel_rfl) (fun hb1 => ?_)
  refine .sn 1 dInt a1 (by kernel_rfl) (fun hb2 => ?_)
  refine .cP h0 rfl (by kernel_rfl) (fun hc3 h0 => ?_) (fun hc3 h0 => ?_)
  · refine .r [] T [(4, bE false)] rfl (by kernel_rfl) ?_
    cases h0
    exact .ret rfl rfl (by kernel_rfl) hK
  · refine .r [] T [(5, iE 0)] rfl (by kernel_rfl) ?_
    refine .lI h0 rfl [0, 1] (fun i4 s5 => [(5, iE (i4 : Int))]) n2 n2 [] (by kernel_rfl) (fun i4 s5 q6 hd8 hi10 h0 => ?_)
    refine .r [.v (a0.length : Int)] (A (dInt.len' a0) T) [(14, dE ((i4 : Int) < (a0.length : Int)))] rfl (by kernel_rfl) ?_
    refine .lc hd8 rfl (by kernel_rfl) (fun x7 q62 hc11 hx7 hd9 hd9l => ?_) (fun hc11 => ?_)
    · subst hc11
      obtain ⟨y1, h1, hw1, hn1⟩ := forI_cons h0
      obtain ⟨e12, he12, h1⟩ := bnd h1
      refine .rd mixed [(2, [.cs [.v (.int .i64 x7)]]), (6, [.cs [.v (.int .i64 e12)]])] [] (A (dInt.idn hx7) (A (dInt.idx he12) T)) [(25, dE (¬ x7 = e12))] [] [] rfl (by kernel_rfl) ?_
      refine .cP h1 rfl (by kernel_rfl) (fun hc13 h1 => ?_) (fun hc13 h1 => ?_)
      · refine .r [] T [(4, bE false)] rfl (by kernel_rfl) ?_
        cases h1
        cases hw1 _ rfl
        exact .ret rfl rfl (by kernel_rfl) hK
      · refine .r [.v ((i4 + 1 : Nat) : Int)] (A (wn (i := i4) (by omega)) T) [(5, iE ((i4 + 1 : Nat) : Int))] rfl (by kernel_rfl) ?_
        cases h1
        exact .nL rfl (i4 + 1) _ hd9 hd9l (hn1 _ rfl) [] (by kernel_rfl)
    · subst hc11
      have h0 := forI_nil h0
      refine .r [] T [(4, bE true)] rfl (by kernel_rfl) ?_
      cases h0
      exact .ret rfl rfl (by kernel_rfl) hK
def sp_FormSame : Nat → Form → Form → Option (Bool)
  | 0, _, _ => none
  | n + 1, a0, a1 => Option.bind ((if ¬ a0.kind = a1.kind then some true else (if ¬ a0.name = a1.name then some true else (if ¬ a0.n = a1.n then some true else (sp_l1Ints n a0.scopes a1.scopes).bind fun k18 => (if (!k18) = true then some true else some (decide (¬ (a0.kids.length : Int) = (a1.kids.length : Int))))))) : Option (Bool)) (fun (o1 : Bool) => (if o1 = true then some false else seqS (forI (fun (s4 : Unit) (i3 : Nat) (x6 : Form) => ((atI a1.kids (i3 : Int)).bind fun e12 => (sp_FormSame n x6 e12).bind fun k13 => (if (!k13) = true then some (Sum.inl false) else some (Sum.inr ())) : Option (Bool ⊕ Unit))) 0 a0.kids ()) (fun (s4 : Unit) => some true)))
theorem w_sp_FormSame (n : Nat) : ∀ (a0 : Form) (a1 : Form) {r : Bool}, sp_FormSame n a0 a1 = some r → SCall X.E 86 [aE (kForm a0), aE (kForm a1)] [] (bE r) [] := by
  induction n with
  | zero => intro a0 a1 r h; cases h
  | succ n ih =>
    intro a0 a1 r h0
    rw [sp_FormSame] at h0
    refine .m Tryd.func86 rfl rfl rfl (by kernel_rfl) (fun L ks low K hl hL hlen hK => ?_)
    refine .rf [] T [(2, pw 2), (3, pw 3)] [.o 2 (.cells ((kForm a0).map .d)), .o 3 (.cells ((kForm a1).map .d))] rfl (by kernel_rfl) ?_
    refine .bP h0 rfl [2, 3] (fun o1 => [(41, bE o1)]) n1 n1 (fun o1 h0 => ?_) (fun y1 h1 hj1 => ?_)
    · refine .cT h0 rfl (by kernel_rfl) (fun hc2 h0 => ?_) (fun hc2 h0 => ?_)
      · refine .r [] T [(4, bE false)] rfl (by kernel_rfl) ?_
        cases h0
        exact .ret rfl rfl (by kernel_rfl) hK
      · refine .r [] T [(5, iE 0)] rfl (by kernel_rfl) ?_
        refine .lI h0 rfl [2, 3] (fun i3 s4 => [(5, iE (i3 : Int))]) n2 n2 [] (by kernel_rfl) (fun i3 s4 q5 hd7 hi9 h0 => ?_)
        refine .r [.v (a0.kids.length : Int)] (A (dForm.len' a0.kids) T) [(44, lE 5 (ksForm a0.kids)), (46, dE ((i3 : Int) < (a0.kids.length : Int)))] rfl (by kernel_rfl) ?_
        refine .sn 44 dForm a0.kids (by kernel_rfl) (fun hb10 => ?_)
        refine .lc hd7 rfl (by kernel_rfl) (fun x6 q52 hc11 hx6 hd8 hd8l => ?_) (fun hc11 => ?_)
        · subst hc11
          obtain ⟨y1, h1, hw1, hn1⟩ := forI_cons h0
          obtain ⟨e12, he12, h1⟩ := bnd h1
          obtain ⟨k13, hk13, h1⟩ := bnd h1
          refine .rd mixed [(3, [.cs (kForm x6)]), (8, [.cs (kForm e12)]), (10, [.call [] (bE k13) []])] [] (A (dForm.idn hx6) (A (dForm.idx he12) (A (ih _ _ hk13) T))) [(60, bE (!k13))] [] [] rfl (by kernel_rfl) ?_
          refine .cT h1 rfl (by kernel_rfl) (fun hc14 h1 => ?_) (fun hc14 h1 => ?_)
          · refine .r [] T [(4, bE false)] rfl (by kernel_rfl) ?_
            cases h1
            cases hw1 _ rfl
            exact .ret rfl rfl (by kernel_rfl) hK
          · refine .r [.v ((i3 + 1 : Nat) : Int)] (A (wn (i := i3) (by omega)) T) [(5, iE ((i3 + 1 : Nat) : Int))] rfl (by kernel_rfl) ?_
            cases h1
            exact .nL rfl (i3 + 1) _ hd8 hd8l (hn1 _ rfl) [] (by kernel_rfl)
        · subst hc11
          have h0 := forI_nil h0
          refine .r [] T [(4, bE true)] rfl (by kernel_rfl) ?_
          cases h0
          exact .ret rfl rfl (by kernel_rfl) hK
    · by_cases g15 : ¬ a0.kind = a1.kind
      · have h1 := iteP g15 h1
        refine .r [.b true, .b true, .b true, .b true, .b true, .b true, .b true, .b true, .b true, .b true, .b true, .b true, .b true, .b true, .b true, .b true, .b true, .b true, .b true, .b true, .b true, .b true, .b true, .b true, .b true, .b true, .b true] (A (decide_eq_true g15 : decide (¬ a0.kind = a1.kind) = true) (A (decide_eq_true g15 : decide (¬ a0.kind = a1.kind) = true) (A (decide_eq_true g15 : decide (¬ a0.kind = a1.kind) = true) (A (decide_eq_true g15 : decide (¬ a0.kind = a1.kind) = true) (A (decide_eq_true g15 : decide (¬ a0.kind = a1.kind) = true) (A (decide_eq_true g15 : decide (¬ a0.kind = a1.kind) = true) (A (rfl : true = true) (A (rfl : true = true) (A (rfl : true = true) (A (rfl : true = true) (A (rfl : true = true) (A (rfl : true = true) (A (rfl : true = true) (A (rfl : true = true) (A (rfl : true = true) (A (rfl : true = true) (A (rfl : true = true) (A (rfl : true = true) (A (rfl : true = true) (A (rfl : true = true) (A (rfl : true = true) (A (rfl : true = true) (A (rfl : true = true) (A (rfl : true = true) (A (rfl : true = true) (A (rfl : true = true) (A (rfl : true = true) T))))))))))))))))))))))))))) [(41, bE true)] rfl (by kernel_rfl) ?_
        cases h1
        exact .lf hj1 rfl [] (by kernel_rfl)
      · have h1 := iteN g15 h1
        by_cases g16 : ¬ a0.name = a1.name
        · have h1 := iteP g16 h1
          refine .r [.b false, .b false, .b false, .b false, .b false, .b false, .b true, .b true, .b true, .b true, .b true, .b true, .b true, .b true, .b true, .b true, .b true, .b true, .b true, .b true, .b true, .b true, .b true, .b true, .b true, .b true, .b true] (A (decide_eq_false g15 : decide (¬ a0.kind = a1.kind) = false) (A (decide_eq_false g15 : decide (¬ a0.kind = a1.kind) = false) (A (decide_eq_false g15 : decide (¬ a0.kind = a1.kind) = false) (A (decide_eq_false g15 : decide (¬ a0.kind = a1.kind) = false) (A (decide_eq_false g15 : decide (¬ a0.kind = a1.kind) = false) (A (decide_eq_false g15 : decide (¬ a0.kind = a1.kind) = false) (A (decide_eq_true g16 : decide (¬ a0.name = a1.name) = true) (A (decide_eq_true g16 : decide (¬ a0.name = a1.name) = true) (A (decide_eq_true g16 : decide (¬ a0.name = a1.name) = true) (A (decide_eq_true g16 : decide (¬ a0.name = a1.name) = true) (A (decide_eq_true g16 : decide (¬ a0.name = a1.name) = true) (A (decide_eq_true g16 : decide (¬ a0.name = a1.name) = true) (A (rfl : true = true) (A (rfl : true = true) (A (rfl : true = true) (A (rfl : true = true) (A (rfl : true = true) (A (rfl : true = true) (A (rfl : true = true) (A (rfl : true = true) (A (rfl : true = true) (A (rfl : true = true) (A (rfl : true = true) (A (rfl : true = true) (A (rfl : true = true) (A (rfl : true = true) (A (rfl : true = true) T))))))))))))))))))))))))))) [(41, bE true)] rfl (by kernel_rfl) ?_
          cases h1
          exact .lf hj1 rfl [] (by kernel_rfl)
        · have h1 := iteN g16 h1
          by_cases g17 : ¬ a0.n = a1.n
          · have h1 := iteP g17 h1
            refine .r [.b false, .b false, .b false, .b false, .b false, .b false, .b false, .b false, .b false, .b false, .b false, .b false, .b true, .b true, .b true, .b true, .b true, .b true, .b true, .b true, .b true, .b true, .b true, .b true, .b true, .b true, .b true] (A (decide_eq_false g15 : decide (¬ a0.kind = a1.kind) = false) (A (decide_eq_false g15 : decide (¬ a0.kind = a1.kind) = false) (A (decide_eq_false g15 : decide (¬ a0.kind = a1.kind) = false) (A (decide_eq_false g15 : decide (¬ a0.kind = a1.kind) = false) (A (decide_eq_false g15 : decide (¬ a0.kind = a1.kind) = false) (A (decide_eq_false g15 : decide (¬ a0.kind = a1.kind) = false) (A (decide_eq_false g16 : decide (¬ a0.name = a1.name) = false) (A (decide_eq_false g16 : decide (¬ a0.name = a1.name) = false) (A (decide_eq_false g16 : decide (¬ a0.name = a1.name) = false) (A (decide_eq_false g16 : decide (¬ a0.name = a1.name) = false) (A (decide_eq_false g16 : decide (¬ a0.name = a1.name) = false) (A (decide_eq_false g16 : decide (¬ a0.name = a1.name) = false) (A (decide_eq_true g17 : decide (¬ a0.n = a1.n) = true) (A (decide_eq_true g17 : decide (¬ a0.n = a1.n) = true) (A (decide_eq_true g17 : decide (¬ a0.n = a1.n) = true) (A (decide_eq_true g17 : decide (¬ a0.n = a1.n) = true) (A (decide_eq_true g17 : decide (¬ a0.n = a1.n) = true) (A (decide_eq_true g17 : decide (¬ a0.n = a1.n) = true) (A (decide_eq_true g17 : decide (¬ a0.n = a1.n) = true) (A (rfl : true = true) (A (rfl : true = true) (A (rfl : true = true) (A (rfl : true = true) (A (rfl : true = true) (A (rfl : true = true) (A (rfl : true = true) (A (rfl : true = true) T))))))))))))))))))))))))))) [(41, bE true)] rfl (by kernel_rfl) ?_
            cases h1
            exact .lf hj1 rfl [] (by kernel_rfl)
          · have h1 := iteN g17 h1
            obtain ⟨k18, hk18, h1⟩ := bnd h1
            by_cases g19 : (!k18) = true
            · have h1 := iteP g19 h1
              refine .r [.b false, .b false, .b false, .b false, .b false, .b false, .b false, .b false, .b false, .b false, .b false, .b false, .b false, .b false, .b false, .b false, .b false, .call [] (bE k18) [], .b false, .b false, .b true, .b true, .b true, .b true, .b true, .b true, .b true, .b true] (A (decide_eq_false g15 : decide (¬ a0.kind = a1.kind) = false) (A (decide_eq_false g15 : decide (¬ a0.kind = a1.kind) = false) (A (decide_eq_false g15 : decide (¬ a0.kind = a1.kind) = false) (A (decide_eq_false g15 : decide (¬ a0.kind = a1.kind) = false) (A (decide_eq_false g15 : decide (¬ a0.kind = a1.kind) = false) (A (decide_eq_false g15 : decide (¬ a0.kind = a1.kind) = false) (A (decide_eq_false g16 : decide (¬ a0.name = a1.name) = false) (A (decide_eq_false g16 : decide (¬ a0.name = a1.name) = false) (A (decide_eq_false g16 : decide (¬ a0.name = a1.name) = false) (A (decide_eq_false g16 : decide (¬ a0.name = a1.name) = false) (A (decide_eq_false g16 : decide (¬ a0.name = a1.name) = false) (A (decide_eq_false g16 : decide (¬ a0.name = a1.name) = false) (A (decide_eq_false g17 : decide (¬ a0.n = a1.n) = false) (A (decide_eq_false g17 : decide (¬ a0.n = a1.n) = false) (A (decide_eq_false g17 : decide (¬ a0.n = a1.n) = false) (A (decide_eq_false g17 : decide (¬ a0.n = a1.n) = false) (A (A (decide_eq_false g17 : decide (¬ a0.n = a1.n) = false) (w_sp_l1Ints n _ _ hk18)) (A (decide_eq_false g17 : decide (¬ a0.n = a1.n) = false) (A (decide_eq_false g17 : decide (¬ a0.n = a1.n) = false) (A g19 (A g19 (A g19 (A g19 (A g19 (A g19 (A g19 (A g19 T))))))))))))))))))))))))))) [(41, bE true)] rfl (by kernel_rfl) ?_
              cases h1
              exact .lf hj1 rfl [] (by kernel_rfl)
            · have h1 := iteN g19 h1
              refine .r [.b false, .b false, .b false, .b false, .b false, .b false, .b false, .b false, .b false, .b false, .b false, .b false, .b false, .b false, .b false, .b false, .b false, .call [] (bE k18) [], .b false, .b false, .b false, .b false, .b false, .v (a0.kids.length : Int), .b false, .b false, .b false, .v (a1.kids.length : Int), .b false, .b false] (A (decide_eq_false g15 : decide (¬ a0.kind = a1.kind) = false) (A (decide_eq_false g15 : decide (¬ a0.kind = a1.kind) = false) (A (decide_eq_false g15 : decide (¬ a0.kind = a1.kind) = false) (A (decide_eq_false g15 : decide (¬ a0.kind = a1.kind) = false) (A (decide_eq_false g15 : decide (¬ a0.kind = a1.kind) = false) (A (decide_eq_false g15 : decide (¬ a0.kind = a1.kind) = false) (A (decide_eq_false g16 : decide (¬ a0.name = a1.name) = false) (A (decide_eq_false g16 : decide (¬ a0.name = a1.name) = false) (A (decide_eq_false g16 : decide (¬ a0.name = a1.name) = false) (A (decide_eq_false g16 : decide (¬ a0.name = a1.name) = false) (A (decide_eq_false g16 : decide (¬ a0.name = a1.name) = false) (A (decide_eq_false g16 : decide (¬ a0.name = a1.name) = false) (A (decide_eq_false g17 : decide (¬ a0.n = a1.n) = false) (A (decide_eq_false g17 : decide (¬ a0.n = a1.n) = false) (A (decide_eq_false g17 : decide (¬ a0.n = a1.n) = false) (A (decide_eq_false g17 : decide (¬ a0.n = a1.n) = false) (A (A (decide_eq_false g17 : decide (¬ a0.n = a1.n) = false) (w_sp_l1Ints n _ _ hk18)) (A (decide_eq_false g17 : decide (¬ a0.n = a1.n) = false) (A (decide_eq_false g17 : decide (¬ a0.n = a1.n) = false) (A (Bool.eq_false_iff.2 g19) (A (Bool.eq_false_iff.2 g19) (A (A (Bool.eq_false_iff.2 g19) (dForm.len' a0.kids)) (A (Bool.eq_false_iff.2 g19) (A (Bool.eq_false_iff.2 g19) (A (A (Bool.eq_false_iff.2 g19) (dForm.len' a1.kids)) (A (Bool.eq_false_iff.2 g19) (A (Bool.eq_false_iff.2 g19) T))))))))))))))))))))))))))) [(41, dE (¬ (a0.kids.length : Int) = (a1.kids.length : Int)))] rfl (by kernel_rfl) ?_
              cases h1
              exact .lf hj1 rfl [] (by kernel_rfl)
def sp_l1Count : Nat → Form → Option (Int)
  | 0, _ => none
  | n + 1, a0 => Option.bind (forL (fun (s2 : Int) (i1 : Nat) (x4 : Form) => (sp_l1Count n x4).bind fun k10 => some (w64 (s2 + k10))) 0 a0.kids 1) (fun (s2 : Int) => some s2)
theorem w_sp_l1Count (n : Nat) : ∀ (a0 : Form) {r : Int}, sp_l1Count n a0 = some r → SCall X.E 94 [aE (kForm a0)] [] (iE r) [] := by
  induction n with
  | zero => intro a0 r h; cases h
  | succ n ih =>
    intro a0 r h0
    rw [sp_l1Count] at h0
    refine .m Tryd.func94 rfl rfl rfl (by kernel_rfl) (fun L ks low K hl hL hlen hK => ?_)
    refine .rf [] T [(1, pw 1)] [.o 1 (.cells ((kForm a0).map .d))] rfl (by kernel_rfl) ?_
    refine .r [] T [(3, iE 1)] rfl (by kernel_rfl) ?_
    refine .r [] T [(4, iE 0)] rfl (by kernel_rfl) ?_
    refine .lL h0 rfl [1] (fun i1 s2 => [(3, iE s2), (4, iE (i1 : Int))]) n2 n2 [] (by kernel_rfl) (fun i1 s2 q3 hd5 hi7 h0 => ?_)
    refine .r [.v (a0.kids.length : Int)] (A (dForm.len' a0.kids) T) [(7, lE 5 (ksForm a0.kids)), (9, dE ((i1 : Int) < (a0.kids.length : Int)))] rfl (by kernel_rfl) ?_
    refine .sn 7 dForm a0.kids (by kernel_rfl) (fun hb8 => ?_)
    refine .lc hd5 rfl (by kernel_rfl) (fun x4 q32 hc9 hx4 hd6 hd6l => ?_) (fun hc9 => ?_)
    · subst hc9
      obtain ⟨y1, h1, hn1⟩ := forL_cons h0
      obtain ⟨k10, hk10, h1⟩ := bnd h1
      refine .r [.cs (kForm x4), .call [] (iE k10) [], .pl] (A (dForm.idn hx4) (A (ih _ hk10) T)) [(3, iE (w64 (s2 + k10)))] rfl (by kernel_rfl) ?_
      refine .r [.v ((i1 + 1 : Nat) : Int)] (A (wn (i := i1) (by omega)) T) [(4, iE ((i1 + 1 : Nat) : Int))] rfl (by kernel_rfl) ?_
      cases h1
      exact .nL rfl (i1 + 1) _ hd6 hd6l hn1 [] (by kernel_rfl)
    · subst hc9
      have h0 := forL_nil h0
      refine .r [] T [(2, iE s2)] rfl (by kernel_rfl) ?_
      cases h0
      exact .ret rfl rfl (by kernel_rfl) hK
def sp_l1Letter (n : Nat) (a0 : Int) (a1 : Bool) : Option (Bool) :=
  Option.bind ((if a0 ≥ 97 then (if a0 ≤ 122 then some true else (if a0 = 42 then some true else (if a0 = 63 then some true else (if a0 = 61 then some true else (if a0 = 43 then some true else some (decide (a0 = 60))))))) else (if a0 = 42 then some true else (if a0 = 63 then some true else (if a0 = 61 then some true else (if a0 = 43 then some true else some (decide (a0 = 60))))))) : Option (Bool)) (fun (o1 : Bool) => (if o1 = true then some true else Option.bind ((if (!a1) = true then (if a0 ≥ 48 then (if a0 ≤ 57 then some true else some (decide (a0 = 45))) else some (decide (a0 = 45))) else some false) : Option (Bool)) (fun (o3 : Bool) => some o3)))
theorem w_sp_l1Letter (n : Nat) : ∀ (a0 : Int) (a1 : Bool) {r : Bool}, sp_l1Letter n a0 a1 = some r → SCall X.E 92 [.d (.v (.int .u8 a0)), bE a1] [] (bE r) [] := by
  intro a0 a1 r h0
  rw [sp_l1Letter] at h0
  refine .m Tryd.func92 rfl rfl rfl (by kernel_rfl) (fun L ks low K hl hL hlen hK => ?_)
  refine .r [] T [] rfl (by kernel_rfl) ?_
  refine .bP h0 rfl [0, 1] (fun o1 => [(30, bE o1)]) n1 n1 (fun o1 h0 => ?_) (fun y1 h1 hj1 => ?_)
  · refine .cT h0 rfl (by kernel_rfl) (fun hc2 h0 => ?_) (fun hc2 h0 => ?_)
    · refine .r [] T [(4, bE true)] rfl (by kernel_rfl) ?_
      cases h0
      exact .ret rfl rfl (by kernel_rfl) hK
    · refine .bP h0 rfl [] (fun o3 => [(4, bE o3)]) n1 n1 (fun o3 h0 => ?_) (fun y1 h1 hj1 => ?_)
      · cases h0
        exact .ret rfl rfl (by kernel_rfl) hK
      · by_cases g4 : (!a1) = true
        · have h1 := iteP g4 h1
          by_cases g5 : a0 ≥ 48
          · have h1 := iteP g5 h1
            by_cases g6 : a0 ≤ 57
            · have h1 := iteP g6 h1
              refine .r [.b true, .b true, .b true, .b true, .b true, .b true, .b true, .b true, .b true, .b true, .b true, .b true, .b true] (A g4 (A g4 (A g4 (A (decide_eq_true g5 : decide (a0 ≥ 48) = true) (A (decide_eq_true g5 : decide (a0 ≥ 48) = true) (A (A g4 (decide_eq_true g5 : decide (a0 ≥ 48) = true)) (A g4 (A (decide_eq_true g6 : decide (a0 ≤ 57) = true) (A (decide_eq_true g6 : decide (a0 ≤ 57) = true) (A (A g4 (decide_eq_true g6 : decide (a0 ≤ 57) = true)) (A g4 T))))))))))) [(4, bE true)] rfl (by kernel_rfl) ?_
              cases h1
              exact .lf hj1 rfl [] (by kernel_rfl)
            · have h1 := iteN g6 h1
              refine .r [.b true, .b true, .b true, .b true, .b true, .b true, .b true, .b true, .b false, .b false, .b true, .b false, .b true] (A g4 (A g4 (A g4 (A (decide_eq_true g5 : decide (a0 ≥ 48) = true) (A (decide_eq_true g5 : decide (a0 ≥ 48) = true) (A (A g4 (decide_eq_true g5 : decide (a0 ≥ 48) = true)) (A g4 (A (decide_eq_false g6 : decide (a0 ≤ 57) = false) (A (decide_eq_false g6 : decide (a0 ≤ 57) = false) (A (A g4 (decide_eq_false g6 : decide (a0 ≤ 57) = false)) (A g4 T))))))))))) [(4, dE (a0 = 45))] rfl (by kernel_rfl) ?_
              cases h1
              exact .lf hj1 rfl [] (by kernel_rfl)
          · have h1 := iteN g5 h1
            refine .r [.b true, .b true, .b true, .b false, .b false, .b true, .b false, .b true, .b false, .b false, .b true, .b false, .b true] (A g4 (A g4 (A g4 (A (decide_eq_false g5 : decide (a0 ≥ 48) = false) (A (decide_eq_false g5 : decide (a0 ≥ 48) = false) (A (A g4 (decide_eq_false g5 : decide (a0 ≥ 48) = false)) (A g4 (A (rfl : false = false) (A (rfl : false = false) (A (A g4 (rfl : false = false)) (A g4 T))))))))))) [(4, dE (a0 = 45))] rfl (by kernel_rfl) ?_
            cases h1
            exact .lf hj1 rfl [] (by kernel_rfl)
        · have h1 := iteN g4 h1
          refine .r [.b false, .b false, .b false, .b false, .b false, .b false, .b false] (A (Bool.eq_false_iff.2 g4) (A (Bool.eq_false_iff.2 g4) (A (Bool.eq_false_iff.2 g4) (A (Bool.eq_false_iff.2 g4) (A (Bool.eq_false_iff.2 g4) (A (Bool.eq_false_iff.2 g4) (A (Bool.eq_false_iff.2 g4) T))))))) [(4, bE false)] rfl (by kernel_rfl) ?_
          cases h1
          exact .lf hj1 rfl [] (by kernel_rfl)
  · by_cases g7 : a0 ≥ 97
    · have h1 := iteP g7 h1
      by_cases g8 : a0 ≤ 122
      · have h1 := iteP g8 h1
        refine .r [.b true, .b true, .b true, .b true, .b true, .b true, .b true, .b true, .b true, .b true, .b true, .b true, .b true, .b true, .b true, .b true, .b true, .b true] (A (decide_eq_true g7 : decide (a0 ≥ 97) = true) (A (decide_eq_true g7 : decide (a0 ≥ 97) = true) (A (decide_eq_true g7 : decide (a0 ≥ 97) = true) (A (decide_eq_true g8 : decide (a0 ≤ 122) = true) (A (decide_eq_true g8 : decide (a0 ≤ 122) = true) (A (decide_eq_true g8 : decide (a0 ≤ 122) = true) (A (rfl : true = true) (A (rfl : true = true) (A (rfl : true = true) (A (rfl : true = true) (A (rfl : true = true) (A (rfl : true = true) (A (rfl : true = true) (A (rfl : true = true) (A (rfl : true = true) (A (rfl : true = true) (A (rfl : true = true) (A (rfl : true = true) T)))))))))))))))))) [(30, bE true)] rfl (by kernel_rfl) ?_
        cases h1
        exact .lf hj1 rfl [] (by kernel_rfl)
      · have h1 := iteN g8 h1
        by_cases g9 : a0 = 42
        · have h1 := iteP g9 h1
          refine .r [.b true, .b true, .b true, .b false, .b false, .b false, .b true, .b true, .b true, .b true, .b true, .b true, .b true, .b true, .b true, .b true, .b true, .b true] (A (decide_eq_true g7 : decide (a0 ≥ 97) = true) (A (decide_eq_true g7 : decide (a0 ≥ 97) = true) (A (decide_eq_true g7 : decide (a0 ≥ 97) = true) (A (decide_eq_false g8 : decide (a0 ≤ 122) = false) (A (decide_eq_false g8 : decide (a0 ≤ 122) = false) (A (decide_eq_false g8 : decide (a0 ≤ 122) = false) (A (decide_eq_true g9 : decide (a0 = 42) = true) (A (decide_eq_true g9 : decide (a0 = 42) = true) (A (decide_eq_true g9 : decide (a0 = 42) = true) (A (rfl : true = true) (A (rfl : true = true) (A (rfl : true = true) (A (rfl : true = true) (A (rfl : true = true) (A (rfl : true = true) (A (rfl : true = true) (A (rfl : true = true) (A (rfl : true = true) T)))))))))))))))))) [(30, bE true)] rfl (by kernel_rfl) ?_
          cases h1
          exact .lf hj1 rfl [] (by kernel_rfl)
        · have h1 := iteN g9 h1
          by_cases g10 : a0 = 63
          · have h1 := iteP g10 h1
            refine .r [.b true, .b true, .b true, .b false, .b false, .b false, .b false, .b false, .b false, .b true, .b true, .b true, .b true, .b true, .b true, .b true, .b true, .b true] (A (decide_eq_true g7 : decide (a0 ≥ 97) = true) (A (decide_eq_true g7 : decide (a0 ≥ 97) = true) (A (decide_eq_true g7 : decide (a0 ≥ 97) = true) (A (decide_eq_false g8 : decide (a0 ≤ 122) = false) (A (decide_eq_false g8 : decide (a0 ≤ 122) = false) (A (decide_eq_false g8 : decide (a0 ≤ 122) = false) (A (decide_eq_false g9 : decide (a0 = 42) = false) (A (decide_eq_false g9 : decide (a0 = 42) = false) (A (decide_eq_false g9 : decide (a0 = 42) = false) (A (decide_eq_true g10 : decide (a0 = 63) = true) (A (decide_eq_true g10 : decide (a0 = 63) = true) (A (decide_eq_true g10 : decide (a0 = 63) = true) (A (rfl : true = true) (A (rfl : true = true) (A (rfl : true = true) (A (rfl : true = true) (A (rfl : true = true) (A (rfl : true = true) T)))))))))))))))))) [(30, bE true)] rfl (by kernel_rfl) ?_
            cases h1
            exact .lf hj1 rfl [] (by kernel_rfl)
          · have h1 := iteN g10 h1
            by_cases g11 : a0 = 61
            · have h1 := iteP g11 h1
              refine .r [.b true, .b true, .b true, .b false, .b false, .b false, .b false, .b false, .b false, .b false, .b false, .b false, .b true, .b true, .b true, .b true, .b true, .b true] (A (decide_eq_true g7 : decide (a0 ≥ 97) = true) (A (decide_eq_true g7 : decide (a0 ≥ 97) = true) (A (decide_eq_true g7 : decide (a0 ≥ 97) = true) (A (decide_eq_false g8 : decide (a0 ≤ 122) = false) (A (decide_eq_false g8 : decide (a0 ≤ 122) = false) (A (decide_eq_false g8 : decide (a0 ≤ 122) = false) (A (decide_eq_false g9 : decide (a0 = 42) = false) (A (decide_eq_false g9 : decide (a0 = 42) = false) (A (decide_eq_false g9 : decide (a0 = 42) = false) (A (decide_eq_false g10 : decide (a0 = 63) = false) (A (decide_eq_false g10 : decide (a0 = 63) = false) (A (decide_eq_false g10 : decide (a0 = 63) = false) (A (decide_eq_true g11 : decide (a0 = 61) = true) (A (decide_eq_true g11 : decide (a0 = 61) = true) (A (decide_eq_true g11 : decide (a0 = 61) = true) (A (rfl : true = true) (A (rfl : true = true) (A (rfl : true = true) T)))))))))))))))))) [(30, bE true)] rfl (by kernel_rfl) ?_
              cases h1
              exact .lf hj1 rfl [] (by kernel_rfl)
            · have h1 := iteN g11 h1
              by_cases g12 : a0 = 43
              · have h1 := iteP g12 h1
                refine .r [.b true, .b true, .b true, .b false, .b false, .b false, .b false, .b false, .b false, .b false, .b false, .b false, .b false, .b false, .b false, .b true, .b true, .b true] (A (decide_eq_true g7 : decide (a0 ≥ 97) = true) (A (decide_eq_true g7 : decide (a0 ≥ 97) = true) (A (decide_eq_true g7 : decide (a0 ≥ 97) = true) (A (decide_eq_false g8 : decide (a0 ≤ 122) = false) (A (decide_eq_false g8 : decide (a0 ≤ 122) = false) (A (decide_eq_false g8 : decide (a0 ≤ 122) = false) (A (decide_eq_false g9 : decide (a0 = 42) = false) (A (decide_eq_false g9 : decide (a0 = 42) = false) (A (decide_eq_false g9 : decide (a0 = 42) = false) (A (decide_eq_false g10 : decide (a0 = 63) = false) (A (decide_eq_false g10 : decide (a0 = 63) = false) (A (decide_eq_false g10 : decide (a0 = 63) = false) (A (decide_eq_false g11 : decide (a0 = 61) = false) (A (decide_eq_false g11 : decide (a0 = 61) = false) (A (decide_eq_false g11 : decide (a0 = 61) = false) (A (decide_eq_true g12 : decide (a0 = 43) = true) (A (decide_eq_true g12 : decide (a0 = 43) = true) (A (decide_eq_true g12 : decide (a0 = 43) = true) T)))))))))))))))))) [(30, bE true)] rfl (by kernel_rfl) ?_
                cases h1
                exact .lf hj1 rfl [] (by kernel_rfl)
              · have h1 := iteN g12 h1
                refine .r [.b true, .b true, .b true, .b false, .b false, .b false, .b false, .b false, .b false, .b false, .b false, .b false, .b false, .b false, .b false, .b false, .b false, .b false] (A (decide_eq_true g7 : decide (a0 ≥ 97) = true) (A (decide_eq_true g7 : decide (a0 ≥ 97) = true) (A (decide_eq_true g7 : decide (a0 ≥ 97) = true) (A (decide_eq_false g8 : decide (a0 ≤ 122) = false) (A (decide_eq_false g8 : decide (a0 ≤ 122) = false) (A (decide_eq_false g8 : decide (a0 ≤ 122) = false) (A (decide_eq_false g9 : decide (a0 = 42) = false) (A (decide_eq_false g9 : decide (a0 = 42) = false) (A (decide_eq_false g9 : decide (a0 = 42) = false) (A (decide_eq_false g10 : decide (a0 = 63) = false) (A (decide_eq_false g10 : decide (a0 = 63) = false) (A (decide_eq_false g10 : decide (a0 = 63) = false) (A (decide_eq_false g11 : decide (a0 = 61) = false) (A (decide_eq_false g11 : decide (a0 = 61) = false) (A (decide_eq_false g11 : decide (a0 = 61) = false) (A (decide_eq_false g12 : decide (a0 = 43) = false) (A (decide_eq_false g12 : decide (a0 = 43) = false) (A (decide_eq_false g12 : decide (a0 = 43) = false) T)))))))))))))))))) [(30, dE (a0 = 60))] rfl (by kernel_rfl) ?_
                cases h1
                exact .lf hj1 rfl [] (by kernel_rfl)
    · have h1 := iteN g7 h1
      by_cases g13 : a0 = 42
      · have h1 := iteP g13 h1
        refine .r [.b false, .b false, .b false, .b false, .b false, .b false, .b true, .b true, .b true, .b true, .b true, .b true, .b true, .b true, .b true, .b true, .b true, .b true] (A (decide_eq_false g7 : decide (a0 ≥ 97) = false) (A (decide_eq_false g7 : decide (a0 ≥ 97) = false) (A (decide_eq_false g7 : decide (a0 ≥ 97) = false) (A (rfl : false = false) (A (rfl : false = false) (A (rfl : false = false) (A (decide_eq_true g13 : decide (a0 = 42) = true) (A (decide_eq_true g13 : decide (a0 = 42) = true) (A (decide_eq_true g13 : decide (a0 = 42) = true) (A (rfl : true = true) (A (rfl : true = true) (A (rfl : true = true) (A (rfl : true = true) (A (rfl : true = true) (A (rfl : true = true) (A (rfl : true = true) (A (rfl : true = true) (A (rfl : true = true) T)))))))))))))))))) [(30, bE true)] rfl (by kernel_rfl) ?_
        cases h1
        exact .lf hj1 rfl [] (by kernel_rfl)
      · have h1 := iteN g13 h1
        by_cases g14 : a0 = 63
        · have h1 := iteP g14 h1
          refine .r [.b false, .b false, .b false, .b false, .b false, .b false, .b false, .b false, .b false, .b true, .b true, .b true, .b true, .b true, .b true, .b true, .b true, .b true] (A (decide_eq_false g7 : decide (a0 ≥ 97) = false) (A (decide_eq_false g7 : decide (a0 ≥ 97) = false) (A (decide_eq_false g7 : decide (a0 ≥ 97) = false) (A (rfl : false = false) (A (rfl : false = false) (A (rfl : false = false) (A (decide_eq_false g13 : decide (a0 = 42) = false) (A (decide_eq_false g13 : decide (a0 = 42) = false) (A (decide_eq_false g13 : decide (a0 = 42) = false) (A (decide_eq_true g14 : decide (a0 = 63) = true) (A (decide_eq_true g14 : decide (a0 = 63) = true) (A (decide_eq_true g14 : decide (a0 = 63) = true) (A (rfl : true = true) (A (rfl : true = true) (A (rfl : true = true) (A (rfl : true = true) (A (rfl : true = true) (A (rfl : true = true) T)))))))))))))))))) [(30, bE true)] rfl (by kernel_rfl) ?_
          cases h1
          exact .lf hj1 rfl [] (by kernel_rfl)
        · have h1 := iteN g14 h1
          by_cases g15 : a0 = 61
          · have h1 := iteP g15 h1
            refine .r [.b false, .b false, .b false, .b false, .b false, .b false, .b false, .b false, .b false, .b false, .b false, .b false, .b true, .b true, .b true, .b true, .b true, .b true] (A (decide_eq_false g7 : decide (a0 ≥ 97) = false) (A (decide_eq_false g7 : decide (a0 ≥ 97) = false) (A (decide_eq_false g7 : decide (a0 ≥ 97) = false) (A (rfl : false = false) (A (rfl : false = false) (A (rfl : false = false) (A (decide_eq_false g13 : decide (a0 = 42) = false) (A (decide_eq_false g13 : decide (a0 = 42) = false) (A (decide_eq_false g13 : decide (a0 = 42) = false) (A (decide_eq_false g14 : decide (a0 = 63) = false) (A (decide_eq_false g14 : decide (a0 = 63) = false) (A (decide_eq_false g14 : decide (a0 = 63) = false) (A (decide_eq_true g15 : decide (a0 = 61) = true) (A (decide_eq_true g15 : decide (a0 = 61) = true) (A (decide_eq_true g15 : decide (a0 = 61) = true) (A (rfl : true = true) (A (rfl : true = true) (A (rfl : true = true) T)))))))))))))))))) [(30, bE true)] rfl (by kernel_rfl) ?_
            cases h1
            exact .lf hj1 rfl [] (by kernel_rfl)
          · have h1 := iteN g15 h1
            by_cases g16 : a0 = 43
            · have h1 := iteP g16 h1
              refine .r [.b false, .b false, .b false, .b false, .b false, .b false, .b false, .b false, .b false, .b false, .b false, .b false, .b false, .b false, .b false, .b true, .b true, .b true] (A (decide_eq_false g7 : decide (a0 ≥ 97) = false) (A (decide_eq_false g7 : decide (a0 ≥ 97) = false) (A (decide_eq_false g7 : decide (a0 ≥ 97) = false) (A (rfl : false = false) (A (rfl : false = false) (A (rfl : false = false) (A (decide_eq_false g13 : decide (a0 = 42) = false) (A (decide_eq_false g13 : decide (a0 = 42) = false) (A (decide_eq_false g13 : decide (a0 = 42) = false) (A (decide_eq_false g14 : decide (a0 = 63) = false) (A (decide_eq_false g14 : decide (a0 = 63) = false) (A (decide_eq_false g14 : decide (a0 = 63) = false) (A (decide_eq_false g15 : decide (a0 = 61) = false) (A (decide_eq_false g15 : decide (a0 = 61) = false) (A (decide_eq_false g15 : decide (a0 = 61) = false) (A (decide_eq_true g16 : decide (a0 = 43) = true) (A (decide_eq_true g16 : decide (a0 = 43) = true) (A (decide_eq_true g16 : decide (a0 = 43) = true) T)))))))))))))))))) [(30, bE true)] rfl (by kernel_rfl) ?_
              cases h1
              exact .lf hj1 rfl [] (by kernel_rfl)
            · have h1 := iteN g16 h1
              refine .r [.b false, .b false, .b false, .b false, .b false, .b false, .b false, .b false, .b false, .b false, .b false, .b false, .b false, .b false, .b false, .b false, .b false, .b false] (A (decide_eq_false g7 : decide (a0 ≥ 97) = false) (A (decide_eq_false g7 : decide (a0 ≥ 97) = false) (A (decide_eq_false g7 : decide (a0 ≥ 97) = false) (A (rfl : false = false) (A (rfl : false = false) (A (rfl : false = false) (A (decide_eq_false g13 : decide (a0 = 42) = false) (A (decide_eq_false g13 : decide (a0 = 42) = false) (A (decide_eq_false g13 : decide (a0 = 42) = false) (A (decide_eq_false g14 : decide (a0 = 63) = false) (A (decide_eq_false g14 : decide (a0 = 63) = false) (A (decide_eq_false g14 : decide (a0 = 63) = false) (A (decide_eq_false g15 : decide (a0 = 61) = false) (A (decide_eq_false g15 : decide (a0 = 61) = false) (A (decide_eq_false g15 : decide (a0 = 61) = false) (A (decide_eq_false g16 : decide (a0 = 43) = false) (A (decide_eq_false g16 : decide (a0 = 43) = false) (A (decide_eq_false g16 : decide (a0 = 43) = false) T)))))))))))))))))) [(30, dE (a0 = 60))] rfl (by kernel_rfl) ?_
              cases h1
              exact .lf hj1 rfl [] (by kernel_rfl)
def sp_NameValid (n : Nat) (a0 : List UInt8) : Option (Bool) :=
  Option.bind ((if a0 = [46, 46, 46] then some true else some (decide (a0 = [95]))) : Option (Bool)) (fun (o1 : Bool) => (if o1 = true then some true else iterM n (fun (s3 : Int) => (Option.bind ((if s3 < (a0.length : Int) then some (decide (s3 ≤ 12)) else some false) : Option (Bool)) (fun (o5 : Bool) => (if o5 = true then (atI a0 s3).bind fun y7 => (sp_l1Letter n (y7.toNat : Int) (decide (s3 = 0))).bind fun k8 => (if (!k8) = true then some (Sum.inl false) else some (Sum.inr (w64 (s3 + 1)))) else Option.bind ((if (a0.length : Int) ≥ 1 then some (decide ((a0.length : Int) ≤ 12)) else some false) : Option (Bool)) (fun (o10 : Bool) => some (Sum.inl o10)))) : Option (Bool ⊕ Int))) 0))
theorem w_sp_NameValid (n : Nat) : ∀ (a0 : List UInt8) {r : Bool}, sp_NameValid n a0 = some r → SCall X.E 84 [sE a0] [] (bE r) [] := by
  intro a0 r h0
  rw [sp_NameValid] at h0
  refine .m Tryd.func84 rfl rfl rfl (by kernel_rfl) (fun L ks low K hl hL hlen hK => ?_)
  refine .r [] T [] rfl (by kernel_rfl) ?_
  refine .bP h0 rfl [0] (fun o1 => [(9, bE o1)]) n1 n1 (fun o1 h0 => ?_) (fun y1 h1 hj1 => ?_)
  · refine .cT h0 rfl (by kernel_rfl) (fun hc2 h0 => ?_) (fun hc2 h0 => ?_)
    · refine .r [] T [(2, bE true)] rfl (by kernel_rfl) ?_
      cases h0
      exact .ret rfl rfl (by kernel_rfl) hK
    · refine .r [] T [(3, iE 0)] rfl (by kernel_rfl) ?_
      refine .it h0 rfl [0] (fun s3 => [(3, iE s3)]) n1 n1 [] (by kernel_rfl) (fun n4 s3 h0 => ?_)
      obtain ⟨y1, h1, hw1, hn1⟩ := iter_cons h0
      refine .bP h1 rfl [0, 3] (fun o5 => [(17, bE o5)]) n1 n1 (fun o5 h1 => ?_) (fun y2 h2 hj2 => ?_)
      · refine .cT h1 rfl (by kernel_rfl) (fun hc6 h1 => ?_) (fun hc6 h1 => ?_)
        · obtain ⟨y7, hy7, h1⟩ := bnd h1
          obtain ⟨k8, hk8, h1⟩ := bnd h1
          refine .r [.by_ y7, .call [] (bE k8) []] (A (idy hy7) (A (w_sp_l1Letter n _ _ hk8) T)) [(26, bE (!k8))] rfl (by kernel_rfl) ?_
          refine .cT h1 rfl (by kernel_rfl) (fun hc9 h1 => ?_) (fun hc9 h1 => ?_)
          · refine .r [] T [(2, bE false)] rfl (by kernel_rfl) ?_
            cases h1
            cases hw1 _ rfl
            exact .ret rfl rfl (by kernel_rfl) hK
          · refine .r [.pl] T [(3, iE (w64 (s3 + 1)))] rfl (by kernel_rfl) ?_
            cases h1
            exact .nI rfl _ (hn1 _ rfl) [] (by kernel_rfl)
        · refine .bP h1 rfl [] (fun o10 => [(2, bE o10)]) n1 n1 (fun o10 h1 => ?_) (fun y2 h2 hj2 => ?_)
          · cases h1
            cases hw1 _ rfl
            exact .ret rfl rfl (by kernel_rfl) hK
          · by_cases g11 : (a0.length : Int) ≥ 1
            · have h2 := iteP g11 h2
              refine .r [.b true, .b true, .b true, .b true] (A (decide_eq_true g11 : decide ((a0.length : Int) ≥ 1) = true) (A (decide_eq_true g11 : decide ((a0.length : Int) ≥ 1) = true) (A (decide_eq_true g11 : decide ((a0.length : Int) ≥ 1) = true) (A (decide_eq_true g11 : decide ((a0.length : Int) ≥ 1) = true) T)))) [(2, dE ((a0.length : Int) ≤ 12))] rfl (by kernel_rfl) ?_
              cases h2
              exact .lf hj2 rfl [] (by kernel_rfl)
            · have h2 := iteN g11 h2
              refine .r [.b false, .b false, .b false, .b false] (A (decide_eq_false g11 : decide ((a0.length : Int) ≥ 1) = false) (A (decide_eq_false g11 : decide ((a0.length : Int) ≥ 1) = false) (A (decide_eq_false g11 : decide ((a0.length : Int) ≥ 1) = false) (A (decide_eq_false g11 : decide ((a0.length : Int) ≥ 1) = false) T)))) [(2, bE false)] rfl (by kernel_rfl) ?_
              cases h2
              exact .lf hj2 rfl [] (by kernel_rfl)
      · by_cases g12 : s3 < (a0.length : Int)
        · have h2 := iteP g12 h2
          refine .r [.b true, .b true, .b true] (A (decide_eq_true g12 : decide (s3 < (a0.length : Int)) = true) (A (decide_eq_true g12 : decide (s3 < (a0.length : Int)) = true) (A (decide_eq_true g12 : decide (s3 < (a0.length : Int)) = true) T))) [(17, dE (s3 ≤ 12))] rfl (by kernel_rfl) ?_
          cases h2
          exact .lf hj2 rfl [] (by kernel_rfl)
        · have h2 := iteN g12 h2
          refine .r [.b false, .b false, .b false] (A (decide_eq_false g12 : decide (s3 < (a0.length : Int)) = false) (A (decide_eq_false g12 : decide (s3 < (a0.length : Int)) = false) (A (decide_eq_false g12 : decide (s3 < (a0.length : Int)) = false) T))) [(17, bE false)] rfl (by kernel_rfl) ?_
          cases h2
          exact .lf hj2 rfl [] (by kernel_rfl)
  · by_cases g13 : a0 = [46, 46, 46]
    · have h1 := iteP g13 h1
      refine .r [.b true, .b true, .b true] (A (decide_eq_true g13 : decide (a0 = [46, 46, 46]) = true) (A (decide_eq_true g13 : decide (a0 = [46, 46, 46]) = true) (A (decide_eq_true g13 : decide (a0 = [46, 46, 46]) = true) T))) [(9, bE true)] rfl (by kernel_rfl) ?_
      cases h1
      exact .lf hj1 rfl [] (by kernel_rfl)
    · have h1 := iteN g13 h1
      refine .r [.b false, .b false, .b false] (A (decide_eq_false g13 : decide (a0 = [46, 46, 46]) = false) (A (decide_eq_false g13 : decide (a0 = [46, 46, 46]) = false) (A (decide_eq_false g13 : decide (a0 = [46, 46, 46]) = false) T))) [(9, dE (a0 = [95]))] rfl (by kernel_rfl) ?_
      cases h1
      exact .lf hj1 rfl [] (by kernel_rfl)
def sp_l1Scopes (n : Nat) (a0 : List Int) : Option (Bool) :=
  iterM n (fun (s1 : Int) => (Option.bind ((if s1 < (a0.length : Int) then some (decide (s1 ≤ 24)) else some false) : Option (Bool)) (fun (o3 : Bool) => (if o3 = true then Option.bind ((atI a0 s1).bind fun e7 => (if e7 < 1 then some true else (if e7 > 99 then some true else (if s1 > 0 then (atI a0 (w64 (s1 - 1))).bind fun e11 => some (decide (e7 ≤ e11)) else some false))) : Option (Bool)) (fun (o5 : Bool) => (if o5 = true then some (Sum.inl false) else some (Sum.inr (w64 (s1 + 1))))) else some (Sum.inl (decide ((a0.length : Int) ≤ 24))))) : Option (Bool ⊕ Int))) 0
theorem w_sp_l1Scopes (n : Nat) : ∀ (a0 : List Int) {r : Bool}, sp_l1Scopes n a0 = some r → SCall X.E 108 [lE 1 (ksInt a0)] [] (bE r) [] := by
  intro a0 r h0
  rw [sp_l1Scopes] at h0
  refine .m Tryd.func108 rfl rfl rfl (by kernel_rfl) (fun L ks low K hl hL hlen hK => ?_)
  refine .r [] T [] rfl (by kernel_rfl) ?_
  refine .r [] T [(3, iE 0)] rfl (by kernel_rfl) ?_
  refine .it h0 rfl [0] (fun s1 => [(3, iE s1)]) n1 n1 [] (by kernel_rfl) (fun n2 s1 h0 => ?_)
  obtain ⟨y1, h1, hw1, hn1⟩ := iter_cons h0
  refine .bP h1 rfl [0, 3] (fun o3 => [(11, bE o3)]) n1 n1 (fun o3 h1 => ?_) (fun y2 h2 hj2 => ?_)
  · refine .cT h1 rfl (by kernel_rfl) (fun hc4 h1 => ?_) (fun hc4 h1 => ?_)
    · refine .bP h1 rfl [0, 3] (fun o5 => [(41, bE o5)]) n1 n1 (fun o5 h1 => ?_) (fun y2 h2 hj2 => ?_)
      · refine .cT h1 rfl (by kernel_rfl) (fun hc6 h1 => ?_) (fun hc6 h1 => ?_)
        · refine .r [] T [(2, bE false)] rfl (by kernel_rfl) ?_
          cases h1
          cases hw1 _ rfl
          exact .ret rfl rfl (by kernel_rfl) hK
        · refine .r [.pl] T [(3, iE (w64 (s1 + 1)))] rfl (by kernel_rfl) ?_
          cases h1
          exact .nI rfl _ (hn1 _ rfl) [] (by kernel_rfl)
      · obtain ⟨e7, he7, h2⟩ := bnd h2
        by_cases g8 : e7 < 1
        · have h2 := iteP g8 h2
          refine .rd mixed [(2, [.cs [.v (.int .i64 e7)]]), (6, [.b true]), (7, [.b true]), (8, [.b true]), (9, [.b true]), (10, [.b true]), (11, [.b true]), (13, [.b true]), (14, [.b true]), (15, [.b true]), (26, [.b true]), (27, [.b true])] [] (A (dInt.idx he7) (A (decide_eq_true g8 : decide (e7 < 1) = true) (A (decide_eq_true g8 : decide (e7 < 1) = true) (A (decide_eq_true g8 : decide (e7 < 1) = true) (A (decide_eq_true g8 : decide (e7 < 1) = true) (A (decide_eq_true g8 : decide (e7 < 1) = true) (A (decide_eq_true g8 : decide (e7 < 1) = true) (A (rfl : true = true) (A (rfl : true = true) (A (rfl : true = true) (A (rfl : true = true) (A (rfl : true = true) T)))))))))))) [(41, bE true)] [] [] rfl (by kernel_rfl) ?_
          cases h2
          exact .lf hj2 rfl [] (by kernel_rfl)
        · have h2 := iteN g8 h2
          by_cases g9 : e7 > 99
          · have h2 := iteP g9 h2
            refine .rd mixed [(2, [.cs [.v (.int .i64 e7)]]), (6, [.b false]), (7, [.b false]), (8, [.b false, .cs [.v (.int .i64 e7)]]), (9, [.b false]), (10, [.b false]), (11, [.b false]), (13, [.b true]), (14, [.b true]), (15, [.b true]), (26, [.b true]), (27, [.b true])] [] (A (dInt.idx he7) (A (decide_eq_false g8 : decide (e7 < 1) = false) (A (decide_eq_false g8 : decide (e7 < 1) = false) (A (A (decide_eq_false g8 : decide (e7 < 1) = false) (dInt.idx he7)) (A (decide_eq_false g8 : decide (e7 < 1) = false) (A (decide_eq_false g8 : decide (e7 < 1) = false) (A (decide_eq_false g8 : decide (e7 < 1) = false) (A (decide_eq_true g9 : decide (e7 > 99) = true) (A (decide_eq_true g9 : decide (e7 > 99) = true) (A (decide_eq_true g9 : decide (e7 > 99) = true) (A (decide_eq_true g9 : decide (e7 > 99) = true) (A (decide_eq_true g9 : decide (e7 > 99) = true) T)))))))))))) [(41, bE true)] [] [] rfl (by kernel_rfl) ?_
            cases h2
            exact .lf hj2 rfl [] (by kernel_rfl)
          · have h2 := iteN g9 h2
            by_cases g10 : s1 > 0
            · have h2 := iteP g10 h2
              obtain ⟨e11, he11, h2⟩ := bnd h2
              refine .rd mixed [(2, [.cs [.v (.int .i64 e7)]]), (6, [.b false]), (7, [.b false]), (8, [.b false, .cs [.v (.int .i64 e7)]]), (9, [.b false]), (10, [.b false]), (11, [.b false]), (13, [.b false]), (14, [.b false]), (15, [.b false]), (16, [.b true]), (17, [.b true]), (18, [.b true, .cs [.v (.int .i64 e7)]]), (19, [.b true]), (20, [.b true]), (21, [.b true]), (22, [.b true, .pl]), (23, [.b true, .cs [.v (.int .i64 e11)]]), (24, [.b true]), (25, [.b true]), (26, [.b false, .b true]), (27, [.b false])] [] (A (dInt.idx he7) (A (decide_eq_false g8 : decide (e7 < 1) = false) (A (decide_eq_false g8 : decide (e7 < 1) = false) (A (A (decide_eq_false g8 : decide (e7 < 1) = false) (dInt.idx he7)) (A (decide_eq_false g8 : decide (e7 < 1) = false) (A (decide_eq_false g8 : decide (e7 < 1) = false) (A (decide_eq_false g8 : decide (e7 < 1) = false) (A (decide_eq_false g9 : decide (e7 > 99) = false) (A (decide_eq_false g9 : decide (e7 > 99) = false) (A (decide_eq_false g9 : decide (e7 > 99) = false) (A (decide_eq_true g10 : decide (s1 > 0) = true) (A (decide_eq_true g10 : decide (s1 > 0) = true) (A (A (decide_eq_true g10 : decide (s1 > 0) = true) (dInt.idx he7)) (A (decide_eq_true g10 : decide (s1 > 0) = true) (A (decide_eq_true g10 : decide (s1 > 0) = true) (A (decide_eq_true g10 : decide (s1 > 0) = true) (A (decide_eq_true g10 : decide (s1 > 0) = true) (A (A (decide_eq_true g10 : decide (s1 > 0) = true) (dInt.idx he11)) (A (decide_eq_true g10 : decide (s1 > 0) = true) (A (decide_eq_true g10 : decide (s1 > 0) = true) (A (A (decide_eq_false g9 : decide (e7 > 99) = false) (decide_eq_true g10 : decide (s1 > 0) = true)) (A (decide_eq_false g9 : decide (e7 > 99) = false) T)))))))))))))))))))))) [(41, dE (e7 ≤ e11))] [] [] rfl (by kernel_rfl) ?_
              cases h2
              exact .lf hj2 rfl [] (by kernel_rfl)
            · have h2 := iteN g10 h2
              refine .rd mixed [(2, [.cs [.v (.int .i64 e7)]]), (6, [.b false]), (7, [.b false]), (8, [.b false, .cs [.v (.int .i64 e7)]]), (9, [.b false]), (10, [.b false]), (11, [.b false]), (13, [.b false]), (14, [.b false]), (15, [.b false]), (16, [.b false]), (17, [.b false]), (18, [.b false]), (19, [.b false]), (20, [.b false]), (21, [.b false]), (22, [.b false]), (23, [.b false]), (24, [.b false]), (25, [.b false]), (26, [.b false, .b false]), (27, [.b false])] [] (A (dInt.idx he7) (A (decide_eq_false g8 : decide (e7 < 1) = false) (A (decide_eq_false g8 : decide (e7 < 1) = false) (A (A (decide_eq_false g8 : decide (e7 < 1) = false) (dInt.idx he7)) (A (decide_eq_false g8 : decide (e7 < 1) = false) (A (decide_eq_false g8 : decide (e7 < 1) = false) (A (decide_eq_false g8 : decide (e7 < 1) = false) (A (decide_eq_false g9 : decide (e7 > 99) = false) (A (decide_eq_false g9 : decide (e7 > 99) = false) (A (decide_eq_false g9 : decide (e7 > 99) = false) (A (decide_eq_false g10 : decide (s1 > 0) = false) (A (decide_eq_false g10 : decide (s1 > 0) = false) (A (decide_eq_false g10 : decide (s1 > 0) = false) (A (decide_eq_false g10 : decide (s1 > 0) = false) (A (decide_eq_false g10 : decide (s1 > 0) = false) (A (decide_eq_false g10 : decide (s1 > 0) = false) (A (decide_eq_false g10 : decide (s1 > 0) = false) (A (decide_eq_false g10 : decide (s1 > 0) = false) (A (decide_eq_false g10 : decide (s1 > 0) = false) (A (decide_eq_false g10 : decide (s1 > 0) = false) (A (A (decide_eq_false g9 : decide (e7 > 99) = false) (decide_eq_false g10 : decide (s1 > 0) = false)) (A (decide_eq_false g9 : decide (e7 > 99) = false) T)))))))))))))))))))))) [(41, bE false)] [] [] rfl (by kernel_rfl) ?_
              cases h2
              exact .lf hj2 rfl [] (by kernel_rfl)
    · refine .r [.v (a0.length : Int)] (A (dInt.len' a0) T) [(2, dE ((a0.length : Int) ≤ 24))] rfl (by kernel_rfl) ?_
      refine .sn 0 dInt a0 (by kernel_rfl) (fun hb12 => ?_)
      cases h1
      cases hw1 _ rfl
      exact .ret rfl rfl (by kernel_rfl) hK
  · by_cases g13 : s1 < (a0.length : Int)
    · have h2 := iteP g13 h2
      refine .r [.v (a0.length : Int), .b true, .b true, .b true] (A (dInt.len' a0) (A (decide_eq_true g13 : decide (s1 < (a0.length : Int)) = true) (A (decide_eq_true g13 : decide (s1 < (a0.length : Int)) = true) (A (decide_eq_true g13 : decide (s1 < (a0.length : Int)) = true) T)))) [(11, dE (s1 ≤ 24))] rfl (by kernel_rfl) ?_
      refine .sn 0 dInt a0 (by kernel_rfl) (fun hb14 => ?_)
      cases h2
      exact .lf hj2 rfl [] (by kernel_rfl)
    · have h2 := iteN g13 h2
      refine .r [.v (a0.length : Int), .b false, .b false, .b false] (A (dInt.len' a0) (A (decide_eq_false g13 : decide (s1 < (a0.length : Int)) = false) (A (decide_eq_false g13 : decide (s1 < (a0.length : Int)) = false) (A (decide_eq_false g13 : decide (s1 < (a0.length : Int)) = false) T)))) [(11, bE false)] rfl (by kernel_rfl) ?_
      refine .sn 0 dInt a0 (by kernel_rfl) (fun hb15 => ?_)
      cases h2
      exact .lf hj2 rfl [] (by kernel_rfl)
def sp_l1Is : Nat → Form → Int → Option (Bool)
  | 0, _, _ => none
  | n + 1, a0, a1 => (if a1 = 0 then some false else (if a0.kind = 1 then Option.bind ((sp_NameValid n a0.name).bind fun k4 => (if k4 = true then (if a0.n = 0 then (sp_l1Scopes n a0.scopes).bind fun k7 => (if k7 = true then some (decide ((a0.kids.length : Int) = 0)) else some false) else some false) else some false) : Option (Bool)) (fun (o3 : Bool) => some o3) else (if a0.kind = 2 then Option.bind ((if a0.name = [] then (if a0.n ≥ 0 then (if a0.n ≤ 999 then (if (a0.scopes.length : Int) = 0 then some (decide ((a0.kids.length : Int) = 0)) else some false) else some false) else some false) else some false) : Option (Bool)) (fun (o10 : Bool) => some o10) else Option.bind ((if ¬ a0.kind = 3 then some true else (if ¬ a0.name = [] then some true else (if ¬ a0.n = 0 then some true else some (decide (¬ (a0.scopes.length : Int) = 0))))) : Option (Bool)) (fun (o15 : Bool) => (if o15 = true then some false else seqS (forI (fun (s18 : Unit) (i17 : Nat) (x20 : Form) => ((sp_l1Is n x20 (w64 (a1 - 1))).bind fun k26 => (if (!k26) = true then some (Sum.inl false) else some (Sum.inr ())) : Option (Bool ⊕ Unit))) 0 a0.kids ()) (fun (s18 : Unit) => some true))))))
theorem w_sp_l1Is (n : Nat) : ∀ (a0 : Form) (a1 : Int) {r : Bool}, sp_l1Is n a0 a1 = some r → SCall X.E 93 [aE (kForm a0), iE a1] [] (bE r) [] := by
  induction n with
  | zero => intro a0 a1 r h; cases h
  | succ n ih =>
    intro a0 a1 r h0
    rw [sp_l1Is] at h0
    refine .m Tryd.func93 rfl rfl rfl (by kernel_rfl) (fun L ks low K hl hL hlen hK => ?_)
    refine .rf [] T [(2, pw 2)] [.o 2 (.cells ((kForm a0).map .d))] rfl (by kernel_rfl) ?_
    refine .r [] T [(7, dE (a1 = 0))] rfl (by kernel_rfl) ?_
    refine .cP h0 rfl (by kernel_rfl) (fun hc1 h0 => ?_) (fun hc1 h0 => ?_)
    · refine .r [] T [(4, bE false)] rfl (by kernel_rfl) ?_
      cases h0
      exact .ret rfl rfl (by kernel_rfl) hK
    · refine .r [] T [(9, iE a0.kind)] rfl (by kernel_rfl) ?_
      refine .r [] T [(10, dE (a0.kind = 1))] rfl (by kernel_rfl) ?_
      refine .cP h0 rfl (by kernel_rfl) (fun hc2 h0 => ?_) (fun hc2 h0 => ?_)
      · refine .bP h0 rfl [] (fun o3 => [(4, bE o3)]) n1 n1 (fun o3 h0 => ?_) (fun y1 h1 hj1 => ?_)
        · cases h0
          exact .ret rfl rfl (by kernel_rfl) hK
        · obtain ⟨k4, hk4, h1⟩ := bnd h1
          by_cases g5 : k4 = true
          · have h1 := iteP g5 h1
            by_cases g6 : a0.n = 0
            · have h1 := iteP g6 h1
              obtain ⟨k7, hk7, h1⟩ := bnd h1
              by_cases g8 : k7 = true
              · have h1 := iteP g8 h1
                refine .r [.call [] (bE k4) [], .b true, .b true, .b true, .b true, .b true, .b true, .b true, .call [] (bE k7) [], .b true, .b true, .b true, .b true, .v (a0.kids.length : Int), .b true, .b true] (A (w_sp_NameValid n _ hk4) (A g5 (A g5 (A g5 (A g5 (A (decide_eq_true g6 : decide (a0.n = 0) = true) (A (decide_eq_true g6 : decide (a0.n = 0) = true) (A (A (decide_eq_true g6 : decide (a0.n = 0) = true) (w_sp_l1Scopes n _ hk7)) (A (decide_eq_true g6 : decide (a0.n = 0) = true) (A g8 (A g8 (A (A g8 (dForm.len' a0.kids)) (A g8 (A g8 T)))))))))))))) [(4, dE ((a0.kids.length : Int) = 0))] rfl (by kernel_rfl) ?_
                cases h1
                exact .lf hj1 rfl [] (by kernel_rfl)
              · have h1 := iteN g8 h1
                refine .r [.call [] (bE k4) [], .b true, .b true, .b true, .b true, .b true, .b true, .b true, .call [] (bE k7) [], .b true, .b false, .b false, .b false, .b false, .b false] (A (w_sp_NameValid n _ hk4) (A g5 (A g5 (A g5 (A g5 (A (decide_eq_true g6 : decide (a0.n = 0) = true) (A (decide_eq_true g6 : decide (a0.n = 0) = true) (A (A (decide_eq_true g6 : decide (a0.n = 0) = true) (w_sp_l1Scopes n _ hk7)) (A (decide_eq_true g6 : decide (a0.n = 0) = true) (A (Bool.eq_false_iff.2 g8) (A (Bool.eq_false_iff.2 g8) (A (Bool.eq_false_iff.2 g8) (A (Bool.eq_false_iff.2 g8) (A (Bool.eq_false_iff.2 g8) T)))))))))))))) [(4, bE false)] rfl (by kernel_rfl) ?_
                cases h1
                exact .lf hj1 rfl [] (by kernel_rfl)
            · have h1 := iteN g6 h1
              refine .r [.call [] (bE k4) [], .b true, .b true, .b true, .b true, .b false, .b false, .b false, .b false, .b false, .b false, .b false, .b false, .b false] (A (w_sp_NameValid n _ hk4) (A g5 (A g5 (A g5 (A g5 (A (decide_eq_false g6 : decide (a0.n = 0) = false) (A (decide_eq_false g6 : decide (a0.n = 0) = false) (A (decide_eq_false g6 : decide (a0.n = 0) = false) (A (decide_eq_false g6 : decide (a0.n = 0) = false) (A (rfl : false = false) (A (rfl : false = false) (A (rfl : false = false) (A (rfl : false = false) (A (rfl : false = false) T)))))))))))))) [(4, bE false)] rfl (by kernel_rfl) ?_
              cases h1
              exact .lf hj1 rfl [] (by kernel_rfl)
          · have h1 := iteN g5 h1
            refine .r [.call [] (bE k4) [], .b false, .b false, .b false, .b false, .b false, .b false, .b false, .b false, .b false, .b false, .b false, .b false, .b false] (A (w_sp_NameValid n _ hk4) (A (Bool.eq_false_iff.2 g5) (A (Bool.eq_false_iff.2 g5) (A (Bool.eq_false_iff.2 g5) (A (Bool.eq_false_iff.2 g5) (A (rfl : false = false) (A (rfl : false = false) (A (rfl : false = false) (A (rfl : false = false) (A (rfl : false = false) (A (rfl : false = false) (A (rfl : false = false) (A (rfl : false = false) (A (rfl : false = false) T)))))))))))))) [(4, bE false)] rfl (by kernel_rfl) ?_
            cases h1
            exact .lf hj1 rfl [] (by kernel_rfl)
      · refine .r [] T [(31, dE (a0.kind = 2))] rfl (by kernel_rfl) ?_
        refine .cP h0 rfl (by kernel_rfl) (fun hc9 h0 => ?_) (fun hc9 h0 => ?_)
        · refine .bP h0 rfl [] (fun o10 => [(4, bE o10)]) n1 n1 (fun o10 h0 => ?_) (fun y1 h1 hj1 => ?_)
          · cases h0
            exact .ret rfl rfl (by kernel_rfl) hK
          · by_cases g11 : a0.name = []
            · have h1 := iteP g11 h1
              by_cases g12 : a0.n ≥ 0
              · have h1 := iteP g12 h1
                by_cases g13 : a0.n ≤ 999
                · have h1 := iteP g13 h1
                  by_cases g14 : (a0.scopes.length : Int) = 0
                  · have h1 := iteP g14 h1
                    refine .r [.b true, .b true, .b true, .b true, .b true, .b true, .b true, .b true, .b true, .b true, .b true, .v (a0.scopes.length : Int), .b true, .b true, .b true, .b true, .b true, .v (a0.kids.length : Int), .b true, .b true] (A (decide_eq_true g11 : decide (a0.name = []) = true) (A (decide_eq_true g11 : decide (a0.name = []) = true) (A (decide_eq_true g11 : decide (a0.name = []) = true) (A (decide_eq_true g11 : decide (a0.name = []) = true) (A (decide_eq_true g12 : decide (a0.n ≥ 0) = true) (A (decide_eq_true g12 : decide (a0.n ≥ 0) = true) (A (decide_eq_true g12 : decide (a0.n ≥ 0) = true) (A (decide_eq_true g12 : decide (a0.n ≥ 0) = true) (A (decide_eq_true g13 : decide (a0.n ≤ 999) = true) (A (decide_eq_true g13 : decide (a0.n ≤ 999) = true) (A (A (decide_eq_true g13 : decide (a0.n ≤ 999) = true) (dInt.len' a0.scopes)) (A (decide_eq_true g13 : decide (a0.n ≤ 999) = true) (A (decide_eq_true g13 : decide (a0.n ≤ 999) = true) (A (decide_eq_true g14 : decide ((a0.scopes.length : Int) = 0) = true) (A (decide_eq_true g14 : decide ((a0.scopes.length : Int) = 0) = true) (A (A (decide_eq_true g14 : decide ((a0.scopes.length : Int) = 0) = true) (dForm.len' a0.kids)) (A (decide_eq_true g14 : decide ((a0.scopes.length : Int) = 0) = true) (A (decide_eq_true g14 : decide ((a0.scopes.length : Int) = 0) = true) T)))))))))))))))))) [(4, dE ((a0.kids.length : Int) = 0))] rfl (by kernel_rfl) ?_
                    cases h1
                    exact .lf hj1 rfl [] (by kernel_rfl)
                  · have h1 := iteN g14 h1
                    refine .r [.b true, .b true, .b true, .b true, .b true, .b true, .b true, .b true, .b true, .b true, .b true, .v (a0.scopes.length : Int), .b true, .b true, .b false, .b false, .b false, .b false, .b false] (A (decide_eq_true g11 : decide (a0.name = []) = true) (A (decide_eq_true g11 : decide (a0.name = []) = true) (A (decide_eq_true g11 : decide (a0.name = []) = true) (A (decide_eq_true g11 : decide (a0.name = []) = true) (A (decide_eq_true g12 : decide (a0.n ≥ 0) = true) (A (decide_eq_true g12 : decide (a0.n ≥ 0) = true) (A (decide_eq_true g12 : decide (a0.n ≥ 0) = true) (A (decide_eq_true g12 : decide (a0.n ≥ 0) = true) (A (decide_eq_true g13 : decide (a0.n ≤ 999) = true) (A (decide_eq_true g13 : decide (a0.n ≤ 999) = true) (A (A (decide_eq_true g13 : decide (a0.n ≤ 999) = true) (dInt.len' a0.scopes)) (A (decide_eq_true g13 : decide (a0.n ≤ 999) = true) (A (decide_eq_true g13 : decide (a0.n ≤ 999) = true) (A (decide_eq_false g14 : decide ((a0.scopes.length : Int) = 0) = false) (A (decide_eq_false g14 : decide ((a0.scopes.length : Int) = 0) = false) (A (decide_eq_false g14 : decide ((a0.scopes.length : Int) = 0) = false) (A (decide_eq_false g14 : decide ((a0.scopes.length : Int) = 0) = false) (A (decide_eq_false g14 : decide ((a0.scopes.length : Int) = 0) = false) T)))))))))))))))))) [(4, bE false)] rfl (by kernel_rfl) ?_
                    cases h1
                    exact .lf hj1 rfl [] (by kernel_rfl)
                · have h1 := iteN g13 h1
                  refine .r [.b true, .b true, .b true, .b true, .b true, .b true, .b true, .b true, .b false, .b false, .b false, .b false, .b false, .b false, .b false, .b false, .b false, .b false] (A (decide_eq_true g11 : decide (a0.name = []) = true) (A (decide_eq_true g11 : decide (a0.name = []) = true) (A (decide_eq_true g11 : decide (a0.name = []) = true) (A (decide_eq_true g11 : decide (a0.name = []) = true) (A (decide_eq_true g12 : decide (a0.n ≥ 0) = true) (A (decide_eq_true g12 : decide (a0.n ≥ 0) = true) (A (decide_eq_true g12 : decide (a0.n ≥ 0) = true) (A (decide_eq_true g12 : decide (a0.n ≥ 0) = true) (A (decide_eq_false g13 : decide (a0.n ≤ 999) = false) (A (decide_eq_false g13 : decide (a0.n ≤ 999) = false) (A (decide_eq_false g13 : decide (a0.n ≤ 999) = false) (A (decide_eq_false g13 : decide (a0.n ≤ 999) = false) (A (decide_eq_false g13 : decide (a0.n ≤ 999) = false) (A (rfl : false = false) (A (rfl : false = false) (A (rfl : false = false) (A (rfl : false = false) (A (rfl : false = false) T)))))))))))))))))) [(4, bE false)] rfl (by kernel_rfl) ?_
                  cases h1
                  exact .lf hj1 rfl [] (by kernel_rfl)
              · have h1 := iteN g12 h1
                refine .r [.b true, .b true, .b true, .b true, .b false, .b false, .b false, .b false, .b false, .b false, .b false, .b false, .b false, .b false, .b false, .b false, .b false, .b false] (A (decide_eq_true g11 : decide (a0.name = []) = true) (A (decide_eq_true g11 : decide (a0.name = []) = true) (A (decide_eq_true g11 : decide (a0.name = []) = true) (A (decide_eq_true g11 : decide (a0.name = []) = true) (A (decide_eq_false g12 : decide (a0.n ≥ 0) = false) (A (decide_eq_false g12 : decide (a0.n ≥ 0) = false) (A (decide_eq_false g12 : decide (a0.n ≥ 0) = false) (A (decide_eq_false g12 : decide (a0.n ≥ 0) = false) (A (rfl : false = false) (A (rfl : false = false) (A (rfl : false = false) (A (rfl : false = false) (A (rfl : false = false) (A (rfl : false = false) (A (rfl : false = false) (A (rfl : false = false) (A (rfl : false = false) (A (rfl : false = false) T)))))))))))))))))) [(4, bE false)] rfl (by kernel_rfl) ?_
                cases h1
                exact .lf hj1 rfl [] (by kernel_rfl)
            · have h1 := iteN g11 h1
              refine .r [.b false, .b false, .b false, .b false, .b false, .b false, .b false, .b false, .b false, .b false, .b false, .b false, .b false, .b false, .b false, .b false, .b false, .b false] (A (decide_eq_false g11 : decide (a0.name = []) = false) (A (decide_eq_false g11 : decide (a0.name = []) = false) (A (decide_eq_false g11 : decide (a0.name = []) = false) (A (decide_eq_false g11 : decide (a0.name = []) = false) (A (rfl : false = false) (A (rfl : false = false) (A (rfl : false = false) (A (rfl : false = false) (A (rfl : false = false) (A (rfl : false = false) (A (rfl : false = false) (A (rfl : false = false) (A (rfl : false = false) (A (rfl : false = false) (A (rfl : false = false) (A (rfl : false = false) (A (rfl : false = false) (A (rfl : false = false) T)))))))))))))))))) [(4, bE false)] rfl (by kernel_rfl) ?_
              cases h1
              exact .lf hj1 rfl [] (by kernel_rfl)
        · refine .bP h0 rfl [1, 2] (fun o15 => [(76, bE o15)]) n1 n1 (fun o15 h0 => ?_) (fun y1 h1 hj1 => ?_)
          · refine .cT h0 rfl (by kernel_rfl) (fun hc16 h0 => ?_) (fun hc16 h0 => ?_)
            · refine .r [] T [(4, bE false)] rfl (by kernel_rfl) ?_
              cases h0
              exact .ret rfl rfl (by kernel_rfl) hK
            · refine .r [] T [(5, iE 0)] rfl (by kernel_rfl) ?_
              refine .lI h0 rfl [1, 2] (fun i17 s18 => [(5, iE (i17 : Int))]) n2 n2 [] (by kernel_rfl) (fun i17 s18 q19 hd21 hi23 h0 => ?_)
              refine .r [.v (a0.kids.length : Int)] (A (dForm.len' a0.kids) T) [(79, lE 5 (ksForm a0.kids)), (81, dE ((i17 : Int) < (a0.kids.length : Int)))] rfl (by kernel_rfl) ?_
              refine .sn 79 dForm a0.kids (by kernel_rfl) (fun hb24 => ?_)
              refine .lc hd21 rfl (by kernel_rfl) (fun x20 q192 hc25 hx20 hd22 hd22l => ?_) (fun hc25 => ?_)
              · subst hc25
                obtain ⟨y1, h1, hw1, hn1⟩ := forI_cons h0
                obtain ⟨k26, hk26, h1⟩ := bnd h1
                refine .r [.cs (kForm x20), .pl, .call [] (bE k26) []] (A (dForm.idn hx20) (A (ih _ _ hk26) T)) [(92, bE (!k26))] rfl (by kernel_rfl) ?_
                refine .cT h1 rfl (by kernel_rfl) (fun hc27 h1 => ?_) (fun hc27 h1 => ?_)
                · refine .r [] T [(4, bE false)] rfl (by kernel_rfl) ?_
                  cases h1
                  cases hw1 _ rfl
                  exact .ret rfl rfl (by kernel_rfl) hK
                · refine .r [.v ((i17 + 1 : Nat) : Int)] (A (wn (i := i17) (by omega)) T) [(5, iE ((i17 + 1 : Nat) : Int))] rfl (by kernel_rfl) ?_
                  cases h1
                  exact .nL rfl (i17 + 1) _ hd22 hd22l (hn1 _ rfl) [] (by kernel_rfl)
              · subst hc25
                have h0 := forI_nil h0
                refine .r [] T [(4, bE true)] rfl (by kernel_rfl) ?_
                cases h0
                exact .ret rfl rfl (by kernel_rfl) hK
          · by_cases g28 : ¬ a0.kind = 3
            · have h1 := iteP g28 h1
              refine .r [.b true, .b true, .b true, .b true, .b true, .b true, .b true, .b true, .b true, .b true, .b true, .b true, .b true] (A (decide_eq_true g28 : decide (¬ a0.kind = 3) = true) (A (decide_eq_true g28 : decide (¬ a0.kind = 3) = true) (A (decide_eq_true g28 : decide (¬ a0.kind = 3) = true) (A (decide_eq_true g28 : decide (¬ a0.kind = 3) = true) (A (rfl : true = true) (A (rfl : true = true) (A (rfl : true = true) (A (rfl : true = true) (A (rfl : true = true) (A (rfl : true = true) (A (rfl : true = true) (A (rfl : true = true) (A (rfl : true = true) T))))))))))))) [(76, bE true)] rfl (by kernel_rfl) ?_
              cases h1
              exact .lf hj1 rfl [] (by kernel_rfl)
            · have h1 := iteN g28 h1
              by_cases g29 : ¬ a0.name = []
              · have h1 := iteP g29 h1
                refine .r [.b false, .b false, .b false, .b false, .b true, .b true, .b true, .b true, .b true, .b true, .b true, .b true, .b true] (A (decide_eq_false g28 : decide (¬ a0.kind = 3) = false) (A (decide_eq_false g28 : decide (¬ a0.kind = 3) = false) (A (decide_eq_false g28 : decide (¬ a0.kind = 3) = false) (A (decide_eq_false g28 : decide (¬ a0.kind = 3) = false) (A (decide_eq_true g29 : decide (¬ a0.name = []) = true) (A (decide_eq_true g29 : decide (¬ a0.name = []) = true) (A (decide_eq_true g29 : decide (¬ a0.name = []) = true) (A (decide_eq_true g29 : decide (¬ a0.name = []) = true) (A (rfl : true = true) (A (rfl : true = true) (A (rfl : true = true) (A (rfl : true = true) (A (rfl : true = true) T))))))))))))) [(76, bE true)] rfl (by kernel_rfl) ?_
                cases h1
                exact .lf hj1 rfl [] (by kernel_rfl)
              · have h1 := iteN g29 h1
                by_cases g30 : ¬ a0.n = 0
                · have h1 := iteP g30 h1
                  refine .r [.b false, .b false, .b false, .b false, .b false, .b false, .b false, .b false, .b true, .b true, .b true, .b true, .b true] (A (decide_eq_false g28 : decide (¬ a0.kind = 3) = false) (A (decide_eq_false g28 : decide (¬ a0.kind = 3) = false) (A (decide_eq_false g28 : decide (¬ a0.kind = 3) = false) (A (decide_eq_false g28 : decide (¬ a0.kind = 3) = false) (A (decide_eq_false g29 : decide (¬ a0.name = []) = false) (A (decide_eq_false g29 : decide (¬ a0.name = []) = false) (A (decide_eq_false g29 : decide (¬ a0.name = []) = false) (A (decide_eq_false g29 : decide (¬ a0.name = []) = false) (A (decide_eq_true g30 : decide (¬ a0.n = 0) = true) (A (decide_eq_true g30 : decide (¬ a0.n = 0) = true) (A (decide_eq_true g30 : decide (¬ a0.n = 0) = true) (A (decide_eq_true g30 : decide (¬ a0.n = 0) = true) (A (decide_eq_true g30 : decide (¬ a0.n = 0) = true) T))))))))))))) [(76, bE true)] rfl (by kernel_rfl) ?_
                  cases h1
                  exact .lf hj1 rfl [] (by kernel_rfl)
                · have h1 := iteN g30 h1
                  refine .r [.b false, .b false, .b false, .b false, .b false, .b false, .b false, .b false, .b false, .b false, .b false, .v (a0.scopes.length : Int), .b false, .b false] (A (decide_eq_false g28 : decide (¬ a0.kind = 3) = false) (A (decide_eq_false g28 : decide (¬ a0.kind = 3) = false) (A (decide_eq_false g28 : decide (¬ a0.kind = 3) = false) (A (decide_eq_false g28 : decide (¬ a0.kind = 3) = false) (A (decide_eq_false g29 : decide (¬ a0.name = []) = false) (A (decide_eq_false g29 : decide (¬ a0.name = []) = false) (A (decide_eq_false g29 : decide (¬ a0.name = []) = false) (A (decide_eq_false g29 : decide (¬ a0.name = []) = false) (A (decide_eq_false g30 : decide (¬ a0.n = 0) = false) (A (decide_eq_false g30 : decide (¬ a0.n = 0) = false) (A (A (decide_eq_false g30 : decide (¬ a0.n = 0) = false) (dInt.len' a0.scopes)) (A (decide_eq_false g30 : decide (¬ a0.n = 0) = false) (A (decide_eq_false g30 : decide (¬ a0.n = 0) = false) T))))))))))))) [(76, dE (¬ (a0.scopes.length : Int) = 0))] rfl (by kernel_rfl) ?_
                  cases h1
                  exact .lf hj1 rfl [] (by kernel_rfl)
def sp_FormValid (n : Nat) (a0 : Form) : Option (Bool) :=
  Option.bind ((sp_l1Is n a0 40).bind fun k2 => (if k2 = true then (sp_l1Count n a0).bind fun k4 => some (decide (k4 ≤ 400)) else some false) : Option (Bool)) (fun (o1 : Bool) => some o1)
theorem w_sp_FormValid (n : Nat) : ∀ (a0 : Form) {r : Bool}, sp_FormValid n a0 = some r → SCall X.E 85 [aE (kForm a0)] [] (bE r) [] := by
  intro a0 r h0
  rw [sp_FormValid] at h0
  refine .m Tryd.func85 rfl rfl rfl (by kernel_rfl) (fun L ks low K hl hL hlen hK => ?_)
  refine .rf [] T [(1, pw 1)] [.o 1 (.cells ((kForm a0).map .d))] rfl (by kernel_rfl) ?_
  refine .bP h0 rfl [] (fun o1 => [(2, bE o1)]) n1 n1 (fun o1 h0 => ?_) (fun y1 h1 hj1 => ?_)
  · cases h0
    exact .ret rfl rfl (by kernel_rfl) hK
  · obtain ⟨k2, hk2, h1⟩ := bnd h1
    by_cases g3 : k2 = true
    · have h1 := iteP g3 h1
      obtain ⟨k4, hk4, h1⟩ := bnd h1
      refine .r [.call [] (bE k2) [], .b true, .b true, .call [] (iE k4) [], .b true, .b true] (A (w_sp_l1Is n _ _ hk2) (A g3 (A (A g3 (w_sp_l1Count n _ hk4)) (A g3 (A g3 T))))) [(2, dE (k4 ≤ 400))] rfl (by kernel_rfl) ?_
      cases h1
      exact .lf hj1 rfl [] (by kernel_rfl)
    · have h1 := iteN g3 h1
      refine .r [.call [] (bE k2) [], .b false, .b false, .b false, .b false] (A (w_sp_l1Is n _ _ hk2) (A (Bool.eq_false_iff.2 g3) (A (Bool.eq_false_iff.2 g3) (A (Bool.eq_false_iff.2 g3) (A (Bool.eq_false_iff.2 g3) T))))) [(2, bE false)] rfl (by kernel_rfl) ?_
      cases h1
      exact .lf hj1 rfl [] (by kernel_rfl)
def sp_StripForm : Nat → Form → Option (Form)
  | 0, _ => none
  | n + 1, a0 => Option.bind (forL (fun (s2 : List Form) (i1 : Nat) (x4 : Form) => (sp_StripForm n x4).bind fun k10 => (apB 80 s2 [k10]).bind fun z11 => some z11) 0 a0.kids []) (fun (s2 : List Form) => some (⟨a0.kind, a0.name, a0.n, [], s2⟩ : Form))
theorem w_sp_StripForm (n : Nat) : ∀ (a0 : Form) {r : Form}, sp_StripForm n a0 = some r → SCall X.E 87 [aE (kForm a0)] [] (aE (kForm r)) [] := by
  induction n with
  | zero => intro a0 r h; cases h
  | succ n ih =>
    intro a0 r h0
    rw [sp_StripForm] at h0
    refine .m Tryd.func87 rfl rfl rfl (by kernel_rfl) (fun L ks low K hl hL hlen hK => ?_)
    refine .rf [] T [(1, pw 1), (2, pw 2)] [.o 1 (.cells ((kForm a0).map .d)), .o 2 (.cells [iE 0, sE [], iE 0, fE 1 (ksInt []), fE 5 (ksForm [])])] rfl (by kernel_rfl) ?_
    refine .rf [] T [(3, pw 3)] [.o 3 (.cells [iE a0.kind, sE a0.name, iE a0.n, fE 1 (ksInt []), fE 5 (ksForm [])])] rfl (by kernel_rfl) ?_
    refine .r [] T [(4, iE 0)] rfl (by kernel_rfl) ?_
    refine .oc 3 4 100028 26 (by kernel_rfl) ?_
    refine .lL h0 rfl [1, 2, 3] (fun i1 s2 => [(4, iE (i1 : Int))]) (fun i1 s2 => [.c 3 4 (.gs (.own 100028) 5 (ksForm s2)), .o 100028 (.tok (ksForm s2).length 26)]) n2 [] (by kernel_rfl) (fun i1 s2 q3 hd5 hi7 h0 => ?_)
    refine .r [.v (a0.kids.length : Int)] (A (dForm.len' a0.kids) T) [(14, lE 5 (ksForm a0.kids)), (16, dE ((i1 : Int) < (a0.kids.length : Int)))] rfl (by kernel_rfl) ?_
    refine .sn 14 dForm a0.kids (by kernel_rfl) (fun hb8 => ?_)
    refine .lc hd5 rfl (by kernel_rfl) (fun x4 q32 hc9 hx4 hd6 hd6l => ?_) (fun hc9 => ?_)
    · subst hc9
      obtain ⟨y1, h1, hn1⟩ := forL_cons h0
      obtain ⟨k10, hk10, h1⟩ := bnd h1
      obtain ⟨z11, hz11, h1⟩ := bnd h1
      refine .rd mixed [(5, [.cs (kForm x4)]), (7, [.call [] (aE (kForm k10)) []]), (8, [.sv (ksForm [k10])]), (9, [.sv (ksForm z11)])] [((ksForm s2).length : Int)] (A (dForm.idn hx4) (A (ih _ hk10) (A (dForm.lit [k10]) (A (dForm.ap hz11) T)))) [] [.c 3 4 (.gs (.own 100028) 5 (ksForm z11)), .o 100028 (.tok (ksForm z11).length 26)] [] rfl (by kernel_rfl) ?_
      refine .r [.v ((i1 + 1 : Nat) : Int)] (A (wn (i := i1) (by omega)) T) [(4, iE ((i1 + 1 : Nat) : Int))] rfl (by kernel_rfl) ?_
      cases h1
      exact .nL rfl (i1 + 1) _ hd6 hd6l hn1 [] (by kernel_rfl)
    · subst hc9
      have h0 := forL_nil h0
      refine .rf [] T [] [.c 2 0 (iE a0.kind), .c 2 1 (sE a0.name), .c 2 2 (iE a0.n), .c 2 4 (.gs (.own 100028) 5 (ksForm s2))] rfl (by kernel_rfl) ?_
      cases h0
      exact .ret rfl rfl (by kernel_rfl) hK
def sp_l6Fields (n : Nat) (a0 : Core) : Option (Bool) :=
  Option.bind ((if a0.kind = 1 then (if a0.id < 1 then some true else (if a0.id > 999 then some true else (if ¬ a0.kind = 1 then some (decide (¬ a0.id = 0)) else some false))) else (if ¬ a0.kind = 1 then some (decide (¬ a0.id = 0)) else some false)) : Option (Bool)) (fun (o1 : Bool) => (if o1 = true then some false else Option.bind ((if a0.kind = 2 then (sp_NameValid n a0.name).bind fun k27 => (if (!k27) = true then some true else (if ¬ a0.kind = 2 then some (decide (¬ a0.name = [])) else some false)) else (if ¬ a0.kind = 2 then some (decide (¬ a0.name = [])) else some false)) : Option (Bool)) (fun (o3 : Bool) => (if o3 = true then some false else Option.bind ((if a0.kind = 3 then (if a0.n < 0 then some true else (if a0.n > 999 then some true else (if ¬ a0.kind = 3 then some (decide (¬ a0.n = 0)) else some false))) else (if ¬ a0.kind = 3 then some (decide (¬ a0.n = 0)) else some false)) : Option (Bool)) (fun (o5 : Bool) => (if o5 = true then some false else Option.bind ((if a0.kind = 4 then (sp_FormValid n a0.data).bind fun k12 => (if (!k12) = true then some true else (sp_StripForm n a0.data).bind fun k14 => (sp_FormSame n k14 a0.data).bind fun k15 => (if (!k15) = true then some true else (if ¬ a0.kind = 4 then (sp_FormSame n a0.data (⟨0, [], 0, [], []⟩ : Form)).bind fun k18 => some (!k18) else some false))) else (if ¬ a0.kind = 4 then (sp_FormSame n a0.data (⟨0, [], 0, [], []⟩ : Form)).bind fun k20 => some (!k20) else some false)) : Option (Bool)) (fun (o7 : Bool) => (if o7 = true then some false else Option.bind ((if a0.kind = 5 then some true else some (decide ((a0.ids.length : Int) = 0))) : Option (Bool)) (fun (o9 : Bool) => some o9)))))))))
theorem w_sp_l6Fields (n : Nat) : ∀ (a0 : Core) {r : Bool}, sp_l6Fields n a0 = some r → SCall X.E 75 [aE (kCore a0)] [] (bE r) [] := by
  intro a0 r h0
  rw [sp_l6Fields] at h0
  refine .m Tryd.func75 rfl rfl rfl (by kernel_rfl) (fun L ks low K hl hL hlen hK => ?_)
  refine .rf [] T [(1, pw 1)] [.o 1 (.cells ((kCore a0).map .d))] rfl (by kernel_rfl) ?_
  refine .bP h0 rfl [1] (fun o1 => [(25, bE o1)]) n1 n1 (fun o1 h0 => ?_) (fun y1 h1 hj1 => ?_)
  · refine .cT h0 rfl (by kernel_rfl) (fun hc2 h0 => ?_) (fun hc2 h0 => ?_)
    · refine .r [] T [(2, bE false)] rfl (by kernel_rfl) ?_
      cases h0
      exact .ret rfl rfl (by kernel_rfl) hK
    · refine .bP h0 rfl [1] (fun o3 => [(44, bE o3)]) n1 n1 (fun o3 h0 => ?_) (fun y1 h1 hj1 => ?_)
      · refine .cT h0 rfl (by kernel_rfl) (fun hc4 h0 => ?_) (fun hc4 h0 => ?_)
        · refine .r [] T [(2, bE false)] rfl (by kernel_rfl) ?_
          cases h0
          exact .ret rfl rfl (by kernel_rfl) hK
        · refine .bP h0 rfl [1] (fun o5 => [(67, bE o5)]) n1 n1 (fun o5 h0 => ?_) (fun y1 h1 hj1 => ?_)
          · refine .cT h0 rfl (by kernel_rfl) (fun hc6 h0 => ?_) (fun hc6 h0 => ?_)
            · refine .r [] T [(2, bE false)] rfl (by kernel_rfl) ?_
              cases h0
              exact .ret rfl rfl (by kernel_rfl) hK
            · refine .bP h0 rfl [1] (fun o7 => [(97, bE o7)]) n1 n1 (fun o7 h0 => ?_) (fun y1 h1 hj1 => ?_)
              · refine .cT h0 rfl (by kernel_rfl) (fun hc8 h0 => ?_) (fun hc8 h0 => ?_)
                · refine .r [] T [(2, bE false)] rfl (by kernel_rfl) ?_
                  cases h0
                  exact .ret rfl rfl (by kernel_rfl) hK
                · refine .bP h0 rfl [] (fun o9 => [(2, bE o9)]) n1 n1 (fun o9 h0 => ?_) (fun y1 h1 hj1 => ?_)
                  · cases h0
                    exact .ret rfl rfl (by kernel_rfl) hK
                  · by_cases g10 : a0.kind = 5
                    · have h1 := iteP g10 h1
                      refine .r [.b true, .b true, .b true, .b true, .b true] (A (decide_eq_true g10 : decide (a0.kind = 5) = true) (A (decide_eq_true g10 : decide (a0.kind = 5) = true) (A (decide_eq_true g10 : decide (a0.kind = 5) = true) (A (decide_eq_true g10 : decide (a0.kind = 5) = true) (A (decide_eq_true g10 : decide (a0.kind = 5) = true) T))))) [(2, bE true)] rfl (by kernel_rfl) ?_
                      cases h1
                      exact .lf hj1 rfl [] (by kernel_rfl)
                    · have h1 := iteN g10 h1
                      refine .r [.b false, .b false, .b false, .v (a0.ids.length : Int), .b false, .b false] (A (decide_eq_false g10 : decide (a0.kind = 5) = false) (A (decide_eq_false g10 : decide (a0.kind = 5) = false) (A (A (decide_eq_false g10 : decide (a0.kind = 5) = false) (dInt.len' a0.ids)) (A (decide_eq_false g10 : decide (a0.kind = 5) = false) (A (decide_eq_false g10 : decide (a0.kind = 5) = false) T))))) [(2, dE ((a0.ids.length : Int) = 0))] rfl (by kernel_rfl) ?_
                      cases h1
                      exact .lf hj1 rfl [] (by kernel_rfl)
              · by_cases g11 : a0.kind = 4
                · have h1 := iteP g11 h1
                  obtain ⟨k12, hk12, h1⟩ := bnd h1
                  by_cases g13 : (!k12) = true
                  · have h1 := iteP g13 h1
                    refine .rd mixed [(4, [.b true]), (5, [.b true]), (6, [.b true, .call [] (bE k12) []]), (7, [.b true]), (8, [.b true]), (9, [.b true]), (10, [.b true]), (11, [.b true]), (12, [.b true]), (13, [.b true]), (14, [.b true]), (15, [.b true]), (16, [.b true, .b true]), (17, [.b true]), (19, [.b true]), (20, [.b true]), (21, [.b true]), (22, [.b true]), (28, [.b true]), (29, [.b true])] [] (A (decide_eq_true g11 : decide (a0.kind = 4) = true) (A (decide_eq_true g11 : decide (a0.kind = 4) = true) (A (A (decide_eq_true g11 : decide (a0.kind = 4) = true) (w_sp_FormValid n _ hk12)) (A (decide_eq_true g11 : decide (a0.kind = 4) = true) (A (decide_eq_true g11 : decide (a0.kind = 4) = true) (A g13 (A g13 (A g13 (A g13 (A g13 (A g13 (A g13 (A (A (decide_eq_true g11 : decide (a0.kind = 4) = true) g13) (A (decide_eq_true g11 : decide (a0.kind = 4) = true) (A (rfl : true = true) (A (rfl : true = true) (A (rfl : true = true) (A (rfl : true = true) (A (rfl : true = true) (A (rfl : true = true) T)))))))))))))))))))) [(97, bE true)] [] [] rfl (by kernel_rfl) ?_
                    cases h1
                    exact .lf hj1 rfl [] (by kernel_rfl)
                  · have h1 := iteN g13 h1
                    obtain ⟨k14, hk14, h1⟩ := bnd h1
                    obtain ⟨k15, hk15, h1⟩ := bnd h1
                    by_cases g16 : (!k15) = true
                    · have h1 := iteP g16 h1
                      refine .rd mixed [(4, [.b true]), (5, [.b true]), (6, [.b true, .call [] (bE k12) []]), (7, [.b true]), (8, [.b true]), (9, [.b false]), (10, [.b false]), (11, [.b false, .call [] (aE (kForm k14)) []]), (12, [.b false]), (13, [.b false]), (14, [.b false, .call [] (bE k15) []]), (15, [.b false]), (16, [.b true, .b false]), (17, [.b true]), (19, [.b true]), (20, [.b true]), (21, [.b true]), (22, [.b true]), (28, [.b true]), (29, [.b true])] [] (A (decide_eq_true g11 : decide (a0.kind = 4) = true) (A (decide_eq_true g11 : decide (a0.kind = 4) = true) (A (A (decide_eq_true g11 : decide (a0.kind = 4) = true) (w_sp_FormValid n _ hk12)) (A (decide_eq_true g11 : decide (a0.kind = 4) = true) (A (decide_eq_true g11 : decide (a0.kind = 4) = true) (A (Bool.eq_false_iff.2 g13) (A (Bool.eq_false_iff.2 g13) (A (A (Bool.eq_false_iff.2 g13) (w_sp_StripForm n _ hk14)) (A (Bool.eq_false_iff.2 g13) (A (Bool.eq_false_iff.2 g13) (A (A (Bool.eq_false_iff.2 g13) (w_sp_FormSame n _ _ hk15)) (A (Bool.eq_false_iff.2 g13) (A (A (decide_eq_true g11 : decide (a0.kind = 4) = true) (Bool.eq_false_iff.2 g13)) (A (decide_eq_true g11 : decide (a0.kind = 4) = true) (A g16 (A g16 (A g16 (A g16 (A g16 (A g16 T)))))))))))))))))))) [(97, bE true)] [] [] rfl (by kernel_rfl) ?_
                      cases h1
                      exact .lf hj1 rfl [] (by kernel_rfl)
                    · have h1 := iteN g16 h1
                      by_cases g17 : ¬ a0.kind = 4
                      · have h1 := iteP g17 h1
                        obtain ⟨k18, hk18, h1⟩ := bnd h1
                        refine .rd mixed [(4, [.b true]), (5, [.b true]), (6, [.b true, .call [] (bE k12) []]), (7, [.b true]), (8, [.b true]), (9, [.b false]), (10, [.b false]), (11, [.b false, .call [] (aE (kForm k14)) []]), (12, [.b false]), (13, [.b false]), (14, [.b false, .call [] (bE k15) []]), (15, [.b false]), (16, [.b true, .b false]), (17, [.b true]), (19, [.b false]), (20, [.b false]), (21, [.b false]), (22, [.b false]), (23, [.b true]), (24, [.b true]), (25, [.b true]), (26, [.b true, .call [] (bE k18) []]), (27, [.b true]), (28, [.b false, .b true]), (29, [.b false])] [] (A (decide_eq_true g11 : decide (a0.kind = 4) = true) (A (decide_eq_true g11 : decide (a0.kind = 4) = true) (A (A (decide_eq_true g11 : decide (a0.kind = 4) = true) (w_sp_FormValid n _ hk12)) (A (decide_eq_true g11 : decide (a0.kind = 4) = true) (A (decide_eq_true g11 : decide (a0.kind = 4) = true) (A (Bool.eq_false_iff.2 g13) (A (Bool.eq_false_iff.2 g13) (A (A (Bool.eq_false_iff.2 g13) (w_sp_StripForm n _ hk14)) (A (Bool.eq_false_iff.2 g13) (A (Bool.eq_false_iff.2 g13) (A (A (Bool.eq_false_iff.2 g13) (w_sp_FormSame n _ _ hk15)) (A (Bool.eq_false_iff.2 g13) (A (A (decide_eq_true g11 : decide (a0.kind = 4) = true) (Bool.eq_false_iff.2 g13)) (A (decide_eq_true g11 : decide (a0.kind = 4) = true) (A (Bool.eq_false_iff.2 g16) (A (Bool.eq_false_iff.2 g16) (A (Bool.eq_false_iff.2 g16) (A (Bool.eq_false_iff.2 g16) (A (decide_eq_true g17 : decide (¬ a0.kind = 4) = true) (A (decide_eq_true g17 : decide (¬ a0.kind = 4) = true) (A (decide_eq_true g17 : decide (¬ a0.kind = 4) = true) (A (A (decide_eq_true g17 : decide (¬ a0.kind = 4) = true) (w_sp_FormSame n _ _ hk18)) (A (decide_eq_true g17 : decide (¬ a0.kind = 4) = true) (A (A (Bool.eq_false_iff.2 g16) (decide_eq_true g17 : decide (¬ a0.kind = 4) = true)) (A (Bool.eq_false_iff.2 g16) T))))))))))))))))))))))))) [(97, bE (!k18))] [] [] rfl (by kernel_rfl) ?_
                        cases h1
                        exact .lf hj1 rfl [] (by kernel_rfl)
                      · have h1 := iteN g17 h1
                        refine .rd mixed [(4, [.b true]), (5, [.b true]), (6, [.b true, .call [] (bE k12) []]), (7, [.b true]), (8, [.b true]), (9, [.b false]), (10, [.b false]), (11, [.b false, .call [] (aE (kForm k14)) []]), (12, [.b false]), (13, [.b false]), (14, [.b false, .call [] (bE k15) []]), (15, [.b false]), (16, [.b true, .b false]), (17, [.b true]), (19, [.b false]), (20, [.b false]), (21, [.b false]), (22, [.b false]), (23, [.b false]), (24, [.b false]), (25, [.b false]), (26, [.b false]), (27, [.b false]), (28, [.b false, .b false]), (29, [.b false])] [] (A (decide_eq_true g11 : decide (a0.kind = 4) = true) (A (decide_eq_true g11 : decide (a0.kind = 4) = true) (A (A (decide_eq_true g11 : decide (a0.kind = 4) = true) (w_sp_FormValid n _ hk12)) (A (decide_eq_true g11 : decide (a0.kind = 4) = true) (A (decide_eq_true g11 : decide (a0.kind = 4) = true) (A (Bool.eq_false_iff.2 g13) (A (Bool.eq_false_iff.2 g13) (A (A (Bool.eq_false_iff.2 g13) (w_sp_StripForm n _ hk14)) (A (Bool.eq_false_iff.2 g13) (A (Bool.eq_false_iff.2 g13) (A (A (Bool.eq_false_iff.2 g13) (w_sp_FormSame n _ _ hk15)) (A (Bool.eq_false_iff.2 g13) (A (A (decide_eq_true g11 : decide (a0.kind = 4) = true) (Bool.eq_false_iff.2 g13)) (A (decide_eq_true g11 : decide (a0.kind = 4) = true) (A (Bool.eq_false_iff.2 g16) (A (Bool.eq_false_iff.2 g16) (A (Bool.eq_false_iff.2 g16) (A (Bool.eq_false_iff.2 g16) (A (decide_eq_false g17 : decide (¬ a0.kind = 4) = false) (A (decide_eq_false g17 : decide (¬ a0.kind = 4) = false) (A (decide_eq_false g17 : decide (¬ a0.kind = 4) = false) (A (decide_eq_false g17 : decide (¬ a0.kind = 4) = false) (A (decide_eq_false g17 : decide (¬ a0.kind = 4) = false) (A (A (Bool.eq_false_iff.2 g16) (decide_eq_false g17 : decide (¬ a0.kind = 4) = false)) (A (Bool.eq_false_iff.2 g16) T))))))))))))))))))))))))) [(97, bE false)] [] [] rfl (by kernel_rfl) ?_
                        cases h1
                        exact .lf hj1 rfl [] (by kernel_rfl)
                · have h1 := iteN g11 h1
                  by_cases g19 : ¬ a0.kind = 4
                  · have h1 := iteP g19 h1
                    obtain ⟨k20, hk20, h1⟩ := bnd h1
                    refine .rd mixed [(4, [.b false]), (5, [.b false]), (6, [.b false]), (7, [.b false]), (8, [.b false]), (16, [.b false]), (17, [.b false]), (19, [.b false]), (20, [.b false]), (21, [.b false]), (22, [.b false]), (23, [.b true]), (24, [.b true]), (25, [.b true]), (26, [.b true, .call [] (bE k20) []]), (27, [.b true]), (28, [.b false, .b true]), (29, [.b false])] [] (A (decide_eq_false g11 : decide (a0.kind = 4) = false) (A (decide_eq_false g11 : decide (a0.kind = 4) = false) (A (decide_eq_false g11 : decide (a0.kind = 4) = false) (A (decide_eq_false g11 : decide (a0.kind = 4) = false) (A (decide_eq_false g11 : decide (a0.kind = 4) = false) (A (decide_eq_false g11 : decide (a0.kind = 4) = false) (A (decide_eq_false g11 : decide (a0.kind = 4) = false) (A (rfl : false = false) (A (rfl : false = false) (A (rfl : false = false) (A (rfl : false = false) (A (decide_eq_true g19 : decide (¬ a0.kind = 4) = true) (A (decide_eq_true g19 : decide (¬ a0.kind = 4) = true) (A (decide_eq_true g19 : decide (¬ a0.kind = 4) = true) (A (A (decide_eq_true g19 : decide (¬ a0.kind = 4) = true) (w_sp_FormSame n _ _ hk20)) (A (decide_eq_true g19 : decide (¬ a0.kind = 4) = true) (A (A (rfl : false = false) (decide_eq_true g19 : decide (¬ a0.kind = 4) = true)) (A (rfl : false = false) T)))))))))))))))))) [(97, bE (!k20))] [] [] rfl (by kernel_rfl) ?_
                    cases h1
                    exact .lf hj1 rfl [] (by kernel_rfl)
                  · have h1 := iteN g19 h1
                    refine .rd mixed [(4, [.b false]), (5, [.b false]), (6, [.b false]), (7, [.b false]), (8, [.b false]), (16, [.b false]), (17, [.b false]), (19, [.b false]), (20, [.b false]), (21, [.b false]), (22, [.b false]), (23, [.b false]), (24, [.b false]), (25, [.b false]), (26, [.b false]), (27, [.b false]), (28, [.b false, .b false]), (29, [.b false])] [] (A (decide_eq_false g11 : decide (a0.kind = 4) = false) (A (decide_eq_false g11 : decide (a0.kind = 4) = false) (A (decide_eq_false g11 : decide (a0.kind = 4) = false) (A (decide_eq_false g11 : decide (a0.kind = 4) = false) (A (decide_eq_false g11 : decide (a0.kind = 4) = false) (A (decide_eq_false g11 : decide (a0.kind = 4) = false) (A (decide_eq_false g11 : decide (a0.kind = 4) = false) (A (rfl : false = false) (A (rfl : false = false) (A (rfl : false = false) (A (rfl : false = false) (A (decide_eq_false g19 : decide (¬ a0.kind = 4) = false) (A (decide_eq_false g19 : decide (¬ a0.kind = 4) = false) (A (decide_eq_false g19 : decide (¬ a0.kind = 4) = false) (A (decide_eq_false g19 : decide (¬ a0.kind = 4) = false) (A (decide_eq_false g19 : decide (¬ a0.kind = 4) = false) (A (A (rfl : false = false) (decide_eq_false g19 : decide (¬ a0.kind = 4) = false)) (A (rfl : false = false) T)))))))))))))))))) [(97, bE false)] [] [] rfl (by kernel_rfl) ?_
                    cases h1
                    exact .lf hj1 rfl [] (by kernel_rfl)
          · by_cases g21 : a0.kind = 3
            · have h1 := iteP g21 h1
              by_cases g22 : a0.n < 0
              · have h1 := iteP g22 h1
                refine .r [.b true, .b true, .b true, .b true, .b true, .b true, .b true, .b true, .b true, .b true, .b true, .b true, .b true, .b true, .b true, .b true] (A (decide_eq_true g21 : decide (a0.kind = 3) = true) (A (decide_eq_true g21 : decide (a0.kind = 3) = true) (A (decide_eq_true g21 : decide (a0.kind = 3) = true) (A (decide_eq_true g21 : decide (a0.kind = 3) = true) (A (decide_eq_true g22 : decide (a0.n < 0) = true) (A (decide_eq_true g22 : decide (a0.n < 0) = true) (A (decide_eq_true g22 : decide (a0.n < 0) = true) (A (A (decide_eq_true g21 : decide (a0.kind = 3) = true) (decide_eq_true g22 : decide (a0.n < 0) = true)) (A (decide_eq_true g21 : decide (a0.kind = 3) = true) (A (rfl : true = true) (A (rfl : true = true) (A (rfl : true = true) (A (rfl : true = true) (A (rfl : true = true) (A (rfl : true = true) T))))))))))))))) [(67, bE true)] rfl (by kernel_rfl) ?_
                cases h1
                exact .lf hj1 rfl [] (by kernel_rfl)
              · have h1 := iteN g22 h1
                by_cases g23 : a0.n > 999
                · have h1 := iteP g23 h1
                  refine .r [.b true, .b true, .b true, .b true, .b false, .b false, .b false, .b true, .b false, .b true, .b true, .b true, .b true, .b true, .b true, .b true] (A (decide_eq_true g21 : decide (a0.kind = 3) = true) (A (decide_eq_true g21 : decide (a0.kind = 3) = true) (A (decide_eq_true g21 : decide (a0.kind = 3) = true) (A (decide_eq_true g21 : decide (a0.kind = 3) = true) (A (decide_eq_false g22 : decide (a0.n < 0) = false) (A (decide_eq_false g22 : decide (a0.n < 0) = false) (A (decide_eq_false g22 : decide (a0.n < 0) = false) (A (A (decide_eq_true g21 : decide (a0.kind = 3) = true) (decide_eq_false g22 : decide (a0.n < 0) = false)) (A (decide_eq_true g21 : decide (a0.kind = 3) = true) (A (decide_eq_true g23 : decide (a0.n > 999) = true) (A (decide_eq_true g23 : decide (a0.n > 999) = true) (A (decide_eq_true g23 : decide (a0.n > 999) = true) (A (decide_eq_true g23 : decide (a0.n > 999) = true) (A (decide_eq_true g23 : decide (a0.n > 999) = true) (A (decide_eq_true g23 : decide (a0.n > 999) = true) T))))))))))))))) [(67, bE true)] rfl (by kernel_rfl) ?_
                  cases h1
                  exact .lf hj1 rfl [] (by kernel_rfl)
                · have h1 := iteN g23 h1
                  by_cases g24 : ¬ a0.kind = 3
                  · have h1 := iteP g24 h1
                    refine .r [.b true, .b true, .b true, .b true, .b false, .b false, .b false, .b true, .b false, .b true, .b false, .b false, .b false, .b false, .b true, .b true, .b true, .b false, .b true, .b false] (A (decide_eq_true g21 : decide (a0.kind = 3) = true) (A (decide_eq_true g21 : decide (a0.kind = 3) = true) (A (decide_eq_true g21 : decide (a0.kind = 3) = true) (A (decide_eq_true g21 : decide (a0.kind = 3) = true) (A (decide_eq_false g22 : decide (a0.n < 0) = false) (A (decide_eq_false g22 : decide (a0.n < 0) = false) (A (decide_eq_false g22 : decide (a0.n < 0) = false) (A (A (decide_eq_true g21 : decide (a0.kind = 3) = true) (decide_eq_false g22 : decide (a0.n < 0) = false)) (A (decide_eq_true g21 : decide (a0.kind = 3) = true) (A (decide_eq_false g23 : decide (a0.n > 999) = false) (A (decide_eq_false g23 : decide (a0.n > 999) = false) (A (decide_eq_false g23 : decide (a0.n > 999) = false) (A (decide_eq_false g23 : decide (a0.n > 999) = false) (A (decide_eq_true g24 : decide (¬ a0.kind = 3) = true) (A (decide_eq_true g24 : decide (¬ a0.kind = 3) = true) (A (decide_eq_true g24 : decide (¬ a0.kind = 3) = true) (A (A (decide_eq_false g23 : decide (a0.n > 999) = false) (decide_eq_true g24 : decide (¬ a0.kind = 3) = true)) (A (decide_eq_false g23 : decide (a0.n > 999) = false) T)))))))))))))))))) [(67, dE (¬ a0.n = 0))] rfl (by kernel_rfl) ?_
                    cases h1
                    exact .lf hj1 rfl [] (by kernel_rfl)
                  · have h1 := iteN g24 h1
                    refine .r [.b true, .b true, .b true, .b true, .b false, .b false, .b false, .b true, .b false, .b true, .b false, .b false, .b false, .b false, .b false, .b false, .b false, .b false, .b false, .b false] (A (decide_eq_true g21 : decide (a0.kind = 3) = true) (A (decide_eq_true g21 : decide (a0.kind = 3) = true) (A (decide_eq_true g21 : decide (a0.kind = 3) = true) (A (decide_eq_true g21 : decide (a0.kind = 3) = true) (A (decide_eq_false g22 : decide (a0.n < 0) = false) (A (decide_eq_false g22 : decide (a0.n < 0) = false) (A (decide_eq_false g22 : decide (a0.n < 0) = false) (A (A (decide_eq_true g21 : decide (a0.kind = 3) = true) (decide_eq_false g22 : decide (a0.n < 0) = false)) (A (decide_eq_true g21 : decide (a0.kind = 3) = true) (A (decide_eq_false g23 : decide (a0.n > 999) = false) (A (decide_eq_false g23 : decide (a0.n > 999) = false) (A (decide_eq_false g23 : decide (a0.n > 999) = false) (A (decide_eq_false g23 : decide (a0.n > 999) = false) (A (decide_eq_false g24 : decide (¬ a0.kind = 3) = false) (A (decide_eq_false g24 : decide (¬ a0.kind = 3) = false) (A (decide_eq_false g24 : decide (¬ a0.kind = 3) = false) (A (A (decide_eq_false g23 : decide (a0.n > 999) = false) (decide_eq_false g24 : decide (¬ a0.kind = 3) = false)) (A (decide_eq_false g23 : decide (a0.n > 999) = false) T)))))))))))))))))) [(67, bE false)] rfl (by kernel_rfl) ?_
                    cases h1
                    exact .lf hj1 rfl [] (by kernel_rfl)
            · have h1 := iteN g21 h1
              by_cases g25 : ¬ a0.kind = 3
              · have h1 := iteP g25 h1
                refine .r [.b false, .b false, .b false, .b false, .b false, .b false, .b false, .b false, .b false, .b false, .b true, .b true, .b true, .b false, .b true, .b false] (A (decide_eq_false g21 : decide (a0.kind = 3) = false) (A (decide_eq_false g21 : decide (a0.kind = 3) = false) (A (decide_eq_false g21 : decide (a0.kind = 3) = false) (A (decide_eq_false g21 : decide (a0.kind = 3) = false) (A (decide_eq_false g21 : decide (a0.kind = 3) = false) (A (decide_eq_false g21 : decide (a0.kind = 3) = false) (A (rfl : false = false) (A (rfl : false = false) (A (rfl : false = false) (A (rfl : false = false) (A (decide_eq_true g25 : decide (¬ a0.kind = 3) = true) (A (decide_eq_true g25 : decide (¬ a0.kind = 3) = true) (A (decide_eq_true g25 : decide (¬ a0.kind = 3) = true) (A (A (rfl : false = false) (decide_eq_true g25 : decide (¬ a0.kind = 3) = true)) (A (rfl : false = false) T))))))))))))))) [(67, dE (¬ a0.n = 0))] rfl (by kernel_rfl) ?_
                cases h1
                exact .lf hj1 rfl [] (by kernel_rfl)
              · have h1 := iteN g25 h1
                refine .r [.b false, .b false, .b false, .b false, .b false, .b false, .b false, .b false, .b false, .b false, .b false, .b false, .b false, .b false, .b false, .b false] (A (decide_eq_false g21 : decide (a0.kind = 3) = false) (A (decide_eq_false g21 : decide (a0.kind = 3) = false) (A (decide_eq_false g21 : decide (a0.kind = 3) = false) (A (decide_eq_false g21 : decide (a0.kind = 3) = false) (A (decide_eq_false g21 : decide (a0.kind = 3) = false) (A (decide_eq_false g21 : decide (a0.kind = 3) = false) (A (rfl : false = false) (A (rfl : false = false) (A (rfl : false = false) (A (rfl : false = false) (A (decide_eq_false g25 : decide (¬ a0.kind = 3) = false) (A (decide_eq_false g25 : decide (¬ a0.kind = 3) = false) (A (decide_eq_false g25 : decide (¬ a0.kind = 3) = false) (A (A (rfl : false = false) (decide_eq_false g25 : decide (¬ a0.kind = 3) = false)) (A (rfl : false = false) T))))))))))))))) [(67, bE false)] rfl (by kernel_rfl) ?_
                cases h1
                exact .lf hj1 rfl [] (by kernel_rfl)
      · by_cases g26 : a0.kind = 2
        · have h1 := iteP g26 h1
          obtain ⟨k27, hk27, h1⟩ := bnd h1
          by_cases g28 : (!k27) = true
          · have h1 := iteP g28 h1
            refine .r [.b true, .b true, .b true, .call [] (bE k27) [], .b true, .b true, .b true, .b true, .b true, .b true, .b true, .b true] (A (decide_eq_true g26 : decide (a0.kind = 2) = true) (A (decide_eq_true g26 : decide (a0.kind = 2) = true) (A (A (decide_eq_true g26 : decide (a0.kind = 2) = true) (w_sp_NameValid n _ hk27)) (A (decide_eq_true g26 : decide (a0.kind = 2) = true) (A (decide_eq_true g26 : decide (a0.kind = 2) = true) (A g28 (A g28 (A g28 (A g28 (A g28 (A g28 T))))))))))) [(44, bE true)] rfl (by kernel_rfl) ?_
            cases h1
            exact .lf hj1 rfl [] (by kernel_rfl)
          · have h1 := iteN g28 h1
            by_cases g29 : ¬ a0.kind = 2
            · have h1 := iteP g29 h1
              refine .r [.b true, .b true, .b true, .call [] (bE k27) [], .b true, .b true, .b false, .b false, .b false, .b false, .b true, .b true, .b true, .b false, .b true, .b false] (A (decide_eq_true g26 : decide (a0.kind = 2) = true) (A (decide_eq_true g26 : decide (a0.kind = 2) = true) (A (A (decide_eq_true g26 : decide (a0.kind = 2) = true) (w_sp_NameValid n _ hk27)) (A (decide_eq_true g26 : decide (a0.kind = 2) = true) (A (decide_eq_true g26 : decide (a0.kind = 2) = true) (A (Bool.eq_false_iff.2 g28) (A (Bool.eq_false_iff.2 g28) (A (Bool.eq_false_iff.2 g28) (A (Bool.eq_false_iff.2 g28) (A (decide_eq_true g29 : decide (¬ a0.kind = 2) = true) (A (decide_eq_true g29 : decide (¬ a0.kind = 2) = true) (A (decide_eq_true g29 : decide (¬ a0.kind = 2) = true) (A (A (Bool.eq_false_iff.2 g28) (decide_eq_true g29 : decide (¬ a0.kind = 2) = true)) (A (Bool.eq_false_iff.2 g28) T)))))))))))))) [(44, dE (¬ a0.name = []))] rfl (by kernel_rfl) ?_
              cases h1
              exact .lf hj1 rfl [] (by kernel_rfl)
            · have h1 := iteN g29 h1
              refine .r [.b true, .b true, .b true, .call [] (bE k27) [], .b true, .b true, .b false, .b false, .b false, .b false, .b false, .b false, .b false, .b false, .b false, .b false] (A (decide_eq_true g26 : decide (a0.kind = 2) = true) (A (decide_eq_true g26 : decide (a0.kind = 2) = true) (A (A (decide_eq_true g26 : decide (a0.kind = 2) = true) (w_sp_NameValid n _ hk27)) (A (decide_eq_true g26 : decide (a0.kind = 2) = true) (A (decide_eq_true g26 : decide (a0.kind = 2) = true) (A (Bool.eq_false_iff.2 g28) (A (Bool.eq_false_iff.2 g28) (A (Bool.eq_false_iff.2 g28) (A (Bool.eq_false_iff.2 g28) (A (decide_eq_false g29 : decide (¬ a0.kind = 2) = false) (A (decide_eq_false g29 : decide (¬ a0.kind = 2) = false) (A (decide_eq_false g29 : decide (¬ a0.kind = 2) = false) (A (A (Bool.eq_false_iff.2 g28) (decide_eq_false g29 : decide (¬ a0.kind = 2) = false)) (A (Bool.eq_false_iff.2 g28) T)))))))))))))) [(44, bE false)] rfl (by kernel_rfl) ?_
              cases h1
              exact .lf hj1 rfl [] (by kernel_rfl)
        · have h1 := iteN g26 h1
          by_cases g30 : ¬ a0.kind = 2
          · have h1 := iteP g30 h1
            refine .r [.b false, .b false, .b false, .b false, .b false, .b false, .b false, .b false, .b false, .b true, .b true, .b true, .b false, .b true, .b false] (A (decide_eq_false g26 : decide (a0.kind = 2) = false) (A (decide_eq_false g26 : decide (a0.kind = 2) = false) (A (decide_eq_false g26 : decide (a0.kind = 2) = false) (A (decide_eq_false g26 : decide (a0.kind = 2) = false) (A (decide_eq_false g26 : decide (a0.kind = 2) = false) (A (rfl : false = false) (A (rfl : false = false) (A (rfl : false = false) (A (rfl : false = false) (A (decide_eq_true g30 : decide (¬ a0.kind = 2) = true) (A (decide_eq_true g30 : decide (¬ a0.kind = 2) = true) (A (decide_eq_true g30 : decide (¬ a0.kind = 2) = true) (A (A (rfl : false = false) (decide_eq_true g30 : decide (¬ a0.kind = 2) = true)) (A (rfl : false = false) T)))))))))))))) [(44, dE (¬ a0.name = []))] rfl (by kernel_rfl) ?_
            cases h1
            exact .lf hj1 rfl [] (by kernel_rfl)
          · have h1 := iteN g30 h1
            refine .r [.b false, .b false, .b false, .b false, .b false, .b false, .b false, .b false, .b false, .b false, .b false, .b false, .b false, .b false, .b false] (A (decide_eq_false g26 : decide (a0.kind = 2) = false) (A (decide_eq_false g26 : decide (a0.kind = 2) = false) (A (decide_eq_false g26 : decide (a0.kind = 2) = false) (A (decide_eq_false g26 : decide (a0.kind = 2) = false) (A (decide_eq_false g26 : decide (a0.kind = 2) = false) (A (rfl : false = false) (A (rfl : false = false) (A (rfl : false = false) (A (rfl : false = false) (A (decide_eq_false g30 : decide (¬ a0.kind = 2) = false) (A (decide_eq_false g30 : decide (¬ a0.kind = 2) = false) (A (decide_eq_false g30 : decide (¬ a0.kind = 2) = false) (A (A (rfl : false = false) (decide_eq_false g30 : decide (¬ a0.kind = 2) = false)) (A (rfl : false = false) T)))))))))))))) [(44, bE false)] rfl (by kernel_rfl) ?_
            cases h1
            exact .lf hj1 rfl [] (by kernel_rfl)
  · by_cases g31 : a0.kind = 1
    · have h1 := iteP g31 h1
      by_cases g32 : a0.id < 1
      · have h1 := iteP g32 h1
        refine .r [.b true, .b true, .b true, .b true, .b true, .b true, .b true, .b true, .b true, .b true, .b true, .b true, .b true, .b true, .b true, .b true] (A (decide_eq_true g31 : decide (a0.kind = 1) = true) (A (decide_eq_true g31 : decide (a0.kind = 1) = true) (A (decide_eq_true g31 : decide (a0.kind = 1) = true) (A (decide_eq_true g31 : decide (a0.kind = 1) = true) (A (decide_eq_true g32 : decide (a0.id < 1) = true) (A (decide_eq_true g32 : decide (a0.id < 1) = true) (A (decide_eq_true g32 : decide (a0.id < 1) = true) (A (A (decide_eq_true g31 : decide (a0.kind = 1) = true) (decide_eq_true g32 : decide (a0.id < 1) = true)) (A (decide_eq_true g31 : decide (a0.kind = 1) = true) (A (rfl : true = true) (A (rfl : true = true) (A (rfl : true = true) (A (rfl : true = true) (A (rfl : true = true) (A (rfl : true = true) T))))))))))))))) [(25, bE true)] rfl (by kernel_rfl) ?_
        cases h1
        exact .lf hj1 rfl [] (by kernel_rfl)
      · have h1 := iteN g32 h1
        by_cases g33 : a0.id > 999
        · have h1 := iteP g33 h1
          refine .r [.b true, .b true, .b true, .b true, .b false, .b false, .b false, .b true, .b false, .b true, .b true, .b true, .b true, .b true, .b true, .b true] (A (decide_eq_true g31 : decide (a0.kind = 1) = true) (A (decide_eq_true g31 : decide (a0.kind = 1) = true) (A (decide_eq_true g31 : decide (a0.kind = 1) = true) (A (decide_eq_true g31 : decide (a0.kind = 1) = true) (A (decide_eq_false g32 : decide (a0.id < 1) = false) (A (decide_eq_false g32 : decide (a0.id < 1) = false) (A (decide_eq_false g32 : decide (a0.id < 1) = false) (A (A (decide_eq_true g31 : decide (a0.kind = 1) = true) (decide_eq_false g32 : decide (a0.id < 1) = false)) (A (decide_eq_true g31 : decide (a0.kind = 1) = true) (A (decide_eq_true g33 : decide (a0.id > 999) = true) (A (decide_eq_true g33 : decide (a0.id > 999) = true) (A (decide_eq_true g33 : decide (a0.id > 999) = true) (A (decide_eq_true g33 : decide (a0.id > 999) = true) (A (decide_eq_true g33 : decide (a0.id > 999) = true) (A (decide_eq_true g33 : decide (a0.id > 999) = true) T))))))))))))))) [(25, bE true)] rfl (by kernel_rfl) ?_
          cases h1
          exact .lf hj1 rfl [] (by kernel_rfl)
        · have h1 := iteN g33 h1
          by_cases g34 : ¬ a0.kind = 1
          · have h1 := iteP g34 h1
            refine .r [.b true, .b true, .b true, .b true, .b false, .b false, .b false, .b true, .b false, .b true, .b false, .b false, .b false, .b false, .b true, .b true, .b true, .b false, .b true, .b false] (A (decide_eq_true g31 : decide (a0.kind = 1) = true) (A (decide_eq_true g31 : decide (a0.kind = 1) = true) (A (decide_eq_true g31 : decide (a0.kind = 1) = true) (A (decide_eq_true g31 : decide (a0.kind = 1) = true) (A (decide_eq_false g32 : decide (a0.id < 1) = false) (A (decide_eq_false g32 : decide (a0.id < 1) = false) (A (decide_eq_false g32 : decide (a0.id < 1) = false) (A (A (decide_eq_true g31 : decide (a0.kind = 1) = true) (decide_eq_false g32 : decide (a0.id < 1) = false)) (A (decide_eq_true g31 : decide (a0.kind = 1) = true) (A (decide_eq_false g33 : decide (a0.id > 999) = false) (A (decide_eq_false g33 : decide (a0.id > 999) = false) (A (decide_eq_false g33 : decide (a0.id > 999) = false) (A (decide_eq_false g33 : decide (a0.id > 999) = false) (A (decide_eq_true g34 : decide (¬ a0.kind = 1) = true) (A (decide_eq_true g34 : decide (¬ a0.kind = 1) = true) (A (decide_eq_true g34 : decide (¬ a0.kind = 1) = true) (A (A (decide_eq_false g33 : decide (a0.id > 999) = false) (decide_eq_true g34 : decide (¬ a0.kind = 1) = true)) (A (decide_eq_false g33 : decide (a0.id > 999) = false) T)))))))))))))))))) [(25, dE (¬ a0.id = 0))] rfl (by kernel_rfl) ?_
            cases h1
            exact .lf hj1 rfl [] (by kernel_rfl)
          · have h1 := iteN g34 h1
            refine .r [.b true, .b true, .b true, .b true, .b false, .b false, .b false, .b true, .b false, .b true, .b false, .b false, .b false, .b false, .b false, .b false, .b false, .b false, .b false, .b false] (A (decide_eq_true g31 : decide (a0.kind = 1) = true) (A (decide_eq_true g31 : decide (a0.kind = 1) = true) (A (decide_eq_true g31 : decide (a0.kind = 1) = true) (A (decide_eq_true g31 : decide (a0.kind = 1) = true) (A (decide_eq_false g32 : decide (a0.id < 1) = false) (A (decide_eq_false g32 : decide (a0.id < 1) = false) (A (decide_eq_false g32 : decide (a0.id < 1) = false) (A (A (decide_eq_true g31 : decide (a0.kind = 1) = true) (decide_eq_false g32 : decide (a0.id < 1) = false)) (A (decide_eq_true g31 : decide (a0.kind = 1) = true) (A (decide_eq_false g33 : decide (a0.id > 999) = false) (A (decide_eq_false g33 : decide (a0.id > 999) = false) (A (decide_eq_false g33 : decide (a0.id > 999) = false) (A (decide_eq_false g33 : decide (a0.id > 999) = false) (A (decide_eq_false g34 : decide (¬ a0.kind = 1) = false) (A (decide_eq_false g34 : decide (¬ a0.kind = 1) = false) (A (decide_eq_false g34 : decide (¬ a0.kind = 1) = false) (A (A (decide_eq_false g33 : decide (a0.id > 999) = false) (decide_eq_false g34 : decide (¬ a0.kind = 1) = false)) (A (decide_eq_false g33 : decide (a0.id > 999) = false) T)))))))))))))))))) [(25, bE false)] rfl (by kernel_rfl) ?_
            cases h1
            exact .lf hj1 rfl [] (by kernel_rfl)
    · have h1 := iteN g31 h1
      by_cases g35 : ¬ a0.kind = 1
      · have h1 := iteP g35 h1
        refine .r [.b false, .b false, .b false, .b false, .b false, .b false, .b false, .b false, .b false, .b false, .b true, .b true, .b true, .b false, .b true, .b false] (A (decide_eq_false g31 : decide (a0.kind = 1) = false) (A (decide_eq_false g31 : decide (a0.kind = 1) = false) (A (decide_eq_false g31 : decide (a0.kind = 1) = false) (A (decide_eq_false g31 : decide (a0.kind = 1) = false) (A (decide_eq_false g31 : decide (a0.kind = 1) = false) (A (decide_eq_false g31 : decide (a0.kind = 1) = false) (A (rfl : false = false) (A (rfl : false = false) (A (rfl : false = false) (A (rfl : false = false) (A (decide_eq_true g35 : decide (¬ a0.kind = 1) = true) (A (decide_eq_true g35 : decide (¬ a0.kind = 1) = true) (A (decide_eq_true g35 : decide (¬ a0.kind = 1) = true) (A (A (rfl : false = false) (decide_eq_true g35 : decide (¬ a0.kind = 1) = true)) (A (rfl : false = false) T))))))))))))))) [(25, dE (¬ a0.id = 0))] rfl (by kernel_rfl) ?_
        cases h1
        exact .lf hj1 rfl [] (by kernel_rfl)
      · have h1 := iteN g35 h1
        refine .r [.b false, .b false, .b false, .b false, .b false, .b false, .b false, .b false, .b false, .b false, .b false, .b false, .b false, .b false, .b false, .b false] (A (decide_eq_false g31 : decide (a0.kind = 1) = false) (A (decide_eq_false g31 : decide (a0.kind = 1) = false) (A (decide_eq_false g31 : decide (a0.kind = 1) = false) (A (decide_eq_false g31 : decide (a0.kind = 1) = false) (A (decide_eq_false g31 : decide (a0.kind = 1) = false) (A (decide_eq_false g31 : decide (a0.kind = 1) = false) (A (rfl : false = false) (A (rfl : false = false) (A (rfl : false = false) (A (rfl : false = false) (A (decide_eq_false g35 : decide (¬ a0.kind = 1) = false) (A (decide_eq_false g35 : decide (¬ a0.kind = 1) = false) (A (decide_eq_false g35 : decide (¬ a0.kind = 1) = false) (A (A (rfl : false = false) (decide_eq_false g35 : decide (¬ a0.kind = 1) = false)) (A (rfl : false = false) T))))))))))))))) [(25, bE false)] rfl (by kernel_rfl) ?_
        cases h1
        exact .lf hj1 rfl [] (by kernel_rfl)
def sp_l6Kids (n : Nat) (a0 : Int) (a1 : Int) : Option (Bool) :=
  Option.bind ((if a0 = 1 then some (decide (a0 = 1)) else (if a0 = 2 then some (decide (a0 = 2)) else (if a0 = 3 then some (decide (a0 = 3)) else some (decide (a0 = 4))))) : Option (Bool)) (fun (o1 : Bool) => (if o1 = true then some (decide (a1 = 0)) else (if a0 = 5 then some (decide (a1 = 1)) else (if a0 = 6 then some (decide (a1 ≥ 1)) else Option.bind ((if a0 = 7 then some (decide (a1 = 3)) else some false) : Option (Bool)) (fun (o5 : Bool) => some o5)))))
theorem w_sp_l6Kids (n : Nat) : ∀ (a0 : Int) (a1 : Int) {r : Bool}, sp_l6Kids n a0 a1 = some r → SCall X.E 74 [iE a0, iE a1] [] (bE r) [] := by
  intro a0 a1 r h0
  rw [sp_l6Kids] at h0
  refine .m Tryd.func74 rfl rfl rfl (by kernel_rfl) (fun L ks low K hl hL hlen hK => ?_)
  refine .r [] T [] rfl (by kernel_rfl) ?_
  refine .r [] T [(5, iE a0)] rfl (by kernel_rfl) ?_
  refine .r [] T [(6, dE (a0 = 1))] rfl (by kernel_rfl) ?_
  refine .bP h0 rfl [0, 1, 5] (fun o1 => [(6, bE o1)]) n1 n1 (fun o1 h0 => ?_) (fun y1 h1 hj1 => ?_)
  · refine .cT h0 rfl (by kernel_rfl) (fun hc2 h0 => ?_) (fun hc2 h0 => ?_)
    · refine .r [] T [(4, dE (a1 = 0))] rfl (by kernel_rfl) ?_
      cases h0
      exact .ret rfl rfl (by kernel_rfl) hK
    · refine .r [] T [(13, dE (a0 = 5))] rfl (by kernel_rfl) ?_
      refine .cP h0 rfl (by kernel_rfl) (fun hc3 h0 => ?_) (fun hc3 h0 => ?_)
      · refine .r [] T [(4, dE (a1 = 1))] rfl (by kernel_rfl) ?_
        cases h0
        exact .ret rfl rfl (by kernel_rfl) hK
      · refine .r [] T [(17, dE (a0 = 6))] rfl (by kernel_rfl) ?_
        refine .cP h0 rfl (by kernel_rfl) (fun hc4 h0 => ?_) (fun hc4 h0 => ?_)
        · refine .r [] T [(4, dE (a1 ≥ 1))] rfl (by kernel_rfl) ?_
          cases h0
          exact .ret rfl rfl (by kernel_rfl) hK
        · refine .bP h0 rfl [] (fun o5 => [(4, bE o5)]) n1 n1 (fun o5 h0 => ?_) (fun y1 h1 hj1 => ?_)
          · cases h0
            exact .ret rfl rfl (by kernel_rfl) hK
          · by_cases g6 : a0 = 7
            · have h1 := iteP g6 h1
              refine .r [.b true, .b true, .b true] (A (decide_eq_true g6 : decide (a0 = 7) = true) (A (decide_eq_true g6 : decide (a0 = 7) = true) (A (decide_eq_true g6 : decide (a0 = 7) = true) T))) [(4, dE (a1 = 3))] rfl (by kernel_rfl) ?_
              cases h1
              exact .lf hj1 rfl [] (by kernel_rfl)
            · have h1 := iteN g6 h1
              refine .r [.b false, .b false, .b false] (A (decide_eq_false g6 : decide (a0 = 7) = false) (A (decide_eq_false g6 : decide (a0 = 7) = false) (A (decide_eq_false g6 : decide (a0 = 7) = false) T))) [(4, bE false)] rfl (by kernel_rfl) ?_
              cases h1
              exact .lf hj1 rfl [] (by kernel_rfl)
  · refine .cP h1 rfl (by kernel_rfl) (fun hc7 h1 => ?_) (fun hc7 h1 => ?_)
    · cases h1
      exact .lf hj1 rfl [] (by kernel_rfl)
    · refine .r [] T [(6, dE (a0 = 2))] rfl (by kernel_rfl) ?_
      refine .cP h1 rfl (by kernel_rfl) (fun hc8 h1 => ?_) (fun hc8 h1 => ?_)
      · cases h1
        exact .lf hj1 rfl [] (by kernel_rfl)
      · refine .r [] T [(6, dE (a0 = 3))] rfl (by kernel_rfl) ?_
        refine .cP h1 rfl (by kernel_rfl) (fun hc9 h1 => ?_) (fun hc9 h1 => ?_)
        · cases h1
          exact .lf hj1 rfl [] (by kernel_rfl)
        · refine .r [] T [(6, dE (a0 = 4))] rfl (by kernel_rfl) ?_
          cases h1
          exact .lf hj1 rfl [] (by kernel_rfl)
def sp_l6Is : Nat → Core → (List Int) → Int → Option (Bool)
  | 0, _, _, _ => none
  | n + 1, a0, a1, a2 => Option.bind ((if a2 = 0 then some true else (sp_l6Kids n a0.kind (a0.kids.length : Int)).bind fun k31 => (if (!k31) = true then some true else (sp_l6Fields n a0).bind fun k33 => (if (!k33) = true then some true else (if a0.kind = 1 then (sp_l2Has n a1 a0.id).bind fun k36 => some (!k36) else some false)))) : Option (Bool)) (fun (o1 : Bool) => (if o1 = true then some false else seqS (forI (fun (s4 : List Int) (i3 : Nat) (x6 : Int) => (Option.bind ((if x6 < 1 then some true else (if x6 > 999 then some true else (sp_l2Has n s4 x6).bind fun k18 => some k18)) : Option (Bool)) (fun (o12 : Bool) => (if o12 = true then some (Sum.inl false) else (apB 8 [] s4).bind fun z14 => (apB 8 z14 [x6]).bind fun z15 => some (Sum.inr z15))) : Option (Bool ⊕ (List Int)))) 0 a0.ids a1) (fun (s4 : List Int) => seqS (forI (fun (s20 : Unit) (i19 : Nat) (x22 : Core) => ((sp_l6Is n x22 s4 (w64 (a2 - 1))).bind fun k28 => (if (!k28) = true then some (Sum.inl false) else some (Sum.inr ())) : Option (Bool ⊕ Unit))) 0 a0.kids ()) (fun (s20 : Unit) => some true))))
theorem w_sp_l6Is (n : Nat) : ∀ (a0 : Core) (a1 : List Int) (a2 : Int) {r : Bool}, sp_l6Is n a0 a1 a2 = some r → SCall X.E 60 [aE (kCore a0), lE 1 (ksInt a1), iE a2] [] (bE r) [] := by
  induction n with
  | zero => intro a0 a1 a2 r h; cases h
  | succ n ih =>
    intro a0 a1 a2 r h0
    rw [sp_l6Is] at h0
    refine .m Tryd.func60 rfl rfl rfl (by kernel_rfl) (fun L ks low K hl hL hlen hK => ?_)
    refine .rf [] T [(3, pw 3)] [.o 3 (.cells ((kCore a0).map .d))] rfl (by kernel_rfl) ?_
    refine .bP h0 rfl [1, 2, 3] (fun o1 => [(37, bE o1)]) n1 n1 (fun o1 h0 => ?_) (fun y1 h1 hj1 => ?_)
    · refine .cT h0 rfl (by kernel_rfl) (fun hc2 h0 => ?_) (fun hc2 h0 => ?_)
      · refine .r [] T [(6, bE false)] rfl (by kernel_rfl) ?_
        cases h0
        exact .ret rfl rfl (by kernel_rfl) hK
      · refine .r [] T [(7, lE 1 (ksInt a1))] rfl (by kernel_rfl) ?_
        refine .r [] T [(8, iE 0)] rfl (by kernel_rfl) ?_
        refine .lI h0 rfl [2, 3] (fun i3 s4 => [(7, lE 1 (ksInt s4)), (8, iE (i3 : Int))]) n2 n2 [] (by kernel_rfl) (fun i3 s4 q5 hd7 hi9 h0 => ?_)
        refine .r [.v (a0.ids.length : Int)] (A (dInt.len' a0.ids) T) [(41, lE 1 (ksInt a0.ids)), (43, dE ((i3 : Int) < (a0.ids.length : Int)))] rfl (by kernel_rfl) ?_
        refine .sn 41 dInt a0.ids (by kernel_rfl) (fun hb10 => ?_)
        refine .lc hd7 rfl (by kernel_rfl) (fun x6 q52 hc11 hx6 hd8 hd8l => ?_) (fun hc11 => ?_)
        · subst hc11
          obtain ⟨y1, h1, hw1, hn1⟩ := forI_cons h0
          refine .bP h1 rfl [2, 3, 7, 8] (fun o12 => [(68, bE o12)]) n1 n1 (fun o12 h1 => ?_) (fun y2 h2 hj2 => ?_)
          · refine .cT h1 rfl (by kernel_rfl) (fun hc13 h1 => ?_) (fun hc13 h1 => ?_)
            · refine .r [] T [(6, bE false)] rfl (by kernel_rfl) ?_
              cases h1
              cases hw1 _ rfl
              exact .ret rfl rfl (by kernel_rfl) hK
            · obtain ⟨z14, hz14, h1⟩ := bnd h1
              obtain ⟨z15, hz15, h1⟩ := bnd h1
              refine .rd mixed [(0, [.sv (ksInt [])]), (2, [.sv (ksInt z14)]), (6, [.cs [.v (.int .i64 x6)]]), (8, [.sv (ksInt [x6])]), (9, [.sv (ksInt z15)])] [((ksInt z14).length : Int)] (A (dInt.lit []) (A (dInt.ap hz14) (A (dInt.idn hx6) (A (dInt.lit [x6]) (A (dInt.ap hz15) T))))) [(7, .gs (.own 100071) 1 (ksInt z15))] [.o 100071 (.tok (ksInt z15).length 3)] [] rfl (by kernel_rfl) ?_
              refine .r [.v ((i3 + 1 : Nat) : Int)] (A (wn (i := i3) (by omega)) T) [(8, iE ((i3 + 1 : Nat) : Int))] rfl (by kernel_rfl) ?_
              cases h1
              refine .kp [2, 3, 7, 8] [7] ?_
              refine .dr 100071 (by kernel_rfl) ?_
              exact .nL rfl (i3 + 1) _ hd8 hd8l (hn1 _ rfl) [] (by kernel_rfl)
          · by_cases g16 : x6 < 1
            · have h2 := iteP g16 h2
              refine .r [.cs [.v (.int .i64 x6)], .b true, .b true, .b true, .b true, .b true, .b true, .b true, .b true, .b true, .b true, .b true, .b true, .b true, .b true, .b true] (A (dInt.idn hx6) (A (decide_eq_true g16 : decide (x6 < 1) = true) (A (decide_eq_true g16 : decide (x6 < 1) = true) (A (decide_eq_true g16 : decide (x6 < 1) = true) (A (decide_eq_true g16 : decide (x6 < 1) = true) (A (decide_eq_true g16 : decide (x6 < 1) = true) (A (decide_eq_true g16 : decide (x6 < 1) = true) (A (decide_eq_true g16 : decide (x6 < 1) = true) (A (rfl : true = true) (A (rfl : true = true) (A (rfl : true = true) (A (rfl : true = true) (A (rfl : true = true) (A (rfl : true = true) (A (rfl : true = true) (A (rfl : true = true) T)))))))))))))))) [(68, bE true)] rfl (by kernel_rfl) ?_
              cases h2
              exact .lf hj2 rfl [] (by kernel_rfl)
            · have h2 := iteN g16 h2
              by_cases g17 : x6 > 999
              · have h2 := iteP g17 h2
                refine .r [.cs [.v (.int .i64 x6)], .b false, .b false, .b false, .b false, .cs [.v (.int .i64 x6)], .b false, .b false, .b false, .b true, .b true, .b true, .b true, .b true, .b true, .b true, .b true] (A (dInt.idn hx6) (A (decide_eq_false g16 : decide (x6 < 1) = false) (A (decide_eq_false g16 : decide (x6 < 1) = false) (A (decide_eq_false g16 : decide (x6 < 1) = false) (A (A (decide_eq_false g16 : decide (x6 < 1) = false) (dInt.idn hx6)) (A (decide_eq_false g16 : decide (x6 < 1) = false) (A (decide_eq_false g16 : decide (x6 < 1) = false) (A (decide_eq_false g16 : decide (x6 < 1) = false) (A (decide_eq_true g17 : decide (x6 > 999) = true) (A (decide_eq_true g17 : decide (x6 > 999) = true) (A (decide_eq_true g17 : decide (x6 > 999) = true) (A (decide_eq_true g17 : decide (x6 > 999) = true) (A (decide_eq_true g17 : decide (x6 > 999) = true) (A (decide_eq_true g17 : decide (x6 > 999) = true) (A (decide_eq_true g17 : decide (x6 > 999) = true) (A (decide_eq_true g17 : decide (x6 > 999) = true) T)))))))))))))))) [(68, bE true)] rfl (by kernel_rfl) ?_
                cases h2
                exact .lf hj2 rfl [] (by kernel_rfl)
              · have h2 := iteN g17 h2
                obtain ⟨k18, hk18, h2⟩ := bnd h2
                refine .r [.cs [.v (.int .i64 x6)], .b false, .b false, .b false, .b false, .cs [.v (.int .i64 x6)], .b false, .b false, .b false, .b false, .b false, .b false, .b false, .b false, .cs [.v (.int .i64 x6)], .b false, .b false, .call [] (bE k18) [], .b false] (A (dInt.idn hx6) (A (decide_eq_false g16 : decide (x6 < 1) = false) (A (decide_eq_false g16 : decide (x6 < 1) = false) (A (decide_eq_false g16 : decide (x6 < 1) = false) (A (A (decide_eq_false g16 : decide (x6 < 1) = false) (dInt.idn hx6)) (A (decide_eq_false g16 : decide (x6 < 1) = false) (A (decide_eq_false g16 : decide (x6 < 1) = false) (A (decide_eq_false g16 : decide (x6 < 1) = false) (A (decide_eq_false g17 : decide (x6 > 999) = false) (A (decide_eq_false g17 : decide (x6 > 999) = false) (A (decide_eq_false g17 : decide (x6 > 999) = false) (A (decide_eq_false g17 : decide (x6 > 999) = false) (A (A (decide_eq_false g17 : decide (x6 > 999) = false) (dInt.idn hx6)) (A (decide_eq_false g17 : decide (x6 > 999) = false) (A (A (decide_eq_false g17 : decide (x6 > 999) = false) (w_sp_l2Has n _ _ hk18)) (A (decide_eq_false g17 : decide (x6 > 999) = false) T)))))))))))))))) [(68, bE k18)] rfl (by kernel_rfl) ?_
                cases h2
                exact .lf hj2 rfl [] (by kernel_rfl)
        · subst hc11
          have h0 := forI_nil h0
          refine .r [] T [(9, iE 0)] rfl (by kernel_rfl) ?_
          refine .lI h0 rfl [2, 3, 7] (fun i19 s20 => [(9, iE (i19 : Int))]) n2 n2 [] (by kernel_rfl) (fun i19 s20 q21 hd23 hi25 h0 => ?_)
          refine .r [.v (a0.kids.length : Int)] (A (dCore.len' a0.kids) T) [(81, lE 11 (ksCore a0.kids)), (83, dE ((i19 : Int) < (a0.kids.length : Int)))] rfl (by kernel_rfl) ?_
          refine .sn 81 dCore a0.kids (by kernel_rfl) (fun hb26 => ?_)
          refine .lc hd23 rfl (by kernel_rfl) (fun x22 q212 hc27 hx22 hd24 hd24l => ?_) (fun hc27 => ?_)
          · subst hc27
            obtain ⟨y1, h1, hw1, hn1⟩ := forI_cons h0
            obtain ⟨k28, hk28, h1⟩ := bnd h1
            refine .r [.cs (kCore x22), .pl, .call [] (bE k28) []] (A (dCore.idn hx22) (A (ih _ _ _ hk28) T)) [(95, bE (!k28))] rfl (by kernel_rfl) ?_
            refine .cT h1 rfl (by kernel_rfl) (fun hc29 h1 => ?_) (fun hc29 h1 => ?_)
            · refine .r [] T [(6, bE false)] rfl (by kernel_rfl) ?_
              cases h1
              cases hw1 _ rfl
              exact .ret rfl rfl (by kernel_rfl) hK
            · refine .r [.v ((i19 + 1 : Nat) : Int)] (A (wn (i := i19) (by omega)) T) [(9, iE ((i19 + 1 : Nat) : Int))] rfl (by kernel_rfl) ?_
              cases h1
              exact .nL rfl (i19 + 1) _ hd24 hd24l (hn1 _ rfl) [] (by kernel_rfl)
          · subst hc27
            have h0 := forI_nil h0
            refine .r [] T [(6, bE true)] rfl (by kernel_rfl) ?_
            cases h0
            exact .ret rfl rfl (by kernel_rfl) hK
    · by_cases g30 : a2 = 0
      · have h1 := iteP g30 h1
        refine .r [.b true, .b true, .b true, .b true, .b true, .b true, .b true, .b true, .b true, .b true, .b true, .b true, .b true, .b true, .b true, .b true, .b true, .b true] (A (decide_eq_true g30 : decide (a2 = 0) = true) (A (decide_eq_true g30 : decide (a2 = 0) = true) (A (decide_eq_true g30 : decide (a2 = 0) = true) (A (decide_eq_true g30 : decide (a2 = 0) = true) (A (decide_eq_true g30 : decide (a2 = 0) = true) (A (decide_eq_true g30 : decide (a2 = 0) = true) (A (decide_eq_true g30 : decide (a2 = 0) = true) (A (decide_eq_true g30 : decide (a2 = 0) = true) (A (rfl : true = true) (A (rfl : true = true) (A (rfl : true = true) (A (rfl : true = true) (A (rfl : true = true) (A (rfl : true = true) (A (rfl : true = true) (A (rfl : true = true) (A (rfl : true = true) (A (rfl : true = true) T)))))))))))))))))) [(37, bE true)] rfl (by kernel_rfl) ?_
        cases h1
        exact .lf hj1 rfl [] (by kernel_rfl)
      · have h1 := iteN g30 h1
        obtain ⟨k31, hk31, h1⟩ := bnd h1
        by_cases g32 : (!k31) = true
        · have h1 := iteP g32 h1
          refine .r [.b false, .b false, .b false, .b false, .b false, .v (a0.kids.length : Int), .b false, .call [] (bE k31) [], .b false, .b false, .b true, .b true, .b true, .b true, .b true, .b true, .b true, .b true, .b true, .b true] (A (decide_eq_false g30 : decide (a2 = 0) = false) (A (decide_eq_false g30 : decide (a2 = 0) = false) (A (decide_eq_false g30 : decide (a2 = 0) = false) (A (decide_eq_false g30 : decide (a2 = 0) = false) (A (A (decide_eq_false g30 : decide (a2 = 0) = false) (dCore.len' a0.kids)) (A (A (decide_eq_false g30 : decide (a2 = 0) = false) (w_sp_l6Kids n _ _ hk31)) (A (decide_eq_false g30 : decide (a2 = 0) = false) (A (decide_eq_false g30 : decide (a2 = 0) = false) (A g32 (A g32 (A g32 (A g32 (A (rfl : true = true) (A (rfl : true = true) (A (rfl : true = true) (A (rfl : true = true) (A (rfl : true = true) (A (rfl : true = true) T)))))))))))))))))) [(37, bE true)] rfl (by kernel_rfl) ?_
          cases h1
          exact .lf hj1 rfl [] (by kernel_rfl)
        · have h1 := iteN g32 h1
          obtain ⟨k33, hk33, h1⟩ := bnd h1
          by_cases g34 : (!k33) = true
          · have h1 := iteP g34 h1
            refine .r [.b false, .b false, .b false, .b false, .b false, .v (a0.kids.length : Int), .b false, .call [] (bE k31) [], .b false, .b false, .b false, .b false, .call [] (bE k33) [], .b false, .b false, .b true, .b true, .b true, .b true, .b true, .b true] (A (decide_eq_false g30 : decide (a2 = 0) = false) (A (decide_eq_false g30 : decide (a2 = 0) = false) (A (decide_eq_false g30 : decide (a2 = 0) = false) (A (decide_eq_false g30 : decide (a2 = 0) = false) (A (A (decide_eq_false g30 : decide (a2 = 0) = false) (dCore.len' a0.kids)) (A (A (decide_eq_false g30 : decide (a2 = 0) = false) (w_sp_l6Kids n _ _ hk31)) (A (decide_eq_false g30 : decide (a2 = 0) = false) (A (decide_eq_false g30 : decide (a2 = 0) = false) (A (Bool.eq_false_iff.2 g32) (A (A (Bool.eq_false_iff.2 g32) (w_sp_l6Fields n _ hk33)) (A (Bool.eq_false_iff.2 g32) (A (Bool.eq_false_iff.2 g32) (A g34 (A g34 (A g34 (A g34 (A g34 (A g34 T)))))))))))))))))) [(37, bE true)] rfl (by kernel_rfl) ?_
            cases h1
            exact .lf hj1 rfl [] (by kernel_rfl)
          · have h1 := iteN g34 h1
            by_cases g35 : a0.kind = 1
            · have h1 := iteP g35 h1
              obtain ⟨k36, hk36, h1⟩ := bnd h1
              refine .r [.b false, .b false, .b false, .b false, .b false, .v (a0.kids.length : Int), .b false, .call [] (bE k31) [], .b false, .b false, .b false, .b false, .call [] (bE k33) [], .b false, .b false, .b false, .b false, .b false, .b false, .b true, .b true, .b true, .b true, .call [] (bE k36) [], .b true, .b false, .b true, .b false] (A (decide_eq_false g30 : decide (a2 = 0) = false) (A (decide_eq_false g30 : decide (a2 = 0) = false) (A (decide_eq_false g30 : decide (a2 = 0) = false) (A (decide_eq_false g30 : decide (a2 = 0) = false) (A (A (decide_eq_false g30 : decide (a2 = 0) = false) (dCore.len' a0.kids)) (A (A (decide_eq_false g30 : decide (a2 = 0) = false) (w_sp_l6Kids n _ _ hk31)) (A (decide_eq_false g30 : decide (a2 = 0) = false) (A (decide_eq_false g30 : decide (a2 = 0) = false) (A (Bool.eq_false_iff.2 g32) (A (A (Bool.eq_false_iff.2 g32) (w_sp_l6Fields n _ hk33)) (A (Bool.eq_false_iff.2 g32) (A (Bool.eq_false_iff.2 g32) (A (Bool.eq_false_iff.2 g34) (A (Bool.eq_false_iff.2 g34) (A (Bool.eq_false_iff.2 g34) (A (Bool.eq_false_iff.2 g34) (A (decide_eq_true g35 : decide (a0.kind = 1) = true) (A (decide_eq_true g35 : decide (a0.kind = 1) = true) (A (decide_eq_true g35 : decide (a0.kind = 1) = true) (A (A (decide_eq_true g35 : decide (a0.kind = 1) = true) (w_sp_l2Has n _ _ hk36)) (A (decide_eq_true g35 : decide (a0.kind = 1) = true) (A (A (Bool.eq_false_iff.2 g34) (decide_eq_true g35 : decide (a0.kind = 1) = true)) (A (Bool.eq_false_iff.2 g34) T))))))))))))))))))))))) [(37, bE (!k36))] rfl (by kernel_rfl) ?_
              cases h1
              exact .lf hj1 rfl [] (by kernel_rfl)
            · have h1 := iteN g35 h1
              refine .r [.b false, .b false, .b false, .b false, .b false, .v (a0.kids.length : Int), .b false, .call [] (bE k31) [], .b false, .b false, .b false, .b false, .call [] (bE k33) [], .b false, .b false, .b false, .b false, .b false, .b false, .b false, .b false, .b false, .b false, .b false, .b false, .b false, .b false] (A (decide_eq_false g30 : decide (a2 = 0) = false) (A (decide_eq_false g30 : decide (a2 = 0) = false) (A (decide_eq_false g30 : decide (a2 = 0) = false) (A (decide_eq_false g30 : decide (a2 = 0) = false) (A (A (decide_eq_false g30 : decide (a2 = 0) = false) (dCore.len' a0.kids)) (A (A (decide_eq_false g30 : decide (a2 = 0) = false) (w_sp_l6Kids n _ _ hk31)) (A (decide_eq_false g30 : decide (a2 = 0) = false) (A (decide_eq_false g30 : decide (a2 = 0) = false) (A (Bool.eq_false_iff.2 g32) (A (A (Bool.eq_false_iff.2 g32) (w_sp_l6Fields n _ hk33)) (A (Bool.eq_false_iff.2 g32) (A (Bool.eq_false_iff.2 g32) (A (Bool.eq_false_iff.2 g34) (A (Bool.eq_false_iff.2 g34) (A (Bool.eq_false_iff.2 g34) (A (Bool.eq_false_iff.2 g34) (A (decide_eq_false g35 : decide (a0.kind = 1) = false) (A (decide_eq_false g35 : decide (a0.kind = 1) = false) (A (decide_eq_false g35 : decide (a0.kind = 1) = false) (A (decide_eq_false g35 : decide (a0.kind = 1) = false) (A (decide_eq_false g35 : decide (a0.kind = 1) = false) (A (A (Bool.eq_false_iff.2 g34) (decide_eq_false g35 : decide (a0.kind = 1) = false)) (A (Bool.eq_false_iff.2 g34) T))))))))))))))))))))))) [(37, bE false)] rfl (by kernel_rfl) ?_
              cases h1
              exact .lf hj1 rfl [] (by kernel_rfl)
def sp_CoreValid (n : Nat) (a0 : Core) : Option (Bool) :=
  Option.bind ((sp_l6Is n a0 [] 120).bind fun k2 => (if k2 = true then (sp_l6Count n a0).bind fun k4 => some (decide (k4 ≤ 600)) else some false) : Option (Bool)) (fun (o1 : Bool) => some o1)
theorem w_sp_CoreValid (n : Nat) : ∀ (a0 : Core) {r : Bool}, sp_CoreValid n a0 = some r → SCall X.E 38 [aE (kCore a0)] [] (bE r) [] := by
  intro a0 r h0
  rw [sp_CoreValid] at h0
  refine .m Tryd.func38 rfl rfl rfl (by kernel_rfl) (fun L ks low K hl hL hlen hK => ?_)
  refine .rf [] T [(1, pw 1)] [.o 1 (.cells ((kCore a0).map .d))] rfl (by kernel_rfl) ?_
  refine .bP h0 rfl [] (fun o1 => [(2, bE o1)]) n1 n1 (fun o1 h0 => ?_) (fun y1 h1 hj1 => ?_)
  · cases h0
    exact .ret rfl rfl (by kernel_rfl) hK
  · obtain ⟨k2, hk2, h1⟩ := bnd h1
    by_cases g3 : k2 = true
    · have h1 := iteP g3 h1
      obtain ⟨k4, hk4, h1⟩ := bnd h1
      refine .r [.sv (ksInt []), .call [] (bE k2) [], .b true, .b true, .call [] (iE k4) [], .b true, .b true] (A (dInt.lit []) (A (w_sp_l6Is n _ _ _ hk2) (A g3 (A (A g3 (w_sp_l6Count n _ hk4)) (A g3 (A g3 T)))))) [(2, dE (k4 ≤ 600))] rfl (by kernel_rfl) ?_
      cases h1
      exact .lf hj1 rfl [] (by kernel_rfl)
    · have h1 := iteN g3 h1
      refine .r [.sv (ksInt []), .call [] (bE k2) [], .b false, .b false, .b false, .b false] (A (dInt.lit []) (A (w_sp_l6Is n _ _ _ hk2) (A (Bool.eq_false_iff.2 g3) (A (Bool.eq_false_iff.2 g3) (A (Bool.eq_false_iff.2 g3) (A (Bool.eq_false_iff.2 g3) T)))))) [(2, bE false)] rfl (by kernel_rfl) ?_
      cases h1
      exact .lf hj1 rfl [] (by kernel_rfl)
def sp_l13Ids : Nat → (List Int) → Core → Option (List Int)
  | 0, _, _ => none
  | n + 1, a0, a1 => (apB 8 a0 a1.ids).bind fun z1 => Option.bind (forL (fun (s3 : List Int) (i2 : Nat) (x5 : Core) => (sp_l13Ids n s3 x5).bind fun k11 => some k11) 0 a1.kids z1) (fun (s3 : List Int) => some s3)
theorem w_sp_l13Ids (n : Nat) : ∀ (a0 : List Int) (a1 : Core) {r : List Int}, sp_l13Ids n a0 a1 = some r → SCall X.E 37 [.vs (.low 0) 1 ((ksInt a0).length), aE (kCore a1)] [some (.vec 3 1 (ksInt a0))] (.vs (.low 0) 1 ((ksInt r).length)) [.vec 3 1 (ksInt r)] := by
  induction n with
  | zero => intro a0 a1 r h; cases h
  | succ n ih =>
    intro a0 a1 r h0
    rw [sp_l13Ids] at h0
    refine .m Tryd.func37 rfl rfl rfl (by kernel_rfl) (fun L ks low K hl hL hlen hK => ?_)
    refine .rf [] T [(3, pw 3)] [.o 3 (.cells ((kCore a1).map .d))] rfl (by kernel_rfl) ?_
    obtain ⟨z1, hz1, h0⟩ := bnd h0
    refine .ro [.sv (ksInt z1)] (A (A (dInt.ap hz1) (rfl : (ksInt a0).length = (ksInt a0).length)) T) [(0, .vs (.low 0) 1 ((ksInt z1).length))] [.o 0 (.vec 3 1 (ksInt z1))] rfl (by kernel_rfl) ?_
    refine .r [] T [(5, iE 0)] rfl (by kernel_rfl) ?_
    refine .lL h0 rfl [3] (fun i2 s3 => [(0, .vs (.low 0) 1 ((ksInt s3).length)), (5, iE (i2 : Int))]) n2 (fun i2 s3 => [.o 0 (.vec 3 1 (ksInt s3))]) [] (by kernel_rfl) (fun i2 s3 q4 hd6 hi8 h0 => ?_)
    refine .r [.v (a1.kids.length : Int)] (A (dCore.len' a1.kids) T) [(12, lE 11 (ksCore a1.kids)), (14, dE ((i2 : Int) < (a1.kids.length : Int)))] rfl (by kernel_rfl) ?_
    refine .sn 12 dCore a1.kids (by kernel_rfl) (fun hb9 => ?_)
    refine .lc hd6 rfl (by kernel_rfl) (fun x5 q42 hc10 hx5 hd7 hd7l => ?_) (fun hc10 => ?_)
    · subst hc10
      obtain ⟨y1, h1, hn1⟩ := forL_cons h0
      obtain ⟨k11, hk11, h1⟩ := bnd h1
      refine .ro [.cs (kCore x5), .call [.low 0] (.vs (.low 0) 1 ((ksInt k11).length)) [.vec 3 1 (ksInt k11)]] (A (dCore.idn hx5) (A (ih _ _ hk11) T)) [(0, .vs (.low 0) 1 ((ksInt k11).length))] [.o 0 (.vec 3 1 (ksInt k11))] rfl (by kernel_rfl) ?_
      refine .r [.v ((i2 + 1 : Nat) : Int)] (A (wn (i := i2) (by omega)) T) [(5, iE ((i2 + 1 : Nat) : Int))] rfl (by kernel_rfl) ?_
      cases h1
      exact .nL rfl (i2 + 1) _ hd7 hd7l hn1 [] (by kernel_rfl)
    · subst hc10
      have h0 := forL_nil h0
      refine .r [] T [(4, .vs (.low 0) 1 ((ksInt s3).length))] rfl (by kernel_rfl) ?_
      refine .kp [4] [] ?_
      refine .dr 3 (by kernel_rfl) ?_
      cases h0
      exact .ret rfl rfl (by kernel_rfl) hK
def sp_l2Has_v (n : Nat) (a0 : List Int) (a1 : Int) : Option (Bool) :=
  seqS (forI (fun (s2 : Unit) (i1 : Nat) (x4 : Int) => ((if x4 = a1 then some (Sum.inl true) else some (Sum.inr ())) : Option (Bool ⊕ Unit))) 0 a0 ()) (fun (s2 : Unit) => some false)
theorem w_sp_l2Has_v (n : Nat) : ∀ (a0 : List Int) (a1 : Int) {r : Bool}, sp_l2Has_v n a0 a1 = some r → SCall X.E 36 [.vs (.low 0) 1 ((ksInt a0).length), iE a1] [some (.vec 3 1 (ksInt a0))] (bE r) [.vec 3 1 (ksInt a0)] := by
  intro a0 a1 r h0
  rw [sp_l2Has_v] at h0
  refine .m Tryd.func36 rfl rfl rfl (by kernel_rfl) (fun L ks low K hl hL hlen hK => ?_)
  refine .r [] T [] rfl (by kernel_rfl) ?_
  refine .r [] T [(5, iE 0)] rfl (by kernel_rfl) ?_
  refine .lI h0 rfl [0, 1] (fun i1 s2 => [(5, iE (i1 : Int))]) n2 n2 [] (by kernel_rfl) (fun i1 s2 q3 hd5 hi7 h0 => ?_)
  refine .r [.v (a0.length : Int)] (A (dInt.len' a0) T) [(9, dE ((i1 : Int) < (a0.length : Int)))] rfl (by kernel_rfl) ?_
  refine .snV 0 dInt a0 (by kernel_rfl) (fun hb8 => ?_)
  refine .lc hd5 rfl (by kernel_rfl) (fun x4 q32 hc9 hx4 hd6 hd6l => ?_) (fun hc9 => ?_)
  · subst hc9
    obtain ⟨y1, h1, hw1, hn1⟩ := forI_cons h0
    refine .r [.cs [.v (.int .i64 x4)]] (A (A (dInt.inv (inB_of hx4) (rfl : (ksInt a0).length = (ksInt a0).length)) (rfl : (ksInt a0).length = (ksInt a0).length)) (A (A (A (dInt.rows a0) (dInt.ixr hx4)) (rfl : (ksInt a0).length = (ksInt a0).length)) T)) [(17, dE (x4 = a1))] rfl (by kernel_rfl) ?_
    refine .cP h1 rfl (by kernel_rfl) (fun hc10 h1 => ?_) (fun hc10 h1 => ?_)
    · refine .r [] T [(4, bE true)] rfl (by kernel_rfl) ?_
      cases h1
      cases hw1 _ rfl
      exact .ret rfl rfl (by kernel_rfl) hK
    · refine .r [.v ((i1 + 1 : Nat) : Int)] (A (wn (i := i1) (by omega)) T) [(5, iE ((i1 + 1 : Nat) : Int))] rfl (by kernel_rfl) ?_
      cases h1
      exact .nL rfl (i1 + 1) _ hd6 hd6l (hn1 _ rfl) [] (by kernel_rfl)
  · subst hc9
    have h0 := forI_nil h0
    refine .r [] T [(4, bE false)] rfl (by kernel_rfl) ?_
    cases h0
    exact .ret rfl rfl (by kernel_rfl) hK
def sp_SubstituteVar (n : Nat) (a0 : Core) (a1 : Int) (a2 : Core) : Option (Core × Bool) :=
  Option.bind ((sp_CoreAtom n a2).bind fun k14 => (if (!k14) = true then some true else (sp_l13Ids n [] a0).bind fun k16 => (sp_l2Has_v n k16 a1).bind fun k17 => (if k17 = true then some true else (if a2.kind = 1 then (sp_l13Ids n [] a0).bind fun k20 => (sp_l2Has_v n k20 a2.id).bind fun k21 => some k21 else some false))) : Option (Bool)) (fun (o1 : Bool) => (if o1 = true then some ((⟨0, 0, [], 0, [], (⟨0, [], 0, [], []⟩ : Form), []⟩ : Core), false) else Option.bind ((if a2.kind = 1 then some (decide (¬ a2.id = a1)) else some false) : Option (Bool)) (fun (o3 : Bool) => Option.bind ((if o3 = true then (apB 8 [a1] [a2.id]).bind fun z12 => some z12 else some [a1]) : Option (List Int)) (fun (o4 : List Int) => (sp_l13Put n a0 a1 a2).bind fun k5 => Option.bind ((sp_CoreValid n (⟨5, 0, [], 0, o4, (⟨0, [], 0, [], []⟩ : Form), [a0]⟩ : Core)).bind fun k8 => (if (!k8) = true then some true else (sp_CoreValid n (⟨5, 0, [], 0, o4, (⟨0, [], 0, [], []⟩ : Form), [k5]⟩ : Core)).bind fun k10 => some (!k10)) : Option (Bool)) (fun (o6 : Bool) => (if o6 = true then some ((⟨0, 0, [], 0, [], (⟨0, [], 0, [], []⟩ : Form), []⟩ : Core), false) else some (k5, true)))))))
theorem w_sp_SubstituteVar (n : Nat) : ∀ (a0 : Core) (a1 : Int) (a2 : Core) {r : Core × Bool}, sp_SubstituteVar n a0 a1 a2 = some r → SCall X.E 12 [aE (kCore a0), iE a1, aE (kCore a2)] [] (.tup [aE (kCore r.1), bE r.2]) [] := by
  intro a0 a1 a2 r h0
  rw [sp_SubstituteVar] at h0
  refine .m Tryd.func12 rfl rfl rfl (by kernel_rfl) (fun L ks low K hl hL hlen hK => ?_)
  refine .rf [] T [(3, pw 3), (5, pw 5), (6, pw 6)] [.o 3 (.cells ((kCore a0).map .d)), .o 5 (.cells ((kCore a2).map .d)), .o 6 (.cells [iE 0, iE 0, sE [], iE 0, fE 1 (ksInt []), iE 0, sE [], iE 0, fE 1 (ksInt []), fE 5 (ksForm []), fE 11 (ksCore [])])] rfl (by kernel_rfl) ?_
  refine .bP h0 rfl [1, 3, 5, 6] (fun o1 => [(32, bE o1)]) n1 n1 (fun o1 h0 => ?_) (fun y1 h1 hj1 => ?_)
  · refine .cT h0 rfl (by kernel_rfl) (fun hc2 h0 => ?_) (fun hc2 h0 => ?_)
    · refine .r [] T [(7, bE false)] rfl (by kernel_rfl) ?_
      cases h0
      exact .ret rfl rfl (by kernel_rfl) hK
    · refine .rf [.sv (ksInt [a1]), .sv (ksCore [a0])] (A (dInt.lit [a1]) (A (dCore.lit [a0]) T)) [(8, pw 8)] [.o 8 (.cells [iE 5, iE 0, sE [], iE 0, fE 1 (ksInt [a1]), iE 0, sE [], iE 0, fE 1 (ksInt []), fE 5 (ksForm []), fE 11 (ksCore [a0])])] rfl (by kernel_rfl) ?_
      refine .bP h0 rfl [1, 3, 5, 6, 8] (fun o3 => [(47, bE o3)]) n1 n1 (fun o3 h0 => ?_) (fun y1 h1 hj1 => ?_)
      · refine .oc 8 4 100053 3 (by kernel_rfl) ?_
        refine .bP h0 rfl [1, 3, 5, 6, 8] (fun o4 => []) (fun o4 => [.c 8 4 (.gs (.own 100053) 1 (ksInt o4)), .o 100053 (.tok (ksInt o4).length 3)]) n1 (fun o4 h0 => ?_) (fun y1 h1 hj1 => ?_)
        · obtain ⟨k5, hk5, h0⟩ := bnd h0
          refine .rf [.call [] (aE (kCore k5)) []] (A (w_sp_l13Put n _ _ _ hk5) T) [(9, pw 9)] [.o 9 (.cells ((kCore k5).map .d))] rfl (by kernel_rfl) ?_
          refine .bP h0 rfl [6, 9] (fun o6 => [(70, bE o6)]) n1 n1 (fun o6 h0 => ?_) (fun y1 h1 hj1 => ?_)
          · refine .cT h0 rfl (by kernel_rfl) (fun hc7 h0 => ?_) (fun hc7 h0 => ?_)
            · refine .r [] T [(7, bE false)] rfl (by kernel_rfl) ?_
              cases h0
              exact .ret rfl rfl (by kernel_rfl) hK
            · refine .rf [] T [(7, bE true)] [.o 6 (.cells ((kCore k5).map .d))] rfl (by kernel_rfl) ?_
              cases h0
              exact .ret rfl rfl (by kernel_rfl) hK
          · obtain ⟨k8, hk8, h1⟩ := bnd h1
            by_cases g9 : (!k8) = true
            · have h1 := iteP g9 h1
              refine .r [.call [] (bE k8) [], .b true, .b true, .b true, .b true, .b true, .b true, .b true, .b true] (A (w_sp_CoreValid n _ hk8) (A g9 (A g9 (A g9 (A g9 (A g9 (A g9 (A g9 (A g9 T))))))))) [(70, bE true)] rfl (by kernel_rfl) ?_
              cases h1
              exact .lf hj1 rfl [] (by kernel_rfl)
            · have h1 := iteN g9 h1
              obtain ⟨k10, hk10, h1⟩ := bnd h1
              refine .r [.call [] (bE k8) [], .b false, .b false, .b false, .b false, .sv (ksCore [k5]), .b false, .b false, .call [] (bE k10) [], .b false, .b false] (A (w_sp_CoreValid n _ hk8) (A (Bool.eq_false_iff.2 g9) (A (Bool.eq_false_iff.2 g9) (A (Bool.eq_false_iff.2 g9) (A (A (Bool.eq_false_iff.2 g9) (dCore.lit [k5])) (A (Bool.eq_false_iff.2 g9) (A (A (Bool.eq_false_iff.2 g9) (w_sp_CoreValid n _ hk10)) (A (Bool.eq_false_iff.2 g9) (A (Bool.eq_false_iff.2 g9) T))))))))) [(70, bE (!k10))] rfl (by kernel_rfl) ?_
              cases h1
              exact .lf hj1 rfl [] (by kernel_rfl)
        · refine .cT h1 rfl (by kernel_rfl) (fun hc11 h1 => ?_) (fun hc11 h1 => ?_)
          · obtain ⟨z12, hz12, h1⟩ := bnd h1
            refine .rq [.sv (ksInt [a2.id]), .sv (ksInt z12)] [((ksInt [a1]).length : Int)] (A (dInt.lit [a2.id]) (A (dInt.ap hz12) T)) [] [.c 8 4 (.gs (.own 100053) 1 (ksInt z12)), .o 100053 (.tok (ksInt z12).length 3)] [] rfl (by kernel_rfl) ?_
            cases h1
            exact .lf hj1 rfl [] (by kernel_rfl)
          · cases h1
            exact .lf hj1 rfl [] (by kernel_rfl)
      · by_cases g13 : a2.kind = 1
        · have h1 := iteP g13 h1
          refine .r [.b true, .b true, .b true, .b true, .b true] (A (decide_eq_true g13 : decide (a2.kind = 1) = true) (A (decide_eq_true g13 : decide (a2.kind = 1) = true) (A (decide_eq_true g13 : decide (a2.kind = 1) = true) (A (decide_eq_true g13 : decide (a2.kind = 1) = true) (A (decide_eq_true g13 : decide (a2.kind = 1) = true) T))))) [(47, dE (¬ a2.id = a1))] rfl (by kernel_rfl) ?_
          cases h1
          exact .lf hj1 rfl [] (by kernel_rfl)
        · have h1 := iteN g13 h1
          refine .r [.b false, .b false, .b false, .b false, .b false] (A (decide_eq_false g13 : decide (a2.kind = 1) = false) (A (decide_eq_false g13 : decide (a2.kind = 1) = false) (A (decide_eq_false g13 : decide (a2.kind = 1) = false) (A (decide_eq_false g13 : decide (a2.kind = 1) = false) (A (decide_eq_false g13 : decide (a2.kind = 1) = false) T))))) [(47, bE false)] rfl (by kernel_rfl) ?_
          cases h1
          exact .lf hj1 rfl [] (by kernel_rfl)
  · obtain ⟨k14, hk14, h1⟩ := bnd h1
    by_cases g15 : (!k14) = true
    · have h1 := iteP g15 h1
      refine .rd mixed [(1, [.call [] (bE k14) []]), (4, [.b true]), (5, [.b true]), (6, [.b true]), (7, [.b true]), (8, [.b true]), (9, [.b true]), (11, [.b true]), (12, [.b true]), (13, [.b true]), (14, [.b true]), (21, [.b true]), (22, [.b true])] [] (A (w_sp_CoreAtom n _ hk14) (A g15 (A g15 (A g15 (A g15 (A g15 (A g15 (A (rfl : true = true) (A (rfl : true = true) (A (rfl : true = true) (A (rfl : true = true) (A (rfl : true = true) (A (rfl : true = true) T))))))))))))) [(32, bE true)] [] [] rfl (by kernel_rfl) ?_
      cases h1
      exact .lf hj1 rfl [] (by kernel_rfl)
    · have h1 := iteN g15 h1
      obtain ⟨k16, hk16, h1⟩ := bnd h1
      obtain ⟨k17, hk17, h1⟩ := bnd h1
      by_cases g18 : k17 = true
      · have h1 := iteP g18 h1
        refine .rd mixed [(1, [.call [] (bE k14) []]), (4, [.b false, .gv 14, .sv (ksInt [])]), (5, [.b false]), (6, [.b false, .call [.own 100014] (.vs (.low 0) 1 ((ksInt k16).length)) [.vec 3 1 (ksInt k16)]]), (7, [.b false]), (8, [.b false, .call [.own 100014] (bE k17) [.vec 3 1 (ksInt k16)]]), (9, [.b false]), (11, [.b true]), (12, [.b true]), (13, [.b true]), (14, [.b true]), (21, [.b true]), (22, [.b true])] [] (A (w_sp_CoreAtom n _ hk14) (A (A (Bool.eq_false_iff.2 g15) (dInt.lit [])) (A (Bool.eq_false_iff.2 g15) (A (A (Bool.eq_false_iff.2 g15) (w_sp_l13Ids n _ _ hk16)) (A (Bool.eq_false_iff.2 g15) (A (A (Bool.eq_false_iff.2 g15) (w_sp_l2Has_v n _ _ hk17)) (A (Bool.eq_false_iff.2 g15) (A g18 (A g18 (A g18 (A g18 (A g18 (A g18 T))))))))))))) [(32, bE true)] [.o 100014 (.vec 3 1 (ksInt k16))] [] rfl (by kernel_rfl) ?_
        cases h1
        refine .kp [1, 3, 5, 6, 32] [] ?_
        refine .dr 100014 (by kernel_rfl) ?_
        exact .lf hj1 rfl [] (by kernel_rfl)
      · have h1 := iteN g18 h1
        by_cases g19 : a2.kind = 1
        · have h1 := iteP g19 h1
          obtain ⟨k20, hk20, h1⟩ := bnd h1
          obtain ⟨k21, hk21, h1⟩ := bnd h1
          refine .rd mixed [(1, [.call [] (bE k14) []]), (4, [.b false, .gv 14, .sv (ksInt [])]), (5, [.b false]), (6, [.b false, .call [.own 100014] (.vs (.low 0) 1 ((ksInt k16).length)) [.vec 3 1 (ksInt k16)]]), (7, [.b false]), (8, [.b false, .call [.own 100014] (bE k17) [.vec 3 1 (ksInt k16)]]), (9, [.b false]), (11, [.b false]), (12, [.b false]), (13, [.b false]), (14, [.b false]), (15, [.b true, .gv 25, .sv (ksInt [])]), (16, [.b true]), (17, [.b true, .call [.own 100025] (.vs (.low 0) 1 ((ksInt k20).length)) [.vec 3 1 (ksInt k20)]]), (18, [.b true]), (19, [.b true]), (20, [.b true, .call [.own 100025] (bE k21) [.vec 3 1 (ksInt k20)]]), (21, [.b false, .b true]), (22, [.b false])] [] (A (w_sp_CoreAtom n _ hk14) (A (A (Bool.eq_false_iff.2 g15) (dInt.lit [])) (A (Bool.eq_false_iff.2 g15) (A (A (Bool.eq_false_iff.2 g15) (w_sp_l13Ids n _ _ hk16)) (A (Bool.eq_false_iff.2 g15) (A (A (Bool.eq_false_iff.2 g15) (w_sp_l2Has_v n _ _ hk17)) (A (Bool.eq_false_iff.2 g15) (A (Bool.eq_false_iff.2 g18) (A (Bool.eq_false_iff.2 g18) (A (Bool.eq_false_iff.2 g18) (A (Bool.eq_false_iff.2 g18) (A (A (decide_eq_true g19 : decide (a2.kind = 1) = true) (dInt.lit [])) (A (decide_eq_true g19 : decide (a2.kind = 1) = true) (A (A (decide_eq_true g19 : decide (a2.kind = 1) = true) (w_sp_l13Ids n _ _ hk20)) (A (decide_eq_true g19 : decide (a2.kind = 1) = true) (A (decide_eq_true g19 : decide (a2.kind = 1) = true) (A (A (decide_eq_true g19 : decide (a2.kind = 1) = true) (w_sp_l2Has_v n _ _ hk21)) (A (A (Bool.eq_false_iff.2 g18) (decide_eq_true g19 : decide (a2.kind = 1) = true)) (A (Bool.eq_false_iff.2 g18) T))))))))))))))))))) [(32, bE k21)] [.o 100014 (.vec 3 1 (ksInt k16)), .o 100025 (.vec 3 1 (ksInt k20))] [] rfl (by kernel_rfl) ?_
          cases h1
          refine .kp [1, 3, 5, 6, 32] [] ?_
          refine .dr 100014 (by kernel_rfl) ?_
          refine .dr 100025 (by kernel_rfl) ?_
          exact .lf hj1 rfl [] (by kernel_rfl)
        · have h1 := iteN g19 h1
          refine .rd mixed [(1, [.call [] (bE k14) []]), (4, [.b false, .gv 14, .sv (ksInt [])]), (5, [.b false]), (6, [.b false, .call [.own 100014] (.vs (.low 0) 1 ((ksInt k16).length)) [.vec 3 1 (ksInt k16)]]), (7, [.b false]), (8, [.b false, .call [.own 100014] (bE k17) [.vec 3 1 (ksInt k16)]]), (9, [.b false]), (11, [.b false]), (12, [.b false]), (13, [.b false]), (14, [.b false]), (15, [.b false]), (16, [.b false]), (17, [.b false]), (18, [.b false]), (19, [.b false]), (20, [.b false]), (21, [.b false, .b false]), (22, [.b false])] [] (A (w_sp_CoreAtom n _ hk14) (A (A (Bool.eq_false_iff.2 g15) (dInt.lit [])) (A (Bool.eq_false_iff.2 g15) (A (A (Bool.eq_false_iff.2 g15) (w_sp_l13Ids n _ _ hk16)) (A (Bool.eq_false_iff.2 g15) (A (A (Bool.eq_false_iff.2 g15) (w_sp_l2Has_v n _ _ hk17)) (A (Bool.eq_false_iff.2 g15) (A (Bool.eq_false_iff.2 g18) (A (Bool.eq_false_iff.2 g18) (A (Bool.eq_false_iff.2 g18) (A (Bool.eq_false_iff.2 g18) (A (decide_eq_false g19 : decide (a2.kind = 1) = false) (A (decide_eq_false g19 : decide (a2.kind = 1) = false) (A (decide_eq_false g19 : decide (a2.kind = 1) = false) (A (decide_eq_false g19 : decide (a2.kind = 1) = false) (A (decide_eq_false g19 : decide (a2.kind = 1) = false) (A (decide_eq_false g19 : decide (a2.kind = 1) = false) (A (A (Bool.eq_false_iff.2 g18) (decide_eq_false g19 : decide (a2.kind = 1) = false)) (A (Bool.eq_false_iff.2 g18) T))))))))))))))))))) [(32, bE false)] [.o 100014 (.vec 3 1 (ksInt k16))] [] rfl (by kernel_rfl) ?_
          cases h1
          refine .kp [1, 3, 5, 6, 32] [] ?_
          refine .dr 100014 (by kernel_rfl) ?_
          exact .lf hj1 rfl [] (by kernel_rfl)
def la_FnSubstituteBack (n : Nat) (a0 : List UInt8) : Option (Bool) :=
  (if (a0.length : Int) > 1048576 then some true else (sp_DrawSubstituteVar n a0).bind fun k3 => (im_SubstituteVar n k3.1 k3.2.1 k3.2.2).bind fun k4 => (sp_SubstituteVar n k3.1 k3.2.1 k3.2.2).bind fun k5 => Option.bind ((im_CoreSame n k4.1 k5.1).bind fun k23 => (if (!k23) = true then some true else (if (!(k4.2 == k5.2)) = true then some true else some (!k4.2))) : Option (Bool)) (fun (o6 : Bool) => (if o6 = true then Option.bind ((im_CoreSame n k4.1 k5.1).bind fun k9 => (if k9 = true then some (k4.2 == k5.2) else some false) : Option (Bool)) (fun (o8 : Bool) => some o8) else Option.bind ((la_mxCoreHas n k3.1 990).bind fun k19 => (if k19 = true then some true else (im_VarUses n k3.1 990).bind fun k21 => (if k21 > 0 then some true else some (decide (k3.2.1 = 990)))) : Option (Bool)) (fun (o11 : Bool) => (if o11 = true then some true else (im_SubstituteVar n k3.1 k3.2.1 (⟨1, 990, [], 0, [], (⟨0, [], 0, [], []⟩ : Form), []⟩ : Core)).bind fun k13 => (im_SubstituteVar n k13.1 990 (⟨1, k3.2.1, [], 0, [], (⟨0, [], 0, [], []⟩ : Form), []⟩ : Core)).bind fun k14 => Option.bind ((if (!k13.2) = true then some true else (if k14.2 = true then (im_CoreSame n k14.1 k3.1).bind fun k18 => some k18 else some false)) : Option (Bool)) (fun (o15 : Bool) => some o15))))))
theorem w_la_FnSubstituteBack (n : Nat) : ∀ (a0 : List UInt8) {r : Bool}, la_FnSubstituteBack n a0 = some r → SCall X.E 5 [lE 1 (ksByte a0)] [] (bE r) [] := by
  intro a0 r h0
  rw [la_FnSubstituteBack] at h0
  refine .m Tryd.func5 rfl rfl rfl (by kernel_rfl) (fun L ks low K hl hL hlen hK => ?_)
  refine .r [] T [] rfl (by kernel_rfl) ?_
  refine .r [.v (a0.length : Int)] (A (dByte.len' a0) T) [(18, dE ((a0.length : Int) > 1048576))] rfl (by kernel_rfl) ?_
  refine .sn 0 dByte a0 (by kernel_rfl) (fun hb1 => ?_)
  refine .cP h0 rfl (by kernel_rfl) (fun hc2 h0 => ?_) (fun hc2 h0 => ?_)
  · refine .r [] T [(2, bE true)] rfl (by kernel_rfl) ?_
    cases h0
    exact .ret rfl rfl (by kernel_rfl) hK
  · obtain ⟨k3, hk3, h0⟩ := bnd h0
    refine .rf [.call [] (.tup [aE (kCore k3.1), iE k3.2.1, aE (kCore k3.2.2)]) []] (A (w_sp_DrawSubstituteVar n _ hk3) T) [(3, pw 3), (4, iE k3.2.1), (5, pw 5)] [.o 3 (.cells ((kCore k3.1).map .d)), .o 5 (.cells ((kCore k3.2.2).map .d))] rfl (by kernel_rfl) ?_
    obtain ⟨k4, hk4, h0⟩ := bnd h0
    refine .rf [.call [] (.tup [aE (kCore k4.1), bE k4.2]) []] (A (w_im_SubstituteVar n _ _ _ hk4) T) [(6, pw 6), (7, bE k4.2)] [.o 6 (.cells ((kCore k4.1).map .d))] rfl (by kernel_rfl) ?_
    obtain ⟨k5, hk5, h0⟩ := bnd h0
    refine .rf [.call [] (.tup [aE (kCore k5.1), bE k5.2]) []] (A (w_sp_SubstituteVar n _ _ _ hk5) T) [(8, pw 8), (9, bE k5.2)] [.o 8 (.cells ((kCore k5.1).map .d))] rfl (by kernel_rfl) ?_
    refine .bP h0 rfl [3, 4, 6, 7, 8, 9] (fun o6 => [(51, bE o6)]) n1 n1 (fun o6 h0 => ?_) (fun y1 h1 hj1 => ?_)
    · refine .cT h0 rfl (by kernel_rfl) (fun hc7 h0 => ?_) (fun hc7 h0 => ?_)
      · refine .bP h0 rfl [] (fun o8 => [(2, bE o8)]) n1 n1 (fun o8 h0 => ?_) (fun y1 h1 hj1 => ?_)
        · cases h0
          exact .ret rfl rfl (by kernel_rfl) hK
        · obtain ⟨k9, hk9, h1⟩ := bnd h1
          by_cases g10 : k9 = true
          · have h1 := iteP g10 h1
            refine .r [.call [] (bE k9) [], .b true, .b true, .b true, .b true] (A (w_im_CoreSame n _ _ hk9) (A g10 (A g10 (A g10 (A g10 T))))) [(2, bE (k4.2 == k5.2))] rfl (by kernel_rfl) ?_
            cases h1
            exact .lf hj1 rfl [] (by kernel_rfl)
          · have h1 := iteN g10 h1
            refine .r [.call [] (bE k9) [], .b false, .b false, .b false, .b false] (A (w_im_CoreSame n _ _ hk9) (A (Bool.eq_false_iff.2 g10) (A (Bool.eq_false_iff.2 g10) (A (Bool.eq_false_iff.2 g10) (A (Bool.eq_false_iff.2 g10) T))))) [(2, bE false)] rfl (by kernel_rfl) ?_
            cases h1
            exact .lf hj1 rfl [] (by kernel_rfl)
      · refine .rf [] T [(10, pw 10)] [.o 10 (.cells [iE 1, iE 990, sE [], iE 0, fE 1 (ksInt []), iE 0, sE [], iE 0, fE 1 (ksInt []), fE 5 (ksForm []), fE 11 (ksCore [])])] rfl (by kernel_rfl) ?_
        refine .rf [] T [(11, pw 11)] [.o 11 (.cells [iE 1, iE k3.2.1, sE [], iE 0, fE 1 (ksInt []), iE 0, sE [], iE 0, fE 1 (ksInt []), fE 5 (ksForm []), fE 11 (ksCore [])])] rfl (by kernel_rfl) ?_
        refine .bP h0 rfl [3, 4, 10, 11] (fun o11 => [(73, bE o11)]) n1 n1 (fun o11 h0 => ?_) (fun y1 h1 hj1 => ?_)
        · refine .cT h0 rfl (by kernel_rfl) (fun hc12 h0 => ?_) (fun hc12 h0 => ?_)
          · refine .r [] T [(2, bE true)] rfl (by kernel_rfl) ?_
            cases h0
            exact .ret rfl rfl (by kernel_rfl) hK
          · obtain ⟨k13, hk13, h0⟩ := bnd h0
            refine .rf [.call [] (.tup [aE (kCore k13.1), bE k13.2]) []] (A (w_im_SubstituteVar n _ _ _ hk13) T) [(12, pw 12), (13, bE k13.2)] [.o 12 (.cells ((kCore k13.1).map .d))] rfl (by kernel_rfl) ?_
            obtain ⟨k14, hk14, h0⟩ := bnd h0
            refine .rf [.call [] (.tup [aE (kCore k14.1), bE k14.2]) []] (A (w_im_SubstituteVar n _ _ _ hk14) T) [(14, pw 14), (15, bE k14.2)] [.o 14 (.cells ((kCore k14.1).map .d))] rfl (by kernel_rfl) ?_
            refine .bP h0 rfl [] (fun o15 => [(2, bE o15)]) n1 n1 (fun o15 h0 => ?_) (fun y1 h1 hj1 => ?_)
            · cases h0
              exact .ret rfl rfl (by kernel_rfl) hK
            · by_cases g16 : (!k13.2) = true
              · have h1 := iteP g16 h1
                refine .r [.b true, .b true, .b true, .b true] (A g16 (A g16 (A g16 (A g16 T)))) [(2, bE true)] rfl (by kernel_rfl) ?_
                cases h1
                exact .lf hj1 rfl [] (by kernel_rfl)
              · have h1 := iteN g16 h1
                by_cases g17 : k14.2 = true
                · have h1 := iteP g17 h1
                  obtain ⟨k18, hk18, h1⟩ := bnd h1
                  refine .r [.b false, .b false, .b true, .b true, .b true, .call [] (bE k18) [], .b false, .b true, .b false] (A (Bool.eq_false_iff.2 g16) (A (Bool.eq_false_iff.2 g16) (A g17 (A g17 (A (A g17 (w_im_CoreSame n _ _ hk18)) (A (A (Bool.eq_false_iff.2 g16) g17) (A (Bool.eq_false_iff.2 g16) T))))))) [(2, bE k18)] rfl (by kernel_rfl) ?_
                  cases h1
                  exact .lf hj1 rfl [] (by kernel_rfl)
                · have h1 := iteN g17 h1
                  refine .r [.b false, .b false, .b false, .b false, .b false, .b false, .b false, .b false] (A (Bool.eq_false_iff.2 g16) (A (Bool.eq_false_iff.2 g16) (A (Bool.eq_false_iff.2 g17) (A (Bool.eq_false_iff.2 g17) (A (Bool.eq_false_iff.2 g17) (A (A (Bool.eq_false_iff.2 g16) (Bool.eq_false_iff.2 g17)) (A (Bool.eq_false_iff.2 g16) T))))))) [(2, bE false)] rfl (by kernel_rfl) ?_
                  cases h1
                  exact .lf hj1 rfl [] (by kernel_rfl)
        · obtain ⟨k19, hk19, h1⟩ := bnd h1
          by_cases g20 : k19 = true
          · have h1 := iteP g20 h1
            refine .r [.call [] (bE k19) [], .b true, .b true, .b true, .b true, .b true, .b true, .b true] (A (w_la_mxCoreHas n _ _ hk19) (A g20 (A g20 (A g20 (A g20 (A (rfl : true = true) (A (rfl : true = true) (A (rfl : true = true) T)))))))) [(73, bE true)] rfl (by kernel_rfl) ?_
            cases h1
            exact .lf hj1 rfl [] (by kernel_rfl)
          · have h1 := iteN g20 h1
            obtain ⟨k21, hk21, h1⟩ := bnd h1
            by_cases g22 : k21 > 0
            · have h1 := iteP g22 h1
              refine .r [.call [] (bE k19) [], .b false, .b false, .call [] (iE k21) [], .b false, .b false, .b true, .b true, .b true] (A (w_la_mxCoreHas n _ _ hk19) (A (Bool.eq_false_iff.2 g20) (A (A (Bool.eq_false_iff.2 g20) (w_im_VarUses n _ _ hk21)) (A (Bool.eq_false_iff.2 g20) (A (Bool.eq_false_iff.2 g20) (A (decide_eq_true g22 : decide (k21 > 0) = true) (A (decide_eq_true g22 : decide (k21 > 0) = true) (A (decide_eq_true g22 : decide (k21 > 0) = true) T)))))))) [(73, bE true)] rfl (by kernel_rfl) ?_
              cases h1
              exact .lf hj1 rfl [] (by kernel_rfl)
            · have h1 := iteN g22 h1
              refine .r [.call [] (bE k19) [], .b false, .b false, .call [] (iE k21) [], .b false, .b false, .b false, .b false, .b false] (A (w_la_mxCoreHas n _ _ hk19) (A (Bool.eq_false_iff.2 g20) (A (A (Bool.eq_false_iff.2 g20) (w_im_VarUses n _ _ hk21)) (A (Bool.eq_false_iff.2 g20) (A (Bool.eq_false_iff.2 g20) (A (decide_eq_false g22 : decide (k21 > 0) = false) (A (decide_eq_false g22 : decide (k21 > 0) = false) (A (decide_eq_false g22 : decide (k21 > 0) = false) T)))))))) [(73, dE (k3.2.1 = 990))] rfl (by kernel_rfl) ?_
              cases h1
              exact .lf hj1 rfl [] (by kernel_rfl)
    · obtain ⟨k23, hk23, h1⟩ := bnd h1
      by_cases g24 : (!k23) = true
      · have h1 := iteP g24 h1
        refine .r [.call [] (bE k23) [], .b true, .b true, .b true, .b true, .b true, .b true, .b true] (A (w_im_CoreSame n _ _ hk23) (A g24 (A g24 (A g24 (A g24 (A (rfl : true = true) (A (rfl : true = true) (A (rfl : true = true) T)))))))) [(51, bE true)] rfl (by kernel_rfl) ?_
        cases h1
        exact .lf hj1 rfl [] (by kernel_rfl)
      · have h1 := iteN g24 h1
        by_cases g25 : (!(k4.2 == k5.2)) = true
        · have h1 := iteP g25 h1
          refine .r [.call [] (bE k23) [], .b false, .b false, .b false, .b false, .b true, .b true, .b true] (A (w_im_CoreSame n _ _ hk23) (A (Bool.eq_false_iff.2 g24) (A (Bool.eq_false_iff.2 g24) (A (Bool.eq_false_iff.2 g24) (A (Bool.eq_false_iff.2 g24) (A g25 (A g25 (A g25 T)))))))) [(51, bE true)] rfl (by kernel_rfl) ?_
          cases h1
          exact .lf hj1 rfl [] (by kernel_rfl)
        · have h1 := iteN g25 h1
          refine .r [.call [] (bE k23) [], .b false, .b false, .b false, .b false, .b false, .b false, .b false] (A (w_im_CoreSame n _ _ hk23) (A (Bool.eq_false_iff.2 g24) (A (Bool.eq_false_iff.2 g24) (A (Bool.eq_false_iff.2 g24) (A (Bool.eq_false_iff.2 g24) (A (Bool.eq_false_iff.2 g25) (A (Bool.eq_false_iff.2 g25) (A (Bool.eq_false_iff.2 g25) T)))))))) [(51, bE (!k4.2))] rfl (by kernel_rfl) ?_
          cases h1
          exact .lf hj1 rfl [] (by kernel_rfl)
end Go.Ev
