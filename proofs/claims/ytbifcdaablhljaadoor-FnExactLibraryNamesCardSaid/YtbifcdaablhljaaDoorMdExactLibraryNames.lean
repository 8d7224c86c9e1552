/- Models of the functions that FnExactLibraryNames reaches. No condition. -/
import Derived.Test.YtbifcdaablhljaaDoorEvTri
import Derived.Test.YtbifcdaablhljaaDoorProg
import Derived.KernelRfl
namespace Go.Ev
open Go.Proofs Go.Mx
set_option linter.unusedVariables false
set_option maxRecDepth 10000
def tT : List (Nat × (Nat × Nat × Shp)) := [(3, (1, 8, .int .i64)), (5, (1, 1, .int .u8)), (9, (1, 16, .str)), (25, (1, 24, .slice 9)), (59, (1, 24, .slice 5)), (64, (7, 112, .array 7 9))]
def tZ : List (Nat × List KD) := [(5, [.v (.int .u8 0)]), (9, [.s []])]
theorem tT_ok : allT (fun i x => tShape Tryd.prog i = some x) tT := by
  refine ⟨?_, ?_, ?_, ?_, ?_, ?_, trivial⟩ <;> (show tShape _ _ = _; kernel_rfl)
theorem tZ_ok : allT (fun i x => ∃ zs, tZero Tryd.prog i = some zs ∧ ZeroL (KD.DL x) zs) tZ :=
  ⟨⟨_, (by kernel_rfl : tZero Tryd.prog 5 = some [.int .u8 0]), (.v .nil)⟩, ⟨_, (by kernel_rfl : tZero Tryd.prog 9 = some [.string (mkS [])]), (.v .nil)⟩, trivial⟩
def lp0 : List (List UInt8) := [[97, 110, 100], [111, 114], [110, 111, 116], [119, 104, 101, 110], [99, 111, 110, 100], [108, 101, 116, 42], [115, 119, 97, 112]]
def gp0 : List KD := [.s [97, 110, 100], .s [111, 114], .s [110, 111, 116], .s [119, 104, 101, 110], .s [99, 111, 110, 100], .s [108, 101, 116, 42], .s [115, 119, 97, 112]]
def globK : Nat → KD
  | 0 => .ro gp0
  | _ => .any
noncomputable def E0 : Setting := ⟨Tryd.prog, fun g => (globK g).D, fun g => KD.keyless _ _⟩
noncomputable def X : Ctx := ⟨E0, globK, fun _ => rfl, ⟨lkT tT, lkT tZ, lk_all tT_ok, lk_all tZ_ok⟩⟩
theorem mixed : X.E.P.follows .mixedOrders = true := by kernel_rfl
def slices_Clone_string (n : Nat) (a0 : List (List UInt8)) : Option (List (List UInt8)) :=
  (apB 16 [] a0).bind fun z1 => some z1
theorem w_slices_Clone_string (n : Nat) : ∀ (a0 : List (List UInt8)) {r : List (List UInt8)}, slices_Clone_string n a0 = some r → SCall X.E 43 [lE 1 (ksStr a0)] [] (lE 1 (ksStr r)) [] := by
  intro a0 r h0
  rw [slices_Clone_string] at h0
  refine .m Tryd.func43 rfl rfl rfl (by kernel_rfl) (fun L ks low K hl hL hlen hK => ?_)
  refine .r [] T [] rfl (by kernel_rfl) ?_
  refine .nq rfl (by kernel_rfl) rfl rfl (fun e => ?_) ?_
  · have e : a0 = [] := by cases a0 with
      | nil => rfl
      | cons x q => rw [dStr.eq] at e; cases e
    subst e
    have e : r = [] := by simp [apB] at h0; exact h0
    subst e
    refine .cB true rfl (by kernel_rfl) ?_
    refine .r [] T [(2, fE 1 (ksStr []))] rfl (by kernel_rfl) ?_
    refine .kp [2] [] ?_
    refine .owV 2 400002 9 [] rfl rfl (by kernel_rfl) ?_
    refine .ft 2 400002 [] dStr [] rfl (by kernel_rfl) ?_
    exact .ret rfl rfl (by kernel_rfl) hK
  · refine .cB false rfl (by kernel_rfl) ?_
    obtain ⟨z1, hz1, h0⟩ := bnd h0
    refine .rf [.sv (ksStr []), .mv 7, .sv (ksStr z1)] (A (dStr.lit []) (A (dStr.ap0 hz1) T)) [(2, .vs (.own 100007) 1 (ksStr z1).length)] [.o 100007 (.vec 9 1 (ksStr z1))] rfl (by kernel_rfl) ?_
    refine .kp [2] [] ?_
    cases h0
    refine .ft 2 100007 [] dStr r rfl (by kernel_rfl) ?_
    exact .ret rfl rfl (by kernel_rfl) hK
def im_LibraryNames (n : Nat)  : Option (List (List UInt8)) :=
  (slices_Clone_string n lp0).bind fun k1 => some k1
theorem w_im_LibraryNames (n : Nat) : ∀ {r : List (List UInt8)}, im_LibraryNames n  = some r → SCall X.E 13 [] [] (lE 1 (ksStr r)) [] := by
  intro r h0
  rw [im_LibraryNames] at h0
  refine .m Tryd.func13 rfl rfl rfl (by kernel_rfl) (fun L ks low K hl hL hlen hK => ?_)
  refine .r [] T [] rfl (by kernel_rfl) ?_
  obtain ⟨k1, hk1, h0⟩ := bnd h0
  refine .r [.call [] (lE 1 (ksStr k1)) []] (A (w_slices_Clone_string n _ hk1) T) [(0, lE 1 (ksStr k1))] rfl (by kernel_rfl) ?_
  cases h0
  exact .ret rfl rfl (by kernel_rfl) hK
def la_eqStringS (n : Nat) (a0 : List (List UInt8)) (a1 : List (List UInt8)) : Option (Bool) :=
  (if ¬ (a0.length : Int) = (a1.length : Int) then some false else seqS (forI (fun (s5 : Unit) (i4 : Nat) (x7 : List UInt8) => ((atI a1 (i4 : Int)).bind fun e12 => (if ¬ x7 = e12 then some (Sum.inl false) else some (Sum.inr ())) : Option (Bool ⊕ Unit))) 0 a0 ()) (fun (s5 : Unit) => some true))
theorem w_la_eqStringS (n : Nat) : ∀ (a0 : List (List UInt8)) (a1 : List (List UInt8)) {r : Bool}, la_eqStringS n a0 a1 = some r → SCall X.E 14 [lE 1 (ksStr a0), lE 1 (ksStr a1)] [] (bE r) [] := by
  intro a0 a1 r h0
  rw [la_eqStringS] at h0
  refine .m Tryd.func14 rfl rfl rfl (by kernel_rfl) (fun L ks low K hl hL hlen hK => ?_)
  refine .r [] T [] rfl (by kernel_rfl) ?_
  refine .r [.v (a0.length : Int), .v (a1.length : Int)] (A (dStr.len' a0) (A (dStr.len' a1) T)) [(10, dE (¬ (a0.length : Int) = (a1.length : Int)))] rfl (by kernel_rfl) ?_
  refine .sn 0 dStr a0 (by kernel_rfl) (fun hb1 => ?_)
  refine .sn 1 dStr a1 (by kernel_rfl) (fun hb2 => ?_)
  refine .cP h0 rfl (by kernel_rfl) (fun hc3 h0 => ?_) (fun hc3 h0 => ?_)
  · refine .r [] T [(4, bE false)] rfl (by kernel_rfl) ?_
    cases h0
    exact .ret rfl rfl (by kernel_rfl) hK
  · refine .r [] T [(5, iE 0)] rfl (by kernel_rfl) ?_
    refine .lI h0 rfl [0, 1] (fun i4 s5 => [(5, iE (i4 : Int))]) n2 n2 [] (by kernel_rfl) (fun i4 s5 q6 hd8 hi10 h0 => ?_)
    refine .r [.v (a0.length : Int)] (A (dStr.len' a0) T) [(14, dE ((i4 : Int) < (a0.length : Int)))] rfl (by kernel_rfl) ?_
    refine .lc hd8 rfl (by kernel_rfl) (fun x7 q62 hc11 hx7 hd9 hd9l => ?_) (fun hc11 => ?_)
    · subst hc11
      obtain ⟨y1, h1, hw1, hn1⟩ := forI_cons h0
      obtain ⟨e12, he12, h1⟩ := bnd h1
      refine .rd mixed [(2, [.cs [.s x7]]), (6, [.cs [.s e12]])] [] (A (dStr.idn hx7) (A (dStr.idx he12) T)) [(25, dE (¬ x7 = e12))] [] [] rfl (by kernel_rfl) ?_
      refine .cP h1 rfl (by kernel_rfl) (fun hc13 h1 => ?_) (fun hc13 h1 => ?_)
      · refine .r [] T [(4, bE false)] rfl (by kernel_rfl) ?_
        cases h1
        cases hw1 _ rfl
        exact .ret rfl rfl (by kernel_rfl) hK
      · refine .r [.v ((i4 + 1 : Nat) : Int)] (A (wn (i := i4) (by omega)) T) [(5, iE ((i4 + 1 : Nat) : Int))] rfl (by kernel_rfl) ?_
        cases h1
        exact .nL rfl (i4 + 1) _ hd9 hd9l (hn1 _ rfl) [] (by kernel_rfl)
    · subst hc11
      have h0 := forI_nil h0
      refine .r [] T [(4, bE true)] rfl (by kernel_rfl) ?_
      cases h0
      exact .ret rfl rfl (by kernel_rfl) hK
theorem w_la_eqStringS_v (n : Nat) : ∀ (a0 : List (List UInt8)) (a1 : List (List UInt8)) {r : Bool}, la_eqStringS n a0 a1 = some r → SCall X.E 14 [.vs (.low 0) 1 ((ksStr a0).length), lE 1 (ksStr a1)] [some (.vec 9 1 (ksStr a0))] (bE r) [.vec 9 1 (ksStr a0)] := by
  intro a0 a1 r h0
  rw [la_eqStringS] at h0
  refine .m Tryd.func14 rfl rfl rfl (by kernel_rfl) (fun L ks low K hl hL hlen hK => ?_)
  refine .r [] T [] rfl (by kernel_rfl) ?_
  refine .r [.v (a0.length : Int), .v (a1.length : Int)] (A (dStr.len' a0) (A (dStr.len' a1) T)) [(10, dE (¬ (a0.length : Int) = (a1.length : Int)))] rfl (by kernel_rfl) ?_
  refine .snV 0 dStr a0 (by kernel_rfl) (fun hb1 => ?_)
  refine .sn 1 dStr a1 (by kernel_rfl) (fun hb2 => ?_)
  refine .cP h0 rfl (by kernel_rfl) (fun hc3 h0 => ?_) (fun hc3 h0 => ?_)
  · refine .r [] T [(4, bE false)] rfl (by kernel_rfl) ?_
    cases h0
    exact .ret rfl rfl (by kernel_rfl) hK
  · refine .r [] T [(5, iE 0)] rfl (by kernel_rfl) ?_
    refine .lI h0 rfl [0, 1] (fun i4 s5 => [(5, iE (i4 : Int))]) n2 n2 [] (by kernel_rfl) (fun i4 s5 q6 hd8 hi10 h0 => ?_)
    refine .r [.v (a0.length : Int)] (A (dStr.len' a0) T) [(14, dE ((i4 : Int) < (a0.length : Int)))] rfl (by kernel_rfl) ?_
    refine .lc hd8 rfl (by kernel_rfl) (fun x7 q62 hc11 hx7 hd9 hd9l => ?_) (fun hc11 => ?_)
    · subst hc11
      obtain ⟨y1, h1, hw1, hn1⟩ := forI_cons h0
      obtain ⟨e12, he12, h1⟩ := bnd h1
      refine .rd mixed [(3, [.cs [.s x7]]), (6, [.cs [.s e12]])] [] (A (A (dStr.inv (inB_of hx7) (rfl : (ksStr a0).length = (ksStr a0).length)) (rfl : (ksStr a0).length = (ksStr a0).length)) (A (A (A (dStr.rows a0) (dStr.ixr hx7)) (rfl : (ksStr a0).length = (ksStr a0).length)) (A (dStr.idx he12) T))) [(25, dE (¬ x7 = e12))] [] [] rfl (by kernel_rfl) ?_
      refine .cP h1 rfl (by kernel_rfl) (fun hc13 h1 => ?_) (fun hc13 h1 => ?_)
      · refine .r [] T [(4, bE false)] rfl (by kernel_rfl) ?_
        cases h1
        cases hw1 _ rfl
        exact .ret rfl rfl (by kernel_rfl) hK
      · refine .r [.v ((i4 + 1 : Nat) : Int)] (A (wn (i := i4) (by omega)) T) [(5, iE ((i4 + 1 : Nat) : Int))] rfl (by kernel_rfl) ?_
        cases h1
        exact .nL rfl (i4 + 1) _ hd9 hd9l (hn1 _ rfl) [] (by kernel_rfl)
    · subst hc11
      have h0 := forI_nil h0
      refine .r [] T [(4, bE true)] rfl (by kernel_rfl) ?_
      cases h0
      exact .ret rfl rfl (by kernel_rfl) hK
def la_markText (n : Nat) (a0 : Int) : Option (List UInt8) :=
  (if a0 ≤ 0 then some [109, 48] else iterM n (fun (s2 : Int × (List UInt8)) => ((if s2.1 > 0 then (remI s2.1 10).bind fun z5 => (u8B (IntKind.u8.wrap (w64 (48 + z5)))).bind fun y6 => (catS [y6] s2.2).bind fun z7 => (quoI s2.1 10).bind fun z8 => some (Sum.inr (z8, z7)) else (catS [109] s2.2).bind fun z9 => some (Sum.inl z9)) : Option ((List UInt8) ⊕ (Int × (List UInt8))))) (a0, []))
theorem w_la_markText (n : Nat) : ∀ (a0 : Int) {r : List UInt8}, la_markText n a0 = some r → SCall X.E 44 [iE a0] [] (sE r) [] := by
  intro a0 r h0
  rw [la_markText] at h0
  refine .m Tryd.func44 rfl rfl rfl (by kernel_rfl) (fun L ks low K hl hL hlen hK => ?_)
  refine .r [] T [] rfl (by kernel_rfl) ?_
  refine .r [] T [(5, dE (a0 ≤ 0))] rfl (by kernel_rfl) ?_
  refine .cP h0 rfl (by kernel_rfl) (fun hc1 h0 => ?_) (fun hc1 h0 => ?_)
  · refine .r [] T [(2, sE [109, 48])] rfl (by kernel_rfl) ?_
    cases h0
    exact .ret rfl rfl (by kernel_rfl) hK
  · refine .r [] T [(3, sE [])] rfl (by kernel_rfl) ?_
    refine .it h0 rfl [] (fun s2 => [(0, iE s2.1), (3, sE s2.2)]) n1 n1 [] (by kernel_rfl) (fun n3 s2 h0 => ?_)
    obtain ⟨y1, h1, hw1, hn1⟩ := iter_cons h0
    refine .r [] T [(7, dE (s2.1 > 0))] rfl (by kernel_rfl) ?_
    refine .cP h1 rfl (by kernel_rfl) (fun hc4 h1 => ?_) (fun hc4 h1 => ?_)
    · obtain ⟨z5, hz5, h1⟩ := bnd h1
      obtain ⟨y6, hy6, h1⟩ := bnd h1
      obtain ⟨z7, hz7, h1⟩ := bnd h1
      refine .r [.v z5, .pl, .pl, .sv (ksByte [y6]), .st [y6], .st z7] (A (rem_ok hz5) (A (by rw [u8B_ok hy6]; rfl : [[KD.v (.int .u8 (IntKind.u8.wrap (w64 (48 + z5))))]] = ksByte [y6]) (A (cvB [y6]) (A (cat_ok hz7) T)))) [(3, sE z7)] rfl (by kernel_rfl) ?_
      obtain ⟨z8, hz8, h1⟩ := bnd h1
      refine .r [.v z8] (A (quo_ok hz8) T) [(0, iE z8)] rfl (by kernel_rfl) ?_
      cases h1
      exact .nI rfl _ (hn1 _ rfl) [] (by kernel_rfl)
    · obtain ⟨z9, hz9, h1⟩ := bnd h1
      refine .r [.st z9] (A (cat_ok hz9) T) [(2, sE z9)] rfl (by kernel_rfl) ?_
      cases h1
      cases hw1 _ rfl
      exact .ret rfl rfl (by kernel_rfl) hK
def la_heldStringS_v (n : Nat) (a0 : List (List UInt8)) (a1 : Int) : Option (Int) :=
  seqS (forI (fun (s2 : Int) (i1 : Nat) (x4 : List UInt8) => ((la_markText n s2).bind fun k10 => (if ¬ x4 = k10 then some (Sum.inl (-1)) else some (Sum.inr (w64 (s2 + 1)))) : Option (Int ⊕ Int))) 0 a0 a1) (fun (s2 : Int) => some s2)
theorem w_la_heldStringS_v (n : Nat) : ∀ (a0 : List (List UInt8)) (a1 : Int) {r : Int}, la_heldStringS_v n a0 a1 = some r → SCall X.E 16 [.vs (.low 0) 1 ((ksStr a0).length), iE a1] [some (.vec 9 1 (ksStr a0))] (iE r) [.vec 9 1 (ksStr a0)] := by
  intro a0 a1 r h0
  rw [la_heldStringS_v] at h0
  refine .m Tryd.func16 rfl rfl rfl (by kernel_rfl) (fun L ks low K hl hL hlen hK => ?_)
  refine .r [] T [] rfl (by kernel_rfl) ?_
  refine .r [] T [(5, iE 0)] rfl (by kernel_rfl) ?_
  refine .lI h0 rfl [0] (fun i1 s2 => [(1, iE s2), (5, iE (i1 : Int))]) n2 n2 [] (by kernel_rfl) (fun i1 s2 q3 hd5 hi7 h0 => ?_)
  refine .r [.v (a0.length : Int)] (A (dStr.len' a0) T) [(9, dE ((i1 : Int) < (a0.length : Int)))] rfl (by kernel_rfl) ?_
  refine .snV 0 dStr a0 (by kernel_rfl) (fun hb8 => ?_)
  refine .lc hd5 rfl (by kernel_rfl) (fun x4 q32 hc9 hx4 hd6 hd6l => ?_) (fun hc9 => ?_)
  · subst hc9
    obtain ⟨y1, h1, hw1, hn1⟩ := forI_cons h0
    obtain ⟨k10, hk10, h1⟩ := bnd h1
    refine .rd mixed [(3, [.cs [.s x4]]), (5, [.call [] (sE k10) []])] [] (A (A (dStr.inv (inB_of hx4) (rfl : (ksStr a0).length = (ksStr a0).length)) (rfl : (ksStr a0).length = (ksStr a0).length)) (A (A (A (dStr.rows a0) (dStr.ixr hx4)) (rfl : (ksStr a0).length = (ksStr a0).length)) (A (w_la_markText n _ hk10) T))) [(18, dE (¬ x4 = k10))] [] [] rfl (by kernel_rfl) ?_
    refine .cP h1 rfl (by kernel_rfl) (fun hc11 h1 => ?_) (fun hc11 h1 => ?_)
    · refine .r [] T [(4, iE (-1))] rfl (by kernel_rfl) ?_
      cases h1
      cases hw1 _ rfl
      exact .ret rfl rfl (by kernel_rfl) hK
    · refine .r [.pl] T [(1, iE (w64 (s2 + 1)))] rfl (by kernel_rfl) ?_
      refine .r [.v ((i1 + 1 : Nat) : Int)] (A (wn (i := i1) (by omega)) T) [(5, iE ((i1 + 1 : Nat) : Int))] rfl (by kernel_rfl) ?_
      cases h1
      exact .nL rfl (i1 + 1) _ hd6 hd6l (hn1 _ rfl) [] (by kernel_rfl)
  · subst hc9
    have h0 := forI_nil h0
    refine .r [] T [(4, iE s2)] rfl (by kernel_rfl) ?_
    cases h0
    exact .ret rfl rfl (by kernel_rfl) hK
def la_markStringS (n : Nat) (a0 : List (List UInt8)) (a1 : Int) : Option (Int × (List (List UInt8))) :=
  iterM n (fun (s1 : Int × Int × (List (List UInt8))) => ((if s1.2.1 < (s1.2.2.length : Int) then (la_markText n s1.1).bind fun k5 => (inB s1.2.1 s1.2.2.length).bind fun u6 => (s1.2.2[(Int.toNat s1.2.1)]?).bind fun e7 => some (Sum.inr ((w64 (s1.1 + 1)), (w64 (s1.2.1 + 1)), (s1.2.2.set (Int.toNat s1.2.1) k5))) else some (Sum.inl (s1.1, s1.2.2))) : Option ((Int × (List (List UInt8))) ⊕ (Int × Int × (List (List UInt8)))))) (a1, 0, a0)
theorem w_la_markStringS (n : Nat) : ∀ (a0 : List (List UInt8)) (a1 : Int) {r : Int × (List (List UInt8))}, la_markStringS n a0 a1 = some r → SCall X.E 15 [.vs (.low 0) 1 ((ksStr a0).length), iE a1] [some (.vec 9 1 (ksStr a0))] (iE r.1) [.vec 9 1 (ksStr r.2)] := by
  intro a0 a1 r h0
  rw [la_markStringS] at h0
  refine .m Tryd.func15 rfl rfl rfl (by kernel_rfl) (fun L ks low K hl hL hlen hK => ?_)
  refine .r [] T [] rfl (by kernel_rfl) ?_
  refine .r [] T [(5, iE 0)] rfl (by kernel_rfl) ?_
  refine .it h0 rfl [] (fun s1 => [(0, .vs (.low 0) 1 ((ksStr s1.2.2).length)), (1, iE s1.1), (5, iE s1.2.1)]) n1 (fun s1 => [.o 0 (.vec 9 1 (ksStr s1.2.2))]) [] (by kernel_rfl) (fun n2 s1 h0 => ?_)
  obtain ⟨y1, h1, hw1, hn1⟩ := iter_cons h0
  refine .r [.v (s1.2.2.length : Int)] (A (dStr.len' s1.2.2) T) [(9, dE (s1.2.1 < (s1.2.2.length : Int)))] rfl (by kernel_rfl) ?_
  refine .snV 0 dStr s1.2.2 (by kernel_rfl) (fun hb3 => ?_)
  refine .cP h1 rfl (by kernel_rfl) (fun hc4 h1 => ?_) (fun hc4 h1 => ?_)
  · obtain ⟨k5, hk5, h1⟩ := bnd h1
    obtain ⟨u6, hu6, h1⟩ := bnd h1
    obtain ⟨e7, he7, h1⟩ := bnd h1
    refine .ro [.call [] (sE k5) [], .cs [.s e7], .sv (ksStr (s1.2.2.set (Int.toNat s1.2.1) k5))] (A (w_la_markText n _ hk5) (A (A (dStr.inv hu6 (rfl : (ksStr s1.2.2).length = (ksStr s1.2.2).length)) (rfl : (ksStr s1.2.2).length = (ksStr s1.2.2).length)) (A (A (A (A (dStr.rows s1.2.2) (dStr.ixr he7)) (rfl : (ksStr s1.2.2).length = (ksStr s1.2.2).length)) (dStr.seti s1.2.2 (Int.toNat s1.2.1) k5)) T))) [(0, .vs (.low 0) 1 ((ksStr s1.2.2).length))] [.o 0 (.vec 9 1 (ksStr (s1.2.2.set (Int.toNat s1.2.1) k5)))] rfl (by kernel_rfl) ?_
    refine .rn (by simp only [dStr.length, List.length_set] : (ksStr s1.2.2).length = (ksStr (s1.2.2.set (Int.toNat s1.2.1) k5)).length) (fun n8 => [(0, .vs (.low 0) 1 n8)]) (fun n8 => []) (fun n8 => []) (by kernel_rfl) ?_
    refine .r [.pl] T [(1, iE (w64 (s1.1 + 1)))] rfl (by kernel_rfl) ?_
    refine .r [.pl] T [(5, iE (w64 (s1.2.1 + 1)))] rfl (by kernel_rfl) ?_
    cases h1
    exact .nI rfl _ (hn1 _ rfl) [] (by kernel_rfl)
  · refine .r [] T [(4, iE s1.1)] rfl (by kernel_rfl) ?_
    cases h1
    cases hw1 _ rfl
    exact .ret rfl rfl (by kernel_rfl) hK
def sp_l11Names (n : Nat)  : Option (List (List UInt8)) :=
  some [[97, 110, 100], [111, 114], [110, 111, 116], [119, 104, 101, 110], [99, 111, 110, 100], [108, 101, 116, 42], [115, 119, 97, 112]]
theorem w_sp_l11Names (n : Nat) : ∀ {r : List (List UInt8)}, sp_l11Names n  = some r → SCall X.E 40 [] [] (lE 1 (ksStr r)) [] := by
  intro r h0
  rw [sp_l11Names] at h0
  refine .m Tryd.func40 rfl rfl rfl (by kernel_rfl) (fun L ks low K hl hL hlen hK => ?_)
  refine .r [] T [] rfl (by kernel_rfl) ?_
  refine .r [.sv (ksStr [[97, 110, 100], [111, 114], [110, 111, 116], [119, 104, 101, 110], [99, 111, 110, 100], [108, 101, 116, 42], [115, 119, 97, 112]])] (A (dStr.lit [[97, 110, 100], [111, 114], [110, 111, 116], [119, 104, 101, 110], [99, 111, 110, 100], [108, 101, 116, 42], [115, 119, 97, 112]]) T) [(0, fE 1 (ksStr [[97, 110, 100], [111, 114], [110, 111, 116], [119, 104, 101, 110], [99, 111, 110, 100], [108, 101, 116, 42], [115, 119, 97, 112]]))] rfl (by kernel_rfl) ?_
  cases h0
  exact .ret rfl rfl (by kernel_rfl) hK
def sp_LibraryNames (n : Nat)  : Option (List (List UInt8)) :=
  (sp_l11Names n).bind fun k1 => some k1
theorem w_sp_LibraryNames (n : Nat) : ∀ {r : List (List UInt8)}, sp_LibraryNames n  = some r → SCall X.E 12 [] [] (lE 1 (ksStr r)) [] := by
  intro r h0
  rw [sp_LibraryNames] at h0
  refine .m Tryd.func12 rfl rfl rfl (by kernel_rfl) (fun L ks low K hl hL hlen hK => ?_)
  refine .r [] T [] rfl (by kernel_rfl) ?_
  obtain ⟨k1, hk1, h0⟩ := bnd h0
  refine .r [.call [] (lE 1 (ksStr k1)) []] (A (w_sp_l11Names n  hk1) T) [(0, lE 1 (ksStr k1))] rfl (by kernel_rfl) ?_
  cases h0
  exact .ret rfl rfl (by kernel_rfl) hK
theorem w_slices_Clone_string_o (n : Nat) : ∀ (a0 : List (List UInt8)) {r : List (List UInt8)}, slices_Clone_string n a0 = some r → SCall X.E 43 [lE 1 (ksStr a0)] [none] (.vs (.low 0) 1 ((ksStr r).length)) [.vec 9 1 (ksStr r)] := by
  intro a0 r h0
  rw [slices_Clone_string] at h0
  refine .m Tryd.func43 rfl rfl rfl (by kernel_rfl) (fun L ks low K hl hL hlen hK => ?_)
  refine .r [] T [] rfl (by kernel_rfl) ?_
  refine .nq rfl (by kernel_rfl) rfl rfl (fun e => ?_) ?_
  · have e : a0 = [] := by cases a0 with
      | nil => rfl
      | cons x q => rw [dStr.eq] at e; cases e
    subst e
    have e : r = [] := by simp [apB] at h0; exact h0
    subst e
    refine .cB true rfl (by kernel_rfl) ?_
    refine .r [] T [(2, fE 1 (ksStr []))] rfl (by kernel_rfl) ?_
    refine .kp [2] [] ?_
    refine .owV 2 400002 9 [] rfl rfl (by kernel_rfl) ?_
    refine .mv 2 400002 0 [] (by kernel_rfl) ?_
    exact .ret rfl rfl (by kernel_rfl) hK
  · refine .cB false rfl (by kernel_rfl) ?_
    obtain ⟨z1, hz1, h0⟩ := bnd h0
    refine .rf [.sv (ksStr []), .mv 7, .sv (ksStr z1)] (A (dStr.lit []) (A (dStr.ap0 hz1) T)) [(2, .vs (.own 100007) 1 (ksStr z1).length)] [.o 100007 (.vec 9 1 (ksStr z1))] rfl (by kernel_rfl) ?_
    refine .kp [2] [] ?_
    cases h0
    refine .mv 2 100007 0 [] (by kernel_rfl) ?_
    exact .ret rfl rfl (by kernel_rfl) hK
theorem w_im_LibraryNames_o (n : Nat) : ∀ {r : List (List UInt8)}, im_LibraryNames n  = some r → SCall X.E 13 [] [none] (.vs (.low 0) 1 ((ksStr r).length)) [.vec 9 1 (ksStr r)] := by
  intro  r h0
  rw [im_LibraryNames] at h0
  refine .m Tryd.func13 rfl rfl rfl (by kernel_rfl) (fun L ks low K hl hL hlen hK => ?_)
  refine .r [] T [] rfl (by kernel_rfl) ?_
  obtain ⟨k1, hk1, h0⟩ := bnd h0
  refine .rf [.call [.own 300020] (.vs (.low 0) 1 ((ksStr k1).length)) [.vec 9 1 (ksStr k1)]] (A (w_slices_Clone_string_o n _ hk1) T) [(0, .vs (.own 300020) 1 ((ksStr k1).length))] [.o 300020 (.vec 9 1 (ksStr k1))] rfl (by kernel_rfl) ?_
  refine .kp [0] [] ?_
  refine .mv 0 300020 0 [] (by kernel_rfl) ?_
  cases h0
  exact .ret rfl rfl (by kernel_rfl) hK
def la_FnExactLibraryNames (n : Nat)  : Option (Bool) :=
  (sp_LibraryNames n).bind fun k1 => (im_LibraryNames n).bind fun k2 => (la_eqStringS n k2 k1).bind fun k3 => (if (!k3) = true then some false else (la_markStringS n k2 1).bind fun k5 => (lenB k5.2 k2.length).bind fun u6 => (la_heldStringS_v n k5.2 1).bind fun k8 => (if k8 < 0 then some false else (if ¬ k8 = k5.1 then some false else (im_LibraryNames n).bind fun k11 => (la_eqStringS n k11 k1).bind fun k12 => (if (!k12) = true then some false else (la_heldStringS_v n k5.2 1).bind fun k14 => (if k14 < 0 then some false else (if ¬ k14 = k5.1 then some false else some true))))))
theorem w_la_FnExactLibraryNames (n : Nat) : ∀ {r : Bool}, la_FnExactLibraryNames n  = some r → SCall X.E 4 [] [] (bE r) [] := by
  intro r h0
  rw [la_FnExactLibraryNames] at h0
  refine .m Tryd.func4 rfl rfl rfl (by kernel_rfl) (fun L ks low K hl hL hlen hK => ?_)
  refine .r [] T [] rfl (by kernel_rfl) ?_
  obtain ⟨k1, hk1, h0⟩ := bnd h0
  refine .r [.call [] (lE 1 (ksStr k1)) []] (A (w_sp_LibraryNames n  hk1) T) [(1, lE 1 (ksStr k1))] rfl (by kernel_rfl) ?_
  obtain ⟨k2, hk2, h0⟩ := bnd h0
  refine .rf [.call [.own 300070] (.vs (.low 0) 1 ((ksStr k2).length)) [.vec 9 1 (ksStr k2)]] (A (w_im_LibraryNames_o n  hk2) T) [(2, .vs (.own 300070) 1 ((ksStr k2).length))] [.o 300070 (.vec 9 1 (ksStr k2))] rfl (by kernel_rfl) ?_
  obtain ⟨k3, hk3, h0⟩ := bnd h0
  refine .r [.call [.own 300070] (bE k3) [.vec 9 1 (ksStr k2)]] (A (w_la_eqStringS_v n _ _ hk3) T) [(11, bE (!k3))] rfl (by kernel_rfl) ?_
  refine .cT h0 rfl (by kernel_rfl) (fun hc4 h0 => ?_) (fun hc4 h0 => ?_)
  · refine .r [] T [(0, bE false)] rfl (by kernel_rfl) ?_
    cases h0
    exact .ret rfl rfl (by kernel_rfl) hK
  · refine .r [] T [(3, iE 1)] rfl (by kernel_rfl) ?_
    obtain ⟨k5, hk5, h0⟩ := bnd h0
    obtain ⟨u6, hu6, h0⟩ := bnd h0
    refine .rf [.call [.own 300070] (iE k5.1) [.vec 9 1 (ksStr k5.2)]] (A (w_la_markStringS n _ _ hk5) T) [(2, .vs (.own 300070) 1 ((ksStr k2).length)), (3, iE k5.1)] [.o 300070 (.vec 9 1 (ksStr k5.2))] rfl (by kernel_rfl) ?_
    refine .rn (by rw [dStr.length, dStr.length]; exact (lenB_ok hu6).symm : (ksStr k2).length = (ksStr k5.2).length) (fun n7 => [(2, .vs (.own 300070) 1 n7)]) (fun n7 => []) (fun n7 => []) (by kernel_rfl) ?_
    refine .r [] T [(4, iE 1)] rfl (by kernel_rfl) ?_
    obtain ⟨k8, hk8, h0⟩ := bnd h0
    refine .r [.call [.own 300070] (iE k8) [.vec 9 1 (ksStr k5.2)]] (A (w_la_heldStringS_v n _ _ hk8) T) [(4, iE k8)] rfl (by kernel_rfl) ?_
    refine .r [] T [(19, dE (k8 < 0))] rfl (by kernel_rfl) ?_
    refine .cP h0 rfl (by kernel_rfl) (fun hc9 h0 => ?_) (fun hc9 h0 => ?_)
    · refine .r [] T [(0, bE false)] rfl (by kernel_rfl) ?_
      cases h0
      exact .ret rfl rfl (by kernel_rfl) hK
    · refine .r [] T [(22, dE (¬ k8 = k5.1))] rfl (by kernel_rfl) ?_
      refine .cP h0 rfl (by kernel_rfl) (fun hc10 h0 => ?_) (fun hc10 h0 => ?_)
      · refine .r [] T [(0, bE false)] rfl (by kernel_rfl) ?_
        cases h0
        exact .ret rfl rfl (by kernel_rfl) hK
      · obtain ⟨k11, hk11, h0⟩ := bnd h0
        refine .r [.call [] (lE 1 (ksStr k11)) []] (A (w_im_LibraryNames n  hk11) T) [(5, lE 1 (ksStr k11))] rfl (by kernel_rfl) ?_
        obtain ⟨k12, hk12, h0⟩ := bnd h0
        refine .r [.call [] (bE k12) []] (A (w_la_eqStringS n _ _ hk12) T) [(27, bE (!k12))] rfl (by kernel_rfl) ?_
        refine .cT h0 rfl (by kernel_rfl) (fun hc13 h0 => ?_) (fun hc13 h0 => ?_)
        · refine .r [] T [(0, bE false)] rfl (by kernel_rfl) ?_
          cases h0
          exact .ret rfl rfl (by kernel_rfl) hK
        · refine .r [] T [(4, iE 1)] rfl (by kernel_rfl) ?_
          obtain ⟨k14, hk14, h0⟩ := bnd h0
          refine .r [.call [.own 300070] (iE k14) [.vec 9 1 (ksStr k5.2)]] (A (w_la_heldStringS_v n _ _ hk14) T) [(4, iE k14)] rfl (by kernel_rfl) ?_
          refine .r [] T [(32, dE (k14 < 0))] rfl (by kernel_rfl) ?_
          refine .cP h0 rfl (by kernel_rfl) (fun hc15 h0 => ?_) (fun hc15 h0 => ?_)
          · refine .r [] T [(0, bE false)] rfl (by kernel_rfl) ?_
            cases h0
            exact .ret rfl rfl (by kernel_rfl) hK
          · refine .r [] T [(35, dE (¬ k14 = k5.1))] rfl (by kernel_rfl) ?_
            refine .cP h0 rfl (by kernel_rfl) (fun hc16 h0 => ?_) (fun hc16 h0 => ?_)
            · refine .r [] T [(0, bE false)] rfl (by kernel_rfl) ?_
              cases h0
              exact .ret rfl rfl (by kernel_rfl) hK
            · refine .r [] T [(0, bE true)] rfl (by kernel_rfl) ?_
              cases h0
              exact .ret rfl rfl (by kernel_rfl) hK
end Go.Ev
