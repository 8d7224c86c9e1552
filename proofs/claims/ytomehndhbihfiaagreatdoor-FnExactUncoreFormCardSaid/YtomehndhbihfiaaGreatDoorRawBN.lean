/- The marks' functions write what is of the kind that they find. No condition. -/
import Derived.Test.YtomehndhbihfiaaGreatDoorRawA
import Derived.Test.YtomehndhbihfiaaGreatDoorProg
import Derived.Lib.Hide
namespace Go.Raw
open Go.Mx Go.RowKit
set_option linter.unusedVariables false
set_option maxHeartbeats 1000000
def MarkI (R : Nat → Prop) (k : Int) (w : World) (e : Ending) (w' : World) : Prop := e = .returned (.int .i64 k) ∧ KS R w w'
theorem markIntS {R : Nat → Prop} {n : Nat} {v : Value} {k : Int} {w : World} (hv : ShI w R n v) (hk : 0 ≤ k) (hk2 : k + n < 4611686018427387904) :
    Calls Go.Proofs.Tryz.prog 39 #[v, .int .i64 k] w (MarkI R (k + n) w) := by
  have hv0 := hv
  obtain ⟨cells, ⟨a, cap, rfl, h1, h2, h3⟩, hl, hi⟩ := hv
  have hn : n ≤ 2 ^ 63 - 1 := by unfold maxLen at h2; omega
  clear h3 h1 h2 hi hl
  have HV : Hid (ShI w R n (.slice a n cap)) := hv0
  clear hv0
  go_enter Go.Proofs.Tryz.func39, Go.Proofs.Tryz.ntmps39
  go_wp2
  go_loopw [1, 5] (fun kv iv wr => ∃ i : Nat, i ≤ n ∧ iv = .int .i64 i ∧ kv = .int .i64 (k + i) ∧ Hid (KS R w wr)) (fun _ iv _ => n - (intOf iv).toNat)
  case atStart => exact ⟨0, by omega, rfl, by simp, KS.refl _ _⟩
  case round =>
    obtain ⟨i, hi, rfl, rfl, HK⟩ := hrel
    by_cases hlt : i < n
    · obtain ⟨cells, ⟨a', cap', ha, h1, h2, h3⟩, hl, hI⟩ := HV.out.ks HK.out
      cases ha
      obtain ⟨g, o, rfl, hg, hc⟩ := h3 (by intro h; subst h; simp at hl; omega)
      have hx : cells[i]? = some cells[i] := List.getElem?_eq_getElem (by omega)
      obtain ⟨y, hy⟩ := hI cells[i] (List.getElem_mem _)
      rw [hy] at hx
      obtain ⟨c1, f1⟩ := hc i _ hx
      clear hc hx hy hI hl h3 h1 h2
      have HG : Hid (R g) := hg
      clear hg
      go_wp2
      go_roundw
      case rel => exact ⟨i + 1, by omega, by simp, by simp; omega, HK.out.trans (KS.set HG.out c1 (.inr (.inl ⟨⟨_, rfl⟩, ⟨_, rfl⟩⟩)))⟩
      case measure => simp [intOf]; omega
    · obtain rfl : i = n := by omega
      go_wp2
      go_ret
      exact ⟨rfl, HK.out⟩
def MarkIx (R : Nat → Prop) (v : Value) (n : Nat) (k : Int) (w : World) (e : Ending) (w' : World) : Prop := e = .returned (.int .i64 (k + n)) ∧ KS R w w' ∧ RowAt w' R v n ((marks k n).map (Value.int .i64))
theorem markIntSx {R : Nat → Prop} {n : Nat} {v : Value} {cells : List Value} {k : Int} {w : World} (hv : RowAt w R v n cells) (hl : cells.length = n) (hI : ∀ x ∈ cells, isI x) (hk : 0 ≤ k) (hk2 : k + n < 4611686018427387904) :
    Calls Go.Proofs.Tryz.prog 39 #[v, .int .i64 k] w (MarkIx R v n k w) := by
  have hv0 := hv
  obtain ⟨a, cap, rfl, h1, h2, h3⟩ := hv
  have hn : n ≤ 2 ^ 63 - 1 := by unfold maxLen at h2; omega
  clear h3 h1 h2
  have HV : Hid (∃ cells', RowAt w R (.slice a n cap) n cells' ∧ cells'.length = n ∧ (∀ x ∈ cells', isI x) ∧ ∀ j, j < 0 → cells'[j]? = some (.int .i64 (k + j))) := ⟨cells, hv0, hl, hI, fun j h => by omega⟩
  clear hv0 hl hI
  go_enter Go.Proofs.Tryz.func39, Go.Proofs.Tryz.ntmps39
  go_wp2
  go_loopw [1, 5] (fun kv iv wr => ∃ i : Nat, i ≤ n ∧ iv = .int .i64 i ∧ kv = .int .i64 (k + i) ∧ Hid (KS R w wr) ∧ Hid (∃ cells', RowAt wr R (.slice a n cap) n cells' ∧ cells'.length = n ∧ (∀ x ∈ cells', isI x) ∧ ∀ j, j < i → cells'[j]? = some (.int .i64 (k + j)))) (fun _ iv _ => n - (intOf iv).toNat)
  case atStart => exact ⟨0, by omega, rfl, by simp, KS.refl _ _, HV⟩
  case round =>
    obtain ⟨i, hi, rfl, rfl, HK, HL⟩ := hrel
    clear HV
    by_cases hlt : i < n
    · obtain ⟨cells, hr, hl, hI, hd⟩ := HL.out
      have hr' := hr
      obtain ⟨a', cap', ha, h1, h2, h3⟩ := hr
      cases ha
      obtain ⟨g, o, rfl, hg, hc⟩ := h3 (by intro h; subst h; simp at hl; omega)
      have hx : cells[i]? = some cells[i] := List.getElem?_eq_getElem (by omega)
      obtain ⟨y, hy⟩ := hI cells[i] (List.getElem_mem _)
      rw [hy] at hx
      obtain ⟨c1, f1⟩ := hc i _ hx
      have HL2 : Hid (∃ cells', RowAt (wr.setCell ⟨g, o + i, none⟩ (.int .i64 (k + i))) R (.slice (some ⟨g, o, none⟩) n cap) n cells' ∧ cells'.length = n ∧ (∀ x ∈ cells', isI x) ∧ ∀ j, j < i + 1 → cells'[j]? = some (.int .i64 (k + j))) := by
        refine ⟨_, hr'.set (i := i) (by omega) (.int .i64 (k + i)), by simp [hl], fun x hx => ?_, fun j hj => ?_⟩
        · rcases List.mem_or_eq_of_mem_set hx with h | h
          · exact hI x h
          · exact ⟨_, h⟩
        · by_cases hji : j = i
          · subst hji; rw [List.getElem?_set_self (by omega)]
          · rw [List.getElem?_set_ne (by omega)]; exact hd j (by omega)
      clear hc hx hy hI hl h3 h1 h2 hd hr' HL
      have HG : Hid (R g) := hg
      clear hg
      go_wp2
      go_roundw
      case rel => exact ⟨i + 1, by omega, by simp, by simp; omega, HK.out.trans (KS.set HG.out c1 (.inr (.inl ⟨⟨_, rfl⟩, ⟨_, rfl⟩⟩))), HL2⟩
      case measure => simp [intOf]; omega
    · obtain rfl : i = n := by omega
      go_wp2
      go_ret
      obtain ⟨cells, hr, hl, hI, hd⟩ := HL.out
      refine ⟨rfl, HK.out, ?_⟩
      rw [← marks_all hl hd]; exact hr
def MarkS (s : ByteArray) (w : World) (e : Ending) (w' : World) : Prop := e = .returned (.string s) ∧ Below w.heap.size w w'
def MT (mT : Nat → ByteArray) : Prop := ∀ (k : Nat) (w : World), k < 4611686018427387904 → Calls Go.Proofs.Tryz.prog 77 #[.int .i64 k] w (MarkS (mT k) w)
def FormSC (N : Nat) : Prop := ∀ (R : Nat → Prop) (fs : List Mx.Form) (v : Value) (k : Nat) (w : World), cntFs fs < N → (∃ cells, RowAt w R v fs.length cells ∧ ShFl w R fs cells) →
    k + cntFs fs < 4611686018427387904 → Calls Go.Proofs.Tryz.prog 41 #[v, .int .i64 k] w (MarkI R ((k + cntFs fs : Nat) : Int) w)
theorem markFormS {mT : Nat → ByteArray} (HT : MT mT) (N : Nat) : FormSC N := by
  induction N with
  | zero => intro _ _ _ _ _ h; omega
  | succ N IH =>
    intro R fs v k w hN hv hk
    have hv0 := hv
    obtain ⟨cells, ⟨a, cap, rfl, h1, h2, h3⟩, hS⟩ := hv
    have hn : fs.length ≤ 2 ^ 63 - 1 := by unfold maxLen at h2; omega
    clear h3 h1 h2 hS
    have HV : Hid (∃ cells, RowAt w R (.slice a fs.length cap) fs.length cells ∧ ShFl w R fs cells) := hv0
    have HN : Hid (cntFs fs < N + 1) := hN
    clear hv0 hN
    go_enter Go.Proofs.Tryz.func41, Go.Proofs.Tryz.ntmps41
    go_wp2
    go_loopw [1, 5] (fun kv iv wr => ∃ i : Nat, i ≤ fs.length ∧ iv = .int .i64 i ∧ kv = .int .i64 ((k + cntFs (fs.take i) : Nat) : Int) ∧ Hid (KS R w wr)) (fun _ iv _ => fs.length - (intOf iv).toNat)
    case atStart => exact ⟨0, by omega, rfl, by simp [cntFs], KS.refl _ _⟩
    case round =>
      obtain ⟨i, hi, rfl, rfl, HK⟩ := hrel
      by_cases hlt : i < fs.length
      · obtain ⟨cells, q1, q2⟩ := HV.out
        obtain ⟨cells', ⟨a', cap', ha, h1, h2, h3⟩, qe⟩ := q1.ks HK.out
        cases ha
        have q3 := ShFl.ks HK.out q2 qe
        have hf : fs[i]? = some fs[i] := List.getElem?_eq_getElem hlt
        have hm := cntFs_take hf
        have hle := cntFs_le fs (i + 1)
        obtain ⟨g, o, rfl, hg, hc⟩ := h3 (by
          intro h; subst h
          cases fs with
          | nil => simp at hlt
          | cons f r => rw [ShFl] at q3; obtain ⟨c1, c2, e, h1, _⟩ := q3; have := h1.len; cases c1 <;> simp at e this)
        obtain ⟨x4, x5, EL⟩ := ShFl.el q3 hc hf
        rw [Nat.mul_comm] at EL
        clear q1 q2 q3 qe hc h1 h2 h3
        generalize hcm : cntFs (fs.take i) = m at *
        have hcn : cntFs fs[i].kids < N := by have := HN.out; omega
        generalize fs[i] = f at *
        have HM : Hid (cntFs (fs.take (i + 1)) = m + 3 + f.scopes.length + cntFs f.kids) := hm
        have hle2 : m + 3 + f.scopes.length + cntFs f.kids ≤ cntFs fs := by omega
        have HG : Hid (R g) := hg
        clear hcm hf hm hg hle HV
        have EL0 := EL
        obtain ⟨⟨y1, c1⟩, _, _, _, _, f1, _⟩ := EL0
        go_wp2_with fail
        have K1 : KS R wr (wr.setCell ⟨g, o + i * 5, none⟩ (.int .i64 (k + m))) := KS.set HG.out c1 (.inr (.inl ⟨⟨_, rfl⟩, ⟨_, rfl⟩⟩))
        clear c1 f1
        generalize wr.setCell ⟨g, o + i * 5, none⟩ (.int .i64 (k + m)) = w1 at *
        have EL1 := EL.ks K1
        have C := HT (k + m + 1) w1 (by omega)
        simp only [Int.natCast_add, Int.cast_ofNat_Int] at C
        refine C.mono ?_
        rintro e w2 ⟨rfl, HB2⟩
        clear C
        have K2 := KS.of_below (R := R) HB2
        clear HB2
        have EL2 := EL1.ks K2
        clear EL EL1
        have EL0 := EL2
        obtain ⟨_, ⟨y2, c2⟩, ⟨y3, c3⟩, c4, _, _, f2, f3, _⟩ := EL0
        go_wp2_with fail
        have K3 : KS R w2 (w2.setCell ⟨g, o + i * 5 + 1, none⟩ (.string (mT (k + m + 1)))) := KS.set HG.out c2 (.inr (.inr ⟨⟨_, rfl⟩, ⟨_, rfl⟩⟩))
        have K4 : KS R _ ((w2.setCell ⟨g, o + i * 5 + 1, none⟩ (.string (mT (k + m + 1)))).setCell ⟨g, o + i * 5 + 2, none⟩ (.int .i64 (k + m + 1 + 1))) :=
          KS.set HG.out (EL2.ks K3).2.2.1.choose_spec (.inr (.inl ⟨⟨_, rfl⟩, ⟨_, rfl⟩⟩))
        clear c2 c3 c4 f2 f3
        generalize w2.setCell ⟨g, o + i * 5 + 1, none⟩ (.string (mT (k + m + 1))) = w3 at *
        generalize w3.setCell ⟨g, o + i * 5 + 2, none⟩ (.int .i64 (k + m + 1 + 1)) = w4 at *
        have K4' := K3.trans K4
        have EL4 := EL2.ks K4'
        clear EL2
        have C := markIntS (k := (k : Int) + m + 1 + 1 + 1) EL4.2.2.2.2.2.2.2.2.1 (by omega) (by omega)
        refine C.mono ?_
        rintro e w5 ⟨rfl, K5⟩
        clear C
        have EL5 := EL4.ks K5
        clear EL4
        have c5 := EL5.2.2.2.2.1
        go_wp2_with fail
        clear c5
        have C := IH R f.kids x5 (k + m + 1 + 1 + 1 + f.scopes.length) w5 hcn EL5.2.2.2.2.2.2.2.2.2 (by omega)
        simp only [Int.natCast_add, Int.cast_ofNat_Int] at C
        refine C.mono ?_
        rintro e w6 ⟨rfl, K6⟩
        clear C EL5
        go_wp2_with fail
        go_roundw
        case rel => exact ⟨i + 1, by omega, by simp, by rw [HM.out]; congr 1; omega, ((((HK.out.trans K1).trans K2).trans K4').trans K5).trans K6⟩
        case measure => simp [intOf]; omega
      · obtain rfl : i = fs.length := by omega
        rw [List.take_length]
        go_wp2
        go_ret
        exact ⟨rfl, HK.out⟩
theorem markForm {mT : Nat → ByteArray} (HT : MT mT) {R : Nat → Prop} {f : Mx.Form} {vs : List Value} {k : Nat} {w : World} (hv : ShF w R f vs) (hk : k + cntF f < 4611686018427387904) :
    Calls Go.Proofs.Tryz.prog 12 #[.agg vs.toArray, .int .i64 k] w (MarkI R ((k + cntF f : Nat) : Int) w) := by
  obtain ⟨_, _, _, sc, kids⟩ := f
  rw [ShF] at hv
  simp only [cntF] at hk ⊢
  obtain ⟨x1, x2, x3, x4, x5, rfl, h1, h2, h3, h4, h5⟩ := hv
  have H4 : Hid (ShI w R sc.length x4) := h4
  have H5 : Hid (∃ cells, RowAt w R x5 kids.length cells ∧ ShFl w R kids cells) := h5
  clear h1 h2 h3 h4 h5
  go_enter Go.Proofs.Tryz.func12, Go.Proofs.Tryz.ntmps12
  go_wp2_with fail
  have K1 : KS R w (w.alloc (.cells #[x1, x2, x3, x4, x5] 32)) := KS.of_below ((Below.refl _ _).alloc (Nat.le_refl _) _)
  have c5 : (w.alloc (.cells #[x1, x2, x3, x4, x5] 32)).cell? ⟨w.heap.size, 4, none⟩ = some x5 := cell_new (j := 4) rfl
  generalize w.alloc (.cells #[x1, x2, x3, x4, x5] 32) = w1 at *
  refine (markIntS (H4.out.ks K1) (by omega) (by omega)).mono ?_
  rintro e w2 ⟨rfl, K2⟩
  obtain ⟨cells, q1, q2⟩ := H5.out
  obtain ⟨cells', q3, q4⟩ := q1.ks (K1.trans K2)
  have q5 := ShFl.ks (K1.trans K2) q2 q4
  obtain ⟨z, d5, e5⟩ := K2.cell _ _ _ c5
  cases e5.row q1
  clear c5
  go_wp2_with fail
  clear d5
  have C := markFormS HT _ R kids x5 (k + sc.length) w2 (Nat.lt_succ_self _) ⟨_, q3, q5⟩ (by omega)
  simp only [Int.natCast_add] at C
  clear q1 q2 q3 q4 q5
  refine C.mono ?_
  rintro e w3 ⟨rfl, K3⟩
  clear C
  go_wp2_with fail
  go_ret
  exact ⟨by simp; omega, (K1.trans K2).trans K3⟩
def CoreSC (N : Nat) : Prop := ∀ (R : Nat → Prop) (fs : List Mx.Core) (v : Value) (k : Nat) (w : World), cntCs fs < N → (∃ cells, RowAt w R v fs.length cells ∧ ShCl w R fs cells) →
    k + cntCs fs < 4611686018427387904 → Calls Go.Proofs.Tryz.prog 40 #[v, .int .i64 k] w (MarkI R ((k + cntCs fs : Nat) : Int) w)
set_option maxRecDepth 100000 in
theorem markCoreS {mT : Nat → ByteArray} (HT : MT mT) (N : Nat) : CoreSC N := by
  induction N with
  | zero => intro _ _ _ _ _ h; omega
  | succ N IH =>
    intro R fs v k w hN hv hk
    have hv0 := hv
    obtain ⟨cells, ⟨a, cap, rfl, h1, h2, h3⟩, hS⟩ := hv
    have hn : fs.length ≤ 2 ^ 63 - 1 := by unfold maxLen at h2; omega
    clear h3 h1 h2 hS
    have HV : Hid (∃ cells, RowAt w R (.slice a fs.length cap) fs.length cells ∧ ShCl w R fs cells) := hv0
    have HN : Hid (cntCs fs < N + 1) := hN
    clear hv0 hN
    go_enter Go.Proofs.Tryz.func40, Go.Proofs.Tryz.ntmps40
    go_wp2
    go_loopw [1, 5] (fun kv iv wr => ∃ i : Nat, i ≤ fs.length ∧ iv = .int .i64 i ∧ kv = .int .i64 ((k + cntCs (fs.take i) : Nat) : Int) ∧ Hid (KS R w wr)) (fun _ iv _ => fs.length - (intOf iv).toNat)
    case atStart => exact ⟨0, by omega, rfl, by simp [cntCs], KS.refl _ _⟩
    case round =>
      obtain ⟨i, hi, rfl, rfl, HK⟩ := hrel
      by_cases hlt : i < fs.length
      · obtain ⟨cells, q1, q2⟩ := HV.out
        obtain ⟨cells', ⟨a', cap', ha, h1, h2, h3⟩, qe⟩ := q1.ks HK.out
        cases ha
        have q3 := ShCl.ks HK.out q2 qe
        have hf : fs[i]? = some fs[i] := List.getElem?_eq_getElem hlt
        have hm := cntCs_take hf
        have hle := cntCs_le fs (i + 1)
        obtain ⟨g, o, rfl, hg, hc⟩ := h3 (by
          intro h; subst h
          cases fs with
          | nil => simp at hlt
          | cons f r => rw [ShCl] at q3; obtain ⟨c1, c2, e, h1, _⟩ := q3; have := h1.len; cases c1 <;> simp at e this)
        obtain ⟨x5, y4, y5, x7, EL⟩ := ShCl.el q3 hc hf
        rw [Nat.mul_comm] at EL
        clear q1 q2 q3 qe hc h1 h2 h3
        generalize hcm : cntCs (fs.take i) = m at *
        have hcn : cntCs fs[i].kids < N := by have := HN.out; omega
        generalize fs[i] = f at *
        have HM : Hid (cntCs (fs.take (i + 1)) = m + 7 + f.ids.length + f.data.scopes.length + cntFs f.data.kids + cntCs f.kids) := hm
        have hle2 : m + 7 + f.ids.length + f.data.scopes.length + cntFs f.data.kids + cntCs f.kids ≤ cntCs fs := by omega
        have HG : Hid (R g) := hg
        clear hcm hf hm hg hle HV
        generalize hp : o + i * 11 = p at *
        obtain ⟨⟨y1, c1⟩, f1⟩ := EL.1
        obtain ⟨⟨y2, c2⟩, f2⟩ := EL.2.1
        go_wp2_with fail
        have K1 : KS R wr (wr.setCell ⟨g, p, none⟩ (.int .i64 (k + m))) := KS.set HG.out c1 (.inr (.inl ⟨⟨_, rfl⟩, ⟨_, rfl⟩⟩))
        have K2 : KS R _ ((wr.setCell ⟨g, p, none⟩ (.int .i64 (k + m))).setCell ⟨g, p + 1, none⟩ (.int .i64 (k + m + 1))) :=
          KS.set HG.out (EL.ks K1).2.1.1.choose_spec (.inr (.inl ⟨⟨_, rfl⟩, ⟨_, rfl⟩⟩))
        clear c1 f1 c2 f2
        generalize wr.setCell ⟨g, p, none⟩ (.int .i64 (k + m)) = w1 at *
        generalize w1.setCell ⟨g, p + 1, none⟩ (.int .i64 (k + m + 1)) = w2 at *
        have KA := K1.trans K2
        have EL2 := EL.ks KA
        clear EL
        have C := HT (k + m + 1 + 1) w2 (by omega)
        simp only [Int.natCast_add, Int.cast_ofNat_Int] at C
        refine C.mono ?_
        rintro e w3 ⟨rfl, HB2⟩
        clear C
        have K3 := KS.of_below (R := R) HB2
        clear HB2
        have EL3 := EL2.ks K3
        clear EL2
        obtain ⟨⟨y1, c1⟩, f1⟩ := EL3.2.2.1
        obtain ⟨⟨y2, c2⟩, f2⟩ := EL3.2.2.2.1
        have c3 := EL3.2.2.2.2.1.1
        go_wp2_with fail
        have K4 : KS R w3 (w3.setCell ⟨g, p + 2, none⟩ (.string (mT (k + m + 1 + 1)))) := KS.set HG.out c1 (.inr (.inr ⟨⟨_, rfl⟩, ⟨_, rfl⟩⟩))
        have K5 : KS R _ ((w3.setCell ⟨g, p + 2, none⟩ (.string (mT (k + m + 1 + 1)))).setCell ⟨g, p + 3, none⟩ (.int .i64 (k + m + 1 + 1 + 1))) :=
          KS.set HG.out (EL3.ks K4).2.2.2.1.1.choose_spec (.inr (.inl ⟨⟨_, rfl⟩, ⟨_, rfl⟩⟩))
        clear c1 f1 c2 f2 c3
        generalize w3.setCell ⟨g, p + 2, none⟩ (.string (mT (k + m + 1 + 1))) = w4 at *
        generalize w4.setCell ⟨g, p + 3, none⟩ (.int .i64 (k + m + 1 + 1 + 1)) = w5 at *
        have KB := K4.trans K5
        have EL5 := EL3.ks KB
        clear EL3
        have C := markIntS (k := (k : Int) + m + 1 + 1 + 1 + 1) EL5.2.2.2.2.1.2 (by omega) (by omega)
        refine C.mono ?_
        rintro e w6 ⟨rfl, K6⟩
        clear C
        have EL6 := EL5.ks K6
        clear EL5
        obtain ⟨y1, c1⟩ := EL6.2.2.2.2.2.1.1
        have f1 := EL6.2.2.2.2.2.1.2.2.2.2.2.1
        go_wp2_with fail
        have K7 : KS R w6 (w6.setCell ⟨g, p + 5, none⟩ (.int .i64 (k + m + 1 + 1 + 1 + 1 + f.ids.length))) := KS.set HG.out c1 (.inr (.inl ⟨⟨_, rfl⟩, ⟨_, rfl⟩⟩))
        clear c1 f1
        generalize w6.setCell ⟨g, p + 5, none⟩ (.int .i64 (k + m + 1 + 1 + 1 + 1 + f.ids.length)) = w7 at *
        have EL7 := EL6.ks K7
        clear EL6
        have C := HT (k + m + 1 + 1 + 1 + 1 + f.ids.length + 1) w7 (by omega)
        simp only [Int.natCast_add, Int.cast_ofNat_Int] at C
        refine C.mono ?_
        rintro e w8 ⟨rfl, HB2⟩
        clear C
        have K8 := KS.of_below (R := R) HB2
        clear HB2
        have EL8 := EL7.ks K8
        clear EL7
        obtain ⟨_, ⟨y1, c1⟩, ⟨y2, c2⟩, c3, _, _, f1, f2, _⟩ := EL8.2.2.2.2.2.1
        go_wp2_with fail
        have K9 : KS R w8 (w8.setCell ⟨g, p + 5 + 1, none⟩ (.string (mT (k + m + 1 + 1 + 1 + 1 + f.ids.length + 1)))) := KS.set HG.out c1 (.inr (.inr ⟨⟨_, rfl⟩, ⟨_, rfl⟩⟩))
        have K10 : KS R _ ((w8.setCell ⟨g, p + 5 + 1, none⟩ (.string (mT (k + m + 1 + 1 + 1 + 1 + f.ids.length + 1)))).setCell ⟨g, p + 5 + 2, none⟩ (.int .i64 (k + m + 1 + 1 + 1 + 1 + f.ids.length + 1 + 1))) :=
          KS.set HG.out (EL8.ks K9).2.2.2.2.2.1.2.2.1.choose_spec (.inr (.inl ⟨⟨_, rfl⟩, ⟨_, rfl⟩⟩))
        clear c1 f1 c2 f2 c3
        generalize w8.setCell ⟨g, p + 5 + 1, none⟩ (.string (mT (k + m + 1 + 1 + 1 + 1 + f.ids.length + 1))) = w9 at *
        generalize w9.setCell ⟨g, p + 5 + 2, none⟩ (.int .i64 (k + m + 1 + 1 + 1 + 1 + f.ids.length + 1 + 1)) = w10 at *
        have KC := K9.trans K10
        have EL10 := EL8.ks KC
        clear EL8
        have C := markIntS (k := (k : Int) + m + 1 + 1 + 1 + 1 + f.ids.length + 1 + 1 + 1) EL10.2.2.2.2.2.1.2.2.2.2.2.2.2.2.1 (by omega) (by omega)
        refine C.mono ?_
        rintro e w11 ⟨rfl, K11⟩
        clear C
        have EL11 := EL10.ks K11
        clear EL10
        have c5 := EL11.2.2.2.2.2.1.2.2.2.2.1
        go_wp2_with fail
        clear c5
        have C := markFormS HT _ R f.data.kids y5 (k + m + 1 + 1 + 1 + 1 + f.ids.length + 1 + 1 + 1 + f.data.scopes.length) w11 (Nat.lt_succ_self _) EL11.2.2.2.2.2.1.2.2.2.2.2.2.2.2.2 (by omega)
        simp only [Int.natCast_add, Int.cast_ofNat_Int] at C
        refine C.mono ?_
        rintro e w12 ⟨rfl, K12⟩
        clear C
        have EL12 := EL11.ks K12
        clear EL11
        have c5 := EL12.2.2.2.2.2.2.1
        go_wp2_with fail
        clear c5
        have C := IH R f.kids x7 (k + m + 1 + 1 + 1 + 1 + f.ids.length + 1 + 1 + 1 + f.data.scopes.length + cntFs f.data.kids) w12 hcn EL12.2.2.2.2.2.2.2 (by omega)
        simp only [Int.natCast_add, Int.cast_ofNat_Int] at C
        refine C.mono ?_
        rintro e w13 ⟨rfl, K13⟩
        clear C EL12
        go_wp2_with fail
        go_roundw
        case rel => exact ⟨i + 1, by omega, by simp, by rw [HM.out]; congr 1; omega, ((((((((((HK.out.trans KA).trans K3).trans KB).trans K6).trans K7).trans K8).trans KC).trans K11).trans K12).trans K13)⟩
        case measure => simp [intOf]; omega
      · obtain rfl : i = fs.length := by omega
        rw [List.take_length]
        go_wp2
        go_ret
        exact ⟨rfl, HK.out⟩
theorem markCore {mT : Nat → ByteArray} (HT : MT mT) {R : Nat → Prop} {f : Mx.Core} {vs : List Value} {k : Nat} {w : World} (hv : ShC w R f vs) (hk : k + cntC f < 4611686018427387904) :
    Calls Go.Proofs.Tryz.prog 11 #[.agg vs.toArray, .int .i64 k] w (MarkI R ((k + cntC f : Nat) : Int) w) := by
  obtain ⟨_, _, _, _, ids, d, kids⟩ := f
  rw [ShC] at hv
  simp only [cntC] at hk ⊢
  obtain ⟨x1, x2, x3, x4, x5, c, x7, rfl, h1, h2, h3, h4, h5, h6, h7⟩ := hv
  have H5 : Hid (ShI w R ids.length x5) := h5
  have H6 : Hid (ShF w R d c) := h6
  have H7 : Hid (∃ cells, RowAt w R x7 kids.length cells ∧ ShCl w R kids cells) := h7
  obtain ⟨z1, z2, z3, z4, z5, rfl⟩ : ∃ z1 z2 z3 z4 z5, c = [z1, z2, z3, z4, z5] := by
    obtain ⟨_, _, _, sc, dk⟩ := d
    rw [ShF] at h6
    obtain ⟨z1, z2, z3, z4, z5, rfl, _⟩ := h6
    exact ⟨_, _, _, _, _, rfl⟩
  clear h1 h2 h3 h4 h5 h6 h7
  simp only [List.cons_append, List.nil_append]
  go_enter Go.Proofs.Tryz.func11, Go.Proofs.Tryz.ntmps11
  go_wp2_with fail
  have K1 : KS R w (w.alloc (.cells #[x1, x2, x3, x4, x5, z1, z2, z3, z4, z5, x7] 37)) := KS.of_below ((Below.refl _ _).alloc (Nat.le_refl _) _)
  have hc : ∀ (j : Nat) x, [z1, z2, z3, z4, z5, x7][j]? = some x → (w.alloc (.cells #[x1, x2, x3, x4, x5, z1, z2, z3, z4, z5, x7] 37)).cell? ⟨w.heap.size, 5 + j, none⟩ = some x := fun j x hx => cell_new (j := 5 + j) (by
    rw [← Array.getElem?_toList]; show [x1, x2, x3, x4, x5, z1, z2, z3, z4, z5, x7][5 + j]? = _
    rw [show [x1, x2, x3, x4, x5, z1, z2, z3, z4, z5, x7] = [x1, x2, x3, x4, x5] ++ [z1, z2, z3, z4, z5, x7] from rfl, List.getElem?_append_right (by simp), show 5 + j - [x1, x2, x3, x4, x5].length = j by simp]; exact hx)
  have HC : Hid (∀ (j : Nat) x, [z1, z2, z3, z4, z5, x7][j]? = some x → (w.alloc (.cells #[x1, x2, x3, x4, x5, z1, z2, z3, z4, z5, x7] 37)).cell? ⟨w.heap.size, 5 + j, none⟩ = some x) := hc
  clear hc
  generalize w.alloc (.cells #[x1, x2, x3, x4, x5, z1, z2, z3, z4, z5, x7] 37) = w1 at *
  refine (markIntS (H5.out.ks K1) (by omega) (by omega)).mono ?_
  rintro e w2 ⟨rfl, K2⟩
  obtain ⟨c', hc1, hc2, c0, hc0, hk0⟩ : ∃ c', (∀ (j : Nat) x, c'[j]? = some x → w2.cell? ⟨w.heap.size, 5 + j, none⟩ = some x) ∧ KEs [z1, z2, z3, z4, z5] c' ∧ ∃ c0, w2.cell? ⟨w.heap.size, 10, none⟩ = some c0 ∧ KE x7 c0 := by
    obtain ⟨y1, d1, e1⟩ := K2.cell _ _ _ (HC.out 0 _ rfl)
    obtain ⟨y2, d2, e2⟩ := K2.cell _ _ _ (HC.out 1 _ rfl)
    obtain ⟨y3, d3, e3⟩ := K2.cell _ _ _ (HC.out 2 _ rfl)
    obtain ⟨y4, d4, e4⟩ := K2.cell _ _ _ (HC.out 3 _ rfl)
    obtain ⟨y5, d5, e5⟩ := K2.cell _ _ _ (HC.out 4 _ rfl)
    obtain ⟨y6, d6, e6⟩ := K2.cell _ _ _ (HC.out 5 _ rfl)
    refine ⟨[y1, y2, y3, y4, y5], fun j x hx => ?_, ⟨rfl, fun j x y hx hy => ?_⟩, y6, d6, e6⟩
    · match j with
      | 0 => cases hx; exact d1
      | 1 => cases hx; exact d2
      | 2 => cases hx; exact d3
      | 3 => cases hx; exact d4
      | 4 => cases hx; exact d5
      | j + 5 => simp at hx
    · match j with
      | 0 => cases hx; cases hy; exact e1
      | 1 => cases hx; cases hy; exact e2
      | 2 => cases hx; cases hy; exact e3
      | 3 => cases hx; cases hy; exact e4
      | 4 => cases hx; cases hy; exact e5
      | j + 5 => simp at hx
  have S2 := ShF.ks (K1.trans K2) H6.out hc2
  have HS : Hid (ShF w2 R d c') := S2
  obtain ⟨y1, y2, y3, y4, y5, rfl⟩ : ∃ z1 z2 z3 z4 z5, c' = [z1, z2, z3, z4, z5] := by
    obtain ⟨_, _, _, sc, dk⟩ := d
    rw [ShF] at S2
    obtain ⟨z1, z2, z3, z4, z5, rfl, _⟩ := S2
    exact ⟨_, _, _, _, _, rfl⟩
  clear S2 hc2
  have d1 : w2.cell? ⟨w.heap.size, 5, none⟩ = some y1 := hc1 0 _ rfl
  have d2 : w2.cell? ⟨w.heap.size, 6, none⟩ = some y2 := hc1 1 _ rfl
  have d3 : w2.cell? ⟨w.heap.size, 7, none⟩ = some y3 := hc1 2 _ rfl
  have d4 : w2.cell? ⟨w.heap.size, 8, none⟩ = some y4 := hc1 3 _ rfl
  have d5 : w2.cell? ⟨w.heap.size, 9, none⟩ = some y5 := hc1 4 _ rfl
  have HH : Hid (w2.cell? ⟨w.heap.size, 10, none⟩ = some c0) := hc0
  have HK0 : Hid (KE x7 c0) := hk0
  clear hc1 hc0 hk0
  go_wp2_with fail
  clear d1 d2 d3 d4 d5
  have C := markForm HT (k := k + ids.length) HS.out (by omega)
  simp only [Int.natCast_add] at C
  refine C.mono ?_
  rintro e w3 ⟨rfl, K3⟩
  clear C
  obtain ⟨cells, q1, q2⟩ := H7.out
  obtain ⟨cells', q3, q4⟩ := q1.ks ((K1.trans K2).trans K3)
  have q5 := ShCl.ks ((K1.trans K2).trans K3) q2 q4
  cases HK0.out.row q1
  obtain ⟨c3, e3, h3⟩ := K3.cell _ _ _ HH.out
  cases h3.row q1
  have HQ : Hid (∃ cells, RowAt w3 R x7 kids.length cells ∧ ShCl w3 R kids cells) := ⟨_, q3, q5⟩
  clear q1 q2 q3 q4 q5 h3
  go_wp2_with fail
  clear e3
  have C := markCoreS HT _ R kids x7 (k + ids.length + cntF d) w3 (Nat.lt_succ_self _) HQ.out (by omega)
  simp only [Int.natCast_add] at C
  refine C.mono ?_
  rintro e w4 ⟨rfl, K4⟩
  clear C
  go_wp2_with fail
  go_ret
  exact ⟨by simp; omega, ((K1.trans K2).trans K3).trans K4⟩
end Go.Raw
