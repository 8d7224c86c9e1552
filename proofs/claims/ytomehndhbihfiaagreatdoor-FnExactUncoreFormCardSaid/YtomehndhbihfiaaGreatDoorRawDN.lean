/- The functions that copy an argument's data make new trees. No condition. -/
import Derived.Test.YtomehndhbihfiaaGreatDoorRawC
import Derived.OwnWalk
import Derived.Lib.Hide
import Derived.Test.YtomehndhbihfiaaGreatDoorProg
namespace Go.Raw
open Go.Mx Go.RowKit
set_option linter.unusedVariables false
set_option maxHeartbeats 1000000
theorem info3 : (Go.Proofs.Tryz.prog.info? 3).map (fun i => (i.zero, i.size, i.bytes)) = some (some (.int .i64 0), 1, 8) := by kernel_rfl
def ToI (xs : List Int) (w : World) (e : Ending) (w' : World) : Prop := ∃ v, e = .returned v ∧ Below w.heap.size w w' ∧ RowAt w' (Ge w.heap.size) v xs.length (ints xs)
theorem toIntS {xs : List Int} {v : Value} {w : World} (hv : Rd cx0 w (.sl 1 .ro (intsD xs)) v) (hn : xs.length ≤ 8388608) :
    Calls Go.Proofs.Tryz.prog 27 #[v] w (ToI xs w) := by
  obtain ⟨a, cap, rfl, h1, h2, h3, _, A, hA, hc⟩ := rd_sl_inv hv
  rw [intsD_length] at h1 ⊢
  have hc' : ∀ i, (hi : i < xs.length) → w.cell? ⟨A.1, A.2 + i, none⟩ = some (.int .i64 xs[i]) := fun i hi => by
    obtain ⟨y, q1, _, q2⟩ := hc i 0 [.v (.int .i64 xs[i])] (.v (.int .i64 xs[i])) (by rw [intsD_get, List.getElem?_eq_getElem hi]; rfl) rfl
    rw [q2.v_inv] at q1
    simpa using q1
  have hA' : 0 < xs.length → a = some ⟨A.1, A.2, none⟩ := fun h => hA (by intro h'; rw [← intsD_length, h'] at h; simp at h)
  obtain ⟨A1, A2⟩ := A
  have HC := Lib.hid hc'
  have HA := Lib.hid hA'
  obtain ⟨i3, hi3, hz0, hz1, hz2⟩ := info_parts info3
  clear hc hc' hA hA' h3 hv
  go_enter Go.Proofs.Tryz.func27, Go.Proofs.Tryz.ntmps27
  go_wp2_with (at_make; refine wpList_make_full _ rfl _ _ 22 rfl 0 3 i3 (.int .i64 0) 1 Go.Proofs.Tryz.underlying22 hi3 hz0 hz1 _ _ _ _ xs.length rfl rfl rfl rfl ?b1 ?b2 (Nat.zero_le _) ?_)
  case b1 => omega
  case b2 => unfold maxLen; omega
  intro w1 hown hgrow
  have F0 := Fill.start hown hgrow
  clear hown hgrow
  rw [Nat.mul_one] at F0
  go_wp2
  go_loopw [4] (fun iv wr => ∃ i : Nat, i ≤ xs.length ∧ iv = .int .i64 i ∧ Hid (Fill w xs.length (ints (xs.take i)) wr)) (fun iv _ => xs.length - (intOf iv).toNat)
  case atStart => exact ⟨0, by omega, rfl, F0⟩
  case round =>
    obtain ⟨i, hi, rfl, HF⟩ := hrel
    by_cases hlt : i < xs.length
    · obtain rfl := HA.out (by omega)
      have hA1 := cell_lt (HC.out i hlt)
      have c1 : wr.cell? ⟨A1, A2 + i, none⟩ = some (.int .i64 xs[i]) := (HF.out.below.cell (p := ⟨A1, A2 + i, none⟩) hA1).trans (HC.out i hlt)
      obtain ⟨y, c2⟩ := HF.out.room i hlt
      have f2 := HF.out.fz i hlt
      go_wp2
      go_roundw
      case rel => exact ⟨i + 1, by omega, by simp, by
        have := HF.out.put (o := i) (x := .int .i64 xs[i]) (by simp [ints]; omega) hlt
        rwa [List.take_succ_eq_append_getElem hlt, ints, List.map_append]⟩
      case measure => simp [intOf]; omega
    · obtain rfl : i = xs.length := by omega
      go_wp2
      go_ret
      exact ⟨_, rfl, HF.out.below, by have := HF.out; rw [List.take_length] at this; exact this.row (by simp [ints]) (by unfold maxLen; omega)⟩
theorem info41 : (Go.Proofs.Tryz.prog.info? 32).map (fun i => (i.zero, i.size, i.bytes)) = some (some (.agg #[.int .i64 0, .string ⟨#[]⟩, .int .i64 0, .slice none 0 0, .slice none 0 0]), 5, 80) := by kernel_rfl
def ToF (f : Mx.Form) (w : World) (e : Ending) (w' : World) : Prop := ∃ vs, e = .returned (.agg vs.toArray) ∧ Below w.heap.size w w' ∧ VF w' w.heap.size f vs
def ToFS (fs : List Mx.Form) (w : World) (e : Ending) (w' : World) : Prop := ∃ v cells, e = .returned v ∧ Below w.heap.size w w' ∧ RowAt w' (Ge w.heap.size) v fs.length cells ∧ VFl w' w.heap.size fs cells
def FSC (fs : List Mx.Form) : Prop := ∀ (v : Value) (w : World), Rd cx0 w (.sl 5 .ro (formsD fs)) v → Calls Go.Proofs.Tryz.prog 65 #[v] w (ToFS fs w)
def FC (f : Mx.Form) : Prop := ∀ (vs : List Value) (w : World), RdL cx0 w (cForm f) vs → Calls Go.Proofs.Tryz.prog 28 #[.agg vs.toArray] w (ToF f w)
theorem toForm_of (f : Mx.Form) (hsc : f.scopes.length ≤ 8388608) (FS : FSC f.kids) : FC f := by
  intro vs w h
  obtain ⟨x4, x5, rfl, h4, h5⟩ := five h
  have H4 := Lib.hid h4
  have H5 := Lib.hid h5
  clear h h4 h5
  go_enter Go.Proofs.Tryz.func28, Go.Proofs.Tryz.ntmps28
  go_wp2_with fail
  have hB1 : Below w.heap.size w (((w.alloc (.cells #[.int .i64 f.kind, .string f.name, .int .i64 f.n, x4, x5] 25)).alloc (.cells #[.int .i64 0, .string ⟨#[]⟩, .int .i64 0, .slice none 0 0, .slice none 0 0] 32)).alloc
      (.cells #[.int .i64 f.kind, .string f.name, .int .i64 f.n, .slice none 0 0, .slice none 0 0] 32)) := (((Below.refl _ _).alloc (Nat.le_refl _) _).alloc (by simp) _).alloc (by simp; omega) _
  have A0 := ((RowX.new w [.int .i64 f.kind, .string f.name, .int .i64 f.n, x4, x5] 25).alloc (.cells #[.int .i64 0, .string ⟨#[]⟩, .int .i64 0, .slice none 0 0, .slice none 0 0] 32)).alloc (.cells #[.int .i64 f.kind, .string f.name, .int .i64 f.n, .slice none 0 0, .slice none 0 0] 32)
  have A1 := (RowX.new (w.alloc (.cells #[.int .i64 f.kind, .string f.name, .int .i64 f.n, x4, x5] 25)) [.int .i64 0, .string ⟨#[]⟩, .int .i64 0, .slice none 0 0, .slice none 0 0] 32).alloc (.cells #[.int .i64 f.kind, .string f.name, .int .i64 f.n, .slice none 0 0, .slice none 0 0] 32)
  have A2 := RowX.new ((w.alloc (.cells #[.int .i64 f.kind, .string f.name, .int .i64 f.n, x4, x5] 25)).alloc (.cells #[.int .i64 0, .string ⟨#[]⟩, .int .i64 0, .slice none 0 0, .slice none 0 0] 32)) [.int .i64 f.kind, .string f.name, .int .i64 f.n, .slice none 0 0, .slice none 0 0] 32
  simp only [World.size_alloc] at A1 A2
  have hs : w.heap.size + 3 = (((w.alloc (.cells #[.int .i64 f.kind, .string f.name, .int .i64 f.n, x4, x5] 25)).alloc (.cells #[.int .i64 0, .string ⟨#[]⟩, .int .i64 0, .slice none 0 0, .slice none 0 0] 32)).alloc
      (.cells #[.int .i64 f.kind, .string f.name, .int .i64 f.n, .slice none 0 0, .slice none 0 0] 32)).heap.size := by simp
  have HA0 := Lib.hid A0
  have HA1 := Lib.hid A1
  have HA2 := Lib.hid A2
  have HB1 := Lib.hid hB1
  clear A0 A1 A2 hB1
  generalize ((w.alloc (.cells #[.int .i64 f.kind, .string f.name, .int .i64 f.n, x4, x5] 25)).alloc (.cells #[.int .i64 0, .string ⟨#[]⟩, .int .i64 0, .slice none 0 0, .slice none 0 0] 32)).alloc
      (.cells #[.int .i64 f.kind, .string f.name, .int .i64 f.n, .slice none 0 0, .slice none 0 0] 32) = w1 at *
  refine (toIntS (rd_below H4.out HB1.out) hsc).mono ?_
  rintro e w2 ⟨y4, rfl, hB2, R4⟩
  have HB2 := Lib.hid hB2
  have R4' := R4
  obtain ⟨a4, p4, rfl, _⟩ := R4
  have HR := Lib.hid R4'
  have HS := Lib.hid hs
  clear hB2 R4' hs
  have hs1 : w.heap.size ≤ w1.heap.size := by have := HS.out; omega
  have B2 : Below w.heap.size w w2 := HB1.out.trans (HB2.out.mono hs1)
  have X0 := HA0.out.below HB2.out
  have X1 := HA1.out.below HB2.out
  have X2 := HA2.out.below HB2.out
  have e4 : w2.cell? ⟨w.heap.size, 4, none⟩ = some x5 := (X0 4 _ rfl).1
  have HX1 := Lib.hid X1
  have HX2 := Lib.hid X2
  have HB := Lib.hid B2
  obtain ⟨d3, f3⟩ := X2 3 _ rfl
  clear X0 X1 X2 HA0 HA1 HA2 HB1 B2
  go_wp2_with fail
  clear e4 d3 f3
  have B3 : Below w.heap.size w (w2.setCell ⟨w.heap.size + 1 + 1, 3, none⟩ (.slice a4 f.scopes.length p4)) := HB.out.setCell (p := ⟨w.heap.size + 1 + 1, 3, none⟩) (by show _ ≤ w.heap.size + 1 + 1; omega) (.slice a4 f.scopes.length p4)
  have S3 : Same w1.heap.size w2 (w2.setCell ⟨w.heap.size + 1 + 1, 3, none⟩ (.slice a4 f.scopes.length p4)) := fun b o y hb hy =>
    ⟨by rw [World.cell?_setCell_other _ _ _ _ (by intro e; cases e; have := HS.out; omega)]; exact hy, World.frozen?_setCell _ _ _ _⟩
  have R3 := HR.out.same S3 (Nat.le_refl _)
  have X1 := HX1.out.other (g' := w.heap.size + 1 + 1) (o := 3) (by omega) (.slice a4 f.scopes.length p4)
  have X2 := HX2.out.set (o := 3) (by simp) (.slice a4 f.scopes.length p4)
  have s3 : w1.heap.size ≤ (w2.setCell ⟨w.heap.size + 1 + 1, 3, none⟩ (.slice a4 f.scopes.length p4)).heap.size := by have := HB2.out.size; simpa using this
  have H3 := rd_below H5.out B3
  have HX1 := Lib.hid X1
  have HX2 := Lib.hid X2
  have HB := Lib.hid B3
  have HR := Lib.hid R3
  clear B3 S3 R3 X1 X2
  generalize w2.setCell ⟨w.heap.size + 1 + 1, 3, none⟩ (.slice a4 f.scopes.length p4) = w3 at *
  refine (FS x5 w3 H3).mono ?_
  rintro e w4 ⟨y5, cells, rfl, hB4, R4, V4⟩
  have B4 : Below w.heap.size w w4 := HB.out.trans (hB4.mono (Nat.le_trans hs1 s3))
  have R3 := HR.out.same (Same.of_below (base := 0) hB4) (Nat.zero_le _)
  have X1 := HX1.out.below hB4
  have X2 := HX2.out.below hB4
  have R4' := R4
  obtain ⟨a5, p5, rfl, _⟩ := R4
  have HV := Lib.hid V4
  have HR4 := Lib.hid R4'
  have HR3 := Lib.hid R3
  have HB4 := Lib.hid B4
  have HX1 := Lib.hid X1
  have HX2 := Lib.hid X2
  obtain ⟨c0, f0⟩ := X1 0 _ rfl
  obtain ⟨c1, f1⟩ := X1 1 _ rfl
  obtain ⟨c2, f2⟩ := X1 2 _ rfl
  obtain ⟨c3, f3⟩ := X1 3 _ rfl
  obtain ⟨c4, f4⟩ := X1 4 _ rfl
  obtain ⟨d0, _⟩ := X2 0 _ rfl
  obtain ⟨d1, _⟩ := X2 1 _ rfl
  obtain ⟨d2, _⟩ := X2 2 _ rfl
  obtain ⟨d3, _⟩ := X2 3 _ rfl
  obtain ⟨d4, g4⟩ := X2 4 _ rfl
  clear X1 X2 hB4 V4 R4' R3 B4 H3 HR HB
  go_wp2_with fail
  refine bodyPost_ret (v := .agg #[.int .i64 f.kind, .string f.name, .int .i64 f.n, .slice a4 f.scopes.length p4, .slice a5 f.kids.length p5]) (by simp [results, Go.Proofs.Tryz.results28, go_sem, c0, c1, c2, c3, c4]) rfl ⟨_, rfl, ?_, ?_⟩
  · have h1 : w.heap.size ≤ w.heap.size + 1 := by omega
    exact bset' (bset' (bset' (bset' (bset' (bset' HB4.out (by omega) _) h1 _) h1 _) h1 _) h1 _) h1 _
  · have h1 : w.heap.size + 1 < w1.heap.size := by have := HS.out; omega
    have h2 : w.heap.size + 1 + 1 < w1.heap.size := by have := HS.out; omega
    have S := ((((((Same.refl w1.heap.size w4).set (o := 4) h2 (.slice a5 f.kids.length p5)).set (o := 0) h1 (.int .i64 f.kind)).set (o := 1) h1 (.string f.name)).set (o := 2) h1 (.int .i64 f.n)).set (o := 3) h1 (.slice a4 f.scopes.length p4)).set (o := 4) h1 (.slice a5 f.kids.length p5)
    exact VF.mk ((HR3.out.same S (Nat.le_refl _)).mono hs1) ((HR4.out.same S s3).mono (Nat.le_trans hs1 s3)) (VFl.same S s3 (Nat.le_trans hs1 s3) HV.out)
theorem toFormS (N : Nat) : ∀ fs, cntFs fs < N → cntFs fs ≤ 8388608 → FSC fs := by
  induction N with
  | zero => intro fs h; omega
  | succ N ih =>
    intro fs hN hM v w hv
    have FCs : ∀ f ∈ fs, FC f := fun f hf => by
      have h1 := cntFs_mem hf
      have h2 := cntF_eq f
      exact toForm_of f (by omega) (ih f.kids (by omega) (by omega))
    have hlen := cntFs_len fs
    obtain ⟨a, cap, rfl, h1, h2, h3, _, A, hA, hc⟩ := rd_sl_inv hv
    rw [formsD_length] at h1 ⊢
    have hc' : ∀ i, (hi : i < fs.length) → ∃ vs, RdL cx0 w (cForm fs[i]) vs ∧ ∀ (j : Nat) x, vs[j]? = some x → w.cell? ⟨A.1, A.2 + i * 5 + j, none⟩ = some x := fun i hi => by
      have hg : (formsD fs)[i]? = some (cForm fs[i]) := by rw [formsD_get, List.getElem?_eq_getElem hi]; rfl
      obtain ⟨y0, q0, _, r0⟩ := hc i 0 _ _ hg rfl
      obtain ⟨y1, q1, _, r1⟩ := hc i 1 _ _ hg rfl
      obtain ⟨y2, q2, _, r2⟩ := hc i 2 _ _ hg rfl
      obtain ⟨y3, q3, _, r3⟩ := hc i 3 _ _ hg rfl
      obtain ⟨y4, q4, _, r4⟩ := hc i 4 _ _ hg rfl
      refine ⟨[y0, y1, y2, y3, y4], RdL.of rfl fun j d hd => ?_, fun j x hx => ?_⟩
      · match j, hd with
        | 0, hd => cases hd; exact ⟨_, rfl, r0⟩
        | 1, hd => cases hd; exact ⟨_, rfl, r1⟩
        | 2, hd => cases hd; exact ⟨_, rfl, r2⟩
        | 3, hd => cases hd; exact ⟨_, rfl, r3⟩
        | 4, hd => cases hd; exact ⟨_, rfl, r4⟩
        | j + 5, hd => simp [cForm] at hd
      · match j, hx with
        | 0, hx => cases hx; exact q0
        | 1, hx => cases hx; exact q1
        | 2, hx => cases hx; exact q2
        | 3, hx => cases hx; exact q3
        | 4, hx => cases hx; exact q4
        | j + 5, hx => simp at hx
    have hA' : 0 < fs.length → a = some ⟨A.1, A.2, none⟩ := fun h => hA (by intro h'; rw [← formsD_length, h'] at h; simp at h)
    obtain ⟨A1, A2⟩ := A
    have HC := Lib.hid hc'
    have HA := Lib.hid hA'
    have HF := Lib.hid FCs
    obtain ⟨i41, hi41, hz0, hz1, hz2⟩ := info_parts info41
    have hn : fs.length ≤ 8388608 := by omega
    clear hc hc' hA hA' h3 hv ih hN hM FCs hlen
    go_enter Go.Proofs.Tryz.func65, Go.Proofs.Tryz.ntmps65
    go_wp2_with (at_make; refine wpList_make_full _ rfl _ _ 30 rfl 0 32 i41 (.agg #[.int .i64 0, .string ⟨#[]⟩, .int .i64 0, .slice none 0 0, .slice none 0 0]) 5 Go.Proofs.Tryz.underlying30 hi41 hz0 hz1 _ _ _ _ fs.length rfl rfl rfl rfl ?b1 ?b2 (Nat.zero_le _) ?_)
    case b1 => omega
    case b2 => unfold maxLen; omega
    intro w1 hown hgrow
    have F0 := Fill.start hown hgrow
    clear hown hgrow hi41 hz0 hz1 hz2
    go_wp2
    go_loopw [4] (fun iv wr => ∃ (i : Nat) (cells : List Value), i ≤ fs.length ∧ iv = .int .i64 i ∧ Hid (Fill w (fs.length * 5) cells wr) ∧ Hid (cells.length = i * 5) ∧ Hid (VFl wr (w.heap.size + 1) (fs.take i) cells)) (fun iv _ => fs.length - (intOf iv).toNat)
    case atStart => exact ⟨0, [], by omega, rfl, F0, rfl, by show VFl _ _ (fs.take 0) []; rw [List.take_zero, VFl]⟩
    case round =>
      obtain ⟨i, cells, hi, rfl, HFi, HL, HV⟩ := hrel
      by_cases hlt : i < fs.length
      · obtain rfl := HA.out (by omega)
        obtain ⟨vs, hvs, hcl⟩ := HC.out i hlt
        obtain ⟨x4, x5, rfl, r4, r5⟩ := five hvs
        have hA1 := cell_lt (hcl 0 _ rfl)
        have c0 : wr.cell? ⟨A1, A2 + i * 5, none⟩ = _ := (HFi.out.below.cell (p := ⟨A1, _, none⟩) hA1).trans (hcl 0 _ rfl)
        have c1 := (HFi.out.below.cell (p := ⟨A1, _, none⟩) hA1).trans (hcl 1 _ rfl)
        have c2 := (HFi.out.below.cell (p := ⟨A1, _, none⟩) hA1).trans (hcl 2 _ rfl)
        have c3 := (HFi.out.below.cell (p := ⟨A1, _, none⟩) hA1).trans (hcl 3 _ rfl)
        have c4 := (HFi.out.below.cell (p := ⟨A1, _, none⟩) hA1).trans (hcl 4 _ rfl)
        have HR := Lib.hid hvs
        clear hcl r4 r5 hvs
        go_wp2_with fail
        clear c0 c1 c2 c3 c4
        have F := HF.out fs[i] (List.getElem_mem _)
        have hR2 : RdL cx0 wr (cForm fs[i]) [.int .i64 fs[i].kind, .string fs[i].name, .int .i64 fs[i].n, x4, x5] := ⟨HR.out.1, fun j d x hd hx => rd_below (HR.out.2 j d x hd hx) HFi.out.below⟩
        have C := F _ wr hR2
        clear F hR2
        refine C.mono ?_
        rintro e w2 ⟨vs, rfl, hB, hV⟩
        obtain ⟨y4, y5, rfl, R4, k5, R5, V5⟩ := hV.inv
        obtain ⟨a4, p4, rfl, _⟩ := R4
        obtain ⟨a5, p5, rfl, _⟩ := R5
        have hlt2 : i * 5 + 4 < fs.length * 5 := by omega
        have F2 := HFi.out.grow hB
        have hw : w.heap.size + 1 ≤ wr.heap.size := HFi.out.lt (by omega)
        have V2 := VFl.same (Same.of_below (base := 0) hB) (Nat.zero_le _) (Nat.le_refl _) HV.out
        have V3 := VF.same (Same.refl 0 w2) (Nat.zero_le _) hw hV
        have HV3 := Lib.hid V3
        have HV2 := Lib.hid V2
        have HF2 := Lib.hid F2
        obtain ⟨z0, d0⟩ := F2.room (i * 5) (by omega)
        obtain ⟨z1, d1⟩ := F2.room (i * 5 + 1) (by omega)
        obtain ⟨z2, d2⟩ := F2.room (i * 5 + 2) (by omega)
        obtain ⟨z3, d3⟩ := F2.room (i * 5 + 3) (by omega)
        obtain ⟨z4, d4⟩ := F2.room (i * 5 + 4) (by omega)
        have f0 := F2.fz (i * 5) (by omega)
        have f1 := F2.fz (i * 5 + 1) (by omega)
        have f2 := F2.fz (i * 5 + 2) (by omega)
        have f3 := F2.fz (i * 5 + 3) (by omega)
        have f4 := F2.fz (i * 5 + 4) (by omega)
        clear C V2 V3 F2 hV hB V5 HFi HV HR
        go_wp2_with fail
        go_roundw
        case rel =>
          have hl := HL.out
          have F3 := ((((HF2.out.put (o := i * 5) (x := .int .i64 fs[i].kind) (by omega) (by omega)).put (o := i * 5 + 1) (x := .string fs[i].name) (by simp; omega) (by omega)).put (o := i * 5 + 2) (x := .int .i64 fs[i].n) (by simp; omega) (by omega)).put (o := i * 5 + 3) (x := .slice a4 fs[i].scopes.length p4) (by simp; omega) (by omega)).put (o := i * 5 + 4) (x := .slice a5 fs[i].kids.length p5) (by simp; omega) (by omega)
          have hs : w.heap.size < w.heap.size + 1 := Nat.lt_succ_self _
          have S := (((((Same.refl (w.heap.size + 1) w2).set (o := i * 5) hs (.int .i64 fs[i].kind)).set (o := i * 5 + 1) hs (.string fs[i].name)).set (o := i * 5 + 2) hs (.int .i64 fs[i].n)).set (o := i * 5 + 3) hs (.slice a4 fs[i].scopes.length p4)).set (o := i * 5 + 4) hs (.slice a5 fs[i].kids.length p5)
          refine ⟨i + 1, cells ++ [.int .i64 fs[i].kind, .string fs[i].name, .int .i64 fs[i].n, .slice a4 fs[i].scopes.length p4, .slice a5 fs[i].kids.length p5], by omega, by simp, (by simpa [List.append_assoc] using F3 : Fill w (fs.length * 5) _ _), by show List.length _ = _; simp; omega, ?_⟩
          show VFl _ _ (fs.take (i + 1)) _
          rw [List.take_succ_eq_append_getElem hlt]
          refine VFl.app (VFl.same S (Nat.le_refl _) (Nat.le_refl _) HV2.out) ?_
          rw [VFl]
          exact ⟨_, [], by simp, VF.same S (Nat.le_refl _) (Nat.le_refl _) HV3.out, by rw [VFl]⟩
        case measure => simp [intOf]; omega
      · obtain rfl : i = fs.length := by omega
        go_wp2
        go_ret
        have HV' := HV.out
        rw [List.take_length] at HV'
        exact ⟨_, cells, rfl, HFi.out.below, HFi.out.row HL.out (by unfold maxLen; omega), VFl.same (Same.refl _ _) (Nat.le_refl _) (by omega) HV'⟩
theorem info44 : (Go.Proofs.Tryz.prog.info? 37).map (fun i => (i.zero, i.size, i.bytes)) = some (some (.agg #[.int .i64 0, .int .i64 0, .string ⟨#[]⟩, .int .i64 0, .slice none 0 0, .int .i64 0, .string ⟨#[]⟩, .int .i64 0, .slice none 0 0, .slice none 0 0, .slice none 0 0]), 11, 168) := by kernel_rfl
def ToC (f : Mx.Core) (w : World) (e : Ending) (w' : World) : Prop := ∃ vs, e = .returned (.agg vs.toArray) ∧ Below w.heap.size w w' ∧ VC w' w.heap.size f vs
def ToCS (fs : List Mx.Core) (w : World) (e : Ending) (w' : World) : Prop := ∃ v cells, e = .returned v ∧ Below w.heap.size w w' ∧ RowAt w' (Ge w.heap.size) v fs.length cells ∧ VCl w' w.heap.size fs cells
def CSC (fs : List Mx.Core) : Prop := ∀ (v : Value) (w : World), Rd cx0 w (.sl 11 .ro (coresD fs)) v → Calls Go.Proofs.Tryz.prog 29 #[v] w (ToCS fs w)
def CC (f : Mx.Core) : Prop := ∀ (vs : List Value) (w : World), RdL cx0 w (cCore f) vs → Calls Go.Proofs.Tryz.prog 7 #[.agg vs.toArray] w (ToC f w)
set_option maxRecDepth 100000 in
theorem toCore_of (f : Mx.Core) (hids : f.ids.length ≤ 8388608) (HF : FC f.data) (FS : CSC f.kids) : CC f := by
  intro vs w h
  obtain ⟨x5, y4, y5, x7, rfl, h5, h8, h9, h10⟩ := eleven h
  have H5 := Lib.hid h5
  have H8 := Lib.hid h8
  have H9 := Lib.hid h9
  have H10 := Lib.hid h10
  clear h h5 h8 h9 h10
  go_enter Go.Proofs.Tryz.func7, Go.Proofs.Tryz.ntmps7
  go_wp2_with fail
  have hB1 : Below w.heap.size w (((w.alloc (.cells #[.int .i64 f.kind, .int .i64 f.id, .string f.name, .int .i64 f.n, x5, .int .i64 f.data.kind, .string f.data.name, .int .i64 f.data.n, y4, y5, x7] 28)).alloc (.cells #[.int .i64 0, .int .i64 0, .string ⟨#[]⟩, .int .i64 0, .slice none 0 0, .int .i64 0, .string ⟨#[]⟩, .int .i64 0, .slice none 0 0, .slice none 0 0, .slice none 0 0] 37)).alloc (.cells #[.int .i64 f.kind, .int .i64 f.id, .string f.name, .int .i64 f.n, .slice none 0 0, .int .i64 0, .string ⟨#[]⟩, .int .i64 0, .slice none 0 0, .slice none 0 0, .slice none 0 0] 37)) := (((Below.refl _ _).alloc (Nat.le_refl _) _).alloc (by simp) _).alloc (by simp; omega) _
  have A0 := ((RowX.new w [.int .i64 f.kind, .int .i64 f.id, .string f.name, .int .i64 f.n, x5, .int .i64 f.data.kind, .string f.data.name, .int .i64 f.data.n, y4, y5, x7] 28).alloc (.cells #[.int .i64 0, .int .i64 0, .string ⟨#[]⟩, .int .i64 0, .slice none 0 0, .int .i64 0, .string ⟨#[]⟩, .int .i64 0, .slice none 0 0, .slice none 0 0, .slice none 0 0] 37)).alloc (.cells #[.int .i64 f.kind, .int .i64 f.id, .string f.name, .int .i64 f.n, .slice none 0 0, .int .i64 0, .string ⟨#[]⟩, .int .i64 0, .slice none 0 0, .slice none 0 0, .slice none 0 0] 37)
  have A1 := (RowX.new (w.alloc (.cells #[.int .i64 f.kind, .int .i64 f.id, .string f.name, .int .i64 f.n, x5, .int .i64 f.data.kind, .string f.data.name, .int .i64 f.data.n, y4, y5, x7] 28)) [.int .i64 0, .int .i64 0, .string ⟨#[]⟩, .int .i64 0, .slice none 0 0, .int .i64 0, .string ⟨#[]⟩, .int .i64 0, .slice none 0 0, .slice none 0 0, .slice none 0 0] 37).alloc (.cells #[.int .i64 f.kind, .int .i64 f.id, .string f.name, .int .i64 f.n, .slice none 0 0, .int .i64 0, .string ⟨#[]⟩, .int .i64 0, .slice none 0 0, .slice none 0 0, .slice none 0 0] 37)
  have A2 := RowX.new ((w.alloc (.cells #[.int .i64 f.kind, .int .i64 f.id, .string f.name, .int .i64 f.n, x5, .int .i64 f.data.kind, .string f.data.name, .int .i64 f.data.n, y4, y5, x7] 28)).alloc (.cells #[.int .i64 0, .int .i64 0, .string ⟨#[]⟩, .int .i64 0, .slice none 0 0, .int .i64 0, .string ⟨#[]⟩, .int .i64 0, .slice none 0 0, .slice none 0 0, .slice none 0 0] 37)) [.int .i64 f.kind, .int .i64 f.id, .string f.name, .int .i64 f.n, .slice none 0 0, .int .i64 0, .string ⟨#[]⟩, .int .i64 0, .slice none 0 0, .slice none 0 0, .slice none 0 0] 37
  simp only [World.size_alloc] at A1 A2
  have hs : w.heap.size + 3 = (((w.alloc (.cells #[.int .i64 f.kind, .int .i64 f.id, .string f.name, .int .i64 f.n, x5, .int .i64 f.data.kind, .string f.data.name, .int .i64 f.data.n, y4, y5, x7] 28)).alloc (.cells #[.int .i64 0, .int .i64 0, .string ⟨#[]⟩, .int .i64 0, .slice none 0 0, .int .i64 0, .string ⟨#[]⟩, .int .i64 0, .slice none 0 0, .slice none 0 0, .slice none 0 0] 37)).alloc (.cells #[.int .i64 f.kind, .int .i64 f.id, .string f.name, .int .i64 f.n, .slice none 0 0, .int .i64 0, .string ⟨#[]⟩, .int .i64 0, .slice none 0 0, .slice none 0 0, .slice none 0 0] 37)).heap.size := by simp
  have HA0 := Lib.hid A0
  have HA1 := Lib.hid A1
  have HA2 := Lib.hid A2
  have HB1 := Lib.hid hB1
  clear A0 A1 A2 hB1
  generalize ((w.alloc (.cells #[.int .i64 f.kind, .int .i64 f.id, .string f.name, .int .i64 f.n, x5, .int .i64 f.data.kind, .string f.data.name, .int .i64 f.data.n, y4, y5, x7] 28)).alloc (.cells #[.int .i64 0, .int .i64 0, .string ⟨#[]⟩, .int .i64 0, .slice none 0 0, .int .i64 0, .string ⟨#[]⟩, .int .i64 0, .slice none 0 0, .slice none 0 0, .slice none 0 0] 37)).alloc (.cells #[.int .i64 f.kind, .int .i64 f.id, .string f.name, .int .i64 f.n, .slice none 0 0, .int .i64 0, .string ⟨#[]⟩, .int .i64 0, .slice none 0 0, .slice none 0 0, .slice none 0 0] 37) = w1 at *
  refine (toIntS (rd_below H5.out HB1.out) hids).mono ?_
  rintro e w2 ⟨z5, rfl, hB2, R5⟩
  have HB2 := Lib.hid hB2
  have R5' := R5
  obtain ⟨q5, p5, rfl, _⟩ := R5
  have HR := Lib.hid R5'
  have HS := Lib.hid hs
  clear hB2 R5' hs
  have hs1 : w.heap.size ≤ w1.heap.size := by have := HS.out; omega
  have B2 : Below w.heap.size w w2 := HB1.out.trans (HB2.out.mono hs1)
  have X0 := HA0.out.below HB2.out
  have X1 := HA1.out.below HB2.out
  have X2 := HA2.out.below HB2.out
  have e5 := (X0 5 _ rfl).1
  have e6 := (X0 6 _ rfl).1
  have e7 := (X0 7 _ rfl).1
  have e8 := (X0 8 _ rfl).1
  have e9 := (X0 9 _ rfl).1
  obtain ⟨d4, g4⟩ := X2 4 _ rfl
  have HX0 := Lib.hid X0
  have HX1 := Lib.hid X1
  have HX2 := Lib.hid X2
  have HB := Lib.hid B2
  clear X0 X1 X2 HA0 HA1 HA2 HB1 B2
  go_wp2_with fail
  clear e5 e6 e7 e8 e9 d4 g4
  have B3 : Below w.heap.size w (w2.setCell ⟨w.heap.size + 1 + 1, 4, none⟩ (.slice q5 f.ids.length p5)) := bset' HB.out (by omega) _
  have S3 : Same w1.heap.size w2 (w2.setCell ⟨w.heap.size + 1 + 1, 4, none⟩ (.slice q5 f.ids.length p5)) := (Same.refl _ _).set (by have := HS.out; omega) _
  have R3 := HR.out.same S3 (Nat.le_refl _)
  have X0 := HX0.out.other (g' := w.heap.size + 1 + 1) (o := 4) (by omega) (.slice q5 f.ids.length p5)
  have X1 := HX1.out.other (g' := w.heap.size + 1 + 1) (o := 4) (by omega) (.slice q5 f.ids.length p5)
  have X2 := HX2.out.set (o := 4) (by simp) (.slice q5 f.ids.length p5)
  have s3 : w1.heap.size ≤ (w2.setCell ⟨w.heap.size + 1 + 1, 4, none⟩ (.slice q5 f.ids.length p5)).heap.size := by have := HB2.out.size; simpa using this
  clear HX0 HX1 HX2 HB HR
  have HX0 := Lib.hid X0
  have HX1 := Lib.hid X1
  have HX2 := Lib.hid X2
  have HB := Lib.hid B3
  have HR := Lib.hid R3
  clear B3 S3 R3 X0 X1 X2
  generalize w2.setCell ⟨w.heap.size + 1 + 1, 4, none⟩ (.slice q5 f.ids.length p5) = w3 at *
  have hD : RdL cx0 w3 (cForm f.data) [.int .i64 f.data.kind, .string f.data.name, .int .i64 f.data.n, y4, y5] := RdL.of rfl fun j d hd => by
    match j, hd with
    | 0, hd => cases hd; exact ⟨_, rfl, .v _⟩
    | 1, hd => cases hd; exact ⟨_, rfl, .v _⟩
    | 2, hd => cases hd; exact ⟨_, rfl, .v _⟩
    | 3, hd => cases hd; exact ⟨_, rfl, rd_below H8.out HB.out⟩
    | 4, hd => cases hd; exact ⟨_, rfl, rd_below H9.out HB.out⟩
    | j + 5, hd => simp [cForm] at hd
  refine (HF _ w3 hD).mono ?_
  rintro e w4 ⟨vs, rfl, hB4, hV⟩
  have HV := Lib.hid hV
  obtain ⟨z8, z9, rfl, R8, k9, R9, V9⟩ := hV.inv
  obtain ⟨q8, p8, rfl, _⟩ := R8
  obtain ⟨q9, p9, rfl, _⟩ := R9
  have B4 : Below w.heap.size w w4 := HB.out.trans (hB4.mono (Nat.le_trans hs1 s3))
  have R5 := HR.out.same (Same.of_below (base := 0) hB4) (Nat.zero_le _)
  have X0 := HX0.out.below hB4
  have X1 := HX1.out.below hB4
  have X2 := HX2.out.below hB4
  clear HX0 HX1 HX2 HB HR
  have s4 : w1.heap.size ≤ w4.heap.size := Nat.le_trans s3 hB4.size
  have HX0 := Lib.hid X0
  have HX1 := Lib.hid X1
  have HX2 := Lib.hid X2
  have HB := Lib.hid B4
  have HR := Lib.hid R5
  have e10 := (X0 10 _ rfl).1
  obtain ⟨d5, g5⟩ := X2 5 _ rfl
  obtain ⟨d6, g6⟩ := X2 6 _ rfl
  obtain ⟨d7, g7⟩ := X2 7 _ rfl
  obtain ⟨d8, g8⟩ := X2 8 _ rfl
  obtain ⟨d9, g9⟩ := X2 9 _ rfl
  clear X0 X1 X2 B4 R5 hB4 hD hV V9
  go_wp2_with fail
  clear e10 d5 g5 d6 g6 d7 g7 d8 g8 d9 g9
  have B5 : Below w.heap.size w (((((w4.setCell ⟨w.heap.size + 1 + 1, 5, none⟩ (.int .i64 f.data.kind)).setCell ⟨w.heap.size + 1 + 1, 6, none⟩ (.string f.data.name)).setCell ⟨w.heap.size + 1 + 1, 7, none⟩ (.int .i64 f.data.n)).setCell ⟨w.heap.size + 1 + 1, 8, none⟩ (.slice q8 f.data.scopes.length p8)).setCell ⟨w.heap.size + 1 + 1, 9, none⟩ (.slice q9 f.data.kids.length p9)) := bset' (bset' (bset' (bset' (bset' HB.out (by omega) _) (by omega) _) (by omega) _) (by omega) _) (by omega) _
  have hG : w.heap.size + 1 + 1 < w1.heap.size := by have := HS.out; omega
  have S5 : Same w1.heap.size w4 (((((w4.setCell ⟨w.heap.size + 1 + 1, 5, none⟩ (.int .i64 f.data.kind)).setCell ⟨w.heap.size + 1 + 1, 6, none⟩ (.string f.data.name)).setCell ⟨w.heap.size + 1 + 1, 7, none⟩ (.int .i64 f.data.n)).setCell ⟨w.heap.size + 1 + 1, 8, none⟩ (.slice q8 f.data.scopes.length p8)).setCell ⟨w.heap.size + 1 + 1, 9, none⟩ (.slice q9 f.data.kids.length p9)) := (((((Same.refl _ _).set hG _).set hG _).set hG _).set hG _).set hG _
  have X0 := ((((HX0.out.other (g' := w.heap.size + 1 + 1) (o := 5) (by omega) (.int .i64 f.data.kind)).other (g' := w.heap.size + 1 + 1) (o := 6) (by omega) (.string f.data.name)).other (g' := w.heap.size + 1 + 1) (o := 7) (by omega) (.int .i64 f.data.n)).other (g' := w.heap.size + 1 + 1) (o := 8) (by omega) (.slice q8 f.data.scopes.length p8)).other (g' := w.heap.size + 1 + 1) (o := 9) (by omega) (.slice q9 f.data.kids.length p9)
  have X1 := ((((HX1.out.other (g' := w.heap.size + 1 + 1) (o := 5) (by omega) (.int .i64 f.data.kind)).other (g' := w.heap.size + 1 + 1) (o := 6) (by omega) (.string f.data.name)).other (g' := w.heap.size + 1 + 1) (o := 7) (by omega) (.int .i64 f.data.n)).other (g' := w.heap.size + 1 + 1) (o := 8) (by omega) (.slice q8 f.data.scopes.length p8)).other (g' := w.heap.size + 1 + 1) (o := 9) (by omega) (.slice q9 f.data.kids.length p9)
  have X2 := ((((HX2.out.set (o := 5) (by simp) (.int .i64 f.data.kind)).set (o := 6) (by simp) (.string f.data.name)).set (o := 7) (by simp) (.int .i64 f.data.n)).set (o := 8) (by simp) (.slice q8 f.data.scopes.length p8)).set (o := 9) (by simp) (.slice q9 f.data.kids.length p9)
  have R5 := HR.out.same S5 (Nat.le_refl _)
  have V5 := VF.same (b1 := w1.heap.size) S5 s3 s3 HV.out
  have s5 : w1.heap.size ≤ (((((w4.setCell ⟨w.heap.size + 1 + 1, 5, none⟩ (.int .i64 f.data.kind)).setCell ⟨w.heap.size + 1 + 1, 6, none⟩ (.string f.data.name)).setCell ⟨w.heap.size + 1 + 1, 7, none⟩ (.int .i64 f.data.n)).setCell ⟨w.heap.size + 1 + 1, 8, none⟩ (.slice q8 f.data.scopes.length p8)).setCell ⟨w.heap.size + 1 + 1, 9, none⟩ (.slice q9 f.data.kids.length p9)).heap.size := by simpa using s4
  clear HX0 HX1 HX2 HB HR HV
  have HX0 := Lib.hid X0
  have HX1 := Lib.hid X1
  have HX2 := Lib.hid X2
  have HB := Lib.hid B5
  have HR := Lib.hid R5
  have HV := Lib.hid V5
  clear B5 S5 R5 V5 X0 X1 X2
  generalize ((((w4.setCell ⟨w.heap.size + 1 + 1, 5, none⟩ (.int .i64 f.data.kind)).setCell ⟨w.heap.size + 1 + 1, 6, none⟩ (.string f.data.name)).setCell ⟨w.heap.size + 1 + 1, 7, none⟩ (.int .i64 f.data.n)).setCell ⟨w.heap.size + 1 + 1, 8, none⟩ (.slice q8 f.data.scopes.length p8)).setCell ⟨w.heap.size + 1 + 1, 9, none⟩ (.slice q9 f.data.kids.length p9) = w5 at *
  refine (FS _ w5 (rd_below H10.out HB.out)).mono ?_
  rintro e w6 ⟨z10, cells, rfl, hB6, R10, V10⟩
  have R10' := R10
  obtain ⟨q10, p10, rfl, _⟩ := R10
  have B6 : Below w.heap.size w w6 := HB.out.trans (hB6.mono (Nat.le_trans hs1 s5))
  have R5 := HR.out.same (Same.of_below (base := 0) hB6) (Nat.zero_le _)
  have V6 := VF.same (Same.of_below (base := 0) hB6) (Nat.zero_le _) (Nat.le_refl _) HV.out
  have X1 := HX1.out.below hB6
  have X2 := HX2.out.below hB6
  clear HX0 HX1 HX2 HB HR HV
  have HB := Lib.hid B6
  have HR := Lib.hid R5
  have HV := Lib.hid V6
  have HR10 := Lib.hid R10'
  have HV10 := Lib.hid V10
  obtain ⟨c0, f0⟩ := X1 0 _ rfl
  obtain ⟨c1, f1⟩ := X1 1 _ rfl
  obtain ⟨c2, f2⟩ := X1 2 _ rfl
  obtain ⟨c3, f3⟩ := X1 3 _ rfl
  obtain ⟨c4, f4⟩ := X1 4 _ rfl
  obtain ⟨c5, f5⟩ := X1 5 _ rfl
  obtain ⟨c6, f6⟩ := X1 6 _ rfl
  obtain ⟨c7, f7⟩ := X1 7 _ rfl
  obtain ⟨c8, f8⟩ := X1 8 _ rfl
  obtain ⟨c9, f9⟩ := X1 9 _ rfl
  obtain ⟨c10, f10⟩ := X1 10 _ rfl
  obtain ⟨d0, g0⟩ := X2 0 _ rfl
  obtain ⟨d1, g1⟩ := X2 1 _ rfl
  obtain ⟨d2, g2⟩ := X2 2 _ rfl
  obtain ⟨d3, g3⟩ := X2 3 _ rfl
  obtain ⟨d4, g4⟩ := X2 4 _ rfl
  obtain ⟨d5, g5⟩ := X2 5 _ rfl
  obtain ⟨d6, g6⟩ := X2 6 _ rfl
  obtain ⟨d7, g7⟩ := X2 7 _ rfl
  obtain ⟨d8, g8⟩ := X2 8 _ rfl
  obtain ⟨d9, g9⟩ := X2 9 _ rfl
  obtain ⟨d10, g10⟩ := X2 10 _ rfl
  clear g0 g1 g2 g3 g4 g5 g6 g7 g8 g9 X1 X2 B6 R5 V6 R10' V10 hB6
  go_wp2_with fail
  refine bodyPost_ret (v := .agg #[.int .i64 f.kind, .int .i64 f.id, .string f.name, .int .i64 f.n, .slice q5 f.ids.length p5, .int .i64 f.data.kind, .string f.data.name, .int .i64 f.data.n, .slice q8 f.data.scopes.length p8, .slice q9 f.data.kids.length p9, .slice q10 f.kids.length p10]) (by simp [results, Go.Proofs.Tryz.results7, go_sem, c0, c1, c2, c3, c4, c5, c6, c7, c8, c9, c10]) rfl ⟨_, rfl, ?_, ?_⟩
  · exact bsets (g := w.heap.size + 1) (o := 0) (news := [.int .i64 f.kind, .int .i64 f.id, .string f.name, .int .i64 f.n, .slice q5 f.ids.length p5, .int .i64 f.data.kind, .string f.data.name, .int .i64 f.data.n, .slice q8 f.data.scopes.length p8, .slice q9 f.data.kids.length p9, .slice q10 f.kids.length p10]) (by omega) (bset' HB.out (by omega) (.slice q10 f.kids.length p10))
  · have h1 : w.heap.size + 1 < w1.heap.size := by have := HS.out; omega
    have h2 : w.heap.size + 1 + 1 < w1.heap.size := by have := HS.out; omega
    have S := Same.sets (g := w.heap.size + 1) h1 (o := 0) (news := [.int .i64 f.kind, .int .i64 f.id, .string f.name, .int .i64 f.n, .slice q5 f.ids.length p5, .int .i64 f.data.kind, .string f.data.name, .int .i64 f.data.n, .slice q8 f.data.scopes.length p8, .slice q9 f.data.kids.length p9, .slice q10 f.kids.length p10]) ((Same.refl w1.heap.size w6).set (o := 10) h2 (.slice q10 f.kids.length p10))
    exact VC.mk ((HR.out.same S (Nat.le_refl _)).mono hs1) (VF.same S (Nat.le_refl _) hs1 HV.out) ((HR10.out.same S s5).mono (Nat.le_trans hs1 s5)) (VCl.same S s5 (Nat.le_trans hs1 s5) HV10.out)
theorem toCoreS (N : Nat) : ∀ fs, cntCs fs < N → cntCs fs ≤ 8388608 → CSC fs := by
  induction N with
  | zero => intro fs h; omega
  | succ N ih =>
    intro fs hN hM v w hv
    have CCs : ∀ f ∈ fs, CC f := fun f hf => by
      have h1 := cntCs_mem hf
      have h2 := cntC_eq f
      have h3 := cntF_eq f.data
      exact toCore_of f (by omega) (toForm_of f.data (by omega) (toFormS _ f.data.kids (Nat.lt_succ_self _) (by omega))) (ih f.kids (by omega) (by omega))
    have hlen := cntCs_len fs
    obtain ⟨a, cap, rfl, h1, h2, h3, _, A, hA, hc⟩ := rd_sl_inv hv
    rw [coresD_length] at h1 ⊢
    have hc' : ∀ i, (hi : i < fs.length) → ∃ vs, RdL cx0 w (cCore fs[i]) vs ∧ ∀ (j : Nat) x, vs[j]? = some x → w.cell? ⟨A.1, A.2 + i * 11 + j, none⟩ = some x := fun i hi => by
      have hg : (coresD fs)[i]? = some (cCore fs[i]) := by rw [coresD_get, List.getElem?_eq_getElem hi]; rfl
      obtain ⟨y0, q0, _, r0⟩ := hc i 0 _ _ hg rfl
      obtain ⟨y1, q1, _, r1⟩ := hc i 1 _ _ hg rfl
      obtain ⟨y2, q2, _, r2⟩ := hc i 2 _ _ hg rfl
      obtain ⟨y3, q3, _, r3⟩ := hc i 3 _ _ hg rfl
      obtain ⟨y4, q4, _, r4⟩ := hc i 4 _ _ hg rfl
      obtain ⟨y5, q5, _, r5⟩ := hc i 5 _ _ hg rfl
      obtain ⟨y6, q6, _, r6⟩ := hc i 6 _ _ hg rfl
      obtain ⟨y7, q7, _, r7⟩ := hc i 7 _ _ hg rfl
      obtain ⟨y8, q8, _, r8⟩ := hc i 8 _ _ hg rfl
      obtain ⟨y9, q9, _, r9⟩ := hc i 9 _ _ hg rfl
      obtain ⟨y10, q10, _, r10⟩ := hc i 10 _ _ hg rfl
      refine ⟨[y0, y1, y2, y3, y4, y5, y6, y7, y8, y9, y10], RdL.of rfl fun j d hd => ?_, fun j x hx => ?_⟩
      · match j, hd with
        | 0, hd => cases hd; exact ⟨_, rfl, r0⟩
        | 1, hd => cases hd; exact ⟨_, rfl, r1⟩
        | 2, hd => cases hd; exact ⟨_, rfl, r2⟩
        | 3, hd => cases hd; exact ⟨_, rfl, r3⟩
        | 4, hd => cases hd; exact ⟨_, rfl, r4⟩
        | 5, hd => cases hd; exact ⟨_, rfl, r5⟩
        | 6, hd => cases hd; exact ⟨_, rfl, r6⟩
        | 7, hd => cases hd; exact ⟨_, rfl, r7⟩
        | 8, hd => cases hd; exact ⟨_, rfl, r8⟩
        | 9, hd => cases hd; exact ⟨_, rfl, r9⟩
        | 10, hd => cases hd; exact ⟨_, rfl, r10⟩
        | j + 11, hd => simp [cCore] at hd
      · match j, hx with
        | 0, hx => cases hx; exact q0
        | 1, hx => cases hx; exact q1
        | 2, hx => cases hx; exact q2
        | 3, hx => cases hx; exact q3
        | 4, hx => cases hx; exact q4
        | 5, hx => cases hx; exact q5
        | 6, hx => cases hx; exact q6
        | 7, hx => cases hx; exact q7
        | 8, hx => cases hx; exact q8
        | 9, hx => cases hx; exact q9
        | 10, hx => cases hx; exact q10
        | j + 11, hx => simp at hx
    have hA' : 0 < fs.length → a = some ⟨A.1, A.2, none⟩ := fun h => hA (by intro h'; rw [← coresD_length, h'] at h; simp at h)
    obtain ⟨A1, A2⟩ := A
    have HC := Lib.hid hc'
    have HA := Lib.hid hA'
    have HF := Lib.hid CCs
    obtain ⟨i44, hi44, hz0, hz1, hz2⟩ := info_parts info44
    have hn : fs.length ≤ 8388608 := by omega
    clear hc hc' hA hA' h3 hv ih hN hM CCs hlen
    go_enter Go.Proofs.Tryz.func29, Go.Proofs.Tryz.ntmps29
    go_wp2_with (at_make; refine wpList_make_full _ rfl _ _ 35 rfl 0 37 i44 _ 11 Go.Proofs.Tryz.underlying35 hi44 hz0 hz1 _ _ _ _ fs.length rfl rfl rfl rfl ?b1 ?b2 (Nat.zero_le _) ?_)
    case b1 => omega
    case b2 => unfold maxLen; omega
    intro w1 hown hgrow
    have F0 := Fill.start hown hgrow
    clear hown hgrow hi44 hz0 hz1 hz2
    go_wp2
    go_loopw [4] (fun iv wr => ∃ (i : Nat) (cells : List Value), i ≤ fs.length ∧ iv = .int .i64 i ∧ Hid (Fill w (fs.length * 11) cells wr) ∧ Hid (cells.length = i * 11) ∧ Hid (VCl wr (w.heap.size + 1) (fs.take i) cells)) (fun iv _ => fs.length - (intOf iv).toNat)
    case atStart => exact ⟨0, [], by omega, rfl, F0, rfl, by show VCl _ _ (fs.take 0) []; rw [List.take_zero, VCl]⟩
    case round =>
      obtain ⟨i, cells, hi, rfl, HFi, HL, HV⟩ := hrel
      by_cases hlt : i < fs.length
      · obtain rfl := HA.out (by omega)
        obtain ⟨vs, hvs, hcl⟩ := HC.out i hlt
        obtain ⟨x5, y4, y5, x7, rfl, _⟩ := eleven hvs
        have hA1 := cell_lt (hcl 0 _ rfl)
        have c0 : wr.cell? ⟨A1, A2 + i * 11, none⟩ = _ := (HFi.out.below.cell (p := ⟨A1, _, none⟩) hA1).trans (hcl 0 _ rfl)
        have c1 := (HFi.out.below.cell (p := ⟨A1, _, none⟩) hA1).trans (hcl 1 _ rfl)
        have c2 := (HFi.out.below.cell (p := ⟨A1, _, none⟩) hA1).trans (hcl 2 _ rfl)
        have c3 := (HFi.out.below.cell (p := ⟨A1, _, none⟩) hA1).trans (hcl 3 _ rfl)
        have c4 := (HFi.out.below.cell (p := ⟨A1, _, none⟩) hA1).trans (hcl 4 _ rfl)
        have c5 := (HFi.out.below.cell (p := ⟨A1, _, none⟩) hA1).trans (hcl 5 _ rfl)
        have c6 := (HFi.out.below.cell (p := ⟨A1, _, none⟩) hA1).trans (hcl 6 _ rfl)
        have c7 := (HFi.out.below.cell (p := ⟨A1, _, none⟩) hA1).trans (hcl 7 _ rfl)
        have c8 := (HFi.out.below.cell (p := ⟨A1, _, none⟩) hA1).trans (hcl 8 _ rfl)
        have c9 := (HFi.out.below.cell (p := ⟨A1, _, none⟩) hA1).trans (hcl 9 _ rfl)
        have c10 := (HFi.out.below.cell (p := ⟨A1, _, none⟩) hA1).trans (hcl 10 _ rfl)
        have HR := Lib.hid hvs
        clear hcl hvs
        go_wp2_with fail
        clear c0 c1 c2 c3 c4 c5 c6 c7 c8 c9 c10
        have F := HF.out fs[i] (List.getElem_mem _)
        have hR2 : RdL cx0 wr (cCore fs[i]) [.int .i64 fs[i].kind, .int .i64 fs[i].id, .string fs[i].name, .int .i64 fs[i].n, x5, .int .i64 fs[i].data.kind, .string fs[i].data.name, .int .i64 fs[i].data.n, y4, y5, x7] := ⟨HR.out.1, fun j d x hd hx => rd_below (HR.out.2 j d x hd hx) HFi.out.below⟩
        have C := F _ wr hR2
        clear F hR2
        refine C.mono ?_
        rintro e w2 ⟨vs, rfl, hB, hV⟩
        have hV' := hV
        obtain ⟨z5, c, z7, rfl, R5, hD, k7, R7, V7⟩ := hV.inv
        obtain ⟨z8, z9, rfl, R8, k9, R9, V9⟩ := hD.inv
        obtain ⟨q5, p5, rfl, _⟩ := R5
        obtain ⟨q8, p8, rfl, _⟩ := R8
        obtain ⟨q9, p9, rfl, _⟩ := R9
        obtain ⟨q10, p10, rfl, _⟩ := R7
        have hlt2 : i * 11 + 10 < fs.length * 11 := by omega
        have F2 := HFi.out.grow hB
        have hw : w.heap.size + 1 ≤ wr.heap.size := HFi.out.lt (by omega)
        have V2 := VCl.same (Same.of_below (base := 0) hB) (Nat.zero_le _) (Nat.le_refl _) HV.out
        have V3 := VC.same (Same.refl 0 w2) (Nat.zero_le _) hw hV'
        have HV3 := Lib.hid V3
        have HV2 := Lib.hid V2
        have HF2 := Lib.hid F2
        obtain ⟨z0, d0⟩ := F2.room (i * 11) (by omega)
        have f0 := F2.fz (i * 11) (by omega)
        obtain ⟨u1, d1⟩ := F2.room (i * 11 + 1) (by omega)
        have f1 := F2.fz (i * 11 + 1) (by omega)
        obtain ⟨u2, d2⟩ := F2.room (i * 11 + 2) (by omega)
        have f2 := F2.fz (i * 11 + 2) (by omega)
        obtain ⟨u3, d3⟩ := F2.room (i * 11 + 3) (by omega)
        have f3 := F2.fz (i * 11 + 3) (by omega)
        obtain ⟨u4, d4⟩ := F2.room (i * 11 + 4) (by omega)
        have f4 := F2.fz (i * 11 + 4) (by omega)
        obtain ⟨u5, d5⟩ := F2.room (i * 11 + 5) (by omega)
        have f5 := F2.fz (i * 11 + 5) (by omega)
        obtain ⟨u6, d6⟩ := F2.room (i * 11 + 6) (by omega)
        have f6 := F2.fz (i * 11 + 6) (by omega)
        obtain ⟨u7, d7⟩ := F2.room (i * 11 + 7) (by omega)
        have f7 := F2.fz (i * 11 + 7) (by omega)
        obtain ⟨u8, d8⟩ := F2.room (i * 11 + 8) (by omega)
        have f8 := F2.fz (i * 11 + 8) (by omega)
        obtain ⟨u9, d9⟩ := F2.room (i * 11 + 9) (by omega)
        have f9 := F2.fz (i * 11 + 9) (by omega)
        obtain ⟨u10, d10⟩ := F2.room (i * 11 + 10) (by omega)
        have f10 := F2.fz (i * 11 + 10) (by omega)
        clear C V2 V3 F2 hV hV' hD hB V7 V9 HFi HV HR
        simp only [List.cons_append, List.nil_append]
        go_wp2_with fail
        clear d0 f0 d1 f1 d2 f2 d3 f3 d4 f4 d5 f5 d6 f6 d7 f7 d8 f8 d9 f9 d10 f10
        go_roundw
        case rel =>
          have hl := HL.out
          have F3 := ((((((((((HF2.out.put (o := i * 11) (x := .int .i64 fs[i].kind) (by omega) (by omega)).put (o := i * 11 + 1) (x := .int .i64 fs[i].id) (by simp; omega) (by omega)).put (o := i * 11 + 2) (x := .string fs[i].name) (by simp; omega) (by omega)).put (o := i * 11 + 3) (x := .int .i64 fs[i].n) (by simp; omega) (by omega)).put (o := i * 11 + 4) (x := .slice q5 fs[i].ids.length p5) (by simp; omega) (by omega)).put (o := i * 11 + 5) (x := .int .i64 fs[i].data.kind) (by simp; omega) (by omega)).put (o := i * 11 + 6) (x := .string fs[i].data.name) (by simp; omega) (by omega)).put (o := i * 11 + 7) (x := .int .i64 fs[i].data.n) (by simp; omega) (by omega)).put (o := i * 11 + 8) (x := .slice q8 fs[i].data.scopes.length p8) (by simp; omega) (by omega)).put (o := i * 11 + 9) (x := .slice q9 fs[i].data.kids.length p9) (by simp; omega) (by omega)).put (o := i * 11 + 10) (x := .slice q10 fs[i].kids.length p10) (by simp; omega) (by omega)
          have hs : w.heap.size < w.heap.size + 1 := Nat.lt_succ_self _
          have S := (((((((((((Same.refl (w.heap.size + 1) w2).set (o := i * 11) hs (.int .i64 fs[i].kind)).set (o := i * 11 + 1) hs (.int .i64 fs[i].id)).set (o := i * 11 + 2) hs (.string fs[i].name)).set (o := i * 11 + 3) hs (.int .i64 fs[i].n)).set (o := i * 11 + 4) hs (.slice q5 fs[i].ids.length p5)).set (o := i * 11 + 5) hs (.int .i64 fs[i].data.kind)).set (o := i * 11 + 6) hs (.string fs[i].data.name)).set (o := i * 11 + 7) hs (.int .i64 fs[i].data.n)).set (o := i * 11 + 8) hs (.slice q8 fs[i].data.scopes.length p8)).set (o := i * 11 + 9) hs (.slice q9 fs[i].data.kids.length p9)).set (o := i * 11 + 10) hs (.slice q10 fs[i].kids.length p10)
          refine ⟨i + 1, cells ++ [.int .i64 fs[i].kind, .int .i64 fs[i].id, .string fs[i].name, .int .i64 fs[i].n, .slice q5 fs[i].ids.length p5, .int .i64 fs[i].data.kind, .string fs[i].data.name, .int .i64 fs[i].data.n, .slice q8 fs[i].data.scopes.length p8, .slice q9 fs[i].data.kids.length p9, .slice q10 fs[i].kids.length p10], by omega, by simp, (by simpa [List.append_assoc] using F3 : Fill w (fs.length * 11) _ _), by show List.length _ = _; simp; omega, ?_⟩
          show VCl _ _ (fs.take (i + 1)) _
          rw [List.take_succ_eq_append_getElem hlt]
          refine VCl.app (VCl.same S (Nat.le_refl _) (Nat.le_refl _) HV2.out) ?_
          rw [VCl]
          exact ⟨_, [], by simp, VC.same S (Nat.le_refl _) (Nat.le_refl _) HV3.out, by rw [VCl]⟩
        case measure => simp [intOf]; omega
      · obtain rfl : i = fs.length := by omega
        go_wp2
        go_ret
        have HV' := HV.out
        rw [List.take_length] at HV'
        exact ⟨_, cells, rfl, HFi.out.below, HFi.out.row HL.out (by unfold maxLen; omega), VCl.same (Same.refl _ _) (Nat.le_refl _) (by omega) HV'⟩
theorem toCore (f : Mx.Core) (h : cntC f ≤ 8388608) : CC f := by
  have h2 := cntC_eq f
  have h3 := cntF_eq f.data
  exact toCore_of f (by omega) (toForm_of f.data (by omega) (toFormS _ f.data.kids (Nat.lt_succ_self _) (by omega))) (toCoreS _ f.kids (Nat.lt_succ_self _) (by omega))
end Go.Raw
