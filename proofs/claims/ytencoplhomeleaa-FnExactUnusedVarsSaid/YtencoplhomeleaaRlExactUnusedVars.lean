/- The walk of the law. No condition. -/
import Derived.Test.YtencoplhomeleaaRawBU
import Derived.Test.YtencoplhomeleaaRawDU
import Derived.Test.YtencoplhomeleaaRawE
import Derived.Test.YtencoplhomeleaaRawTU

import Derived.Test.YtencoplhomeleaaLwExactUnusedVars
import Derived.Deep.RegionHeld3
namespace Go.Raw
open Go.Mx Go.RowKit
set_option linter.unusedVariables false
set_option maxHeartbeats 1000000
/-! ### this law's calls -/
section
variable {c : Mx.Core} {w : World} {vs : List Value}
def LL (c : Mx.Core) : List Int := Ev.unV (Ev.toC c)
theorem cK (c : Mx.Core) : (KD.agg (Ev.kCore (Ev.toC c))).D = .agg (cCore c) := by simp only [KD.D, Ev.core_D]
theorem cSz (hok : Ev.okC (Ev.toC c)) (hg : glob Ev.X.E w) (hd : RdL cx0 w (cCore c) vs) : Calls Go.Proofs.Try.prog 4 #[.agg vs.toArray, .int .i64 1048576] w (OutV (.int .i64 (Ev.szR (Ev.wC (Ev.toC c)) 1048576)) w) := by
  obtain ⟨N, h⟩ := Ev.szCore_evt (Ev.toC c) hok 1048576 (by omega) (by omega)
  exact raw0v (E := Ev.X.E) (Ev.w_la_szCore N _ _ (h N (Nat.le_refl _))) rfl rfl hg ((RdL.one (by rw [ED.D, cK]; exact agg1 hd)).append (RdL.one (.v _)))
theorem cSp (hw : Ev.wC (Ev.toC c) ≤ 1048576) (hg : glob Ev.X.E w) (hd : RdL cx0 w (cCore c) vs) : Calls Go.Proofs.Try.prog 5 #[.agg vs.toArray] w (Out (.sl 1 .ro (intsD (LL c))) w) := by
  obtain ⟨N, h⟩ := Ev.sunv_evt (Ev.toC c) (by have := Ev.cC_le (Ev.toC c); omega)
  exact raw0 (E := Ev.X.E) (Ev.w_sp_UnusedVars N _ (h N (Nat.le_refl _))) rfl (ints_K _) hg (RdL.one (by rw [ED.D, cK]; exact agg1 hd))
theorem cIm (hw : Ev.wC (Ev.toC c) ≤ 1048576) (hg : glob Ev.X.E w) (hd : RdL cx0 w (cCore c) vs) : Calls Go.Proofs.Try.prog 7 #[.agg vs.toArray] w (OutI (LL c) w) := by
  obtain ⟨N, h⟩ := Ev.iunv_evt (Ev.toC c) (by have := Ev.cC_le (Ev.toC c); omega)
  exact raw1i (E := Ev.X.E) (Ev.w_im_UnusedVars_o N _ (h N (Nat.le_refl _))) rfl rfl hg (RdL.one (by rw [ED.D, cK]; exact agg1 hd))
theorem cEq {l : List Int} {a b : Value} (hg : glob Ev.X.E w) (ha : Rd cx0 w (.sl 1 .ro (intsD l)) a) (hb : Rd cx0 w (.sl 1 .ro (intsD l)) b) : Calls Go.Proofs.Try.prog 8 #[a, b] w (OutV (.bool true) w) := by
  obtain ⟨N, h⟩ := Ev.eqIntS_evt l
  exact raw0v (E := Ev.X.E) (Ev.w_la_eqIntS N _ _ (h N (Nat.le_refl _))) rfl rfl hg ((RdL.one (by rw [ED.D, ints_K]; exact ha)).append (RdL.one (by rw [ED.D, ints_K]; exact hb)))
theorem cHe {n : Nat} {a : Value} (hn : n ≤ 1000000000) (hg : glob Ev.X.E w) (ha : Rd cx0 w (.sl 1 .ro (intsD (marks 1 n))) a) : Calls Go.Proofs.Try.prog 12 #[a, .int .i64 1] w (OutV (.int .i64 (1 + n)) w) := by
  obtain ⟨N, h⟩ := Ev.heldIntS_evt 1 n (by omega) (by omega)
  exact raw0v (E := Ev.X.E) (Ev.w_la_heldIntS N _ _ (h N (Nat.le_refl _))) rfl rfl hg ((RdL.one (by rw [ED.D, ints_K]; exact ha)).append (RdL.one (.v _)))
theorem cEx {vs' : List Value} (hg : glob Ev.X.E w) (ha : RdL cx0 w (cCore c) vs) (hb : RdL cx0 w (cCore c) vs') : Calls Go.Proofs.Try.prog 9 #[.agg vs.toArray, .agg vs'.toArray] w (OutV (.bool true) w) := by
  obtain ⟨N, h⟩ := Ev.eqCore_evt (Ev.toC c)
  exact raw0v (E := Ev.X.E) (Ev.w_la_eqCore N _ _ (h N (Nat.le_refl _))) rfl rfl hg ((RdL.one (by rw [ED.D, cK]; exact agg1 ha)).append (RdL.one (by rw [ED.D, cK]; exact agg1 hb)))
end
theorem LL_len (c : Mx.Core) (h : Ev.wC (Ev.toC c) ≤ 1048576) : (LL c).length ≤ 1000000000 := by
  have := Ev.unV_le (Ev.toC c); show (Ev.unV _).length ≤ _; omega
def Res (W : World) (e : Ending) (w' : World) : Prop := e = .returned (.bool true) ∧ Below W.heap.size W w'
set_option maxRecDepth 100000 in
theorem law (c : Mx.Core) {cs : List Value} {W : World} (hg : glob Ev.X.E W) (hd : RdL cx0 W (cCore c) cs) (hok : Ev.okC (Ev.toC c)) :
    Calls Go.Proofs.Try.prog 3 #[.agg cs.toArray] W (Res W) := by
  obtain ⟨x5, y4, y5, x7, rfl, _⟩ := eleven hd
  have HD := Lib.hid hd
  have HG := Lib.hid hg
  have HO := Lib.hid hok
  clear hg hd hok
  go_enter Go.Proofs.Try.func3, Go.Proofs.Try.ntmps3
  go_wp2_with fail
  have B1 : Below W.heap.size W (W.alloc (.cells #[.int .i64 c.kind, .int .i64 c.id, .string c.name, .int .i64 c.n, x5, .int .i64 c.data.kind, .string c.data.name, .int .i64 c.data.n, y4, y5, x7] 28)) := (Below.refl _ _).alloc (Nat.le_refl _) _
  have X1 := RowX.new W [.int .i64 c.kind, .int .i64 c.id, .string c.name, .int .i64 c.n, x5, .int .i64 c.data.kind, .string c.data.name, .int .i64 c.data.n, y4, y5, x7] 28
  generalize W.alloc (.cells #[.int .i64 c.kind, .int .i64 c.id, .string c.name, .int .i64 c.n, x5, .int .i64 c.data.kind, .string c.data.name, .int .i64 c.data.n, y4, y5, x7] 28) = w1 at *
  refine (cSz HO.out (HG.out.below B1) (rdlB HD.out B1)).mono ?_
  rintro e w2 ⟨rfl, hB2⟩
  have B2 := B1.trans (hB2.mono B1.size)
  have X2 := X1.below hB2
  clear hB2 B1 X1
  have HB2 := Lib.hid B2
  have HX2 := Lib.hid X2
  by_cases hw : (Ev.wC (Ev.toC c) : Int) ≤ 1048576
  case neg =>
    have e : Ev.szR (Ev.wC (Ev.toC c)) 1048576 = -1 := if_neg hw
    rw [e]
    clear hw e X2 B2
    go_wp2_with fail
    go_ret
    exact ⟨rfl, HB2.out⟩
  have e : Ev.szR (Ev.wC (Ev.toC c)) 1048576 = 1048576 - Ev.wC (Ev.toC c) := if_pos hw
  rw [e]
  have hcC : Ev.wC (Ev.toC c) ≤ 1048576 := by omega
  have hcn : cntC c ≤ 8388608 := by have := cntC_w c; omega
  have HW := Lib.hid hcC
  have HN := Lib.hid hcn
  have HLn := Lib.hid (LL_len c hcC)
  have h0 : (0 : Int) ≤ 1048576 - Ev.wC (Ev.toC c) := by omega
  generalize (1048576 - (Ev.wC (Ev.toC c) : Int)) = r0 at *
  have c0 := (X2 0 _ rfl).1
  have c1 := (X2 1 _ rfl).1
  have c2 := (X2 2 _ rfl).1
  have c3 := (X2 3 _ rfl).1
  have c4 := (X2 4 _ rfl).1
  have c5 := (X2 5 _ rfl).1
  have c6 := (X2 6 _ rfl).1
  have c7 := (X2 7 _ rfl).1
  have c8 := (X2 8 _ rfl).1
  have c9 := (X2 9 _ rfl).1
  have c10 := (X2 10 _ rfl).1
  clear e hw hcC hcn X2 B2
  go_wp2_with fail
  clear c0 c1 c2 c3 c4 c5 c6 c7 c8 c9 c10
  refine (toCore c HN.out _ w2 (rdlB HD.out HB2.out)).mono ?_
  rintro e w3 ⟨vs3, rfl, hB3, hV3⟩
  have B3 := HB2.out.trans (hB3.mono HB2.out.size)
  have X3 := HX2.out.below hB3
  have HB3 := Lib.hid B3
  have HX3 := Lib.hid X3
  have HV3 := Lib.hid hV3
  clear hB3 B3 X3 hV3
  go_wp2_with fail
  refine (cSp HW.out (HG.out.below HB3.out) HV3.out.rdL).mono ?_
  rintro e w4 ⟨v0, rfl, hB4, hR4⟩
  have B4 := HB3.out.trans (hB4.mono HB3.out.size)
  have X4 := HX3.out.below hB4
  have HB4 := Lib.hid B4
  have HX4 := Lib.hid X4
  have HR4 := Lib.hid hR4
  have c0 := (X4 0 _ rfl).1
  have c1 := (X4 1 _ rfl).1
  have c2 := (X4 2 _ rfl).1
  have c3 := (X4 3 _ rfl).1
  have c4 := (X4 4 _ rfl).1
  have c5 := (X4 5 _ rfl).1
  have c6 := (X4 6 _ rfl).1
  have c7 := (X4 7 _ rfl).1
  have c8 := (X4 8 _ rfl).1
  have c9 := (X4 9 _ rfl).1
  have c10 := (X4 10 _ rfl).1
  clear hB4 B4 X4 hR4 HB2 HX2 HX3 HV3
  go_wp2_with fail
  clear c0 c1 c2 c3 c4 c5 c6 c7 c8 c9 c10
  refine (toCore c HN.out _ w4 (rdlB HD.out HB4.out)).mono ?_
  rintro e w5 ⟨vs5, rfl, hB5, hV5⟩
  obtain ⟨z5, zd, z7, rfl, R5, D5, _, R7, _⟩ := hV5.inv
  obtain ⟨z8, z9, rfl, R8, _, R9, _⟩ := D5.inv
  obtain ⟨q5, p5, rfl, _⟩ := R5
  obtain ⟨q8, p8, rfl, _⟩ := R8
  obtain ⟨q9, p9, rfl, _⟩ := R9
  obtain ⟨q7, p7, rfl, _⟩ := R7
  clear D5
  simp only [List.cons_append, List.nil_append] at hV5
  have HV5 := Lib.hid hV5
  have HB45 := Lib.hid hB5
  have X5 := HX4.out.below hB5
  have HX5 := Lib.hid X5
  clear hB5 hV5 X5
  go_wp2_with fail
  have hB6 : Below w5.heap.size w5 (w5.alloc (.cells #[.int .i64 c.kind, .int .i64 c.id, .string c.name, .int .i64 c.n, .slice q5 c.ids.length p5, .int .i64 c.data.kind, .string c.data.name, .int .i64 c.data.n, .slice q8 c.data.scopes.length p8, .slice q9 c.data.kids.length p9, .slice q7 c.kids.length p7] 36)) := (Below.refl _ _).alloc (Nat.le_refl _) _
  have B46 : Below w4.heap.size w4 (w5.alloc (.cells #[.int .i64 c.kind, .int .i64 c.id, .string c.name, .int .i64 c.n, .slice q5 c.ids.length p5, .int .i64 c.data.kind, .string c.data.name, .int .i64 c.data.n, .slice q8 c.data.scopes.length p8, .slice q9 c.data.kids.length p9, .slice q7 c.kids.length p7] 36)) := HB45.out.trans (hB6.mono HB45.out.size)
  have X6 := HX5.out.below hB6
  have Y6 := RowX.new w5 [.int .i64 c.kind, .int .i64 c.id, .string c.name, .int .i64 c.n, .slice q5 c.ids.length p5, .int .i64 c.data.kind, .string c.data.name, .int .i64 c.data.n, .slice q8 c.data.scopes.length p8, .slice q9 c.data.kids.length p9, .slice q7 c.kids.length p7] 36
  have V6 := VC.same (Same.of_below (base := 0) hB6) (Nat.zero_le _) (Nat.le_refl _) HV5.out
  have B6 := HB4.out.trans (B46.mono HB4.out.size)
  have HSH := Lib.hid HV5.out.sh
  have HB56 := Lib.hid hB6
  clear HV5 HX5 HB45 hB6
  have HX6 := Lib.hid X6
  have HY6 := Lib.hid Y6
  have HV6 := Lib.hid V6
  have HB6 := Lib.hid B6
  have HB46 := Lib.hid B46
  have HB46x := HB46
  clear X6 Y6 V6 B6 B46
  generalize w5.alloc (.cells #[.int .i64 c.kind, .int .i64 c.id, .string c.name, .int .i64 c.n, .slice q5 c.ids.length p5, .int .i64 c.data.kind, .string c.data.name, .int .i64 c.data.n, .slice q8 c.data.scopes.length p8, .slice q9 c.data.kids.length p9, .slice q7 c.kids.length p7] 36) = w6 at *
  refine (cIm HW.out (HG.out.below HB6.out) HV6.out.rdL).mono ?_
  rintro e w7 ⟨vg, rfl, hB7, hRG⟩
  have hRG' := hRG
  obtain ⟨aG, cG, rfl, _⟩ := hRG
  have HB67 := Lib.hid hB7
  have HRG := Lib.hid hRG'
  have X7 := HX6.out.below hB7
  have Y7 := HY6.out.below hB7
  have V7 := VC.same (Same.of_below (base := 0) hB7) (Nat.zero_le _) (Nat.le_refl _) HV6.out
  have B47 := HB46.out.trans (hB7.mono HB46.out.size)
  have B7 := HB6.out.trans (hB7.mono HB6.out.size)
  have HX7 := Lib.hid X7
  have HY7 := Lib.hid Y7
  have HV7 := Lib.hid V7
  have HB7 := Lib.hid B7
  have HB47 := Lib.hid B47
  clear X7 Y7 V7 B7 B47 hB7 hRG' HX6 HY6 HB46
  go_wp2_with fail
  refine (cEq (HG.out.below HB7.out) (ints_rd HRG.out) (rd_below HR4.out HB47.out)).mono ?_
  rintro e w8 ⟨rfl, hB8⟩
  have HB78 := Lib.hid hB8
  have X8 := HX7.out.below hB8
  have Y8 := HY7.out.below hB8
  have V8 := VC.same (Same.of_below (base := 0) hB8) (Nat.zero_le _) (Nat.le_refl _) HV7.out
  have RG8 := HRG.out.same (Same.of_below (base := 0) hB8) (Nat.zero_le _)
  have B8 := HB7.out.trans (hB8.mono HB7.out.size)
  have HX8 := Lib.hid X8
  have HY8 := Lib.hid Y8
  have HV8 := Lib.hid V8
  have HB8 := Lib.hid B8
  have HRG8 := Lib.hid RG8
  clear X8 Y8 V8 RG8 B8 hB8 HX7 HY7 HV7 HRG
  go_wp2_with fail
  have c0 := (HX8.out 0 _ rfl).1
  have c1 := (HX8.out 1 _ rfl).1
  have c2 := (HX8.out 2 _ rfl).1
  have c3 := (HX8.out 3 _ rfl).1
  have c4 := (HX8.out 4 _ rfl).1
  have c5 := (HX8.out 5 _ rfl).1
  have c6 := (HX8.out 6 _ rfl).1
  have c7 := (HX8.out 7 _ rfl).1
  have c8 := (HX8.out 8 _ rfl).1
  have c9 := (HX8.out 9 _ rfl).1
  have c10 := (HX8.out 10 _ rfl).1
  have d0 := (HY8.out 0 _ rfl).1
  have d1 := (HY8.out 1 _ rfl).1
  have d2 := (HY8.out 2 _ rfl).1
  have d3 := (HY8.out 3 _ rfl).1
  have d4 := (HY8.out 4 _ rfl).1
  have d5 := (HY8.out 5 _ rfl).1
  have d6 := (HY8.out 6 _ rfl).1
  have d7 := (HY8.out 7 _ rfl).1
  have d8 := (HY8.out 8 _ rfl).1
  have d9 := (HY8.out 9 _ rfl).1
  have d10 := (HY8.out 10 _ rfl).1
  have HX8' : Hid (RowX w8.drew W.heap.size [.int .i64 c.kind, .int .i64 c.id, .string c.name, .int .i64 c.n, x5, .int .i64 c.data.kind, .string c.data.name, .int .i64 c.data.n, y4, y5, x7]) := HX8.out
  have HY8' : Hid (RowX w8.drew w5.heap.size [.int .i64 c.kind, .int .i64 c.id, .string c.name, .int .i64 c.n, .slice q5 c.ids.length p5, .int .i64 c.data.kind, .string c.data.name, .int .i64 c.data.n, .slice q8 c.data.scopes.length p8, .slice q9 c.data.kids.length p9, .slice q7 c.kids.length p7]) := HY8.out
  have HV8' : Hid (VC w8.drew w4.heap.size c [.int .i64 c.kind, .int .i64 c.id, .string c.name, .int .i64 c.n, .slice q5 c.ids.length p5, .int .i64 c.data.kind, .string c.data.name, .int .i64 c.data.n, .slice q8 c.data.scopes.length p8, .slice q9 c.data.kids.length p9, .slice q7 c.kids.length p7]) := VC.same (w := w8) (w' := w8.drew) (b0 := 0) (fun b o x _ h => ⟨h, rfl⟩) (Nat.zero_le _) (Nat.le_refl _) HV8.out
  have HB8' : Hid (Below W.heap.size W w8.drew) := HB8.out.drew
  go_region_held3 (fun w' => w'.cell? ⟨W.heap.size, 0, none⟩ = some (.int .i64 c.kind) ∧ w'.cell? ⟨W.heap.size, 1, none⟩ = some (.int .i64 c.id) ∧ w'.cell? ⟨W.heap.size, 2, none⟩ = some (.string c.name) ∧ w'.cell? ⟨W.heap.size, 3, none⟩ = some (.int .i64 c.n) ∧ w'.cell? ⟨W.heap.size, 4, none⟩ = some (x5) ∧ w'.cell? ⟨W.heap.size, 5, none⟩ = some (.int .i64 c.data.kind) ∧ w'.cell? ⟨W.heap.size, 6, none⟩ = some (.string c.data.name) ∧ w'.cell? ⟨W.heap.size, 7, none⟩ = some (.int .i64 c.data.n) ∧ w'.cell? ⟨W.heap.size, 8, none⟩ = some (y4) ∧ w'.cell? ⟨W.heap.size, 9, none⟩ = some (y5) ∧ w'.cell? ⟨W.heap.size, 10, none⟩ = some (x7) ∧ w'.cell? ⟨w5.heap.size, 0, none⟩ = some (.int .i64 c.kind) ∧ w'.cell? ⟨w5.heap.size, 1, none⟩ = some (.int .i64 c.id) ∧ w'.cell? ⟨w5.heap.size, 2, none⟩ = some (.string c.name) ∧ w'.cell? ⟨w5.heap.size, 3, none⟩ = some (.int .i64 c.n) ∧ w'.cell? ⟨w5.heap.size, 4, none⟩ = some (.slice q5 c.ids.length p5) ∧ w'.cell? ⟨w5.heap.size, 5, none⟩ = some (.int .i64 c.data.kind) ∧ w'.cell? ⟨w5.heap.size, 6, none⟩ = some (.string c.data.name) ∧ w'.cell? ⟨w5.heap.size, 7, none⟩ = some (.int .i64 c.data.n) ∧ w'.cell? ⟨w5.heap.size, 8, none⟩ = some (.slice q8 c.data.scopes.length p8) ∧ w'.cell? ⟨w5.heap.size, 9, none⟩ = some (.slice q9 c.data.kids.length p9) ∧ w'.cell? ⟨w5.heap.size, 10, none⟩ = some (.slice q7 c.kids.length p7)) (go_keep)
    (first
      | (go_at_call 6; refine (toCore c HN.out _ _ ?_).mono ?_; (first | exact rdlB HD.out HB8'.out); rintro e w9 ⟨vs9, rfl, hB9, hV9⟩; have X9 := HX8'.out.below hB9; have Y9 := HY8'.out.below hB9; have HB9 := Lib.hid hB9; have HV9 := Lib.hid hV9; have HX9 := Lib.hid X9; have HY9 := Lib.hid Y9; have k0 := (X9 0 _ rfl).1; have k1 := (X9 1 _ rfl).1; have k2 := (X9 2 _ rfl).1; have k3 := (X9 3 _ rfl).1; have k4 := (X9 4 _ rfl).1; have k5 := (X9 5 _ rfl).1; have k6 := (X9 6 _ rfl).1; have k7 := (X9 7 _ rfl).1; have k8 := (X9 8 _ rfl).1; have k9 := (X9 9 _ rfl).1; have k10 := (X9 10 _ rfl).1; have m0 := (Y9 0 _ rfl).1; have m1 := (Y9 1 _ rfl).1; have m2 := (Y9 2 _ rfl).1; have m3 := (Y9 3 _ rfl).1; have m4 := (Y9 4 _ rfl).1; have m5 := (Y9 5 _ rfl).1; have m6 := (Y9 6 _ rfl).1; have m7 := (Y9 7 _ rfl).1; have m8 := (Y9 8 _ rfl).1; have m9 := (Y9 9 _ rfl).1; have m10 := (Y9 10 _ rfl).1; clear X9 Y9 hB9 hV9)
      | (go_at_call 9; refine (cEx (c := c) ?_ ?_ ?_).mono ?_; (first | exact HG.out.below (HB8'.out.trans (HB9.out.mono HB8'.out.size))); (first | exact rdlB HV8'.out.rdL HB9.out); (first | exact HV9.out.rdL); rintro e w10 ⟨rfl, hB10⟩; have HB10 := Lib.hid hB10; have X10 := HX9.out.below hB10; have Y10 := HY9.out.below hB10; have kk0 := (X10 0 _ rfl).1; have kk1 := (X10 1 _ rfl).1; have kk2 := (X10 2 _ rfl).1; have kk3 := (X10 3 _ rfl).1; have kk4 := (X10 4 _ rfl).1; have kk5 := (X10 5 _ rfl).1; have kk6 := (X10 6 _ rfl).1; have kk7 := (X10 7 _ rfl).1; have kk8 := (X10 8 _ rfl).1; have kk9 := (X10 9 _ rfl).1; have kk10 := (X10 10 _ rfl).1; have mm0 := (Y10 0 _ rfl).1; have mm1 := (Y10 1 _ rfl).1; have mm2 := (Y10 2 _ rfl).1; have mm3 := (Y10 3 _ rfl).1; have mm4 := (Y10 4 _ rfl).1; have mm5 := (Y10 5 _ rfl).1; have mm6 := (Y10 6 _ rfl).1; have mm7 := (Y10 7 _ rfl).1; have mm8 := (Y10 8 _ rfl).1; have mm9 := (Y10 9 _ rfl).1; have mm10 := (Y10 10 _ rfl).1; clear X10 Y10 hB10))
  have B58 : Below w5.heap.size w5 w8.drew := ((HB56.out.trans (HB67.out.mono HB56.out.size)).trans ((HB78.out.mono HB67.out.size).mono HB56.out.size)).drew
  have B5x := (B58.trans (HB9.out.mono B58.size)).trans ((HB10.out.mono HB9.out.size).mono B58.size)
  have B47' := HB47.out
  have B48 : Below w4.heap.size w4 w8.drew := (B47'.trans (HB78.out.mono B47'.size)).drew
  have B4x := (B48.trans (HB9.out.mono B48.size)).trans ((HB10.out.mono HB9.out.size).mono B48.size)
  have RG9 := (HRG8.out.same (w' := w8.drew) (b0 := 0) (fun b o x _ h => ⟨h, rfl⟩) (Nat.zero_le _)).same (Same.of_below (base := 0) HB9.out) (Nat.zero_le _)
  have RGx := RG9.same (Same.of_below (base := 0) HB10.out) (Nat.zero_le _)
  have SHx := HSH.out.ks (KS.of_below (R := fun _ => False) B5x) (KEs.refl _)
  have HS6x := Lib.hid (Nat.le_trans (Nat.le_trans HB67.out.size HB78.out.size) (Nat.le_trans (show w8.heap.size ≤ w9.heap.size from HB9.out.size) HB10.out.size))
  have HS46 := Lib.hid HB46x.out.size
  have HS56 := Lib.hid HB56.out.size
  have HB4x := Lib.hid B4x
  have HRGx := Lib.hid RGx
  have HSHx := Lib.hid SHx
  clear B58 B5x B47' B48 B4x RG9 RGx SHx HSH HB56 HB67 HB78 HB47 HX8' HY8' HV8' HB8' HV8 HRG8 HX9 HY9 HV9 HV6
  go_wp2_with fail
  clear k0 k1 k2 k3 k4 k5 k6 k7 k8 k9 k10 m0 m1 m2 m3 m4 m5 m6 m7 m8 m9 m10 kk0 kk1 kk2 kk3 kk4 kk5 kk6 kk7 kk8 kk9 kk10 mm0 mm1 mm2 mm3 mm4 mm5 mm6 mm7 mm8 mm9 mm10 c0 c1 c2 c3 c4 c5 c6 c7 c8 c9 c10 d0 d1 d2 d3 d4 d5 d6 d7 d8 d9 d10
  have CM := markCore (k := 1) markText HSHx.out (by have := HN.out; omega)
  refine CM.mono ?_
  rintro e w11 ⟨rfl, hK⟩
  have BK := hK.belowR HB4x.out.size
  have B411 : Below w4.heap.size w4 w11 := HB4x.out.trans BK
  have RG11 := HRGx.out.ksout hK HS56.out
  have B11 : Below W.heap.size W w11 := HB4.out.trans (B411.mono HB4.out.size)
  have HB411 := Lib.hid B411
  have HRG11 := Lib.hid RG11
  have HB11 := Lib.hid B11
  have hk0 : (0 : Int) ≤ ((1 + cntC c : Nat) : Int) := Int.natCast_nonneg _
  have hs611 : w6.heap.size ≤ w11.heap.size := Nat.le_trans HS6x.out hK.size
  have HS611 := Lib.hid hs611
  clear CM BK B411 RG11 B11 hK HB4x HRGx HSHx hs611
  generalize ((1 + cntC c : Nat) : Int) = km at *
  go_wp2_with fail
  refine (cEq (HG.out.below HB11.out) (ints_rd HRG11.out) (rd_below HR4.out HB411.out)).mono ?_
  rintro e w12 ⟨rfl, hB12⟩
  have B412 := HB411.out.trans (hB12.mono HB411.out.size)
  have RG12 := HRG11.out.same (Same.of_below (base := 0) hB12) (Nat.zero_le _)
  have hs612 := Nat.le_trans HS611.out hB12.size
  have HB412 := Lib.hid B412
  have HRG12 := Lib.hid RG12
  have HS612 := Lib.hid hs612
  clear hB12 B412 RG12 hs612 HB411 HRG11 HB11 HS611
  go_wp2_with fail
  have CM := markIntSx (k := 1) HRG12.out (by simp [ints]) (fun x hx => by simp only [ints, List.mem_map] at hx; obtain ⟨i, _, rfl⟩ := hx; exact ⟨i, rfl⟩) (by omega) (by have := HLn.out; omega)
  refine CM.mono ?_
  rintro e w13 ⟨rfl, hK, hR⟩
  have BK := hK.belowG HS612.out
  have B413 : Below w4.heap.size w4 w13 := HB412.out.trans (BK.mono HS46.out)
  have B13 : Below W.heap.size W w13 := HB4.out.trans (B413.mono HB4.out.size)
  have hR' : RowAt w13 (Ge w6.heap.size) (.slice aG (LL c).length cG) (marks 1 (LL c).length).length (ints (marks 1 (LL c).length)) := by rw [show (marks 1 (LL c).length).length = (LL c).length by simp [marks]]; exact hR
  have HB413 := Lib.hid B413
  have HB13 := Lib.hid B13
  have HR13 := Lib.hid hR'
  clear CM BK B413 B13 hK hR hR' HB412 HRG12 HS612
  go_wp2_with fail
  refine (cHe (n := (LL c).length) HLn.out (HG.out.below HB13.out) (ints_rd HR13.out)).mono ?_
  rintro e w14 ⟨rfl, hB14⟩
  have B414 := HB413.out.trans (hB14.mono HB413.out.size)
  have B14 := HB13.out.trans (hB14.mono HB13.out.size)
  have R14 := HR13.out.same (Same.of_below (base := 0) hB14) (Nat.zero_le _)
  have X14 := HX4.out.below B414
  have HB414 := Lib.hid B414
  have HB14 := Lib.hid B14
  have HR14 := Lib.hid R14
  have hn0 : (0 : Int) ≤ 1 + ((LL c).length : Int) := by omega
  have c0 := (X14 0 _ rfl).1
  have c1 := (X14 1 _ rfl).1
  have c2 := (X14 2 _ rfl).1
  have c3 := (X14 3 _ rfl).1
  have c4 := (X14 4 _ rfl).1
  have c5 := (X14 5 _ rfl).1
  have c6 := (X14 6 _ rfl).1
  have c7 := (X14 7 _ rfl).1
  have c8 := (X14 8 _ rfl).1
  have c9 := (X14 9 _ rfl).1
  have c10 := (X14 10 _ rfl).1
  clear hB14 B414 B14 R14 X14 HB413 HB13 HR13
  go_wp2_with fail
  clear c0 c1 c2 c3 c4 c5 c6 c7 c8 c9 c10
  refine (toCore c HN.out _ w14 (rdlB HD.out HB14.out)).mono ?_
  rintro e w15 ⟨vs15, rfl, hB15, hV15⟩
  have B415 := HB414.out.trans (hB15.mono HB414.out.size)
  have B15 := HB14.out.trans (hB15.mono HB14.out.size)
  have R15 := HR14.out.same (Same.of_below (base := 0) hB15) (Nat.zero_le _)
  have HB415 := Lib.hid B415
  have HB15 := Lib.hid B15
  have HR15 := Lib.hid R15
  have HV15 := Lib.hid hV15
  clear hB15 B415 B15 R15 hV15 HB414 HB14 HR14
  go_wp2_with fail
  refine (cIm HW.out (HG.out.below HB15.out) HV15.out.rdL).mono ?_
  rintro e w16 ⟨vh, rfl, hB16, hRH⟩
  have B416 := HB415.out.trans (hB16.mono HB415.out.size)
  have B16 := HB15.out.trans (hB16.mono HB15.out.size)
  have R16 := HR15.out.same (Same.of_below (base := 0) hB16) (Nat.zero_le _)
  have HB416 := Lib.hid B416
  have HB16 := Lib.hid B16
  have HR16 := Lib.hid R16
  have HRH := Lib.hid hRH
  clear hB16 B416 B16 R16 hRH HB415 HB15 HR15 HV15
  go_wp2_with fail
  refine (cEq (HG.out.below HB16.out) (ints_rd HRH.out) (rd_below HR4.out HB416.out)).mono ?_
  rintro e w17 ⟨rfl, hB17⟩
  have B17 := HB16.out.trans (hB17.mono HB16.out.size)
  have R17 := HR16.out.same (Same.of_below (base := 0) hB17) (Nat.zero_le _)
  have HB17 := Lib.hid B17
  have HR17 := Lib.hid R17
  clear hB17 B17 R17 HB416 HB16 HR16 HRH
  go_wp2_with fail
  refine (cHe (n := (LL c).length) HLn.out (HG.out.below HB17.out) (ints_rd HR17.out)).mono ?_
  rintro e w18 ⟨rfl, hB18⟩
  have B18 := HB17.out.trans (hB18.mono HB17.out.size)
  have HB18 := Lib.hid B18
  clear hB18 B18 HB17 HR17
  go_wp2_with fail
  go_ret
  exact ⟨rfl, HB18.out⟩
end Go.Raw
