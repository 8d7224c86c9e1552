/- The law's walk. No condition. -/
import Derived.Test.YtomehndhbihfiaaGreatDoorRcU
import Derived.Deep.RegionHeld3
namespace Go.Raw
open Go.Mx Go.RowKit
set_option linter.unusedVariables false
set_option maxHeartbeats 1000000
set_option maxRecDepth 100000
def Res (W : World) (e : Ending) (w' : World) : Prop := e = .returned (.bool true) ∧ Below W.heap.size W w'
theorem RowX.gr {T : Nat → Prop} {w w' : World} {g : Nat} {cells : List Value} (h : RowX w g cells) (k : Gr T w w') (hn : ¬ T g) : RowX w' g cells := k.row hn h
theorem law (c : Mx.Core) {cs : List Value} {W : World} (hg : glob Ev.X.E W) (hd : RdL cx0 W (cCore c) cs) (hok : Ev.okC (Ev.toC c)) :
    Calls Go.Proofs.Tryz.prog 3 #[.agg cs.toArray] W (Res W) := by
  obtain ⟨x5, y4, y5, x7, rfl, _⟩ := eleven hd
  have HD := Lib.hid hd
  have HG := Lib.hid hg
  have HO := Lib.hid hok
  clear hg hd hok
  go_enter Go.Proofs.Tryz.func3, Go.Proofs.Tryz.ntmps3
  go_wp2_with fail
  have B1 : Below W.heap.size W (W.alloc (.cells #[.int .i64 c.kind, .int .i64 c.id, .string c.name, .int .i64 c.n, x5, .int .i64 c.data.kind, .string c.data.name, .int .i64 c.data.n, y4, y5, x7] 28)) := (Below.refl _ _).alloc (Nat.le_refl _) _
  have X1 := RowX.new W [.int .i64 c.kind, .int .i64 c.id, .string c.name, .int .i64 c.n, x5, .int .i64 c.data.kind, .string c.data.name, .int .i64 c.data.n, y4, y5, x7] 28
  generalize W.alloc (.cells #[.int .i64 c.kind, .int .i64 c.id, .string c.name, .int .i64 c.n, x5, .int .i64 c.data.kind, .string c.data.name, .int .i64 c.data.n, y4, y5, x7] 28) = w1 at *
  refine (c5 HO.out (HG.out.below B1) (rdlB HD.out B1)).mono ?_
  rintro e w2 ⟨rfl, hB2⟩
  have B2 := B1.trans (hB2.mono B1.size)
  have X2 := X1.below hB2
  clear hB2 B1 X1
  have HB2 := Lib.hid B2
  have HX2 := Lib.hid X2
  by_cases hw : (Ev.wC (Ev.toC c) : Int) ≤ 1048576
  case neg =>
    have e : Ev.szR (Ev.wC (Ev.toC c)) 1048576 = -1 := if_neg hw
    rw [e]
    clear hw e X2 B2
    go_wp2_with fail
    go_ret
    exact ⟨rfl, HB2.out⟩
  have e : Ev.szR (Ev.wC (Ev.toC c)) 1048576 = 1048576 - Ev.wC (Ev.toC c) := if_pos hw
  rw [e]
  have hcn : cntC c ≤ 8388608 := by have := cntC_w c; omega
  have HN := Lib.hid hcn
  have hw7 : Ev.wC (Ev.toC c) ≤ 700000000 := by omega
  obtain ⟨r, _, hr⟩ := Ev.ivp_ex (Ev.toC c) hw7
  have SP := Lib.hid (fun (w : World) (vs : List Value) hg hd => spC (w := w) (vs := vs) hw7 hr hg hd)
  have IM := Lib.hid (fun (w : World) (vs : List Value) hg hd => imC (w := w) (vs := vs) hw7 hr hg hd)
  have HF : Hid (1 + cntF (Ev.ofF (Ev.unR (Ev.toC c) r).1) < 4611686018427387904) := by
    show _ < _
    have h1 := cntF_w (Ev.ofF (Ev.unR (Ev.toC c) r).1)
    rw [Ev.toF_ofF] at h1
    have h2 : Ev.wF (Ev.unR (Ev.toC c) r).1 ≤ 16000 := by
      unfold Ev.unR
      split
      · split
        · decide
        · split
          · rename_i hv; exact Ev.valid_wF hv
          · decide
      · decide
    omega
  generalize Ev.ofF (Ev.unR (Ev.toC c) r).1 = f at *
  generalize (Ev.unR (Ev.toC c) r).2 = b at *
  have h0 : (0 : Int) ≤ 1048576 - Ev.wC (Ev.toC c) := by omega
  generalize (1048576 - (Ev.wC (Ev.toC c) : Int)) = r0 at *
  have ca0 := (X2 0 _ rfl).1
  have ca1 := (X2 1 _ rfl).1
  have ca2 := (X2 2 _ rfl).1
  have ca3 := (X2 3 _ rfl).1
  have ca4 := (X2 4 _ rfl).1
  have ca5 := (X2 5 _ rfl).1
  have ca6 := (X2 6 _ rfl).1
  have ca7 := (X2 7 _ rfl).1
  have ca8 := (X2 8 _ rfl).1
  have ca9 := (X2 9 _ rfl).1
  have ca10 := (X2 10 _ rfl).1
  clear e hw hcn X2 B2 hw7 hr
  go_wp2_with fail
  clear ca0 ca1 ca2 ca3 ca4 ca5 ca6 ca7 ca8 ca9 ca10
  refine (toCore c HN.out _ w2 (rdlB HD.out HB2.out)).mono ?_
  rintro e w3 ⟨vs3, rfl, hB3, hV3⟩
  have HB3 := Lib.hid (HB2.out.trans (hB3.mono HB2.out.size))
  have HX3 := Lib.hid (HX2.out.below hB3)
  have HV3 := Lib.hid hV3
  clear hB3 hV3 HB2 HX2
  go_wp2_with fail
  refine (SP.out w3 _ (HG.out.below HB3.out) HV3.out.rdL).mono ?_
  rintro e w4 ⟨v0, rfl, hB4, hQ4⟩
  obtain ⟨v1, rfl, hQ5⟩ := tup2 hQ4
  obtain ⟨us0, rfl, hR4⟩ : ∃ uf : List Value, v1 = .agg uf.toArray ∧ RdL cx0 w4 (cForm f) uf := by
    cases hQ5 with
    | @agg _ u1 l1 q1 => exact ⟨u1, rfl, l1, q1⟩
  obtain ⟨z4, z5, rfl, q4, q5⟩ := fiveR hR4
  obtain ⟨b4, d4, rfl⟩ := rd_slice q4
  obtain ⟨b5, d5, rfl⟩ := rd_slice q5
  have HB4 := Lib.hid (HB3.out.trans (hB4.mono HB3.out.size))
  have HX4 := Lib.hid (HX3.out.below hB4)
  have HR4 := Lib.hid hR4
  have hX4a : RowX (w4.alloc (.cells #[.int .i64 f.kind, .string f.name, .int .i64 f.n, .slice b4 (intsD f.scopes).length d4, .slice b5 (formsD f.kids).length d5] 32)) W.heap.size [.int .i64 c.kind, .int .i64 c.id, .string c.name, .int .i64 c.n, x5, .int .i64 c.data.kind, .string c.data.name, .int .i64 c.data.n, y4, y5, x7] := HX4.out.alloc (.cells #[.int .i64 f.kind, .string f.name, .int .i64 f.n, .slice b4 (intsD f.scopes).length d4, .slice b5 (formsD f.kids).length d5] 32)
  have hY4 := RowX.new w4 [.int .i64 f.kind, .string f.name, .int .i64 f.n, .slice b4 (intsD f.scopes).length d4, .slice b5 (formsD f.kids).length d5] 32
  have hB4a : Below w4.heap.size w4 (w4.alloc (.cells #[.int .i64 f.kind, .string f.name, .int .i64 f.n, .slice b4 (intsD f.scopes).length d4, .slice b5 (formsD f.kids).length d5] 32)) := (Below.refl _ _).alloc (Nat.le_refl _) _
  have ca0 := (hX4a 0 _ rfl).1
  have ca1 := (hX4a 1 _ rfl).1
  have ca2 := (hX4a 2 _ rfl).1
  have ca3 := (hX4a 3 _ rfl).1
  have ca4 := (hX4a 4 _ rfl).1
  have ca5 := (hX4a 5 _ rfl).1
  have ca6 := (hX4a 6 _ rfl).1
  have ca7 := (hX4a 7 _ rfl).1
  have ca8 := (hX4a 8 _ rfl).1
  have ca9 := (hX4a 9 _ rfl).1
  have ca10 := (hX4a 10 _ rfl).1
  have HX5 := Lib.hid hX4a
  have HY5 := Lib.hid hY4
  have HB45 := Lib.hid hB4a
  have hs5 : (w4.alloc (.cells #[.int .i64 f.kind, .string f.name, .int .i64 f.n, .slice b4 (intsD f.scopes).length d4, .slice b5 (formsD f.kids).length d5] 32)).heap.size = w4.heap.size + 1 := by simp
  have HS5 := Lib.hid hs5
  clear hB4 hR4 hQ4 hQ5 q4 q5 HB3 HX3 HV3 hX4a hY4 hB4a HX4 hs5 SP
  go_wp2_with fail
  generalize w4.alloc (.cells #[.int .i64 f.kind, .string f.name, .int .i64 f.n, .slice b4 (intsD f.scopes).length d4, .slice b5 (formsD f.kids).length d5] 32) = w5 at *
  clear ca0 ca1 ca2 ca3 ca4 ca5 ca6 ca7 ca8 ca9 ca10
  have HB5 : Hid (Below W.heap.size W w5) := HB4.out.trans (HB45.out.mono HB4.out.size)
  have HR5 := Lib.hid (rdlB HR4.out HB45.out)
  clear HB45 HR4
  refine (toCore c HN.out _ w5 (rdlB HD.out HB5.out)).mono ?_
  rintro e w6 ⟨vs6, rfl, hB6, hV6⟩
  obtain ⟨z55, zd5, z75, rfl, R55, D5, _, R75, _⟩ := hV6.inv
  obtain ⟨z85, z95, rfl, R85, _, R95, _⟩ := D5.inv
  obtain ⟨q55, p55, rfl, _⟩ := R55
  obtain ⟨q85, p85, rfl, _⟩ := R85
  obtain ⟨q95, p95, rfl, _⟩ := R95
  obtain ⟨q75, p75, rfl, _⟩ := R75
  clear D5
  simp only [List.cons_append, List.nil_append] at hV6
  have HV6 := Lib.hid hV6
  have HB56 := Lib.hid hB6
  clear hB6 hV6
  go_wp2_with fail
  have hB7 : Below w6.heap.size w6 (w6.alloc (.cells #[.int .i64 c.kind, .int .i64 c.id, .string c.name, .int .i64 c.n, .slice q55 c.ids.length p55, .int .i64 c.data.kind, .string c.data.name, .int .i64 c.data.n, .slice q85 c.data.scopes.length p85, .slice q95 c.data.kids.length p95, .slice q75 c.kids.length p75] 37)) := (Below.refl _ _).alloc (Nat.le_refl _) _
  have hY7 := RowX.new w6 [.int .i64 c.kind, .int .i64 c.id, .string c.name, .int .i64 c.n, .slice q55 c.ids.length p55, .int .i64 c.data.kind, .string c.data.name, .int .i64 c.data.n, .slice q85 c.data.scopes.length p85, .slice q95 c.data.kids.length p95, .slice q75 c.kids.length p75] 37
  have hs7 : (w6.alloc (.cells #[.int .i64 c.kind, .int .i64 c.id, .string c.name, .int .i64 c.n, .slice q55 c.ids.length p55, .int .i64 c.data.kind, .string c.data.name, .int .i64 c.data.n, .slice q85 c.data.scopes.length p85, .slice q95 c.data.kids.length p95, .slice q75 c.kids.length p75] 37)).heap.size = w6.heap.size + 1 := by simp
  have HY7 := Lib.hid hY7
  have HB67 := Lib.hid hB7
  have HS7 := Lib.hid hs7
  have HSH := Lib.hid HV6.out.sh
  have HV7 := Lib.hid (VC.same (Same.of_below (base := 0) hB7) (Nat.zero_le _) (Nat.le_refl _) HV6.out)
  clear hB7 hY7 hs7 HV6
  generalize w6.alloc (.cells #[.int .i64 c.kind, .int .i64 c.id, .string c.name, .int .i64 c.n, .slice q55 c.ids.length p55, .int .i64 c.data.kind, .string c.data.name, .int .i64 c.data.n, .slice q85 c.data.scopes.length p85, .slice q95 c.data.kids.length p95, .slice q75 c.kids.length p75] 37) = w7 at *
  have HB57 : Hid (Below w5.heap.size w5 w7) := HB56.out.trans (HB67.out.mono HB56.out.size)
  have HB7 : Hid (Below W.heap.size W w7) := HB5.out.trans (HB57.out.mono HB5.out.size)
  refine (IM.out w7 _ (HG.out.below HB7.out) HV7.out.rdL).mono ?_
  rintro e w8 ⟨usg, F, rfl, hL8, hn8, hf8, hB8⟩
  obtain ⟨z4, z5, rfl, q4, q5⟩ := fiveR hL8.rdL
  obtain ⟨g4, h4, rfl⟩ := rd_slice q4
  obtain ⟨g5, h5, rfl⟩ := rd_slice q5
  clear q4 q5
  have HFN := Lib.hid hn8
  have HFF : Hid (∀ x ∈ F, w7.heap.size ≤ x) := hf8
  have HB58 : Hid (Below w5.heap.size w5 w8) := HB57.out.trans (hB8.mono HB57.out.size)
  have HY8 := Lib.hid (HY7.out.below hB8)
  have HV8 := Lib.hid (VC.same (Same.of_below (base := 0) hB8) (Nat.zero_le _) (Nat.le_refl _) HV7.out)
  have HS78 : Hid (w7.heap.size ≤ w8.heap.size) := hB8.size
  have HB78 : Hid (Below w7.heap.size w7 w8) := hB8
  have HFX : Hid (∀ x ∈ F, x < w8.heap.size) := hL8.lt
  have HL8 := Lib.hid hL8
  have hB9 : Below w8.heap.size w8 (w8.alloc (.cells #[.int .i64 f.kind, .string f.name, .int .i64 f.n, .slice g4 (intsD f.scopes).length h4, .slice g5 (formsD f.kids).length h5] 32)) := (Below.refl _ _).alloc (Nat.le_refl _) _
  have hZ9 := RowX.new w8 [.int .i64 f.kind, .string f.name, .int .i64 f.n, .slice g4 (intsD f.scopes).length h4, .slice g5 (formsD f.kids).length h5] 32
  have HZ9 := Lib.hid hZ9
  have HB89 := Lib.hid hB9
  have HS9 : Hid ((w8.alloc (.cells #[.int .i64 f.kind, .string f.name, .int .i64 f.n, .slice g4 (intsD f.scopes).length h4, .slice g5 (formsD f.kids).length h5] 32)).heap.size = w8.heap.size + 1) := by show _ = _; simp
  have hY5 := (HY5.out.below HB58.out).below hB9
  have d0 := (hY5 0 _ rfl).1
  have d1 := (hY5 1 _ rfl).1
  have d2 := (hY5 2 _ rfl).1
  have d3 := (hY5 3 _ rfl).1
  have d4 := (hY5 4 _ rfl).1
  clear hL8 hn8 hf8 hB8 hB9 hZ9 hY5 HY7 HV7 HB7 HB57
  go_wp2_with fail
  clear d0 d1 d2 d3 d4
  generalize w8.alloc (.cells #[.int .i64 f.kind, .string f.name, .int .i64 f.n, .slice g4 (intsD f.scopes).length h4, .slice g5 (formsD f.kids).length h5] 32) = w9 at *
  have HB59 : Hid (Below w5.heap.size w5 w9) := HB58.out.trans (HB89.out.mono HB58.out.size)
  have HL9 := Lib.hid (HL8.out.keep (T := fun _ => False) (Gr.of_below HB89.out) (fun _ _ h => h))
  have HB9 : Hid (Below W.heap.size W w9) := HB5.out.trans (HB59.out.mono HB5.out.size)
  refine (c9 (HG.out.below HB9.out) HL9.out.rdL (rdlB HR5.out HB59.out)).mono ?_
  rintro e w10 ⟨rfl, hB10⟩
  have HB510 : Hid (Below w5.heap.size w5 w10) := HB59.out.trans (hB10.mono HB59.out.size)
  have HL10 := Lib.hid (HL9.out.keep (T := fun _ => False) (Gr.of_below hB10) (fun _ _ h => h))
  have HY10 := Lib.hid ((HY8.out.below HB89.out).below hB10)
  have HZ10 := Lib.hid (HZ9.out.below hB10)
  have HV10 := Lib.hid (VC.same (Same.of_below (base := 0) hB10) (Nat.zero_le _) (Nat.le_refl _) (VC.same (Same.of_below (base := 0) HB89.out) (Nat.zero_le _) (Nat.le_refl _) HV8.out))
  have HB910 : Hid (Below w9.heap.size w9 w10) := hB10
  clear hB10 HL8 HL9 HY8 HV8 HZ9 HB58 HB59 HB9
  go_wp2_with fail
  have HB5d : Hid (Below w5.heap.size w5 w10.drew) := HB510.out.drew
  have HX10 : Hid (RowX w10.drew W.heap.size [.int .i64 c.kind, .int .i64 c.id, .string c.name, .int .i64 c.n, x5, .int .i64 c.data.kind, .string c.data.name, .int .i64 c.data.n, y4, y5, x7]) := HX5.out.below HB5d.out
  have HY10d : Hid (RowX w10.drew w6.heap.size [.int .i64 c.kind, .int .i64 c.id, .string c.name, .int .i64 c.n, .slice q55 c.ids.length p55, .int .i64 c.data.kind, .string c.data.name, .int .i64 c.data.n, .slice q85 c.data.scopes.length p85, .slice q95 c.data.kids.length p95, .slice q75 c.kids.length p75]) := HY10.out
  have HV10d : Hid (VC w10.drew w5.heap.size c [.int .i64 c.kind, .int .i64 c.id, .string c.name, .int .i64 c.n, .slice q55 c.ids.length p55, .int .i64 c.data.kind, .string c.data.name, .int .i64 c.data.n, .slice q85 c.data.scopes.length p85, .slice q95 c.data.kids.length p95, .slice q75 c.kids.length p75]) := VC.same (w := w10) (w' := w10.drew) (b0 := 0) (fun b o x _ h => ⟨h, rfl⟩) (Nat.zero_le _) (Nat.le_refl _) HV10.out
  have HL10d : Hid (LF w10.drew f [.int .i64 f.kind, .string f.name, .int .i64 f.n, .slice g4 (intsD f.scopes).length h4, .slice g5 (formsD f.kids).length h5] F) := LF.keep ((Gr.refl (fun _ => False) w10).drew) HL10.out (fun _ _ h => h)
  have HZ10d : Hid (RowX w10.drew w8.heap.size [.int .i64 f.kind, .string f.name, .int .i64 f.n, .slice g4 (intsD f.scopes).length h4, .slice g5 (formsD f.kids).length h5]) := HZ10.out
  have HBd : Hid (Below W.heap.size W w10.drew) := HB5.out.trans (HB5d.out.mono HB5.out.size)
  have ca0 := (HX10.out 0 _ rfl).1
  have ca1 := (HX10.out 1 _ rfl).1
  have ca2 := (HX10.out 2 _ rfl).1
  have ca3 := (HX10.out 3 _ rfl).1
  have ca4 := (HX10.out 4 _ rfl).1
  have ca5 := (HX10.out 5 _ rfl).1
  have ca6 := (HX10.out 6 _ rfl).1
  have ca7 := (HX10.out 7 _ rfl).1
  have ca8 := (HX10.out 8 _ rfl).1
  have ca9 := (HX10.out 9 _ rfl).1
  have ca10 := (HX10.out 10 _ rfl).1
  have m0 := (HY10d.out 0 _ rfl).1
  have m1 := (HY10d.out 1 _ rfl).1
  have m2 := (HY10d.out 2 _ rfl).1
  have m3 := (HY10d.out 3 _ rfl).1
  have m4 := (HY10d.out 4 _ rfl).1
  have m5 := (HY10d.out 5 _ rfl).1
  have m6 := (HY10d.out 6 _ rfl).1
  have m7 := (HY10d.out 7 _ rfl).1
  have m8 := (HY10d.out 8 _ rfl).1
  have m9 := (HY10d.out 9 _ rfl).1
  have m10 := (HY10d.out 10 _ rfl).1
  go_region_held3 (fun w' => w'.cell? ⟨W.heap.size, 0, none⟩ = some (.int .i64 c.kind) ∧ w'.cell? ⟨W.heap.size, 1, none⟩ = some (.int .i64 c.id) ∧ w'.cell? ⟨W.heap.size, 2, none⟩ = some (.string c.name) ∧ w'.cell? ⟨W.heap.size, 3, none⟩ = some (.int .i64 c.n) ∧ w'.cell? ⟨W.heap.size, 4, none⟩ = some (x5) ∧ w'.cell? ⟨W.heap.size, 5, none⟩ = some (.int .i64 c.data.kind) ∧ w'.cell? ⟨W.heap.size, 6, none⟩ = some (.string c.data.name) ∧ w'.cell? ⟨W.heap.size, 7, none⟩ = some (.int .i64 c.data.n) ∧ w'.cell? ⟨W.heap.size, 8, none⟩ = some (y4) ∧ w'.cell? ⟨W.heap.size, 9, none⟩ = some (y5) ∧ w'.cell? ⟨W.heap.size, 10, none⟩ = some (x7) ∧ w'.cell? ⟨w6.heap.size, 0, none⟩ = some (.int .i64 c.kind) ∧ w'.cell? ⟨w6.heap.size, 1, none⟩ = some (.int .i64 c.id) ∧ w'.cell? ⟨w6.heap.size, 2, none⟩ = some (.string c.name) ∧ w'.cell? ⟨w6.heap.size, 3, none⟩ = some (.int .i64 c.n) ∧ w'.cell? ⟨w6.heap.size, 4, none⟩ = some (.slice q55 c.ids.length p55) ∧ w'.cell? ⟨w6.heap.size, 5, none⟩ = some (.int .i64 c.data.kind) ∧ w'.cell? ⟨w6.heap.size, 6, none⟩ = some (.string c.data.name) ∧ w'.cell? ⟨w6.heap.size, 7, none⟩ = some (.int .i64 c.data.n) ∧ w'.cell? ⟨w6.heap.size, 8, none⟩ = some (.slice q85 c.data.scopes.length p85) ∧ w'.cell? ⟨w6.heap.size, 9, none⟩ = some (.slice q95 c.data.kids.length p95) ∧ w'.cell? ⟨w6.heap.size, 10, none⟩ = some (.slice q75 c.kids.length p75)) (first | go_keep)
    (first
      | (go_at_call 7; refine (toCore c HN.out _ _ ?_).mono ?_; (first | exact rdlB HD.out HBd.out); rintro e w11 ⟨vs11, rfl, hB11, hV11⟩; have X11 := HX10.out.below hB11; have Y11 := HY10d.out.below hB11; have HB11 := Lib.hid hB11; have HV11 := Lib.hid hV11; have k0 := (X11 0 _ rfl).1; have n0 := (Y11 0 _ rfl).1; have k1 := (X11 1 _ rfl).1; have n1 := (Y11 1 _ rfl).1; have k2 := (X11 2 _ rfl).1; have n2 := (Y11 2 _ rfl).1; have k3 := (X11 3 _ rfl).1; have n3 := (Y11 3 _ rfl).1; have k4 := (X11 4 _ rfl).1; have n4 := (Y11 4 _ rfl).1; have k5 := (X11 5 _ rfl).1; have n5 := (Y11 5 _ rfl).1; have k6 := (X11 6 _ rfl).1; have n6 := (Y11 6 _ rfl).1; have k7 := (X11 7 _ rfl).1; have n7 := (Y11 7 _ rfl).1; have k8 := (X11 8 _ rfl).1; have n8 := (Y11 8 _ rfl).1; have k9 := (X11 9 _ rfl).1; have n9 := (Y11 9 _ rfl).1; have k10 := (X11 10 _ rfl).1; have n10 := (Y11 10 _ rfl).1; clear hB11 hV11 X11 Y11)
      | (go_at_call 10; refine (c10 (c := c) ?_ ?_ ?_).mono ?_; (first | exact HG.out.below (HBd.out.trans (HB11.out.mono HBd.out.size))); (first | exact rdlB HV10d.out.rdL HB11.out); (first | exact HV11.out.rdL); rintro e w12 ⟨rfl, hB12⟩; have HB12 := Lib.hid hB12; have X12 := (HX10.out.below HB11.out).below hB12; have Y12 := (HY10d.out.below HB11.out).below hB12; have kk0 := (X12 0 _ rfl).1; have nn0 := (Y12 0 _ rfl).1; have kk1 := (X12 1 _ rfl).1; have nn1 := (Y12 1 _ rfl).1; have kk2 := (X12 2 _ rfl).1; have nn2 := (Y12 2 _ rfl).1; have kk3 := (X12 3 _ rfl).1; have nn3 := (Y12 3 _ rfl).1; have kk4 := (X12 4 _ rfl).1; have nn4 := (Y12 4 _ rfl).1; have kk5 := (X12 5 _ rfl).1; have nn5 := (Y12 5 _ rfl).1; have kk6 := (X12 6 _ rfl).1; have nn6 := (Y12 6 _ rfl).1; have kk7 := (X12 7 _ rfl).1; have nn7 := (Y12 7 _ rfl).1; have kk8 := (X12 8 _ rfl).1; have nn8 := (Y12 8 _ rfl).1; have kk9 := (X12 9 _ rfl).1; have nn9 := (Y12 9 _ rfl).1; have kk10 := (X12 10 _ rfl).1; have nn10 := (Y12 10 _ rfl).1; clear hB12 X12 Y12))
  have HBx : Hid (Below w10.drew.heap.size w10.drew w12) := HB11.out.trans (HB12.out.mono HB11.out.size)
  have HB512 : Hid (Below w5.heap.size w5 w12) := HB5d.out.trans (HBx.out.mono HB5d.out.size)
  have HL12 := Lib.hid (HL10d.out.keep (T := fun _ => False) (Gr.of_below HBx.out) (fun _ _ h => h))
  have HZ12 := Lib.hid (HZ10d.out.below HBx.out)
  have HB612 : Hid (Below w6.heap.size w6 w12) := by
    have k1 : Below w6.heap.size w6 w8 := HB67.out.trans ((show Below w7.heap.size w7 w8 from HB78.out).mono HB67.out.size)
    have k2 : Below w6.heap.size w6 w9 := k1.trans ((show Below w8.heap.size w8 w9 from HB89.out).mono k1.size)
    have k3 : Below w6.heap.size w6 w10 := k2.trans ((show Below w9.heap.size w9 w10 from HB910.out).mono k2.size)
    exact k3.drew.trans (HBx.out.mono k3.size)
  have HSHx := Lib.hid (HSH.out.ks (KS.of_below (R := fun _ => False) HB612.out) (KEs.refl _))
  have HS6 := Lib.hid HB56.out.size
  have HS512 : Hid (w6.heap.size ≤ w12.heap.size) := HB612.out.size
  clear HB5d HX10 HY10d HV10d HL10d HZ10d HBd HB11 HV11 HB12 HBx HSH HB56 HB67 HB612 HL10 HY10 HZ10 HV10 HB510 HB78 HB89 HB910
  go_wp2_with fail
  clear ca0 ca1 ca2 ca3 ca4 ca5 ca6 ca7 ca8 ca9 ca10 m0 m1 m2 m3 m4 m5 m6 m7 m8 m9 m10 k0 k1 k2 k3 k4 k5 k6 k7 k8 k9 k10 n0 n1 n2 n3 n4 n5 n6 n7 n8 n9 n10 kk0 kk1 kk2 kk3 kk4 kk5 kk6 kk7 kk8 kk9 kk10 nn0 nn1 nn2 nn3 nn4 nn5 nn6 nn7 nn8 nn9 nn10
  have CM := markCore (mT := Ev.eT) (k := 1) (fun k w hk => markText k w hk) HSHx.out (by have := HN.out; omega)
  refine CM.mono ?_
  rintro e w13 ⟨rfl, hK⟩
  have hG13 := hK.gr
  have HB513 : Hid (Below w5.heap.size w5 w13) := HB512.out.trans (hK.belowR HB512.out.size)
  have hd1 : ∀ x ∈ F, ¬ In w5.heap.size w6.heap.size x := fun x hx h => by have h1 := HFF.out x hx; have h2 := HS7.out; have h3 := h.2; omega
  have HL13 := Lib.hid (HL12.out.keep hG13 hd1)
  have HZ13 := Lib.hid (HZ12.out.gr hG13 (fun h => by have h1 := HS78.out; have h2 := HS7.out; have h3 := h.2; omega))
  have HB13 : Hid (Below W.heap.size W w13) := HB5.out.trans (HB513.out.mono HB5.out.size)
  have HR13 := Lib.hid (rdlB HR5.out HB513.out)
  have hY13 := HY5.out.below HB513.out
  have hk0 : (0 : Int) ≤ ((1 + cntC c : Nat) : Int) := Int.natCast_nonneg _
  have d0 := (hY13 0 _ rfl).1
  have d1 := (hY13 1 _ rfl).1
  have d2 := (hY13 2 _ rfl).1
  have d3 := (hY13 3 _ rfl).1
  have d4 := (hY13 4 _ rfl).1
  have m0 := (HZ13.out 0 _ rfl).1
  have m1 := (HZ13.out 1 _ rfl).1
  have m2 := (HZ13.out 2 _ rfl).1
  have m3 := (HZ13.out 3 _ rfl).1
  have m4 := (HZ13.out 4 _ rfl).1
  clear CM hK hG13 hd1 HL12 HZ12 HB512 HSHx hY13
  generalize ((1 + cntC c : Nat) : Int) = km at *
  go_wp2_with fail
  clear d0 d1 d2 d3 d4 m0 m1 m2 m3 m4
  refine (c9 (HG.out.below HB13.out) HL13.out.rdL HR13.out).mono ?_
  rintro e w14 ⟨rfl, hB14⟩
  have HB514 : Hid (Below w5.heap.size w5 w14) := HB513.out.trans (hB14.mono HB513.out.size)
  have HL14 := Lib.hid (HL13.out.keep (T := fun _ => False) (Gr.of_below hB14) (fun _ _ h => h))
  have HZ14 := Lib.hid (HZ13.out.below hB14)
  have m0 := (HZ14.out 0 _ rfl).1
  have m1 := (HZ14.out 1 _ rfl).1
  have m2 := (HZ14.out 2 _ rfl).1
  have m3 := (HZ14.out 3 _ rfl).1
  have m4 := (HZ14.out 4 _ rfl).1
  clear hB14 HL13 HZ13 HB513 HB13 HR13
  go_wp2_with fail
  clear m0 m1 m2 m3 m4
  have CM := markFormT (mT := Ev.eT) (k := 1) (fun k w hk => markText k w hk) HL14.out HFN.out HF.out
  refine CM.mono ?_
  rintro e w15 ⟨rfl, hG15, hL15⟩
  have HL15 := Lib.hid hL15
  have hF5 : ∀ b ∈ F, w5.heap.size ≤ b := fun b hb => by have h1 := HFF.out b hb; have h2 := HS7.out; have h3 := HS6.out; omega
  have HB515 : Hid (Below w5.heap.size w5 w15) := ⟨hG15.os.trans HB514.out.os, hG15.tape.trans HB514.out.tape, hG15.output.trans HB514.out.output, Nat.le_trans HB514.out.size hG15.size, fun b hb => (hG15.block b (Nat.lt_of_lt_of_le hb HB514.out.size) (fun h => by have := hF5 b h; omega)).trans (HB514.out.block b hb)⟩
  have hFl : ∀ b ∈ F, b < w14.heap.size := HL14.out.lt
  have HB15 : Hid (Below W.heap.size W w15) := HB5.out.trans (HB515.out.mono HB5.out.size)
  have hnF : w8.heap.size ∉ F := fun h => by have := HFX.out _ h; omega
  have HZ15 := Lib.hid (HZ14.out.gr hG15 (fun h => hnF h))
  have m0 := (HZ15.out 0 _ rfl).1
  have m1 := (HZ15.out 1 _ rfl).1
  have m2 := (HZ15.out 2 _ rfl).1
  have m3 := (HZ15.out 3 _ rfl).1
  have m4 := (HZ15.out 4 _ rfl).1
  clear CM hG15 hL15 hFl hF5 hnF HL14 HZ14 HB514
  go_wp2_with fail
  clear m0 m1 m2 m3 m4
  have hn0 : (0 : Int) ≤ 1 + (cntF f : Int) := by omega
  refine (c13 HF.out (HG.out.below HB15.out) HL15.out.rdL).mono ?_
  rintro e w16 ⟨rfl, hB16⟩
  have HB516 : Hid (Below w5.heap.size w5 w16) := HB515.out.trans (hB16.mono HB515.out.size)
  have HL16 := Lib.hid (HL15.out.keep (T := fun _ => False) (Gr.of_below hB16) (fun _ _ h => h))
  have HZ16 := Lib.hid (HZ15.out.below hB16)
  have HB16 : Hid (Below W.heap.size W w16) := HB5.out.trans (HB516.out.mono HB5.out.size)
  have hX16 := HX5.out.below HB516.out
  have ca0 := (hX16 0 _ rfl).1
  have ca1 := (hX16 1 _ rfl).1
  have ca2 := (hX16 2 _ rfl).1
  have ca3 := (hX16 3 _ rfl).1
  have ca4 := (hX16 4 _ rfl).1
  have ca5 := (hX16 5 _ rfl).1
  have ca6 := (hX16 6 _ rfl).1
  have ca7 := (hX16 7 _ rfl).1
  have ca8 := (hX16 8 _ rfl).1
  have ca9 := (hX16 9 _ rfl).1
  have ca10 := (hX16 10 _ rfl).1
  clear hB16 hX16 HL15 HZ15 HB515 HB15
  go_wp2_with fail
  clear ca0 ca1 ca2 ca3 ca4 ca5 ca6 ca7 ca8 ca9 ca10
  refine (toCore c HN.out _ w16 (rdlB HD.out HB16.out)).mono ?_
  rintro e w17 ⟨vs17, rfl, hB17, hV17⟩
  have HB517 : Hid (Below w5.heap.size w5 w17) := HB516.out.trans (hB17.mono HB516.out.size)
  have HL17 := Lib.hid (HL16.out.keep (T := fun _ => False) (Gr.of_below hB17) (fun _ _ h => h))
  have HZ17 := Lib.hid (HZ16.out.below hB17)
  have HB17 : Hid (Below W.heap.size W w17) := HB5.out.trans (HB517.out.mono HB5.out.size)
  have HV17 := Lib.hid hV17
  clear hB17 hV17 HL16 HZ16 HB516 HB16
  go_wp2_with fail
  refine (IM.out w17 _ (HG.out.below HB17.out) HV17.out.rdL).mono ?_
  rintro e w18 ⟨ush, Fh, rfl, hL18, _, _, hB18⟩
  obtain ⟨z4, z5, rfl, q4, q5⟩ := fiveR hL18.rdL
  obtain ⟨j4, k4, rfl⟩ := rd_slice q4
  obtain ⟨j5, k5, rfl⟩ := rd_slice q5
  clear q4 q5
  have HB518 : Hid (Below w5.heap.size w5 w18) := HB517.out.trans (hB18.mono HB517.out.size)
  have HL18 := Lib.hid (HL17.out.keep (T := fun _ => False) (Gr.of_below hB18) (fun _ _ h => h))
  have HZ18 := Lib.hid (HZ17.out.below hB18)
  have HH18 := Lib.hid hL18
  have hB19 : Below w18.heap.size w18 (w18.alloc (.cells #[.int .i64 f.kind, .string f.name, .int .i64 f.n, .slice j4 (intsD f.scopes).length k4, .slice j5 (formsD f.kids).length k5] 32)) := (Below.refl _ _).alloc (Nat.le_refl _) _
  have HB1819 := Lib.hid hB19
  have hY19 := (HY5.out.below HB518.out).below hB19
  have d0 := (hY19 0 _ rfl).1
  have d1 := (hY19 1 _ rfl).1
  have d2 := (hY19 2 _ rfl).1
  have d3 := (hY19 3 _ rfl).1
  have d4 := (hY19 4 _ rfl).1
  clear hL18 hB18 hB19 hY19 HL17 HZ17 HB517 HB17 HV17
  go_wp2_with fail
  clear d0 d1 d2 d3 d4
  generalize w18.alloc (.cells #[.int .i64 f.kind, .string f.name, .int .i64 f.n, .slice j4 (intsD f.scopes).length k4, .slice j5 (formsD f.kids).length k5] 32) = w19 at *
  have HB519 : Hid (Below w5.heap.size w5 w19) := HB518.out.trans (HB1819.out.mono HB518.out.size)
  have HL19 := Lib.hid (HL18.out.keep (T := fun _ => False) (Gr.of_below HB1819.out) (fun _ _ h => h))
  have HH19 := Lib.hid (HH18.out.keep (T := fun _ => False) (Gr.of_below HB1819.out) (fun _ _ h => h))
  have HZ19 := Lib.hid (HZ18.out.below HB1819.out)
  have HB19 : Hid (Below W.heap.size W w19) := HB5.out.trans (HB519.out.mono HB5.out.size)
  refine (c9 (HG.out.below HB19.out) HH19.out.rdL (rdlB HR5.out HB519.out)).mono ?_
  rintro e w20 ⟨rfl, hB20⟩
  have HB520 : Hid (Below w5.heap.size w5 w20) := HB519.out.trans (hB20.mono HB519.out.size)
  have HL20 := Lib.hid (HL19.out.keep (T := fun _ => False) (Gr.of_below hB20) (fun _ _ h => h))
  have hZ20 := HZ19.out.below hB20
  have HB20 : Hid (Below W.heap.size W w20) := HB5.out.trans (HB520.out.mono HB5.out.size)
  have m0 := (hZ20 0 _ rfl).1
  have m1 := (hZ20 1 _ rfl).1
  have m2 := (hZ20 2 _ rfl).1
  have m3 := (hZ20 3 _ rfl).1
  have m4 := (hZ20 4 _ rfl).1
  clear hB20 hZ20 HL18 HL19 HH18 HH19 HZ18 HZ19 HB518 HB519 HB19 HB1819
  go_wp2_with fail
  clear m0 m1 m2 m3 m4
  refine (c13 HF.out (HG.out.below HB20.out) HL20.out.rdL).mono ?_
  rintro e w21 ⟨rfl, hB21⟩
  have HB21 : Hid (Below W.heap.size W w21) := HB20.out.trans (hB21.mono HB20.out.size)
  clear hB21 HL20 HB20
  go_wp2_with fail
  go_ret
  exact ⟨rfl, HB21.out⟩
end Go.Raw
