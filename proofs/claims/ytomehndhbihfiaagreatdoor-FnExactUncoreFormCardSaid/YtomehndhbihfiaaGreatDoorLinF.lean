/- impl.copyForm hands out a tree of rows of its own. No condition. -/
import Derived.Test.YtomehndhbihfiaaGreatDoorLinA
import Derived.Test.YtomehndhbihfiaaGreatDoorProg
import Derived.StillTailTactics
import Derived.Deep.AppendLies
import Derived.Deep.CutRange
import Derived.Deep.CutBlock
import Derived.Deep.RegionLaw
import Derived.Deep.RegionHeld3
import Derived.Deep.DeepCutAuto
import Derived.Laws.IdiomRangeMap
namespace Go.Raw
open Go.Mx Go.RowKit Go.Maps
set_option linter.unusedVariables false
set_option maxHeartbeats 1000000
set_option maxRecDepth 100000
theorem info32 : (Go.Proofs.Tryz.prog.info? 32).map (fun i => (i.zero, i.size, i.bytes)) = some (some (.agg #[.int .i64 0, .string ⟨#[]⟩, .int .i64 0, .slice none 0 0, .slice none 0 0]), 5, 80) := by kernel_rfl
def CloneC (G : World → Prop) (l : List Int) : Prop := ∀ (v : Value) (w : World), Rd cx0 w (.sl 1 .ro (intsD l)) v → G w → Calls Go.Proofs.Tryz.prog 88 #[v] w (OutI l w)
def OutL (f : Mx.Form) (w : World) (e : Ending) (w' : World) : Prop := ∃ (vs : List Value) (F : List Nat), e = .returned (.agg vs.toArray) ∧ LF w' f vs F ∧ F.Nodup ∧ (∀ b ∈ F, w.heap.size ≤ b) ∧ Below w.heap.size w w'
def CopyF (G : World → Prop) (f : Mx.Form) : Prop := ∀ (vs : List Value) (w : World), RdL cx0 w (cForm f) vs → G w → Calls Go.Proofs.Tryz.prog 72 #[.agg vs.toArray] w (OutL f w)
theorem copy_step {G : World → Prop} (GB : ∀ w w' : World, Below w.heap.size w w' → G w → G w') (f : Mx.Form) (CL : CloneC G f.scopes) (hn : cntF f < 5000000000000) (KS : ∀ x ∈ f.kids, CopyF G x) : CopyF G f := by
  intro vs w h1 hG
  obtain ⟨x4, x5, rfl, r4, r5⟩ := fiveR h1
  obtain ⟨a4, c4, rfl⟩ := rd_slice r4
  obtain ⟨a5, c5, rfl, hm5, A1, A2, hA, hKA⟩ := formsM r5
  rw [intsD_length] at *
  have H1 := Lib.hid h1
  have HG := Lib.hid hG
  have HGB := Lib.hid GB
  have HCL := Lib.hid CL
  have HKS := Lib.hid KS
  have HA := Lib.hid hA
  have HKA := Lib.hid hKA
  have HN := Lib.hid hn
  have HR4 := Lib.hid r4
  have hmx5 : f.kids.length ≤ 9223372036854775807 := hm5
  clear h1 hG GB CL KS hA hKA hn r4 r5 hm5
  go_enter Go.Proofs.Tryz.func72, Go.Proofs.Tryz.ntmps72
  go_wp2_with fail
  have hX1 := (RowX.new w [.int .i64 f.kind, .string f.name, .int .i64 f.n, .slice a4 f.scopes.length c4, .slice a5 f.kids.length c5] 32).alloc (.cells #[.int .i64 0, .string ⟨#[]⟩, .int .i64 0, .slice none 0 0, .slice none 0 0] 32)
  have hX2 := RowX.new (w.alloc (.cells #[.int .i64 f.kind, .string f.name, .int .i64 f.n, .slice a4 f.scopes.length c4, .slice a5 f.kids.length c5] 32)) [.int .i64 0, .string ⟨#[]⟩, .int .i64 0, .slice none 0 0, .slice none 0 0] 32
  have hB2 : Below w.heap.size w ((w.alloc (.cells #[.int .i64 f.kind, .string f.name, .int .i64 f.n, .slice a4 f.scopes.length c4, .slice a5 f.kids.length c5] 32)).alloc (.cells #[.int .i64 0, .string ⟨#[]⟩, .int .i64 0, .slice none 0 0, .slice none 0 0] 32)) := ((Below.refl _ _).alloc (Nat.le_refl _) _).alloc (by simp) _
  have hs2 : ((w.alloc (.cells #[.int .i64 f.kind, .string f.name, .int .i64 f.n, .slice a4 f.scopes.length c4, .slice a5 f.kids.length c5] 32)).alloc (.cells #[.int .i64 0, .string ⟨#[]⟩, .int .i64 0, .slice none 0 0, .slice none 0 0] 32)).heap.size = w.heap.size + 2 := by simp
  simp only [World.size_alloc] at hX2
  have HX1 := Lib.hid hX1
  have HX2 := Lib.hid hX2
  have HB2 := Lib.hid hB2
  have HS2 := Lib.hid hs2
  clear hX1 hX2 hB2 hs2
  generalize ((w.alloc (.cells #[.int .i64 f.kind, .string f.name, .int .i64 f.n, .slice a4 f.scopes.length c4, .slice a5 f.kids.length c5] 32)).alloc (.cells #[.int .i64 0, .string ⟨#[]⟩, .int .i64 0, .slice none 0 0, .slice none 0 0] 32)) = w1 at *
  go_cut [3] from 6 to 15 (fun t3 wx => ∃ (o : Nat) (b4 : Option Addr) (d4 : Nat), t3 = .pointer (some ⟨o, 0, none⟩) ∧ Hid (w1.heap.size ≤ o) ∧ Hid (RowX wx o [.int .i64 f.kind, .string f.name, .int .i64 f.n, .slice b4 f.scopes.length d4, .slice none 0 0]) ∧ Hid (Below w1.heap.size w1 wx) ∧ (∃ F4 : List Nat, Hid (RowL wx (.slice b4 f.scopes.length d4) f.scopes.length (ints f.scopes) F4) ∧ Hid (∀ b ∈ F4, w1.heap.size ≤ b ∧ b ≠ o)))
  case first =>
    have n0 := (HX1.out 0 _ rfl).1
    have n1 := (HX1.out 1 _ rfl).1
    have n2 := (HX1.out 2 _ rfl).1
    have n3 := (HX1.out 3 _ rfl).1
    have hY0 : RowX (w1.alloc (.cells #[.int .i64 0, .string ⟨#[]⟩, .int .i64 0, .slice none 0 0, .slice none 0 0] 32)).drew w1.heap.size ([.int .i64 0, .string ⟨#[]⟩, .int .i64 0, .slice none 0 0, .slice none 0 0] : List Value) := fun j y hj => RowX.new w1 ([.int .i64 0, .string ⟨#[]⟩, .int .i64 0, .slice none 0 0, .slice none 0 0] : List Value) 32 j y hj
    have HY0 := Lib.hid hY0
    clear hY0
    have q1 : ¬ (w1.heap.size = w.heap.size) := by have := HS2.out; omega
    have q1' : ¬ (w.heap.size = w1.heap.size) := by have := HS2.out; omega
    go_region_held3 (fun w' => w'.cell? ⟨w.heap.size, 0, none⟩ = some (.int .i64 f.kind) ∧ w'.cell? ⟨w.heap.size, 1, none⟩ = some (.string f.name) ∧ w'.cell? ⟨w.heap.size, 2, none⟩ = some (.int .i64 f.n) ∧ w'.cell? ⟨w.heap.size, 3, none⟩ = some (.slice a4 f.scopes.length c4)) (first | go_keep)
      (first
        | (go_at_call 88
           refine Calls.mono (HCL.out (.slice a4 f.scopes.length c4) _ ?_ ?_) ?_
           · exact rd_below (w := w) HR4.out HB2.out.drew
           · exact HGB.out _ _ HB2.out.drew HG.out
           rintro e w2 ⟨v2, rfl, hB3, hR⟩
           have HB3 := Lib.hid hB3
           have HR := Lib.hid hR
           obtain ⟨F4, hF4, hF5⟩ := RowL.of hR
           have HF4 := Lib.hid hF4
           have HF5 : Hid (∀ b ∈ F4, w1.heap.size ≤ b) := hF5
           clear hF4 hF5
           obtain ⟨b4, d4, rfl, _⟩ := hR
           clear hB3
           have z0 : w2.cell? ⟨w.heap.size, 0, none⟩ = some (.int .i64 f.kind) := (HB3.out.cell (p := ⟨w.heap.size, 0, none⟩) (cell_lt n0)).trans n0
           have z1 : w2.cell? ⟨w.heap.size, 1, none⟩ = some (.string f.name) := (HB3.out.cell (p := ⟨w.heap.size, 1, none⟩) (cell_lt n1)).trans n1
           have z2 : w2.cell? ⟨w.heap.size, 2, none⟩ = some (.int .i64 f.n) := (HB3.out.cell (p := ⟨w.heap.size, 2, none⟩) (cell_lt n2)).trans n2
           have z3 : w2.cell? ⟨w.heap.size, 3, none⟩ = some (.slice a4 f.scopes.length c4) := (HB3.out.cell (p := ⟨w.heap.size, 3, none⟩) (cell_lt n3)).trans n3
           have q2 : ¬ (w2.heap.size = w.heap.size) := by have := cell_lt z0; omega
           have q2' : ¬ (w.heap.size = w2.heap.size) := by have := cell_lt z0; omega)
        | (go_at_call 88
           refine Calls.mono (HCL.out (.slice a4 f.scopes.length c4) _ ?_ ?_) ?_
           · exact rd_below (w := w) HR4.out ((HB2.out.drew).alloc HB2.out.size _)
           · exact HGB.out _ _ ((HB2.out.drew).alloc HB2.out.size _) HG.out
           rintro e w2 ⟨v2, rfl, hB3, hR⟩
           have HB3 := Lib.hid hB3
           have HR := Lib.hid hR
           obtain ⟨F4, hF4, hF5⟩ := RowL.of hR
           have HF4 := Lib.hid hF4
           have HF5 : Hid (∀ b ∈ F4, (w1.alloc (.cells #[.int .i64 0, .string ⟨#[]⟩, .int .i64 0, .slice none 0 0, .slice none 0 0] 32)).heap.size ≤ b) := hF5
           clear hF4 hF5
           obtain ⟨b4, d4, rfl, _⟩ := hR
           clear hB3
           have z0 : w2.cell? ⟨w.heap.size, 0, none⟩ = some (.int .i64 f.kind) := (HB3.out.cell (p := ⟨w.heap.size, 0, none⟩) (by have := cell_lt n0; simp; omega)).trans ((((Below.refl _ _).alloc (Nat.le_refl _) _).cell (p := ⟨w.heap.size, 0, none⟩) (cell_lt n0)).trans n0)
           have z1 : w2.cell? ⟨w.heap.size, 1, none⟩ = some (.string f.name) := (HB3.out.cell (p := ⟨w.heap.size, 1, none⟩) (by have := cell_lt n1; simp; omega)).trans ((((Below.refl _ _).alloc (Nat.le_refl _) _).cell (p := ⟨w.heap.size, 1, none⟩) (cell_lt n1)).trans n1)
           have z2 : w2.cell? ⟨w.heap.size, 2, none⟩ = some (.int .i64 f.n) := (HB3.out.cell (p := ⟨w.heap.size, 2, none⟩) (by have := cell_lt n2; simp; omega)).trans ((((Below.refl _ _).alloc (Nat.le_refl _) _).cell (p := ⟨w.heap.size, 2, none⟩) (cell_lt n2)).trans n2)
           have z3 : w2.cell? ⟨w.heap.size, 3, none⟩ = some (.slice a4 f.scopes.length c4) := (HB3.out.cell (p := ⟨w.heap.size, 3, none⟩) (by have := cell_lt n3; simp; omega)).trans ((((Below.refl _ _).alloc (Nat.le_refl _) _).cell (p := ⟨w.heap.size, 3, none⟩) (cell_lt n3)).trans n3)
           have hY := HY0.out.below HB3.out
           obtain ⟨y0, f0⟩ := hY 0 _ rfl
           obtain ⟨y1, f1⟩ := hY 1 _ rfl
           obtain ⟨y2, f2⟩ := hY 2 _ rfl
           obtain ⟨y3, f3⟩ := hY 3 _ rfl
           obtain ⟨y4, f4⟩ := hY 4 _ rfl
           have HYw := Lib.hid hY
           clear hY))
    all_goals (go_wp2_with fail)
    all_goals go_meet
    case rel =>
      have hs : w1.heap.size ≤ w2.heap.size := HB3.out.size
      exact ⟨w2.heap.size, b4, d4, rfl, hs, RowX.new w2 [.int .i64 f.kind, .string f.name, .int .i64 f.n, .slice b4 f.scopes.length d4, .slice none 0 0] 32, ((Below.refl _ w1).drew.trans HB3.out).alloc hs _, F4, HF4.out.keep (T := fun _ => False) (Gr.alloc _ _) (fun _ _ h => h), fun b hb => ⟨HF5.out b hb, by have := HF4.out.2.2 b hb; omega⟩⟩
    case rel =>
      have hs : w1.heap.size + 1 ≤ w2.heap.size := by have := HB3.out.size; simpa using this
      exact ⟨w1.heap.size, b4, d4, rfl, Nat.le_refl _, (((((HYw.out.set (o := 0) (by simp) (.int .i64 f.kind)).set (o := 1) (by simp) (.string f.name)).set (o := 2) (by simp) (.int .i64 f.n)).set (o := 3) (by simp) (.slice b4 f.scopes.length d4)).set (o := 4) (by simp) (.slice none 0 0)), (((((((((Below.refl _ w1).alloc (Nat.le_refl _) _).drew).trans (HB3.out.mono (by simp))).setCell (p := ⟨w1.heap.size, 0, none⟩) (Nat.le_refl _) (.int .i64 f.kind)).setCell (p := ⟨w1.heap.size, 1, none⟩) (Nat.le_refl _) (.string f.name)).setCell (p := ⟨w1.heap.size, 2, none⟩) (Nat.le_refl _) (.int .i64 f.n)).setCell (p := ⟨w1.heap.size, 3, none⟩) (Nat.le_refl _) (.slice b4 f.scopes.length d4)).setCell (p := ⟨w1.heap.size, 4, none⟩) (Nat.le_refl _) (.slice none 0 0)), F4, HF4.out.keep (T := fun b => b = w1.heap.size) ((((((Gr.refl _ w2).trans (Gr.setCell _ ⟨w1.heap.size, 0, none⟩ (.int .i64 f.kind))).trans (Gr.setCell _ ⟨w1.heap.size, 1, none⟩ (.string f.name))).trans (Gr.setCell _ ⟨w1.heap.size, 2, none⟩ (.int .i64 f.n))).trans (Gr.setCell _ ⟨w1.heap.size, 3, none⟩ (.slice b4 f.scopes.length d4))).trans (Gr.setCell _ ⟨w1.heap.size, 4, none⟩ (.slice none 0 0))) (fun b hb h => by have h1 := HF5.out b hb; simp at h1; omega), fun b hb => by have h1 := HF5.out b hb; simp at h1; exact ⟨by omega, by omega⟩⟩
  case rest =>
    obtain ⟨o, b4, d4, rfl, HO, HRO, HBX, F4, HF4, HF5⟩ := hcut
    generalize wc = w3 at *
    have hs2 := HS2.out
    have hoge := HO.out
    have hol : o < w3.heap.size := cell_lt (HRO.out 0 _ rfl).1
    have HB3 : Hid (Below w.heap.size w w3) := HB2.out.trans (HBX.out.mono HB2.out.size)
    have HX3 : Hid (RowX w3 w.heap.size _) := HX1.out.below HBX.out
    have HZ3 : Hid (RowX w3 (w.heap.size + 1) _) := HX2.out.below HBX.out
    have hw13 : w1.heap.size ≤ w3.heap.size := HBX.out.size
    obtain ⟨m4x, _⟩ := HX3.out 4 _ rfl
    obtain ⟨i32, hi32, hy0, hy1, hy2⟩ := info_parts info32
    clear HS2 HX1 HX2
    go_wp2_with fail
    go_loopw [19] (fun iv wq => ∃ (j : Nat) (v7 : Value) (xs : List Value) (F6 : List Nat), j ≤ f.kids.length ∧ iv = .int .i64 j ∧
        Hid (RowX wq o [.int .i64 f.kind, .string f.name, .int .i64 f.n, .slice b4 f.scopes.length d4, v7]) ∧ Hid (wq.ownsRow w3.heap.size 32 5 v7 j xs) ∧ Hid (LFs wq (f.kids.take j) xs F6) ∧ Hid (F6.Nodup ∧ ∀ b ∈ F6, w3.heap.size ≤ b ∧ b ∉ ownF v7) ∧ Hid (Gr (fun b => b = o) w3 wq)) (fun iv _ => f.kids.length - (intOf iv).toNat)
    case atStart => exact ⟨0, .slice none 0 0, [], [], by omega, rfl, HRO.out, World.ownsRow_nil _ _ _ _, by rw [List.take_zero]; show LFs _ [] [] []; rw [LFs]; exact ⟨rfl, rfl⟩, ⟨List.nodup_nil, by simp⟩, Gr.refl _ _⟩
    case round =>
      obtain ⟨j, v7, xs, F6, hj, rfl, HO6, HV6, HK6, HF6, HG6⟩ := hrel
      by_cases hlt : j < f.kids.length
      · obtain rfl := HA.out (by omega)
        obtain ⟨vsA, rA, ck⟩ := HKA.out j hlt
        have hw := cell_lt (ck 0 _ (by rw [List.getElem?_eq_getElem (by rw [← rA.1]; exact Nat.zero_lt_succ 4)]))
        have HRA := Lib.hid rA
        obtain ⟨x4, x5, rfl, r4, r5⟩ := fiveR rA
        obtain ⟨s4, t4, rfl⟩ := rd_slice r4
        obtain ⟨s5, t5, rfl⟩ := rd_slice r5
        have hck := fun jj x hx => HG6.out.cell (g := A1) (by omega) ((HB3.out.cell (p := ⟨A1, A2 + j * 5 + jj, none⟩) hw).trans (ck jj x hx))
        have HCK := Lib.hid hck
        clear hck ck r4 r5 rA
        have ck0 : wr.cell? ⟨A1, A2 + j * 5, none⟩ = _ := HCK.out 0 _ rfl
        have ck1 : wr.cell? ⟨A1, A2 + j * 5 + 1, none⟩ = _ := HCK.out 1 _ rfl
        have ck2 : wr.cell? ⟨A1, A2 + j * 5 + 2, none⟩ = _ := HCK.out 2 _ rfl
        have ck3 : wr.cell? ⟨A1, A2 + j * 5 + 3, none⟩ = _ := HCK.out 3 _ rfl
        have ck4 : wr.cell? ⟨A1, A2 + j * 5 + 4, none⟩ = _ := HCK.out 4 _ rfl
        obtain ⟨z10, zf10⟩ := HO6.out 4 _ rfl
        have hap : f.kids.take (j + 1) = f.kids.take j ++ [f.kids[j]] := List.take_succ_eq_append_getElem hlt
        have HAP := Lib.hid hap
        have HX := Lib.hid (HKS.out _ (List.getElem_mem hlt))
        clear hap
        go_upto_block 1 with (fail)
        go_cut [5] from 21 to 29 (fun t5 wx => ∃ (v7' : Value) (xs' : List Value) (F6' : List Nat), Hid (RowX wx o [.int .i64 f.kind, .string f.name, .int .i64 f.n, .slice b4 f.scopes.length d4, v7']) ∧ Hid (wx.ownsRow w3.heap.size 32 5 v7' (j + 1) xs') ∧ Hid (LFs wx (f.kids.take (j + 1)) xs' F6') ∧ Hid (F6'.Nodup ∧ ∀ b ∈ F6', w3.heap.size ≤ b ∧ b ∉ ownF v7') ∧ Hid (Gr (fun b => b = o) w3 wx))
        case first =>
          go_wp2_with fail
          have hT := RowX.new wr [.int .i64 f.kids[j].kind, .string f.kids[j].name, .int .i64 f.kids[j].n, .slice s4 (intsD f.kids[j].scopes).length t4, .slice s5 (formsD f.kids[j].kids).length t5] 32
          have GA : Gr (fun _ => False) wr (wr.alloc (.cells #[.int .i64 f.kids[j].kind, .string f.kids[j].name, .int .i64 f.kids[j].n, .slice s4 (intsD f.kids[j].scopes).length t4, .slice s5 (formsD f.kids[j].kids).length t5] 32)) := Gr.alloc wr _
          have hs11 : (wr.alloc (.cells #[.int .i64 f.kids[j].kind, .string f.kids[j].name, .int .i64 f.kids[j].n, .slice s4 (intsD f.kids[j].scopes).length t4, .slice s5 (formsD f.kids[j].kids).length t5] 32)).heap.size = wr.heap.size + 1 := by simp
          have hwr3 : w3.heap.size ≤ wr.heap.size := HG6.out.size
          have hBwr : Below w.heap.size w wr := ⟨HG6.out.os.trans HB3.out.os, HG6.out.tape.trans HB3.out.tape, HG6.out.output.trans HB3.out.output, by have := HB3.out.size; omega, fun b hb => (HG6.out.block b (by have := HB3.out.size; omega) (by omega)).trans (HB3.out.block b hb)⟩
          have HT := Lib.hid hT
          have HGA := Lib.hid GA
          have HBw := Lib.hid (hBwr.trans (((Below.refl _ wr).alloc hBwr.size (.cells #[.int .i64 f.kids[j].kind, .string f.kids[j].name, .int .i64 f.kids[j].n, .slice s4 (intsD f.kids[j].scopes).length t4, .slice s5 (formsD f.kids[j].kids).length t5] 32))))
          have hcl := cntFs_len f.kids
          have hcq := cntF_eq f
          have hnn := HN.out
          clear hBwr hT GA ck0 ck1 ck2 ck3 ck4 z10 zf10 m4x
          generalize wr.alloc (.cells #[.int .i64 f.kids[j].kind, .string f.kids[j].name, .int .i64 f.kids[j].n, .slice s4 (intsD f.kids[j].scopes).length t4, .slice s5 (formsD f.kids[j].kids).length t5] 32) = w11 at *
          obtain ⟨kt0, _⟩ := HT.out 0 _ rfl
          obtain ⟨kt1, _⟩ := HT.out 1 _ rfl
          obtain ⟨kt2, _⟩ := HT.out 2 _ rfl
          obtain ⟨kt3, _⟩ := HT.out 3 _ rfl
          obtain ⟨kt4, _⟩ := HT.out 4 _ rfl
          obtain ⟨z10, zf10⟩ := (HGA.out.row (fun h => h) HO6.out) 4 _ rfl
          go_region_law (first
            | (go_simp
               go_at_call 72
               refine Calls.mono (HX.out [.int .i64 f.kids[j].kind, .string f.kids[j].name, .int .i64 f.kids[j].n, .slice s4 (intsD f.kids[j].scopes).length t4, .slice s5 (formsD f.kids[j].kids).length t5] _ ?_ ?_) ?_
               · first | exact rdlB HRA.out HBw.out | exact rdlB HRA.out HBw.out.drew
               · exact HGB.out _ _ (by first | exact HBw.out | exact HBw.out.drew) HG.out
               rintro e w12 ⟨vs2, Fk, rfl, hR, hFk, hFb, hB12⟩
               obtain ⟨x4, x5, rfl, r4, r5⟩ := fiveR hR.rdL
               obtain ⟨l4, m4, rfl⟩ := rd_slice r4
               obtain ⟨l5, m5, rfl⟩ := rd_slice r5
               clear r4 r5
               have HR12 := Lib.hid hR
               have HFk := Lib.hid hFk
               have HFb : Hid (∀ b ∈ Fk, w11.heap.size ≤ b) := hFb
               have HG12 : Hid (Gr (fun _ => False) w11 w12) := Gr.of_below (a := w11) ⟨hB12.os, hB12.tape, hB12.output, hB12.size, hB12.block⟩
               have hs12 : w11.heap.size ≤ w12.heap.size := HG12.out.size
               have ho12 : RowX w12 o _ := HG12.out.row (g := o) (fun h => h) (fun y x hx => HGA.out.row (fun h => h) HO6.out y x hx)
               obtain ⟨zb10, zbf10⟩ := ho12 4 _ rfl
               have HO12 := Lib.hid ho12
               have HV12 := Lib.hid (HG12.out.own (HGA.out.own HV6.out (fun _ _ h => h)) (fun g hg h => h))
               have zB : (w12.alloc (.cells #[.int .i64 f.kids[j].kind, .string f.kids[j].name, .int .i64 f.kids[j].n, .slice l4 (intsD f.kids[j].scopes).length m4, .slice l5 (formsD f.kids[j].kids).length m5] 32)).cell? ⟨o, 4, none⟩ = some v7 := (((Below.refl _ w12).alloc (Nat.le_refl _) _).cell (p := ⟨o, 4, none⟩) (cell_lt zb10)).trans zb10
               clear hR hFk hFb hB12 ho12)
            | (refine step_append_lies _ (by rfl) _ _ _ (by rfl) w3.heap.size 32 i32 _ 5 80 Go.Proofs.Tryz.underlying30 hi32 hy0 hy1 hy2 rfl (by omega) v7 j xs (by rfl) (by first | exact ((HV12.out.alloc _).drew) | exact (HV12.out.alloc _) | exact (HV12.out.drew.alloc _)) ⟨w12.heap.size, 0, none⟩ 1 1 [.int .i64 f.kids[j].kind, .string f.kids[j].name, .int .i64 f.kids[j].n, .slice l4 (intsD f.kids[j].scopes).length m4, .slice l5 (formsD f.kids[j].kids).length m5] (by rfl) (by rfl) (World.news_of_block (cs := #[.int .i64 f.kids[j].kind, .string f.kids[j].name, .int .i64 f.kids[j].n, .slice l4 (intsD f.kids[j].scopes).length m4, .slice l5 (formsD f.kids[j].kids).length m5]) (t := 32) (fr := (0, 0)) (heap_alloc_new w12 _)) (by simp [Value.oneCell']) (by omega) (by unfold maxLen; omega) (by omega) (by simp; omega) (w12.heap.size + 1) (by simp) ?_
               intro gg cap w13 hown13 hg13 hat13 hlt13
               have hO13 : RowX w13 o _ := (Gr.of_grown hg13).row (g := o) (fun e => by have := own_ge HV12.out e.symm; omega) (fun y x hj => (HO12.out.alloc _) y x hj)
               obtain ⟨zc10, zcf10⟩ := hO13 4 _ rfl
               have HO13 := Lib.hid hO13
               clear hO13)
            )
          all_goals (go_wp2_with fail)
          all_goals go_meet
          all_goals
            have hge : ∀ b, v7.ownBlock = some b → w3.heap.size ≤ b := fun b hb => own_ge HV12.out hb
            have hgl : ∀ b, v7.ownBlock = some b → b < wr.heap.size := fun b hb => own_lt HV6.out hb
            have Gw13 : Gr (fun b => some b = v7.ownBlock) w12 w13 := (Gr.alloc w12 _).trans (Gr.of_grown hg13)
            have Gs : Gr (fun b => b = o) w13 (w13.setCell ⟨o, 4, none⟩ (.slice (some ⟨gg, 0, none⟩) (j + 1) cap)) := Gr.setCell w13 ⟨o, 4, none⟩ _
            have Gend : Gr (fun b => some b = v7.ownBlock ∨ b = o) w12 (w13.setCell ⟨o, 4, none⟩ (.slice (some ⟨gg, 0, none⟩) (j + 1) cap)) := (Gw13.mono fun b _ h => .inl h).trans (Gs.mono fun b _ h => .inr h)
            have Gall : Gr (fun b => some b = v7.ownBlock ∨ b = o) wr (w13.setCell ⟨o, 4, none⟩ (.slice (some ⟨gg, 0, none⟩) (j + 1) cap)) := ((HGA.out.mono fun b _ h => h.elim).trans (HG12.out.mono fun b _ h => h.elim)).trans Gend
            have hgg : w3.heap.size ≤ gg := own_ge hown13 rfl
            refine ⟨.slice (some ⟨gg, 0, none⟩) (j + 1) cap, xs ++ [.int .i64 f.kids[j].kind, .string f.kids[j].name, .int .i64 f.kids[j].n, .slice l4 (intsD f.kids[j].scopes).length m4, .slice l5 (formsD f.kids[j].kids).length m5], F6 ++ Fk, ?_, ?_, ?_, ?_, ?_⟩
            · exact HO13.out.set (o := 4) (by simp) _
            · exact Gs.own hown13 (fun g e => by cases e; show ¬ gg = o; omega)
            · rw [HAP.out]
              refine (HK6.out.keep Gall fun b hb h => ?_).app (LFs.one (HR12.out.keep Gend fun b hb h => ?_))
              · have h1 := HF6.out.2 b hb
                rcases h with h | h
                · exact h1.2 (ownF_mem.2 h.symm)
                · omega
              · have h1 := HFb.out b hb
                rcases h with h | h
                · have := hgl _ h.symm; omega
                · omega
            · have hlk := HR12.out.lt
              have hl6 := HK6.out.lt
              refine ⟨List.nodup_append.2 ⟨HF6.out.1, HFk.out, fun a ha b hb e => by have := hl6 a ha; have := HFb.out b hb; omega⟩, fun b hb => ?_⟩
              have hgo : ∀ x, x ∈ ownF (.slice (some ⟨gg, 0, none⟩) (j + 1) cap) → x = gg := fun x hx => by have := ownF_mem.1 hx; simpa [Value.ownBlock, eq_comm] using this
              rcases List.mem_append.1 hb with hb | hb
              · have h1 := HF6.out.2 b hb
                refine ⟨h1.1, fun hx => ?_⟩
                have e := hgo b hx
                subst e
                rcases hat13 with h' | h'
                · exact h1.2 (ownF_mem.2 h')
                · have := hl6 b hb; omega
              · have h1 := HFb.out b hb
                refine ⟨by omega, fun hx => ?_⟩
                have e := hgo b hx
                subst e
                rcases hat13 with h' | h'
                · have := hgl _ h'; omega
                · have := hlk b hb; omega
            · exact HG6.out.trans' Gall (fun b hb h => by
                rcases h with h | h
                · have := hge _ h.symm; omega
                · exact h)
        case rest =>
          obtain ⟨v7', xs', F6', HO9, HV9, HK9, HF9, HG9⟩ := hcut
          generalize wc = w11 at *
          go_wp2_with fail
          exact ⟨⟨j + 1, v7', xs', F6', by omega, by simp, HO9.out, HV9.out, HK9.out, HF9.out, HG9.out⟩, by simp [intOf]; omega⟩
      · obtain rfl : j = f.kids.length := by omega
        rw [List.take_length] at HK6
        have hZ6 := HG6.out.row (g := w.heap.size + 1) (by omega) HZ3.out
        obtain ⟨a7', q7', rfl⟩ := own_slice HV6.out
        have HZ6 := Lib.hid hZ6
        obtain ⟨g0, _⟩ := HO6.out 0 _ rfl
        obtain ⟨h0, e0⟩ := hZ6 0 _ rfl
        obtain ⟨g1, _⟩ := HO6.out 1 _ rfl
        obtain ⟨h1, e1⟩ := hZ6 1 _ rfl
        obtain ⟨g2, _⟩ := HO6.out 2 _ rfl
        obtain ⟨h2, e2⟩ := hZ6 2 _ rfl
        obtain ⟨g3, _⟩ := HO6.out 3 _ rfl
        obtain ⟨h3, e3⟩ := hZ6 3 _ rfl
        obtain ⟨g4, _⟩ := HO6.out 4 _ rfl
        obtain ⟨h4, e4⟩ := hZ6 4 _ rfl
        clear hZ6
        have hw3 : w.heap.size ≤ w3.heap.size := HB3.out.size
        have hwr3 : w3.heap.size ≤ wr.heap.size := HG6.out.size
        go_wp2_with fail
        refine bodyPost_ret (v := .agg #[.int .i64 f.kind, .string f.name, .int .i64 f.n, .slice b4 f.scopes.length d4, .slice a7' f.kids.length q7']) (by simp [results, Go.Proofs.Tryz.results72, go_sem, h0, h1, h2, h3, h4]) rfl ⟨[.int .i64 f.kind, .string f.name, .int .i64 f.n, .slice b4 f.scopes.length d4, .slice a7' f.kids.length q7'], F4 ++ (ownF (.slice a7' f.kids.length q7') ++ F6), rfl, ?_⟩
        have GE : Gr (fun i => i = w.heap.size + 1) wr _ := ((((((Gr.refl _ wr).trans (Gr.setCell _ ⟨w.heap.size + 1, 0, none⟩ (.int .i64 f.kind))).trans (Gr.setCell _ ⟨w.heap.size + 1, 1, none⟩ (.string f.name))).trans (Gr.setCell _ ⟨w.heap.size + 1, 2, none⟩ (.int .i64 f.n))).trans (Gr.setCell _ ⟨w.heap.size + 1, 3, none⟩ (.slice b4 f.scopes.length d4))).trans (Gr.setCell _ ⟨w.heap.size + 1, 4, none⟩ (.slice a7' f.kids.length q7')))
        have GX := (HG6.out.mono (T := fun b => b = o ∨ b = w.heap.size + 1) (fun b _ h => .inl h)).trans (GE.mono fun b _ h => .inr h)
        have v7g : ∀ g, (Value.slice a7' f.kids.length q7').ownBlock = some g → w3.heap.size ≤ g := fun g hg => own_ge HV6.out hg
        have hl4 := HF4.out.2.2
        have hof : ∀ b, b ∈ ownF (.slice a7' f.kids.length q7') → w3.heap.size ≤ b := fun b hb => v7g b (ownF_mem.1 hb)
        refine ⟨?_, ?_, ?_, ?_⟩
        · have e : f = ⟨f.kind, f.name, f.n, f.scopes, f.kids⟩ := by cases f; rfl
          rw [e, LF]
          refine ⟨_, _, F4, ownF (.slice a7' f.kids.length q7'), F6, xs, rfl, HF4.out.keep GX (fun b hb h => ?_), (RowL.own HV6.out).keep GE (fun b hb h => ?_), HK6.out.keep GE (fun b hb h => ?_), rfl⟩
          · have h1 := HF5.out b hb
            rcases h with h | h
            · exact h1.2 h
            · omega
          · have := hof b hb; omega
          · have := HF6.out.2 b hb; omega
        · refine List.nodup_append.2 ⟨?_, List.nodup_append.2 ⟨?_, HF6.out.1, fun a ha b hb e => (HF6.out.2 b hb).2 (e ▸ ha)⟩, fun a ha b hb e => ?_⟩
          · have := HF4.out.2.1
            match F4, this with
            | [], _ => exact List.nodup_nil
            | [x], _ => simp
          · unfold ownF; split <;> simp
          · have h1 := hl4 a ha
            rcases List.mem_append.1 hb with hb | hb
            · have := hof b hb; omega
            · have := HF6.out.2 b hb; omega
        · intro b hb
          rcases List.mem_append.1 hb with hb | hb
          · have := HF5.out b hb; omega
          rcases List.mem_append.1 hb with hb | hb
          · have := hof b hb; omega
          · have := HF6.out.2 b hb; omega
        · have hB := (Gr.of_below (S := fun b => b = o ∨ b = w.heap.size + 1) HB3.out).trans GX
          exact ⟨hB.os, hB.tape, hB.output, hB.size, fun b hb => hB.block b hb (by omega)⟩
end Go.Raw
