/- impl.formOr and impl.UncoreForm hand out a form of rows in blocks of its own. No condition. -/
import Derived.Test.YtomehndhbihfiaaGreatDoorLinF
namespace Go.Raw
open Go.Mx Go.RowKit
set_option linter.unusedVariables false
set_option maxHeartbeats 1000000
set_option maxRecDepth 100000
theorem elevenM' {cx : Cx} {w : World} {f : Mx.Core} {vs : List Value} (h : RdL cx w (cCore f) vs) : ∃ a5 c5 a3 c3 a6 c6 a7 c7, vs = [.int .i64 f.kind, .int .i64 f.id, .string f.name, .int .i64 f.n, .slice a5 (intsD f.ids).length c5, .int .i64 f.data.kind, .string f.data.name, .int .i64 f.data.n, .slice a3 f.data.scopes.length c3, .slice a6 f.data.kids.length c6, .slice a7 (coresD f.kids).length c7] := by
  obtain ⟨hl, h⟩ := h
  match vs, hl with
  | [x1, x2, x3, x4, x5, z1, z2, z3, z4, z5, x7], _ =>
    have h1 := (h 0 _ _ rfl rfl).v_inv
    have h2 := (h 1 _ _ rfl rfl).v_inv
    have h3 := (h 2 _ _ rfl rfl).v_inv
    have h4 := (h 3 _ _ rfl rfl).v_inv
    have h5 := (h 5 _ _ rfl rfl).v_inv
    have h6 := (h 6 _ _ rfl rfl).v_inv
    have h7 := (h 7 _ _ rfl rfl).v_inv
    subst h1 h2 h3 h4 h5 h6 h7
    obtain ⟨a5, c5, rfl⟩ := rd_slice (h 4 _ _ rfl rfl)
    obtain ⟨a3, c3, rfl⟩ := rd_slice (h 8 _ _ rfl rfl)
    obtain ⟨a6, c6, rfl⟩ := rd_slice (h 9 _ _ rfl rfl)
    obtain ⟨a7, c7, rfl⟩ := rd_slice (h 10 _ _ rfl rfl)
    rw [intsD_length f.data.scopes, formsD_length]
    exact ⟨a5, c5, a3, c3, a6, c6, a7, c7, rfl⟩
def zFm : Mx.Form := ⟨0, ⟨#[]⟩, 0, [], []⟩
theorem zero_lf (w : World) : LF w zFm [.int .i64 0, .string ⟨#[]⟩, .int .i64 0, .slice none 0 0, .slice none 0 0] [] := by
  show LF w ⟨0, ⟨#[]⟩, 0, [], []⟩ _ _
  rw [LF]
  have hr : RowL w (.slice none 0 0) 0 [] [] := ⟨⟨none, 0, rfl, Nat.le_refl _, Nat.zero_le _, fun h => absurd rfl h⟩, by simp, by simp⟩
  exact ⟨_, _, [], [], [], [], rfl, hr, hr, by rw [LFs]; exact ⟨rfl, rfl⟩, rfl⟩
def OutFB (f : Mx.Form) (b : Bool) (w : World) (e : Ending) (w' : World) : Prop := ∃ (us : List Value) (F : List Nat), e = .returned (.tuple #[.agg us.toArray, .bool b]) ∧ LF w' f us F ∧ F.Nodup ∧ (∀ x ∈ F, w.heap.size ≤ x) ∧ Below w.heap.size w w'
theorem formOr_lin {G : World → Prop} (GB : ∀ w w' : World, Below w.heap.size w w' → G w → G w') {f : Mx.Form} (b : Bool) (hv : ∀ (vs : List Value) (w : World), RdL cx0 w (cForm f) vs → G w → Calls Go.Proofs.Tryz.prog 71 #[.agg vs.toArray] w (OutV (.bool b) w))
    (hc : b = true → CopyF G f) (vs : List Value) (w : World) (h1 : RdL cx0 w (cForm f) vs) (hG : G w) {fo : Mx.Form} (hfo : fo = if b = true then f else zFm) : Calls Go.Proofs.Tryz.prog 34 #[.agg vs.toArray] w (OutFB fo b w) := by
  have HFO := Lib.hid hfo
  clear hfo
  obtain ⟨x4, x5, rfl, r4, r5⟩ := fiveR h1
  obtain ⟨a4, c4, rfl⟩ := rd_slice r4
  obtain ⟨a5, c5, rfl⟩ := rd_slice r5
  rw [intsD_length, formsD_length] at *
  have H1 := Lib.hid h1
  have HG := Lib.hid hG
  have HGB := Lib.hid GB
  have HV := Lib.hid hv
  have HC := Lib.hid hc
  clear h1 hG GB hv hc r4 r5
  go_enter Go.Proofs.Tryz.func34, Go.Proofs.Tryz.ntmps34
  go_wp2_with fail
  have hX1 := (RowX.new w [.int .i64 f.kind, .string f.name, .int .i64 f.n, .slice a4 f.scopes.length c4, .slice a5 f.kids.length c5] 32).alloc (.cells #[.int .i64 0, .string ⟨#[]⟩, .int .i64 0, .slice none 0 0, .slice none 0 0] 32)
  have hX2 := RowX.new (w.alloc (.cells #[.int .i64 f.kind, .string f.name, .int .i64 f.n, .slice a4 f.scopes.length c4, .slice a5 f.kids.length c5] 32)) [.int .i64 0, .string ⟨#[]⟩, .int .i64 0, .slice none 0 0, .slice none 0 0] 32
  have hB2 : Below w.heap.size w ((w.alloc (.cells #[.int .i64 f.kind, .string f.name, .int .i64 f.n, .slice a4 f.scopes.length c4, .slice a5 f.kids.length c5] 32)).alloc (.cells #[.int .i64 0, .string ⟨#[]⟩, .int .i64 0, .slice none 0 0, .slice none 0 0] 32)) := ((Below.refl _ _).alloc (Nat.le_refl _) _).alloc (by simp) _
  have hs2 : ((w.alloc (.cells #[.int .i64 f.kind, .string f.name, .int .i64 f.n, .slice a4 f.scopes.length c4, .slice a5 f.kids.length c5] 32)).alloc (.cells #[.int .i64 0, .string ⟨#[]⟩, .int .i64 0, .slice none 0 0, .slice none 0 0] 32)).heap.size = w.heap.size + 2 := by simp
  simp only [World.size_alloc] at hX2
  have HX1 := Lib.hid hX1
  have HX2 := Lib.hid hX2
  have HB2 := Lib.hid hB2
  clear hX1 hX2 hB2
  generalize ((w.alloc (.cells #[.int .i64 f.kind, .string f.name, .int .i64 f.n, .slice a4 f.scopes.length c4, .slice a5 f.kids.length c5] 32)).alloc (.cells #[.int .i64 0, .string ⟨#[]⟩, .int .i64 0, .slice none 0 0, .slice none 0 0] 32)) = w1 at *
  refine Calls.mono (HV.out _ _ (rdlB H1.out HB2.out) (HGB.out _ _ HB2.out HG.out)) ?_
  rintro e w3 ⟨rfl, hB3⟩
  have HB13 : Hid (Below w.heap.size w w3) := HB2.out.trans (hB3.mono HB2.out.size)
  have HY1 : Hid (RowX w3 w.heap.size _) := HX1.out.below hB3
  have HY2 : Hid (RowX w3 (w.heap.size + 1) _) := HX2.out.below hB3
  have hs3 : w1.heap.size ≤ w3.heap.size := hB3.size
  clear hB3
  cases b with
  | false =>
    obtain ⟨z0, e0⟩ := HY2.out 0 _ rfl
    obtain ⟨z1, e1⟩ := HY2.out 1 _ rfl
    obtain ⟨z2, e2⟩ := HY2.out 2 _ rfl
    obtain ⟨z3, e3⟩ := HY2.out 3 _ rfl
    obtain ⟨z4, e4⟩ := HY2.out 4 _ rfl
    go_wp2_with fail
    refine bodyPost_ret (v := .tuple #[.agg #[.int .i64 0, .string ⟨#[]⟩, .int .i64 0, .slice none 0 0, .slice none 0 0], .bool false]) (by simp [results, Go.Proofs.Tryz.results34, go_sem, z0, z1, z2, z3, z4]) rfl ⟨[.int .i64 0, .string ⟨#[]⟩, .int .i64 0, .slice none 0 0, .slice none 0 0], [], rfl, by rw [HFO.out, if_neg (by simp)]; exact zero_lf _, List.nodup_nil, by simp, (((((HB13.out.setCell (p := ⟨w.heap.size + 1, 0, none⟩) (Nat.le_succ _) (.int .i64 0)).setCell (p := ⟨w.heap.size + 1, 1, none⟩) (Nat.le_succ _) (.string ⟨#[]⟩)).setCell (p := ⟨w.heap.size + 1, 2, none⟩) (Nat.le_succ _) (.int .i64 0)).setCell (p := ⟨w.heap.size + 1, 3, none⟩) (Nat.le_succ _) (.slice none 0 0)).setCell (p := ⟨w.heap.size + 1, 4, none⟩) (Nat.le_succ _) (.slice none 0 0))⟩
  | true =>
    obtain ⟨p0, _⟩ := HY1.out 0 _ rfl
    obtain ⟨p1, _⟩ := HY1.out 1 _ rfl
    obtain ⟨p2, _⟩ := HY1.out 2 _ rfl
    obtain ⟨p3, _⟩ := HY1.out 3 _ rfl
    obtain ⟨p4, _⟩ := HY1.out 4 _ rfl
    go_wp2_with fail
    clear p0 p1 p2 p3 p4
    refine Calls.mono (HC.out (by simp) _ _ (rdlB H1.out HB13.out) (HGB.out _ _ HB13.out HG.out)) ?_
    rintro e w4 ⟨us, F, rfl, hL, hn, hf, hB4⟩
    obtain ⟨x4, x5, rfl, r4, r5⟩ := fiveR hL.rdL
    obtain ⟨b4, d4, rfl⟩ := rd_slice r4
    obtain ⟨b5, d5, rfl⟩ := rd_slice r5
    have HY4 : Hid (RowX w4 (w.heap.size + 1) _) := HY2.out.below hB4
    have HB14 : Hid (Below w.heap.size w w4) := HB13.out.trans (hB4.mono HB13.out.size)
    have HL := Lib.hid hL
    have HF : Hid (∀ x ∈ F, w3.heap.size ≤ x) := hf
    have HN := Lib.hid hn
    clear hL hf hn hB4 r4 r5
    obtain ⟨z0, e0⟩ := HY4.out 0 _ rfl
    obtain ⟨z1, e1⟩ := HY4.out 1 _ rfl
    obtain ⟨z2, e2⟩ := HY4.out 2 _ rfl
    obtain ⟨z3, e3⟩ := HY4.out 3 _ rfl
    obtain ⟨z4, e4⟩ := HY4.out 4 _ rfl
    go_wp2_with fail
    refine bodyPost_ret (v := .tuple #[.agg #[.int .i64 f.kind, .string f.name, .int .i64 f.n, .slice b4 (intsD f.scopes).length d4, .slice b5 (formsD f.kids).length d5], .bool true]) (by simp [results, Go.Proofs.Tryz.results34, go_sem, z0, z1, z2, z3, z4]) rfl ⟨[.int .i64 f.kind, .string f.name, .int .i64 f.n, .slice b4 (intsD f.scopes).length d4, .slice b5 (formsD f.kids).length d5], F, rfl, ?_, HN.out, fun x hx => by have := HF.out x hx; omega, (((((HB14.out.setCell (p := ⟨w.heap.size + 1, 0, none⟩) (Nat.le_succ _) (.int .i64 f.kind)).setCell (p := ⟨w.heap.size + 1, 1, none⟩) (Nat.le_succ _) (.string f.name)).setCell (p := ⟨w.heap.size + 1, 2, none⟩) (Nat.le_succ _) (.int .i64 f.n)).setCell (p := ⟨w.heap.size + 1, 3, none⟩) (Nat.le_succ _) (.slice b4 (intsD f.scopes).length d4)).setCell (p := ⟨w.heap.size + 1, 4, none⟩) (Nat.le_succ _) (.slice b5 (formsD f.kids).length d5))⟩
    have e := HFO.out
    simp at e
    rw [e]
    exact HL.out.keep (T := fun b => b = w.heap.size + 1) ((((((Gr.refl _ w4).trans (Gr.setCell _ ⟨w.heap.size + 1, 0, none⟩ (.int .i64 f.kind))).trans (Gr.setCell _ ⟨w.heap.size + 1, 1, none⟩ (.string f.name))).trans (Gr.setCell _ ⟨w.heap.size + 1, 2, none⟩ (.int .i64 f.n))).trans (Gr.setCell _ ⟨w.heap.size + 1, 3, none⟩ (.slice b4 (intsD f.scopes).length d4))).trans (Gr.setCell _ ⟨w.heap.size + 1, 4, none⟩ (.slice b5 (formsD f.kids).length d5))) (fun b hb h => by have := HF.out b hb; omega)
theorem uncoreForm_lin {G : World → Prop} (GB : ∀ w w' : World, Below w.heap.size w w' → G w → G w') {c : Mx.Core} {r1 : ByteArray} {r2 bad vb : Bool} {L : List (List D)} {fm fo : Mx.Form}
    (H30 : ∀ (vs : List Value) (w : World), RdL cx0 w (cCore c) vs → G w → Calls Go.Proofs.Tryz.prog 30 #[.agg vs.toArray] w (OutV (.tuple #[.string r1, .bool r2]) w))
    (H16 : ∀ (vs : List Value) (w : World), RdL cx0 w (cCore c) vs → G w → Calls Go.Proofs.Tryz.prog 16 #[.agg vs.toArray] w (Out (.sl 1 .ro L) w))
    (H31 : ∀ (v : Value) (w : World), Rd cx0 w (.sl 1 .ro L) v → G w → Calls Go.Proofs.Tryz.prog 31 #[v, .func (.func 32) #[] #[]] w (OutV (.bool bad) w))
    (H35 : r2 = true → bad = false → ∀ (vs : List Value) (w : World), RdL cx0 w (cCore c) vs → G w → Calls Go.Proofs.Tryz.prog 35 #[.agg vs.toArray, .string r1] w (Out (.agg (cForm fm)) w))
    (H34 : r2 = true → bad = false → ∀ (vs : List Value) (w : World), RdL cx0 w (cForm fm) vs → G w → Calls Go.Proofs.Tryz.prog 34 #[.agg vs.toArray] w (OutFB fo vb w))
    (vs : List Value) (w : World) (h1 : RdL cx0 w (cCore c) vs) (hG : G w) {go : Mx.Form} {gb : Bool} (hgo : go = if r2 = true ∧ bad = false then fo else zFm) (hgb : gb = (r2 && !bad && vb)) : Calls Go.Proofs.Tryz.prog 8 #[.agg vs.toArray] w (OutFB go gb w) := by
  have HFO := Lib.hid hgo
  have HGO := Lib.hid hgb
  clear hgo hgb
  obtain ⟨a5, c5, a3, c3, a6, c6, a7, c7, rfl⟩ := elevenM' h1
  have H1 := Lib.hid h1
  have HG := Lib.hid hG
  have HGB := Lib.hid GB
  have HV := Lib.hid H30
  have HC := Lib.hid H16
  have HD := Lib.hid H31
  have HE := Lib.hid H35
  have HO := Lib.hid H34
  clear h1 hG GB H30 H16 H31 H35 H34
  go_enter Go.Proofs.Tryz.func8, Go.Proofs.Tryz.ntmps8
  go_wp2_with fail
  have hX1 := (RowX.new w [.int .i64 c.kind, .int .i64 c.id, .string c.name, .int .i64 c.n, .slice a5 (intsD c.ids).length c5, .int .i64 c.data.kind, .string c.data.name, .int .i64 c.data.n, .slice a3 c.data.scopes.length c3, .slice a6 c.data.kids.length c6, .slice a7 (coresD c.kids).length c7] 37).alloc (.cells #[.int .i64 0, .string ⟨#[]⟩, .int .i64 0, .slice none 0 0, .slice none 0 0] 32)
  have hX2 := RowX.new (w.alloc (.cells #[.int .i64 c.kind, .int .i64 c.id, .string c.name, .int .i64 c.n, .slice a5 (intsD c.ids).length c5, .int .i64 c.data.kind, .string c.data.name, .int .i64 c.data.n, .slice a3 c.data.scopes.length c3, .slice a6 c.data.kids.length c6, .slice a7 (coresD c.kids).length c7] 37)) [.int .i64 0, .string ⟨#[]⟩, .int .i64 0, .slice none 0 0, .slice none 0 0] 32
  have hB2 : Below w.heap.size w ((w.alloc (.cells #[.int .i64 c.kind, .int .i64 c.id, .string c.name, .int .i64 c.n, .slice a5 (intsD c.ids).length c5, .int .i64 c.data.kind, .string c.data.name, .int .i64 c.data.n, .slice a3 c.data.scopes.length c3, .slice a6 c.data.kids.length c6, .slice a7 (coresD c.kids).length c7] 37)).alloc (.cells #[.int .i64 0, .string ⟨#[]⟩, .int .i64 0, .slice none 0 0, .slice none 0 0] 32)) := ((Below.refl _ _).alloc (Nat.le_refl _) _).alloc (by simp) _
  have hs2 : ((w.alloc (.cells #[.int .i64 c.kind, .int .i64 c.id, .string c.name, .int .i64 c.n, .slice a5 (intsD c.ids).length c5, .int .i64 c.data.kind, .string c.data.name, .int .i64 c.data.n, .slice a3 c.data.scopes.length c3, .slice a6 c.data.kids.length c6, .slice a7 (coresD c.kids).length c7] 37)).alloc (.cells #[.int .i64 0, .string ⟨#[]⟩, .int .i64 0, .slice none 0 0, .slice none 0 0] 32)).heap.size = w.heap.size + 2 := by simp
  simp only [World.size_alloc] at hX2
  have HX1 := Lib.hid hX1
  have HX2 := Lib.hid hX2
  have HB2 := Lib.hid hB2
  clear hX1 hX2 hB2
  generalize ((w.alloc (.cells #[.int .i64 c.kind, .int .i64 c.id, .string c.name, .int .i64 c.n, .slice a5 (intsD c.ids).length c5, .int .i64 c.data.kind, .string c.data.name, .int .i64 c.data.n, .slice a3 c.data.scopes.length c3, .slice a6 c.data.kids.length c6, .slice a7 (coresD c.kids).length c7] 37)).alloc (.cells #[.int .i64 0, .string ⟨#[]⟩, .int .i64 0, .slice none 0 0, .slice none 0 0] 32)) = w1 at *
  refine Calls.mono (HV.out _ _ (rdlB H1.out HB2.out) (HGB.out _ _ HB2.out HG.out)) ?_
  rintro e w3 ⟨rfl, hB3⟩
  have HB13 : Hid (Below w.heap.size w w3) := HB2.out.trans (hB3.mono HB2.out.size)
  have HY1 : Hid (RowX w3 w.heap.size _) := HX1.out.below hB3
  have HY2 : Hid (RowX w3 (w.heap.size + 1) _) := HX2.out.below hB3
  have hs3 : w1.heap.size ≤ w3.heap.size := hB3.size
  clear hB3 HV
  cases r2 with
  | false =>
    obtain ⟨z0, e0⟩ := HY2.out 0 _ rfl
    obtain ⟨z1, e1⟩ := HY2.out 1 _ rfl
    obtain ⟨z2, e2⟩ := HY2.out 2 _ rfl
    obtain ⟨z3, e3⟩ := HY2.out 3 _ rfl
    obtain ⟨z4, e4⟩ := HY2.out 4 _ rfl
    go_wp2_with fail
    refine bodyPost_ret (v := .tuple #[.agg #[.int .i64 0, .string ⟨#[]⟩, .int .i64 0, .slice none 0 0, .slice none 0 0], .bool false]) (by simp [results, Go.Proofs.Tryz.results8, go_sem, z0, z1, z2, z3, z4]) rfl ⟨[.int .i64 0, .string ⟨#[]⟩, .int .i64 0, .slice none 0 0, .slice none 0 0], [], by rw [HGO.out]; rfl, by rw [HFO.out, if_neg (by simp)]; exact zero_lf _, List.nodup_nil, by simp, (((((HB13.out.setCell (p := ⟨w.heap.size + 1, 0, none⟩) (Nat.le_succ _) (.int .i64 0)).setCell (p := ⟨w.heap.size + 1, 1, none⟩) (Nat.le_succ _) (.string ⟨#[]⟩)).setCell (p := ⟨w.heap.size + 1, 2, none⟩) (Nat.le_succ _) (.int .i64 0)).setCell (p := ⟨w.heap.size + 1, 3, none⟩) (Nat.le_succ _) (.slice none 0 0)).setCell (p := ⟨w.heap.size + 1, 4, none⟩) (Nat.le_succ _) (.slice none 0 0))⟩
  | true =>
    obtain ⟨p0, _⟩ := HY1.out 0 _ rfl
    obtain ⟨p1, _⟩ := HY1.out 1 _ rfl
    obtain ⟨p2, _⟩ := HY1.out 2 _ rfl
    obtain ⟨p3, _⟩ := HY1.out 3 _ rfl
    obtain ⟨p4, _⟩ := HY1.out 4 _ rfl
    obtain ⟨p5, _⟩ := HY1.out 5 _ rfl
    obtain ⟨p6, _⟩ := HY1.out 6 _ rfl
    obtain ⟨p7, _⟩ := HY1.out 7 _ rfl
    obtain ⟨p8, _⟩ := HY1.out 8 _ rfl
    obtain ⟨p9, _⟩ := HY1.out 9 _ rfl
    obtain ⟨p10, _⟩ := HY1.out 10 _ rfl
    go_wp2_with fail
    clear p0 p1 p2 p3 p4 p5 p6 p7 p8 p9 p10
    refine Calls.mono (HC.out _ _ (rdlB H1.out HB13.out) (HGB.out _ _ HB13.out HG.out)) ?_
    rintro e w4 ⟨vL, rfl, hB4, hL⟩
    obtain ⟨aL, cL, rfl⟩ := rd_slice hL
    have HB14 : Hid (Below w.heap.size w w4) := HB13.out.trans (hB4.mono HB13.out.size)
    have HZ1 : Hid (RowX w4 w.heap.size _) := HY1.out.below hB4
    have HZ2 : Hid (RowX w4 (w.heap.size + 1) _) := HY2.out.below hB4
    have hs4 : w1.heap.size ≤ w4.heap.size := Nat.le_trans hs3 hB4.size
    have HL := Lib.hid hL
    clear hB4 hL HY1 HY2 HC HB13 hs3
    go_wp2_with fail
    refine Calls.mono (HD.out _ _ HL.out (HGB.out _ _ HB14.out HG.out)) ?_
    rintro e w5 ⟨rfl, hB5⟩
    have HB15 : Hid (Below w.heap.size w w5) := HB14.out.trans (hB5.mono HB14.out.size)
    have HY1 : Hid (RowX w5 w.heap.size _) := HZ1.out.below hB5
    have HY2 : Hid (RowX w5 (w.heap.size + 1) _) := HZ2.out.below hB5
    have hs5 : w1.heap.size ≤ w5.heap.size := Nat.le_trans hs4 hB5.size
    clear hB5 HL HZ1 HZ2 HD HB14 hs4
    cases bad with
    | true =>
      obtain ⟨z0, e0⟩ := HY2.out 0 _ rfl
      obtain ⟨z1, e1⟩ := HY2.out 1 _ rfl
      obtain ⟨z2, e2⟩ := HY2.out 2 _ rfl
      obtain ⟨z3, e3⟩ := HY2.out 3 _ rfl
      obtain ⟨z4, e4⟩ := HY2.out 4 _ rfl
      go_wp2_with fail
      refine bodyPost_ret (v := .tuple #[.agg #[.int .i64 0, .string ⟨#[]⟩, .int .i64 0, .slice none 0 0, .slice none 0 0], .bool false]) (by simp [results, Go.Proofs.Tryz.results8, go_sem, z0, z1, z2, z3, z4]) rfl ⟨[.int .i64 0, .string ⟨#[]⟩, .int .i64 0, .slice none 0 0, .slice none 0 0], [], by rw [HGO.out]; rfl, by rw [HFO.out, if_neg (by simp)]; exact zero_lf _, List.nodup_nil, by simp, (((((HB15.out.setCell (p := ⟨w.heap.size + 1, 0, none⟩) (Nat.le_succ _) (.int .i64 0)).setCell (p := ⟨w.heap.size + 1, 1, none⟩) (Nat.le_succ _) (.string ⟨#[]⟩)).setCell (p := ⟨w.heap.size + 1, 2, none⟩) (Nat.le_succ _) (.int .i64 0)).setCell (p := ⟨w.heap.size + 1, 3, none⟩) (Nat.le_succ _) (.slice none 0 0)).setCell (p := ⟨w.heap.size + 1, 4, none⟩) (Nat.le_succ _) (.slice none 0 0))⟩
    | false =>
      obtain ⟨p0, _⟩ := HY1.out 0 _ rfl
      obtain ⟨p1, _⟩ := HY1.out 1 _ rfl
      obtain ⟨p2, _⟩ := HY1.out 2 _ rfl
      obtain ⟨p3, _⟩ := HY1.out 3 _ rfl
      obtain ⟨p4, _⟩ := HY1.out 4 _ rfl
      obtain ⟨p5, _⟩ := HY1.out 5 _ rfl
      obtain ⟨p6, _⟩ := HY1.out 6 _ rfl
      obtain ⟨p7, _⟩ := HY1.out 7 _ rfl
      obtain ⟨p8, _⟩ := HY1.out 8 _ rfl
      obtain ⟨p9, _⟩ := HY1.out 9 _ rfl
      obtain ⟨p10, _⟩ := HY1.out 10 _ rfl
      go_wp2_with fail
      clear p0 p1 p2 p3 p4 p5 p6 p7 p8 p9 p10
      refine Calls.mono (HE.out (by simp) (by simp) _ _ (rdlB H1.out HB15.out) (HGB.out _ _ HB15.out HG.out)) ?_
      rintro e w6 ⟨vF, rfl, hB6, hF⟩
      obtain ⟨uf, rfl, hF2⟩ : ∃ uf : List Value, vF = .agg uf.toArray ∧ RdL cx0 w6 (cForm fm) uf := by
        cases hF with
        | @agg _ u1 l1 q1 => exact ⟨u1, rfl, l1, q1⟩
      obtain ⟨y4, y5, rfl, q4, q5⟩ := fiveR hF2
      obtain ⟨g4, i4, rfl⟩ := rd_slice q4
      obtain ⟨g5, i5, rfl⟩ := rd_slice q5
      have HB16 : Hid (Below w.heap.size w w6) := HB15.out.trans (hB6.mono HB15.out.size)
      have HZ2 : Hid (RowX w6 (w.heap.size + 1) _) := HY2.out.below hB6
      have hs6 : w1.heap.size ≤ w6.heap.size := Nat.le_trans hs5 hB6.size
      have HF := Lib.hid hF2
      clear hB6 hF hF2 q4 q5 HY1 HY2 HE HB15 hs5
      go_wp2_with fail
      refine Calls.mono (HO.out (by simp) (by simp) _ _ HF.out (HGB.out _ _ HB16.out HG.out)) ?_
      rintro e w7 ⟨us, F, rfl, hL, hn, hf, hB7⟩
      obtain ⟨y4, y5, rfl, r4, r5⟩ := fiveR hL.rdL
      obtain ⟨b4, d4, rfl⟩ := rd_slice r4
      obtain ⟨b5, d5, rfl⟩ := rd_slice r5
      have HB17 : Hid (Below w.heap.size w w7) := HB16.out.trans (hB7.mono HB16.out.size)
      have HY2 : Hid (RowX w7 (w.heap.size + 1) _) := HZ2.out.below hB7
      have HLL := Lib.hid hL
      have HFF : Hid (∀ x ∈ F, w6.heap.size ≤ x) := hf
      have HN := Lib.hid hn
      clear hL hf hn hB7 r4 r5 HF HZ2 HB16 HO
      obtain ⟨z0, e0⟩ := HY2.out 0 _ rfl
      obtain ⟨z1, e1⟩ := HY2.out 1 _ rfl
      obtain ⟨z2, e2⟩ := HY2.out 2 _ rfl
      obtain ⟨z3, e3⟩ := HY2.out 3 _ rfl
      obtain ⟨z4, e4⟩ := HY2.out 4 _ rfl
      go_wp2_with fail
      refine bodyPost_ret (v := .tuple #[.agg #[.int .i64 fo.kind, .string fo.name, .int .i64 fo.n, .slice b4 (intsD fo.scopes).length d4, .slice b5 (formsD fo.kids).length d5], .bool vb]) (by simp [results, Go.Proofs.Tryz.results8, go_sem, z0, z1, z2, z3, z4]) rfl ⟨[.int .i64 fo.kind, .string fo.name, .int .i64 fo.n, .slice b4 (intsD fo.scopes).length d4, .slice b5 (formsD fo.kids).length d5], F, by rw [HGO.out]; rfl, ?_, HN.out, fun x hx => by have := HFF.out x hx; omega, (((((HB17.out.setCell (p := ⟨w.heap.size + 1, 0, none⟩) (Nat.le_succ _) (.int .i64 fo.kind)).setCell (p := ⟨w.heap.size + 1, 1, none⟩) (Nat.le_succ _) (.string fo.name)).setCell (p := ⟨w.heap.size + 1, 2, none⟩) (Nat.le_succ _) (.int .i64 fo.n)).setCell (p := ⟨w.heap.size + 1, 3, none⟩) (Nat.le_succ _) (.slice b4 (intsD fo.scopes).length d4)).setCell (p := ⟨w.heap.size + 1, 4, none⟩) (Nat.le_succ _) (.slice b5 (formsD fo.kids).length d5))⟩
      have e := HFO.out
      simp at e
      rw [e]
      exact HLL.out.keep (T := fun b => b = w.heap.size + 1) ((((((Gr.refl _ w7).trans (Gr.setCell _ ⟨w.heap.size + 1, 0, none⟩ (.int .i64 fo.kind))).trans (Gr.setCell _ ⟨w.heap.size + 1, 1, none⟩ (.string fo.name))).trans (Gr.setCell _ ⟨w.heap.size + 1, 2, none⟩ (.int .i64 fo.n))).trans (Gr.setCell _ ⟨w.heap.size + 1, 3, none⟩ (.slice b4 (intsD fo.scopes).length d4))).trans (Gr.setCell _ ⟨w.heap.size + 1, 4, none⟩ (.slice b5 (formsD fo.kids).length d5))) (fun b hb h => by have := HFF.out b hb; omega)
end Go.Raw
