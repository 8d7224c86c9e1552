/- The marks' functions on forms whose rows lie in blocks of their own: what stands there behind them. No condition. -/
import Derived.Test.YtomehndhbihfiaaGreatDoorLinA
import Derived.Test.YtomehndhbihfiaaGreatDoorRawBN
namespace Go.Raw
open Go.Mx Go.RowKit
set_option linter.unusedVariables false
set_option maxHeartbeats 1000000
set_option maxRecDepth 100000
mutual
def mkF (mT : Nat → ByteArray) (k : Nat) : Mx.Form → Mx.Form
  | ⟨_, _, _, sc, kids⟩ => ⟨(k : Int), mT (k + 1), ((k + 1 + 1 : Nat) : Int), marks ((k + 1 + 1 + 1 : Nat) : Int) sc.length, mkFs mT (k + 3 + sc.length) kids⟩
def mkFs (mT : Nat → ByteArray) (k : Nat) : List Mx.Form → List Mx.Form
  | [] => []
  | f :: r => mkF mT k f :: mkFs mT (k + 3 + cntF f) r
end
theorem mkFs_len (mT : Nat → ByteArray) : ∀ (fs : List Mx.Form) (k : Nat), (mkFs mT k fs).length = fs.length
  | [], k => rfl
  | f :: r, k => by rw [mkFs, List.length_cons, List.length_cons, mkFs_len mT r]
theorem mkFs_snoc (mT : Nat → ByteArray) (x : Mx.Form) : ∀ (fs : List Mx.Form) (k : Nat), mkFs mT k (fs ++ [x]) = mkFs mT k fs ++ [mkF mT (k + cntFs fs) x]
  | [], k => by simp [mkFs, cntFs]
  | f :: r, k => by
    rw [List.cons_append, mkFs, mkFs_snoc mT x r, mkFs, cntFs, List.cons_append, show k + 3 + cntF f + cntFs r = k + (3 + cntF f + cntFs r) by omega]
theorem KS.gr {R : Nat → Prop} {w w' : World} (h : KS R w w') : Gr R w w' := ⟨h.os, h.tape, h.output, h.size, h.block⟩
def MarkL (P : World → Prop) (R : Nat → Prop) (k : Int) (w : World) (e : Ending) (w' : World) : Prop := e = .returned (.int .i64 k) ∧ Gr R w w' ∧ P w'
theorem markIntL {v : Value} {l : List Int} {F : List Nat} {k : Nat} {w : World} (hv : RowL w v l.length (ints l) F) (hk2 : k + l.length < 4611686018427387904) :
    Calls Go.Proofs.Tryz.prog 39 #[v, .int .i64 k] w (MarkL (fun w' => RowL w' v (marks (k : Int) l.length).length (ints (marks (k : Int) l.length)) F) (fun b => b ∈ F) ((k + l.length : Nat) : Int) w) := by
  obtain ⟨h1, h2, h3⟩ := hv
  refine (markIntSx (k := (k : Int)) h1 (by simp [ints]) (fun x hx => by simp only [ints, List.mem_map] at hx; obtain ⟨i, _, rfl⟩ := hx; exact ⟨i, rfl⟩) (by omega) (by omega)).mono ?_
  rintro e w' ⟨rfl, hK, hR⟩
  exact ⟨by simp, hK.gr, by rw [show (marks (k : Int) l.length).length = l.length by simp [marks]]; exact hR, h2, fun b hb => Nat.lt_of_lt_of_le (h3 b hb) hK.size⟩
theorem set_row {c1 u : List Value} {a b c x y z : Value} {n : Nat} (h : c1.length = n) : (c1 ++ ([a, b, c, x, y] ++ u)).set n z = c1 ++ ([z, b, c, x, y] ++ u) ∧ (c1 ++ ([a, b, c, x, y] ++ u)).set (n + 1) z = c1 ++ ([a, z, c, x, y] ++ u) ∧ (c1 ++ ([a, b, c, x, y] ++ u)).set (n + 2) z = c1 ++ ([a, b, z, x, y] ++ u) := by
  subst h
  refine ⟨?_, ?_, ?_⟩
  · rw [List.set_append_right _ _ (Nat.le_refl _), Nat.sub_self]; rfl
  · rw [List.set_append_right _ _ (by omega), Nat.add_sub_cancel_left]; rfl
  · rw [List.set_append_right _ _ (by omega), Nat.add_sub_cancel_left]; rfl
theorem row5 {w : World} {R : Nat → Prop} {g o n cap m : Nat} {c1 u : List Value} {a b c x y : Value} (h : RowAt w R (.slice (some ⟨g, o, none⟩) n cap) n (c1 ++ ([a, b, c, x, y] ++ u))) (hl : c1.length = m) :
    (w.cell? ⟨g, o + m, none⟩ = some a ∧ w.frozen? ⟨g, o + m, none⟩ = false) ∧ (w.cell? ⟨g, o + m + 1, none⟩ = some b ∧ w.frozen? ⟨g, o + m + 1, none⟩ = false) ∧ (w.cell? ⟨g, o + m + 2, none⟩ = some c ∧ w.frozen? ⟨g, o + m + 2, none⟩ = false) ∧ w.cell? ⟨g, o + m + 3, none⟩ = some x ∧ w.cell? ⟨g, o + m + 4, none⟩ = some y := by
  obtain ⟨_, _, ha, _, _, h3⟩ := h
  cases ha
  obtain ⟨_, _, ha, _, hc⟩ := h3 (by simp)
  cases ha
  have k : ∀ (j : Nat) z, ([a, b, c, x, y] : List Value)[j]? = some z → w.cell? ⟨g, o + m + j, none⟩ = some z ∧ w.frozen? ⟨g, o + m + j, none⟩ = false := fun j z hz => by
    have := hc (m + j) z (by rw [List.getElem?_append_right (by omega), hl, Nat.add_sub_cancel_left, List.getElem?_append_left (List.getElem?_eq_some_iff.1 hz).1]; exact hz)
    rw [Nat.add_assoc]; exact this
  exact ⟨k 0 _ rfl, k 1 _ rfl, k 2 _ rfl, (k 3 _ rfl).1, (k 4 _ rfl).1⟩
def FormSL (mT : Nat → ByteArray) (N : Nat) : Prop := ∀ (fs : List Mx.Form) (v : Value) (cells : List Value) (F5 F6 : List Nat) (k : Nat) (w : World), cntFs fs < N → RowL w v fs.length cells F5 → LFs w fs cells F6 → (F5 ++ F6).Nodup →
    k + cntFs fs < 4611686018427387904 → Calls Go.Proofs.Tryz.prog 41 #[v, .int .i64 k] w (MarkL (fun w' => ∃ cells', RowL w' v fs.length cells' F5 ∧ LFs w' (mkFs mT k fs) cells' F6) (fun b => b ∈ F5 ++ F6) ((k + cntFs fs : Nat) : Int) w)
theorem markFormL {mT : Nat → ByteArray} (HT : MT mT) (N : Nat) : FormSL mT N := by
  induction N with
  | zero => intro _ _ _ _ _ _ _ h; omega
  | succ N IH =>
    intro fs v cells F5 F6 k w hN hv hS hnd hk
    obtain ⟨a, cap, rfl, h1, h2, _⟩ := hv.1
    have hn : fs.length ≤ 2 ^ 63 - 1 := by unfold maxLen at h2; omega
    have HV := Lib.hid hv
    have HS := Lib.hid hS
    have HND := Lib.hid hnd
    have HN := Lib.hid hN
    clear hv hS hnd hN h1 h2
    go_enter Go.Proofs.Tryz.func41, Go.Proofs.Tryz.ntmps41
    go_wp2
    go_loopw [1, 5] (fun kv iv wr => ∃ (i : Nat) (cl : List Value), i ≤ fs.length ∧ iv = .int .i64 i ∧ kv = .int .i64 ((k + cntFs (fs.take i) : Nat) : Int) ∧ Hid (Gr (fun b => b ∈ F5 ++ F6) w wr) ∧ Hid (RowL wr (.slice a fs.length cap) fs.length cl F5) ∧ Hid (LFs wr (mkFs mT k (fs.take i) ++ fs.drop i) cl F6)) (fun _ iv _ => fs.length - (intOf iv).toNat)
    case atStart => exact ⟨0, cells, by omega, rfl, by simp [cntFs], Gr.refl _ _, HV.out, HS.out⟩
    case round =>
      obtain ⟨i, cl, hi, rfl, rfl, HK, HR, HL⟩ := hrel
      clear HV HS
      by_cases hlt : i < fs.length
      · have hd : fs.drop i = fs[i] :: fs.drop (i + 1) := List.drop_eq_getElem_cons hlt
        have hm := cntFs_take (List.getElem?_eq_getElem hlt)
        have hle := cntFs_le fs (i + 1)
        have hap : fs.take (i + 1) = fs.take i ++ [fs[i]] := List.take_succ_eq_append_getElem hlt
        obtain ⟨c1, c2, Fa, Fb, rfl, rfl, p1, p2⟩ := (show LFs wr (mkFs mT k (fs.take i) ++ fs.drop i) cl F6 from HL.out).parts
        rw [hd, LFs] at p2
        obtain ⟨d1, d2, Ff, Fr, rfl, rfl, p3, p4⟩ := p2
        have hl1 := p1.len
        rw [mkFs_len, List.length_take, Nat.min_eq_left hi] at hl1
        generalize hcm : cntFs (fs.take i) = m at *
        have hcn : cntFs fs[i].kids < N := by have := HN.out; omega
        have HAP := Lib.hid hap
        have HDR : Hid (LFs wr (fs.drop (i + 1)) d2 Fr) := p4
        have HP1 := Lib.hid p1
        have HCM := Lib.hid hcm
        clear hd hap p1 p4 HL hcm
        rcases hfi : fs[i] with ⟨kd, nm, nn, sc, kids⟩
        rw [hfi] at hm hcn p3
        have HFI := Lib.hid hfi
        clear hfi
        rw [LF] at p3
        obtain ⟨x4, x5, F4, F5', F6', cells5, rfl, q4, q5, q6, rfl⟩ := p3
        have hnd := HND.out
        simp only [List.nodup_append, List.mem_append] at hnd
        have hne : ∀ (u : List Value), c1 ++ ([Value.int .i64 kd, .string nm, .int .i64 nn, x4, x5] ++ u) ≠ [] := fun u h => by simp at h
        obtain ⟨⟨a', cap', ha, h1, h2, h3⟩, hl5, hb5⟩ := (show RowL wr (.slice a fs.length cap) fs.length (c1 ++ ([Value.int .i64 kd, .string nm, .int .i64 nn, x4, x5] ++ d2)) F5 from HR.out)
        cases ha
        obtain ⟨g, o, rfl, hg, hc⟩ := h3 (hne d2)
        have hcc : ∀ (j : Nat) x, ([Value.int .i64 kd, .string nm, .int .i64 nn, x4, x5] : List Value)[j]? = some x → wr.cell? ⟨g, o + i * 5 + j, none⟩ = some x ∧ wr.frozen? ⟨g, o + i * 5 + j, none⟩ = false := fun j x hx => by
          have := hc (i * 5 + j) x (by rw [List.getElem?_append_right (by omega), hl1, Nat.add_sub_cancel_left, List.getElem?_append_left (List.getElem?_eq_some_iff.1 hx).1]; exact hx)
          rw [Nat.add_assoc]; exact this
        obtain ⟨e0, f0⟩ := hcc 0 _ rfl
        obtain ⟨e1, f1⟩ := hcc 1 _ rfl
        obtain ⟨e2, f2⟩ := hcc 2 _ rfl
        obtain ⟨e3, _⟩ := hcc 3 _ rfl
        obtain ⟨e4, _⟩ := hcc 4 _ rfl
        simp only [Nat.add_zero] at e0 f0
        clear hcc hc h1 h2 h3
        have hm5 : i * 5 + 5 ≤ (c1 ++ ([Value.int .i64 kd, .string nm, .int .i64 nn, x4, x5] ++ d2)).length := by simp only [List.length_append, List.length_cons, List.length_nil]; omega
        have HR0 := Lib.hid HR.out.1
        have HQ4 := Lib.hid q4
        have HQ5 := Lib.hid q5
        have HQ6 := Lib.hid q6
        have HNd := Lib.hid hnd
        have HB5 := Lib.hid hb5
        have HG : Hid (g ∈ F5) := hg
        have HM : Hid (cntFs (fs.take (i + 1)) = m + 3 + sc.length + cntFs kids) := hm
        have hle2 : m + 3 + sc.length + cntFs kids ≤ cntFs fs := by have := HM.out; omega
        have hcn : cntFs kids < N := hcn
        obtain ⟨q4a, q4c, rfl, _⟩ := q4.1
        obtain ⟨q5a, q5c, rfl, _⟩ := q5.1
        have hne5 : ∀ b, b = g → b ∈ F5 := fun b h => h ▸ hg
        have HNE := Lib.hid hne5
        clear q4 q5 q6 hnd hb5 hg hm hne hle hne5 HR
        go_wp2_with fail
        have G1 : Gr (fun b => b = g) wr (wr.setCell ⟨g, o + i * 5, none⟩ (.int .i64 (k + m))) := Gr.setCell wr ⟨g, o + i * 5, none⟩ _
        have R1 := HR0.out.set (i := i * 5) (by omega) (.int .i64 ((k : Int) + m))
        rw [(set_row hl1).1] at R1
        have GH1 := Lib.hid G1
        have RH1 := Lib.hid R1
        clear e0 e1 e2 e3 e4 f0 f1 f2 G1 R1 HR0
        generalize wr.setCell ⟨g, o + i * 5, none⟩ (.int .i64 (k + m)) = w1 at *
        have C := HT (k + m + 1) w1 (by omega)
        simp only [Int.natCast_add, Int.cast_ofNat_Int] at C
        refine C.mono ?_
        rintro e w2 ⟨rfl, hB2⟩
        clear C
        have GH2 : Hid (Gr (fun b => b = g) wr w2) := GH1.out.trans (Gr.of_below hB2)
        have R2 := RH1.out.gr (Gr.of_below (S := fun _ => False) hB2) (fun _ _ h => h)
        have RH2 := Lib.hid R2
        obtain ⟨_, ⟨e1, f1⟩, ⟨e2, f2⟩, e3, e4⟩ := row5 R2 hl1
        clear hB2 GH1 RH1 R2
        go_wp2_with fail
        have G3 : Gr (fun b => b = g) w2 ((w2.setCell ⟨g, o + i * 5 + 1, none⟩ (.string (mT (k + m + 1)))).setCell ⟨g, o + i * 5 + 2, none⟩ (.int .i64 (k + m + 1 + 1))) := (Gr.setCell w2 ⟨g, o + i * 5 + 1, none⟩ _).trans (Gr.setCell _ ⟨g, o + i * 5 + 2, none⟩ _)
        have R3 := (RH2.out.set (i := i * 5 + 1) (by simp only [List.length_append, List.length_cons, List.length_nil] at hm5 ⊢; omega) (.string (mT (k + m + 1))))
        rw [(set_row hl1).2.1] at R3
        have R4 := (R3.set (i := i * 5 + 2) (by simp only [List.length_append, List.length_cons, List.length_nil] at hm5 ⊢; omega) (.int .i64 ((k : Int) + m + 1 + 1)))
        rw [(set_row hl1).2.2] at R4
        have RH4 : Hid (RowAt ((w2.setCell ⟨g, o + i * 5 + 1, none⟩ (.string (mT (k + m + 1)))).setCell ⟨g, o + i * 5 + 2, none⟩ (.int .i64 (k + m + 1 + 1))) (fun b => b ∈ F5) (.slice (some ⟨g, o, none⟩) fs.length cap) fs.length (c1 ++ ([Value.int .i64 ((k : Int) + m), .string (mT (k + m + 1)), .int .i64 ((k : Int) + m + 1 + 1), .slice q4a sc.length q4c, .slice q5a kids.length q5c] ++ d2))) := R4
        have GH4 : Hid (Gr (fun b => b = g) wr _) := GH2.out.trans G3
        clear e1 e2 e3 e4 f1 f2 GH2 RH2 R3 R4 G3
        generalize (w2.setCell ⟨g, o + i * 5 + 1, none⟩ (.string (mT (k + m + 1)))).setCell ⟨g, o + i * 5 + 2, none⟩ (.int .i64 (k + m + 1 + 1)) = w4 at *
        obtain ⟨n1, ⟨n2, ⟨⟨n3, ⟨n4, n5, n6⟩, n7⟩, n8, n9⟩, n10⟩, n11⟩ := HNd.out
        have C := markIntL (k := k + m + 1 + 1 + 1) (HQ4.out.keep GH4.out (fun b hb h => n11 b (HNE.out b h) b (.inr (.inl (.inl hb))) rfl)) (by omega)
        simp only [Int.natCast_add, Int.cast_ofNat_Int] at C
        refine C.mono ?_
        rintro e w5 ⟨rfl, hG5, hR5⟩
        clear C
        have hmk : (marks ((k : Int) + m + 1 + 1 + 1) sc.length).length = sc.length := by simp [marks]
        have RH5 : Hid (RowAt w5 (fun b => b ∈ F5) _ _ _) := RH4.out.gr hG5 (fun b hb h => n11 b hb b (.inr (.inl (.inl h))) rfl)
        have GH5 : Hid (Gr (fun b => b = g ∨ b ∈ F4) wr w5) := (GH4.out.mono fun b _ h => .inl h).trans (hG5.mono fun b _ h => .inr h)
        have HM5 := Lib.hid hR5
        obtain ⟨_, _, _, _, e4⟩ := row5 RH5.out hl1
        clear hG5 hR5 GH4 RH4 HQ4
        go_wp2_with fail
        clear e4
        have C := IH kids _ cells5 F5' F6' (k + m + 1 + 1 + 1 + sc.length) w5 hcn (HQ5.out.keep GH5.out (fun b hb h => ?_)) (HQ6.out.keep GH5.out (fun b hb h => ?_)) (List.nodup_append.2 ⟨n4, n5, fun a ha b hb => n6 a ha b hb⟩) (by omega)
        rotate_left
        · rcases h with h | h
          · exact n11 b (HNE.out b h) b (.inr (.inl (.inr (.inl hb)))) rfl
          · exact n7 b h b (.inl hb) rfl
        · rcases h with h | h
          · exact n11 b (HNE.out b h) b (.inr (.inl (.inr (.inr hb)))) rfl
          · exact n7 b h b (.inr hb) rfl
        simp only [Int.natCast_add, Int.cast_ofNat_Int] at C
        refine C.mono ?_
        rintro e w6 ⟨rfl, hG6, cells6, hR6, hS6⟩
        clear C HQ5 HQ6
        have GH6 : Hid (Gr (fun b => b = g ∨ b ∈ F4 ∨ b ∈ F5' ++ F6') wr w6) := (GH5.out.mono fun b _ h => h.imp id .inl).trans (hG6.mono fun b _ h => .inr (.inr h))
        have RH6 : Hid (RowAt w6 (fun b => b ∈ F5) _ _ _) := RH5.out.gr hG6 (fun b hb h => n11 b hb b (.inr (.inl (.inr (List.mem_append.1 h)))) rfl)
        have HM6 := Lib.hid (hmk ▸ HM5.out.keep hG6 (fun b hb h => n7 b hb b (List.mem_append.1 h) rfl))
        have HR6 := Lib.hid hR6
        have HS6 := Lib.hid hS6
        clear hG6 hR6 hS6 GH5 RH5 HM5
        go_wp2_with fail
        go_roundw
        case rel =>
          refine ⟨i + 1, c1 ++ ([Value.int .i64 ((k : Int) + m), .string (mT (k + m + 1)), .int .i64 ((k : Int) + m + 1 + 1), .slice q4a sc.length q4c, .slice q5a kids.length q5c] ++ d2), by omega, by simp, ?_, ?_, ?_, ?_⟩
          · rw [HM.out]; congr 1; omega
          · refine (HK.out).trans (GH6.out.mono fun b _ h => ?_)
            simp only [List.mem_append] at h ⊢
            rcases h with h | h | h
            · exact .inl (HNE.out b h)
            · exact .inr (.inr (.inl (.inl h)))
            · exact .inr (.inr (.inl (.inr h)))
          · exact ⟨RH6.out, hl5, fun b hb => Nat.lt_of_lt_of_le (HB5.out b hb) GH6.out.size⟩
          · have he : LF w6 (mkF mT (k + m) ⟨kd, nm, nn, sc, kids⟩) [Value.int .i64 ((k : Int) + m), .string (mT (k + m + 1)), .int .i64 ((k : Int) + m + 1 + 1), .slice q4a sc.length q4c, .slice q5a kids.length q5c] (F4 ++ (F5' ++ F6')) := by
              rw [mkF, LF]
              refine ⟨.slice q4a sc.length q4c, .slice q5a kids.length q5c, F4, F5', F6', cells6, by simp [Int.natCast_add], ?_, by rw [mkFs_len]; exact HR6.out, HS6.out, rfl⟩
              have := HM6.out
              simpa [Int.natCast_add, hmk] using this
            rw [HAP.out, mkFs_snoc, HCM.out, HFI.out, List.append_assoc]
            refine (HP1.out.keep GH6.out fun b hb h => ?_).app ((LFs.one he).app (HDR.out.keep GH6.out fun b hb h => ?_))
            · rcases h with h | h | h
              · exact n11 b (HNE.out b h) b (.inl hb) rfl
              · exact n10 b hb b (.inl (.inl h)) rfl
              · exact n10 b hb b (.inl (.inr (List.mem_append.1 h))) rfl
            · rcases h with h | h | h
              · exact n11 b (HNE.out b h) b (.inr (.inr hb)) rfl
              · exact n9 b (.inl h) b hb rfl
              · exact n9 b (.inr (List.mem_append.1 h)) b hb rfl
        case measure => simp [intOf]; omega
      · obtain rfl : i = fs.length := by omega
        rw [List.take_length] at HL ⊢
        rw [List.drop_length, List.append_nil] at HL
        go_wp2
        go_ret
        exact ⟨rfl, HK.out, cl, HR.out, HL.out⟩
def mkT (mT : Nat → ByteArray) (k : Nat) (f : Mx.Form) : Mx.Form := ⟨f.kind, f.name, f.n, marks (k : Int) f.scopes.length, mkFs mT (k + f.scopes.length) f.kids⟩
theorem markFormT {mT : Nat → ByteArray} (HT : MT mT) {f : Mx.Form} {vs : List Value} {F : List Nat} {k : Nat} {w : World} (hv : LF w f vs F) (hnd : F.Nodup) (hk : k + cntF f < 4611686018427387904) :
    Calls Go.Proofs.Tryz.prog 12 #[.agg vs.toArray, .int .i64 k] w (MarkL (fun w' => LF w' (mkT mT k f) vs F) (fun b => b ∈ F) ((k + cntF f : Nat) : Int) w) := by
  obtain ⟨kd, nm, nn, sc, kids⟩ := f
  rw [LF] at hv
  obtain ⟨x4, x5, F4, F5, F6, cells, rfl, q4, q5, q6, rfl⟩ := hv
  simp only [cntF] at hk ⊢
  simp only [List.nodup_append, List.mem_append] at hnd
  obtain ⟨a4, c4, rfl, _⟩ := q4.1
  obtain ⟨a5, c5, rfl, _⟩ := q5.1
  have HQ4 := Lib.hid q4
  have HQ5 := Lib.hid q5
  have HQ6 := Lib.hid q6
  have HND := Lib.hid hnd
  clear q4 q5 q6 hnd
  go_enter Go.Proofs.Tryz.func12, Go.Proofs.Tryz.ntmps12
  go_wp2_with fail
  have G1 : Gr (fun b => False) w (w.alloc (.cells #[.int .i64 kd, .string nm, .int .i64 nn, .slice a4 sc.length c4, .slice a5 kids.length c5] 32)) := Gr.alloc w _
  have X1 := RowX.new w [.int .i64 kd, .string nm, .int .i64 nn, .slice a4 sc.length c4, .slice a5 kids.length c5] 32
  have GH1 := Lib.hid G1
  have HX1 := Lib.hid X1
  clear G1 X1
  generalize w.alloc (.cells #[.int .i64 kd, .string nm, .int .i64 nn, .slice a4 sc.length c4, .slice a5 kids.length c5] 32) = w1 at *
  refine (markIntL (HQ4.out.keep GH1.out (fun _ _ h => h)) (by omega)).mono ?_
  rintro e w2 ⟨rfl, hG2, hR2⟩
  have hlt4 := HQ4.out.2.2
  obtain ⟨e4, _⟩ := (hG2.row (g := w.heap.size) (fun h => by have := hlt4 _ h; omega) HX1.out) 4 _ rfl
  have GH2 : Hid (Gr (fun b => b ∈ F4) w w2) := (GH1.out.mono fun b _ h => h.elim).trans hG2
  have HR2 := Lib.hid hR2
  clear hG2 hR2 GH1 HX1 hlt4
  go_wp2_with fail
  clear e4
  obtain ⟨n1, ⟨n2, n3, n4⟩, n5⟩ := HND.out
  have C := markFormL HT _ kids _ cells F5 F6 (k + sc.length) w2 (Nat.lt_succ_self _) (HQ5.out.keep GH2.out (fun b hb h => n5 b h b (.inl hb) rfl)) (HQ6.out.keep GH2.out (fun b hb h => n5 b h b (.inr hb) rfl)) (List.nodup_append.2 ⟨n2, n3, n4⟩) (by omega)
  simp only [Int.natCast_add] at C
  refine C.mono ?_
  rintro e w3 ⟨rfl, hG3, cells3, hR3, hS3⟩
  clear C
  have hM := HR2.out.keep hG3 (fun b hb h => n5 b hb b (List.mem_append.1 h) rfl)
  have HM := Lib.hid hM
  have HR3 := Lib.hid hR3
  have HS3 := Lib.hid hS3
  have GH3 : Hid (Gr (fun b => b ∈ F4 ++ (F5 ++ F6)) w w3) := (GH2.out.mono fun b _ h => List.mem_append.2 (.inl h)).trans (hG3.mono fun b _ h => List.mem_append.2 (.inr h))
  clear hG3 hR3 hS3 hM
  go_wp2_with fail
  go_ret
  refine ⟨by simp; omega, GH3.out, ?_⟩
  show LF w3 ⟨kd, nm, nn, marks (k : Int) sc.length, mkFs mT (k + sc.length) kids⟩ _ _
  rw [LF]
  exact ⟨_, _, F4, F5, F6, cells3, rfl, HM.out, by rw [mkFs_len]; exact HR3.out, HS3.out, rfl⟩
end Go.Raw
