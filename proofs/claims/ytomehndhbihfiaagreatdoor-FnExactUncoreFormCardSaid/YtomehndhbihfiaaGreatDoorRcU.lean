/- The calls of FnExactUncoreForm, told of memory. No condition. -/
import Derived.Test.YtomehndhbihfiaaGreatDoorLinU
import Derived.Test.YtomehndhbihfiaaGreatDoorRawDN
import Derived.Test.YtomehndhbihfiaaGreatDoorRawE
import Derived.Test.YtomehndhbihfiaaGreatDoorLwExactUncoreForm
namespace Go.Raw
open Go.Mx Go.RowKit
set_option linter.unusedVariables false
set_option maxHeartbeats 1000000
theorem cK (c : Mx.Core) : (KD.agg (Ev.kCore (Ev.toC c))).D = .agg (cCore c) := by simp only [KD.D, Ev.core_D]
theorem fK (f : Mx.Form) : (KD.agg (Ev.kForm (Ev.toF f))).D = .agg (cForm f) := by simp only [KD.D, Ev.form_D]
theorem fK' (g : Ev.Form) : (KD.agg (Ev.kForm g)).D = .agg (cForm (Ev.ofF g)) := by rw [← fK, Ev.toF_ofF]
theorem raw0e {E : Setting} {g : Nat} {args : List ED} {d : ED} {ds : List D} {dd : D} (h : Mx.SCall E g args [] d []) (he : ED.DL (kap 0 []) args = ds) (hd' : d.D (kap 0 []) = dd) (hk : dd.all (fun _ => false) = true) {w : World} {vs : List Value} (hg : glob E w) (hd : RdL cx0 w ds vs) :
    Calls E.P g vs.toArray w (Out dd w) := by
  have := h.2 [] (fun _ => []) (fun x _ => x = dd) low0 rfl hd'
  rw [he] at this
  refine (this cx0 w vs (rel0 hg) hd).mono fun e w' ⟨d0, st', cx', v, he, hK, _, _, hr, hx⟩ => ?_
  subst hK
  exact ⟨v, he, hx.below, rd_cx0 hr hk⟩
theorem tup2 {w : World} {d : D} {x v : Value} (h : Rd cx0 w (.tup [d, .v x]) v) : ∃ y, v = .tuple #[y, x] ∧ Rd cx0 w d y := by
  cases h with
  | @tup _ vs hl hr =>
    match vs, hl, hr with
    | [y, z], _, hr =>
      have h1 := hr 0 _ y rfl rfl
      have h2 := (hr 1 _ z rfl rfl).v_inv
      subst h2
      exact ⟨y, rfl, h1⟩
section
variable {c : Mx.Core} {w : World} {vs : List Value}
theorem c5 (hok : Ev.okC (Ev.toC c)) (hg : glob Ev.X.E w) (hd : RdL cx0 w (cCore c) vs) : Calls Go.Proofs.Tryz.prog 5 #[.agg vs.toArray, .int .i64 1048576] w (OutV (.int .i64 (Ev.szR (Ev.wC (Ev.toC c)) 1048576)) w) := by
  obtain ⟨N, h⟩ := Ev.szCore_evt (Ev.toC c) hok 1048576 (by omega) (by omega)
  exact raw0v (E := Ev.X.E) (Ev.w_la_szCore N _ _ (h N (Nat.le_refl _))) rfl rfl hg ((RdL.one (by rw [ED.D, cK]; exact agg1 hd)).append (RdL.one (.v _)))
theorem c10 {vs' : List Value} (hg : glob Ev.X.E w) (ha : RdL cx0 w (cCore c) vs) (hb : RdL cx0 w (cCore c) vs') : Calls Go.Proofs.Tryz.prog 10 #[.agg vs.toArray, .agg vs'.toArray] w (OutV (.bool true) w) := by
  obtain ⟨N, h⟩ := Ev.eqCore_evt (Ev.toC c)
  exact raw0v (E := Ev.X.E) (Ev.w_la_eqCore N _ _ (h N (Nat.le_refl _))) rfl rfl hg ((RdL.one (by rw [ED.D, cK]; exact agg1 ha)).append (RdL.one (by rw [ED.D, cK]; exact agg1 hb)))
theorem c9 {f : Mx.Form} {vs' : List Value} (hg : glob Ev.X.E w) (ha : RdL cx0 w (cForm f) vs) (hb : RdL cx0 w (cForm f) vs') : Calls Go.Proofs.Tryz.prog 9 #[.agg vs.toArray, .agg vs'.toArray] w (OutV (.bool true) w) := by
  obtain ⟨N, h⟩ := Ev.eqForm_evt (Ev.toF f)
  exact raw0v (E := Ev.X.E) (Ev.w_la_eqForm N _ _ (h N (Nat.le_refl _))) rfl rfl hg ((RdL.one (by rw [ED.D, fK]; exact agg1 ha)).append (RdL.one (by rw [ED.D, fK]; exact agg1 hb)))
theorem c13 {f : Mx.Form} (hn : 1 + cntF f < 4611686018427387904) (hg : glob Ev.X.E w) (ha : RdL cx0 w (cForm (mkT Ev.eT 1 f)) vs) : Calls Go.Proofs.Tryz.prog 13 #[.agg vs.toArray, .int .i64 1] w (OutV (.int .i64 ((1 + cntF f : Nat) : Int)) w) := by
  obtain ⟨N, h⟩ := Ev.heldF_evt f 1 hn
  exact raw0v (E := Ev.X.E) (Ev.w_la_heldForm N _ _ (h N (Nat.le_refl _))) rfl rfl hg ((RdL.one (by rw [ED.D, fK]; exact agg1 ha)).append (RdL.one (.v _)))
theorem cloneG {l : List Int} (h : l.length ≤ 1000000000000) : CloneC (glob Ev.X.E) l := fun v w hr hg =>
  raw1i (E := Ev.X.E) (Ev.w_slices_Clone_int_o 0 _ (Ev.iclo_eq h)) rfl (ds := [.sl 1 .ro (intsD l)]) (by show [(KD.sl 1 false (Ev.ksInt l)).D] = _; rw [ints_K]) hg (RdL.one hr)
theorem fL' (g : Ev.Form) : KD.DL (Ev.kForm g) = cForm (Ev.ofF g) := by rw [← Ev.form_D, Ev.toF_ofF]
theorem copyN : ∀ (N : Nat) (f : Mx.Form), cntF f < N → Ev.wF (Ev.toF f) ≤ 1000000000 → CopyF (glob Ev.X.E) f
  | 0, f, h, _ => by omega
  | N + 1, f, hN, hw => by
    have hc := cntF_w f
    have hq := cntF_eq f
    obtain ⟨kd, nm, nn, sc, kids⟩ := f
    have e : Ev.wF (Ev.toF ⟨kd, nm, nn, sc, kids⟩) = (Ev.toS nm).length + sc.length + (Ev.toFs kids).length + Ev.wFs (Ev.toFs kids) := by rw [Ev.wF_eq]; rfl
    refine copy_step (fun w w' hb hg => hg.below hb) _ (cloneG (by show sc.length ≤ _; omega)) (by omega) fun x hx => ?_
    have hx' : Ev.toF x ∈ Ev.toFs kids := by
      have : ∀ l : List Mx.Form, x ∈ l → Ev.toF x ∈ Ev.toFs l := by
        intro l
        induction l with
        | nil => intro h; cases h
        | cons y r ih =>
          intro h
          rw [Ev.toFs]
          rcases List.mem_cons.1 h with rfl | h
          · exact List.mem_cons_self
          · exact List.mem_cons_of_mem _ (ih h)
      exact this kids hx
    have hm := cntFs_mem hx
    exact copyN N x (by simp only at hq hm; omega) (by have := Ev.wFs_mem hx'; omega)
theorem copyG (f : Mx.Form) (hw : Ev.wF (Ev.toF f) ≤ 1000000000) : CopyF (glob Ev.X.E) f := copyN _ f (Nat.lt_succ_self _) hw
theorem orG (g : Ev.Form) (hok : Ev.okF g) : ∀ (vs : List Value) (w : World), RdL cx0 w (cForm (Ev.ofF g)) vs → glob Ev.X.E w → Calls Go.Proofs.Tryz.prog 34 #[.agg vs.toArray] w (OutFB (if Ev.validF g = true then Ev.ofF g else zFm) (Ev.validF g) w) := fun vs w hr hg => by
  refine formOr_lin (G := glob Ev.X.E) (fun w w' hb hg => hg.below hb) (Ev.validF g) (fun us w1 h1 hg1 => ?_) (fun hv => copyG _ ?_) vs w hr hg rfl
  · obtain ⟨N, h⟩ := Ev.ifv_evt g hok
    exact raw0v (E := Ev.X.E) (Ev.w_im_FormValid N _ (h N (Nat.le_refl _))) rfl rfl hg1 (RdL.one (by rw [ED.D, fK']; exact agg1 h1))
  · rw [Ev.toF_ofF]; have := Ev.valid_wF hv; omega
theorem spC {r : List UInt8 × Bool} (hw : Ev.wC (Ev.toC c) ≤ 700000000) (hr : Ev.VpQ (Ev.toC c) r) (hg : glob Ev.X.E w) (hd : RdL cx0 w (cCore c) vs) :
    Calls Go.Proofs.Tryz.prog 6 #[.agg vs.toArray] w (Out (.tup [.agg (cForm (Ev.ofF (Ev.unR (Ev.toC c) r).1)), .v (.bool (Ev.unR (Ev.toC c) r).2)]) w) := by
  obtain ⟨N, h⟩ := Ev.sun_ev (Ev.toC c) hw hr
  exact raw0e (E := Ev.X.E) (Ev.w_sp_UncoreForm N _ (h N (Nat.le_refl _))) rfl (by show D.tup [D.agg (KD.DL (Ev.kForm _)), _] = _; rw [fL']; rfl) (by simp [D.all, allL, cForm_all]) hg (RdL.one (by rw [ED.D, cK]; exact agg1 hd))
theorem imC {r : List UInt8 × Bool} (hw : Ev.wC (Ev.toC c) ≤ 700000000) (hr : Ev.VpQ (Ev.toC c) r) (hg : glob Ev.X.E w) (hd : RdL cx0 w (cCore c) vs) :
    Calls Go.Proofs.Tryz.prog 8 #[.agg vs.toArray] w (OutFB (Ev.ofF (Ev.unR (Ev.toC c) r).1) (Ev.unR (Ev.toC c) r).2 w) := by
  have hcl := Ev.cC_le (Ev.toC c)
  have hcv : r.2 = true → Ev.crB 120 [] (Ev.toC c) = true ∧ r.1.length ≤ 1 := fun h2 => by
    obtain ⟨hv, hp⟩ := Ev.vp_valid hr h2
    unfold Ev.validC at hv
    rw [Bool.and_eq_true] at hv
    exact ⟨hv.1, hp⟩
  refine uncoreForm_lin (G := glob Ev.X.E) (fun w w' hb hg => hg.below hb) (r1 := Mx.mkS r.1) (r2 := r.2) (bad := ((Ev.nmC (Ev.toC c)).foldl Ev.adN []).any fun x => decide (x ∈ Ev.lp0)) (vb := Ev.validF (Ev.ucF r.1 (Ev.toC c))) (L := strsD (((Ev.nmC (Ev.toC c)).foldl Ev.adN []).map Mx.mkS)) (fm := Ev.ofF (Ev.ucF r.1 (Ev.toC c))) (fo := if Ev.validF (Ev.ucF r.1 (Ev.toC c)) = true then Ev.ofF (Ev.ucF r.1 (Ev.toC c)) else zFm)
    (fun us w1 h1 hg1 => ?_) (fun us w1 h1 hg1 => ?_) (fun v w1 h1 hg1 => ?_) (fun h2 hb us w1 h1 hg1 => ?_) (fun h2 hb us w1 h1 hg1 => ?_) vs w hd hg ?_ ?_
  · obtain ⟨r', ⟨N, h⟩, hr'⟩ := Ev.ivp_ex (Ev.toC c) hw
    obtain rfl := hr.uniq hr'
    refine (raw0e (E := Ev.X.E) (Ev.w_im_VarPrefix N _ (h N (Nat.le_refl _))) rfl (dd := .tup [.v (.string (Mx.mkS r.1)), .v (.bool r.2)]) rfl (by simp [D.all, allL]) hg1 (RdL.one (by rw [ED.D, cK]; exact agg1 h1))).mono ?_
    rintro e w2 ⟨v, rfl, hB, hv⟩
    obtain ⟨y, rfl, hy⟩ := tup2 hv
    rw [hy.v_inv]
    exact ⟨rfl, hB⟩
  · obtain ⟨N, h⟩ := Ev.ifreeN_evt (Ev.toC c) (by omega)
    exact raw0 (E := Ev.X.E) (Ev.w_im_FreeOf N _ (h N (Nat.le_refl _))) rfl (strs_K _) hg1 (RdL.one (by rw [ED.D, cK]; exact agg1 h1))
  · exact raw0v (E := Ev.X.E) (Ev.w_slices_ContainsFunc_string__im_UncoreForm_1 0 _ (Ev.cfU_eq 0 ((Ev.nmC (Ev.toC c)).foldl Ev.adN []))) rfl rfl hg1 ((RdL.one (by rw [ED.D, strs_K]; exact h1)).append (RdL.one (.clo (f := []) (c := []) (fv := []) (cv := []) rfl rfl (fun j d x h => by simp at h) (fun j d x h => by simp at h))))
  · obtain ⟨hcr, hp⟩ := hcv h2
    obtain ⟨N, h⟩ := Ev.iuc_evt r.1 hp 120 [] (Ev.toC c) (by omega) hcr
    exact raw0 (E := Ev.X.E) (Ev.w_im_uncore N _ _ (h N (Nat.le_refl _))) rfl (fK' _) hg1 ((RdL.one (by rw [ED.D, cK]; exact agg1 h1)).append (RdL.one (.v _)))
  · obtain ⟨hcr, hp⟩ := hcv h2
    exact orG _ (Ev.uc_ok r.1 hp 120 [] (Ev.toC c) (by omega) hcr) us w1 h1 hg1
  · unfold Ev.unR
    cases r.2 <;> cases (((Ev.nmC (Ev.toC c)).foldl Ev.adN []).any fun x => decide (x ∈ Ev.lp0)) <;> cases Ev.validF (Ev.ucF r.1 (Ev.toC c)) <;> rfl
  · unfold Ev.unR
    cases r.2 <;> cases (((Ev.nmC (Ev.toC c)).foldl Ev.adN []).any fun x => decide (x ∈ Ev.lp0)) <;> cases Ev.validF (Ev.ucF r.1 (Ev.toC c)) <;> rfl
end
end Go.Raw
