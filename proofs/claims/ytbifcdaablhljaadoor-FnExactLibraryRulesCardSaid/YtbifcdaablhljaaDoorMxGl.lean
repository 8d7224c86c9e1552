/- Package-level tables of strings, read as the row lists them; the closing of a law's row that lists variables. No condition. -/
import Derived.Test.YtbifcdaablhljaaDoorMxR
import Derived.Deep.DeepHandedRow
import Derived.Lib.LaidTab
namespace Go.Mx
open Go.ChangeShapes Go.WideShapes Go.ChangeAt Go.RowKit
set_option linter.unusedVariables false
set_option linter.unusedSimpArgs false
def strData {H : Type} (l : List ByteArray) : DataW H := .agg (l.map fun s => .lit (.string s.data.toList))
theorem bytes_ext {a b : ByteArray} (h : a.data.toList = b.data.toList) : a = b := by
  obtain ⟨⟨a⟩⟩ := a
  obtain ⟨⟨b⟩⟩ := b
  simp only at h
  rw [h]
theorem cells_of_strs {H : Type} {enc : TypeId × Value → H} {P : Program} {w : World} {base : Nat} {sp : Nat → Bool} {held : Bool} {fuel : Nat} {t e : TypeId} {n : Nat} {cs : List Value} {l : List ByteArray} {p : List MemPlace}
    (ht : P.underlying t = some (.array n e)) (he : P.underlying e = some .string) (hce : P.cellsOf e = 1) (hct : P.cellsOf t = n)
    (h : DataW.trod enc P w base sp held fuel t cs = some (strData l, p)) : cs = l.map Value.string := by
  cases fuel with
  | zero => simp [DataW.trod] at h
  | succ fuel =>
    simp only [DataW.trod, ht, hce, hct, Nat.mul_one] at h
    split at h
    · rename_i hl
      obtain ⟨xs, hm, hx⟩ := Option.map_eq_some_iff.1 h
      have hxs : xs.map (·.1) = l.map fun s => (DataW.lit (.string s.data.toList) : DataW H) := by
        have := congrArg Prod.fst hx
        simpa [strData] using this
      have hxl : xs.length = n := by simpa using Lib.mapM_length hm
      have hzl : l.length = n := by
        have := congrArg List.length hxs
        simp at this
        omega
      apply List.ext_getElem?
      intro i
      by_cases hi : i < n
      · obtain ⟨b, hb, hf⟩ := Lib.mapM_at hm i i (by simp [hi])
        obtain ⟨s, hc, rfl, _⟩ := DataW.trod_string he hf
        have h1 : cs[i]? = some (.string s) := by
          have := congrArg (·[0]?) hc
          simpa [List.getElem?_take, List.getElem?_drop] using this
        have h2 : (xs.map (·.1))[i]? = some (DataW.lit (.string s.data.toList) : DataW H) := by simp [hb]
        rw [hxs] at h2
        simp only [List.getElem?_map, Option.map_eq_some_iff, DataW.lit.injEq, Lit.string.injEq] at h2
        obtain ⟨s', hs', h3⟩ := h2
        rw [h1, List.getElem?_map, hs', bytes_ext h3]
        rfl
      · rw [List.getElem?_eq_none (by omega), List.getElem?_eq_none (by simp; omega)]
    · cases h
/-- One table, and what the row lists behind it. -/
theorem laid_cons {P : Program} {W : World} {name : String} {l : List ByteArray} {rest : List (String × DataW Unit)} {ps : List MemPlace} {g : Nat} {t e : TypeId} {n : Nat}
    (hg : P.globalNamed name = some g) (hty : (P.globals[g]?).map (·.type) = some t) (ht : P.underlying t = some (.array n e)) (he : P.underlying e = some .string) (hce : P.cellsOf e = 1) (hct : P.cellsOf t = n)
    (h : DataW.LaidVars P W ((name, strData l) :: rest) ps) : Rd cx0 W (.ro (strsD l).flatten) (.pointer (some ⟨g, 0, none⟩)) ∧ ∃ q, DataW.LaidVars P W rest q := by
  obtain ⟨g', t', cs, fuel, p, q, hg', ht', hvar, hd, hr, _⟩ := h
  obtain rfl := Option.some.inj (hg.symm.trans hg')
  obtain rfl := Option.some.inj (hty.symm.trans ht')
  have hcs := cells_of_strs ht he hce hct hd
  refine ⟨.ro g 0 (fun j => .string (l.getD j ⟨#[]⟩)) (fun j d hj => ?_) (fun j d hj => ?_), q, hr⟩
  · obtain ⟨c, e1, e2⟩ := flat_inv (by decide : 0 < 1) (strsD_sz l) hj
    rw [Nat.div_one, strsD_get, Option.map_eq_some_iff] at e1
    obtain ⟨s, hs, rfl⟩ := e1
    rw [Nat.zero_add]
    refine ⟨?_, fun h => h⟩
    have := World.var?_cell hg hvar j
    rw [this, ← Array.getElem?_toList, hcs, List.getElem?_map, hs, List.getD_eq_getElem?_getD, hs]; rfl
  · obtain ⟨c, e1, e2⟩ := flat_inv (by decide : 0 < 1) (strsD_sz l) hj
    rw [Nat.div_one, strsD_get, Option.map_eq_some_iff] at e1
    obtain ⟨s, hs, rfl⟩ := e1
    rw [Nat.mod_one] at e2
    simp only [List.getElem?_cons_zero, Option.some.injEq] at e2
    subst e2
    rw [List.getD_eq_getElem?_getD, hs]
    exact .v _
def rowedVars (P : Program) (ns : List String) : Bool := ns.all fun n => ((P.globalNamed n).bind (P.globals[·]?)).all fun gl => P.readableRec gl.type && decide (gl.type < P.types.size)
section
variable {H : Type} {enc : TypeId × Value → H} {P : Program}
theorem trodVars_spare {W' : World} {sp' : Nat → Bool} (hl : laidOutB P = true) {W : World} (hb : Below W.heap.size W W') :
    ∀ {ns : List String} {gs : List (DataW H)} {ps : List MemPlace}, rowedVars P ns = true → DataW.TrodVars enc P W (fun _ => true) ns gs ps → (∀ p ∈ ps, p.block < W.heap.size) → (∀ p ∈ ps, sp' p.block = true) → DataW.TrodVars enc P W' sp' ns gs ps
  | [], [], _, _, h, _, _ => h
  | [], _ :: _, _, _, h, _, _ => h.elim
  | _ :: _, [], _, _, h, _, _ => h.elim
  | n :: ns, d :: ds, ps, hv, h, hlt, hs => by
    obtain ⟨g, t, cs, fuel, p, q, h1, h2, h3, h4, h5, e⟩ := h
    simp only [rowedVars, List.all_cons, Bool.and_eq_true] at hv
    have ht : P.readableRec t = true ∧ t < P.types.size := by
      have := hv.1
      rw [h1] at this
      cases hg : P.globals[g]? with
      | none => rw [hg] at h2; cases h2
      | some gl =>
        rw [hg] at h2
        obtain rfl : gl.type = t := Option.some.inj h2
        simpa [hg] using this
    have hp : ∀ x ∈ p, x ∈ ps := fun x hx => by rw [e]; simp [hx]
    have hq : ∀ x ∈ q, x ∈ ps := fun x hx => by rw [e]; simp [hx]
    have h3' : W'.var? P n = some cs := by
      unfold World.var? at h3 ⊢
      rw [h1] at h3 ⊢
      simp only [Option.bind_some] at h3 ⊢
      have hg : g < W.heap.size := by
        cases hh : W.heap[g]? with
        | none => rw [hh] at h3; cases h3
        | some o => exact (Array.getElem?_eq_some_iff.1 hh).1
      rw [hb.block g hg]; exact h3
    have h4' : DataW.Trod enc P W 0 (fun _ => true) true t (.agg cs) d p := ⟨fuel, by simpa [Value.cells] using h4⟩
    obtain ⟨fuel', h6⟩ := WideElems.Trod_stays (sp' := sp') hl ht.1 ht.2 h4' (fun x hx => hb.same (hlt x (hp x hx))) (fun x hx => hs x (hp x hx))
    exact ⟨g, t, cs, fuel', p, q, h1, h2, h3', by simpa [Value.cells] using h6, trodVars_spare hl hb hv.2 h5 (fun x hx => hlt x (hq x hx)) (fun x hx => hs x (hq x hx)), e⟩
/-- A law that answers true and leaves what was handed in, and the variables, as they were. -/
theorem post_trueV {f : Func} {s : ChangeSpec} {apart fresh handsOn again : Bool} {W W' : World} {args : Array Value} {ds gs : List (DataW H)} {before : List MemPlace} {tb : TypeId}
    (hW : DataW.Whole enc P f.params.toList s.vars apart W args.toList ds gs before) (hrt : f.resultTypes = #[tb]) (htb : P.underlying tb = some .bool) (hv : rowedVars P s.vars = true) (hfn : s.fn H (ds ++ gs) = { results := [.lit (.bool true)], args := ds, vars := gs })
    (hl : laidOutB P = true) (ht : ∀ t ∈ f.params.toList, P.readableRec t = true ∧ t < P.types.size) (hb : Below W.heap.size W W') : s.post enc P f apart fresh handsOn again W args (.bool true) W' := by
  have hlt : ∀ x ∈ before, x.block < W.heap.size := fun x hx => by simpa using hW.lt x hx
  have hold : ∀ p ∈ before, (fun b => decide (b < W.heap.size)) p.block = true := fun p hp => by simpa using hlt p hp
  have hW0 := hW
  obtain ⟨pa, pv, hA, hV, hps, hz, hn⟩ := hW
  have hpa : ∀ p ∈ pa, p ∈ before := fun p hp => by rw [hps]; simp [hp]
  have hpv : ∀ p ∈ pv, p ∈ before := fun p hp => by rw [hps]; simp [hp]
  have hargs : ∀ sp : Nat → Bool, (∀ p ∈ before, sp p.block = true) → DataW.TrodAll enc P W' 0 sp true f.params.toList args.toList (s.fn H (ds ++ gs)).args pa := fun sp hsp => by
    rw [hfn]
    exact trodAll_stays hl hb ht hA (fun p hp => hlt p (hpa p hp)) (fun p hp => hsp p (hpa p hp))
  have hres : ∀ (b : Nat) (sp : Nat → Bool) (hd : Bool), DataW.TrodAll enc P W' b sp hd f.resultTypes.toList ((Value.bool true).resultList f.resultTypes.size) (s.fn H (ds ++ gs)).results [] := fun b sp hd => by
    rw [hfn, hrt]
    exact trodAll_cons_mk (shut_bool htb _) trodAll_mk0
  have hvars : ∀ sp : Nat → Bool, (∀ p ∈ before, sp p.block = true) → DataW.TrodVars enc P W' sp s.vars (s.fn H (ds ++ gs)).vars pv := fun sp hsp => by
    rw [hfn]
    exact trodVars_spare hl hb hv hV (fun p hp => hlt p (hpv p hp)) (fun p hp => hsp p (hpv p hp))
  refine ⟨ds, gs, before, [], pa, pv, hW0, hres _ _ _, hargs _ hold, hvars _ hold, World.keptBut_mono (fun p hp => ⟨hp, ?_⟩) (hb.frame (· ∈ before)), fun _ => ?_⟩
  · rw [hps] at hp
    simpa using hp
  · refine ⟨ok_one hrt rfl (okWide_bool_mk htb _), _, _, ([] ++ pa) ++ pv, ⟨[] ++ pa, pv, trodAll_append (hargs _ (fun _ _ => rfl)) (hres _ _ _), hvars _ (fun _ _ => rfl), rfl, ?_, ?_⟩, ?_⟩
    · intro b off hp
      have hmem : MemPlace.cell b off ∈ before := by rw [hps]; simpa using hp
      rw [hb.frozen (p := ⟨b, off, none⟩) (hlt _ hmem)]
      exact hz b off hmem
    · intro ha
      have := hn ha
      rw [hps] at this
      simpa using this
    · intro p hp _
      rw [hps]
      simpa using hp
end
end Go.Mx
namespace Go.Mx
theorem trodVars_len {H : Type} {enc : TypeId × Value → H} {P : Program} {w : World} {sp : Nat → Bool} : ∀ {ns : List String} {gs : List (DataW H)} {ps : List MemPlace}, DataW.TrodVars enc P w sp ns gs ps → gs.length = ns.length
  | [], [], _, _ => rfl
  | [], _ :: _, _, h => h.elim
  | _ :: _, [], _, h => h.elim
  | _ :: _, _ :: _, _, h => by
    obtain ⟨_, _, _, _, _, _, _, _, _, _, h5, _⟩ := h
    simp [trodVars_len h5]
end Go.Mx
