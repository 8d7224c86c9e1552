/- Frames and temporaries as lists, loops over tuples, for the abstract state. No condition. -/
import Derived.Test.YtbifcdaablhljaaDoorMxP
namespace Go.Mx
set_option linter.unusedVariables false
set_option linter.unusedSimpArgs false
/-! ### frames as lists -/
def mkFr : List (Nat × AObj) → Fr
  | [] => fun _ => none
  | (t, o) :: r => Fr.upd (mkFr r) t (some o)
def setL : List (Nat × AObj) → Nat → AObj → List (Nat × AObj)
  | [], t, o => [(t, o)]
  | (u, p) :: r, t, o => if Nat.beq u t = true then (u, o) :: r else (u, p) :: setL r t o
def delL : List (Nat × AObj) → Nat → List (Nat × AObj)
  | [], _ => []
  | (u, p) :: r, t => if Nat.beq u t = true then delL r t else (u, p) :: delL r t
theorem mkFr_set : ∀ (l : List (Nat × AObj)) (t : Nat) (o : AObj), Fr.upd (mkFr l) t (some o) = mkFr (setL l t o)
  | [], t, o => rfl
  | (u, p) :: r, t, o => by
    simp only [setL]
    by_cases h : Nat.beq u t = true
    · have := Nat.eq_of_beq_eq_true h
      subst this
      rw [if_pos h]
      funext v
      simp only [mkFr, Fr.upd]
      split <;> rfl
    · rw [if_neg h]
      have hne : u ≠ t := fun e => h (by rw [e]; exact Nat.beq_refl t)
      have ih := mkFr_set r t o
      funext v
      simp only [mkFr]
      rw [← ih]
      simp only [Fr.upd]
      by_cases h1 : v = t <;> by_cases h2 : v = u <;> simp_all
theorem mkFr_del : ∀ (l : List (Nat × AObj)) (t : Nat), Fr.upd (mkFr l) t none = mkFr (delL l t)
  | [], t => by funext v; simp only [mkFr, delL, Fr.upd]; split <;> rfl
  | (u, p) :: r, t => by
    simp only [delL]
    have ih := mkFr_del r t
    by_cases h : Nat.beq u t = true
    · have := Nat.eq_of_beq_eq_true h
      subst this
      rw [if_pos h, ← ih]
      funext v
      simp only [mkFr, Fr.upd]
      split <;> rfl
    · rw [if_neg h]
      have hne : u ≠ t := fun e => h (by rw [e]; exact Nat.beq_refl t)
      funext v
      simp only [mkFr]
      rw [← ih]
      simp only [Fr.upd]
      by_cases h1 : v = t <;> by_cases h2 : v = u <;> simp_all
theorem FrAll.mk {p : Key → Bool} : ∀ {l : List (Nat × AObj)}, (∀ t cs, (t, AObj.cells cs) ∈ l → allL p cs = true) → FrAll p (mkFr l)
  | [], _ => FrAll.empty
  | (t, .cells cs) :: r, h => FrAll.upd (FrAll.mk fun t cs hm => h t cs (List.mem_cons_of_mem _ hm)) (h t cs (List.mem_cons_self))
  | (t, .tok n e) :: r, h => FrAll.updT (FrAll.mk fun t cs hm => h t cs (List.mem_cons_of_mem _ hm))
def allF (p : Key → Bool) : List (Nat × AObj) → Bool
  | [] => true
  | (_, .cells cs) :: r => allL p cs && allF p r
  | (_, .tok _ _) :: r => allF p r
theorem FrAll.ok {p : Key → Bool} : ∀ {l : List (Nat × AObj)}, allF p l = true → FrAll p (mkFr l)
  | [], _ => FrAll.empty
  | (t, .cells cs) :: r, h => by
    simp only [allF, Bool.and_eq_true] at h
    exact FrAll.upd (FrAll.ok h.2) h.1
  | (t, .tok n e) :: r, h => FrAll.updT (FrAll.ok h)
def hideL : List (Nat × AObj) → List (Nat × AObj)
  | [] => []
  | (_, .cells _) :: r => hideL r
  | (t, .tok n e) :: r => (t, .tok n e) :: hideL r
theorem Wk.eq {d d' : D} (h : d = d') : Wk d d' := h ▸ Wk.refl _
theorem kint {K : D → St → Prop} {st : St} {k : IntKind} {a b : Int} (h : b = a) (hK : K (.v (.int k b)) st) : K (.v (.int k a)) st := h ▸ hK
theorem kbool {K : D → St → Prop} {st : St} {a b : Bool} (h : b = a) (hK : K (.v (.bool b)) st) : K (.v (.bool a)) st := h ▸ hK
theorem kD {K : D → St → Prop} {st : St} {a b : D} (h : b = a) (hK : K b st) : K a st := h ▸ hK
theorem wrap_id {x : Int} (h : -9223372036854775808 ≤ x) (h' : x ≤ 9223372036854775807) : IntKind.i64.wrap x = x := by rw [IntKind.wrap_i64]; omega
section
variable {E : Setting} {fn : Func} {L N : Nat} {F : D → St → Prop} {k : List KI} {ρ : Env} {f : List (Nat × AObj)} {st : St} {all : Array Oper} {rest : List Oper}
variable {t : Nat} {ty : TypeId} {pos : String} {af : Array Edge} {nn bb : Nat} {ss : Shp} {H : Key → Bool}
theorem acallE {fno : Nat} {c : Code} {ds : List D} {K : D → St → Prop} (hf : E.P.funcs[fno]? = some fn) (hb : fn.body = some c) {N : Nat} (hN : fn.ntmps = N) (hn : Nat.ble ds.length N = true) {l : List (Nat × D)} (hw : WkE (enter ds) l)
    (h : ∀ L, st.length = L → allL (lv L) ds = true → AW E ⟨fn, L, N⟩ [.code c] K (mkEnv l) (mkFr [] :: st)) : ACall E fno ds st K :=
  fun cx w vs hr hd => by
    have hlv : allL (lv st.length) ds = true := by
      have : ∀ (cs : List D), (∀ (j : Nat) d, cs[j]? = some d → d.all (lv st.length) = true) → allL (lv st.length) cs = true := fun cs => by
        induction cs with
        | nil => intro _; rfl
        | cons d r ih => intro h; simp only [allL, Bool.and_eq_true]; exact ⟨h 0 d rfl, ih fun j e hj => h (j + 1) e (by simpa using hj)⟩
      refine this _ fun j d hj => ?_
      obtain ⟨x, hx⟩ := len_get hd.1.symm hj
      exact hr.lev (hd.2 j d x hj hx) (Nat.le_refl _)
    exact acall_body hf hb hN hn (AW.reset l hw (h _ rfl hlv)) cx w vs hr hd
theorem lv_notKey {L t : Nat} {l : List D} (h : allL (lv L) l = true) : allL (notKey L t) l = true :=
  (all_mono (fun k hk => notKey_spec.2 (fun e => by rw [e] at hk; simp [lv] at hk))).2.1 l h
theorem AW.len {fr : Fr} (h : st.length = L → AW E ⟨fn, L, N⟩ k F ρ (fr :: st)) : AW E ⟨fn, L, N⟩ k F ρ (fr :: st) :=
  fun B cx a w hB hl he hr => h (by simpa using hl) B cx a w hB hl he hr
theorem AW.setF {U : Fun} {f' : List (Nat × AObj)} {u : Nat} {o : AObj} (h : setL f u o = f') (hk : AW E U k F ρ (mkFr f' :: st)) : AW E U k F ρ (Fr.upd (mkFr f) u (some o) :: st) := by
  subst h; rw [mkFr_set]; exact hk
theorem AW.box {e : TypeId} {x : Operand} {d : D} {f' : List (Nat × AObj)} (ht : Nat.blt t N = true) (hx : ev E ρ x = d) (hs : d.simple = true) (hf : mkFr f t = none) (hset : setL f t (.cells (cellsD d)) = f')
    (hk : AW E ⟨fn, L, N⟩ (.ops all rest :: k) F (upd ρ t (.bx (L, t) 0)) (mkFr f' :: st)) : AW E ⟨fn, L, N⟩ (.ops all (⟨some t, .box e x, ty, pos, af, none⟩ :: rest) :: k) F ρ (mkFr f :: st) :=
  AW.len fun hL => by subst hL; exact AW.s (S.box ht hx hs hf) (AW.setF hset hk)
theorem AW.alloc {e : TypeId} {zs : List Value} {ds : List D} {f' : List (Nat × AObj)} (ht : Nat.blt t N = true) (hz : tZero E.P e = some zs) (hd : ZeroL ds zs) (hlev : allL (fun _ => false) ds = true) (hf : mkFr f t = none) (hset : setL f t (.cells ds) = f')
    (hk : AW E ⟨fn, L, N⟩ (.ops all rest :: k) F (upd ρ t (.bx (L, t) 0)) (mkFr f' :: st)) : AW E ⟨fn, L, N⟩ (.ops all (⟨some t, .alloc e, ty, pos, af, none⟩ :: rest) :: k) F ρ (mkFr f :: st) :=
  AW.len fun hL => by subst hL; exact AW.s (S.alloc ht hz hd hlev hf) (AW.setF hset hk)
theorem AW.store {e : TypeId} {p x : Operand} {d : D} {u off : Nat} {cs ds cs' : List D} {f' : List (Nat × AObj)} (hT : tShape E.P e = some (nn, bb, ss)) (hp : ev E ρ p = .bx (L, u) off) (hx : ev E ρ x = d) (hs : d.simple = true) (hds : cellsD d = ds)
    (hn : ds.length = nn) (h1 : allB D.one ds = true) (hg : mkFr f u = some (.cells cs)) (hfit : Nat.ble (off + nn) cs.length = true) (hcs : splice cs off ds = cs') (hset : setL f u (.cells cs') = f')
    (hk : AW E ⟨fn, L, N⟩ (.ops all rest :: k) F ρ (mkFr f' :: st)) : AW E ⟨fn, L, N⟩ (.ops all (⟨none, .store e p x, ty, pos, af, none⟩ :: rest) :: k) F ρ (mkFr f :: st) :=
  AW.len fun hL => by subst hL; exact AW.s (S.store hT hp hx hs hds hn h1 hg hfit hcs) (AW.setF hset hk)
/-- A store into a variable further down. -/
theorem AW.storeL {e : TypeId} {p x : Operand} {d : D} {key : Key} {off : Nat} {cs ds cs' : List D} {st' : St} (hT : tShape E.P e = some (nn, bb, ss)) (hp : ev E ρ p = .bx key off) (hx : ev E ρ x = d) (hs : d.simple = true) (hds : cellsD d = ds)
    (hn : ds.length = nn) (h1 : allB D.one ds = true) (hlt : key.1 < st.length) (hg : st.get key = some (.cells cs)) (hlev : allL (lv (key.1 + 1)) ds = true) (hfit : Nat.ble (off + nn) cs.length = true) (hcs : splice cs off ds = cs') (hset : st.set key (some (.cells cs')) = st')
    (hk : AW E ⟨fn, L, N⟩ (.ops all rest :: k) F ρ (mkFr f :: st')) : AW E ⟨fn, L, N⟩ (.ops all (⟨none, .store e p x, ty, pos, af, none⟩ :: rest) :: k) F ρ (mkFr f :: st) :=
  AW.s (S.storeK (st' := mkFr f :: st') hT hp hx hs hds hn h1 ((St.get_tail hlt).trans hg) (by simp; omega) (.inr hlev) hfit (by
    have : ¬ key.1 = st.length := by omega
    simp only [St.set, this, if_false, hcs, hset])) hk
theorem AW.makeSlice {s e : TypeId} {n b be sz : Nat} {se : Shp} {x y : Operand} {kk kk' : IntKind} {len : Nat} {zs : List Value} {zds : List D} {f' : List (Nat × AObj)} (ht : Nat.blt t N = true) (hT : tShape E.P s = some (n, b, .slice e)) (hE : tShape E.P e = some (sz, be, se))
    (hz : tZero E.P e = some zs) (hzl : zs.length = sz) (hzd : ZeroL zds zs) (hlev : allL (fun _ => false) zds = true) (hx : ev E ρ x = .v (.int kk len)) (hy : ev E ρ y = .v (.int kk' len)) (hb : be * len ≤ 281474976710656) (hm : len ≤ 9223372036854775807) (hf : mkFr f t = none)
    (hset : setL f t (.cells (List.replicate len zds).flatten) = f') (hk : AW E ⟨fn, L, N⟩ (.ops all rest :: k) F (upd ρ t (.sb (L, t) len)) (mkFr f' :: st)) : AW E ⟨fn, L, N⟩ (.ops all (⟨some t, .makeSlice s x y, ty, pos, af, none⟩ :: rest) :: k) F ρ (mkFr f :: st) :=
  AW.len fun hL => by subst hL; exact AW.s (S.makeSlice ht hT hE hz hzl hzd hlev hx hy hb hm hf) (AW.setF hset hk)
theorem AW.storeE {e : TypeId} {p x : Operand} {d : D} {u i : Nat} {xs xs' : List (List D)} {ds : List D} {f' : List (Nat × AObj)} (hT : tShape E.P e = some (nn, bb, ss)) (hp : ev E ρ p = .bx (L, u) (i * nn)) (hx : ev E ρ x = d) (hs : d.simple = true) (hds : cellsD d = ds)
    (hn : ds.length = nn) (h1 : allB D.one ds = true) (hg : mkFr f u = some (.cells xs.flatten)) (hxs : ∀ cs ∈ xs, cs.length = nn) (hi : i < xs.length) (hset : xs.set i ds = xs') (hset2 : setL f u (.cells xs'.flatten) = f')
    (hk : AW E ⟨fn, L, N⟩ (.ops all rest :: k) F ρ (mkFr f' :: st)) : AW E ⟨fn, L, N⟩ (.ops all (⟨none, .store e p x, ty, pos, af, none⟩ :: rest) :: k) F ρ (mkFr f :: st) :=
  AW.len fun hL => by subst hL; exact AW.s (S.storeE hT hp hx hs hds hn h1 hg hxs hi hset) (AW.setF hset2 hk)
/-- Loads out of variables of this frame. -/
theorem AW.load {ty' : TypeId} {x : Operand} {u off : Nat} {cs : List D} {d : D} (ht : Nat.blt t N = true) (hT : tShape E.P ty' = some (nn, bb, ss)) (ha : ss.agg = false) (hx : ev E ρ x = .bx (L, u) off) (hs : mkFr f u = some (.cells cs)) (hd : cs[off]? = some d)
    (hk : AW E ⟨fn, L, N⟩ (.ops all rest :: k) F (upd ρ t d) (mkFr f :: st)) : AW E ⟨fn, L, N⟩ (.ops all (⟨some t, .load ty' x, ty, pos, af, none⟩ :: rest) :: k) F ρ (mkFr f :: st) :=
  AW.len fun hL => by subst hL; exact AW.l ht (Go.Mx.L.load hT ha hx rfl (get_top.trans hs) hd) hk
theorem AW.loadS {ty' : TypeId} {x : Operand} {u off : Nat} {cs ds : List D} (ht : Nat.blt t N = true) (hT : tShape E.P ty' = some (nn, bb, ss)) (ha : ss.agg = true) (hx : ev E ρ x = .bx (L, u) off) (hs : mkFr f u = some (.cells cs)) (hd : (cs.drop off).take nn = ds) (hl : ds.length = nn)
    (hk : AW E ⟨fn, L, N⟩ (.ops all rest :: k) F (upd ρ t (.agg ds)) (mkFr f :: st)) : AW E ⟨fn, L, N⟩ (.ops all (⟨some t, .load ty' x, ty, pos, af, none⟩ :: rest) :: k) F ρ (mkFr f :: st) :=
  AW.len fun hL => by subst hL; exact AW.l ht (Go.Mx.L.loadS hT ha hx rfl (get_top.trans hs) hd hl) hk
/-- Loads out of variables further down. -/
theorem AW.loadL {ty' : TypeId} {x : Operand} {key : Key} {off : Nat} {cs : List D} {d : D} (ht : Nat.blt t N = true) (hT : tShape E.P ty' = some (nn, bb, ss)) (ha : ss.agg = false) (hx : ev E ρ x = .bx key off) (hlt : key.1 < st.length) (hs : st.get key = some (.cells cs)) (hd : cs[off]? = some d)
    (hk : AW E ⟨fn, L, N⟩ (.ops all rest :: k) F (upd ρ t d) (mkFr f :: st)) : AW E ⟨fn, L, N⟩ (.ops all (⟨some t, .load ty' x, ty, pos, af, none⟩ :: rest) :: k) F ρ (mkFr f :: st) :=
  AW.l ht (Go.Mx.L.load hT ha hx rfl ((St.get_tail hlt).trans hs) hd) hk
theorem AW.loadLS {ty' : TypeId} {x : Operand} {key : Key} {off : Nat} {cs ds : List D} (ht : Nat.blt t N = true) (hT : tShape E.P ty' = some (nn, bb, ss)) (ha : ss.agg = true) (hx : ev E ρ x = .bx key off) (hlt : key.1 < st.length) (hs : st.get key = some (.cells cs)) (hd : (cs.drop off).take nn = ds) (hl : ds.length = nn)
    (hk : AW E ⟨fn, L, N⟩ (.ops all rest :: k) F (upd ρ t (.agg ds)) (mkFr f :: st)) : AW E ⟨fn, L, N⟩ (.ops all (⟨some t, .load ty' x, ty, pos, af, none⟩ :: rest) :: k) F ρ (mkFr f :: st) :=
  AW.l ht (Go.Mx.L.loadS hT ha hx rfl ((St.get_tail hlt).trans hs) hd hl) hk
def loopJ {ι : Type} (env : ι → List (Nat × D)) (frm : ι → List (Nat × AObj)) (low : ι → St) (Inv : ι → Prop) (μ : ι → Nat) (i : ι) : Env → St → Prop :=
  fun ρ' st' => ∃ j, μ j < μ i ∧ ρ' = mkEnv (env j) ∧ st' = mkFr (frm j) :: low j ∧ Inv j
/-- A loop whose state is a tuple of Lean values. -/
theorem AW.loopE {U : Fun} {c : Code} {ι : Type} (env : ι → List (Nat × D)) (frm : ι → List (Nat × AObj)) (low : ι → St) (Inv : ι → Prop) (μ : ι → Nat) (i0 : ι) (hw : WkE ρ (env i0)) (hf : f = frm i0) (hl : st = low i0) (h0 : Inv i0)
    (step : ∀ i, Inv i → AW E U (.code c :: .goal (loopJ env frm low Inv μ i) :: k) F (mkEnv (env i)) (mkFr (frm i) :: low i)) : AW E U (.code (.loop c) :: k) F ρ (mkFr f :: st) := by
  subst hf; subst hl
  refine AW.reset _ hw ?_
  refine AW.loop (ι := ι) (fun i ρ st' => ρ = mkEnv (env i) ∧ st' = mkFr (frm i) :: low i ∧ Inv i) μ i0 ⟨rfl, rfl, h0⟩ ?_
  rintro i _ _ _ ⟨rfl, rfl, hI⟩
  exact step i hI
theorem AW.next {U : Fun} {ι : Type} {env : ι → List (Nat × D)} {frm : ι → List (Nat × AObj)} {low : ι → St} {Inv : ι → Prop} {μ : ι → Nat} {i : ι} (j : ι) (hw : WkE ρ (env j)) (hf : f = frm j) (hl : st = low j) (hμ : μ j < μ i) (hI : Inv j) :
    AW E U (.goal (loopJ env frm low Inv μ i) :: k) F ρ (mkFr f :: st) :=
  AW.reset _ hw (AW.goal ⟨j, hμ, rfl, by rw [hf, hl], hI⟩)
/-- The length of a slice, and that it is no more than an int holds. -/
theorem AW.lenE {U : Fun} {st : St} {s e : TypeId} {n b m : Nat} {x : Operand} {sz : Nat} {tok : Tok} {xs : List (List D)} (h : tShape E.P s = some (n, b, .slice e)) (hx : ev E ρ x = .sl sz tok xs) (hm : xs.length = m) (ht : Nat.blt t U.N = true)
    (hk : m ≤ 9223372036854775807 → AW E U (.ops all rest :: k) F (upd ρ t (.v (.int .i64 m))) st) : AW E U (.ops all (⟨some t, .call ⟨.builtin .len, #[x], #[s]⟩, ty, pos, af, none⟩ :: rest) :: k) F ρ st := by
  subst hm
  exact AW.slLen hx fun hl => AW.p ht (P.len h hx) (hk hl)
/-- What is known, written out. -/
theorem AW.norm {U : Fun} (l : List (Nat × D)) (f' : List (Nat × AObj)) (st' : St) (hw : WkE ρ l) (hf : f = f') (hs : st = st') (h : AW E U k F (mkEnv l) (mkFr f' :: st')) : AW E U k F ρ (mkFr f :: st) := by
  subst hf; subst hs; exact AW.reset l hw h
/-- Ways that meet again. -/
def meetJ (l' : List (Nat × D)) (f' : List (Nat × AObj)) (st0 : St) (P : Prop) : Env → St → Prop := fun ρ' st' => ρ' = mkEnv l' ∧ st' = mkFr f' :: st0 ∧ P
theorem AW.cutE {U : Fun} {c : Code} (l' : List (Nat × D)) (f' : List (Nat × AObj)) (st0 : St) (P : Prop) (h1 : AW E U (.code c :: .goal (meetJ l' f' st0 P) :: k) F ρ (mkFr f :: st)) (h2 : P → AW E U k F (mkEnv l') (mkFr f' :: st0)) : AW E U (.code c :: k) F ρ (mkFr f :: st) :=
  AW.cut _ h1 (by rintro _ _ _ ⟨rfl, rfl, hP⟩; exact h2 hP)
theorem AW.meet {U : Fun} {l' : List (Nat × D)} {f' : List (Nat × AObj)} {st0 : St} {P : Prop} (hw : WkE ρ l') (hf : f = f') (hs : st = st0) (hP : P) : AW E U (.goal (meetJ l' f' st0 P) :: k) F ρ (mkFr f :: st) :=
  AW.reset _ hw (AW.goal ⟨rfl, by rw [hf, hs], hP⟩)
theorem AW.condP {U : Fun} {st : St} {c : Operand} {x y : Code} {p : Prop} [Decidable p] (hc : ev E ρ c = .v (.bool (decide p))) (h1 : p → AW E U (.code x :: k) F ρ st) (h2 : ¬ p → AW E U (.code y :: k) F ρ st) : AW E U (.code (.cond c x y) :: k) F ρ st :=
  AW.cond hc (fun h => h1 (of_decide_eq_true h)) (fun h => h2 (of_decide_eq_false h))
theorem AW.freezeE {l : List (Nat × D)} (u : Nat) {v : Nat} {sz len : Nat} {xs : List (List D)} {f' : List (Nat × AObj)} (hv : ρ v = .sb (L, u) len) (hfr : mkFr f u = some (.cells xs.flatten)) (hlen : xs.length = len) (hsz : ∀ cs ∈ xs, cs.length = sz)
    (hw : WkE ρ l) (hE : allE (notKey L u) l = true) (hx : allLL (notKey L u) xs = true) (hdel : delL f u = f') (hF : allF (notKey L u) f' = true) (h : AW E ⟨fn, L, N⟩ k F (upd (mkEnv l) v (.sl sz .full xs)) (mkFr f' :: st)) : AW E ⟨fn, L, N⟩ k F ρ (mkFr f :: st) :=
  AW.len fun hL => by
    subst hdel; subst hL
    refine AW.freeze u hv hfr hlen hsz hw hE hx ?_ ?_
    · rw [mkFr_del]; exact FrAll.ok hF
    · rw [mkFr_del]; exact h
theorem AW.dropE {l : List (Nat × D)} (u : Nat) {f' : List (Nat × AObj)} (hw : WkE ρ l) (hE : allE (notKey L u) l = true) (hdel : delL f u = f') (hF : allF (notKey L u) f' = true) (h : AW E ⟨fn, L, N⟩ k F (mkEnv l) (mkFr f' :: st)) : AW E ⟨fn, L, N⟩ k F ρ (mkFr f :: st) :=
  AW.len fun hL => by
    subst hdel; subst hL
    refine AW.reset l hw (AW.drop u hE ?_ ?_)
    · rw [mkFr_del]; exact FrAll.ok hF
    · rw [mkFr_del]; exact h
theorem AW.retE {ds : List D} (hres : resD ρ fn.results.toList = some ds) (hall : (resOf ds).all (lv L) = true) (hF : F (resOf ds) st) : AW E ⟨fn, L, N⟩ (.code .ret :: k) F ρ (mkFr f :: st) :=
  AW.len fun hL => by subst hL; exact AW.ret hres hall hF
theorem AW.nilE {ds : List D} (hres : resD ρ fn.results.toList = some ds) (hall : (resOf ds).all (lv L) = true) (hF : F (resOf ds) st) : AW E ⟨fn, L, N⟩ [] F ρ (mkFr f :: st) :=
  AW.len fun hL => by subst hL; exact AW.nil hres hall hF
theorem AW.retRE {ds : List D} {d' : D} {l : List (ResultVar)} (hl : fn.results.toList = l) (hres : ∀ fr : Fr, st.length = L → fr = mkFr f → ResR E ρ (fr :: st) l ds) (hw : Wk (resOf ds) d') (hall : d'.all (lv L) = true) (hF : F d' st) : AW E ⟨fn, L, N⟩ (.code .ret :: k) F ρ (mkFr f :: st) :=
  AW.len fun hL => by subst hL; exact AW.retR (by show ResR E ρ _ fn.results.toList ds; rw [hl]; exact hres _ rfl rfl) hw hall hF
theorem ResR.cS {b ty key n bb ss cs} {fr : Fr} (hL : st.length = L) (hfr : fr = mkFr f) (hT : tShape E.P ty = some (n, bb, ss)) (ha : ss.agg = true) (hb : ρ b = .bx (L, key) 0) (hg : mkFr f key = some (.cells cs)) (hn : cs.length = n) {r ds} (h : ResR E ρ (fr :: st) r ds) : ResR E ρ (fr :: st) (.cell b ty :: r) (.agg cs :: ds) := by
  subst hL; subst hfr
  exact .cellS hT ha hb (get_top.trans hg) hn h
theorem ResR.c1 {b ty key n bb ss cs d} {fr : Fr} (hL : st.length = L) (hfr : fr = mkFr f) (hT : tShape E.P ty = some (n, bb, ss)) (ha : ss.agg = false) (hb : ρ b = .bx (L, key) 0) (hg : mkFr f key = some (.cells cs)) (hd : cs[0]? = some d) {r ds} (h : ResR E ρ (fr :: st) r ds) : ResR E ρ (fr :: st) (.cell b ty :: r) (d :: ds) := by
  subst hL; subst hfr
  exact .cell1 hT ha hb (get_top.trans hg) hd h
/-! ### the same where the order is drawn -/
variable {ops : Array Oper} {n : Nat} {listed : Array Bool}
theorem AH.len {fr : Fr} (h : st.length = L → AH E ⟨fn, L, N⟩ k F ops n listed ρ fr st) : AH E ⟨fn, L, N⟩ k F ops n listed ρ fr st :=
  fun B cx a w hB hl he hr => h hl B cx a w hB hl he hr
theorem AO.len {fr : Fr} {i : Nat} (h : st.length = L → AO E ⟨fn, L, N⟩ k F ops n listed ρ fr st i) : AO E ⟨fn, L, N⟩ k F ops n listed ρ fr st i :=
  fun B cx a w hB hl he hr => h hl B cx a w hB hl he hr
theorem hid_top {L t : Nat} {fr : Fr} (h : isC (fr t) = true) : hid L fr (L, t) = true := by unfold hid; rw [h]; simp
theorem AH.p (i : Nat) {op : Op} {d : D} {listed' : Array Bool} {fr : Fr} (hi : ops[i]? = some ⟨some t, op, ty, pos, af, none⟩) (hs : Region.noSelect ops = true) (hf : Region.free .any ops listed i = true)
    (hrd : (Region.ready .any ops listed).contains i = true) (hset : listed.setIfInBounds i true = listed') (ht : Nat.blt t N = true) (hP : POk E ⟨fn, L, N⟩ ρ (fr :: st) ⟨some t, op, ty, pos, af, none⟩ d)
    (h : AH E ⟨fn, L, N⟩ k F ops n listed' (upd ρ t d) fr st) : AH E ⟨fn, L, N⟩ k F ops (n + 1) listed ρ fr st :=
  AH.take i hi hs hf hrd hset ht hP.l h
theorem AH.load (i : Nat) {ty' : TypeId} {x : Operand} {u off : Nat} {cs : List D} {d : D} {listed' : Array Bool} (hi : ops[i]? = some ⟨some t, .load ty' x, ty, pos, af, none⟩) (hs : Region.noSelect ops = true) (hf : Region.free .any ops listed i = true)
    (hrd : (Region.ready .any ops listed).contains i = true) (hset : listed.setIfInBounds i true = listed') (ht : Nat.blt t N = true) (hT : tShape E.P ty' = some (nn, bb, ss)) (ha : ss.agg = false) (hx : ev E ρ x = .bx (L, u) off) (hg : mkFr f u = some (.cells cs)) (hd : cs[off]? = some d)
    (h : AH E ⟨fn, L, N⟩ k F ops n listed' (upd ρ t d) (mkFr f) st) : AH E ⟨fn, L, N⟩ k F ops (n + 1) listed ρ (mkFr f) st :=
  AH.len fun hL => by subst hL; exact AH.take i hi hs hf hrd hset ht (Go.Mx.L.load hT ha hx (hid_top (by rw [hg]; rfl)) (get_top.trans hg) hd) h
theorem AH.loadS (i : Nat) {ty' : TypeId} {x : Operand} {u off : Nat} {cs ds : List D} {listed' : Array Bool} (hi : ops[i]? = some ⟨some t, .load ty' x, ty, pos, af, none⟩) (hs : Region.noSelect ops = true) (hf : Region.free .any ops listed i = true)
    (hrd : (Region.ready .any ops listed).contains i = true) (hset : listed.setIfInBounds i true = listed') (ht : Nat.blt t N = true) (hT : tShape E.P ty' = some (nn, bb, ss)) (ha : ss.agg = true) (hx : ev E ρ x = .bx (L, u) off) (hg : mkFr f u = some (.cells cs)) (hd : (cs.drop off).take nn = ds) (hl : ds.length = nn)
    (h : AH E ⟨fn, L, N⟩ k F ops n listed' (upd ρ t (.agg ds)) (mkFr f) st) : AH E ⟨fn, L, N⟩ k F ops (n + 1) listed ρ (mkFr f) st :=
  AH.len fun hL => by subst hL; exact AH.take i hi hs hf hrd hset ht (Go.Mx.L.loadS hT ha hx (hid_top (by rw [hg]; rfl)) (get_top.trans hg) hd hl) h
theorem AH.loadR (i : Nat) {ty' : TypeId} {x : Operand} {cs : List D} {d : D} {fr : Fr} {listed' : Array Bool} (hi : ops[i]? = some ⟨some t, .load ty' x, ty, pos, af, none⟩) (hs : Region.noSelect ops = true) (hf : Region.free .any ops listed i = true)
    (hrd : (Region.ready .any ops listed).contains i = true) (hset : listed.setIfInBounds i true = listed') (ht : Nat.blt t N = true) (hT : tShape E.P ty' = some (nn, bb, ss)) (ha : ss.agg = false) (hx : ev E ρ x = .ro cs) (hd : cs[0]? = some d)
    (h : AH E ⟨fn, L, N⟩ k F ops n listed' (upd ρ t d) fr st) : AH E ⟨fn, L, N⟩ k F ops (n + 1) listed ρ fr st :=
  AH.take i hi hs hf hrd hset ht (Go.Mx.L.loadR hT ha hx hd) h
theorem AH.loadRS (i : Nat) {ty' : TypeId} {x : Operand} {cs ds : List D} {fr : Fr} {listed' : Array Bool} (hi : ops[i]? = some ⟨some t, .load ty' x, ty, pos, af, none⟩) (hs : Region.noSelect ops = true) (hf : Region.free .any ops listed i = true)
    (hrd : (Region.ready .any ops listed).contains i = true) (hset : listed.setIfInBounds i true = listed') (ht : Nat.blt t N = true) (hT : tShape E.P ty' = some (nn, bb, ss)) (ha : ss.agg = true) (hx : ev E ρ x = .ro cs) (hd : cs.take nn = ds) (hl : ds.length = nn)
    (h : AH E ⟨fn, L, N⟩ k F ops n listed' (upd ρ t (.agg ds)) fr st) : AH E ⟨fn, L, N⟩ k F ops (n + 1) listed ρ fr st :=
  AH.take i hi hs hf hrd hset ht (Go.Mx.L.loadRS hT ha hx hd hl) h
theorem mkFr_hide : ∀ f : List (Nat × AObj), hideFr (mkFr f) = hideFr (mkFr f) := fun _ => rfl
theorem AO.callE {i : Nat} {g : Nat} {gn : Func} {args : Array Operand} {ats : Array TypeId} {c : Code} {ds : List D} {fr : Fr} {listed' : Array Bool} (hi : ops[i]? = some ⟨some t, .call ⟨.value (.func g), args, ats⟩, ty, pos, af, none⟩) (hset : listed.setIfInBounds i true = listed')
    (ht : Nat.blt t N = true) (hg : E.P.funcs[g]? = some gn) (hb : gn.body = some c) (hn : (gn.name == "runtime.NumGoroutine") = false)
    (hds : args.toList.map (ev E ρ) = ds) (ha : allL (vis L fr) ds = true)
    (hk : ACall E g ds (hideFr fr :: st) fun d st' => ∃ fr1 st1, st' = fr1 :: st1 ∧ (∀ t cs, fr t = some (.cells cs) → fr1 t = none) ∧ AH E ⟨fn, L, N⟩ k F ops n listed' (upd ρ t d) (joinFr fr fr1) st1) : AO E ⟨fn, L, N⟩ k F ops n listed ρ fr st i :=
  AO.len fun hL => by subst hL; exact AO.call hi hset ht hg hb hn hds ha hk
end
/-! ### lists, walked through by their places -/
theorem drop_cons {α : Type} {xs l : List α} {i : Nat} (h : xs.drop i = l) (hlt : i < xs.length) : ∃ x r, l = x :: r ∧ xs[i]? = some x ∧ xs.drop (i + 1) = r :=
  ⟨xs[i], xs.drop (i + 1), by rw [← h, List.drop_eq_getElem_cons hlt], List.getElem?_eq_getElem hlt, rfl⟩
theorem drop_nil {α : Type} {xs l : List α} {i : Nat} (h : xs.drop i = l) (hge : ¬ i < xs.length) : l = [] := by
  rw [← h, List.drop_eq_nil_iff]; omega
theorem drop_len {α : Type} {xs l : List α} {i : Nat} (h : xs.drop i = l) (hi : i ≤ xs.length) : i + l.length = xs.length := by
  rw [← h, List.length_drop]; omega
theorem bytes_eq {a b : ByteArray} : (a.toList == b.toList) = decide (a = b) := by
  have h : (a.toList = b.toList) ↔ a = b := ⟨fun h => by
    rw [ByteArray.toList_eq, ByteArray.toList_eq] at h
    obtain ⟨⟨a⟩⟩ := a
    obtain ⟨⟨b⟩⟩ := b
    simp only at h
    rw [h], fun h => by rw [h]⟩
  cases hd : decide (a = b) with
  | true => have := of_decide_eq_true hd; subst this; simp
  | false => have := of_decide_eq_false hd; simp [h, this]
section
variable {E : Setting} {U : Fun} {F : D → St → Prop} {k : List KI} {ρ : Env} {st : St} {all : Array Oper} {rest : List Oper}
variable {t : Nat} {ty : TypeId} {pos : String} {af : Array Edge} {nn bb : Nat} {ss : Shp} {H : Key → Bool}
theorem P.eqI {xt yt : TypeId} {x y : Operand} {kk : IntKind} {a b : Int} (hx : ev E ρ x = .v (.int kk a)) (hy : ev E ρ y = .v (.int kk b)) : POk E U ρ st ⟨some t, .binOp .eql xt x y yt, ty, pos, af, none⟩ (.v (.bool (decide (a = b)))) :=
  P.bin hx hy (by simp [dbin]; rfl)
theorem P.neI {xt yt : TypeId} {x y : Operand} {kk : IntKind} {a b : Int} (hx : ev E ρ x = .v (.int kk a)) (hy : ev E ρ y = .v (.int kk b)) : POk E U ρ st ⟨some t, .binOp .neq xt x y yt, ty, pos, af, none⟩ (.v (.bool (decide (¬ a = b)))) :=
  P.bin hx hy (by simp [dbin, bne]; rfl)
theorem P.eqS {xt yt : TypeId} {x y : Operand} {a b : ByteArray} (hx : ev E ρ x = .v (.string a)) (hy : ev E ρ y = .v (.string b)) : POk E U ρ st ⟨some t, .binOp .eql xt x y yt, ty, pos, af, none⟩ (.v (.bool (decide (a = b)))) :=
  P.bin hx hy (by simp only [dbin, bytes_eq])
theorem P.neS {xt yt : TypeId} {x y : Operand} {a b : ByteArray} (hx : ev E ρ x = .v (.string a)) (hy : ev E ρ y = .v (.string b)) : POk E U ρ st ⟨some t, .binOp .neq xt x y yt, ty, pos, af, none⟩ (.v (.bool (decide (¬ a = b)))) :=
  P.bin hx hy (by simp only [dbin, bytes_eq, decide_not])
theorem P.add {xt yt : TypeId} {x y : Operand} {a b : Int} (hx : ev E ρ x = .v (.int .i64 a)) (hy : ev E ρ y = .v (.int .i64 b)) (h : -9223372036854775808 ≤ a + b) (h' : a + b ≤ 9223372036854775807) : POk E U ρ st ⟨some t, .binOp .add xt x y yt, ty, pos, af, none⟩ (.v (.int .i64 (a + b))) :=
  P.bin hx hy (by simp only [dbin, if_true, wrap_id h h'])
theorem P.sub {xt yt : TypeId} {x y : Operand} {a b : Int} (hx : ev E ρ x = .v (.int .i64 a)) (hy : ev E ρ y = .v (.int .i64 b)) (h : -9223372036854775808 ≤ a - b) (h' : a - b ≤ 9223372036854775807) : POk E U ρ st ⟨some t, .binOp .sub xt x y yt, ty, pos, af, none⟩ (.v (.int .i64 (a - b))) :=
  P.bin hx hy (by simp only [dbin, if_true, wrap_id h h'])
theorem P.addN {xt yt : TypeId} {x y : Operand} {a b c : Nat} (hx : ev E ρ x = .v (.int .i64 a)) (hy : ev E ρ y = .v (.int .i64 b)) (hc : a + b = c) (h' : c ≤ 9223372036854775807) : POk E U ρ st ⟨some t, .binOp .add xt x y yt, ty, pos, af, none⟩ (.v (.int .i64 c)) :=
  P.bin hx hy (by simp only [dbin, if_true]; rw [wrap_id (by omega) (by omega), ← hc]; simp)
theorem P.notP {xt : TypeId} {x : Operand} {p : Prop} [Decidable p] (hx : ev E ρ x = .v (.bool (decide p))) : POk E U ρ st ⟨some t, .unOp .not xt x, ty, pos, af, none⟩ (.v (.bool (decide ¬ p))) := by
  have := P.not (U := U) (st := st) (t := t) (xt := xt) (ty := ty) (pos := pos) (af := af) hx
  rwa [← decide_not] at this
theorem P.assignNil {sz : Nat} : POk E U ρ st ⟨some t, .assign (.const (.slice none 0 0)), ty, pos, af, none⟩ (.sl sz .full []) :=
  fun cx a w hr => ⟨.slice none 0 0, fun _ => rfl, (ZeroL.sl (sz := sz) .nil).rd.2 0 _ _ rfl rfl⟩
theorem P.moveNil {sz : Nat} : POk E U ρ st ⟨some t, .move (.const (.slice none 0 0)), ty, pos, af, none⟩ (.sl sz .full []) :=
  fun cx a w hr => ⟨.slice none 0 0, fun _ => rfl, (ZeroL.sl (sz := sz) .nil).rd.2 0 _ _ rfl rfl⟩
theorem P.lenN {s e : TypeId} {n b m : Nat} {x : Operand} {sz : Nat} {tok : Tok} {xs : List (List D)} (h : tShape E.P s = some (n, b, .slice e)) (hx : ev E ρ x = .sl sz tok xs) (hm : xs.length = m) : POk E U ρ st ⟨some t, .call ⟨.builtin .len, #[x], #[s]⟩, ty, pos, af, none⟩ (.v (.int .i64 m)) := by
  subst hm; exact P.len h hx
theorem P.indexA {s e : TypeId} {n b be : Nat} {se : Shp} {x ix : Operand} {sz : Nat} {tok : Tok} {xs : List (List D)} {kk : IntKind} {i : Nat} {cs : List D}
    (h : tShape E.P s = some (n, b, .slice e)) (he : tShape E.P e = some (sz, be, se))
    (hx : ev E ρ x = .sl sz tok xs) (hi : ev E ρ ix = .v (.int kk i)) (hcs : xs[i]? = some cs) : POk E U ρ st ⟨some t, .indexAddr s x ix, ty, pos, af, none⟩ (.ro cs) :=
  P.indexAddr h he hx hi (by omega) (by simpa using hcs)
theorem AW.condN {c : Operand} {x y : Code} {p : Prop} [Decidable p] (hc : ev E ρ c = .v (.bool (!decide p))) (h1 : ¬ p → AW E U (.code x :: k) F ρ st) (h2 : p → AW E U (.code y :: k) F ρ st) : AW E U (.code (.cond c x y) :: k) F ρ st :=
  AW.cond hc (fun h => h1 (by simpa using h)) (fun h => h2 (by simpa using h))
end
theorem pL_some {α : Type} {xs : List α} {i : Nat} (h : i < xs.length) : ∃ x, xs[i]? = some x := ⟨_, List.getElem?_eq_getElem h⟩
end Go.Mx
