/- An evaluator over the abstract state, second part. No condition. -/
import Derived.Test.YtomehndhbihfiaaGreatDoorEvOne
import Derived.WalkKit
import Derived.ProofKit
import Derived.OpenShut
import Derived.JoinedCond
import Derived.WideKeyArgs
import Derived.ChangeArms
import Derived.Deep.DeepHandedRow
import Derived.Lib.LaidTab
set_option linter.unusedVariables false
set_option linter.unusedSimpArgs false
namespace Go.Mx
set_option linter.unusedVariables false
set_option linter.unusedSimpArgs false
def opsOf:Op→List Operand
 | .move x=>[x]
 | .assign x=>[x]
 | .nilCheck x=>[x]
 | .pick c x y=>[c,x,y]
 | .box _ x=>[x]
 | .build _ ps=>ps.toList.map Prod.snd
 | .buildSlice _ _ ps=>ps.toList.map Prod.snd
 | .load _ x=>[x]
 | .store _ a v=>[a,v]
 | .binOp _ _ x y _=>[x,y]
 | .unOp _ _ x=>[x]
 | .convert _ _ x=>[x]
 | .index _ x i=>[x,i]
 | .fieldAddr _ x _=>[x]
 | .indexAddr _ x i=>[x,i]
 | .extract x _=>[x]
 | .makeFunc _ a b=>a.toList++b.toList
 | .makeSlice _ n m=>[n,m]
 | .slice _ x lo hi mx=>x::(lo.toList++(hi.toList++mx.toList))
 | .lookup _ x i _=>[x,i]
 | .call ⟨.builtin _,args,_⟩=>args.toList
 | .call ⟨.value fo,args,_⟩=>fo::args.toList
 | _=>[]
section
variable {f f' : List (Nat × EObj)} {os os' : List (Option EObj)}
def AgP (f f':List (Nat×EObj)) (os os':List (Option EObj)) (ps:List Pl):Prop:=∀p∈ps,getP f os p=getP f' os' p
theorem loc_alloc {Z:TypeId→Option (List KD)} {t:Nat} {e:TypeId} {hs:List Hint} {δ:Dl} (h:evAlloc Z f t e hs=some δ) (ha:AgP f f' os os' δ.rd):evAlloc Z f' t e hs=some δ:=by
 unfold evAlloc at h ⊢;split at h
 ·rename_i zs hz hf;cases h;have:=ha (.own t) (by simp);simp only[getP] at this;rw[hz,← this,hf]
 ·cases h
theorem loc_box {t:Nat} {e:ED} {hs:List Hint} {δ:Dl} (h:evBox f t e hs=some δ) (ha:AgP f f' os os' δ.rd):evBox f' t e hs=some δ:=by
 unfold evBox at h ⊢;split at h
 ·rename_i hz hf;cases h;have:=ha (.own t) (by simp);simp only[getP] at this;rw[hz,← this,hf]
 ·cases h
theorem loc_load {T:TypeId→Option (Nat×Nat×Shp)} {ty:TypeId} {e:ED} {hs:List Hint} {δ:Dl} (h:evLoad T f os ty e hs=some δ) (ha:AgP f f' os os' δ.rd):evLoad T f' os' ty e hs=some δ:=by
 unfold evLoad at h ⊢;cases hT:T ty with
 | none=>rw[hT] at h; cases h
 | some x=>
  obtain⟨n,b,s⟩:=x;rw[hT] at h;simp only at h ⊢;split at h
  ·rename_i p off;cases hg:getP f os p with
   | none=>rw[hg] at h; cases h
   | some o=>
    have hrd:δ.rd=[p]:=by
     rw[hg] at h;cases o with
     | cells cs=>
      simp only at h;split at h
      ·split at h <;> first | (cases h; rfl) | cases h
      ·split at h <;> first | (cases h; rfl) | cases h
     | _=>cases h
    have:=ha p (by rw[hrd]; simp);rw[← this];exact h
  ·exact h
  ·exact h
theorem loc_loadRow {T:TypeId→Option (Nat×Nat×Shp)} {ty:TypeId} {e:ED} {hs:List Hint} {δ:Dl} (h:evLoadRow T f os ty e hs=some δ) (ha:AgP f f' os os' δ.rd):evLoadRow T f' os' ty e hs=some δ:=by
 unfold evLoadRow at h ⊢;split at h
 ·rename_i n b s p sz i off c hs' hT;have hrd:δ.rd=[p]:=by
   split at h
   ·split at h
    ·split at h
     ·simp only at h;split at h <;> first | (cases h; rfl) | cases h
     ·split at h <;> first | (cases h; rfl) | cases h
    ·cases h
   ·cases h
  have:=ha p (by rw[hrd]; simp);rw[← this];exact h
 ·cases h
theorem load_row_none {T:TypeId→Option (Nat×Nat×Shp)} {ty:TypeId} {e:ED} {hs:List Hint} {δ:Dl} (h:evLoadRow T f os ty e hs=some δ):evLoad T f' os' ty e hs=none:=by
 unfold evLoadRow at h;split at h
 ·rename_i n b s p sz i off c hs' hT;unfold evLoad; rw[hT]
 ·cases h
theorem loc_store {T:TypeId→Option (Nat×Nat×Shp)} {ty:TypeId} {e v:ED} {hs:List Hint} {δ:Dl} (h:evStore T f os ty e v hs=some δ) (ha:AgP f f' os os' δ.rd):evStore T f' os' ty e v hs=some δ:=by
 unfold evStore at h ⊢;cases hT:T ty with
 | none=>rw[hT] at h; cases h
 | some x=>
  obtain⟨n,b,s⟩:=x;rw[hT] at h;simp only at h ⊢;split at h
  ·rename_i p off;have hrd:δ.rd=[p]:=by
    split at h
    ·split at h <;> first | (cases h; rfl) | cases h
    ·cases h
   have:=ha p (by rw[hrd]; simp);rw[← this];exact h
  ·exact h
theorem loc_storeRow {T:TypeId→Option (Nat×Nat×Shp)} {ty:TypeId} {e v:ED} {hs:List Hint} {δ:Dl} (h:evStoreRow T f os ty e v hs=some δ) (ha:AgP f f' os os' δ.rd):evStoreRow T f' os' ty e v hs=some δ:=by
 unfold evStoreRow at h ⊢;split at h
 ·rename_i n b s p sz i off c ys hs' hT;have hrd:δ.rd=[p]:=by
   split at h
   ·split at h <;> first | (cases h; rfl) | cases h
   ·cases h
  have:=ha p (by rw[hrd]; simp);rw[← this];exact h
 ·cases h
theorem store_row_none {T:TypeId→Option (Nat×Nat×Shp)} {ty:TypeId} {e v:ED} {hs:List Hint} {δ:Dl} (h:evStoreRow T f os ty e v hs=some δ):evStore T f' os' ty e v hs=none:=by
 unfold evStoreRow at h;split at h
 ·rename_i n b s p sz i off c ys hs' hT;unfold evStore; rw[hT]
 ·cases h
theorem loc_append {T:TypeId→Option (Nat×Nat×Shp)} {Z:TypeId→Option (List KD)} {t:Nat} {s:TypeId} {x y:ED} {hs:List Hint} {r:Dl×Option (Nat×Nat)} (h:evAppend T Z f os t s x y hs=some r) (ha:AgP f f' os os' r.1.rd):evAppend T Z f' os' t s x y hs=some r:=by
 unfold evAppend at h ⊢;split at h
 ·rename_i e hT;split at h
  ·rename_i sz be se zs z xs z' ys p m hE hz hx hy hg;have hrd:r.1.rd=[p]:=by
    split at h
    ·split at h
     ·cases h; rfl
     ·cases h
    ·cases h
   have hp:=ha p (by rw[hrd]; simp);have hg':growE f' os' t e x=some (p,m):=by
    unfold growE at hg ⊢;split at hg
    ·split at hg
     ·rename_i hn;cases hg;simp only[getP] at hp;rw[← hp,hn]
     ·cases hg
    ·rename_i q _ _;have hq:q=p:=by
      split at hg
      ·split at hg <;> first | (cases hg; rfl) | cases hg
      ·cases hg
     subst hq;rw[← hp];exact hg
    ·cases hg
   rw[hE,hz,hx,hy,hg'];exact h
  ·cases h
 ·cases h
theorem loc_makeSlice {T:TypeId→Option (Nat×Nat×Shp)} {Z:TypeId→Option (List KD)} {t:Nat} {s:TypeId} {x y:ED} {hs:List Hint} {r:Dl×Int×Int} (h:evMakeSlice T Z f t s x y hs=some r) (ha:AgP f f' os os' r.1.rd):evMakeSlice T Z f' t s x y hs=some r:=by
 unfold evMakeSlice at h ⊢;split at h
 ·rename_i e k n k' m hT;split at h
  ·rename_i sz be se zs hE hz hf;have hrd:r.1.rd=[.own t]:=by
    split at h
    ·cases h; rfl
    ·cases h
   have:=ha (.own t) (by rw[hrd]; simp);simp only[getP] at this;rw[hE,hz,← this,hf];exact h
  ·cases h
 ·cases h
theorem validP_congr (hl:os.length=os'.length) (p:Pl):validP os p=validP os' p:=by cases p <;> simp[validP,hl]
theorem loc_call0 {E:Setting} {T:TypeId→Option (Nat×Nat×Shp)} {ats:List TypeId} {fo:ED} {args:List ED} {hs:List Hint} {δ:Dl} (h:evCall0 E T ats f os fo args hs=some δ) (ha:AgP f f' os os' δ.rd) (hl:os.length=os'.length):evCall0 E T ats f' os' fo args hs=some δ:=by
 unfold evCall0 at h ⊢;split at h
 ·rename_i g first caps ps d outs hs';split at h
  ·rename_i as ins d' outs' h1 h2 h3 h4;have hrd:δ.rd=ps:=by
    split at h
    ·cases h; rfl
    ·cases h
   have hps:ps.map (getP f os)=ps.map (getP f' os'):=List.map_congr_left fun p hp=>ha p (by rw[hrd]; exact hp);have hv:ps.all (validP os)=ps.all (validP os'):=by
    congr 1; funext p; exact validP_congr hl p
   rw[h1,← hps,h2,h3,h4];simp only;rw[← hv];exact h
  ·cases h
 ·cases h
theorem loc_call {E:Setting} {T:TypeId→Option (Nat×Nat×Shp)} {ats:List TypeId} {fo:ED} {args:List ED} {hs:List Hint} {δ:Dl} (h:evCall E T ats f os fo args hs=some δ) (ha:AgP f f' os os' δ.rd) (hl:os.length=os'.length):evCall E T ats f' os' fo args hs=some δ:=loc_call0 (T:=callT T hs) h ha hl
end
structure Agr (xs:List Operand) (ps:List Pl) (G:Nat→KD) (s s':ES):Prop where
 ops:∀x∈xs,evO G s.ρ x=evO G s'.ρ x
 pl:AgP s.f s'.f s.os s'.os ps
 len:s.os.length=s'.os.length
theorem agr_map {G:Nat→KD} {ρ ρ':Nat→ED} {l:List Operand} (h:∀x∈l,evO G ρ x=evO G ρ' x):l.map (evO G ρ)=l.map (evO G ρ'):=List.map_congr_left h
theorem loc_builtin {X:Ctx} {s s':ES} {t:Nat} {b:Builtin} {args:List Operand} {ats:List TypeId} {hs:List Hint} {r:Res} (h:evBuiltin X s t b args ats hs=some r) (ha:Agr args r.1.rd X.G s s'):evBuiltin X s' t b args ats hs=some r:=by
 unfold evBuiltin at h ⊢;split at h
 ·rw[← ha.ops _ (by simp)]; exact h
 ·rename_i x y;have e1:=ha.ops x (by simp);have e2:=ha.ops y (by simp);simp only[← e1,← e2]; exact h
 ·rename_i x y;have e1:=ha.ops x (by simp);have e2:=ha.ops y (by simp);simp only[← e1,← e2]; exact h
 ·rename_i x y z z';have e1:=ha.ops x (by simp);have e2:=ha.ops y (by simp);simp only[← e1,← e2];split at h
  ·rename_i δ h1 h2;cases h;rw[h1,loc_append (f':=s'.f) (os':=s'.os) h2 ha.pl]
  ·rename_i δ a b h1 h2;cases h;rw[h1,loc_append (f':=s'.f) (os':=s'.os) h2 ha.pl]
  ·cases h
 ·cases h
theorem lift1_mk {δ:Dl} {q:List (Int×Int)} (hq:q=[]):lift1 (some δ)=some (δ,q):=by subst hq; rfl
theorem loc_dst {X:Ctx} {s s':ES} {t:Nat} {ty:TypeId} {op:Op} {hs:List Hint} {r:Res} (h:evDst X s t ty op hs=some r) (ha:Agr (opsOf op) r.1.rd X.G s s'):evDst X s' t ty op hs=some r:=by
 have hmap:∀{l:List Operand},(∀x∈l,x∈opsOf op)→l.map (evO X.G s.ρ)=l.map (evO X.G s'.ρ):=fun hl=>agr_map fun x hx=>ha.ops x (hl x hx);unfold evDst at h ⊢;split at h
 ·rw[← ha.ops _ (by simp[opsOf])]; exact h
 ·rw[← ha.ops _ (by simp[opsOf])]; exact h
 ·rw[← ha.ops _ (by simp[opsOf])]; exact h
 ·rename_i c x y;have e1:=ha.ops c (by simp[opsOf]);have e2:=ha.ops x (by simp[opsOf]);have e3:=ha.ops y (by simp[opsOf]);simp only[← e1,← e2,← e3]; exact h
 ·obtain⟨h1,h2⟩:=lift1_some h;rw[loc_alloc (f':=s'.f) (os:=s.os) (os':=s'.os) h1 ha.pl]; exact lift1_mk h2
 ·obtain⟨h1,h2⟩:=lift1_some h;rw[← ha.ops _ (by simp[opsOf]),loc_box (f':=s'.f) (os:=s.os) (os':=s'.os) h1 ha.pl]; exact lift1_mk h2
 ·rename_i y ps;have:(ps.toList.map fun p=>(p.1,evO X.G s'.ρ p.2))=ps.toList.map fun p=>(p.1,evO X.G s.ρ p.2):=List.map_congr_left fun p hp=>by
   rw[ha.ops p.2 (by simp only[opsOf]; exact List.mem_map_of_mem hp)]
  rw[this]; exact h
 ·rename_i y n ps;have:(ps.toList.map fun p=>(p.1,evO X.G s'.ρ p.2))=ps.toList.map fun p=>(p.1,evO X.G s.ρ p.2):=List.map_congr_left fun p hp=>by
   rw[ha.ops p.2 (by simp only[opsOf]; exact List.mem_map_of_mem hp)]
  rw[this]; exact h
 ·rename_i y x;have e1:=ha.ops x (by simp[opsOf]);rw[← e1];have key:∀r0:Res,orR (lift1 (evLoad X.T.t s.f s.os y (evO X.G s.ρ x) hs)) (lift1 (evLoadRow X.T.t s.f s.os y (evO X.G s.ρ x) hs))=some r0→r0.1.rd=r.1.rd →
    orR (lift1 (evLoad X.T.t s'.f s'.os y (evO X.G s.ρ x) hs)) (lift1 (evLoadRow X.T.t s'.f s'.os y (evO X.G s.ρ x) hs))=some r0:=fun r0 h0 hrd=>by
   rcases orR_some h0 with h1 | h1
   ·obtain⟨h1,h2⟩:=lift1_some h1;rw[loc_load (f':=s'.f) (os':=s'.os) h1 (by rw[hrd]; exact ha.pl),lift1_mk h2]; rfl
   ·obtain⟨h1,h2⟩:=lift1_some h1;rw[load_row_none (f':=s'.f) (os':=s'.os) h1,loc_loadRow (f':=s'.f) (os':=s'.os) h1 (by rw[hrd]; exact ha.pl),lift1_mk h2]; rfl
  cases h0:orR (lift1 (evLoad X.T.t s.f s.os y (evO X.G s.ρ x) hs)) (lift1 (evLoadRow X.T.t s.f s.os y (evO X.G s.ρ x) hs)) with
  | none=>rw[h0] at h; cases h
  | some r0=>
   rw[h0] at h;rw[key r0 h0 (by obtain⟨⟨d,wr,rd,ob,hs⟩,q⟩:=r0; cases h; rfl)]; exact h
 ·rename_i op xt x y yt;have e1:=ha.ops x (by simp[opsOf]);have e2:=ha.ops y (by simp[opsOf]);simp only[← e1,← e2]; exact h
 ·rw[← ha.ops _ (by simp[opsOf])]; exact h
 ·rw[← ha.ops _ (by simp[opsOf])]; exact h
 ·rename_i y x i;have e1:=ha.ops x (by simp[opsOf]);have e2:=ha.ops i (by simp[opsOf]);simp only[← e1,← e2]; exact h
 ·rw[← ha.ops _ (by simp[opsOf])]; exact h
 ·rename_i y x i;have e1:=ha.ops x (by simp[opsOf]);have e2:=ha.ops i (by simp[opsOf]);simp only[← e1,← e2]; exact h
 ·rw[← ha.ops _ (by simp[opsOf])]; exact h
 ·rename_i g a b;rw[← hmap (l:=a.toList) (by intro x hx; simp only[opsOf]; exact List.mem_append_left _ hx),← hmap (l:=b.toList) (by intro x hx; simp only[opsOf]; exact List.mem_append_right _ hx)];exact h
 ·rename_i y n m;have e1:=ha.ops n (by simp[opsOf]);have e2:=ha.ops m (by simp[opsOf]);simp only[← e1,← e2];split at h
  ·rename_i δ a b h1;cases h;rw[loc_makeSlice (f':=s'.f) (os:=s.os) (os':=s'.os) h1 ha.pl]
  ·cases h
 ·rename_i y x lo hi mx;have e1:=ha.ops x (by simp[opsOf]);have e2:lo.map (evO X.G s.ρ)=lo.map (evO X.G s'.ρ):=by
   cases lo with
   | none=>rfl
   | some o=>simp only[Option.map_some]; rw[ha.ops o (by simp[opsOf])]
  have e3:hi.map (evO X.G s.ρ)=hi.map (evO X.G s'.ρ):=by
   cases hi with
   | none=>rfl
   | some o=>simp only[Option.map_some]; rw[ha.ops o (by simp[opsOf])]
  have e4:mx.map (evO X.G s.ρ)=mx.map (evO X.G s'.ρ):=by
   cases mx with
   | none=>rfl
   | some o=>simp only[Option.map_some]; rw[ha.ops o (by simp[opsOf])]
  simp only[← e1,← e2,← e3,← e4]; exact h
 ·exact loc_builtin h ha
 ·rename_i fo args ats;obtain⟨h1,h2⟩:=lift1_some h;have e1:=ha.ops fo (by simp[opsOf]);rw[← e1,← hmap (l:=args.toList) (by intro x hx; simp only[opsOf]; exact List.mem_cons_of_mem _ hx),loc_call (f':=s'.f) (os':=s'.os) h1 ha.pl ha.len];exact lift1_mk h2
 ·cases h
theorem loc_no {X:Ctx} {s s':ES} {ty:TypeId} {op:Op} {hs:List Hint} {r:Res} (h:evNo X s ty op hs=some r) (ha:Agr (opsOf op) r.1.rd X.G s s'):evNo X s' ty op hs=some r:=by
 unfold evNo at h ⊢;split at h
 ·rename_i y a v;have e1:=ha.ops a (by simp[opsOf]);have e2:=ha.ops v (by simp[opsOf]);simp only[← e1,← e2];rcases orR_some h with h1 | h1
  ·obtain⟨h1,h2⟩:=lift1_some h1;rw[loc_store (f':=s'.f) (os':=s'.os) h1 ha.pl,lift1_mk h2]; rfl
  ·obtain⟨h1,h2⟩:=lift1_some h1;rw[store_row_none (f':=s'.f) (os':=s'.os) h1,loc_storeRow (f':=s'.f) (os':=s'.os) h1 ha.pl,lift1_mk h2]; rfl
 ·cases h
theorem loc_op0 {X:Ctx} {N:Nat} {s s':ES} {o:Oper} {hs:List Hint} {r:Res} (h:evOp0 X N s o hs=some r) (ha:Agr (opsOf o.op) r.1.rd X.G s s'):evOp0 X N s' o hs=some r:=by
 unfold evOp0 at h ⊢;split at h
 ·rename_i t ht;split at h
  ·exact loc_dst h ha
  ·cases h
 ·exact loc_no h ha
section
variable {f f' : List (Nat × EObj)} {os os' : List (Option EObj)}
theorem loc_loadV {T:TypeId→Option (Nat×Nat×Shp)} {ty:TypeId} {e:ED} {hs:List Hint} {δ:Dl} (h:evLoadV T f os ty e hs=some δ) (ha:AgP f f' os os' δ.rd):evLoadV T f' os' ty e hs=some δ:=by
 unfold evLoadV at h ⊢;split at h
 ·rename_i n b s p z m i off c hs' hT;have hrd:δ.rd=[p]:=by(repeat' split at h) <;> first | (cases h; rfl) | cases h
  have hp:=ha p (by rw[hrd]; simp);rw[← hp]; exact h
 ·cases h
theorem loc_storeV {T:TypeId→Option (Nat×Nat×Shp)} {ty:TypeId} {e v:ED} {hs:List Hint} {δ:Dl} (h:evStoreV T f os ty e v hs=some δ) (ha:AgP f f' os os' δ.rd):evStoreV T f' os' ty e v hs=some δ:=by
 unfold evStoreV at h ⊢;split at h
 ·rename_i n b s p z m i off c ys hs' hT;have hrd:δ.rd=[p]:=by(repeat' split at h) <;> first | (cases h; rfl) | cases h
  have hp:=ha p (by rw[hrd]; simp);rw[← hp]; exact h
 ·cases h
theorem loc_indexV {T:TypeId→Option (Nat×Nat×Shp)} {s:TypeId} {e v:ED} {hs:List Hint} {δ:Dl} (h:evIndexV T f os s e v hs=some δ) (ha:AgP f f' os os' δ.rd):evIndexV T f' os' s e v hs=some δ:=by
 unfold evIndexV at h ⊢;split at h
 ·rename_i el p z m k i hT;have hrd:δ.rd=[p]:=by(repeat' split at h) <;> first | (cases h; rfl) | cases h
  have hp:=ha p (by rw[hrd]; simp);rw[← hp]; exact h
 ·cases h
theorem loc_appendV {T:TypeId→Option (Nat×Nat×Shp)} {Z:TypeId→Option (List KD)} {s:TypeId} {x y:ED} {hs:List Hint} {δ:Dl} (h:evAppendV T Z f os s x y hs=some δ) (ha:AgP f f' os os' δ.rd):evAppendV T Z f' os' s x y hs=some δ:=by
 unfold evAppendV at h ⊢;split at h
 ·rename_i e0 p z m zs hs' hT;have hrd:δ.rd=[p]:=by(repeat' split at h) <;> first | (cases h; rfl) | cases h
  have hp:=ha p (by rw[hrd]; simp);rw[← hp]; exact h
 ·cases h
theorem loc_cutV {T:TypeId→Option (Nat×Nat×Shp)} {t:Nat} {s:TypeId} {e v:ED} {hs:List Hint} {δ:Dl} (h:evCutV T f os t s e v hs=some δ) (ha:AgP f f' os os' δ.rd):evCutV T f' os' t s e v hs=some δ:=by
 unfold evCutV at h ⊢;split at h
 ·rename_i el p z n k h' hT;have hrd:δ.rd=[p,.own (100000+t)]:=by(repeat' split at h) <;> first | (cases h; rfl) | cases h
  have hp:=ha p (by rw[hrd]; simp);have hq:=ha (.own (100000+t)) (by rw[hrd]; simp);simp only[getP] at hq;rw[← hp,← hq]; exact h
 ·cases h
theorem loc_apV0 {T:TypeId→Option (Nat×Nat×Shp)} {Z:TypeId→Option (List KD)} {t:Nat} {s:TypeId} {x y:ED} {hs:List Hint} {δ:Dl} (h:evApV0 T Z f t s x y hs=some δ) (ha:AgP f f' os os' δ.rd):evApV0 T Z f' t s x y hs=some δ:=by
 unfold evApV0 at h ⊢;split at h
 ·have hrd:δ.rd=[.own (100000+t)]:=by(repeat' split at h) <;> first | (cases h; rfl) | cases h
  have hq:=ha (.own (100000+t)) (by rw[hrd]; simp);simp only[getP] at hq;rw[← hq]; exact h
 ·cases h
theorem loc_mv {T:TypeId→Option (Nat×Nat×Shp)} {Z:TypeId→Option (List KD)} {t:Nat} {s:TypeId} {x y:ED} {hs:List Hint} {r:Dl×Int×Int} (h:evMV T Z f t s x y hs=some r) (ha:AgP f f' os os' r.1.rd):evMV T Z f' t s x y hs=some r:=by
 unfold evMV at h ⊢;split at h
 ·rename_i e k n k' m hT;split at h
  ·rename_i sz be se zs hE hz hf;have hrd:r.1.rd=[.own t]:=by
    split at h
    ·cases h; rfl
    ·cases h
   have:=ha (.own t) (by rw[hrd]; simp);simp only[getP] at this;rw[hE,hz,← this,hf];exact h
  ·cases h
 ·cases h
theorem loc_mb {T:TypeId→Option (Nat×Nat×Shp)} {Z:TypeId→Option (List KD)} {t:Nat} {s:TypeId} {len:Nat} {ps:List (Nat×ED)} {hs:List Hint} {r:Dl} (h:evMB T Z f t s len ps hs=some r) (ha:AgP f f' os os' r.rd):evMB T Z f' t s len ps hs=some r:=by
 unfold evMB at h ⊢;split at h
 ·rename_i e hT;split at h
  ·rename_i sz _ _ zs hE hz hf;have hrd:r.rd=[.own t]:=by
    split at h
    ·split at h
     ·cases h; rfl
     ·cases h
    ·cases h
   have:=ha (.own t) (by rw[hrd]; simp);simp only[getP] at this;rw[hE,hz,← this,hf];exact h
  ·cases h
 ·cases h
end
theorem loc_vecOp {G:Nat→KD} {ρ ρ':Nat→ED} {op:Op} (h:∀x∈opsOf op,evO G ρ x=evO G ρ' x):vecOp G ρ op=vecOp G ρ' op:=by
 unfold vecOp;split
 ·rw[h _ (by simp[opsOf])]
 ·rw[h _ (by simp[opsOf])]
 ·rw[h _ (by simp[opsOf])]
 ·rw[h _ (by simp[opsOf])]
 ·rw[h _ (by simp[opsOf])]
 ·rename_i b args ats;split
  ·rename_i x r hx;rw[h x (by simp[opsOf,hx])]
  ·rfl
 ·rfl
theorem loc_V {X:Ctx} {N:Nat} {s s':ES} {o:Oper} {hs:List Hint} {r:Res} (h:evV X N s o hs=some r) (ha:Agr (opsOf o.op) r.1.rd X.G s s'):evV X N s' o hs=some r:=by
 unfold evV at h ⊢;split at h
 ·rename_i t ht;split at h
  ·obtain⟨h1,h2⟩:=lift1_some h;have:evVD X s' t o.op hs=some r.1:=by
    unfold evVD at h1 ⊢;split at h1
    ·rename_i y x hop;rw[hop] at ha;rw[← ha.ops _ (by simp[opsOf])]; exact loc_loadV h1 ha.pl
    ·rename_i y x i hop;rw[hop] at ha;rw[← ha.ops _ (by simp[opsOf])]; exact h1
    ·rename_i y x i hop;rw[hop] at ha;rw[← ha.ops x (by simp[opsOf]),← ha.ops i (by simp[opsOf])]; exact loc_indexV h1 ha.pl
    ·rename_i y x hi hop;rw[hop] at ha;rw[← ha.ops x (by simp[opsOf]),← ha.ops hi (by simp[opsOf])]; exact loc_cutV h1 ha.pl
    ·rename_i b args ats hop;rw[hop] at ha;unfold evVB at h1 ⊢;have ha':∀x∈args.toList,evO X.G s.ρ x=evO X.G s'.ρ x:=fun x hx=>ha.ops x (by simpa [opsOf] using hx);split at h1
     ·rw[← ha' _ (by simp[*])]; exact h1
     ·rename_i x y z z' e1 e2;rw[← ha' x (by rw[e1]; simp),← ha' y (by rw[e1]; simp)];split at h1
      ·rename_i hz;exact loc_appendV h1 ha.pl
      ·cases h1
     ·cases h1
    ·cases h1
   rw[this]; exact lift1_mk h2
  ·cases h
 ·split at h
  ·rename_i y a v hop;rw[hop] at ha;obtain⟨h1,h2⟩:=lift1_some h;rw[← ha.ops a (by simp[opsOf]),← ha.ops v (by simp[opsOf]),loc_storeV (f':=s'.f) (os':=s'.os) h1 ha.pl]; exact lift1_mk h2
  ·cases h
theorem loc_opA {X:Ctx} {N:Nat} {s s':ES} {o:Oper} {hs:List Hint} {r:Res} (h:evOpA X N s o hs=some r) (ha:Agr (opsOf o.op) r.1.rd X.G s s'):evOpA X N s' o hs=some r:=by
 unfold evOpA at h ⊢;rw[← loc_vecOp ha.ops];split at h
 ·exact loc_V h ha
 ·exact loc_op0 h ha
theorem loc_opM {X:Ctx} {N:Nat} {s s':ES} {o:Oper} {hs:List Hint} {r:Res} (h:evOpM X N s o hs=some r) (ha:Agr (opsOf o.op) r.1.rd X.G s s'):evOpM X N s' o hs=some r:=by
 unfold evOpM at h ⊢;split at h
 ·rename_i t y n m hd ho;rw[ho] at ha;rw[← ha.ops n (by simp[opsOf]),← ha.ops m (by simp[opsOf])];split at h
  ·rename_i δ a b ht h1;cases h;rw[ht,loc_mv h1 ha.pl]
  ·cases h
 ·rename_i t y n ps hd ho;rw[ho] at ha;have hps:(ps.toList.map fun p=>(p.1,evO X.G s.ρ p.2))=ps.toList.map fun p=>(p.1,evO X.G s'.ρ p.2):=List.map_congr_left fun p hp=>by rw[ha.ops p.2 (by simp only[opsOf]; exact List.mem_map_of_mem hp)]
  rw[← hps];split at h
  ·rename_i ht;obtain⟨g1,g2⟩:=lift1_some h;rw[loc_mb (os:=s.os) (os':=s'.os) g1 ha.pl];exact lift1_mk g2
  ·cases h
 ·rename_i t args ats hd ho;rw[ho] at ha;have ha':∀x∈args.toList,evO X.G s.ρ x=evO X.G s'.ρ x:=fun x hx=>ha.ops x (by simpa [opsOf] using hx);split at h
  ·rename_i x y z z' h1 e1 e2;rw[← ha' x (by rw[e1]; simp),← ha' y (by rw[e1]; simp)];split at h
   ·rename_i hz;obtain⟨g1,g2⟩:=lift1_some h;rw[loc_apV0 (os:=s.os) (os':=s'.os) g1 ha.pl];exact lift1_mk g2
   ·cases h
  ·cases h
 ·cases h
theorem loc_opG {X:Ctx} {N:Nat} {s s':ES} {o:Oper} {hs:List Hint} {r:Res} (h:evOpG X N s o hs=some r) (ha:Agr (opsOf o.op) r.1.rd X.G s s'):evOpG X N s' o hs=some r:=by
 unfold evOpG at h ⊢;split at h
 ·rename_i t ht;split at h
  ·rename_i z rd ob hs' q h0;split at h
   ·rename_i e hf hT;cases h;have h1:=loc_op0 h0 ⟨ha.ops,fun p hp=>ha.pl p (List.mem_cons_of_mem _ hp),ha.len⟩;have h2:=ha.pl (.own (100000+t)) List.mem_cons_self;simp only[getP] at h2;rw[h1];simp only[← h2,hf,hT]
   ·cases h
  ·cases h
 ·cases h
theorem loc_opL {X:Ctx} {N:Nat} {s s':ES} {o:Oper} {kt el:Nat} {f:Bool} {hs:List Hint} {r:Res} (h:evOpL X N s o kt el f hs=some r) (ha:Agr (opsOf o.op) r.1.rd X.G s s'):evOpL X N s' o kt el f hs=some r:=by
 unfold evOpL at h ⊢;split at h
 ·rename_i t T x ix h1 h2;have e1:=ha.ops x (by rw[h2]; simp[opsOf]);have e2:=ha.ops ix (by rw[h2]; simp[opsOf]);rw[← e1,← e2];exact h
 ·cases h
theorem loc_op {X:Ctx} {N:Nat} {s s':ES} {o:Oper} {hs:List Hint} {r:Res} (h:evOp X N s o hs=some r) (ha:Agr (opsOf o.op) r.1.rd X.G s s'):evOp X N s' o hs=some r:=by
 unfold evOp at h ⊢;split at h
 ·split at h
  ·exact loc_opM h ha
  ·exact loc_opA h ha
 ·split at h
  ·exact loc_opG h ha
  ·exact loc_opA h ha
 ·split at h
  ·exact loc_opL h ha
  ·exact loc_opA h ha
 ·exact loc_opA h ha
def rdsOf (all:Array Oper) (o:Oper):List Operand:=
 match o.guard with
 | none=>opsOf o.op
 | some (j,_)=>match (all[j]?).bind (·.dst) with
  | some u=>.tmp u::opsOf o.op
  | none=>opsOf o.op
theorem loc_g {X:Ctx} {N:Nat} {all:Array Oper} {s s':ES} {o:Oper} {hs:List Hint} {r:Res} (h:evG X N all s o hs=some r) (ha:Agr (rdsOf all o) r.1.rd X.G s s'):evG X N all s' o hs=some r:=by
 unfold evG at h ⊢;unfold rdsOf at ha;cases hg:o.guard with
 | none=>rw[hg] at h ha; exact loc_op h ha
 | some jw=>
  obtain⟨j,want⟩:=jw;rw[hg] at h ha;simp only at h ha ⊢;cases hu:(all[j]?).bind (·.dst) with
  | none=>rw[hu] at h; cases h
  | some u=>
   rw[hu] at h ha;simp only at h ha ⊢;have e1:s.ρ u=s'.ρ u:=ha.ops (.tmp u) (by simp);rw[← e1];split at h
   ·rename_i b w hs' hN hv;split at h
    ·split at h
     ·rename_i δ q hop;cases h;rw[loc_op hop ⟨fun x hx=>ha.ops x (List.mem_cons_of_mem _ hx),ha.pl,ha.len⟩]
     ·cases h
    ·exact h
   ·exact h
   ·cases h
end Go.Mx
namespace Go.Mx
set_option linter.unusedVariables false
set_option linter.unusedSimpArgs false
structure Stp where
 i:Nat
 o:Oper
 hs:List Hint
 δ:Dl
 q:List (Int×Int)
structure Eqv (s e:ES):Prop where
 ρ:∀t,s.ρ t=e.ρ t
 pl:∀p,getP s.f s.os p=getP e.f e.os p
 len:s.os.length=e.os.length
theorem Eqv.refl (s:ES):Eqv s s:=⟨fun _=>rfl,fun _=>rfl,rfl⟩
theorem Eqv.trans {a b c:ES} (h:Eqv a b) (k:Eqv b c):Eqv a c:=⟨fun t=>(h.ρ t).trans (k.ρ t),fun p=>(h.pl p).trans (k.pl p),h.len.trans k.len⟩
theorem Eqv.symm {a b:ES} (h:Eqv a b):Eqv b a:=⟨fun t=>(h.ρ t).symm,fun p=>(h.pl p).symm,h.len.symm⟩
def inW (wr:List (Pl×EObj)) (p:Pl):Bool:=wr.any fun x=>x.1.eqB p
theorem getF_set {α:Type}:∀(f:List (Nat×α)) (u t:Nat) (o:α),getF (setF f u o) t=if t=u then some o else getF f t
 | [],u,t,o=>by
  simp only[setF,getF];by_cases h:t=u
  ·subst h; simp
  ·rw[if_neg h,if_neg (fun h'=>h (Nat.eq_of_beq_eq_true h').symm)]
 | (v,p)::r,u,t,o=>by
  simp only[setF];by_cases hv:Nat.beq v u=true
  ·have:=Nat.eq_of_beq_eq_true hv;subst this;rw[if_pos hv];simp only[getF];by_cases h:t=v
   ·subst h; simp
   ·have:¬Nat.beq v t=true:=fun h'=>h (Nat.eq_of_beq_eq_true h').symm;rw[if_neg h,if_neg this,if_neg this]
  ·rw[if_neg hv];simp only[getF];rw[getF_set r u t o];by_cases h:Nat.beq v t=true
   ·have:=Nat.eq_of_beq_eq_true h;subst this;rw[if_pos h,if_pos h,if_neg (fun e=>hv (by rw[e]; simp))]
   ·rw[if_neg h,if_neg h]
instance Pl.dec:DecidableEq Pl:=fun p q=>if h:p.eqB q=true then .isTrue (Pl.eqB_eq h) else .isFalse (fun e=>h (e▸Pl.eqB_refl p))
theorem getP_put {f:List (Nat×EObj)} {os:List (Option EObj)} {p q:Pl} {o:EObj}:getP (putF f p o) (putO os p o) q=if q=p then(if validP os p=true then some o else none) else getP f os q:=by
 cases p with
 | own u=>
  cases q with
  | own v=>
   simp only[putF,putO,getP,getF_set,Pl.own.injEq,validP,if_true]
  | low j=>simp[putF,putO,getP]
 | low i=>
  cases q with
  | own v=>simp[putF,putO,getP]
  | low j=>
   simp only[putF,putO,getP,Pl.low.injEq];by_cases h:j=i
   ·subst h;rw[if_pos rfl];by_cases hj:j<os.length
    ·have hv:validP os (.low j)=true:=Nat.ble_eq_true_of_le hj;rw[if_pos hv]; simp[hj]
    ·have hv:¬validP os (.low j)=true:=fun h=>hj (Nat.le_of_ble_eq_true h);rw[if_neg hv,List.getElem?_eq_none (by simp; omega)]; rfl
   ·rw[if_neg h,List.getElem?_set_ne (Ne.symm h)]
theorem puts_other:∀{wr:List (Pl×EObj)} {f:List (Nat×EObj)} {os:List (Option EObj)} {p:Pl},inW wr p=false→getP (putsF f wr) (putsO os wr) p=getP f os p
 | [],f,os,p,_=>rfl
 | (q,o)::r,f,os,p,h=>by
  simp only[inW,List.any_cons,Bool.or_eq_false_iff] at h;simp only[putsF,putsO];rw[puts_other (wr:=r) h.2,getP_put,if_neg (fun e=>by subst e; rw[Pl.eqB_refl] at h; cases h.1)]
theorem puts_in:∀{wr:List (Pl×EObj)} {f f':List (Nat×EObj)} {os os':List (Option EObj)} {p:Pl},os.length=os'.length→inW wr p=true→getP (putsF f wr) (putsO os wr) p=getP (putsF f' wr) (putsO os' wr) p
 | [],_,_,_,_,p,_,h=>by cases h
 | (q,o)::r,f,f',os,os',p,hl,h=>by
  simp only[putsF,putsO];by_cases hr:inW r p=true
  ·exact puts_in (by rw[putO_len,putO_len]; exact hl) hr
  ·have hr:inW r p=false:=by simpa using hr
   rw[puts_other hr,puts_other hr,getP_put,getP_put];have:p=q:=by
    simp only[inW,List.any_cons,Bool.or_eq_true] at h;rcases h with h | h
    ·exact(Pl.eqB_eq h).symm
    ·simp only[inW] at hr; rw[hr] at h; cases h
   subst this;rw[if_pos rfl,if_pos rfl,validP_congr hl]
theorem updO_get {ρ:Nat→ED} {d:Option Nat} {e:ED} {t:Nat}:updO ρ d e t=if d=some t then e else ρ t:=by
 cases d with
 | none=>simp[updO]
 | some u=>
  simp only[updO,updE,Option.some.injEq];by_cases h:t=u
  ·subst h; simp
  ·have:Nat.beq t u=false:=by
    cases hb:Nat.beq t u with
    | false=>rfl
    | true=>exact absurd (Nat.eq_of_beq_eq_true hb) h
   rw[this,if_neg (fun e=>h e.symm)]
theorem Eqv.app {s s':ES} (h:Eqv s s') (d:Option Nat) (δ:Dl):Eqv (s.app d δ) (s'.app d δ):=by
 refine⟨fun t=>?_,fun p=>?_,by simp only[ES.app,putsO_len]; exact h.len⟩
 ·simp only[ES.app,updO_get,h.ρ t]
 ·simp only[ES.app];cases hp:inW δ.wr p with
  | true=>exact puts_in h.len hp
  | false=>rw[puts_other hp,puts_other hp]; exact h.pl p
def Run (X:Ctx) (N:Nat) (all:Array Oper):List Stp→ES→ES→Prop
 | [],s,e=>Eqv s e
 | a::r,s,e=>evG X N all s a.o a.hs=some (a.δ,a.q)∧Run X N all r (s.app a.o.dst a.δ) e
def dstFree:Option Nat→List Operand→Bool
 | none,_=>true
 | some t,xs=>xs.all fun x=>match x with
  | .tmp u=>!(Nat.beq u t)
  | _=>true
def wrFree (wr:List (Pl×EObj)) (rd:List Pl):Bool:=rd.all fun p=>!(inW wr p)
def dne:Option Nat→Option Nat→Bool
 | some a,some b=>!(Nat.beq a b)
 | _,_=>true
def noConf (all:Array Oper) (a b:Stp):Bool:=
 dstFree a.o.dst (rdsOf all b.o)&&dstFree b.o.dst (rdsOf all a.o)&&dne a.o.dst b.o.dst&&wrFree a.δ.wr b.δ.rd&&wrFree b.δ.wr a.δ.rd&&wrFree a.δ.wr (b.δ.wr.map Prod.fst)
section
variable {X : Ctx} {N : Nat} {all : Array Oper}
theorem run_eqv:∀{r:List Stp} {s s' e:ES},Eqv s s'→Run X N all r s e→Run X N all r s' e
 | [],s,s',e,h,hr=>h.symm.trans hr
 | a::r,s,s',e,h,hr=>⟨loc_g hr.1 ⟨fun x _=>by cases x <;> first | rfl | exact h.ρ _,fun p _=>h.pl p,h.len⟩,run_eqv (h.app _ _) hr.2⟩
theorem agr_app {s:ES} {d:Option Nat} {δ:Dl} {xs:List Operand} {ps:List Pl} (h1:dstFree d xs=true) (h2:wrFree δ.wr ps=true):Agr xs ps X.G (s.app d δ) s:=by
 refine⟨fun x hx=>?_,fun p hp=>?_,by simp only[ES.app,putsO_len]⟩
 ·cases x with
  | tmp u=>
   simp only[evO,ES.app,updO_get];cases d with
   | none=>simp
   | some t=>
    simp only[dstFree,List.all_eq_true] at h1;have:=h1 (.tmp u) hx;simp only[Bool.not_eq_true'] at this;rw[if_neg (fun e=>by cases e; simp at this)]
  | _=>rfl
 ·simp only[wrFree,List.all_eq_true,Bool.not_eq_true'] at h2;exact puts_other (h2 p hp)
theorem Agr.symm {xs:List Operand} {ps:List Pl} {G:Nat→KD} {s s':ES} (h:Agr xs ps G s s'):Agr xs ps G s' s:=⟨fun x hx=>(h.ops x hx).symm,fun p hp=>(h.pl p hp).symm,h.len.symm⟩
theorem run_swap {a b:Stp} {r:List Stp} {s e:ES} (hc:noConf all a b=true) (h:Run X N all (a::b::r) s e):Run X N all (b::a::r) s e:=by
 obtain⟨h1,h2,h3⟩:=h;simp only[noConf,Bool.and_eq_true] at hc;obtain⟨⟨⟨⟨⟨c1,c2⟩,c3⟩,c4⟩,c5⟩,c6⟩:=hc;refine⟨loc_g h2 (agr_app c1 c4),loc_g h1 (agr_app c2 c5).symm,run_eqv ?_ h3⟩;refine⟨fun t=>?_,fun p=>?_,by simp only[ES.app,putsO_len]⟩
 ·simp only[ES.app,updO_get];by_cases hb:b.o.dst=some t
  ·by_cases ha:a.o.dst=some t
   ·rw[ha,hb] at c3; simp[dne] at c3
   ·rw[if_pos hb,if_neg ha,if_pos hb]
  ·by_cases ha:a.o.dst=some t
   ·rw[if_neg hb,if_pos ha]; simp[ha]
   ·simp[ha,hb]
 ·simp only[ES.app];cases hb:inW b.δ.wr p with
  | true=>
   have ha:inW a.δ.wr p=false:=by
    simp only[wrFree,List.all_eq_true,Bool.not_eq_true'] at c6;simp only[inW,List.any_eq_true] at hb;obtain⟨x,hx,hq⟩:=hb;have:=Pl.eqB_eq hq;subst this;exact c6 x.1 (List.mem_map_of_mem hx)
   rw[puts_other ha];exact puts_in (by rw[putsO_len]) hb
  | false=>
   rw[puts_other hb];cases ha:inW a.δ.wr p with
   | true=>exact puts_in (by rw[putsO_len]) ha
   | false=>rw[puts_other ha,puts_other ha,puts_other hb]
theorem run_front {b:Stp} {R2:List Stp}:∀{R1:List Stp} {s e:ES},(∀a∈R1,noConf all a b=true)→Run X N all (R1++b::R2) s e→Run X N all (b::(R1++R2)) s e
 | [],s,e,_,h=>h
 | a::R1,s,e,hc,h=>by
  have ih:=run_front (R1:=R1) (fun c hc'=>hc c (List.mem_cons_of_mem _ hc')) h.2;exact run_swap (hc a (List.mem_cons_self)) ⟨h.1,ih⟩
end
def edgeB (o:Oper) (i:Nat):Bool:=o.after.toList.any fun e=>Region.binds .any e&&Nat.beq e.on i
def depB (ops:Array Oper):Nat→Oper→Nat→Bool
 | 0,_,_=>false
 | n+1,o,i=>o.after.toList.any fun e=>Region.binds .any e&&(Nat.beq e.on i||match ops[e.on]? with
  | some o'=>depB ops n o' i
  | none=>false)
theorem dep_listed {ops:Array Oper} {listed:Array Bool} (down:∀(j:Nat) o,ops[j]? = some o→listed.getD j false=true→∀e∈o.after,Region.binds .any e=true→listed.getD e.on false=true):∀(n:Nat) (o:Oper) (i:Nat),depB ops n o i=true →
  (∀e∈o.after,Region.binds .any e=true→listed.getD e.on false=true)→listed.getD i false=true
 | 0,o,i,h,_=>by cases h
 | n+1,o,i,h,hd=>by
  simp only[depB,List.any_eq_true,Bool.and_eq_true,Bool.or_eq_true] at h;obtain⟨e,he,hb,h⟩:=h;have hl:=hd e (by simpa using he) hb;rcases h with h | h
  ·rw[Nat.eq_of_beq_eq_true h] at hl; exact hl
  ·split at h
   ·rename_i o' ho;exact dep_listed down n o' i h (down e.on o' ho hl)
   ·cases h
structure Plan (ops:Array Oper) (listed:Array Bool) (R:List Stp):Prop where
 mem:∀j,listed.getD j true=false→∃a∈R,a.i=j
 un:∀a∈R,listed.getD a.i true=false∧ops[a.i]? = some a.o
 low:∀a∈R,∀e∈a.o.after,Region.binds .any e=true→e.on<a.i
 pair:R.Pairwise fun a b=>a.i<b.i∧((edgeB b.o a.i=true∨noConf ops a b=true)∨depB ops 4 b.o a.i=true)
 down:∀(j:Nat) o,ops[j]? = some o→listed.getD j false=true→∀e∈o.after,Region.binds .any e=true→listed.getD e.on false=true
 ok:∀a∈R,obP a.δ.ob∧eqsOk a.q
theorem getD_false_of {listed:Array Bool} {j:Nat} (hj:j<listed.size) (h:¬listed.getD j true=false):listed.getD j false=true:=by
 simp[hj] at h ⊢; exact h
theorem getD_lt {listed:Array Bool} {j:Nat} (h:listed.getD j true=false):j<listed.size:=by
 rcases Nat.lt_or_ge j listed.size with h' | h'
 ·exact h'
 ·simp[Array.getElem?_eq_none h'] at h
theorem stD_eqv {κ:Pl→Key} {low:List (Option AObj)→St} {s e:ES} (h:Eqv s e):s.D κ low=e.D κ low∧envD κ s.ρ=envD κ e.ρ:=by
 have h1:mkFr (fA κ s.f)=mkFr (fA κ e.f):=by
  funext u
  rw[mkFr_getF,mkFr_getF];have:=h.pl (.own u);simp only[getP] at this;rw[this]
 have h2:s.os=e.os:=by
  apply List.ext_getElem?;intro i;have:=h.pl (.low i);simp only[getP] at this;by_cases hi:i<s.os.length
  ·have hi':i<e.os.length:=by rw[← h.len]; exact hi
   rw[List.getElem?_eq_getElem hi,List.getElem?_eq_getElem hi'] at this ⊢;simp only[Option.getD_some] at this;rw[this]
  ·rw[List.getElem?_eq_none (by omega),List.getElem?_eq_none (by rw[← h.len]; omega)]
 refine⟨by unfold ES.D stD; rw[h1,h2],?_⟩;unfold envD
 funext t
 rw[h.ρ t]
theorem drawn_sound {W:Wd} {k:List KI} {ops:Array Oper} {e:ES} (hk:WS W k e) (hsz:∀listed:Array Bool,listed.size=ops.size→True):∀(n:Nat) (listed:Array Bool) (R:List Stp) (s:ES),R.length=n→listed.size=ops.size→Plan ops listed R→Run W.X W.N ops R s e→s.os.length=W.ks.length →
  ∀(B:Base) cx a w,B.L=W.U.L→(s.D W.κ W.low).length=W.U.L+1→Ext (lv B.L) B.cx B.w cx w→RelF W.X.E W.U.N cx (envD W.κ s.ρ) (s.D W.κ W.low) a w →
   wpAny W.X.E.P .any ops (kpost W.X.E.P (Gc W.X.E W.U.N B) k (Fin W.X.E W.U.fn W.F B)) n listed a w
 | 0,listed,R,s,hn,hls,hp,hr,hlen,B,cx,a,w,hB,hl,he,hrel=>by
  have hR:R=[]:=List.eq_nil_of_length_eq_zero hn;subst hR;have hready:Region.ready .any ops listed=[]:=by
   apply List.eq_nil_iff_forall_not_mem.2;intro j hj;obtain⟨h0,_⟩:=mem_ready.1 hj;obtain⟨a,ha,_⟩:=hp.mem j h0;cases ha
  obtain⟨g1,g2⟩:=stD_eqv (κ:=W.κ) (low:=W.low) hr;refine⟨hready,?_⟩;rw[g1,g2] at hrel;rw[g1] at hl;exact hk (by rw[← hr.len]; exact hlen) B cx a w hB hl he hrel
 | n+1,listed,R,s,hn,hls,hp,hr,hlen,B,cx,a,w,hB,hl,he,hrel=>by
  refine⟨fun h0=>?_,fun i hi=>?_⟩
  ·exfalso;cases R with
   | nil=>simp at hn
   | cons b T=>
    obtain⟨hb1,hb2⟩:=hp.un b (List.mem_cons_self);have:b.i∈Region.ready .any ops listed:=mem_ready.2 ⟨hb1,b.o,hb2,fun e' he' hbi=>by
     have hlt:=hp.low b (List.mem_cons_self) e' he' hbi;have hbs:b.i<listed.size:=getD_lt hb1;refine getD_false_of (by omega) (fun hun=>?_);obtain⟨c,hc,hci⟩:=hp.mem _ hun;cases hc with
     | head=>omega
     | tail _ hc=>
      have:=(List.pairwise_cons.1 hp.pair).1 c hc;omega⟩
    rw[h0] at this;cases this
  ·obtain⟨hun,oi,hoi,hdep⟩:=mem_ready.1 hi;obtain⟨b,hb,hbi⟩:=hp.mem i hun;subst hbi;obtain⟨R1,R2,rfl⟩:=List.append_of_mem hb;obtain⟨_,hbo⟩:=hp.un b hb;rw[hoi] at hbo;cases hbo;have hpair:=List.pairwise_append.1 hp.pair;have hconf:∀c∈R1,noConf ops c b=true:=fun c hc=>by
    have:=hpair.2.2 c hc b (List.mem_cons_self);rcases this.2 with (h1 | h1) | h1
    ·exfalso;simp only[edgeB,List.any_eq_true,Bool.and_eq_true] at h1;obtain⟨e',he',hbi,hon⟩:=h1;have hon:=Nat.eq_of_beq_eq_true hon;have hd:=hdep e' (by simpa using he') hbi;have hcu:=(hp.un c (List.mem_append_left _ hc)).1;rw[hon] at hd;have:=getD_lt hcu;simp[this] at hcu hd;rw[hcu] at hd; cases hd
    ·exact h1
    ·exfalso;have hd:=dep_listed hp.down 4 b.o c.i h1 hdep;have hcu:=(hp.un c (List.mem_append_left _ hc)).1;have:=getD_lt hcu;simp[this] at hcu hd;rw[hcu] at hd; cases hd
   have hrun:=run_front hconf hr;obtain⟨hev,hrun2⟩:=hrun;obtain⟨o1,o2⟩:=hp.ok b hb;obtain⟨g1,g2⟩:=evG_good (U:=W.U) W.hl W.hL hlen hev o1 o2;unfold wpOp;simp only[hoi];refine g1 cx a w hrel _ _ fun cx' a' w' h0 h1 h2=>?_;have h0':((s.app b.o.dst b.δ).D W.κ W.low).length=(s.D W.κ W.low).length:=h0;have hp':Plan ops (listed.setIfInBounds b.i true) (R1++R2):=by
    have hbs:b.i<listed.size:=getD_lt hun;have hnot:∀c∈R1++R2,c.i≠b.i:=fun c hc=>by
     rcases List.mem_append.1 hc with hc | hc
     ·have:=(hpair.2.2 c hc b (List.mem_cons_self)).1; omega
     ·have:=((List.pairwise_cons.1 hpair.2.1).1 c hc).1; omega
    refine⟨fun j hj=>?_,fun c hc=>?_,fun c hc=>hp.low c ?_,?_,fun j o ho hj e' he' hbi=>?_,fun c hc=>hp.ok c ?_⟩
    ·by_cases hjb:b.i=j
     ·subst hjb; simp[hbs] at hj
     ·rw[getD_set_ne true hjb] at hj;obtain⟨c,hc,hci⟩:=hp.mem j hj;refine⟨c,?_,hci⟩;rcases List.mem_append.1 hc with hc | hc
      ·exact List.mem_append_left _ hc
      ·cases hc with
       | head=>exact absurd hci hjb
       | tail _ hc=>exact List.mem_append_right _ hc
    ·have hc':c∈R1++b::R2:=by
      rcases List.mem_append.1 hc with hc | hc
      ·exact List.mem_append_left _ hc
      ·exact List.mem_append_right _ (List.mem_cons_of_mem _ hc)
     rw[getD_set_ne true (Ne.symm (hnot c hc))];exact hp.un c hc'
    ·rcases List.mem_append.1 hc with hc | hc
     ·exact List.mem_append_left _ hc
     ·exact List.mem_append_right _ (List.mem_cons_of_mem _ hc)
    ·refine List.pairwise_append.2 ⟨hpair.1,(List.pairwise_cons.1 hpair.2.1).2,fun c hc d hd=>hpair.2.2 c hc d (List.mem_cons_of_mem _ hd)⟩
    ·have key:listed.getD e'.on false=true:=by
      by_cases hjb:b.i=j
      ·subst hjb;rw[hoi] at ho; cases ho;exact hdep e' he' hbi
      ·refine hp.down j o ho ?_ e' he' hbi;simp only[Array.getD_eq_getD_getElem?] at hj ⊢
       rwa [Array.getElem?_setIfInBounds_ne hjb] at hj
     simp only[Array.getD_eq_getD_getElem?] at key ⊢;by_cases hbe:b.i=e'.on
     ·rw[← hbe]; simp[hbs]
     ·rwa [Array.getElem?_setIfInBounds_ne hbe]
    ·rcases List.mem_append.1 hc with hc | hc
     ·exact List.mem_append_left _ hc
     ·exact List.mem_append_right _ (List.mem_cons_of_mem _ hc)
   exact drawn_sound hk hsz n _ (R1++R2) _ (by simp at hn ⊢; omega) (by simp[hls]) hp' hrun2 (by simp only[ES.app,putsO_len]; exact hlen) B cx' a' w' hB (by omega) (he.trans (h2.weaken fun _ _=>rfl)) h1
end Go.Mx
namespace Go.Mx
set_option linter.unusedVariables false
set_option linter.unusedSimpArgs false
def lkH:List (Nat×List Hint)→Nat→List Hint
 | [],_=>[]
 | (j,h)::r,i=>match Nat.beq j i with
  | true=>h
  | false=>lkH r i
def evStps (X:Ctx) (N:Nat) (all:Array Oper) (hq:List (Nat×List Hint)):Nat→List Oper→ES→Option (List Stp×ES)
 | _,[],s=>some ([],s)
 | i,o::r,s=>
  match evG X N all s o (lkH hq i) with
  | none=>none
  | some (δ,q)=>
   match evStps X N all hq (i+1) r (s.app o.dst δ) with
   | none=>none
   | some (R,e)=>some (⟨i,o,lkH hq i,δ,q⟩::R,e)
def pairsOk (all:Array Oper):List Stp→Bool
 | []=>true
 | a::r=>(r.all fun b=>edgeB b.o a.i||noConf all a b||depB all 4 b.o a.i)&&(a.o.after.toList.all fun e=>!(Region.binds .any e)||Nat.blt e.on a.i)&&pairsOk all r
def obsOf:List Stp→Prop
 | []=>True
 | a::r=>match a.δ.ob with
  | none=>obsOf r
  | some p=>p∧obsOf r
def qsOf:List Stp→List (Int×Int)
 | []=>[]
 | a::r=>a.q++qsOf r
def evDr (X:Ctx) (N:Nat) (live:List Nat) (ops:Array Oper) (s:ES) (hq:List (Nat×List Hint)):Option (List ED×List (Nat×EObj)×List (Option EObj)×Prop×List (Int×Int)):=
 match evStps X N ops hq 0 ops.toList s with
 | some (R,e)=>match pairsOk ops R with
  | true=>some (live.map e.ρ,e.f,e.os,obsOf R,qsOf R)
  | false=>none
 | none=>none
section
variable {X : Ctx} {N : Nat} {all : Array Oper} {hq : List (Nat × List Hint)}
theorem stps_run:∀{i:Nat} {l:List Oper} {s e:ES} {R:List Stp},evStps X N all hq i l s=some (R,e)→Run X N all R s e
 | i,[],s,e,R,h=>by cases h; exact Eqv.refl _
 | i,o::r,s,e,R,h=>by
  simp only[evStps] at h;split at h
  ·cases h
  ·rename_i δ q hg;split at h
   ·cases h
   ·rename_i R' e' hr;cases h;exact⟨hg,stps_run hr⟩
theorem stps_at:∀{i:Nat} {l:List Oper} {s e:ES} {R:List Stp},evStps X N all hq i l s=some (R,e)→R.length=l.length∧(∀a∈R,i≤a.i∧l[a.i-i]? = some a.o)∧(∀j,j<l.length→∃a∈R,a.i=i+j)∧R.Pairwise (fun a b=>a.i<b.i)
 | i,[],s,e,R,h=>by cases h; exact⟨rfl,by simp,by simp,List.Pairwise.nil⟩
 | i,o::r,s,e,R,h=>by
  simp only[evStps] at h;split at h
  ·cases h
  ·rename_i δ q hg;split at h
   ·cases h
   ·rename_i R' e' hr;cases h;obtain⟨h1,h2,h3,h4⟩:=stps_at hr;refine⟨by simp[h1],fun a ha=>?_,fun j hj=>?_,?_⟩
    ·cases ha with
     | head=>exact⟨Nat.le_refl _,by simp⟩
     | tail _ ha=>
      obtain⟨g1,g2⟩:=h2 a ha;refine⟨by omega,?_⟩;rw[show a.i-i=(a.i-(i+1))+1 by omega,List.getElem?_cons_succ];exact g2
    ·cases j with
     | zero=>exact⟨_,List.mem_cons_self,rfl⟩
     | succ j=>
      obtain⟨a,ha,hi⟩:=h3 j (by simpa using hj);exact⟨a,List.mem_cons_of_mem _ ha,by omega⟩
    ·exact List.pairwise_cons.2 ⟨fun a ha=>by have:=(h2 a ha).1; show i<a.i; omega,h4⟩
theorem obs_all:∀{R:List Stp},obsOf R→eqsOk (qsOf R)→∀a∈R,obP a.δ.ob∧eqsOk a.q
 | [],_,_,a,h=>by cases h
 | b::r,ho,hq,a,h=>by
  obtain⟨q1,q2⟩:=eqsOk_append hq;have:obP b.δ.ob∧obsOf r:=by
   simp only[obsOf] at ho;cases hb:b.δ.ob with
   | none=>rw[hb] at ho; exact⟨trivial,ho⟩
   | some p=>rw[hb] at ho; exact ho
  cases h with
  | head=>exact⟨this.1,q1⟩
  | tail _ h=>exact obs_all this.2 q2 a h
theorem pairs_all:∀{R:List Stp},pairsOk all R=true→R.Pairwise (fun a b=>(edgeB b.o a.i=true∨noConf all a b=true)∨depB all 4 b.o a.i=true)∧∀a∈R,∀e∈a.o.after,Region.binds .any e=true→e.on<a.i
 | [],_=>⟨List.Pairwise.nil,by simp⟩
 | a::r,h=>by
  simp only[pairsOk,Bool.and_eq_true,List.all_eq_true,Bool.or_eq_true,Bool.not_eq_true'] at h;obtain⟨⟨h1,h2⟩,h3⟩:=h;obtain⟨g1,g2⟩:=pairs_all h3;refine⟨List.pairwise_cons.2 ⟨h1,g1⟩,fun b hb e he hbi=>?_⟩;cases hb with
  | head=>
   rcases h2 e (by simpa using he) with h | h
   ·rw[hbi] at h; cases h
   ·exact Nat.le_of_ble_eq_true h
  | tail _ hb=>exact g2 b hb e he hbi
end
end Go.Mx
namespace Go.Mx
set_option linter.unusedVariables false
set_option linter.unusedSimpArgs false
theorem WG.flat {W:Wd} {k k':List KI} {l:List (Nat×ED)} {f:List (Nat×EObj)} {os:List (Option EObj)} (hf:flatK 64 k=k') (h:WG W k' l f os):WG W k l f os:=by
 subst hf; exact WS.flat (n:=64) h
section
variable {W : Wd} {k k' : List KI} {l : List (Nat × ED)} {f : List (Nat × EObj)} {os : List (Option EObj)}
theorem WG.cond {c:Operand} {x y:Code} {b:Bool} (hf:flatK 64 k=.code (.cond c x y)::k') (hc:evO W.X.G (mkE l) c=.d (.v (.bool b)))
  (h1:b=true→WG W (.code x::k') l f os) (h2:b=false→WG W (.code y::k') l f os):WG W k l f os:=
 WG.flat hf fun hlen=>AW.cond (t:=b) (by rw[evO_D W.X.hG,hc]; rfl) (fun h=>h1 h hlen) (fun h=>h2 h hlen)
theorem WG.condP {c:Operand} {x y:Code} {p:Prop} [Decidable p] (hf:flatK 64 k=.code (.cond c x y)::k') (hc:evO W.X.G (mkE l) c=.d (.v (.bool (decide p))))
  (h1:p→WG W (.code x::k') l f os) (h2:¬p→WG W (.code y::k') l f os):WG W k l f os:=
 WG.cond hf hc (fun h=>h1 (of_decide_eq_true h)) (fun h=>h2 (of_decide_eq_false h))
def fogAt (fogs:List Nat) (t:Nat) (e:ED):ED:=match fogs.any (Nat.beq t) with
 | true=>fogE e
 | false=>e
theorem fogAt_wk {κ:Pl→Key} {fogs:List Nat} {t:Nat} {e:ED}:Wk (e.D κ) ((fogAt fogs t e).D κ):=by
 unfold fogAt;split
 ·exact fogE_wk e
 ·exact Wk.refl _
def lessE (fogs:List Nat) (ρ:Nat→ED) (live:List Nat):List ED:=live.map fun t=>fogAt fogs t (ρ t)
theorem less_wk {κ:Pl→Key} {fogs:List Nat} {ρ:Nat→ED}:∀{l:List (Nat×ED)},lessE fogs ρ (l.map Prod.fst)=l.map Prod.snd→∀t,Wk ((ρ t).D κ) ((mkE l t).D κ)
 | [],_,t=>Wk.any _
 | (u,e)::r,h,t=>by
  simp only[lessE,List.map_cons,List.cons.injEq] at h;simp only[mkE,updE];cases hb:Nat.beq t u with
  | true=>
   have:=Nat.eq_of_beq_eq_true hb;subst this;simp only;rw[← h.1]; exact fogAt_wk
  | false=>exact less_wk h.2 t
theorem WG.less (fogs:List Nat) (l':List (Nat×ED)) (he:lessE fogs (mkE l) (l'.map Prod.fst)=l'.map Prod.snd) (hk:WG W k l' f os):WG W k l f os:=
 fun hlen=>AW.weak (less_wk he) (hk hlen)
def iterM {σ ρ:Type}:Nat→(σ→Option (ρ⊕σ))→σ→Option ρ
 | 0,_,_=>none
 | n+1,step,s=>(step s).bind fun r=>match r with
  | .inl r=>some r
  | .inr s'=>iterM n step s'
def LoopJ (W:Wd) {σ:Type} (env:σ→List (Nat×ED)) (fr:σ→List (Nat×EObj)) (low:σ→List (Option EObj)) (I:Nat→σ→Prop) (n:Nat):Env→St→Prop:=
 fun ρ st=>∃j,j<n∧∃s,I j s∧(low s).length=W.ks.length∧ρ=envD W.κ (mkE (env s))∧st=stD W.κ W.low (fr s) (low s)
theorem WG.loop {c:Code} {σ:Type} (hf:flatK 64 k=.code (.loop c)::k') (env:σ→List (Nat×ED)) (fr:σ→List (Nat×EObj)) (low:σ→List (Option EObj)) (I:Nat→σ→Prop) (n:Nat) (s:σ) (h0:I n s) (fogs:List Nat)
  (he:lessE fogs (mkE l) ((env s).map Prod.fst)=(env s).map Prod.snd) (h1:f=fr s) (h2:os=low s)
  (round:∀n s,I n s→WG W (.code c::.goal (LoopJ W env fr low I n)::k') (env s) (fr s) (low s)):WG W k l f os:=by
 refine WG.flat hf ?_;subst h1; subst h2;refine WG.less fogs (env s) he fun hlen=>?_;refine AW.loop (ι:=Nat×σ) (fun i ρ st=>I i.1 i.2∧(low i.2).length=W.ks.length∧ρ=envD W.κ (mkE (env i.2))∧st=stD W.κ W.low (fr i.2) (low i.2)) (fun i=>i.1) (n,s) ⟨h0,hlen,rfl,rfl⟩ ?_;rintro ⟨n,s⟩ ρ st _ ⟨g1,g2,g3,g4⟩;subst g3; subst g4;have:=round n s g1 g2;intro B cx a w hB hl' he' hr;refine Code.wp_mono (fun e a' w' h=>?_) (this B cx a w hB hl' he' hr);cases e with
 | normal=>
  obtain⟨ρ',st',cx',⟨j,hj,s',h1,h2,h3,h4⟩,hl2,hr2,he2⟩:=h;exact⟨ρ',st',cx',⟨(j,s'),hj,h1,h2,h3,h4⟩,hl2,hr2,he2⟩
 | _=>exact h
theorem WG.next {σ:Type} {env:σ→List (Nat×ED)} {fr:σ→List (Nat×EObj)} {low:σ→List (Option EObj)} {I:Nat→σ→Prop} {n:Nat} (hf:flatK 64 k=.goal (LoopJ W env fr low I n)::k') (j:Nat) (hj:j<n) (s:σ) (hI:I j s) (fogs:List Nat)
  (he:lessE fogs (mkE l) ((env s).map Prod.fst)=(env s).map Prod.snd) (h1:f=fr s) (h2:os=low s):WG W k l f os:=by
 subst h1; subst h2;exact WG.flat hf (WG.less fogs _ he fun hlen=>AW.goal ⟨j,hj,s,hI,hlen,rfl,rfl⟩)
theorem iter_round {σ ρ:Type} {n:Nat} {step:σ→Option (ρ⊕σ)} {s:σ} {o:ρ} (h:iterM n step s=some o):∃m,n=m+1∧((step s).bind fun r=>match r with
  | .inl r=>some r
  | .inr s'=>iterM m step s')=some o:=by
 cases n with
 | zero=>cases h
 | succ m=>exact⟨m,rfl,h⟩
def forI {α σ ρ:Type} (step:σ→Nat→α→Option (ρ⊕σ)):Nat→List α→σ→Option (ρ⊕σ)
 | _,[],s=>some (.inr s)
 | i,x::l,s=>(step s i x).bind fun r=>match r with
  | .inl r=>some (.inl r)
  | .inr s'=>forI step (i+1) l s'
def forL {α σ:Type} (step:σ→Nat→α→Option σ):Nat→List α→σ→Option σ
 | _,[],s=>some s
 | i,x::l,s=>(step s i x).bind fun s'=>forL step (i+1) l s'
theorem bnd {α β:Type} {o:Option α} {g:α→Option β} {r:β} (h:o.bind g=some r):∃x,o=some x∧g x=some r:=by
 cases o with
 | none=>cases h
 | some x=>exact⟨x,rfl,h⟩
theorem iteP {α:Type} {p:Prop} [Decidable p] {a b r:α} (hp:p) (h:(if p then a else b)=r):a=r:=by rwa [if_pos hp] at h
theorem iteN {α:Type} {p:Prop} [Decidable p] {a b r:α} (hp:¬p) (h:(if p then a else b)=r):b=r:=by rwa [if_neg hp] at h
theorem drop_cons' {α:Type} {xs l:List α} {i:Nat} (h:xs.drop i=l) (hi:i<xs.length):∃x r,l=x::r∧xs[i]? = some x∧xs.drop (i+1)=r:=by
 refine⟨xs[i],xs.drop (i+1),?_,List.getElem?_eq_getElem hi,rfl⟩;rw[← h]; exact List.drop_eq_getElem_cons hi
theorem drop_nil' {α:Type} {xs l:List α} {i:Nat} (h:xs.drop i=l) (hi:¬i<xs.length):l=[]:=by
 rw[← h]; exact List.drop_eq_nil_of_le (by omega)
theorem WG.slLen (t:Nat) {z:Nat} {xs:List (List KD)} (h:slE (mkE l t)=some (z,xs)) (hk:xs.length≤9223372036854775807→WG W k l f os):WG W k l f os:=fun hlen=>by
 obtain⟨tok,htok⟩:=slE_D (κ:=W.κ) h;have hx:ev W.X.E (envD W.κ (mkE l)) (.tmp t)=.sl z tok (KD.DLL xs):=htok;exact AW.slLen hx fun hb=>hk (by rw[DLL_length] at hb; exact hb) hlen
end
end Go.Mx
namespace Go.Mx
set_option linter.unusedVariables false
set_option linter.unusedSimpArgs false
def Pl.okU (n:Nat) (u:Option Nat):Pl→Bool
 | .own v=>match u with
  | some w=>!(Nat.beq v w)
  | none=>false
 | .low i=>Nat.blt i n
mutual
def ED.okU (n:Nat) (u:Option Nat):ED→Bool
 | .d _=>true
 | .ptr p _=>p.okU n u
 | .el p _ _ _=>p.okU n u
 | .gs p _ _=>p.okU n u
 | .sb p _=>p.okU n u
 | .vs p _ _=>p.okU n u
 | .ve p _ _ _ _=>p.okU n u
 | .clo _ a b=>okUL n u a&&okUL n u b
 | .tup ds=>okUL n u ds
 | .agg cs=>okUL n u cs
def okUL (n:Nat) (u:Option Nat):List ED→Bool
 | []=>true
 | e::r=>e.okU n u&&okUL n u r
end
def EObj.okU (n:Nat) (u:Option Nat):EObj→Bool
 | .cells cs=>okUL n u cs
 | _=>true
def okUF (n:Nat) (u:Option Nat):List (Nat×EObj)→Bool
 | []=>true
 | p::r=>p.2.okU n u&&okUF n u r
section
variable {ks : List Key} {low : List (Option AObj) → St} {L : Nat}
theorem okU_key (hl:Low ks low) (hL:∀os,(low os).length=L) {n:Nat} (hn:n=ks.length) {u:Nat} {p:Pl} (h:p.okU n (some u)=true):notKey L u (kap L ks p)=true:=by
 cases p with
 | own v=>
  simp only[Pl.okU,Bool.not_eq_true'] at h;exact notKey_spec.2 (fun e=>by simp only[kap,Prod.mk.injEq,true_and] at e; subst e; simp at h)
 | low i=>
  have hi:i<n:=Nat.le_of_ble_eq_true h;have e:ks[i]? = some (ks[i]'(by omega)):=List.getElem?_eq_getElem (by omega);rw[kap_low e];have:=hl.lt [] i _ e;rw[hL] at this;exact notKey_spec.2 (fun e'=>by rw[e'] at this; simp at this)
theorem okU_lv (hl:Low ks low) (hL:∀os,(low os).length=L) {n:Nat} (hn:n=ks.length) {p:Pl} (h:p.okU n none=true):lv L (kap L ks p)=true∧kap L ks p=kap 0 ks p:=by
 cases p with
 | own v=>cases h
 | low i=>
  have hi:i<n:=Nat.le_of_ble_eq_true h;have e:ks[i]? = some (ks[i]'(by omega)):=List.getElem?_eq_getElem (by omega);rw[kap_low e,kap_low e];have:=hl.lt [] i _ e;rw[hL] at this;exact⟨by simp[lv,this],rfl⟩
mutual
theorem okU_all {q:Key→Bool} {κ:Pl→Key} {n:Nat} {u:Option Nat} (hp:∀p:Pl,p.okU n u=true→q (κ p)=true):∀e:ED,e.okU n u=true→(e.D κ).all q=true
 | .d x,_=>KD.keyless q x
 | .ptr p o,h=>hp p h
 | .el p z i o,h=>hp p h
 | .gs p z xs,h=>by simp only[ED.D,D.all,Tok.all,Bool.and_eq_true]; exact⟨hp p h,KD.keylessLL q xs⟩
 | .sb p m,h=>hp p h
 | .vs p z m,h=>hp p h
 | .ve p z m i o,h=>hp p h
 | .clo g a b,h=>by simp only[ED.okU,Bool.and_eq_true] at h; simp only[ED.D,D.all,Bool.and_eq_true]; exact⟨okUL_all hp a h.1,okUL_all hp b h.2⟩
 | .tup ds,h=>by simp only[ED.D,D.all]; exact okUL_all hp ds h
 | .agg ds,h=>by simp only[ED.D,D.all]; exact okUL_all hp ds h
theorem okUL_all {q:Key→Bool} {κ:Pl→Key} {n:Nat} {u:Option Nat} (hp:∀p:Pl,p.okU n u=true→q (κ p)=true):∀l:List ED,okUL n u l=true→allL q (ED.DL κ l)=true
 | [],_=>rfl
 | e::r,h=>by simp only[okUL,Bool.and_eq_true] at h; simp only[ED.DL,allL,Bool.and_eq_true]; exact⟨okU_all hp e h.1,okUL_all hp r h.2⟩
end
mutual
theorem okU_same {κ κ':Pl→Key} {n:Nat} {u:Option Nat} (hp:∀p:Pl,p.okU n u=true→κ p=κ' p):∀e:ED,e.okU n u=true→e.D κ=e.D κ'
 | .d x,_=>rfl
 | .ptr p o,h=>by simp only[ED.D,hp p h]
 | .el p z i o,h=>by simp only[ED.D,hp p h]
 | .gs p z xs,h=>by simp only[ED.D,hp p h]
 | .sb p m,h=>by simp only[ED.D,hp p h]
 | .vs p z m,h=>by simp only[ED.D,hp p h]
 | .ve p z m i o,h=>by simp only[ED.D,hp p h]
 | .clo g a b,h=>by simp only[ED.okU,Bool.and_eq_true] at h; simp only[ED.D,okUL_same hp a h.1,okUL_same hp b h.2]
 | .tup ds,h=>by simp only[ED.D,okUL_same hp ds h]
 | .agg ds,h=>by simp only[ED.D,okUL_same hp ds h]
theorem okUL_same {κ κ':Pl→Key} {n:Nat} {u:Option Nat} (hp:∀p:Pl,p.okU n u=true→κ p=κ' p):∀l:List ED,okUL n u l=true→ED.DL κ l=ED.DL κ' l
 | [],_=>rfl
 | e::r,h=>by simp only[okUL,Bool.and_eq_true] at h; simp only[ED.DL,okU_same hp e h.1,okUL_same hp r h.2]
end
end
def delF {α:Type}:List (Nat×α)→Nat→List (Nat×α)
 | [],_=>[]
 | (u,p)::r,t=>match Nat.beq u t with
  | true=>delF r t
  | false=>(u,p)::delF r t
theorem fA_del {κ:Pl→Key}:∀(f:List (Nat×EObj)) (u:Nat),fA κ (delF f u)=delL (fA κ f) u
 | [],u=>rfl
 | (v,p)::r,u=>by
  simp only[fA,delF,List.map_cons,delL];cases h:Nat.beq v u with
  | true=>simp only[if_true]; exact fA_del r u
  | false=>simp only[List.map_cons,Bool.false_eq_true,if_false,List.cons.injEq,true_and]; exact fA_del r u
def lD (κ:Pl→Key) (l:List (Nat×ED)):List (Nat×D):=l.map fun p=>(p.1,p.2.D κ)
theorem mkE_env {κ:Pl→Key}:∀l:List (Nat×ED),envD κ (mkE l)=mkEnv (lD κ l)
 | []=>rfl
 | (t,e)::r=>by
  simp only[mkE,lD,List.map_cons,mkEnv,updE_D,mkE_env r]
def okUE (n:Nat) (u:Option Nat):List (Nat×ED)→Bool
 | []=>true
 | p::r=>p.2.okU n u&&okUE n u r
theorem okUE_all {κ:Pl→Key} {q:Key→Bool} {n:Nat} {u:Option Nat} (hp:∀p:Pl,p.okU n u=true→q (κ p)=true):∀l:List (Nat×ED),okUE n u l=true→allE q (lD κ l)=true
 | [],_=>rfl
 | p::r,h=>by
  simp only[okUE,Bool.and_eq_true] at h;have:=okUE_all hp r h.2;simp only[lD] at this;simp only[lD,List.map_cons,allE,this,Bool.and_true];exact okU_all hp p.2 h.1
theorem okUF_all {κ:Pl→Key} {q:Key→Bool} {n:Nat} {u:Option Nat} (hp:∀p:Pl,p.okU n u=true→q (κ p)=true):∀l:List (Nat×EObj),okUF n u l=true→allF q (fA κ l)=true
 | [],_=>rfl
 | (t,o)::r,h=>by
  simp only[okUF,Bool.and_eq_true] at h;have ih:=okUF_all hp r h.2;cases o with
  | cells cs=>
   show(allL q (ED.DL κ cs)&&allF q (fA κ r))=true;rw[ih,okUL_all hp cs h.1]; rfl
  | tok n e=>exact ih
  | rows z xs=>
   show(allL q (KD.DLL xs).flatten&&allF q (fA κ r))=true;rw[ih,KDL_flatten,KD.keylessL q]; rfl
  | vec e z xs=>
   show(allL q (KD.DLL xs).flatten&&allF q (fA κ r))=true;rw[ih,KDL_flatten,KD.keylessL q]; rfl
theorem WkE_refl {ρ:Env}:∀{l:List (Nat×D)},(∀p∈l,ρ p.1=p.2)→WkE ρ l
 | [],_=>.nil
 | (t,d)::r,h=>.same (h _ (List.mem_cons_self)) (WkE_refl fun p hp=>h p (List.mem_cons_of_mem _ hp))
section
variable {W : Wd} {k k' : List KI} {l : List (Nat × ED)} {f : List (Nat × EObj)} {os : List (Option EObj)}
theorem WG.drop (u:Nat) (h1:okUE os.length (some u) l=true) (h2:okUF os.length (some u) (delF f u)=true) (hk:WG W k l (delF f u) os):WG W k l f os:=fun hlen=>by
 have hp:∀p:Pl,p.okU os.length (some u)=true→notKey W.L u (W.κ p)=true:=fun p hp=>okU_key W.hl W.hL hlen hp;show AW W.X.E W.U k W.F (envD W.κ (mkE l)) (mkFr (fA W.κ f)::W.low (osA W.κ os));have hL:=W.hL (osA W.κ os);have h2':=okUF_all hp _ h2;have h1':=okUE_all hp _ h1;have:=hk hlen;have:AW W.X.E W.U k W.F (envD W.κ (mkE l)) (mkFr (fA W.κ (delF f u))::W.low (osA W.κ os)):=this;rw[mkE_env] at this ⊢;rw[fA_del] at this h2';rw[← hL] at h1' h2';refine AW.drop (l:=lD W.κ l) u h1' ?_ (by rw[mkFr_del]; exact this);rw[mkFr_del];exact FrAll.ok h2'
def outE (n:Nat):ED→Option ED
 | .gs (.own _) z xs=>some (.d (.sl z false xs))
 | .d (.sl z _ xs)=>some (.d (.sl z false xs))
 | e=>match e.okU n none with
  | true=>some e
  | false=>none
def outL (n:Nat):List ED→Option (List ED)
 | []=>some []
 | e::r=>match outE1 n e,outL n r with
  | some x,some y=>some (x::y)
  | _,_=>none
where
 outE1 (n:Nat):ED→Option ED
 | .agg cs=>match outC n cs with
  | some c=>some (foldE c)
  | none=>none
 | .d (.agg ks)=>some (.d (.agg (ks.map fog1K)))
 | e=>outE n e
 outC (n:Nat):List ED→Option (List ED)
 | []=>some []
 | e::r=>match outE n e,outC n r with
  | some x,some y=>some (x::y)
  | _,_=>none
end
end Go.Mx
namespace Go.Mx
open Go.ChangeShapes Go.WideShapes Go.ChangeAt Go.RowKit
set_option linter.unusedVariables false
set_option linter.unusedSimpArgs false
section
variable {H : Type} {enc : TypeId × Value → H} {P : Program} {w : World} {sp : Nat → Bool} {held : Bool} {cx : Cx} {α : Type}
def Op (enc:TypeId×Value→H) (P:Program) (w:World) (sp:Nat→Bool) (held:Bool) (cx:Cx) (n:Nat) (t:TypeId) (f:α→List D) (ok:α→Prop):Prop:=
 ∀fuel,fuel≤n→∀cs x,DataW.trod enc P w 0 sp held fuel t cs=some x→∃a,ok a∧RdL cx w (f a) cs
theorem RdL.one {d:D} {x:Value} (h:Rd cx w d x):RdL cx w [d] [x]:=⟨rfl,fun j d' y hd hy=>by
 cases j with
 | zero=>simp at hd hy; subst hd; subst hy; exact h
 | succ j=>simp at hd⟩
theorem RdL.append {a b:List D} {u v:List Value} (h:RdL cx w a u) (k:RdL cx w b v):RdL cx w (a++b) (u++v):=⟨by simp[h.1,k.1],fun j d x hd hx=>by
 have hl:=h.1;by_cases hj:j<a.length
 ·rw[List.getElem?_append_left hj] at hd;rw[List.getElem?_append_left (by omega)] at hx;exact h.2 j d x hd hx
 ·rw[List.getElem?_append_right (by omega)] at hd;rw[List.getElem?_append_right (by omega),← hl] at hx;exact k.2 _ d x hd hx⟩
theorem Op.mono {n m:Nat} (hnm:m≤n) {t:TypeId} {f:α→List D} {ok:α→Prop} (h:Op enc P w sp held cx n t f ok):Op enc P w sp held cx m t f ok:=
 fun fuel hf cs x hx=>h fuel (Nat.le_trans hf hnm) cs x hx
theorem Op.int {n:Nat} {t:TypeId} {k:IntKind} (ht:P.underlying t=some (.int k)):Op enc P w sp held cx n t (fun i=>[.v (.int k i)]) (fun i=>(Lit.int k i).wf=true):=fun fuel _ cs x h=>by
 obtain⟨i,rfl,_,hw⟩:=DataW.trod_int ht h;exact⟨i,hw,.one (.v _)⟩
theorem Op.string {n:Nat} {t:TypeId} (ht:P.underlying t=some .string):Op enc P w sp held cx n t (fun i=>[.v (.string i)]) (fun i=>i.size≤maxLen):=fun fuel _ cs x h=>by
 obtain⟨i,rfl,_,hs⟩:=DataW.trod_string ht h;exact⟨i,hs,.one (.v _)⟩
theorem pick_range {p:Nat→α→Prop}:∀(n:Nat),(∀i,i<n→∃a,p i a)→∃l:List α,l.length=n∧∀(i:Nat) a,l[i]? = some a→p i a
 | 0,_=>⟨[],rfl,by simp⟩
 | n+1,h=>by
  obtain⟨l,h1,h2⟩:=pick_range n (fun i hi=>h i (by omega));obtain⟨a,ha⟩:=h n (by omega);refine⟨l++[a],by simp[h1],fun i b hi=>?_⟩;by_cases hin:i<l.length
  ·rw[List.getElem?_append_left hin] at hi; exact h2 i b hi
  ·rw[List.getElem?_append_right (by omega)] at hi;have:i-l.length=0:=by
    rcases Nat.eq_zero_or_pos (i-l.length) with h' | h'
    ·exact h'
    ·rw[List.getElem?_eq_none (by simp; omega)] at hi; cases hi
   rw[this] at hi; simp at hi; subst hi;have:i=n:=by omega
   rw[this]; exact ha
theorem Op.slice {n:Nat} {t e:TypeId} {sz:Nat} {f:α→List D} {ok:α→Prop} (hM:∀b o,¬cx.M b o) (ht:P.underlying t=some (.slice e)) (hc:P.cellsOf e=sz) (hsz:0<sz) (hf:∀a,(f a).length=sz) (h:Op enc P w sp held cx n e f ok) :
  Op enc P w sp held cx (n+1) t (fun l:List α=>[.sl sz .ro (l.map f)]) (fun l=>l.length≤maxLen∧∀a∈l,ok a):=fun fuel hfu cs x hx=>by
 rcases DataW.trod_slice ht hx with ⟨rfl,_⟩ | ⟨a,len,cap,elems,rest,m,rfl,rfl,_,hb,hl,hm,hlen,hel,_,_⟩
 ·exact⟨[],⟨by simp,by simp⟩,.one (.sl (0,0) (fun _ _=>undef) (by simp) (by unfold maxLen; omega) (by simp) (by simp) (by simp) (by simp) trivial)⟩
 ·have hi:∀i,i<len→∃b,ok b∧∃cells,w.cells? 0 (a.add (i*sz)) sz=some cells∧RdL cx w (f b) cells:=fun i hi=>by
   have h1:=hel i hi;rw[hc] at h1;have h2:elems[i]? = some elems[i]:=List.getElem?_eq_getElem (by omega);rw[h2,Option.bind_eq_some_iff] at h1;obtain⟨cells,h3,h4⟩:=h1;obtain⟨b,h5,h6⟩:=h m (by omega) cells _ h4;exact⟨b,h5,cells,h3,h6⟩
  obtain⟨l,h1,h2⟩:=pick_range (p:=fun i b=>ok b∧∃cells,w.cells? 0 (a.add (i*sz)) sz=some cells∧RdL cx w (f b) cells) len hi;refine⟨l,⟨by omega,fun b hb=>?_⟩,.one ?_⟩
  ·obtain⟨i,hi,rfl⟩:=List.getElem_of_mem hb;exact(h2 i _ (List.getElem?_eq_getElem hi)).1
  ·subst h1;have hcell:∀(i j:Nat) cs d,(l.map f)[i]? = some cs→cs[j]? = some d→∃y,w.cell? ((a.add (i*sz)).add j)=some y∧Rd cx w d y:=fun i j cs d hi hj=>by
    rw[List.getElem?_map,Option.map_eq_some_iff] at hi;obtain⟨b,hb,rfl⟩:=hi;obtain⟨_,cells,h3,h4⟩:=h2 i b hb;obtain⟨_,h5,h6⟩:=World.cells?_some h3;have hjl:j<sz:=by have:=(List.getElem?_eq_some_iff.1 hj).1; rw[hf] at this; exact this
    have h7:cells[j]? = some cells[j]:=List.getElem?_eq_getElem (by omega);exact⟨_,(h6 j hjl).trans h7,h4.2 j d _ hj h7⟩
   have hspot:l≠[]→a.spot=none:=fun hne=>by
    have hpos:=List.length_pos_iff.2 hne;have e1:(l.map f)[0]? = some (f l[0]):=by rw[List.getElem?_map,List.getElem?_eq_getElem hpos]; rfl
    have hlt:0<(f l[0]).length:=by rw[hf]; exact hsz
    obtain⟨d0,e2⟩:∃d,(f l[0])[0]? = some d:=⟨_,List.getElem?_eq_getElem hlt⟩
    obtain⟨y,hy,_⟩:=hcell 0 0 _ _ e1 e2;cases hs:a.spot with
    | none=>rfl
    | some s=>
     rw[Nat.zero_mul] at hy;have e0:(a.add 0).add 0=a:=by simp[Addr.add]
     rw[e0] at hy;simp only[World.cell?,hs] at hy;split at hy <;> simp at hy
   have hadd:l≠[]→∀i j,(a.add (i*sz)).add j=⟨a.block,a.off+i*sz+j,none⟩:=fun hne i j=>by
    have hs:=hspot hne;obtain⟨b,o,s⟩:=a;simp only at hs; subst hs;rw[addr_add,addr_add]
   have hlm:(l.map f).length=l.length:=by simp
   rw[← hlm];refine .sl (a.block,a.off) (fun i j=>(w.cell? ⟨a.block,a.off+i*sz+j,none⟩).getD undef) (by simpa using hl) hm (fun i cs hi=>?_) (fun hne=>?_) (fun i j cs d hi hj=>?_) (fun i j cs d hi hj=>?_) trivial
   ·rw[List.getElem?_map,Option.map_eq_some_iff] at hi;obtain⟨b,hb,rfl⟩:=hi;exact hf b
   ·have hs:=hspot (fun h=>hne (by rw[h]; rfl));obtain⟨b,o,s⟩:=a;simp only at hs; subst hs; rfl
   ·have hne:l≠[]:=fun h=>by rw[h] at hi; simp at hi
    obtain⟨y,hy,_⟩:=hcell i j cs d hi hj;rw[hadd hne] at hy;simp only[hy];exact⟨rfl,hM _ _⟩
   ·have hne:l≠[]:=fun h=>by rw[h] at hi; simp at hi
    obtain⟨y,hy,hr⟩:=hcell i j cs d hi hj;rw[hadd hne] at hy;simp only[hy];exact hr
theorem Op.field {n m:Nat} {t:TypeId} {f:α→List D} {ok:α→Prop} (h:Op enc P w sp held cx n t f ok) (hm:m≤n) {cs:List Value} {xs:List (DataW H×List MemPlace)} {i:Nat} (hx:DataW.trod enc P w 0 sp held m t cs=xs[i]?) (hi:i<xs.length) :
  ∃a,ok a∧RdL cx w (f a) cs:=by
 rw[List.getElem?_eq_getElem hi] at hx;exact h m hm cs _ hx
end
structure FormTy (P:Program) (tf ts ti tk tn:TypeId):Prop where
 int:P.underlying tn=some (.int .i64)
 str:P.underlying ts=some .string
 ints:P.underlying ti=some (.slice tn)
 c1:P.cellsOf tn=1
 cs:P.cellsOf ts=1
 ci:P.cellsOf ti=1
 ck:P.cellsOf tk=1
 kids:P.underlying tk=some (.slice tf)
 c5:P.cellsOf tf=5
 form:∃f0 f1 f2 f3 f4:Field,P.underlying tf=some (.struct #[f0,f1,f2,f3,f4])∧(f0.type,f0.offset)=(tn,0)∧(f1.type,f1.offset)=(ts,1)∧(f2.type,f2.offset)=(tn,2)∧(f3.type,f3.offset)=(ti,3)∧(f4.type,f4.offset)=(tk,4)
structure CoreTy (P:Program) (tc tck tf ts ti tk tn:TypeId):Prop where
 f:FormTy P tf ts ti tk tn
 kids:P.underlying tck=some (.slice tc)
 ck:P.cellsOf tck=1
 c11:P.cellsOf tc=11
 core:∃f0 f1 f2 f3 f4 f5 f6:Field,P.underlying tc=some (.struct #[f0,f1,f2,f3,f4,f5,f6])∧(f0.type,f0.offset)=(tn,0)∧(f1.type,f1.offset)=(tn,1)∧(f2.type,f2.offset)=(ts,2)∧(f3.type,f3.offset)=(tn,3)∧(f4.type,f4.offset)=(ti,4)∧(f5.type,f5.offset)=(tf,5)∧(f6.type,f6.offset)=(tck,10)
section
variable {H : Type} {enc : TypeId × Value → H} {P : Program} {w : World} {sp : Nat → Bool} {held : Bool} {cx : Cx}
theorem okForms_of {l:List Form} (h:∀a∈l,okForm a):okForms l:=by
 induction l with
 | nil=>simp only[okForms]
 | cons f r ih=>simp only[okForms]; exact⟨h f (by simp),ih fun a ha=>h a (by simp[ha])⟩
theorem okCores_of {l:List Core} (h:∀a∈l,okCore a):okCores l:=by
 induction l with
 | nil=>simp only[okCores]
 | cons f r ih=>simp only[okCores]; exact⟨h f (by simp),ih fun a ha=>h a (by simp[ha])⟩
theorem op_form (hM:∀b o,¬cx.M b o) {tf ts ti tk tn:TypeId} (T:FormTy P tf ts ti tk tn):∀n,Op enc P w sp held cx n tf cForm okForm
 | 0=>fun fuel hf cs x hx=>by
  have:fuel=0:=by omega
  subst this; simp[DataW.trod] at hx
 | n+1=>fun fuel hf cs x hx=>by
  have ih:=op_form hM T n;obtain⟨f0,f1,f2,f3,f4,hu,e0,e1,e2,e3,e4⟩:=T.form;simp only[Prod.mk.injEq] at e0 e1 e2 e3 e4;obtain⟨xs,m,rfl,_,hl,hxl,hall⟩:=DataW.trod_struct hu hx;rw[T.c5] at hl;simp only[List.size_toArray,List.length_cons,List.length_nil] at hxl;have hmn:m≤n:=by omega
  have g0:=hall 0 f0 rfl;have g1:=hall 1 f1 rfl;have g2:=hall 2 f2 rfl;have g3:=hall 3 f3 rfl;have g4:=hall 4 f4 rfl;rw[e0.1,e0.2,T.c1] at g0;rw[e1.1,e1.2,T.cs] at g1;rw[e2.1,e2.2,T.c1] at g2;rw[e3.1,e3.2,T.ci] at g3;rw[e4.1,e4.2,T.ck] at g4;obtain⟨k,_,r0⟩:=(Op.int (cx:=cx) (n:=n) T.int).field hmn g0 (by omega);obtain⟨nm,hnm,r1⟩:=(Op.string (cx:=cx) (n:=n) T.str).field hmn g1 (by omega);obtain⟨nn,_,r2⟩:=(Op.int (cx:=cx) (n:=n) T.int).field hmn g2 (by omega);obtain⟨sc,_,r3⟩:=((Op.slice hM T.ints T.c1 (by omega) (fun _=>rfl) (Op.int (cx:=cx) (n:=n) T.int)).mono (m:=n) (by omega)).field hmn g3 (by omega);obtain⟨kids,hk,r4⟩:=((Op.slice hM T.kids T.c5 (by omega) (fun _=>rfl) ih).mono (m:=n) (by omega)).field hmn g4 (by omega)
  match cs,hl,r0,r1,r2,r3,r4 with
  | [a,b,c,d,e],_,r0,r1,r2,r3,r4=>
   refine⟨⟨k,nm,nn,sc,kids⟩,?_,?_⟩
   ·rw[okForm_eq]; exact⟨hnm,okForms_of hk.2⟩
   ·have:=r0.append (r1.append (r2.append (r3.append r4)));unfold cForm;rw[formsD_eq];exact this
theorem op_core (hM:∀b o,¬cx.M b o) {tc tck tf ts ti tk tn:TypeId} (T:CoreTy P tc tck tf ts ti tk tn):∀n,Op enc P w sp held cx n tc cCore okCore
 | 0=>fun fuel hf cs x hx=>by
  have:fuel=0:=by omega
  subst this; simp[DataW.trod] at hx
 | n+1=>fun fuel hf cs x hx=>by
  have ih:=op_core hM T n;obtain⟨f0,f1,f2,f3,f4,f5,f6,hu,e0,e1,e2,e3,e4,e5,e6⟩:=T.core;simp only[Prod.mk.injEq] at e0 e1 e2 e3 e4 e5 e6;obtain⟨xs,m,rfl,_,hl,hxl,hall⟩:=DataW.trod_struct hu hx;rw[T.c11] at hl;simp only[List.size_toArray,List.length_cons,List.length_nil] at hxl;have hmn:m≤n:=by omega
  have g0:=hall 0 f0 rfl;have g1:=hall 1 f1 rfl;have g2:=hall 2 f2 rfl;have g3:=hall 3 f3 rfl;have g4:=hall 4 f4 rfl;have g5:=hall 5 f5 rfl;have g6:=hall 6 f6 rfl;rw[e0.1,e0.2,T.f.c1] at g0;rw[e1.1,e1.2,T.f.c1] at g1;rw[e2.1,e2.2,T.f.cs] at g2;rw[e3.1,e3.2,T.f.c1] at g3;rw[e4.1,e4.2,T.f.ci] at g4;rw[e5.1,e5.2,T.f.c5] at g5;rw[e6.1,e6.2,T.ck] at g6;obtain⟨k,_,r0⟩:=(Op.int (cx:=cx) (n:=n) T.f.int).field hmn g0 (by omega);obtain⟨id,_,r1⟩:=(Op.int (cx:=cx) (n:=n) T.f.int).field hmn g1 (by omega);obtain⟨nm,hnm,r2⟩:=(Op.string (cx:=cx) (n:=n) T.f.str).field hmn g2 (by omega);obtain⟨nn,_,r3⟩:=(Op.int (cx:=cx) (n:=n) T.f.int).field hmn g3 (by omega);obtain⟨sc,_,r4⟩:=((Op.slice hM T.f.ints T.f.c1 (by omega) (fun _=>rfl) (Op.int (cx:=cx) (n:=n) T.f.int)).mono (m:=n) (by omega)).field hmn g4 (by omega);obtain⟨dt,hdt,r5⟩:=(op_form hM T.f n).field hmn g5 (by omega);obtain⟨kids,hk,r6⟩:=((Op.slice hM T.kids T.c11 (by omega) (fun _=>rfl) ih).mono (m:=n) (by omega)).field hmn g6 (by omega)
  match cs,hl,r0,r1,r2,r3,r4,r5,r6 with
  | [a,b,c,d,e,f,g,h,i,j,l],_,r0,r1,r2,r3,r4,r5,r6=>
   refine⟨⟨k,id,nm,nn,sc,dt,kids⟩,?_,?_⟩
   ·rw[okCore_eq]; exact⟨hnm,hdt,okCores_of hk.2⟩
   ·have:=r0.append (r1.append (r2.append (r3.append (r4.append (r5.append r6)))));unfold cCore;rw[coresD_eq];exact this
end
def cx0:Cx:={ bx:=fun _=>none,tk:=fun _=>none,M:=fun _ _=>False,Z:=fun _ _=>False }
theorem rel0 {E:Setting} {w:World} (hg:∀g,Rd cx0 w (E.G g) (.pointer (some ⟨g,0,none⟩))):Rel E cx0 [] w where
 cells k cs h:=by simp[St.get] at h
 vec k n e z cs h:=by simp[St.get] at h
 tok k ob n e h:=by simp[St.get] at h
 foot k b o h:=by rcases h with ⟨cs,o0,h1,_⟩ | ⟨ob,n,e,c,z,⟨h1,_⟩,_⟩ <;> simp[St.get] at h1
 sep k k' b o h:=by rcases h with ⟨cs,o0,h1,_⟩ | ⟨ob,n,e,c,z,⟨h1,_⟩,_⟩ <;> simp[St.get] at h1
 domb k l h:=by cases h
 domt k l h:=by cases h
 mlt b o h:=h.elim
 nz k b o h:=by rcases h with ⟨cs,o0,h1,_⟩ | ⟨ob,n,e,c,z,⟨h1,_⟩,_⟩ <;> simp[St.get] at h1
 zm b o h:=h.elim
 bxlt k b o h:=by cases h
 apart k k' b o n e g c z h:=by cases h
 rows k k' n e n' e' g c z c' z' h:=by cases h
 glob:=hg
theorem Ext.below {cx':Cx} {w w':World} {S:Key→Bool} (h:Ext S cx0 w cx' w'):Below w.heap.size w w':=
 ⟨h.os,h.tape,h.output,h.size,fun k hk=>h.block k hk (fun _ h=>h)⟩
end Go.Mx
namespace Go.Mx
open Go.ChangeShapes Go.WideShapes Go.ChangeAt Go.RowKit
section
variable {H : Type} {enc : TypeId × Value → H} {P : Program}
theorem trodAll_stays (hl:laidOutB P=true) {W W':World} {sp':Nat→Bool} (hb:Below W.heap.size W W'):∀{ts:List TypeId} {vs:List Value} {ds:List (DataW H)} {ps:List MemPlace},(∀t∈ts,P.readableRec t=true∧t<P.types.size) →
  DataW.TrodAll enc P W 0 (fun _=>true) true ts vs ds ps→(∀p∈ps,p.block<W.heap.size)→(∀p∈ps,sp' p.block=true)→DataW.TrodAll enc P W' 0 sp' true ts vs ds ps
 | [],_,_,_,_,h,_,_=>by
  obtain⟨rfl,rfl,rfl⟩:=trodAll_nil h;exact h
 | t::ts,_,_,_,ht,h,hlt,hs=>by
  obtain⟨v,vs1,d,ds1,a,b,rfl,rfl,rfl,h1,h2⟩:=trodAll_cons h;refine⟨a,b,WideElems.Trod_stays hl (ht t (by simp)).1 (ht t (by simp)).2 h1 (fun p hp=>hb.same (hlt p (List.mem_append_left _ hp))) (fun p hp=>hs p (List.mem_append_left _ hp)),?_,rfl⟩;exact trodAll_stays hl hb (fun t ht'=>ht t (by simp[ht'])) h2 (fun p hp=>hlt p (List.mem_append_right _ hp)) (fun p hp=>hs p (List.mem_append_right _ hp))
end
end Go.Mx
namespace Go.Mx
open Go.ChangeShapes Go.WideShapes Go.ChangeAt Go.RowKit
set_option linter.unusedVariables false
set_option linter.unusedSimpArgs false
def strData {H:Type} (l:List ByteArray):DataW H:=.agg (l.map fun s=>.lit (.string s.data.toList))
theorem bytes_ext {a b:ByteArray} (h:a.data.toList=b.data.toList):a=b:=by
 obtain⟨⟨a⟩⟩:=a;obtain⟨⟨b⟩⟩:=b;simp only at h;rw[h]
theorem cells_of_strs {H:Type} {enc:TypeId×Value→H} {P:Program} {w:World} {base:Nat} {sp:Nat→Bool} {held:Bool} {fuel:Nat} {t e:TypeId} {n:Nat} {cs:List Value} {l:List ByteArray} {p:List MemPlace}
  (ht:P.underlying t=some (.array n e)) (he:P.underlying e=some .string) (hce:P.cellsOf e=1) (hct:P.cellsOf t=n)
  (h:DataW.trod enc P w base sp held fuel t cs=some (strData l,p)):cs=l.map Value.string:=by
 cases fuel with
 | zero=>simp[DataW.trod] at h
 | succ fuel=>
  simp only[DataW.trod,ht,hce,hct,Nat.mul_one] at h;split at h
  ·rename_i hl;obtain⟨xs,hm,hx⟩:=Option.map_eq_some_iff.1 h;have hxs:xs.map (·.1)=l.map fun s=>(DataW.lit (.string s.data.toList):DataW H):=by
    have:=congrArg Prod.fst hx
    simpa [strData] using this
   have hxl:xs.length=n:=by simpa using Lib.mapM_length hm
   have hzl:l.length=n:=by
    have:=congrArg List.length hxs;simp at this;omega
   apply List.ext_getElem?;intro i;by_cases hi:i<n
   ·obtain⟨b,hb,hf⟩:=Lib.mapM_at hm i i (by simp[hi]);obtain⟨s,hc,rfl,_⟩:=DataW.trod_string he hf;have h1:cs[i]? = some (.string s):=by
     have:=congrArg (·[0]?) hc
     simpa [List.getElem?_take,List.getElem?_drop] using this
    have h2:(xs.map (·.1))[i]? = some (DataW.lit (.string s.data.toList):DataW H):=by simp[hb]
    rw[hxs] at h2;simp only[List.getElem?_map,Option.map_eq_some_iff,DataW.lit.injEq,Lit.string.injEq] at h2;obtain⟨s',hs',h3⟩:=h2;rw[h1,List.getElem?_map,hs',bytes_ext h3];rfl
   ·rw[List.getElem?_eq_none (by omega),List.getElem?_eq_none (by simp; omega)]
  ·cases h
theorem laid_cons {P:Program} {W:World} {name:String} {l:List ByteArray} {rest:List (String×DataW Unit)} {ps:List MemPlace} {g:Nat} {t e:TypeId} {n:Nat}
  (hg:P.globalNamed name=some g) (hty:(P.globals[g]?).map (·.type)=some t) (ht:P.underlying t=some (.array n e)) (he:P.underlying e=some .string) (hce:P.cellsOf e=1) (hct:P.cellsOf t=n)
  (h:DataW.LaidVars P W ((name,strData l)::rest) ps):Rd cx0 W (.ro (strsD l).flatten) (.pointer (some ⟨g,0,none⟩))∧∃q,DataW.LaidVars P W rest q:=by
 obtain⟨g',t',cs,fuel,p,q,hg',ht',hvar,hd,hr,_⟩:=h;obtain rfl:=Option.some.inj (hg.symm.trans hg');obtain rfl:=Option.some.inj (hty.symm.trans ht');have hcs:=cells_of_strs ht he hce hct hd;refine⟨.ro g 0 (fun j=>.string (l.getD j ⟨#[]⟩)) (fun j d hj=>?_) (fun j d hj=>?_),q,hr⟩
 ·obtain⟨c,e1,e2⟩:=flat_inv (by decide:0<1) (strsD_sz l) hj;rw[Nat.div_one,strsD_get,Option.map_eq_some_iff] at e1;obtain⟨s,hs,rfl⟩:=e1;rw[Nat.zero_add];refine⟨?_,fun h=>h⟩;have:=World.var?_cell hg hvar j;rw[this,← Array.getElem?_toList,hcs,List.getElem?_map,hs,List.getD_eq_getElem?_getD,hs]; rfl
 ·obtain⟨c,e1,e2⟩:=flat_inv (by decide:0<1) (strsD_sz l) hj;rw[Nat.div_one,strsD_get,Option.map_eq_some_iff] at e1;obtain⟨s,hs,rfl⟩:=e1;rw[Nat.mod_one] at e2;simp only[List.getElem?_cons_zero,Option.some.injEq] at e2;subst e2;rw[List.getD_eq_getElem?_getD,hs];exact .v _
def rowedVars (P:Program) (ns:List String):Bool:=ns.all fun n=>((P.globalNamed n).bind (P.globals[·]?)).all fun gl=>P.readableRec gl.type&&decide (gl.type<P.types.size)
section
variable {H : Type} {enc : TypeId × Value → H} {P : Program}
theorem trodVars_spare {W':World} {sp':Nat→Bool} (hl:laidOutB P=true) {W:World} (hb:Below W.heap.size W W') :
  ∀{ns:List String} {gs:List (DataW H)} {ps:List MemPlace},rowedVars P ns=true→DataW.TrodVars enc P W (fun _=>true) ns gs ps→(∀p∈ps,p.block<W.heap.size)→(∀p∈ps,sp' p.block=true)→DataW.TrodVars enc P W' sp' ns gs ps
 | [],[],_,_,h,_,_=>h
 | [],_::_,_,_,h,_,_=>h.elim
 | _::_,[],_,_,h,_,_=>h.elim
 | n::ns,d::ds,ps,hv,h,hlt,hs=>by
  obtain⟨g,t,cs,fuel,p,q,h1,h2,h3,h4,h5,e⟩:=h;simp only[rowedVars,List.all_cons,Bool.and_eq_true] at hv;have ht:P.readableRec t=true∧t<P.types.size:=by
   have:=hv.1;rw[h1] at this;cases hg:P.globals[g]? with
   | none=>rw[hg] at h2; cases h2
   | some gl=>
    rw[hg] at h2;obtain rfl:gl.type=t:=Option.some.inj h2
    simpa [hg] using this
  have hp:∀x∈p,x∈ps:=fun x hx=>by rw[e]; simp[hx]
  have hq:∀x∈q,x∈ps:=fun x hx=>by rw[e]; simp[hx]
  have h3':W'.var? P n=some cs:=by
   unfold World.var? at h3 ⊢;rw[h1] at h3 ⊢;simp only[Option.bind_some] at h3 ⊢;have hg:g<W.heap.size:=by
    cases hh:W.heap[g]? with
    | none=>rw[hh] at h3; cases h3
    | some o=>exact(Array.getElem?_eq_some_iff.1 hh).1
   rw[hb.block g hg]; exact h3
  have h4':DataW.Trod enc P W 0 (fun _=>true) true t (.agg cs) d p:=⟨fuel,by simpa [Value.cells] using h4⟩
  obtain⟨fuel',h6⟩:=WideElems.Trod_stays (sp':=sp') hl ht.1 ht.2 h4' (fun x hx=>hb.same (hlt x (hp x hx))) (fun x hx=>hs x (hp x hx));exact⟨g,t,cs,fuel',p,q,h1,h2,h3',by simpa [Value.cells] using h6,trodVars_spare hl hb hv.2 h5 (fun x hx=>hlt x (hq x hx)) (fun x hx=>hs x (hq x hx)),e⟩
theorem post_trueV {f:Func} {s:ChangeSpec} {apart fresh handsOn again:Bool} {W W':World} {args:Array Value} {ds gs:List (DataW H)} {before:List MemPlace} {tb:TypeId}
  (hW:DataW.Whole enc P f.params.toList s.vars apart W args.toList ds gs before) (hrt:f.resultTypes=#[tb]) (htb:P.underlying tb=some .bool) (hv:rowedVars P s.vars=true) (hfn:s.fn H (ds++gs)={ results:=[.lit (.bool true)],args:=ds,vars:=gs })
  (hl:laidOutB P=true) (ht:∀t∈f.params.toList,P.readableRec t=true∧t<P.types.size) (hb:Below W.heap.size W W'):s.post enc P f apart fresh handsOn again W args (.bool true) W':=by
 have hlt:∀x∈before,x.block<W.heap.size:=fun x hx=>by simpa using hW.lt x hx
 have hold:∀p∈before,(fun b=>decide (b<W.heap.size)) p.block=true:=fun p hp=>by simpa using hlt p hp
 have hW0:=hW;obtain⟨pa,pv,hA,hV,hps,hz,hn⟩:=hW;have hpa:∀p∈pa,p∈before:=fun p hp=>by rw[hps]; simp[hp]
 have hpv:∀p∈pv,p∈before:=fun p hp=>by rw[hps]; simp[hp]
 have hargs:∀sp:Nat→Bool,(∀p∈before,sp p.block=true)→DataW.TrodAll enc P W' 0 sp true f.params.toList args.toList (s.fn H (ds++gs)).args pa:=fun sp hsp=>by
  rw[hfn];exact trodAll_stays hl hb ht hA (fun p hp=>hlt p (hpa p hp)) (fun p hp=>hsp p (hpa p hp))
 have hres:∀(b:Nat) (sp:Nat→Bool) (hd:Bool),DataW.TrodAll enc P W' b sp hd f.resultTypes.toList ((Value.bool true).resultList f.resultTypes.size) (s.fn H (ds++gs)).results []:=fun b sp hd=>by
  rw[hfn,hrt];exact trodAll_cons_mk (shut_bool htb _) trodAll_mk0
 have hvars:∀sp:Nat→Bool,(∀p∈before,sp p.block=true)→DataW.TrodVars enc P W' sp s.vars (s.fn H (ds++gs)).vars pv:=fun sp hsp=>by
  rw[hfn];exact trodVars_spare hl hb hv hV (fun p hp=>hlt p (hpv p hp)) (fun p hp=>hsp p (hpv p hp))
 refine⟨ds,gs,before,[],pa,pv,hW0,hres _ _ _,hargs _ hold,hvars _ hold,World.keptBut_mono (fun p hp=>⟨hp,?_⟩) (hb.frame (·∈before)),fun _=>?_⟩
 ·rw[hps] at hp
  simpa using hp
 ·refine⟨ok_one hrt rfl (okWide_bool_mk htb _),_,_,([]++pa)++pv,⟨[]++pa,pv,trodAll_append (hargs _ (fun _ _=>rfl)) (hres _ _ _),hvars _ (fun _ _=>rfl),rfl,?_,?_⟩,?_⟩
  ·intro b off hp;have hmem:MemPlace.cell b off∈before:=by rw[hps]; simpa using hp
   rw[hb.frozen (p:=⟨b,off,none⟩) (hlt _ hmem)];exact hz b off hmem
  ·intro ha;have:=hn ha;rw[hps] at this
   simpa using this
  ·intro p hp _;rw[hps]
   simpa using hp
end
end Go.Mx
namespace Go.Mx
theorem trodVars_len {H:Type} {enc:TypeId×Value→H} {P:Program} {w:World} {sp:Nat→Bool}:∀{ns:List String} {gs:List (DataW H)} {ps:List MemPlace},DataW.TrodVars enc P w sp ns gs ps→gs.length=ns.length
 | [],[],_,_=>rfl
 | [],_::_,_,h=>h.elim
 | _::_,[],_,h=>h.elim
 | _::_,_::_,_,h=>by
  obtain⟨_,_,_,_,_,_,_,_,_,_,h5,_⟩:=h;simp[trodVars_len h5]
end Go.Mx
namespace Go.Mx
set_option linter.unusedVariables false
set_option linter.unusedSimpArgs false
section
variable {κ : Pl → Key} {n : Nat}
theorem outE_wk {e e':ED} (h:outE n e=some e'):Wk (e.D κ) (e'.D κ)∧e'.okU n none=true:=by
 unfold outE at h;split at h
 ·cases h; exact⟨Wk.fog rfl,rfl⟩
 ·rename_i z b xs;cases h;refine⟨?_,rfl⟩;cases b with
  | true=>exact Wk.fog rfl
  | false=>exact Wk.refl _
 ·split at h
  ·rename_i hok; cases h; exact⟨Wk.refl _,hok⟩
  ·cases h
theorem outC_wk:∀{cs:List ED} {cs':List ED},outL.outC n cs=some cs'→(ED.DL κ cs').length=(ED.DL κ cs).length∧(∀(j:Nat) a b,(ED.DL κ cs)[j]? = some a→(ED.DL κ cs')[j]? = some b→Wk a b)∧okUL n none cs'=true
 | [],cs',h=>by simp only[outL.outC,Option.some.injEq] at h; subst h; exact⟨rfl,by simp[ED.DL],rfl⟩
 | e::r,cs',h=>by
  simp only[outL.outC] at h;split at h
  ·rename_i x y hx hy;cases h;obtain⟨h1,h2,h3⟩:=outC_wk hy;obtain⟨g1,g2⟩:=outE_wk (κ:=κ) hx;refine⟨by simp only[ED.DL,List.length_cons,h1],fun j a b ha hb=>?_,by simp only[okUL,g2,h3,Bool.and_self]⟩;cases j with
   | zero=>simp only[ED.DL,List.getElem?_cons_zero,Option.some.injEq] at ha hb; subst ha; subst hb; exact g1
   | succ j=>exact h2 j a b (by simpa [ED.DL] using ha) (by simpa [ED.DL] using hb)
  ·cases h
theorem foldE_ok {cs:List ED} (h:okUL n none cs=true):(foldE cs).okU n none=true:=by
 unfold foldE;split
 ·rfl
 ·exact h
theorem outE1_wk {e e':ED} (h:outL.outE1 n e=some e'):Wk (e.D κ) (e'.D κ)∧e'.okU n none=true:=by
 unfold outL.outE1 at h;split at h
 ·split at h
  ·rename_i cs c hc;cases h;obtain⟨h1,h2,h3⟩:=outC_wk (κ:=κ) hc;refine⟨?_,foldE_ok h3⟩;rw[foldE_D];exact Wk.aggL h1 h2
  ·cases h
 ·rename_i ks;cases h;exact⟨fog2K_wk (.agg ks),rfl⟩
 ·exact outE_wk h
theorem outL_wk:∀{ds:List ED} {ds':List ED},outL n ds=some ds'→(ED.DL κ ds').length=(ED.DL κ ds).length∧(∀(j:Nat) a b,(ED.DL κ ds)[j]? = some a→(ED.DL κ ds')[j]? = some b→Wk a b)∧okUL n none ds'=true
 | [],cs',h=>by simp only[outL,Option.some.injEq] at h; subst h; exact⟨rfl,by simp[ED.DL],rfl⟩
 | e::r,cs',h=>by
  simp only[outL] at h;split at h
  ·rename_i x y hx hy;cases h;obtain⟨h1,h2,h3⟩:=outL_wk hy;obtain⟨g1,g2⟩:=outE1_wk (κ:=κ) hx;refine⟨by simp only[ED.DL,List.length_cons,h1],fun j a b ha hb=>?_,by simp only[okUL,g2,h3,Bool.and_self]⟩;cases j with
   | zero=>simp only[ED.DL,List.getElem?_cons_zero,Option.some.injEq] at ha hb; subst ha; subst hb; exact g1
   | succ j=>exact h2 j a b (by simpa [ED.DL] using ha) (by simpa [ED.DL] using hb)
  ·cases h
end
def evRes (T:TypeId→Option (Nat×Nat×Shp)) (ρ:Nat→ED) (f:List (Nat×EObj)) (os:List (Option EObj)):List ResultVar→Option (List ED)
 | []=>some []
 | .tmp t::r=>match evRes T ρ f os r with
  | some ds=>some (ρ t::ds)
  | none=>none
 | .cell b ty::r=>
  match T ty,ρ b,evRes T ρ f os r with
  | some (n,_,s),.ptr p 0,some ds=>
   match getP f os p with
   | some (.cells cs)=>match s.agg with
    | true=>match Nat.beq cs.length n with
     | true=>some (.agg cs::ds)
     | false=>none
    | false=>match cs[0]? with
     | some d=>some (d::ds)
     | none=>none
   | _=>none
  | _,_,_=>none
def resE:List ED→ED
 | [d]=>d
 | ds=>.tup ds
def unO:List (Option EObj)→Option (List EObj)
 | []=>some []
 | some o::r=>(unO r).map (o::·)
 | none::r=>none
def okUO (n:Nat):List EObj→Bool
 | []=>true
 | o::r=>o.okU n none&&okUO n r
def evRet (T:TypeId→Option (Nat×Nat×Shp)) (rs:List ResultVar) (ρ:Nat→ED) (f:List (Nat×EObj)) (os:List (Option EObj)):Option (ED×List EObj):=
 match evRes T ρ f os rs with
 | some ds=>match outL os.length ds,unO os with
  | some ds',some outs=>match okUO os.length outs with
   | true=>some (resE ds',outs)
   | false=>none
  | _,_=>none
 | none=>none
theorem evRes_ok {E:Setting} {T:Tb E.P} {ks:List Key} {low:List (Option AObj)→St} {L:Nat} (hl:Low ks low) (hL:∀os,(low os).length=L) {ρ:Nat→ED} {f:List (Nat×EObj)} {os:List (Option EObj)} (hk:os.length=ks.length) :
  ∀{rs:List ResultVar} {ds:List ED},evRes T.t ρ f os rs=some ds→ResR E (envD (kap L ks) ρ) (stD (kap L ks) low f os) rs (ED.DL (kap L ks) ds)
 | [],ds,h=>by cases h; exact .nil
 | .tmp t::r,ds,h=>by
  simp only[evRes] at h;split at h
  ·rename_i ds' hr;cases h;exact .tmp (evRes_ok hl hL hk hr)
  ·cases h
 | .cell b ty::r,ds,h=>by
  simp only[evRes] at h;split at h
  ·rename_i n _ s p ds' hT hb hr;have hr':=evRes_ok hl hL hk hr;have hb':envD (kap L ks) ρ b=.bx (kap L ks p) 0:=by unfold envD; rw[hb]; rfl
   cases hg:getP f os p with
   | none=>rw[hg] at h; cases h
   | some o=>
    rw[hg] at h;cases o with
    | tok=>cases h
    | rows=>cases h
    | vec=>cases h
    | cells cs=>
     have hp:=(getP_st hl (hL _) hk hg).1;simp only at h;split at h
     ·rename_i hs;split at h
      ·rename_i hn;cases h;have hn:=Nat.eq_of_beq_eq_true hn;exact .cellS (T.ht _ _ hT) hs hb' hp (by rw[DL_length]; exact hn) hr'
      ·cases h
     ·rename_i hs;split at h
      ·rename_i d hd;cases h;exact .cell1 (T.ht _ _ hT) hs hb' hp (by rw[DL_get,hd]; rfl) hr'
      ·cases h
  ·cases h
theorem resE_wk {κ:Pl→Key}:∀{ds ds':List ED},(ED.DL κ ds').length=(ED.DL κ ds).length→(∀(j:Nat) a b,(ED.DL κ ds)[j]? = some a→(ED.DL κ ds')[j]? = some b→Wk a b)→Wk (resOf (ED.DL κ ds)) ((resE ds').D κ)
 | [],[],_,_=>Wk.refl _
 | [d],[d'],_,h=>h 0 _ _ rfl rfl
 | [],_::_,h,_=>by simp[DL_length] at h
 | _::_,[],h,_=>by simp[DL_length] at h
 | [_],_::_::_,h,_=>by simp[DL_length] at h
 | _::_::_,[_],h,_=>by simp[DL_length] at h
 | d::e::r,d'::e'::r',h1,h2=>Wk.tupL h1 h2
theorem resE_ok {n:Nat}:∀{ds:List ED},okUL n none ds=true→(resE ds).okU n none=true
 | [],_=>rfl
 | [d],h=>by simp only[okUL,Bool.and_true] at h; exact h
 | d::e::r,h=>h
theorem unO_some:∀{os:List (Option EObj)} {outs:List EObj},unO os=some outs→os=outs.map some
 | [],outs,h=>by cases h; rfl
 | some o::r,outs,h=>by
  simp only[unO,Option.map_eq_some_iff] at h;obtain⟨q,hq,rfl⟩:=h;rw[unO_some hq]; rfl
 | none::r,outs,h=>by cases h
theorem okUO_same {κ κ':Pl→Key} {n:Nat} (hp:∀p:Pl,p.okU n none=true→κ p=κ' p):∀{outs:List EObj},okUO n outs=true→osA κ (outs.map some)=osA κ' (outs.map some)
 | [],_=>rfl
 | o::r,h=>by
  simp only[okUO,Bool.and_eq_true] at h;have ih:=okUO_same hp h.2;simp only[osA,List.map_cons,Option.map_some] at ih ⊢;rw[ih];congr 2;cases o with
  | cells cs=>simp only[EObj.A,okUL_same hp cs h.1]
  | tok=>rfl
  | rows=>rfl
  | vec=>rfl
section
variable {W : Wd} {k k' : List KI} {l : List (Nat × ED)} {f : List (Nat × EObj)} {os : List (Option EObj)}
theorem WG.ret {rs:List ResultVar} {d:ED} {outs:List EObj} (hf:flatK 64 k=.code .ret::k') (hr:W.fn.results.toList=rs) (he:evRet W.X.T.t rs (mkE l) f os=some (d,outs))
  (hK:W.F (d.D (kap 0 W.ks)) (W.low (osA (kap 0 W.ks) (outs.map some)))):WG W k l f os:=WG.flat hf fun hlen=>by
 unfold evRet at he;split at he
 ·rename_i ds hds;split at he
  ·rename_i ds' outs' ho hu;split at he
   ·rename_i hok;cases he;obtain⟨w1,w2,w3⟩:=outL_wk (κ:=W.κ) ho;have hos:=unO_some hu;have hp:∀p:Pl,p.okU os.length none=true→W.κ p=kap 0 W.ks p:=fun p hp=>(okU_lv W.hl W.hL hlen hp).2;have hp2:∀p:Pl,p.okU os.length none=true→lv W.L (W.κ p)=true:=fun p hp=>(okU_lv W.hl W.hL hlen hp).1;have hres:=evRes_ok (T:=W.X.T) W.hl W.hL hlen hds;have hL:=W.hL (osA W.κ os);refine AW.retR (U:=W.U) (F:=W.F) (d':=(resE ds').D W.κ) (by rw[show W.U.fn.results.toList=rs from hr]; exact hres) (resE_wk w1 w2) ?_ ?_
    ·rw[hL]; exact okU_all hp2 _ (resE_ok w3)
    ·have e1:(resE ds').D W.κ=(resE ds').D (kap 0 W.ks):=okU_same hp _ (resE_ok w3);have e2:osA W.κ os=osA (kap 0 W.ks) (outs.map some):=by
      rw[hos] at hok hp ⊢;exact okUO_same hp hok
     rw[e1,e2]; exact hK
   ·cases he
  ·cases he
 ·cases he
theorem WG.fin {outs:List EObj} (hf:flatK 64 k=[]) (hr:W.fn.results.toList=[]) (he:unO os=some outs) (hok:okUO os.length outs=true)
  (hK:W.F (.tup []) (W.low (osA (kap 0 W.ks) (outs.map some)))):WG W k l f os:=WG.flat hf fun hlen=>by
 have hos:=unO_some he;have hp:∀p:Pl,p.okU os.length none=true→W.κ p=kap 0 W.ks p:=fun p hp=>(okU_lv W.hl W.hL hlen hp).2;have e2:osA W.κ os=osA (kap 0 W.ks) (outs.map some):=by
  rw[hos] at hok hp ⊢;exact okUO_same hp hok
 refine AW.nil (ds:=[]) (by show resD _ W.fn.results.toList=_; rw[hr]; rfl) rfl ?_;show W.F (.tup []) (W.low (osA W.κ os));rw[e2]; exact hK
end
theorem SCall.mk {X : Ctx} {g : Nat} {fn : Func} {c : Code} {N : Nat} {args : List ED} {ins : List (Option EObj)} {d : ED} {outs : List EObj} (hf : X.E.P.funcs[g]? = some fn) (hb : fn.body = some c) (hn : (fn.name == "runtime.NumGoroutine") = false) (hN : fn.ntmps = N) (hle : Nat.ble args.length N = true)
  (l:List (Nat×ED)) (hl:(l.map fun p=>args[p.1]?)=l.map fun p=>some p.2) (ha:okUL ins.length none args=true) (hi:okUO ins.length (ins.filterMap id)=true)
  (h:∀(L:Nat) (ks:List Key) (low:List (Option AObj)→St) (K:D→St→Prop) (hl:Low ks low) (hL:∀os,(low os).length=L),ks.length=ins.length→K (d.D (kap 0 ks)) (low (osA (kap 0 ks) (outs.map some)))→WG ⟨X,fn,L,N,ks,low,K,hl,hL⟩ [.code c] l [] ins):SCall X.E g args ins d outs:=by
 refine⟨⟨fn,c,hf,hb,hn⟩,fun ks low K hlow hlen hK=>?_⟩;have hL:∀os,(low os).length=(low []).length:=fun os=>hlow.len os [];have hp:∀p:Pl,p.okU ins.length none=true→kap (low []).length ks p=kap 0 ks p:=fun p hp=>(okU_lv hlow hL hlen.symm hp).2;have hargs:ED.DL (kap 0 ks) args=ED.DL (kap (low []).length ks) args:=(okUL_same hp args ha).symm;have hins:osA (kap 0 ks) ins=osA (kap (low []).length ks) ins:=by
  have:∀(l:List (Option EObj)),okUO ins.length (l.filterMap id)=true→osA (kap 0 ks) l=osA (kap (low []).length ks) l:=fun l=>by
   induction l with
   | nil=>intro _; rfl
   | cons o r ih=>
    intro h;cases o with
    | none=>simp only[List.filterMap_cons,id] at h; have:=ih h; simp only[osA,List.map_cons,Option.map_none] at this ⊢; rw[this]
    | some o=>
     simp only[List.filterMap_cons,id,okUO,Bool.and_eq_true] at h;have:=ih h.2;have ho:o.A (kap 0 ks)=o.A (kap (low []).length ks):=by
      cases o with
      | cells cs=>simp only[EObj.A,okUL_same hp cs h.1]
      | tok=>rfl
      | rows=>rfl
      | vec=>rfl
     simp only[osA,List.map_cons,Option.map_some,ho] at this ⊢;rw[this]
  exact this ins hi
 rw[hargs,hins];refine acallE hf hb hN (by rw[DL_length]; exact hle) (l:=lD (kap (low []).length ks) l) (WkE_refl fun p hp'=>?_) fun L hLe _=>?_
 ·obtain⟨q,hq,rfl⟩:=List.mem_map.1 hp';have:args[q.1]? = some q.2:=by
   have h0:=hl;clear hp' h
   induction l with
   | nil=>cases hq
   | cons a r ih=>
    simp only[List.map_cons,List.cons.injEq] at h0;cases hq with
    | head=>exact h0.1
    | tail _ hq=>exact ih h0.2 hq h0.2
  simp only[enter,DL_get,this,Option.map_some,Option.getD_some]
 ·have hLL:L=(low []).length:=by rw[← hLe]; exact hL _
  subst hLL;have:=h (low []).length ks low K hlow hL hlen hK hlen.symm;rw[← mkE_env];exact this
end Go.Mx
namespace Go.Mx
set_option linter.unusedVariables false
set_option linter.unusedSimpArgs false
theorem Rel.noTok {E:Setting} {cx:Cx} {st:St} {w:World} (r:Rel E cx st w) {key:Key} (h:st.get key=none):cx.tk key=none∧cx.bx key=none:=by
 constructor
 ·cases ht:cx.tk key with
  | none=>rfl
  | some l=>obtain⟨_,n,e,hg,_⟩:=r.domt key l ht; rw[h] at hg; cases hg
 ·cases ht:cx.bx key with
  | none=>rfl
  | some l=>obtain⟨n,hg⟩:=r.domb key l ht; rw[h] at hg; cases hg
theorem Rel.ghost {E:Setting} {cx:Cx} {st:St} {w:World} (r:Rel E cx st w) {key:Key} (hlt:key.1<st.length) (hg:st.get key=none) (n:Nat) (e:TypeId) :
  ∃cx',Rel E cx' (st.set key (some (.tok n e))) w∧Ext (fun _=>true) cx w cx' w∧cx'.tk key=some (n,e,none):=by
 have h0:=(r.noTok hg).1;obtain⟨h1,h2⟩:=r.tokStep hlt (fun cs h=>by rw[hg] at h; cases h) (n:=n) (e:=e) (tl:=none) (w':=w) (M':=cx.M) (fun n0 l0 h=>by rw[h0] at h; cases h) rfl rfl rfl (Nat.le_refl _) (fun _ _ _=>rfl) (fun _ _ _ _=>rfl) (fun _ _ h=>.inl h) (fun b o h=>r.mlt b o h) (fun b o h=>r.zm b o h) (fun _ _ _=>rfl)
  (fun _ _ _ h=>by cases h) (fun k b o _ hf=>⟨rfl,rfl,(r.foot k b o hf).2.2⟩) (fun _ _ _ _ _ _ _ _=>rfl) (fun _ _ _ h=>by cases h)
 exact⟨_,h1,h2,if_pos rfl⟩
theorem Rd.own {cx cx':Cx} {w:World} {sz:Nat} {xs:List (List D)} {v:Value} {key:Key} {e:TypeId} (h:Rd cx' w (.sl sz .full xs) v) (hk:cx'.tk key=some (xs.length,e,none)):Rd cx' w (.sl sz (.own key) xs) v:=by
 cases h with
 | sl A vs h1 h2 h3 h4 h5 h6 h7=>exact .sl A vs h1 h2 h3 h4 h5 h6 ⟨_,e,none,hk,Nat.le_refl _,fun _=>h7⟩
section
variable {W : Wd} {k k' : List KI} {l : List (Nat × ED)} {f : List (Nat × EObj)} {os : List (Option EObj)}
theorem WG.own (t u:Nat) (e:TypeId) {z:Nat} {xs:List (List KD)} (ht:mkE l t=.d (.sl z true xs)) (hu:getF f u=none) (l':List (Nat×ED)) (he:(l'.map Prod.fst).map (updE (mkE l) t (.gs (.own u) z xs))=l'.map Prod.snd)
  (hk:WG W k l' (setF f u (.tok xs.length e)) os):WG W k l f os:=fun hlen=>by
 have hL:=W.hL (osA W.κ os);intro B cx a w hB hl' hex hr;have hg:=getP_none (ks:=W.ks) (low:=W.low) (os:=os) W.hl hL hu;have hkey:(W.L,u).1<(stD W.κ W.low f os).length:=by simp[stD,hL]
 obtain⟨cx',r1,r2,r3⟩:=hr.rel.ghost (key:=(W.L,u)) hkey hg xs.length e;have hst:(stD W.κ W.low f os).set (W.L,u) (some (.tok xs.length e))=stD W.κ W.low (setF f u (.tok xs.length e)) os:=putP_stV (p:=.own u) (o':=.tok xs.length e) W.hl hL hlen rfl;have r1:Rel W.X.E cx' ((stD W.κ W.low f os).set (W.L,u) (some (AObj.tok xs.length e))) w:=r1;rw[hst] at r1;have hlen2:(stD W.κ W.low (setF f u (.tok xs.length e)) os).length=(stD W.κ W.low f os).length:=by simp[stD]
 refine hk hlen B cx' a w hB (by show(stD _ _ _ _).length=_; rw[hlen2]; exact hl') (hex.trans (r2.weaken fun _ _=>rfl)) ⟨r1,hr.size,fun v=>?_,hr.defers⟩;refine mkE_map he v _ _ _ ?_;have hv:=(hr.tmps v).mono r2 (RelF.ext.all_true _);unfold updE;cases hb:Nat.beq v t with
 | false=>exact hv
 | true=>
  have:=Nat.eq_of_beq_eq_true hb;subst this;have hv:Rd cx' w ((mkE l v).D W.κ) (a.tmps.getD v undef):=hv;rw[ht] at hv;refine Rd.own (cx:=cx') (e:=e) hv ?_;rw[DLL_length]; exact r3
end
end Go.Mx
namespace Go.Ev
open Go.Mx (KD ED EObj Idx Idy ApOk SlOk RowsOk allK1)
set_option linter.unusedVariables false
set_option linter.unusedSimpArgs false
structure Form where
 kind:Int
 name:List UInt8
 n:Int
 scopes:List Int
 kids:List Form
structure Core where
 kind:Int
 id:Int
 name:List UInt8
 n:Int
 ids:List Int
 data:Form
 kids:List Core
def kInt (i:Int):List KD:=[.v (.int .i64 i)]
def kStr (s:List UInt8):List KD:=[.s s]
def kByte (y:UInt8):List KD:=[.v (.int .u8 y.toNat)]
def ksInt (l:List Int):List (List KD):=l.map kInt
def ksStr (l:List (List UInt8)):List (List KD):=l.map kStr
def ksByte (l:List UInt8):List (List KD):=l.map kByte
mutual
def formK:Form→List KD
 | ⟨k,nm,n,sc,kids⟩=>[.v (.int .i64 k),.s nm,.v (.int .i64 n),.sl 1 false (ksInt sc),.sl 5 false (ksForm kids)]
def ksForm:List Form→List (List KD)
 | []=>[]
 | f::r=>formK f::ksForm r
end
def kForm (f:Form):List KD:=[.v (.int .i64 f.kind),.s f.name,.v (.int .i64 f.n),.sl 1 false (ksInt f.scopes),.sl 5 false (ksForm f.kids)]
mutual
def coreK:Core→List KD
 | ⟨k,id,nm,n,ids,dt,kids⟩=>[.v (.int .i64 k),.v (.int .i64 id),.s nm,.v (.int .i64 n),.sl 1 false (ksInt ids),.v (.int .i64 dt.kind),.s dt.name,.v (.int .i64 dt.n),.sl 1 false (ksInt dt.scopes),.sl 5 false (ksForm dt.kids),.sl 11 false (ksCore kids)]
def ksCore:List Core→List (List KD)
 | []=>[]
 | f::r=>coreK f::ksCore r
end
def kCore (c:Core):List KD:=[.v (.int .i64 c.kind),.v (.int .i64 c.id),.s c.name,.v (.int .i64 c.n),.sl 1 false (ksInt c.ids),.v (.int .i64 c.data.kind),.s c.data.name,.v (.int .i64 c.data.n),.sl 1 false (ksInt c.data.scopes),.sl 5 false (ksForm c.data.kids),.sl 11 false (ksCore c.kids)]
structure Kd {α:Type} (k:α→List KD) (ks:List α→List (List KD)) (sz:Nat):Prop where
 eq:∀l,ks l=l.map k
 one:∀x,allK1 (k x)=true
 len:∀x,(k x).length=sz
theorem dInt:Kd kInt ksInt 1:=⟨fun _=>rfl,fun _=>rfl,fun _=>rfl⟩
theorem dStr:Kd kStr ksStr 1:=⟨fun _=>rfl,fun _=>rfl,fun _=>rfl⟩
theorem ksForm_eq:∀l:List Form,ksForm l=l.map kForm
 | []=>rfl
 | ⟨k,nm,n,sc,kids⟩::r=>by simp only[ksForm,List.map_cons,ksForm_eq r]; rfl
theorem dForm:Kd kForm ksForm 5:=⟨ksForm_eq,fun _=>rfl,fun _=>rfl⟩
theorem ksCore_eq:∀l:List Core,ksCore l=l.map kCore
 | []=>rfl
 | ⟨_,_,_,_,_,_,_⟩::r=>by simp only[ksCore,List.map_cons,ksCore_eq r]; rfl
theorem dCore:Kd kCore ksCore 11:=⟨ksCore_eq,fun _=>rfl,fun _=>rfl⟩
abbrev w64 (x:Int):Int:=IntKind.i64.wrap x
def atI {α:Type} (l:List α) (i:Int):Option α:=if 0≤i then l[i.toNat]? else none
def apB {α:Type} (be:Nat) (l ys:List α):Option (List α):=if(l.length+ys.length)*be≤140737488355328 then some (l++ys) else none
def slI {α:Type} (l:List α) (a b:Int):Option (List α):=if 0≤a∧a≤b∧b≤l.length then some ((l.drop a.toNat).take (b.toNat-a.toNat)) else none
def catS (a b:List UInt8):Option (List UInt8):=if a.length+b.length≤9223372036854775807 then some (a++b) else none
def quoI (a b:Int):Option Int:=if b≠0 then some (w64 (a.tdiv b)) else none
def remI (a b:Int):Option Int:=if b≠0 then some (a.tmod b) else none
section
variable {α : Type} {k : α → List KD} {ks : List α → List (List KD)} {sz : Nat}
theorem Kd.length (h:Kd k ks sz) (l:List α):(ks l).length=l.length:=by rw[h.eq]; simp
theorem atI_some {l:List α} {i:Int} {x:α} (h:atI l i=some x):0≤i∧l[i.toNat]? = some x:=by
 unfold atI at h;split at h
 ·rename_i h0; exact⟨h0,h⟩
 ·cases h
theorem Kd.idx (h:Kd k ks sz) {l:List α} {i:Int} {x:α} (hx:atI l i=some x):Idx i (ks l) (k x):=by
 obtain⟨h0,h1⟩:=atI_some hx;exact⟨h0,by rw[h.eq,List.getElem?_map,h1]; rfl⟩
theorem Kd.idn (h:Kd k ks sz) {l:List α} {i:Nat} {x:α} (hx:l[i]? = some x):Idx (i:Int) (ks l) (k x):=
 ⟨Int.natCast_nonneg i,by rw[h.eq,Int.toNat_natCast,List.getElem?_map,hx]; rfl⟩
theorem idy {l:List UInt8} {i:Int} {y:UInt8} (hx:atI l i=some y):Idy i l y:=atI_some hx
theorem Kd.ap (h:Kd k ks sz) {be:Nat} {l ys zs:List α} (hx:apB be l ys=some zs):ApOk be (ks l).length (ks ys)∧ks l++ks ys=ks zs:=by
 unfold apB at hx;split at hx
 ·rename_i hb;cases hx;refine⟨⟨fun cs hc=>?_,by rw[h.length,h.length]; exact hb⟩,by rw[h.eq,h.eq,h.eq,List.map_append]⟩;rw[h.eq] at hc;obtain⟨x,_,rfl⟩:=List.mem_map.1 hc;exact h.one x
 ·cases hx
theorem slS {l zs:List UInt8} {a b:Int} (hx:slI l a b=some zs):SlOk a b l.length∧(l.drop a.toNat).take (b.toNat-a.toNat)=zs:=by
 unfold slI at hx;split at hx
 ·rename_i hb;cases hx;exact⟨hb,rfl⟩
 ·cases hx
theorem cat_ok {a b z:List UInt8} (hx:catS a b=some z):a.length+b.length≤9223372036854775807∧a++b=z:=by
 unfold catS at hx;split at hx
 ·rename_i hb; cases hx; exact⟨hb,rfl⟩
 ·cases hx
theorem quo_ok {a b y:Int} (hx:quoI a b=some y):b≠0∧IntKind.i64.wrap (a.tdiv b)=y:=by
 unfold quoI at hx;split at hx
 ·rename_i hb; cases hx; exact⟨hb,rfl⟩
 ·cases hx
theorem rem_ok {a b y:Int} (hx:remI a b=some y):b≠0∧a.tmod b=y:=by
 unfold remI at hx;split at hx
 ·rename_i hb; cases hx; exact⟨hb,rfl⟩
 ·cases hx
theorem Kd.lit (h:Kd k ks sz) (l:List α):l.map k=ks l:=(h.eq l).symm
theorem Kd.rows (h:Kd k ks sz) (l:List α):RowsOk sz (ks l):=fun cs hc=>by
 rw[h.eq] at hc;obtain⟨x,_,rfl⟩:=List.mem_map.1 hc;exact h.len x
end
theorem wn {i:Nat} (h:i+1≤9223372036854775807):IntKind.i64.wrap ((i:Int)+1)=((i+1:Nat):Int):=by
 rw[IntKind.wrap_i64]; omega
end Go.Ev
namespace Go.Mx
set_option linter.unusedVariables false
set_option linter.unusedSimpArgs false
section
variable {W : Wd} {k k' : List KI} {l : List (Nat × ED)} {f : List (Nat × EObj)} {os : List (Option EObj)} {α σ ρ : Type}
def IL (xs:List α) (run:Nat→List α→σ→Prop) (n:Nat) (t:Nat×σ×List α):Prop:=t.2.2.length=n∧xs.drop t.1=t.2.2∧t.1≤xs.length∧run t.1 t.2.2 t.2.1
abbrev ListJ (W:Wd) (env:Nat→σ→List (Nat×ED)) (fr:Nat→σ→List (Nat×EObj)) (low:Nat→σ→List (Option EObj)) (xs:List α) (run:Nat→List α→σ→Prop) (n:Nat):Env→St→Prop:=
 LoopJ W (σ:=Nat×σ×List α) (fun t=>env t.1 t.2.1) (fun t=>fr t.1 t.2.1) (fun t=>low t.1 t.2.1) (IL xs run) n
theorem WG.list {c:Code} {xs:List α} {s0:σ} {run:Nat→List α→σ→Prop} (h:run 0 xs s0) (hf:flatK 64 k=.code (.loop c)::k') (env:Nat→σ→List (Nat×ED)) (fr:Nat→σ→List (Nat×EObj)) (low:Nat→σ→List (Option EObj)) (fogs:List Nat)
  (he:lessE fogs (mkE l) ((env 0 s0).map Prod.fst)=(env 0 s0).map Prod.snd) (h1:f=fr 0 s0) (h2:os=low 0 s0)
  (round:∀i s q,xs.drop i=q→i≤xs.length→run i q s→WG W (.code c::.goal (ListJ W env fr low xs run q.length)::k') (env i s) (fr i s) (low i s)):WG W k l f os:=by
 refine WG.loop hf (fun t:Nat×σ×List α=>env t.1 t.2.1) (fun t=>fr t.1 t.2.1) (fun t=>low t.1 t.2.1) (IL xs run) xs.length (0,s0,xs) ⟨rfl,rfl,Nat.zero_le _,h⟩ fogs he h1 h2 ?_;rintro n ⟨i,s,q⟩ ⟨g1,g2,g3,g4⟩;subst g1;exact round i s q g2 g3 g4
theorem WG.nextL {env:Nat→σ→List (Nat×ED)} {fr:Nat→σ→List (Nat×EObj)} {low:Nat→σ→List (Option EObj)} {xs:List α} {run:Nat→List α→σ→Prop} {x:α} {q:List α} (hf:flatK 64 k=.goal (ListJ W env fr low xs run (x::q).length)::k') (i:Nat) (s:σ) (hd:xs.drop i=q) (hi:i≤xs.length) (hr:run i q s) (fogs:List Nat)
  (he:lessE fogs (mkE l) ((env i s).map Prod.fst)=(env i s).map Prod.snd) (h1:f=fr i s) (h2:os=low i s):WG W k l f os:=
 WG.next hf q.length (Nat.lt_succ_self _) (i,s,q) ⟨rfl,hd,hi,hr⟩ fogs he h1 h2
abbrev IterJ (W:Wd) (env:σ→List (Nat×ED)) (fr:σ→List (Nat×EObj)) (low:σ→List (Option EObj)) (step:σ→Option (ρ⊕σ)) (o:ρ) (n:Nat):Env→St→Prop:=
 LoopJ W env fr low (fun n s=>iterM n step s=some o) n
theorem WG.iter {c:Code} {step:σ→Option (ρ⊕σ)} {n:Nat} {s0:σ} {o:ρ} (h:iterM n step s0=some o) (hf:flatK 64 k=.code (.loop c)::k') (env:σ→List (Nat×ED)) (fr:σ→List (Nat×EObj)) (low:σ→List (Option EObj)) (fogs:List Nat)
  (he:lessE fogs (mkE l) ((env s0).map Prod.fst)=(env s0).map Prod.snd) (h1:f=fr s0) (h2:os=low s0)
  (round:∀n s,iterM (n+1) step s=some o→WG W (.code c::.goal (IterJ W env fr low step o (n+1))::k') (env s) (fr s) (low s)):WG W k l f os:=by
 refine WG.loop hf env fr low (fun n s=>iterM n step s=some o) n s0 h fogs he h1 h2 ?_;intro n s hi;obtain⟨m,rfl,hm⟩:=iter_round hi;exact round m s hi
theorem WG.nextI {env:σ→List (Nat×ED)} {fr:σ→List (Nat×EObj)} {low:σ→List (Option EObj)} {step:σ→Option (ρ⊕σ)} {o:ρ} {n:Nat} (hf:flatK 64 k=.goal (IterJ W env fr low step o (n+1))::k') (s:σ) (hr:iterM n step s=some o) (fogs:List Nat)
  (he:lessE fogs (mkE l) ((env s).map Prod.fst)=(env s).map Prod.snd) (h1:f=fr s) (h2:os=low s):WG W k l f os:=
 WG.next hf n (Nat.lt_succ_self _) s hr fogs he h1 h2
end
def lkT {α:Type}:List (Nat×α)→Nat→Option α
 | [],_=>none
 | (i,a)::r,t=>match Nat.beq i t with
  | true=>some a
  | false=>lkT r t
def allT {α:Type} (p:Nat→α→Prop):List (Nat×α)→Prop
 | []=>True
 | (i,a)::r=>p i a∧allT p r
theorem lk_all {α:Type} {p:Nat→α→Prop}:∀{l:List (Nat×α)},allT p l→∀i a,lkT l i=some a→p i a
 | [],_,i,a,h=>by cases h
 | (j,b)::r,hp,i,a,h=>by
  simp only[lkT] at h;split at h
  ·rename_i hj;have:=Nat.eq_of_beq_eq_true hj;subst this;cases h; exact hp.1
  ·exact lk_all hp.2 i a h
end Go.Mx
namespace Go.Ev
theorem Kd.len' {α:Type} {k:α→List Go.Mx.KD} {ks:List α→List (List Go.Mx.KD)} {sz:Nat} (h:Kd k ks sz) (l:List α):(((ks l).length:Nat):Int)=(l.length:Int):=by rw[h.length]
end Go.Ev
namespace Go.Mx
set_option linter.unusedVariables false
set_option linter.unusedSimpArgs false
def seqS {ω τ:Type} (X:Option (ω⊕τ)) (R:τ→Option ω):Option ω:=
 X.bind fun o=>match o with
  | .inl w=>some w
  | .inr t=>R t
theorem seqS_some {ω τ:Type} {X:Option (ω⊕τ)} {R:τ→Option ω} {r:ω} (h:seqS X R=some r):∃o,X=some o∧(∀w,o=.inl w→w=r)∧∀t,o=.inr t→R t=some r:=by
 unfold seqS at h;obtain⟨o,ho,h⟩:=bnd h;refine⟨o,ho,fun w hw=>?_,fun t ht=>?_⟩
 ·subst hw; exact Option.some.inj h
 ·subst ht; exact h
theorem forL_cons {α σ ρ:Type} {step:σ→Nat→α→Option σ} {i:Nat} {x:α} {q:List α} {s:σ} {R:σ→Option ρ} {r:ρ} (h:(forL step i (x::q) s).bind R=some r):∃s',step s i x=some s'∧(forL step (i+1) q s').bind R=some r:=by
 simp only[forL] at h;obtain⟨y,hy,h⟩:=bnd h;obtain⟨s',hs,hy⟩:=bnd hy;exact⟨s',hs,by rw[hy]; exact h⟩
theorem forI_cons {α σ ω:Type} {step:σ→Nat→α→Option (ω⊕σ)} {i:Nat} {x:α} {q:List α} {s:σ} {R:σ→Option ω} {r:ω} (h:seqS (forI step i (x::q) s) R=some r) :
  ∃y,step s i x=some y∧(∀w,y=.inl w→w=r)∧∀s',y=.inr s'→seqS (forI step (i+1) q s') R=some r:=by
 obtain⟨o,ho,h1,h2⟩:=seqS_some h;simp only[forI] at ho;obtain⟨y,hy,ho⟩:=bnd ho;refine⟨y,hy,fun w hw=>?_,fun s' hs=>?_⟩
 ·subst hw;exact h1 w (Option.some.inj ho).symm
 ·subst hs;have ho:forI step (i+1) q s'=some o:=ho;unfold seqS;rw[ho];cases o with
  | inl w=>exact congrArg some (h1 w rfl)
  | inr t=>exact h2 t rfl
theorem iter_cons {σ ω:Type} {step:σ→Option (ω⊕σ)} {n:Nat} {s:σ} {r:ω} (h:iterM (n+1) step s=some r) :
  ∃y,step s=some y∧(∀w,y=.inl w→w=r)∧∀s',y=.inr s'→iterM n step s'=some r:=by
 simp only[iterM] at h;obtain⟨y,hy,h⟩:=bnd h;refine⟨y,hy,fun w hw=>?_,fun s' hs=>?_⟩
 ·subst hw; exact Option.some.inj h
 ·subst hs; exact h
section
variable {W : Wd} {k k' : List KI} {l : List (Nat × ED)} {f : List (Nat × EObj)} {os : List (Option EObj)} {τ ω ρ : Type}
theorem WG.bindP {X:Option τ} {R:τ→Option ρ} {r:ρ} (h:X.bind R=some r) {c:Code} (hf:flatK 64 k=.code c::k') (env:τ→List (Nat×ED)) (fr:τ→List (Nat×EObj)) (low:τ→List (Option EObj))
  (jp:∀t,R t=some r→WG W (flatK 64 k') (env t) (fr t) (low t)) (body:∀t,X=some t→WG W (flatK 64 k') (env t) (fr t) (low t)→WG W (.code c::k') l f os):WG W k l f os:=by
 obtain⟨t,ht,h⟩:=bnd h;exact WG.flat hf (body t ht (jp t h))
theorem WG.leaf {l':List (Nat×ED)} {f':List (Nat×EObj)} {os':List (Option EObj)} (hj:WG W k' l' f' os') (hf:flatK 64 k=k') (fogs:List Nat) (he:lessE fogs (mkE l) (l'.map Prod.fst)=l'.map Prod.snd) (h1:f=f') (h2:os=os'):WG W k l f os:=by
 subst h1; subst h2;exact WG.flat hf (WG.less fogs l' he hj)
end
theorem Rel.reCell {E:Setting} {cx:Cx} {st:St} {w:World} (r:Rel E cx st w) {key:Key} {cs cs':List D} (hk:st.get key=some (.cells cs)) (hlt:key.1<st.length) (hl:cs'.length=cs.length)
  (h:∀(j:Nat) d d' x,cs[j]? = some d→cs'[j]? = some d'→Rd cx w d x→Rd cx w d' x) (hlev:allL (lv (key.1+1)) cs'=true):Rel E cx (st.set key (some (.cells cs'))) w:=by
 have hget:∀q,(st.set key (some (.cells cs'))).get q=if q=key then some (.cells cs') else st.get q:=fun q=>St.get_set hlt
 have hfoot:∀q b o,Mx.foot cx (st.set key (some (.cells cs'))) q b o→Mx.foot cx st q b o:=fun q b o hf=>by
  unfold Mx.foot at hf ⊢;rw[hget] at hf;by_cases hq:q=key
  ·subst hq;rw[if_pos rfl] at hf;rcases hf with ⟨c,o0,h1,h2,h3⟩ | ⟨_,_,_,_,_,⟨h1,h0⟩,_⟩
   ·cases h1; exact .inl ⟨cs,o0,hk,h2,by omega⟩
   ·cases h1; cases h0
  ·rw[if_neg hq] at hf; exact hf
 refine⟨fun q c hq=>?_,fun q n e z c hq=>?_,fun q ob n e hq=>?_,fun q b o hf=>r.foot q b o (hfoot q b o hf),fun q q' b o h1 h2=>r.sep q q' b o (hfoot q b o h1) (hfoot q' b o h2),fun q l hq=>?_,fun q l hq=>?_,r.mlt,fun q b o hf=>r.nz q b o (hfoot q b o hf),r.zm,r.bxlt,r.apart,r.rows,r.glob⟩
 ·rw[hget] at hq;by_cases hqk:q=key
  ·subst hqk;rw[if_pos rfl] at hq;cases hq;obtain⟨_,b,o,h2,h3⟩:=r.cells q cs hk;refine⟨hlev,b,o,h2,fun j d hj=>?_⟩;obtain⟨d0,hd0⟩:=len_get hl.symm hj;obtain⟨x,hx,hrd⟩:=h3 j d0 hd0;exact⟨x,hx,h j d0 d x hd0 hj hrd⟩
  ·rw[if_neg hqk] at hq; exact r.cells q c hq
 ·rw[hget] at hq;by_cases hqk:q=key
  ·subst hqk; rw[if_pos rfl] at hq; cases hq
  ·rw[if_neg hqk] at hq; exact r.vec q n e z c hq
 ·obtain⟨hq,h0⟩:=hq;rw[hget] at hq;by_cases hqk:q=key
  ·subst hqk; rw[if_pos rfl] at hq; cases hq; cases h0
  ·rw[if_neg hqk] at hq; exact r.tok q ob n e ⟨hq,h0⟩
 ·rw[hget];by_cases hqk:q=key
  ·subst hqk; rw[if_pos rfl]; exact⟨_,rfl⟩
  ·rw[if_neg hqk]; exact r.domb q l hq
 ·rw[hget];by_cases hqk:q=key
  ·subst hqk;obtain⟨ob,n,e,h1,h0⟩:=r.domt q l hq;rw[hk] at h1; cases h1; cases h0
  ·rw[if_neg hqk]; exact r.domt q l hq
section
variable {W : Wd} {k k' : List KI} {l : List (Nat × ED)} {f : List (Nat × EObj)} {os : List (Option EObj)}
theorem WG.ownCell (u j v:Nat) (e:TypeId) {z:Nat} {xs:List (List KD)} {cs:List ED} (hu:getF f u=some (.cells cs)) (hj:cs[j]? = some (.d (.sl z true xs))) (hv:getF f v=none) (hne:Nat.beq u v=false) (f':List (Nat×EObj))
  (hf':setF (setF f v (.tok xs.length e)) u (.cells (cs.set j (.gs (.own v) z xs)))=f') (hk:WG W k l f' os):WG W k l f os:=fun hlen=>by
 have hL:=W.hL (osA W.κ os);intro B cx a w hB hl' hex hr;have hg:=getP_none (ks:=W.ks) (low:=W.low) (os:=os) W.hl hL hv;have hkey:(W.L,v).1<(stD W.κ W.low f os).length:=by simp[stD,hL]
 obtain⟨cx',r1,r2,r3⟩:=hr.rel.ghost (key:=(W.L,v)) hkey hg xs.length e;have hst:(stD W.κ W.low f os).set (W.L,v) (some (.tok xs.length e))=stD W.κ W.low (setF f v (.tok xs.length e)) os:=putP_stV (p:=.own v) (o':=.tok xs.length e) W.hl hL hlen rfl;have r1:Rel W.X.E cx' ((stD W.κ W.low f os).set (W.L,v) (some (AObj.tok xs.length e))) w:=r1;rw[hst] at r1;have hgu:getP (setF f v (.tok xs.length e)) os (.own u)=some (.cells cs):=by
  simp only[getP,getF_set];rw[if_neg (fun h=>by subst h; simp at hne)]; exact hu
 obtain⟨c1,c2⟩:=getP_st (ks:=W.ks) W.hl hL hlen hgu;have c1:(stD W.κ W.low (setF f v (.tok xs.length e)) os).get (W.L,u)=some (.cells (ED.DL W.κ cs)):=c1;have hlev:=(r1.cells _ _ c1).1;have hset:∀j',(cs.set j (.gs (.own v) z xs))[j']? = if j=j' then(if j<cs.length then some (.gs (.own v) z xs) else none) else cs[j']?:=fun j'=>by rw[List.getElem?_set]
 have r4:=r1.reCell c1 c2 (cs':=ED.DL W.κ (cs.set j (.gs (.own v) z xs))) (by simp[DL_length]) (fun j' d d' x hd hd' hrd=>by
  rw[DL_get,Option.map_eq_some_iff] at hd hd';obtain⟨a1,h1,rfl⟩:=hd;obtain⟨a2,h2,rfl⟩:=hd';rw[hset] at h2;by_cases hjj:j=j'
  ·subst hjj;rw[hj] at h1; cases h1;rw[if_pos rfl] at h2;split at h2
   ·cases h2;exact Rd.own (cx:=cx') (e:=e) hrd (by rw[DLL_length]; exact r3)
   ·cases h2
  ·rw[if_neg hjj] at h2;rw[h1] at h2; cases h2; exact hrd) (by
  have hall:∀(c:List ED),allL (lv (W.L+1)) (ED.DL W.κ c)=true↔∀x∈c,(x.D W.κ).all (lv (W.L+1))=true:=fun c=>by
   induction c with
   | nil=>simp[ED.DL,allL]
   | cons a r ih=>simp only[ED.DL,allL,Bool.and_eq_true,ih,List.forall_mem_cons]
  have h0:=(hall cs).1 hlev;refine(hall _).2 fun x hx=>?_;rcases List.mem_or_eq_of_mem_set hx with h | h
  ·exact h0 x h
  ·subst h;simp only[ED.D,D.all,Tok.all,Bool.and_eq_true];exact⟨by show lv (W.L+1) (W.L,v)=true; simp[lv],KD.keylessLL _ _⟩)
 have hst2:(stD W.κ W.low (setF f v (.tok xs.length e)) os).set (W.L,u) (some (.cells (ED.DL W.κ (cs.set j (.gs (.own v) z xs)))))=stD W.κ W.low f' os:=by
  rw[← hf'];exact putP_stV (p:=.own u) (o':=.cells (cs.set j (.gs (.own v) z xs))) W.hl hL hlen rfl
 have r4:Rel W.X.E cx' ((stD W.κ W.low (setF f v (.tok xs.length e)) os).set (W.L,u) (some (.cells (ED.DL W.κ (cs.set j (.gs (.own v) z xs)))))) w:=r4;rw[hst2] at r4;have hlen2:(stD W.κ W.low f' os).length=(stD W.κ W.low f os).length:=by simp[stD]
 exact hk hlen B cx' a w hB (by show(stD _ _ _ _).length=_; rw[hlen2]; exact hl') (hex.trans (r2.weaken fun _ _=>rfl)) ⟨r4,hr.size,fun t=>(hr.tmps t).mono r2 (RelF.ext.all_true _),hr.defers⟩
end
end Go.Mx
namespace Go.Mx
set_option linter.unusedVariables false
theorem forL_nil {α σ ρ:Type} {step:σ→Nat→α→Option σ} {i:Nat} {s:σ} {R:σ→Option ρ} {r:ρ} (h:(forL step i [] s).bind R=some r):R s=some r:=h
theorem forI_nil {α σ ω:Type} {step:σ→Nat→α→Option (ω⊕σ)} {i:Nat} {s:σ} {R:σ→Option ω} {r:ω} (h:seqS (forI step i [] s) R=some r):R s=some r:=h
section
variable {W : Wd} {k k' : List KI} {l : List (Nat × ED)} {f : List (Nat × EObj)} {os : List (Option EObj)} {α σ ρ : Type}
theorem WG.listL {c:Code} {xs:List α} {s0:σ} {step:σ→Nat→α→Option σ} {R:σ→Option ρ} {r:ρ} (h:(forL step 0 xs s0).bind R=some r) (hf:flatK 64 k=.code (.loop c)::k') (env:Nat→σ→List (Nat×ED)) (fr:Nat→σ→List (Nat×EObj)) (low:Nat→σ→List (Option EObj)) (fogs:List Nat)
  (he:lessE fogs (mkE l) ((env 0 s0).map Prod.fst)=(env 0 s0).map Prod.snd) (h1:f=fr 0 s0) (h2:os=low 0 s0)
  (round:∀i s q,xs.drop i=q→i≤xs.length→(forL step i q s).bind R=some r→WG W (.code c::.goal (ListJ W env fr low xs (fun i q s=>(forL step i q s).bind R=some r) q.length)::k') (env i s) (fr i s) (low i s)):WG W k l f os:=
 WG.list (run:=fun i q s=>(forL step i q s).bind R=some r) h hf env fr low fogs he h1 h2 round
theorem WG.listI {c:Code} {xs:List α} {s0:σ} {step:σ→Nat→α→Option (ρ⊕σ)} {R:σ→Option ρ} {r:ρ} (h:seqS (forI step 0 xs s0) R=some r) (hf:flatK 64 k=.code (.loop c)::k') (env:Nat→σ→List (Nat×ED)) (fr:Nat→σ→List (Nat×EObj)) (low:Nat→σ→List (Option EObj)) (fogs:List Nat)
  (he:lessE fogs (mkE l) ((env 0 s0).map Prod.fst)=(env 0 s0).map Prod.snd) (h1:f=fr 0 s0) (h2:os=low 0 s0)
  (round:∀i s q,xs.drop i=q→i≤xs.length→seqS (forI step i q s) R=some r→WG W (.code c::.goal (ListJ W env fr low xs (fun i q s=>seqS (forI step i q s) R=some r) q.length)::k') (env i s) (fr i s) (low i s)):WG W k l f os:=
 WG.list (run:=fun i q s=>seqS (forI step i q s) R=some r) h hf env fr low fogs he h1 h2 round
end
end Go.Mx
namespace Go.Ev
open Go.Mx (KD)
def inB (i:Int) (n:Nat):Option Unit:=if 0≤i∧i.toNat<n then some () else none
theorem in_ok {i:Int} {n:Nat} {u:Unit} (h:inB i n=some u):0≤i∧i.toNat<n:=by
 unfold inB at h;split at h
 ·rename_i hb; exact hb
 ·cases h
def lenB {α:Type} (l:List α) (n:Nat):Option Unit:=if l.length=n then some () else none
section
variable {α : Type} {k : α → List KD} {ks : List α → List (List KD)} {sz : Nat}
theorem Kd.ixr (h:Kd k ks sz) {l:List α} {i:Nat} {x:α} (hx:l[i]? = some x):(ks l)[i]? = some (k x):=by rw[h.eq,List.getElem?_map,hx]; rfl
end
end Go.Ev
namespace Go.Mx
set_option linter.unusedVariables false
def flatB:Nat→List KI→List KI
 | 0,k=>k
 | n+1,.code (.seq x y)::k=>flatB n (.code x::.code y::k)
 | n+1,.code .skip::k=>flatB n k
 | n+1,.inBlock _::k=>flatB n k
 | n+1,.code (.exit id)::k=>match popExit id k with
  | some k'=>flatB n k'
  | none=>.code (.exit id)::k
 | n+1,k=>k
theorem WS.flatB {W:Wd} {s:ES}:∀{n:Nat} {k:List KI},WS W (flatB n k) s→WS W k s
 | 0,_,h=>h
 | n+1,[],h=>h
 | n+1,.inBlock id::k,h=>fun hlen=>AW.inBlock (WS.flatB (n:=n) (k:=k) h hlen)
 | n+1,.inLoop c::k,h=>h
 | n+1,.ops a b::k,h=>h
 | n+1,.goal J::k,h=>h
 | n+1,.code c::k,h=>by
  cases c with
  | seq x y=>exact fun hlen=>AW.seq (WS.flatB (n:=n) (k:=.code x::.code y::k) h hlen)
  | skip=>exact fun hlen=>AW.skip (WS.flatB (n:=n) (k:=k) h hlen)
  | exit id=>
   simp only[Mx.flatB] at h;cases hp:popExit id k with
   | none=>rw[hp] at h; exact h
   | some k'=>rw[hp] at h; exact fun hlen=>AW.exit hp (WS.flatB (n:=n) (k:=k') h hlen)
  | _=>exact h
theorem WG.flatB {W:Wd} {k k':List KI} {l:List (Nat×ED)} {f:List (Nat×EObj)} {os:List (Option EObj)} (hf:Mx.flatB 64 k=k') (h:WG W k' l f os):WG W k l f os:=by
 subst hf; exact WS.flatB (n:=64) h
section
variable {W : Wd} {k k' : List KI} {l : List (Nat × ED)} {f : List (Nat × EObj)} {os : List (Option EObj)} {τ ω ρ : Type}
theorem WG.bindSB {X:Option (ω⊕τ)} {R:τ→Option ω} {r:ω} (h:seqS X R=some r) {c:Code} (hf:Mx.flatB 64 k=.code c::k') (env:τ→List (Nat×ED)) (fr:τ→List (Nat×EObj)) (low:τ→List (Option EObj))
  (jp:∀t,R t=some r→WG W (flatK 64 k') (env t) (fr t) (low t)) (body:∀o,X=some o→(∀t,o=.inr t→WG W (flatK 64 k') (env t) (fr t) (low t))→(∀w,o=.inl w→w=r)→WG W (.code c::k') l f os):WG W k l f os:=by
 obtain⟨o,ho,h1,h2⟩:=seqS_some h;exact WG.flatB hf (body o ho (fun t ht=>jp t (h2 t ht)) h1)
end
end Go.Mx
namespace Go.Mx
set_option linter.unusedVariables false
set_option linter.unusedSimpArgs false
def nek (k0:Key):Key→Bool:=fun k=>!(decide (k=k0))
theorem nek_spec {k0 k:Key}:nek k0 k=true↔k≠k0:=by simp[nek]
section
variable {W : Wd} {k k' : List KI} {l : List (Nat × ED)} {f : List (Nat × EObj)} {os : List (Option EObj)}
theorem stD_del {L u:Nat} {κ:Pl→Key} {low:List (Option AObj)→St} {f:List (Nat×EObj)} {os:List (Option EObj)} (hL:(low (osA κ os)).length=L):(stD κ low f os).set (L,u) none=stD κ low (delF f u) os:=by
 unfold stD;subst hL;rw[set_top,fA_del,mkFr_del]
end
end Go.Mx
namespace Go.Mx
set_option linter.unusedVariables false
set_option linter.unusedSimpArgs false
section
variable {W : Wd} {k k' : List KI} {l : List (Nat × ED)} {f : List (Nat × EObj)} {os : List (Option EObj)}
theorem WG.ownCellV (u j v:Nat) (e:TypeId) {z:Nat} {cs:List ED} (hu:getF f u=some (.cells cs)) (hj:cs[j]? = some (.d (.sl z true []))) (hv:getF f v=none) (hne:Nat.beq u v=false) (f':List (Nat×EObj))
  (hf':setF (setF f v (.vec e z [])) u (.cells (cs.set j (.vs (.own v) z 0)))=f') (hk:WG W k l f' os):WG W k l f os:=fun hlen=>by
 have hL:=W.hL (osA W.κ os);intro B cx a w hB hl' hex hr;have hg:=getP_none (ks:=W.ks) (low:=W.low) (os:=os) W.hl hL hv;have hkey:(W.L,v).1<(stD W.κ W.low f os).length:=by simp[stD,hL]
 obtain⟨cx',r1,r2,r3⟩:=hr.rel.ghostV (key:=(W.L,v)) hkey hg e z;have hst:(stD W.κ W.low f os).set (W.L,v) (some (.vec 0 e z []))=stD W.κ W.low (setF f v (.vec e z [])) os:=putP_stV (p:=.own v) (o':=.vec e z []) W.hl hL hlen rfl;have r1:Rel W.X.E cx' ((stD W.κ W.low f os).set (W.L,v) (some (AObj.vec 0 e z []))) w:=r1;rw[hst] at r1;have hgu:getP (setF f v (.vec e z [])) os (.own u)=some (.cells cs):=by
  simp only[getP,getF_set];rw[if_neg (fun h=>by subst h; simp at hne)]; exact hu
 obtain⟨c1,c2⟩:=getP_st (ks:=W.ks) W.hl hL hlen hgu;have c1:(stD W.κ W.low (setF f v (.vec e z [])) os).get (W.L,u)=some (.cells (ED.DL W.κ cs)):=c1;have hlev:=(r1.cells _ _ c1).1;have hset:∀j',(cs.set j (.vs (.own v) z 0))[j']? = if j=j' then(if j<cs.length then some (.vs (.own v) z 0) else none) else cs[j']?:=fun j'=>by rw[List.getElem?_set]
 have r4:=r1.reCell c1 c2 (cs':=ED.DL W.κ (cs.set j (.vs (.own v) z 0))) (by simp[DL_length]) (fun j' d d' x hd hd' hrd=>by
  rw[DL_get,Option.map_eq_some_iff] at hd hd';obtain⟨a1,h1,rfl⟩:=hd;obtain⟨a2,h2,rfl⟩:=hd';rw[hset] at h2;by_cases hjj:j=j'
  ·subst hjj;rw[hj] at h1; cases h1;rw[if_pos rfl] at h2;split at h2
   ·cases h2;exact Rd.ownV (cx':=cx') (e:=e) hrd r3
   ·cases h2
  ·rw[if_neg hjj] at h2;rw[h1] at h2; cases h2; exact hrd) (by
  have hall:∀(c:List ED),allL (lv (W.L+1)) (ED.DL W.κ c)=true↔∀x∈c,(x.D W.κ).all (lv (W.L+1))=true:=fun c=>by
   induction c with
   | nil=>simp[ED.DL,allL]
   | cons a r ih=>simp only[ED.DL,allL,Bool.and_eq_true,ih,List.forall_mem_cons]
  have h0:=(hall cs).1 hlev;refine(hall _).2 fun x hx=>?_;rcases List.mem_or_eq_of_mem_set hx with h | h
  ·exact h0 x h
  ·subst h;show lv (W.L+1) (W.L,v)=true;simp[lv])
 have hst2:(stD W.κ W.low (setF f v (.vec e z [])) os).set (W.L,u) (some (.cells (ED.DL W.κ (cs.set j (.vs (.own v) z 0)))))=stD W.κ W.low f' os:=by
  rw[← hf'];exact putP_stV (p:=.own u) (o':=.cells (cs.set j (.vs (.own v) z 0))) W.hl hL hlen rfl
 have r4:Rel W.X.E cx' ((stD W.κ W.low (setF f v (.vec e z [])) os).set (W.L,u) (some (.cells (ED.DL W.κ (cs.set j (.vs (.own v) z 0)))))) w:=r4;rw[hst2] at r4;have hlen2:(stD W.κ W.low f' os).length=(stD W.κ W.low f os).length:=by simp[stD]
 exact hk hlen B cx' a w hB (by show(stD _ _ _ _).length=_; rw[hlen2]; exact hl') (hex.trans (r2.weaken fun _ _=>rfl)) ⟨r4,hr.size,fun t=>(hr.tmps t).mono r2 (RelF.ext.all_true _),hr.defers⟩
end
end Go.Mx
namespace Go.Mx
set_option linter.unusedVariables false
set_option linter.unusedSimpArgs false
theorem Rel.moveV {E:Setting} {cx:Cx} {st:St} {w:World} (r:Rel E cx st w) {k0 q:Key} {ob:AObj} {n:Nat} {e:TypeId} (hrow:ob.row=some (n,e)) (hk0:st.get k0=some ob) (hq:st.get q=none) (hl0:k0.1<st.length) (hlq:q.1<st.length)
  (hcs:allL (fun _=>false) ob.body=true) (hc:∀key (c:AObj),key≠k0→st.get key=some c→allL (nek k0) c.body=true) :
  ∃cx',Rel E cx' ((st.set k0 none).set q (some ob)) w∧Ext (nek k0) cx w cx' w∧cx'.tk q=cx.tk k0∧∀key,cx'.bx key=cx.bx key:=by
 have hne:q≠k0:=fun e=>by subst e; rw[hk0] at hq; cases hq
 have hqb:cx.bx q=none:=by
  cases h:cx.bx q with
  | none=>rfl
  | some l=>obtain⟨c,hc⟩:=r.domb q l h; rw[hq] at hc; cases hc
 have h0b:cx.bx k0=none:=by
  cases h:cx.bx k0 with
  | none=>rfl
  | some l=>obtain⟨c,hc⟩:=r.domb k0 l h; rw[hk0] at hc; cases hc; cases hrow
 have hqt:cx.tk q=none:=by
  cases h:cx.tk q with
  | none=>rfl
  | some l=>obtain⟨_,n,e,hc,_⟩:=r.domt q l h; rw[hq] at hc; cases hc
 have hget:∀k,((st.set k0 none).set q (some ob)).get k=if k=q then some ob else if k=k0 then none else st.get k:=fun k=>by
  rw[St.get_set (by rw[St.length_set]; exact hlq),St.get_set hl0]
 let cx':Cx:={ bx:=cx.bx,tk:=fun k=>if k=q then cx.tk k0 else if k=k0 then none else cx.tk k,M:=cx.M,Z:=cx.Z }
 have htk:∀k,k≠q→k≠k0→cx'.tk k=cx.tk k:=fun k h1 h2=>by
  show(if k=q then cx.tk k0 else if k=k0 then none else cx.tk k)=_;rw[if_neg h1,if_neg h2]
 have htq:cx'.tk q=cx.tk k0:=if_pos rfl;have htd:∀k l,cx'.tk k=some l→(k=q∧cx.tk k0=some l)∨(k≠q∧k≠k0∧cx.tk k=some l):=fun k l h=>by
  have h:(if k=q then cx.tk k0 else if k=k0 then none else cx.tk k)=some l:=h;split at h
  ·rename_i h1; exact .inl ⟨h1,h⟩
  ·split at h
   ·cases h
   ·rename_i h1 h2; exact .inr ⟨h1,h2,h⟩
 have hext:Ext (nek k0) cx w cx' w:=by
  refine⟨rfl,rfl,rfl,Nat.le_refl _,fun _ _ _=>rfl,fun _ _ _ _=>rfl,fun _ _ _ h=>h,fun _ _ _ h=>h,fun key n l hk h=>⟨n,l,?_,Nat.le_refl _,fun _=>rfl⟩,rfl,fun key n e g c z h _=>?_,fun _ _ _=>rfl⟩
  ·rw[htk key (fun e=>by subst e; rw[hqt] at h; cases h) (nek_spec.1 hk)]; exact h
  ·rcases htd _ _ h with ⟨_,h⟩ | ⟨_,_,h⟩
   ·exact⟨_,_,_,_,_,h⟩
   ·exact⟨_,_,_,_,_,h⟩
 have hfoot:∀key b o,Mx.foot cx' ((st.set k0 none).set q (some ob)) key b o→Mx.foot cx st (if key=q then k0 else key) b o∧key≠k0:=fun key b o h=>by
  rcases h with ⟨c,o0,h1,h2,h3⟩ | ⟨ob',n',e',c,z',⟨h1,h0⟩,h2,h3⟩
  ·rw[hget] at h1;by_cases hkq:key=q
   ·subst hkq; rw[if_pos rfl] at h1; cases h1; cases hrow
   ·rw[if_neg hkq] at h1;rw[if_neg hkq];by_cases hk:key=k0
    ·rw[if_pos hk] at h1; cases h1
    ·rw[if_neg hk] at h1;exact⟨.inl ⟨c,o0,h1,h2,h3⟩,hk⟩
  ·rw[hget] at h1;by_cases hkq:key=q
   ·subst hkq;rw[if_pos rfl] at h1; cases h1;rw[if_pos rfl];rw[htq] at h2;exact⟨.inr ⟨_,n',e',c,z',⟨hk0,h0⟩,h2,h3⟩,hne⟩
   ·rw[if_neg hkq] at h1;rw[if_neg hkq];by_cases hk:key=k0
    ·rw[if_pos hk] at h1; cases h1
    ·rw[if_neg hk] at h1;rw[htk key hkq hk] at h2;exact⟨.inr ⟨ob',n',e',c,z',⟨h1,h0⟩,h2,h3⟩,hk⟩
 refine⟨cx',⟨fun key c h=>?_,fun key n' e' z' c h=>?_,fun key ob' n' e' h=>?_,fun key b o h=>r.foot _ b o (hfoot _ _ _ h).1,fun k1 k2 b o h h'=>?_,fun key l h=>?_,fun key l h=>?_,r.mlt,fun key b o h=>r.nz _ b o (hfoot _ _ _ h).1,r.zm,r.bxlt,
   fun k1 k2 b o n e g c z h h'=>?_,fun k1 k2 n1 e1 n2 e2 g c1 z1 c2 z2 h h'=>?_,fun g=>(r.glob g).mono hext ((all_mono (fun q hq=>by cases hq)).1 _ (E.keyless g))⟩,hext,htq,fun _=>rfl⟩
 ·rw[hget] at h;by_cases hkq:key=q
  ·subst hkq; rw[if_pos rfl] at h; cases h; cases hrow
  ·rw[if_neg hkq] at h;by_cases hk:key=k0
   ·rw[if_pos hk] at h; cases h
   ·rw[if_neg hk] at h;obtain⟨h1,b,o,h2,h3⟩:=r.cells key c h;refine⟨h1,b,o,h2,fun j d hj=>?_⟩;obtain⟨x,hx,hrd⟩:=h3 j d hj;exact⟨x,hx,hrd.mono hext (allL_get (hc key (.cells c) hk h) hj)⟩
 ·rw[hget] at h;by_cases hkq:key=q
  ·subst hkq;rw[if_pos rfl] at h; cases h;obtain⟨_,c2,c3,c4⟩:=r.vec k0 n' e' z' c hk0;rw[htq];refine⟨(all_mono (fun q hq=>by cases hq)).2.1 _ hcs,c2,c3,fun g cc zz hk=>⟨(c4 g cc zz hk).1,fun j d hj=>?_⟩⟩;obtain⟨x,hx,hr⟩:=(c4 g cc zz hk).2 j d hj;exact⟨x,hx,hr.mono hext ((all_mono (fun q hq=>by cases hq)).1 _ (allL_get hcs hj))⟩
  ·rw[if_neg hkq] at h;by_cases hk:key=k0
   ·rw[if_pos hk] at h; cases h
   ·rw[if_neg hk] at h;exact r.vecKeep h (htk key hkq hk) (fun _ _ _ _ _ _ _ hx=>hx) (fun j d x hj hr=>hr.mono hext (allL_get (hc key (.vec n' e' z' c) hk h) hj))
 ·obtain⟨h,h0⟩:=h;rw[hget] at h;by_cases hkq:key=q
  ·subst hkq;rw[if_pos rfl] at h; cases h;obtain⟨tl,g1,g2⟩:=r.tok k0 _ n' e' ⟨hk0,h0⟩;exact⟨tl,htq.trans g1,g2⟩
  ·rw[if_neg hkq] at h;by_cases hk:key=k0
   ·rw[if_pos hk] at h; cases h
   ·rw[if_neg hk] at h;obtain⟨tl,g1,g2⟩:=r.tok key ob' n' e' ⟨h,h0⟩;exact⟨tl,(htk key hkq hk).trans g1,g2⟩
 ·obtain⟨g1,n1⟩:=hfoot _ _ _ h;obtain⟨g2,n2⟩:=hfoot _ _ _ h';have:=r.sep _ _ b o g1 g2;by_cases e1:k1=q <;> by_cases e2:k2=q
  ·rw[e1,e2]
  ·rw[if_pos e1,if_neg e2] at this; exact absurd this.symm n2
  ·rw[if_neg e1,if_pos e2] at this; exact absurd this n1
  ·rw[if_neg e1,if_neg e2] at this; exact this
 ·rw[hget,if_neg (fun e=>by subst e; have h:cx.bx key=some l:=h; rw[hqb] at h; cases h),if_neg (fun e=>by subst e; have h:cx.bx key=some l:=h; rw[h0b] at h; cases h)];exact r.domb key l h
 ·rw[hget];rcases htd _ _ h with ⟨h1,h2⟩ | ⟨h1,h2,h3⟩
  ·rw[if_pos h1];exact⟨_,n,e,rfl,hrow⟩
  ·rw[if_neg h1,if_neg h2]; exact r.domt key l h3
 ·rcases htd _ _ h' with ⟨_,h2⟩ | ⟨_,_,h2⟩ <;> exact r.apart _ _ _ _ _ _ _ _ _ h h2
 ·rcases htd _ _ h with ⟨a1,a2⟩ | ⟨a1,a3,a2⟩ <;> rcases htd _ _ h' with ⟨b1,b2⟩ | ⟨b1,b3,b2⟩
  ·rw[a1,b1]
  ·exact absurd (r.rows _ _ _ _ _ _ _ _ _ _ _ a2 b2).symm b3
  ·exact absurd (r.rows _ _ _ _ _ _ _ _ _ _ _ a2 b2) a3
  ·exact r.rows _ _ _ _ _ _ _ _ _ _ _ a2 b2
end Go.Mx
namespace Go.Ev
open Go.Mx (KD)
theorem Kd.inv {α:Type} {k:α→List KD} {ks:List α→List (List KD)} {sz:Nat} (h:Kd k ks sz) {l:List α} {i:Int} {u:Unit} {n:Nat} (hu:inB i l.length=some u) (hn:(ks l).length=n):0≤i∧i.toNat<n:=by
 have:=in_ok hu;rw[← hn,h.length]; exact this
end Go.Ev
