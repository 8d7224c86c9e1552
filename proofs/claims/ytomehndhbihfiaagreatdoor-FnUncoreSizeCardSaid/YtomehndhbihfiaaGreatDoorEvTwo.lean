/- An evaluator over the abstract state, second part. No condition. -/
import Derived.Test.YtomehndhbihfiaaGreatDoorEvOne
import Derived.WalkKit
import Derived.ProofKit
import Derived.OpenShut
import Derived.JoinedCond
import Derived.WideKeyArgs
import Derived.ChangeArms
import Derived.Deep.DeepHandedRow
import Derived.Lib.LaidTab
set_option linter.unusedVariables false
set_option linter.unusedSimpArgs false
namespace Go.Mx
set_option linter.unusedVariables false
set_option linter.unusedSimpArgs false
def opsOf:Op→List Operand
 | .move x=>[x]
 | .assign x=>[x]
 | .nilCheck x=>[x]
 | .pick c x y=>[c,x,y]
 | .box _ x=>[x]
 | .build _ ps=>ps.toList.map Prod.snd
 | .buildSlice _ _ ps=>ps.toList.map Prod.snd
 | .load _ x=>[x]
 | .store _ a v=>[a,v]
 | .binOp _ _ x y _=>[x,y]
 | .unOp _ _ x=>[x]
 | .convert _ _ x=>[x]
 | .index _ x i=>[x,i]
 | .fieldAddr _ x _=>[x]
 | .indexAddr _ x i=>[x,i]
 | .extract x _=>[x]
 | .makeFunc _ a b=>a.toList++b.toList
 | .makeSlice _ n m=>[n,m]
 | .slice _ x lo hi mx=>x::(lo.toList++(hi.toList++mx.toList))
 | .lookup _ x i _=>[x,i]
 | .call ⟨.builtin _,args,_⟩=>args.toList
 | .call ⟨.value fo,args,_⟩=>fo::args.toList
 | _=>[]
section
variable {f f' : List (Nat × aB)} {os os' : List (Option aB)}
def NZ (f f':List (Nat×aB)) (os os':List (Option aB)) (ps:List Pl):Prop:=∀p∈ps,fU f os p=fU f' os' p
theorem Wq {Z:TypeId→Option (List KD)} {t:Nat} {e:TypeId} {hs:List Hint} {δ:Dl} (h:BD Z f t e hs=some δ) (ha:NZ f f' os os' δ.rd):BD Z f' t e hs=some δ:=by
 unfold BD at h ⊢;split at h
 ·rename_i zs hz hf;cases h;have:=ha (.own t) (by simp);simp only[fU] at this;rw[hz,← this,hf]
 ·cases h
theorem aaK {t:Nat} {e:ED} {hs:List Hint} {δ:Dl} (h:L6 f t e hs=some δ) (ha:NZ f f' os os' δ.rd):L6 f' t e hs=some δ:=by
 unfold L6 at h ⊢;split at h
 ·rename_i hz hf;cases h;have:=ha (.own t) (by simp);simp only[fU] at this;rw[hz,← this,hf]
 ·cases h
theorem Ye {T:TypeId→Option (Nat×Nat×fJ)} {ty:TypeId} {e:ED} {hs:List Hint} {δ:Dl} (h:uQ T f os ty e hs=some δ) (ha:NZ f f' os os' δ.rd):uQ T f' os' ty e hs=some δ:=by
 unfold uQ at h ⊢;cases hT:T ty with
 | none=>rw[hT] at h; cases h
 | some x=>
  obtain⟨n,b,s⟩:=x;rw[hT] at h;simp only at h ⊢;split at h
  ·rename_i p off;cases hg:fU f os p with
   | none=>rw[hg] at h; cases h
   | some o=>
    have hrd:δ.rd=[p]:=by
     rw[hg] at h;cases o with
     | cells cs=>
      simp only at h;split at h
      ·split at h <;> first | (cases h; rfl) | cases h
      ·split at h <;> first | (cases h; rfl) | cases h
     | _=>cases h
    have:=ha p (by rw[hrd]; simp);rw[← this];exact h
  ·exact h
  ·exact h
theorem PW {T:TypeId→Option (Nat×Nat×fJ)} {ty:TypeId} {e:ED} {hs:List Hint} {δ:Dl} (h:jF T f os ty e hs=some δ) (ha:NZ f f' os os' δ.rd):jF T f' os' ty e hs=some δ:=by
 unfold jF at h ⊢;split at h
 ·rename_i n b s p sz i off c hs' hT;have hrd:δ.rd=[p]:=by
   split at h
   ·split at h
    ·split at h
     ·simp only at h;split at h <;> first | (cases h; rfl) | cases h
     ·split at h <;> first | (cases h; rfl) | cases h
    ·cases h
   ·cases h
  have:=ha p (by rw[hrd]; simp);rw[← this];exact h
 ·cases h
theorem La {T:TypeId→Option (Nat×Nat×fJ)} {ty:TypeId} {e:ED} {hs:List Hint} {δ:Dl} (h:jF T f os ty e hs=some δ):uQ T f' os' ty e hs=none:=by
 unfold jF at h;split at h
 ·rename_i n b s p sz i off c hs' hT;unfold uQ; rw[hT]
 ·cases h
theorem Ws {T:TypeId→Option (Nat×Nat×fJ)} {ty:TypeId} {e v:ED} {hs:List Hint} {δ:Dl} (h:vU T f os ty e v hs=some δ) (ha:NZ f f' os os' δ.rd):vU T f' os' ty e v hs=some δ:=by
 unfold vU at h ⊢;cases hT:T ty with
 | none=>rw[hT] at h; cases h
 | some x=>
  obtain⟨n,b,s⟩:=x;rw[hT] at h;simp only at h ⊢;split at h
  ·rename_i p off;have hrd:δ.rd=[p]:=by
    split at h
    ·split at h <;> first | (cases h; rfl) | cases h
    ·cases h
   have:=ha p (by rw[hrd]; simp);rw[← this];exact h
  ·exact h
theorem N7 {T:TypeId→Option (Nat×Nat×fJ)} {ty:TypeId} {e v:ED} {hs:List Hint} {δ:Dl} (h:kR T f os ty e v hs=some δ) (ha:NZ f f' os os' δ.rd):kR T f' os' ty e v hs=some δ:=by
 unfold kR at h ⊢;split at h
 ·rename_i n b s p sz i off c ys hs' hT;have hrd:δ.rd=[p]:=by
   split at h
   ·split at h <;> first | (cases h; rfl) | cases h
   ·cases h
  have:=ha p (by rw[hrd]; simp);rw[← this];exact h
 ·cases h
theorem Jw {T:TypeId→Option (Nat×Nat×fJ)} {ty:TypeId} {e v:ED} {hs:List Hint} {δ:Dl} (h:kR T f os ty e v hs=some δ):vU T f' os' ty e v hs=none:=by
 unfold kR at h;split at h
 ·rename_i n b s p sz i off c ys hs' hT;unfold vU; rw[hT]
 ·cases h
theorem Jy {T:TypeId→Option (Nat×Nat×fJ)} {Z:TypeId→Option (List KD)} {t:Nat} {s:TypeId} {x y:ED} {hs:List Hint} {r:Dl×Option (Nat×Nat)} (h:xg T Z f os t s x y hs=some r) (ha:NZ f f' os os' r.1.rd):xg T Z f' os' t s x y hs=some r:=by
 unfold xg at h ⊢;split at h
 ·rename_i e hT;split at h
  ·rename_i sz be se zs z xs z' ys p m hE hz hx hy hg;have hrd:r.1.rd=[p]:=by
    split at h
    ·split at h
     ·cases h; rfl
     ·cases h
    ·cases h
   have hp:=ha p (by rw[hrd]; simp);have hg':growE f' os' t e x=some (p,m):=by
    unfold growE at hg ⊢;split at hg
    ·split at hg
     ·rename_i hn;cases hg;simp only[fU] at hp;rw[← hp,hn]
     ·cases hg
    ·rename_i q _ _;have hq:q=p:=by
      split at hg
      ·split at hg <;> first | (cases hg; rfl) | cases hg
      ·cases hg
     subst hq;rw[← hp];exact hg
    ·cases hg
   rw[hE,hz,hx,hy,hg'];exact h
  ·cases h
 ·cases h
theorem Lc {T:TypeId→Option (Nat×Nat×fJ)} {Z:TypeId→Option (List KD)} {t:Nat} {s:TypeId} {x y:ED} {hs:List Hint} {r:Dl×Int×Int} (h:pq T Z f t s x y hs=some r) (ha:NZ f f' os os' r.1.rd):pq T Z f' t s x y hs=some r:=by
 unfold pq at h ⊢;split at h
 ·rename_i e k n k' m hT;split at h
  ·rename_i sz be se zs hE hz hf;have hrd:r.1.rd=[.own t]:=by
    split at h
    ·cases h; rfl
    ·cases h
   have:=ha (.own t) (by rw[hrd]; simp);simp only[fU] at this;rw[hE,hz,← this,hf];exact h
  ·cases h
 ·cases h
theorem Ew (hl:os.length=os'.length) (p:Pl):fM os p=fM os' p:=by cases p <;> simp[fM,hl]
theorem Wu {E:Setting} {T:TypeId→Option (Nat×Nat×fJ)} {ats:List TypeId} {fo:ED} {args:List ED} {hs:List Hint} {δ:Dl} (h:BL E T ats f os fo args hs=some δ) (ha:NZ f f' os os' δ.rd) (hl:os.length=os'.length):BL E T ats f' os' fo args hs=some δ:=by
 unfold BL at h ⊢;split at h
 ·rename_i g first caps ps d outs hs';split at h
  ·rename_i as ins d' xq h1 h2 h3 h4;have hrd:δ.rd=ps:=by
    split at h
    ·cases h; rfl
    ·cases h
   have hps:ps.map (fU f os)=ps.map (fU f' os'):=List.map_congr_left fun p hp=>ha p (by rw[hrd]; exact hp);have hv:ps.all (fM os)=ps.all (fM os'):=by
    congr 1; funext p; exact Ew hl p
   rw[h1,← hps,h2,h3,h4];simp only;rw[← hv];exact h
  ·cases h
 ·cases h
theorem Yf {E:Setting} {T:TypeId→Option (Nat×Nat×fJ)} {ats:List TypeId} {fo:ED} {args:List ED} {hs:List Hint} {δ:Dl} (h:NV E T ats f os fo args hs=some δ) (ha:NZ f f' os os' δ.rd) (hl:os.length=os'.length):NV E T ats f' os' fo args hs=some δ:=Wu (T:=X8 T hs) h ha hl
end
structure Td (xs:List Operand) (ps:List Pl) (G:Nat→KD) (s s':ES):Prop where
 ops:∀x∈xs,eY G s.ρ x=eY G s'.ρ x
 pl:NZ s.f s'.f s.os s'.os ps
 len:s.os.length=s'.os.length
theorem aaL {G:Nat→KD} {ρ ρ':Nat→ED} {l:List Operand} (h:∀x∈l,eY G ρ x=eY G ρ' x):l.map (eY G ρ)=l.map (eY G ρ'):=List.map_congr_left h
theorem PY {X:Ctx} {s s':ES} {t:Nat} {b:Builtin} {args:List Operand} {ats:List TypeId} {hs:List Hint} {r:vV} (h:um X s t b args ats hs=some r) (ha:Td args r.1.rd X.G s s'):um X s' t b args ats hs=some r:=by
 unfold um at h ⊢;split at h
 ·rw[← ha.ops _ (by simp)]; exact h
 ·rename_i x y;have e1:=ha.ops x (by simp);have e2:=ha.ops y (by simp);simp only[← e1,← e2]; exact h
 ·rename_i x y;have e1:=ha.ops x (by simp);have e2:=ha.ops y (by simp);simp only[← e1,← e2]; exact h
 ·rename_i x y z z';have e1:=ha.ops x (by simp);have e2:=ha.ops y (by simp);simp only[← e1,← e2];split at h
  ·rename_i δ h1 h2;cases h;rw[h1,Jy (f':=s'.f) (os':=s'.os) h2 ha.pl]
  ·rename_i δ a b h1 h2;cases h;rw[h1,Jy (f':=s'.f) (os':=s'.os) h2 ha.pl]
  ·cases h
 ·cases h
theorem kT {δ:Dl} {q:List (Int×Int)} (hq:q=[]):gV (some δ)=some (δ,q):=by subst hq; rfl
theorem aaM {X:Ctx} {s s':ES} {t:Nat} {ty:TypeId} {op:Op} {hs:List Hint} {r:vV} (h:Md X s t ty op hs=some r) (ha:Td (opsOf op) r.1.rd X.G s s'):Md X s' t ty op hs=some r:=by
 have hmap:∀{l:List Operand},(∀x∈l,x∈opsOf op)→l.map (eY X.G s.ρ)=l.map (eY X.G s'.ρ):=fun hl=>aaL fun x hx=>ha.ops x (hl x hx);unfold Md at h ⊢;split at h
 ·rw[← ha.ops _ (by simp[opsOf])]; exact h
 ·rw[← ha.ops _ (by simp[opsOf])]; exact h
 ·rw[← ha.ops _ (by simp[opsOf])]; exact h
 ·rename_i c x y;have e1:=ha.ops c (by simp[opsOf]);have e2:=ha.ops x (by simp[opsOf]);have e3:=ha.ops y (by simp[opsOf]);simp only[← e1,← e2,← e3]; exact h
 ·obtain⟨h1,h2⟩:=aW h;rw[Wq (f':=s'.f) (os:=s.os) (os':=s'.os) h1 ha.pl]; exact kT h2
 ·obtain⟨h1,h2⟩:=aW h;rw[← ha.ops _ (by simp[opsOf]),aaK (f':=s'.f) (os:=s.os) (os':=s'.os) h1 ha.pl]; exact kT h2
 ·rename_i y ps;have:(ps.toList.map fun p=>(p.1,eY X.G s'.ρ p.2))=ps.toList.map fun p=>(p.1,eY X.G s.ρ p.2):=List.map_congr_left fun p hp=>by
   rw[ha.ops p.2 (by simp only[opsOf]; exact List.mem_map_of_mem hp)]
  rw[this]; exact h
 ·rename_i y n ps;have:(ps.toList.map fun p=>(p.1,eY X.G s'.ρ p.2))=ps.toList.map fun p=>(p.1,eY X.G s.ρ p.2):=List.map_congr_left fun p hp=>by
   rw[ha.ops p.2 (by simp only[opsOf]; exact List.mem_map_of_mem hp)]
  rw[this]; exact h
 ·rename_i y x;have e1:=ha.ops x (by simp[opsOf]);rw[← e1];have key:∀r0:vV,orR (gV (uQ X.T.t s.f s.os y (eY X.G s.ρ x) hs)) (gV (jF X.T.t s.f s.os y (eY X.G s.ρ x) hs))=some r0→r0.1.rd=r.1.rd →
    orR (gV (uQ X.T.t s'.f s'.os y (eY X.G s.ρ x) hs)) (gV (jF X.T.t s'.f s'.os y (eY X.G s.ρ x) hs))=some r0:=fun r0 h0 hrd=>by
   rcases rV h0 with h1 | h1
   ·obtain⟨h1,h2⟩:=aW h1;rw[Ye (f':=s'.f) (os':=s'.os) h1 (by rw[hrd]; exact ha.pl),kT h2]; rfl
   ·obtain⟨h1,h2⟩:=aW h1;rw[La (f':=s'.f) (os':=s'.os) h1,PW (f':=s'.f) (os':=s'.os) h1 (by rw[hrd]; exact ha.pl),kT h2]; rfl
  cases h0:orR (gV (uQ X.T.t s.f s.os y (eY X.G s.ρ x) hs)) (gV (jF X.T.t s.f s.os y (eY X.G s.ρ x) hs)) with
  | none=>rw[h0] at h; cases h
  | some r0=>
   rw[h0] at h;rw[key r0 h0 (by obtain⟨⟨d,wr,rd,ob,hs⟩,q⟩:=r0; cases h; rfl)]; exact h
 ·rename_i op xt x y yt;have e1:=ha.ops x (by simp[opsOf]);have e2:=ha.ops y (by simp[opsOf]);simp only[← e1,← e2]; exact h
 ·rw[← ha.ops _ (by simp[opsOf])]; exact h
 ·rw[← ha.ops _ (by simp[opsOf])]; exact h
 ·rename_i y x i;have e1:=ha.ops x (by simp[opsOf]);have e2:=ha.ops i (by simp[opsOf]);simp only[← e1,← e2]; exact h
 ·rw[← ha.ops _ (by simp[opsOf])]; exact h
 ·rename_i y x i;have e1:=ha.ops x (by simp[opsOf]);have e2:=ha.ops i (by simp[opsOf]);simp only[← e1,← e2]; exact h
 ·rw[← ha.ops _ (by simp[opsOf])]; exact h
 ·rename_i g a b;rw[← hmap (l:=a.toList) (by intro x hx; simp only[opsOf]; exact List.mem_append_left _ hx),← hmap (l:=b.toList) (by intro x hx; simp only[opsOf]; exact List.mem_append_right _ hx)];exact h
 ·rename_i y n m;have e1:=ha.ops n (by simp[opsOf]);have e2:=ha.ops m (by simp[opsOf]);simp only[← e1,← e2];split at h
  ·rename_i δ a b h1;cases h;rw[Lc (f':=s'.f) (os:=s.os) (os':=s'.os) h1 ha.pl]
  ·cases h
 ·rename_i y x lo hi mx;have e1:=ha.ops x (by simp[opsOf]);have e2:lo.map (eY X.G s.ρ)=lo.map (eY X.G s'.ρ):=by
   cases lo with
   | none=>rfl
   | some o=>simp only[Option.map_some]; rw[ha.ops o (by simp[opsOf])]
  have e3:hi.map (eY X.G s.ρ)=hi.map (eY X.G s'.ρ):=by
   cases hi with
   | none=>rfl
   | some o=>simp only[Option.map_some]; rw[ha.ops o (by simp[opsOf])]
  have e4:mx.map (eY X.G s.ρ)=mx.map (eY X.G s'.ρ):=by
   cases mx with
   | none=>rfl
   | some o=>simp only[Option.map_some]; rw[ha.ops o (by simp[opsOf])]
  simp only[← e1,← e2,← e3,← e4]; exact h
 ·exact PY h ha
 ·rename_i fo args ats;obtain⟨h1,h2⟩:=aW h;have e1:=ha.ops fo (by simp[opsOf]);rw[← e1,← hmap (l:=args.toList) (by intro x hx; simp only[opsOf]; exact List.mem_cons_of_mem _ hx),Yf (f':=s'.f) (os':=s'.os) h1 ha.pl ha.len];exact kT h2
 ·cases h
theorem acH {X:Ctx} {s s':ES} {ty:TypeId} {op:Op} {hs:List Hint} {r:vV} (h:V6 X s ty op hs=some r) (ha:Td (opsOf op) r.1.rd X.G s s'):V6 X s' ty op hs=some r:=by
 unfold V6 at h ⊢;split at h
 ·rename_i y a v;have e1:=ha.ops a (by simp[opsOf]);have e2:=ha.ops v (by simp[opsOf]);simp only[← e1,← e2];rcases rV h with h1 | h1
  ·obtain⟨h1,h2⟩:=aW h1;rw[Ws (f':=s'.f) (os':=s'.os) h1 ha.pl,kT h2]; rfl
  ·obtain⟨h1,h2⟩:=aW h1;rw[Jw (f':=s'.f) (os':=s'.os) h1,N7 (f':=s'.f) (os':=s'.os) h1 ha.pl,kT h2]; rfl
 ·cases h
theorem UC {X:Ctx} {N:Nat} {s s':ES} {o:Oper} {hs:List Hint} {r:vV} (h:Jq X N s o hs=some r) (ha:Td (opsOf o.op) r.1.rd X.G s s'):Jq X N s' o hs=some r:=by
 unfold Jq at h ⊢;split at h
 ·rename_i t ht;split at h
  ·exact aaM h ha
  ·cases h
 ·exact acH h ha
section
variable {f f' : List (Nat × aB)} {os os' : List (Option aB)}
theorem Wv {T:TypeId→Option (Nat×Nat×fJ)} {ty:TypeId} {e:ED} {hs:List Hint} {δ:Dl} (h:BM T f os ty e hs=some δ) (ha:NZ f f' os os' δ.rd):BM T f' os' ty e hs=some δ:=by
 unfold BM at h ⊢;split at h
 ·rename_i n b s p z m i off c hs' hT;have hrd:δ.rd=[p]:=by(repeat' split at h) <;> first | (cases h; rfl) | cases h
  have hp:=ha p (by rw[hrd]; simp);rw[← hp]; exact h
 ·cases h
theorem Tf {T:TypeId→Option (Nat×Nat×fJ)} {ty:TypeId} {e v:ED} {hs:List Hint} {δ:Dl} (h:xw T f os ty e v hs=some δ) (ha:NZ f f' os os' δ.rd):xw T f' os' ty e v hs=some δ:=by
 unfold xw at h ⊢;split at h
 ·rename_i n b s p z m i off c ys hs' hT;have hrd:δ.rd=[p]:=by(repeat' split at h) <;> first | (cases h; rfl) | cases h
  have hp:=ha p (by rw[hrd]; simp);rw[← hp]; exact h
 ·cases h
theorem Ti {T:TypeId→Option (Nat×Nat×fJ)} {s:TypeId} {e v:ED} {hs:List Hint} {δ:Dl} (h:xA T f os s e v hs=some δ) (ha:NZ f f' os os' δ.rd):xA T f' os' s e v hs=some δ:=by
 unfold xA at h ⊢;split at h
 ·rename_i el p z m k i hT;have hrd:δ.rd=[p]:=by(repeat' split at h) <;> first | (cases h; rfl) | cases h
  have hp:=ha p (by rw[hrd]; simp);rw[← hp]; exact h
 ·cases h
theorem PZ {T:TypeId→Option (Nat×Nat×fJ)} {Z:TypeId→Option (List KD)} {s:TypeId} {x y:ED} {hs:List Hint} {δ:Dl} (h:uo T Z f os s x y hs=some δ) (ha:NZ f f' os os' δ.rd):uo T Z f' os' s x y hs=some δ:=by
 unfold uo at h ⊢;split at h
 ·rename_i e0 p z m zs hs' hT;have hrd:δ.rd=[p]:=by(repeat' split at h) <;> first | (cases h; rfl) | cases h
  have hp:=ha p (by rw[hrd]; simp);rw[← hp]; exact h
 ·cases h
theorem Yg {T:TypeId→Option (Nat×Nat×fJ)} {t:Nat} {s:TypeId} {e v:ED} {hs:List Hint} {δ:Dl} (h:FK T f os t s e v hs=some δ) (ha:NZ f f' os os' δ.rd):FK T f' os' t s e v hs=some δ:=by
 unfold FK at h ⊢;split at h
 ·rename_i el p z n k h' hT;have hrd:δ.rd=[p,.own (100000+t)]:=by(repeat' split at h) <;> first | (cases h; rfl) | cases h
  have hp:=ha p (by rw[hrd]; simp);have hq:=ha (.own (100000+t)) (by rw[hrd]; simp);simp only[fU] at hq;rw[← hp,← hq]; exact h
 ·cases h
theorem Yh {T:TypeId→Option (Nat×Nat×fJ)} {Z:TypeId→Option (List KD)} {t:Nat} {s:TypeId} {x y:ED} {hs:List Hint} {δ:Dl} (h:FM T Z f t s x y hs=some δ) (ha:NZ f f' os os' δ.rd):FM T Z f' t s x y hs=some δ:=by
 unfold FM at h ⊢;split at h
 ·have hrd:δ.rd=[.own (100000+t)]:=by(repeat' split at h) <;> first | (cases h; rfl) | cases h
  have hq:=ha (.own (100000+t)) (by rw[hrd]; simp);simp only[fU] at hq;rw[← hq]; exact h
 ·cases h
theorem acI {T:TypeId→Option (Nat×Nat×fJ)} {Z:TypeId→Option (List KD)} {t:Nat} {s:TypeId} {x y:ED} {hs:List Hint} {r:Dl×Int×Int} (h:Wi T Z f t s x y hs=some r) (ha:NZ f f' os os' r.1.rd):Wi T Z f' t s x y hs=some r:=by
 unfold Wi at h ⊢;split at h
 ·rename_i e k n k' m hT;split at h
  ·rename_i sz be se zs hE hz hf;have hrd:r.1.rd=[.own t]:=by
    split at h
    ·cases h; rfl
    ·cases h
   have:=ha (.own t) (by rw[hrd]; simp);simp only[fU] at this;rw[hE,hz,← this,hf];exact h
  ·cases h
 ·cases h
theorem acJ {T:TypeId→Option (Nat×Nat×fJ)} {Z:TypeId→Option (List KD)} {t:Nat} {s:TypeId} {len:Nat} {ps:List (Nat×ED)} {hs:List Hint} {r:Dl} (h:Wj T Z f t s len ps hs=some r) (ha:NZ f f' os os' r.rd):Wj T Z f' t s len ps hs=some r:=by
 unfold Wj at h ⊢;split at h
 ·rename_i e hT;split at h
  ·rename_i sz _ _ zs hE hz hf;have hrd:r.rd=[.own t]:=by
    split at h
    ·split at h
     ·cases h; rfl
     ·cases h
    ·cases h
   have:=ha (.own t) (by rw[hrd]; simp);simp only[fU] at this;rw[hE,hz,← this,hf];exact h
  ·cases h
 ·cases h
end
theorem Wx {G:Nat→KD} {ρ ρ':Nat→ED} {op:Op} (h:∀x∈opsOf op,eY G ρ x=eY G ρ' x):UA G ρ op=UA G ρ' op:=by
 unfold UA;split
 ·rw[h _ (by simp[opsOf])]
 ·rw[h _ (by simp[opsOf])]
 ·rw[h _ (by simp[opsOf])]
 ·rw[h _ (by simp[opsOf])]
 ·rw[h _ (by simp[opsOf])]
 ·rename_i b args ats;split
  ·rename_i x r hx;rw[h x (by simp[opsOf,hx])]
  ·rfl
 ·rfl
theorem aeQ {X:Ctx} {N:Nat} {s s':ES} {o:Oper} {hs:List Hint} {r:vV} (h:evV X N s o hs=some r) (ha:Td (opsOf o.op) r.1.rd X.G s s'):evV X N s' o hs=some r:=by
 unfold evV at h ⊢;split at h
 ·rename_i t ht;split at h
  ·obtain⟨h1,h2⟩:=aW h;have:Yd X s' t o.op hs=some r.1:=by
    unfold Yd at h1 ⊢;split at h1
    ·rename_i y x hop;rw[hop] at ha;rw[← ha.ops _ (by simp[opsOf])]; exact Wv h1 ha.pl
    ·rename_i y x i hop;rw[hop] at ha;rw[← ha.ops _ (by simp[opsOf])]; exact h1
    ·rename_i y x i hop;rw[hop] at ha;rw[← ha.ops x (by simp[opsOf]),← ha.ops i (by simp[opsOf])]; exact Ti h1 ha.pl
    ·rename_i y x hi hop;rw[hop] at ha;rw[← ha.ops x (by simp[opsOf]),← ha.ops hi (by simp[opsOf])]; exact Yg h1 ha.pl
    ·rename_i b args ats hop;rw[hop] at ha;unfold acE at h1 ⊢;have ha':∀x∈args.toList,eY X.G s.ρ x=eY X.G s'.ρ x:=fun x hx=>ha.ops x (by simpa [opsOf] using hx);split at h1
     ·rw[← ha' _ (by simp[*])]; exact h1
     ·rename_i x y z z' e1 e2;rw[← ha' x (by rw[e1]; simp),← ha' y (by rw[e1]; simp)];split at h1
      ·rename_i hz;exact PZ h1 ha.pl
      ·cases h1
     ·cases h1
    ·cases h1
   rw[this]; exact kT h2
  ·cases h
 ·split at h
  ·rename_i y a v hop;rw[hop] at ha;obtain⟨h1,h2⟩:=aW h;rw[← ha.ops a (by simp[opsOf]),← ha.ops v (by simp[opsOf]),Tf (f':=s'.f) (os':=s'.os) h1 ha.pl]; exact kT h2
  ·cases h
theorem Iq {X:Ctx} {N:Nat} {s s':ES} {o:Oper} {hs:List Hint} {r:vV} (h:Et X N s o hs=some r) (ha:Td (opsOf o.op) r.1.rd X.G s s'):Et X N s' o hs=some r:=by
 unfold Et at h ⊢;rw[← Wx ha.ops];split at h
 ·exact aeQ h ha
 ·exact UC h ha
theorem aaN {X:Ctx} {N:Nat} {s s':ES} {o:Oper} {hs:List Hint} {r:vV} (h:MC X N s o hs=some r) (ha:Td (opsOf o.op) r.1.rd X.G s s'):MC X N s' o hs=some r:=by
 unfold MC at h ⊢;split at h
 ·rename_i t y n m hd ho;rw[ho] at ha;rw[← ha.ops n (by simp[opsOf]),← ha.ops m (by simp[opsOf])];split at h
  ·rename_i δ a b ht h1;cases h;rw[ht,acI h1 ha.pl]
  ·cases h
 ·rename_i t y n ps hd ho;rw[ho] at ha;have hps:(ps.toList.map fun p=>(p.1,eY X.G s.ρ p.2))=ps.toList.map fun p=>(p.1,eY X.G s'.ρ p.2):=List.map_congr_left fun p hp=>by rw[ha.ops p.2 (by simp only[opsOf]; exact List.mem_map_of_mem hp)]
  rw[← hps];split at h
  ·rename_i ht;obtain⟨g1,g2⟩:=aW h;rw[acJ (os:=s.os) (os':=s'.os) g1 ha.pl];exact kT g2
  ·cases h
 ·rename_i t args ats hd ho;rw[ho] at ha;have ha':∀x∈args.toList,eY X.G s.ρ x=eY X.G s'.ρ x:=fun x hx=>ha.ops x (by simpa [opsOf] using hx);split at h
  ·rename_i x y z z' h1 e1 e2;rw[← ha' x (by rw[e1]; simp),← ha' y (by rw[e1]; simp)];split at h
   ·rename_i hz;obtain⟨g1,g2⟩:=aW h;rw[Yh (os:=s.os) (os':=s'.os) g1 ha.pl];exact kT g2
   ·cases h
  ·cases h
 ·cases h
theorem aaO {X:Ctx} {N:Nat} {s s':ES} {o:Oper} {hs:List Hint} {r:vV} (h:MF X N s o hs=some r) (ha:Td (opsOf o.op) r.1.rd X.G s s'):MF X N s' o hs=some r:=by
 unfold MF at h ⊢;split at h
 ·rename_i t ht;split at h
  ·rename_i z rd ob hs' q h0;split at h
   ·rename_i e hf hT;cases h;have h1:=UC h0 ⟨ha.ops,fun p hp=>ha.pl p (List.mem_cons_of_mem _ hp),ha.len⟩;have h2:=ha.pl (.own (100000+t)) List.mem_cons_self;simp only[fU] at h2;rw[h1];simp only[← h2,hf,hT]
   ·cases h
  ·cases h
 ·cases h
theorem aaP {X:Ctx} {N:Nat} {s s':ES} {o:Oper} {kt el:Nat} {f:Bool} {hs:List Hint} {r:vV} (h:MG X N s o kt el f hs=some r) (ha:Td (opsOf o.op) r.1.rd X.G s s'):MG X N s' o kt el f hs=some r:=by
 unfold MG at h ⊢;split at h
 ·rename_i t T x ix h1 h2;have e1:=ha.ops x (by rw[h2]; simp[opsOf]);have e2:=ha.ops ix (by rw[h2]; simp[opsOf]);rw[← e1,← e2];exact h
 ·cases h
theorem Yi {X:Ctx} {N:Nat} {s s':ES} {o:Oper} {hs:List Hint} {r:vV} (h:SX X N s o hs=some r) (ha:Td (opsOf o.op) r.1.rd X.G s s'):SX X N s' o hs=some r:=by
 unfold SX at h ⊢;split at h
 ·split at h
  ·exact aaN h ha
  ·exact Iq h ha
 ·split at h
  ·exact aaO h ha
  ·exact Iq h ha
 ·split at h
  ·exact aaP h ha
  ·exact Iq h ha
 ·exact Iq h ha
def UD (all:Array Oper) (o:Oper):List Operand:=
 match o.guard with
 | none=>opsOf o.op
 | some (j,_)=>match (all[j]?).bind (·.dst) with
  | some u=>.tmp u::opsOf o.op
  | none=>opsOf o.op
theorem Yj {X:Ctx} {N:Nat} {all:Array Oper} {s s':ES} {o:Oper} {hs:List Hint} {r:vV} (h:evG X N all s o hs=some r) (ha:Td (UD all o) r.1.rd X.G s s'):evG X N all s' o hs=some r:=by
 unfold evG at h ⊢;unfold UD at ha;cases hg:o.guard with
 | none=>rw[hg] at h ha; exact Yi h ha
 | some jw=>
  obtain⟨j,want⟩:=jw;rw[hg] at h ha;simp only at h ha ⊢;cases hu:(all[j]?).bind (·.dst) with
  | none=>rw[hu] at h; cases h
  | some u=>
   rw[hu] at h ha;simp only at h ha ⊢;have e1:s.ρ u=s'.ρ u:=ha.ops (.tmp u) (by simp);rw[← e1];split at h
   ·rename_i b w hs' hN hv;split at h
    ·split at h
     ·rename_i δ q hop;cases h;rw[Yi hop ⟨fun x hx=>ha.ops x (List.mem_cons_of_mem _ hx),ha.pl,ha.len⟩]
     ·cases h
    ·exact h
   ·exact h
   ·cases h
end Go.Mx
namespace Go.Mx
set_option linter.unusedVariables false
set_option linter.unusedSimpArgs false
structure Stp where
 i:Nat
 o:Oper
 hs:List Hint
 δ:Dl
 q:List (Int×Int)
structure RF (s e:ES):Prop where
 ρ:∀t,s.ρ t=e.ρ t
 pl:∀p,fU s.f s.os p=fU e.f e.os p
 len:s.os.length=e.os.length
theorem RF.refl (s:ES):RF s s:=⟨fun _=>rfl,fun _=>rfl,rfl⟩
theorem RF.trans {a b c:ES} (h:RF a b) (k:RF b c):RF a c:=⟨fun t=>(h.ρ t).trans (k.ρ t),fun p=>(h.pl p).trans (k.pl p),h.len.trans k.len⟩
theorem RF.symm {a b:ES} (h:RF a b):RF b a:=⟨fun t=>(h.ρ t).symm,fun p=>(h.pl p).symm,h.len.symm⟩
def Wy (wr:List (Pl×aB)) (p:Pl):Bool:=wr.any fun x=>x.1.V4 p
theorem Ey {α:Type}:∀(f:List (Nat×α)) (u t:Nat) (o:α),gu (dw f u o) t=if t=u then some o else gu f t
 | [],u,t,o=>by
  simp only[dw,gu];by_cases h:t=u
  ·subst h; simp
  ·rw[if_neg h,if_neg (fun h'=>h (Nat.eq_of_beq_eq_true h').symm)]
 | (v,p)::r,u,t,o=>by
  simp only[dw];by_cases hv:Nat.beq v u=true
  ·have:=Nat.eq_of_beq_eq_true hv;subst this;rw[if_pos hv];simp only[gu];by_cases h:t=v
   ·subst h; simp
   ·have:¬Nat.beq v t=true:=fun h'=>h (Nat.eq_of_beq_eq_true h').symm;rw[if_neg h,if_neg this,if_neg this]
  ·rw[if_neg hv];simp only[gu];rw[Ey r u t o];by_cases h:Nat.beq v t=true
   ·have:=Nat.eq_of_beq_eq_true h;subst this;rw[if_pos h,if_pos h,if_neg (fun e=>hv (by rw[e]; simp))]
   ·rw[if_neg h,if_neg h]
instance Pl.dec:DecidableEq Pl:=fun p q=>if h:p.V4 q=true then .isTrue (Pl.Dy h) else .isFalse (fun e=>h (e▸Pl.Jo p))
theorem Jz {f:List (Nat×aB)} {os:List (Option aB)} {p q:Pl} {o:aB}:fU (qK f p o) (oO os p o) q=if q=p then(if fM os p=true then some o else none) else fU f os q:=by
 cases p with
 | own u=>
  cases q with
  | own v=>
   simp only[qK,oO,fU,Ey,Pl.own.injEq,fM,if_true]
  | low j=>simp[qK,oO,fU]
 | low i=>
  cases q with
  | own v=>simp[qK,oO,fU]
  | low j=>
   simp only[qK,oO,fU,Pl.low.injEq];by_cases h:j=i
   ·subst h;rw[if_pos rfl];by_cases hj:j<os.length
    ·have hv:fM os (.low j)=true:=Nat.ble_eq_true_of_le hj;rw[if_pos hv]; simp[hj]
    ·have hv:¬fM os (.low j)=true:=fun h=>hj (Nat.le_of_ble_eq_true h);rw[if_neg hv,List.getElem?_eq_none (by simp; omega)]; rfl
   ·rw[if_neg h,List.getElem?_set_ne (Ne.symm h)]
theorem iQ:∀{wr:List (Pl×aB)} {f:List (Nat×aB)} {os:List (Option aB)} {p:Pl},Wy wr p=false→fU (qG f wr) (l9 os wr) p=fU f os p
 | [],f,os,p,_=>rfl
 | (q,o)::r,f,os,p,h=>by
  simp only[Wy,List.any_cons,Bool.or_eq_false_iff] at h;simp only[qG,l9];rw[iQ (wr:=r) h.2,Jz,if_neg (fun e=>by subst e; rw[Pl.Jo] at h; cases h.1)]
theorem Ir:∀{wr:List (Pl×aB)} {f f':List (Nat×aB)} {os os':List (Option aB)} {p:Pl},os.length=os'.length→Wy wr p=true→fU (qG f wr) (l9 os wr) p=fU (qG f' wr) (l9 os' wr) p
 | [],_,_,_,_,p,_,h=>by cases h
 | (q,o)::r,f,f',os,os',p,hl,h=>by
  simp only[qG,l9];by_cases hr:Wy r p=true
  ·exact Ir (by rw[uO,uO]; exact hl) hr
  ·have hr:Wy r p=false:=by simpa using hr
   rw[iQ hr,iQ hr,Jz,Jz];have:p=q:=by
    simp only[Wy,List.any_cons,Bool.or_eq_true] at h;rcases h with h | h
    ·exact(Pl.Dy h).symm
    ·simp only[Wy] at hr; rw[hr] at h; cases h
   subst this;rw[if_pos rfl,if_pos rfl,Ew hl]
theorem JA {ρ:Nat→ED} {d:Option Nat} {e:ED} {t:Nat}:zI ρ d e t=if d=some t then e else ρ t:=by
 cases d with
 | none=>simp[zI]
 | some u=>
  simp only[zI,qM,Option.some.injEq];by_cases h:t=u
  ·subst h; simp
  ·have:Nat.beq t u=false:=by
    cases hb:Nat.beq t u with
    | false=>rfl
    | true=>exact absurd (Nat.eq_of_beq_eq_true hb) h
   rw[this,if_neg (fun e=>h e.symm)]
theorem RF.app {s s':ES} (h:RF s s') (d:Option Nat) (δ:Dl):RF (s.app d δ) (s'.app d δ):=by
 refine⟨fun t=>?_,fun p=>?_,by simp only[ES.app,pz]; exact h.len⟩
 ·simp only[ES.app,JA,h.ρ t]
 ·simp only[ES.app];cases hp:Wy δ.wr p with
  | true=>exact Ir h.len hp
  | false=>rw[iQ hp,iQ hp]; exact h.pl p
def Run (X:Ctx) (N:Nat) (all:Array Oper):List Stp→ES→ES→Prop
 | [],s,e=>RF s e
 | a::r,s,e=>evG X N all s a.o a.hs=some (a.δ,a.q)∧Run X N all r (s.app a.o.dst a.δ) e
def Iu:Option Nat→List Operand→Bool
 | none,_=>true
 | some t,xs=>xs.all fun x=>match x with
  | .tmp u=>!(Nat.beq u t)
  | _=>true
def FP (wr:List (Pl×aB)) (rd:List Pl):Bool:=rd.all fun p=>!(Wy wr p)
def dne:Option Nat→Option Nat→Bool
 | some a,some b=>!(Nat.beq a b)
 | _,_=>true
def DN (all:Array Oper) (a b:Stp):Bool:=
 Iu a.o.dst (UD all b.o)&&Iu b.o.dst (UD all a.o)&&dne a.o.dst b.o.dst&&FP a.δ.wr b.δ.rd&&FP b.δ.wr a.δ.rd&&FP a.δ.wr (b.δ.wr.map Prod.fst)
section
variable {X : Ctx} {N : Nat} {all : Array Oper}
theorem UE:∀{r:List Stp} {s s' e:ES},RF s s'→Run X N all r s e→Run X N all r s' e
 | [],s,s',e,h,hr=>h.symm.trans hr
 | a::r,s,s',e,h,hr=>⟨Yj hr.1 ⟨fun x _=>by cases x <;> first | rfl | exact h.ρ _,fun p _=>h.pl p,h.len⟩,UE (h.app _ _) hr.2⟩
theorem UF {s:ES} {d:Option Nat} {δ:Dl} {xs:List Operand} {ps:List Pl} (h1:Iu d xs=true) (h2:FP δ.wr ps=true):Td xs ps X.G (s.app d δ) s:=by
 refine⟨fun x hx=>?_,fun p hp=>?_,by simp only[ES.app,pz]⟩
 ·cases x with
  | tmp u=>
   simp only[eY,ES.app,JA];cases d with
   | none=>simp
   | some t=>
    simp only[Iu,List.all_eq_true] at h1;have:=h1 (.tmp u) hx;simp only[Bool.not_eq_true'] at this;rw[if_neg (fun e=>by cases e; simp at this)]
  | _=>rfl
 ·simp only[FP,List.all_eq_true,Bool.not_eq_true'] at h2;exact iQ (h2 p hp)
theorem Td.symm {xs:List Operand} {ps:List Pl} {G:Nat→KD} {s s':ES} (h:Td xs ps G s s'):Td xs ps G s' s:=⟨fun x hx=>(h.ops x hx).symm,fun p hp=>(h.pl p hp).symm,h.len.symm⟩
theorem Yk {a b:Stp} {r:List Stp} {s e:ES} (hc:DN all a b=true) (h:Run X N all (a::b::r) s e):Run X N all (b::a::r) s e:=by
 obtain⟨h1,h2,h3⟩:=h;simp only[DN,Bool.and_eq_true] at hc;obtain⟨⟨⟨⟨⟨c1,c2⟩,c3⟩,c4⟩,c5⟩,c6⟩:=hc;refine⟨Yj h2 (UF c1 c4),Yj h1 (UF c2 c5).symm,UE ?_ h3⟩;refine⟨fun t=>?_,fun p=>?_,by simp only[ES.app,pz]⟩
 ·simp only[ES.app,JA];by_cases hb:b.o.dst=some t
  ·by_cases ha:a.o.dst=some t
   ·rw[ha,hb] at c3; simp[dne] at c3
   ·rw[if_pos hb,if_neg ha,if_pos hb]
  ·by_cases ha:a.o.dst=some t
   ·rw[if_neg hb,if_pos ha]; simp[ha]
   ·simp[ha,hb]
 ·simp only[ES.app];cases hb:Wy b.δ.wr p with
  | true=>
   have ha:Wy a.δ.wr p=false:=by
    simp only[FP,List.all_eq_true,Bool.not_eq_true'] at c6;simp only[Wy,List.any_eq_true] at hb;obtain⟨x,hx,hq⟩:=hb;have:=Pl.Dy hq;subst this;exact c6 x.1 (List.mem_map_of_mem hx)
   rw[iQ ha];exact Ir (by rw[pz]) hb
  | false=>
   rw[iQ hb];cases ha:Wy a.δ.wr p with
   | true=>exact Ir (by rw[pz]) ha
   | false=>rw[iQ ha,iQ ha,iQ hb]
theorem MJ {b:Stp} {R2:List Stp}:∀{R1:List Stp} {s e:ES},(∀a∈R1,DN all a b=true)→Run X N all (R1++b::R2) s e→Run X N all (b::(R1++R2)) s e
 | [],s,e,_,h=>h
 | a::R1,s,e,hc,h=>by
  have ih:=MJ (R1:=R1) (fun c hc'=>hc c (List.mem_cons_of_mem _ hc')) h.2;exact Yk (hc a (List.mem_cons_self)) ⟨h.1,ih⟩
end
def UG (o:Oper) (i:Nat):Bool:=o.after.toList.any fun e=>Region.binds .any e&&Nat.beq e.on i
def WA (ops:Array Oper):Nat→Oper→Nat→Bool
 | 0,_,_=>false
 | n+1,o,i=>o.after.toList.any fun e=>Region.binds .any e&&(Nat.beq e.on i||match ops[e.on]? with
  | some o'=>WA ops n o' i
  | none=>false)
theorem JB {ops:Array Oper} {listed:Array Bool} (down:∀(j:Nat) o,ops[j]? = some o→listed.getD j false=true→∀e∈o.after,Region.binds .any e=true→listed.getD e.on false=true):∀(n:Nat) (o:Oper) (i:Nat),WA ops n o i=true →
  (∀e∈o.after,Region.binds .any e=true→listed.getD e.on false=true)→listed.getD i false=true
 | 0,o,i,h,_=>by cases h
 | n+1,o,i,h,hd=>by
  simp only[WA,List.any_eq_true,Bool.and_eq_true,Bool.or_eq_true] at h;obtain⟨e,he,hb,h⟩:=h;have hl:=hd e (by simpa using he) hb;rcases h with h | h
  ·rw[Nat.eq_of_beq_eq_true h] at hl; exact hl
  ·split at h
   ·rename_i o' ho;exact JB down n o' i h (down e.on o' ho hl)
   ·cases h
structure Plan (ops:Array Oper) (listed:Array Bool) (R:List Stp):Prop where
 mem:∀j,listed.getD j true=false→∃a∈R,a.i=j
 un:∀a∈R,listed.getD a.i true=false∧ops[a.i]? = some a.o
 low:∀a∈R,∀e∈a.o.after,Region.binds .any e=true→e.on<a.i
 pair:R.Pairwise fun a b=>a.i<b.i∧((UG b.o a.i=true∨DN ops a b=true)∨WA ops 4 b.o a.i=true)
 down:∀(j:Nat) o,ops[j]? = some o→listed.getD j false=true→∀e∈o.after,Region.binds .any e=true→listed.getD e.on false=true
 ok:∀a∈R,wI a.δ.ob∧rU a.q
theorem Ld {listed:Array Bool} {j:Nat} (hj:j<listed.size) (h:¬listed.getD j true=false):listed.getD j false=true:=by
 simp[hj] at h ⊢; exact h
theorem getD_lt {listed:Array Bool} {j:Nat} (h:listed.getD j true=false):j<listed.size:=by
 rcases Nat.lt_or_ge j listed.size with h' | h'
 ·exact h'
 ·simp[Array.getElem?_eq_none h'] at h
theorem aaQ {κ:Pl→Key} {low:List (Option dD)→St} {s e:ES} (h:RF s e):s.D κ low=e.D κ low∧dP κ s.ρ=dP κ e.ρ:=by
 have h1:jA (fA κ s.f)=jA (fA κ e.f):=by
  funext u
  rw[uj,uj];have:=h.pl (.own u);simp only[fU] at this;rw[this]
 have h2:s.os=e.os:=by
  apply List.ext_getElem?;intro i;have:=h.pl (.low i);simp only[fU] at this;by_cases hi:i<s.os.length
  ·have hi':i<e.os.length:=by rw[← h.len]; exact hi
   rw[List.getElem?_eq_getElem hi,List.getElem?_eq_getElem hi'] at this ⊢;simp only[Option.getD_some] at this;rw[this]
  ·rw[List.getElem?_eq_none (by omega),List.getElem?_eq_none (by rw[← h.len]; omega)]
 refine⟨by unfold ES.D bT; rw[h1,h2],?_⟩;unfold dP
 funext t
 rw[h.ρ t]
theorem Gz {W:Wd} {k:List KI} {ops:Array Oper} {e:ES} (hk:WS W k e) (hsz:∀listed:Array Bool,listed.size=ops.size→True):∀(n:Nat) (listed:Array Bool) (R:List Stp) (s:ES),R.length=n→listed.size=ops.size→Plan ops listed R→Run W.X W.N ops R s e→s.os.length=W.ks.length →
  ∀(B:Base) cx a w,B.L=W.U.L→(s.D W.κ W.low).length=W.U.L+1→Ext (lv B.L) B.cx B.w cx w→eU W.X.E W.U.N cx (dP W.κ s.ρ) (s.D W.κ W.low) a w →
   wpAny W.X.E.P .any ops (rO W.X.E.P (Gc W.X.E W.U.N B) k (Fin W.X.E W.U.fn W.F B)) n listed a w
 | 0,listed,R,s,hn,hls,hp,hr,hlen,B,cx,a,w,hB,hl,he,hrel=>by
  have hR:R=[]:=List.eq_nil_of_length_eq_zero hn;subst hR;have acK:Region.ready .any ops listed=[]:=by
   apply List.eq_nil_iff_forall_not_mem.2;intro j hj;obtain⟨h0,_⟩:=mem_ready.1 hj;obtain⟨a,ha,_⟩:=hp.mem j h0;cases ha
  obtain⟨g1,g2⟩:=aaQ (κ:=W.κ) (low:=W.low) hr;refine⟨acK,?_⟩;rw[g1,g2] at hrel;rw[g1] at hl;exact hk (by rw[← hr.len]; exact hlen) B cx a w hB hl he hrel
 | n+1,listed,R,s,hn,hls,hp,hr,hlen,B,cx,a,w,hB,hl,he,hrel=>by
  refine⟨fun h0=>?_,fun i hi=>?_⟩
  ·exfalso;cases R with
   | nil=>simp at hn
   | cons b T=>
    obtain⟨hb1,hb2⟩:=hp.un b (List.mem_cons_self);have:b.i∈Region.ready .any ops listed:=mem_ready.2 ⟨hb1,b.o,hb2,fun e' he' hbi=>by
     have hlt:=hp.low b (List.mem_cons_self) e' he' hbi;have hbs:b.i<listed.size:=getD_lt hb1;refine Ld (by omega) (fun hun=>?_);obtain⟨c,hc,hci⟩:=hp.mem _ hun;cases hc with
     | head=>omega
     | tail _ hc=>
      have:=(List.pairwise_cons.1 hp.pair).1 c hc;omega⟩
    rw[h0] at this;cases this
  ·obtain⟨hun,oi,hoi,acL⟩:=mem_ready.1 hi;obtain⟨b,hb,hbi⟩:=hp.mem i hun;subst hbi;obtain⟨R1,R2,rfl⟩:=List.append_of_mem hb;obtain⟨_,hbo⟩:=hp.un b hb;rw[hoi] at hbo;cases hbo;have MK:=List.pairwise_append.1 hp.pair;have aeR:∀c∈R1,DN ops c b=true:=fun c hc=>by
    have:=MK.2.2 c hc b (List.mem_cons_self);rcases this.2 with (h1 | h1) | h1
    ·exfalso;simp only[UG,List.any_eq_true,Bool.and_eq_true] at h1;obtain⟨e',he',hbi,hon⟩:=h1;have hon:=Nat.eq_of_beq_eq_true hon;have hd:=acL e' (by simpa using he') hbi;have hcu:=(hp.un c (List.mem_append_left _ hc)).1;rw[hon] at hd;have:=getD_lt hcu;simp[this] at hcu hd;rw[hcu] at hd; cases hd
    ·exact h1
    ·exfalso;have hd:=JB hp.down 4 b.o c.i h1 acL;have hcu:=(hp.un c (List.mem_append_left _ hc)).1;have:=getD_lt hcu;simp[this] at hcu hd;rw[hcu] at hd; cases hd
   have hrun:=MJ aeR hr;obtain⟨hev,hrun2⟩:=hrun;obtain⟨o1,o2⟩:=hp.ok b hb;obtain⟨g1,g2⟩:=PV (U:=W.U) W.hl W.hL hlen hev o1 o2;unfold wpOp;simp only[hoi];refine g1 cx a w hrel _ _ fun bK a' w' h0 h1 h2=>?_;have h0':((s.app b.o.dst b.δ).D W.κ W.low).length=(s.D W.κ W.low).length:=h0;have hp':Plan ops (listed.setIfInBounds b.i true) (R1++R2):=by
    have hbs:b.i<listed.size:=getD_lt hun;have hnot:∀c∈R1++R2,c.i≠b.i:=fun c hc=>by
     rcases List.mem_append.1 hc with hc | hc
     ·have:=(MK.2.2 c hc b (List.mem_cons_self)).1; omega
     ·have:=((List.pairwise_cons.1 MK.2.1).1 c hc).1; omega
    refine⟨fun j hj=>?_,fun c hc=>?_,fun c hc=>hp.low c ?_,?_,fun j o ho hj e' he' hbi=>?_,fun c hc=>hp.ok c ?_⟩
    ·by_cases hjb:b.i=j
     ·subst hjb; simp[hbs] at hj
     ·rw[getD_set_ne true hjb] at hj;obtain⟨c,hc,hci⟩:=hp.mem j hj;refine⟨c,?_,hci⟩;rcases List.mem_append.1 hc with hc | hc
      ·exact List.mem_append_left _ hc
      ·cases hc with
       | head=>exact absurd hci hjb
       | tail _ hc=>exact List.mem_append_right _ hc
    ·have hc':c∈R1++b::R2:=by
      rcases List.mem_append.1 hc with hc | hc
      ·exact List.mem_append_left _ hc
      ·exact List.mem_append_right _ (List.mem_cons_of_mem _ hc)
     rw[getD_set_ne true (Ne.symm (hnot c hc))];exact hp.un c hc'
    ·rcases List.mem_append.1 hc with hc | hc
     ·exact List.mem_append_left _ hc
     ·exact List.mem_append_right _ (List.mem_cons_of_mem _ hc)
    ·refine List.pairwise_append.2 ⟨MK.1,(List.pairwise_cons.1 MK.2.1).2,fun c hc d hd=>MK.2.2 c hc d (List.mem_cons_of_mem _ hd)⟩
    ·have key:listed.getD e'.on false=true:=by
      by_cases hjb:b.i=j
      ·subst hjb;rw[hoi] at ho; cases ho;exact acL e' he' hbi
      ·refine hp.down j o ho ?_ e' he' hbi;simp only[Array.getD_eq_getD_getElem?] at hj ⊢
       rwa [Array.getElem?_setIfInBounds_ne hjb] at hj
     simp only[Array.getD_eq_getD_getElem?] at key ⊢;by_cases hbe:b.i=e'.on
     ·rw[← hbe]; simp[hbs]
     ·rwa [Array.getElem?_setIfInBounds_ne hbe]
    ·rcases List.mem_append.1 hc with hc | hc
     ·exact List.mem_append_left _ hc
     ·exact List.mem_append_right _ (List.mem_cons_of_mem _ hc)
   exact Gz hk hsz n _ (R1++R2) _ (by simp at hn ⊢; omega) (by simp[hls]) hp' hrun2 (by simp only[ES.app,pz]; exact hlen) B bK a' w' hB (by omega) (he.trans (h2.weaken fun _ _=>rfl)) h1
end Go.Mx
namespace Go.Mx
set_option linter.unusedVariables false
set_option linter.unusedSimpArgs false
def lkH:List (Nat×List Hint)→Nat→List Hint
 | [],_=>[]
 | (j,h)::r,i=>match Nat.beq j i with
  | true=>h
  | false=>lkH r i
def Ad (X:Ctx) (N:Nat) (all:Array Oper) (hq:List (Nat×List Hint)):Nat→List Oper→ES→Option (List Stp×ES)
 | _,[],s=>some ([],s)
 | i,o::r,s=>
  match evG X N all s o (lkH hq i) with
  | none=>none
  | some (δ,q)=>
   match Ad X N all hq (i+1) r (s.app o.dst δ) with
   | none=>none
   | some (R,e)=>some (⟨i,o,lkH hq i,δ,q⟩::R,e)
def Iw (all:Array Oper):List Stp→Bool
 | []=>true
 | a::r=>(r.all fun b=>UG b.o a.i||DN all a b||WA all 4 b.o a.i)&&(a.o.after.toList.all fun e=>!(Region.binds .any e)||Nat.blt e.on a.i)&&Iw all r
def ML:List Stp→Prop
 | []=>True
 | a::r=>match a.δ.ob with
  | none=>ML r
  | some p=>p∧ML r
def acM:List Stp→List (Int×Int)
 | []=>[]
 | a::r=>a.q++acM r
def aeS (X:Ctx) (N:Nat) (live:List Nat) (ops:Array Oper) (s:ES) (hq:List (Nat×List Hint)):Option (List ED×List (Nat×aB)×List (Option aB)×Prop×List (Int×Int)):=
 match Ad X N ops hq 0 ops.toList s with
 | some (R,e)=>match Iw ops R with
  | true=>some (live.map e.ρ,e.f,e.os,ML R,acM R)
  | false=>none
 | none=>none
section
variable {X : Ctx} {N : Nat} {all : Array Oper} {hq : List (Nat × List Hint)}
theorem P5:∀{i:Nat} {l:List Oper} {s e:ES} {R:List Stp},Ad X N all hq i l s=some (R,e)→Run X N all R s e
 | i,[],s,e,R,h=>by cases h; exact RF.refl _
 | i,o::r,s,e,R,h=>by
  simp only[Ad] at h;split at h
  ·cases h
  ·rename_i δ q hg;split at h
   ·cases h
   ·rename_i R' e' hr;cases h;exact⟨hg,P5 hr⟩
theorem UH:∀{i:Nat} {l:List Oper} {s e:ES} {R:List Stp},Ad X N all hq i l s=some (R,e)→R.length=l.length∧(∀a∈R,i≤a.i∧l[a.i-i]? = some a.o)∧(∀j,j<l.length→∃a∈R,a.i=i+j)∧R.Pairwise (fun a b=>a.i<b.i)
 | i,[],s,e,R,h=>by cases h; exact⟨rfl,by simp,by simp,List.Pairwise.nil⟩
 | i,o::r,s,e,R,h=>by
  simp only[Ad] at h;split at h
  ·cases h
  ·rename_i δ q hg;split at h
   ·cases h
   ·rename_i R' e' hr;cases h;obtain⟨h1,h2,h3,h4⟩:=UH hr;refine⟨by simp[h1],fun a ha=>?_,fun j hj=>?_,?_⟩
    ·cases ha with
     | head=>exact⟨Nat.le_refl _,by simp⟩
     | tail _ ha=>
      obtain⟨g1,g2⟩:=h2 a ha;refine⟨by omega,?_⟩;rw[show a.i-i=(a.i-(i+1))+1 by omega,List.getElem?_cons_succ];exact g2
    ·cases j with
     | zero=>exact⟨_,List.mem_cons_self,rfl⟩
     | succ j=>
      obtain⟨a,ha,hi⟩:=h3 j (by simpa using hj);exact⟨a,List.mem_cons_of_mem _ ha,by omega⟩
    ·exact List.pairwise_cons.2 ⟨fun a ha=>by have:=(h2 a ha).1; show i<a.i; omega,h4⟩
theorem UJ:∀{R:List Stp},ML R→rU (acM R)→∀a∈R,wI a.δ.ob∧rU a.q
 | [],_,_,a,h=>by cases h
 | b::r,ho,hq,a,h=>by
  obtain⟨q1,q2⟩:=Eu hq;have:wI b.δ.ob∧ML r:=by
   simp only[ML] at ho;cases hb:b.δ.ob with
   | none=>rw[hb] at ho; exact⟨trivial,ho⟩
   | some p=>rw[hb] at ho; exact ho
  cases h with
  | head=>exact⟨this.1,q1⟩
  | tail _ h=>exact UJ this.2 q2 a h
theorem MN:∀{R:List Stp},Iw all R=true→R.Pairwise (fun a b=>(UG b.o a.i=true∨DN all a b=true)∨WA all 4 b.o a.i=true)∧∀a∈R,∀e∈a.o.after,Region.binds .any e=true→e.on<a.i
 | [],_=>⟨List.Pairwise.nil,by simp⟩
 | a::r,h=>by
  simp only[Iw,Bool.and_eq_true,List.all_eq_true,Bool.or_eq_true,Bool.not_eq_true'] at h;obtain⟨⟨h1,h2⟩,h3⟩:=h;obtain⟨g1,g2⟩:=MN h3;refine⟨List.pairwise_cons.2 ⟨h1,g1⟩,fun b hb e he hbi=>?_⟩;cases hb with
  | head=>
   rcases h2 e (by simpa using he) with h | h
   ·rw[hbi] at h; cases h
   ·exact Nat.le_of_ble_eq_true h
  | tail _ hb=>exact g2 b hb e he hbi
end
end Go.Mx
namespace Go.Mx
set_option linter.unusedVariables false
set_option linter.unusedSimpArgs false
theorem WG.flat {W:Wd} {k k':List KI} {l:List (Nat×ED)} {f:List (Nat×aB)} {os:List (Option aB)} (hf:flatK 64 k=k') (h:WG W k' l f os):WG W k l f os:=by
 subst hf; exact WS.flat (n:=64) h
section
variable {W : Wd} {k k' : List KI} {l : List (Nat × ED)} {f : List (Nat × aB)} {os : List (Option aB)}
theorem WG.cond {c:Operand} {x y:Code} {b:Bool} (hf:flatK 64 k=.code (.cond c x y)::k') (hc:eY W.X.G (gY l) c=.d (.v (.bool b)))
  (h1:b=true→WG W (.code x::k') l f os) (h2:b=false→WG W (.code y::k') l f os):WG W k l f os:=
 WG.flat hf fun hlen=>AW.cond (t:=b) (by rw[dB W.X.hG,hc]; rfl) (fun h=>h1 h hlen) (fun h=>h2 h hlen)
theorem WG.abN {c:Operand} {x y:Code} {p:Prop} [Decidable p] (hf:flatK 64 k=.code (.cond c x y)::k') (hc:eY W.X.G (gY l) c=.d (.v (.bool (decide p))))
  (h1:p→WG W (.code x::k') l f os) (h2:¬p→WG W (.code y::k') l f os):WG W k l f os:=
 WG.cond hf hc (fun h=>h1 (of_decide_eq_true h)) (fun h=>h2 (of_decide_eq_false h))
def UK (gI:List Nat) (t:Nat) (e:ED):ED:=match gI.any (Nat.beq t) with
 | true=>aci e
 | false=>e
theorem Yl {κ:Pl→Key} {gI:List Nat} {t:Nat} {e:ED}:Wk (e.D κ) ((UK gI t e).D κ):=by
 unfold UK;split
 ·exact Ut e
 ·exact Wk.refl _
def pF (gI:List Nat) (ρ:Nat→ED) (live:List Nat):List ED:=live.map fun t=>UK gI t (ρ t)
theorem UL {κ:Pl→Key} {gI:List Nat} {ρ:Nat→ED}:∀{l:List (Nat×ED)},pF gI ρ (l.map Prod.fst)=l.map Prod.snd→∀t,Wk ((ρ t).D κ) ((gY l t).D κ)
 | [],_,t=>Wk.any _
 | (u,e)::r,h,t=>by
  simp only[pF,List.map_cons,List.cons.injEq] at h;simp only[gY,qM];cases hb:Nat.beq t u with
  | true=>
   have:=Nat.eq_of_beq_eq_true hb;subst this;simp only;rw[← h.1]; exact Yl
  | false=>exact UL h.2 t
theorem WG.less (gI:List Nat) (l':List (Nat×ED)) (he:pF gI (gY l) (l'.map Prod.fst)=l'.map Prod.snd) (hk:WG W k l' f os):WG W k l f os:=
 fun hlen=>AW.weak (UL he) (hk hlen)
def iterM {σ ρ:Type}:Nat→(σ→Option (ρ⊕σ))→σ→Option ρ
 | 0,_,_=>none
 | n+1,step,s=>(step s).bind fun r=>match r with
  | .inl r=>some r
  | .inr s'=>iterM n step s'
def UM (W:Wd) {σ:Type} (env:σ→List (Nat×ED)) (fr:σ→List (Nat×aB)) (low:σ→List (Option aB)) (I:Nat→σ→Prop) (n:Nat):Env→St→Prop:=
 fun ρ st=>∃j,j<n∧∃s,I j s∧(low s).length=W.ks.length∧ρ=dP W.κ (gY (env s))∧st=bT W.κ W.low (fr s) (low s)
theorem WG.loop {c:Code} {σ:Type} (hf:flatK 64 k=.code (.loop c)::k') (env:σ→List (Nat×ED)) (fr:σ→List (Nat×aB)) (low:σ→List (Option aB)) (I:Nat→σ→Prop) (n:Nat) (s:σ) (h0:I n s) (gI:List Nat)
  (he:pF gI (gY l) ((env s).map Prod.fst)=(env s).map Prod.snd) (h1:f=fr s) (h2:os=low s)
  (round:∀n s,I n s→WG W (.code c::.goal (UM W env fr low I n)::k') (env s) (fr s) (low s)):WG W k l f os:=by
 refine WG.flat hf ?_;subst h1; subst h2;refine WG.less gI (env s) he fun hlen=>?_;refine AW.loop (ι:=Nat×σ) (fun i ρ st=>I i.1 i.2∧(low i.2).length=W.ks.length∧ρ=dP W.κ (gY (env i.2))∧st=bT W.κ W.low (fr i.2) (low i.2)) (fun i=>i.1) (n,s) ⟨h0,hlen,rfl,rfl⟩ ?_;rintro ⟨n,s⟩ ρ st _ ⟨g1,g2,g3,g4⟩;subst g3; subst g4;have:=round n s g1 g2;intro B cx a w hB hl' he' hr;refine Code.wp_mono (fun e a' w' h=>?_) (this B cx a w hB hl' he' hr);cases e with
 | normal=>
  obtain⟨ρ',st',bK,⟨j,hj,s',h1,h2,h3,h4⟩,hl2,hr2,he2⟩:=h;exact⟨ρ',st',bK,⟨(j,s'),hj,h1,h2,h3,h4⟩,hl2,hr2,he2⟩
 | _=>exact h
theorem WG.next {σ:Type} {env:σ→List (Nat×ED)} {fr:σ→List (Nat×aB)} {low:σ→List (Option aB)} {I:Nat→σ→Prop} {n:Nat} (hf:flatK 64 k=.goal (UM W env fr low I n)::k') (j:Nat) (hj:j<n) (s:σ) (hI:I j s) (gI:List Nat)
  (he:pF gI (gY l) ((env s).map Prod.fst)=(env s).map Prod.snd) (h1:f=fr s) (h2:os=low s):WG W k l f os:=by
 subst h1; subst h2;exact WG.flat hf (WG.less gI _ he fun hlen=>AW.goal ⟨j,hj,s,hI,hlen,rfl,rfl⟩)
theorem Tj {σ ρ:Type} {n:Nat} {step:σ→Option (ρ⊕σ)} {s:σ} {o:ρ} (h:iterM n step s=some o):∃m,n=m+1∧((step s).bind fun r=>match r with
  | .inl r=>some r
  | .inr s'=>iterM m step s')=some o:=by
 cases n with
 | zero=>cases h
 | succ m=>exact⟨m,rfl,h⟩
def bI {α σ ρ:Type} (step:σ→Nat→α→Option (ρ⊕σ)):Nat→List α→σ→Option (ρ⊕σ)
 | _,[],s=>some (.inr s)
 | i,x::l,s=>(step s i x).bind fun r=>match r with
  | .inl r=>some (.inl r)
  | .inr s'=>bI step (i+1) l s'
def dV {α σ:Type} (step:σ→Nat→α→Option σ):Nat→List α→σ→Option σ
 | _,[],s=>some s
 | i,x::l,s=>(step s i x).bind fun s'=>dV step (i+1) l s'
theorem bnd {α β:Type} {o:Option α} {g:α→Option β} {r:β} (h:o.bind g=some r):∃x,o=some x∧g x=some r:=by
 cases o with
 | none=>cases h
 | some x=>exact⟨x,rfl,h⟩
theorem aJ {α:Type} {p:Prop} [Decidable p] {a b r:α} (hp:p) (h:(if p then a else b)=r):a=r:=by rwa [if_pos hp] at h
theorem aK {α:Type} {p:Prop} [Decidable p] {a b r:α} (hp:¬p) (h:(if p then a else b)=r):b=r:=by rwa [if_neg hp] at h
theorem Tn {α:Type} {xs l:List α} {i:Nat} (h:xs.drop i=l) (hi:i<xs.length):∃x r,l=x::r∧xs[i]? = some x∧xs.drop (i+1)=r:=by
 refine⟨xs[i],xs.drop (i+1),?_,List.getElem?_eq_getElem hi,rfl⟩;rw[← h]; exact List.drop_eq_getElem_cons hi
theorem drop_nil' {α:Type} {xs l:List α} {i:Nat} (h:xs.drop i=l) (hi:¬i<xs.length):l=[]:=by
 rw[← h]; exact List.drop_eq_nil_of_le (by omega)
theorem WG.Xt (t:Nat) {z:Nat} {xs:List (List KD)} (h:Uu (gY l t)=some (z,xs)) (hk:xs.length≤9223372036854775807→WG W k l f os):WG W k l f os:=fun hlen=>by
 obtain⟨tok,htok⟩:=Jf (κ:=W.κ) h;have hx:ev W.X.E (dP W.κ (gY l)) (.tmp t)=.sl z tok (KD.DLL xs):=htok;exact AW.Xt hx fun hb=>hk (by rw[dK] at hb; exact hb) hlen
end
end Go.Mx
namespace Go.Mx
set_option linter.unusedVariables false
set_option linter.unusedSimpArgs false
def Pl.vW (n:Nat) (u:Option Nat):Pl→Bool
 | .own v=>match u with
  | some w=>!(Nat.beq v w)
  | none=>false
 | .low i=>Nat.blt i n
mutual
def ED.vW (n:Nat) (u:Option Nat):ED→Bool
 | .d _=>true
 | .ptr p _=>p.vW n u
 | .el p _ _ _=>p.vW n u
 | .gs p _ _=>p.vW n u
 | .sb p _=>p.vW n u
 | .vs p _ _=>p.vW n u
 | .ve p _ _ _ _=>p.vW n u
 | .clo _ a b=>wJ n u a&&wJ n u b
 | .dU ds=>wJ n u ds
 | .agg cs=>wJ n u cs
def wJ (n:Nat) (u:Option Nat):List ED→Bool
 | []=>true
 | e::r=>e.vW n u&&wJ n u r
end
def aB.vW (n:Nat) (u:Option Nat):aB→Bool
 | .cells cs=>wJ n u cs
 | _=>true
def CB (n:Nat) (u:Option Nat):List (Nat×aB)→Bool
 | []=>true
 | p::r=>p.2.vW n u&&CB n u r
section
variable {ks : List Key} {low : List (Option dD) → St} {L : Nat}
theorem yR (hl:Low ks low) (hL:∀os,(low os).length=L) {n:Nat} (hn:n=ks.length) {u:Nat} {p:Pl} (h:p.vW n (some u)=true):notKey L u (aT L ks p)=true:=by
 cases p with
 | own v=>
  simp only[Pl.vW,Bool.not_eq_true'] at h;exact dL.2 (fun e=>by simp only[aT,Prod.mk.injEq,true_and] at e; subst e; simp at h)
 | low i=>
  have hi:i<n:=Nat.le_of_ble_eq_true h;have e:ks[i]? = some (ks[i]'(by omega)):=List.getElem?_eq_getElem (by omega);rw[je e];have:=hl.lt [] i _ e;rw[hL] at this;exact dL.2 (fun e'=>by rw[e'] at this; simp at this)
theorem FQ (hl:Low ks low) (hL:∀os,(low os).length=L) {n:Nat} (hn:n=ks.length) {p:Pl} (h:p.vW n none=true):lv L (aT L ks p)=true∧aT L ks p=aT 0 ks p:=by
 cases p with
 | own v=>cases h
 | low i=>
  have hi:i<n:=Nat.le_of_ble_eq_true h;have e:ks[i]? = some (ks[i]'(by omega)):=List.getElem?_eq_getElem (by omega);rw[je e,je e];have:=hl.lt [] i _ e;rw[hL] at this;exact⟨by simp[lv,this],rfl⟩
mutual
theorem Iy {q:Key→Bool} {κ:Pl→Key} {n:Nat} {u:Option Nat} (hp:∀p:Pl,p.vW n u=true→q (κ p)=true):∀e:ED,e.vW n u=true→(e.D κ).all q=true
 | .d x,_=>KD.lK q x
 | .ptr p o,h=>hp p h
 | .el p z i o,h=>hp p h
 | .gs p z xs,h=>by simp only[ED.D,D.all,Tok.all,Bool.and_eq_true]; exact⟨hp p h,KD.iW q xs⟩
 | .sb p m,h=>hp p h
 | .vs p z m,h=>hp p h
 | .ve p z m i o,h=>hp p h
 | .clo g a b,h=>by simp only[ED.vW,Bool.and_eq_true] at h; simp only[ED.D,D.all,Bool.and_eq_true]; exact⟨xB hp a h.1,xB hp b h.2⟩
 | .dU ds,h=>by simp only[ED.D,D.all]; exact xB hp ds h
 | .agg ds,h=>by simp only[ED.D,D.all]; exact xB hp ds h
theorem xB {q:Key→Bool} {κ:Pl→Key} {n:Nat} {u:Option Nat} (hp:∀p:Pl,p.vW n u=true→q (κ p)=true):∀l:List ED,wJ n u l=true→allL q (ED.DL κ l)=true
 | [],_=>rfl
 | e::r,h=>by simp only[wJ,Bool.and_eq_true] at h; simp only[ED.DL,allL,Bool.and_eq_true]; exact⟨Iy hp e h.1,xB hp r h.2⟩
end
mutual
theorem JC {κ κ':Pl→Key} {n:Nat} {u:Option Nat} (hp:∀p:Pl,p.vW n u=true→κ p=κ' p):∀e:ED,e.vW n u=true→e.D κ=e.D κ'
 | .d x,_=>rfl
 | .ptr p o,h=>by simp only[ED.D,hp p h]
 | .el p z i o,h=>by simp only[ED.D,hp p h]
 | .gs p z xs,h=>by simp only[ED.D,hp p h]
 | .sb p m,h=>by simp only[ED.D,hp p h]
 | .vs p z m,h=>by simp only[ED.D,hp p h]
 | .ve p z m i o,h=>by simp only[ED.D,hp p h]
 | .clo g a b,h=>by simp only[ED.vW,Bool.and_eq_true] at h; simp only[ED.D,pG hp a h.1,pG hp b h.2]
 | .dU ds,h=>by simp only[ED.D,pG hp ds h]
 | .agg ds,h=>by simp only[ED.D,pG hp ds h]
theorem pG {κ κ':Pl→Key} {n:Nat} {u:Option Nat} (hp:∀p:Pl,p.vW n u=true→κ p=κ' p):∀l:List ED,wJ n u l=true→ED.DL κ l=ED.DL κ' l
 | [],_=>rfl
 | e::r,h=>by simp only[wJ,Bool.and_eq_true] at h; simp only[ED.DL,JC hp e h.1,pG hp r h.2]
end
end
def fV {α:Type}:List (Nat×α)→Nat→List (Nat×α)
 | [],_=>[]
 | (u,p)::r,t=>match Nat.beq u t with
  | true=>fV r t
  | false=>(u,p)::fV r t
theorem sV {κ:Pl→Key}:∀(f:List (Nat×aB)) (u:Nat),fA κ (fV f u)=Sl (fA κ f) u
 | [],u=>rfl
 | (v,p)::r,u=>by
  simp only[fA,fV,List.map_cons,Sl];cases h:Nat.beq v u with
  | true=>simp only[if_true]; exact sV r u
  | false=>simp only[List.map_cons,Bool.false_eq_true,if_false,List.cons.injEq,true_and]; exact sV r u
def lD (κ:Pl→Key) (l:List (Nat×ED)):List (Nat×D):=l.map fun p=>(p.1,p.2.D κ)
theorem vX {κ:Pl→Key}:∀l:List (Nat×ED),dP κ (gY l)=zU (lD κ l)
 | []=>rfl
 | (t,e)::r=>by
  simp only[gY,lD,List.map_cons,zU,sU,vX r]
def DR (n:Nat) (u:Option Nat):List (Nat×ED)→Bool
 | []=>true
 | p::r=>p.2.vW n u&&DR n u r
theorem uT {κ:Pl→Key} {q:Key→Bool} {n:Nat} {u:Option Nat} (hp:∀p:Pl,p.vW n u=true→q (κ p)=true):∀l:List (Nat×ED),DR n u l=true→VW q (lD κ l)=true
 | [],_=>rfl
 | p::r,h=>by
  simp only[DR,Bool.and_eq_true] at h;have:=uT hp r h.2;simp only[lD] at this;simp only[lD,List.map_cons,VW,this,Bool.and_true];exact Iy hp p.2 h.1
theorem rW {κ:Pl→Key} {q:Key→Bool} {n:Nat} {u:Option Nat} (hp:∀p:Pl,p.vW n u=true→q (κ p)=true):∀l:List (Nat×aB),CB n u l=true→KX q (fA κ l)=true
 | [],_=>rfl
 | (t,o)::r,h=>by
  simp only[CB,Bool.and_eq_true] at h;have ih:=rW hp r h.2;cases o with
  | cells cs=>
   show(allL q (ED.DL κ cs)&&KX q (fA κ r))=true;rw[ih,xB hp cs h.1]; rfl
  | tok n e=>exact ih
  | rows z xs=>
   show(allL q (KD.DLL xs).flatten&&KX q (fA κ r))=true;rw[ih,rQ,KD.iP q]; rfl
  | vec e z xs=>
   show(allL q (KD.DLL xs).flatten&&KX q (fA κ r))=true;rw[ih,rQ,KD.iP q]; rfl
theorem P6 {ρ:Env}:∀{l:List (Nat×D)},(∀p∈l,ρ p.1=p.2)→Xz ρ l
 | [],_=>.nil
 | (t,d)::r,h=>.same (h _ (List.mem_cons_self)) (P6 fun p hp=>h p (List.mem_cons_of_mem _ hp))
section
variable {W : Wd} {k k' : List KI} {l : List (Nat × ED)} {f : List (Nat × aB)} {os : List (Option aB)}
theorem WG.drop (u:Nat) (h1:DR os.length (some u) l=true) (h2:CB os.length (some u) (fV f u)=true) (hk:WG W k l (fV f u) os):WG W k l f os:=fun hlen=>by
 have hp:∀p:Pl,p.vW os.length (some u)=true→notKey W.L u (W.κ p)=true:=fun p hp=>yR W.hl W.hL hlen hp;show AW W.X.E W.U k W.F (dP W.κ (gY l)) (jA (fA W.κ f)::W.low (gG W.κ os));have hL:=W.hL (gG W.κ os);have h2':=rW hp _ h2;have h1':=uT hp _ h1;have:=hk hlen;have:AW W.X.E W.U k W.F (dP W.κ (gY l)) (jA (fA W.κ (fV f u))::W.low (gG W.κ os)):=this;rw[vX] at this ⊢;rw[sV] at this h2';rw[← hL] at h1' h2';refine AW.drop (l:=lD W.κ l) u h1' ?_ (by rw[jU]; exact this);rw[jU];exact jd.ok h2'
def aaR (n:Nat):ED→Option ED
 | .gs (.own _) z xs=>some (.d (.sl z false xs))
 | .d (.sl z _ xs)=>some (.d (.sl z false xs))
 | e=>match e.vW n none with
  | true=>some e
  | false=>none
def Le (n:Nat):List ED→Option (List ED)
 | []=>some []
 | e::r=>match Ym n e,Le n r with
  | some x,some y=>some (x::y)
  | _,_=>none
where
 Ym (n:Nat):ED→Option ED
 | .agg cs=>match Yn n cs with
  | some c=>some (Gt c)
  | none=>none
 | .d (.agg ks)=>some (.d (.agg (ks.map zX)))
 | e=>aaR n e
 Yn (n:Nat):List ED→Option (List ED)
 | []=>some []
 | e::r=>match aaR n e,Yn n r with
  | some x,some y=>some (x::y)
  | _,_=>none
end
end Go.Mx
namespace Go.Mx
open Go.ChangeShapes Go.WideShapes Go.ChangeAt Go.RowKit
set_option linter.unusedVariables false
set_option linter.unusedSimpArgs false
section
variable {H : Type} {enc : TypeId × Value → H} {P : Program} {w : World} {sp : Nat → Bool} {held : Bool} {cx : Cx} {α : Type}
def Op (enc:TypeId×Value→H) (P:Program) (w:World) (sp:Nat→Bool) (held:Bool) (cx:Cx) (n:Nat) (t:TypeId) (f:α→List D) (ok:α→Prop):Prop:=
 ∀fuel,fuel≤n→∀cs x,DataW.trod enc P w 0 sp held fuel t cs=some x→∃a,ok a∧RD cx w (f a) cs
theorem RD.one {d:D} {x:Value} (h:Rd cx w d x):RD cx w [d] [x]:=⟨rfl,fun j d' y hd hy=>by
 cases j with
 | zero=>simp at hd hy; subst hd; subst hy; exact h
 | succ j=>simp at hd⟩
theorem Op.int {n:Nat} {t:TypeId} {k:IntKind} (ht:P.underlying t=some (.int k)):Op enc P w sp held cx n t (fun i=>[.v (.int k i)]) (fun i=>(Lit.int k i).wf=true):=fun fuel _ cs x h=>by
 obtain⟨i,rfl,_,hw⟩:=DataW.trod_int ht h;exact⟨i,hw,.one (.v _)⟩
theorem JD {p:Nat→α→Prop}:∀(n:Nat),(∀i,i<n→∃a,p i a)→∃l:List α,l.length=n∧∀(i:Nat) a,l[i]? = some a→p i a
 | 0,_=>⟨[],rfl,by simp⟩
 | n+1,h=>by
  obtain⟨l,h1,h2⟩:=JD n (fun i hi=>h i (by omega));obtain⟨a,ha⟩:=h n (by omega);refine⟨l++[a],by simp[h1],fun i b hi=>?_⟩;by_cases hin:i<l.length
  ·rw[List.getElem?_append_left hin] at hi; exact h2 i b hi
  ·rw[List.getElem?_append_right (by omega)] at hi;have:i-l.length=0:=by
    rcases Nat.eq_zero_or_pos (i-l.length) with h' | h'
    ·exact h'
    ·rw[List.getElem?_eq_none (by simp; omega)] at hi; cases hi
   rw[this] at hi; simp at hi; subst hi;have:i=n:=by omega
   rw[this]; exact ha
theorem Op.slice {n:Nat} {t e:TypeId} {sz:Nat} {f:α→List D} {ok:α→Prop} (hM:∀b o,¬cx.M b o) (ht:P.underlying t=some (.slice e)) (hc:P.cellsOf e=sz) (hsz:0<sz) (hf:∀a,(f a).length=sz) (h:Op enc P w sp held cx n e f ok) :
  Op enc P w sp held cx (n+1) t (fun l:List α=>[.sl sz .ro (l.map f)]) (fun l=>l.length≤maxLen∧∀a∈l,ok a):=fun fuel hfu cs x hx=>by
 rcases DataW.trod_slice ht hx with ⟨rfl,_⟩ | ⟨a,len,cap,elems,rest,m,rfl,rfl,_,hb,hl,hm,hlen,hel,_,_⟩
 ·exact⟨[],⟨by simp,by simp⟩,.one (.sl (0,0) (fun _ _=>undef) (by simp) (by unfold maxLen; omega) (by simp) (by simp) (by simp) (by simp) trivial)⟩
 ·have hi:∀i,i<len→∃b,ok b∧∃cells,w.cells? 0 (a.add (i*sz)) sz=some cells∧RD cx w (f b) cells:=fun i hi=>by
   have h1:=hel i hi;rw[hc] at h1;have h2:elems[i]? = some elems[i]:=List.getElem?_eq_getElem (by omega);rw[h2,Option.bind_eq_some_iff] at h1;obtain⟨cells,h3,h4⟩:=h1;obtain⟨b,h5,h6⟩:=h m (by omega) cells _ h4;exact⟨b,h5,cells,h3,h6⟩
  obtain⟨l,h1,h2⟩:=JD (p:=fun i b=>ok b∧∃cells,w.cells? 0 (a.add (i*sz)) sz=some cells∧RD cx w (f b) cells) len hi;refine⟨l,⟨by omega,fun b hb=>?_⟩,.one ?_⟩
  ·obtain⟨i,hi,rfl⟩:=List.getElem_of_mem hb;exact(h2 i _ (List.getElem?_eq_getElem hi)).1
  ·subst h1;have hcell:∀(i j:Nat) cs d,(l.map f)[i]? = some cs→cs[j]? = some d→∃y,w.cell? ((a.add (i*sz)).add j)=some y∧Rd cx w d y:=fun i j cs d hi hj=>by
    rw[List.getElem?_map,Option.map_eq_some_iff] at hi;obtain⟨b,hb,rfl⟩:=hi;obtain⟨_,cells,h3,h4⟩:=h2 i b hb;obtain⟨_,h5,h6⟩:=World.cells?_some h3;have hjl:j<sz:=by have:=(List.getElem?_eq_some_iff.1 hj).1; rw[hf] at this; exact this
    have h7:cells[j]? = some cells[j]:=List.getElem?_eq_getElem (by omega);exact⟨_,(h6 j hjl).trans h7,h4.2 j d _ hj h7⟩
   have hspot:l≠[]→a.spot=none:=fun hne=>by
    have hpos:=List.length_pos_iff.2 hne;have e1:(l.map f)[0]? = some (f l[0]):=by rw[List.getElem?_map,List.getElem?_eq_getElem hpos]; rfl
    have hlt:0<(f l[0]).length:=by rw[hf]; exact hsz
    obtain⟨d0,e2⟩:∃d,(f l[0])[0]? = some d:=⟨_,List.getElem?_eq_getElem hlt⟩
    obtain⟨y,hy,_⟩:=hcell 0 0 _ _ e1 e2;cases hs:a.spot with
    | none=>rfl
    | some s=>
     rw[Nat.zero_mul] at hy;have e0:(a.add 0).add 0=a:=by simp[Addr.add]
     rw[e0] at hy;simp only[World.cell?,hs] at hy;split at hy <;> simp at hy
   have hadd:l≠[]→∀i j,(a.add (i*sz)).add j=⟨a.block,a.off+i*sz+j,none⟩:=fun hne i j=>by
    have hs:=hspot hne;obtain⟨b,o,s⟩:=a;simp only at hs; subst hs;rw[addr_add,addr_add]
   have hlm:(l.map f).length=l.length:=by simp
   rw[← hlm];refine .sl (a.block,a.off) (fun i j=>(w.cell? ⟨a.block,a.off+i*sz+j,none⟩).getD undef) (by simpa using hl) hm (fun i cs hi=>?_) (fun hne=>?_) (fun i j cs d hi hj=>?_) (fun i j cs d hi hj=>?_) trivial
   ·rw[List.getElem?_map,Option.map_eq_some_iff] at hi;obtain⟨b,hb,rfl⟩:=hi;exact hf b
   ·have hs:=hspot (fun h=>hne (by rw[h]; rfl));obtain⟨b,o,s⟩:=a;simp only at hs; subst hs; rfl
   ·have hne:l≠[]:=fun h=>by rw[h] at hi; simp at hi
    obtain⟨y,hy,_⟩:=hcell i j cs d hi hj;rw[hadd hne] at hy;simp only[hy];exact⟨rfl,hM _ _⟩
   ·have hne:l≠[]:=fun h=>by rw[h] at hi; simp at hi
    obtain⟨y,hy,hr⟩:=hcell i j cs d hi hj;rw[hadd hne] at hy;simp only[hy];exact hr
end
def Tq:Cx:={ bx:=fun _=>none,tk:=fun _=>none,M:=fun _ _=>False,Z:=fun _ _=>False }
theorem agu {E:Setting} {w:World} (hg:∀g,Rd Tq w (E.G g) (.pointer (some ⟨g,0,none⟩))):Rel E Tq [] w where
 cells k cs h:=by simp[St.get] at h
 vec k n e z cs h:=by simp[St.get] at h
 tok k ob n e h:=by simp[St.get] at h
 foot k b o h:=by rcases h with ⟨cs,o0,h1,_⟩ | ⟨ob,n,e,c,z,⟨h1,_⟩,_⟩ <;> simp[St.get] at h1
 sep k k' b o h:=by rcases h with ⟨cs,o0,h1,_⟩ | ⟨ob,n,e,c,z,⟨h1,_⟩,_⟩ <;> simp[St.get] at h1
 qI k l h:=by cases h
 mD k l h:=by cases h
 mlt b o h:=h.elim
 nz k b o h:=by rcases h with ⟨cs,o0,h1,_⟩ | ⟨ob,n,e,c,z,⟨h1,_⟩,_⟩ <;> simp[St.get] at h1
 zm b o h:=h.elim
 tK k b o h:=by cases h
 apart k k' b o n e g c z h:=by cases h
 rows k k' n e n' e' g c z c' z' h:=by cases h
 glob:=hg
theorem Ext.below {bK:Cx} {w w':World} {S:Key→Bool} (h:Ext S Tq w bK w'):Below w.heap.size w w':=
 ⟨h.os,h.tape,h.output,h.size,fun k hk=>h.block k hk (fun _ h=>h)⟩
end Go.Mx
namespace Go.Mx
open Go.ChangeShapes Go.WideShapes Go.ChangeAt Go.RowKit
section
variable {H : Type} {enc : TypeId × Value → H} {P : Program}
theorem Dc (hl:laidOutB P=true) {W W':World} {sp':Nat→Bool} (hb:Below W.heap.size W W'):∀{ts:List TypeId} {vs:List Value} {ds:List (DataW H)} {ps:List MemPlace},(∀t∈ts,P.readableRec t=true∧t<P.types.size) →
  DataW.TrodAll enc P W 0 (fun _=>true) true ts vs ds ps→(∀p∈ps,p.block<W.heap.size)→(∀p∈ps,sp' p.block=true)→DataW.TrodAll enc P W' 0 sp' true ts vs ds ps
 | [],_,_,_,_,h,_,_=>by
  obtain⟨rfl,rfl,rfl⟩:=trodAll_nil h;exact h
 | t::ts,_,_,_,ht,h,hlt,hs=>by
  obtain⟨v,vs1,d,ds1,a,b,rfl,rfl,rfl,h1,h2⟩:=trodAll_cons h;refine⟨a,b,WideElems.Trod_stays hl (ht t (by simp)).1 (ht t (by simp)).2 h1 (fun p hp=>hb.same (hlt p (List.mem_append_left _ hp))) (fun p hp=>hs p (List.mem_append_left _ hp)),?_,rfl⟩;exact Dc hl hb (fun t ht'=>ht t (by simp[ht'])) h2 (fun p hp=>hlt p (List.mem_append_right _ hp)) (fun p hp=>hs p (List.mem_append_right _ hp))
end
theorem Yo {E:Setting} {f:Nat} {ds:List D} {args:Array Value} {W:World} (hg:∀g,Rd Tq W (E.G g) (.pointer (some ⟨g,0,none⟩))) (hd:RD Tq W ds args.toList) (h:vT E f ds [] fun d _=>d=.v (.bool true)) :
  Calls E.P f args W fun e W'=>e=.returned (.bool true)∧Below W.heap.size W W':=by
 have:=h Tq W args.toList (agu hg) hd;rw[Array.toArray_toList] at this;refine this.mono fun e W' ⟨d,st',bK,v,he,hK,_,_,hr,hx⟩=>?_;subst hK;refine⟨?_,hx.below⟩;rw[he,hr.LW]
end Go.Mx
namespace Go.Mx
open Go.ChangeShapes Go.WideShapes Go.ChangeAt Go.RowKit
set_option linter.unusedVariables false
set_option linter.unusedSimpArgs false
def Iz {H:Type} (l:List ByteArray):DataW H:=.agg (l.map fun s=>.lit (.string s.data.toList))
theorem WB {a b:ByteArray} (h:a.data.toList=b.data.toList):a=b:=by
 obtain⟨⟨a⟩⟩:=a;obtain⟨⟨b⟩⟩:=b;simp only at h;rw[h]
theorem Lh {H:Type} {enc:TypeId×Value→H} {P:Program} {w:World} {base:Nat} {sp:Nat→Bool} {held:Bool} {fuel:Nat} {t e:TypeId} {n:Nat} {cs:List Value} {l:List ByteArray} {p:List MemPlace}
  (ht:P.underlying t=some (.array n e)) (he:P.underlying e=some .string) (hce:P.cellsOf e=1) (hct:P.cellsOf t=n)
  (h:DataW.trod enc P w base sp held fuel t cs=some (Iz l,p)):cs=l.map Value.string:=by
 cases fuel with
 | zero=>simp[DataW.trod] at h
 | succ fuel=>
  simp only[DataW.trod,ht,hce,hct,Nat.mul_one] at h;split at h
  ·rename_i hl;obtain⟨xs,hm,hx⟩:=Option.map_eq_some_iff.1 h;have hxs:xs.map (·.1)=l.map fun s=>(DataW.lit (.string s.data.toList):DataW H):=by
    have:=congrArg Prod.fst hx
    simpa [Iz] using this
   have hxl:xs.length=n:=by simpa using Lib.mapM_length hm
   have hzl:l.length=n:=by
    have:=congrArg List.length hxs;simp at this;omega
   apply List.ext_getElem?;intro i;by_cases hi:i<n
   ·obtain⟨b,hb,hf⟩:=Lib.mapM_at hm i i (by simp[hi]);obtain⟨s,hc,rfl,_⟩:=DataW.trod_string he hf;have h1:cs[i]? = some (.string s):=by
     have:=congrArg (·[0]?) hc
     simpa [List.getElem?_take,List.getElem?_drop] using this
    have h2:(xs.map (·.1))[i]? = some (DataW.lit (.string s.data.toList):DataW H):=by simp[hb]
    rw[hxs] at h2;simp only[List.getElem?_map,Option.map_eq_some_iff,DataW.lit.injEq,Lit.string.injEq] at h2;obtain⟨s',hs',h3⟩:=h2;rw[h1,List.getElem?_map,hs',WB h3];rfl
   ·rw[List.getElem?_eq_none (by omega),List.getElem?_eq_none (by simp; omega)]
  ·cases h
theorem WC {P:Program} {W:World} {name:String} {l:List ByteArray} {rest:List (String×DataW Unit)} {ps:List MemPlace} {g:Nat} {t e:TypeId} {n:Nat}
  (hg:P.globalNamed name=some g) (hty:(P.globals[g]?).map (·.type)=some t) (ht:P.underlying t=some (.array n e)) (he:P.underlying e=some .string) (hce:P.cellsOf e=1) (hct:P.cellsOf t=n)
  (h:DataW.LaidVars P W ((name,Iz l)::rest) ps):Rd Tq W (.ro (Pg l).flatten) (.pointer (some ⟨g,0,none⟩))∧∃q,DataW.LaidVars P W rest q:=by
 obtain⟨g',t',cs,fuel,p,q,hg',ht',hvar,hd,hr,_⟩:=h;obtain rfl:=Option.some.inj (hg.symm.trans hg');obtain rfl:=Option.some.inj (hty.symm.trans ht');have hcs:=Lh ht he hce hct hd;refine⟨.ro g 0 (fun j=>.string (l.getD j ⟨#[]⟩)) (fun j d hj=>?_) (fun j d hj=>?_),q,hr⟩
 ·obtain⟨c,e1,e2⟩:=wY (by decide:0<1) (Ph l) hj;rw[Nat.div_one,LY,Option.map_eq_some_iff] at e1;obtain⟨s,hs,rfl⟩:=e1;rw[Nat.zero_add];refine⟨?_,fun h=>h⟩;have:=World.var?_cell hg hvar j;rw[this,← Array.getElem?_toList,hcs,List.getElem?_map,hs,List.getD_eq_getElem?_getD,hs]; rfl
 ·obtain⟨c,e1,e2⟩:=wY (by decide:0<1) (Ph l) hj;rw[Nat.div_one,LY,Option.map_eq_some_iff] at e1;obtain⟨s,hs,rfl⟩:=e1;rw[Nat.mod_one] at e2;simp only[List.getElem?_cons_zero,Option.some.injEq] at e2;subst e2;rw[List.getD_eq_getElem?_getD,hs];exact .v _
def FT (P:Program) (ns:List String):Bool:=ns.all fun n=>((P.globalNamed n).bind (P.globals[·]?)).all fun gl=>P.readableRec gl.type&&decide (gl.type<P.types.size)
section
variable {H : Type} {enc : TypeId × Value → H} {P : Program}
theorem Ae {W':World} {sp':Nat→Bool} (hl:laidOutB P=true) {W:World} (hb:Below W.heap.size W W') :
  ∀{ns:List String} {gs:List (DataW H)} {ps:List MemPlace},FT P ns=true→DataW.TrodVars enc P W (fun _=>true) ns gs ps→(∀p∈ps,p.block<W.heap.size)→(∀p∈ps,sp' p.block=true)→DataW.TrodVars enc P W' sp' ns gs ps
 | [],[],_,_,h,_,_=>h
 | [],_::_,_,_,h,_,_=>h.elim
 | _::_,[],_,_,h,_,_=>h.elim
 | n::ns,d::ds,ps,hv,h,hlt,hs=>by
  obtain⟨g,t,cs,fuel,p,q,h1,h2,h3,h4,h5,e⟩:=h;simp only[FT,List.all_cons,Bool.and_eq_true] at hv;have ht:P.readableRec t=true∧t<P.types.size:=by
   have:=hv.1;rw[h1] at this;cases hg:P.globals[g]? with
   | none=>rw[hg] at h2; cases h2
   | some gl=>
    rw[hg] at h2;obtain rfl:gl.type=t:=Option.some.inj h2
    simpa [hg] using this
  have hp:∀x∈p,x∈ps:=fun x hx=>by rw[e]; simp[hx]
  have hq:∀x∈q,x∈ps:=fun x hx=>by rw[e]; simp[hx]
  have h3':W'.var? P n=some cs:=by
   unfold World.var? at h3 ⊢;rw[h1] at h3 ⊢;simp only[Option.bind_some] at h3 ⊢;have hg:g<W.heap.size:=by
    cases hh:W.heap[g]? with
    | none=>rw[hh] at h3; cases h3
    | some o=>exact(Array.getElem?_eq_some_iff.1 hh).1
   rw[hb.block g hg]; exact h3
  have h4':DataW.Trod enc P W 0 (fun _=>true) true t (.agg cs) d p:=⟨fuel,by simpa [Value.cells] using h4⟩
  obtain⟨fuel',h6⟩:=WideElems.Trod_stays (sp':=sp') hl ht.1 ht.2 h4' (fun x hx=>hb.same (hlt x (hp x hx))) (fun x hx=>hs x (hp x hx));exact⟨g,t,cs,fuel',p,q,h1,h2,h3',by simpa [Value.cells] using h6,Ae hl hb hv.2 h5 (fun x hx=>hlt x (hq x hx)) (fun x hx=>hs x (hq x hx)),e⟩
theorem Tt {f:Func} {s:ChangeSpec} {apart fresh handsOn again:Bool} {W W':World} {args:Array Value} {ds gs:List (DataW H)} {before:List MemPlace} {tb:TypeId}
  (hW:DataW.Whole enc P f.params.toList s.vars apart W args.toList ds gs before) (hrt:f.resultTypes=#[tb]) (htb:P.underlying tb=some .bool) (hv:FT P s.vars=true) (hfn:s.fn H (ds++gs)={ results:=[.lit (.bool true)],args:=ds,vars:=gs })
  (hl:laidOutB P=true) (ht:∀t∈f.params.toList,P.readableRec t=true∧t<P.types.size) (hb:Below W.heap.size W W'):s.post enc P f apart fresh handsOn again W args (.bool true) W':=by
 have hlt:∀x∈before,x.block<W.heap.size:=fun x hx=>by simpa using hW.lt x hx
 have hold:∀p∈before,(fun b=>decide (b<W.heap.size)) p.block=true:=fun p hp=>by simpa using hlt p hp
 have hW0:=hW;obtain⟨pa,pv,hA,hV,hps,hz,hn⟩:=hW;have hpa:∀p∈pa,p∈before:=fun p hp=>by rw[hps]; simp[hp]
 have hpv:∀p∈pv,p∈before:=fun p hp=>by rw[hps]; simp[hp]
 have hargs:∀sp:Nat→Bool,(∀p∈before,sp p.block=true)→DataW.TrodAll enc P W' 0 sp true f.params.toList args.toList (s.fn H (ds++gs)).args pa:=fun sp hsp=>by
  rw[hfn];exact Dc hl hb ht hA (fun p hp=>hlt p (hpa p hp)) (fun p hp=>hsp p (hpa p hp))
 have hres:∀(b:Nat) (sp:Nat→Bool) (hd:Bool),DataW.TrodAll enc P W' b sp hd f.resultTypes.toList ((Value.bool true).resultList f.resultTypes.size) (s.fn H (ds++gs)).results []:=fun b sp hd=>by
  rw[hfn,hrt];exact trodAll_cons_mk (shut_bool htb _) trodAll_mk0
 have hvars:∀sp:Nat→Bool,(∀p∈before,sp p.block=true)→DataW.TrodVars enc P W' sp s.vars (s.fn H (ds++gs)).vars pv:=fun sp hsp=>by
  rw[hfn];exact Ae hl hb hv hV (fun p hp=>hlt p (hpv p hp)) (fun p hp=>hsp p (hpv p hp))
 refine⟨ds,gs,before,[],pa,pv,hW0,hres _ _ _,hargs _ hold,hvars _ hold,World.keptBut_mono (fun p hp=>⟨hp,?_⟩) (hb.frame (·∈before)),fun _=>?_⟩
 ·rw[hps] at hp
  simpa using hp
 ·refine⟨ok_one hrt rfl (okWide_bool_mk htb _),_,_,([]++pa)++pv,⟨[]++pa,pv,trodAll_append (hargs _ (fun _ _=>rfl)) (hres _ _ _),hvars _ (fun _ _=>rfl),rfl,?_,?_⟩,?_⟩
  ·intro b off hp;have hmem:MemPlace.cell b off∈before:=by rw[hps]; simpa using hp
   rw[hb.frozen (p:=⟨b,off,none⟩) (hlt _ hmem)];exact hz b off hmem
  ·intro ha;have:=hn ha;rw[hps] at this
   simpa using this
  ·intro p hp _;rw[hps]
   simpa using hp
end
end Go.Mx
namespace Go.Mx
theorem Ez {H:Type} {enc:TypeId×Value→H} {P:Program} {w:World} {sp:Nat→Bool}:∀{ns:List String} {gs:List (DataW H)} {ps:List MemPlace},DataW.TrodVars enc P w sp ns gs ps→gs.length=ns.length
 | [],[],_,_=>rfl
 | [],_::_,_,h=>h.elim
 | _::_,[],_,h=>h.elim
 | _::_,_::_,_,h=>by
  obtain⟨_,_,_,_,_,_,_,_,_,_,h5,_⟩:=h;simp[Ez h5]
end Go.Mx
namespace Go.Mx
set_option linter.unusedVariables false
set_option linter.unusedSimpArgs false
section
variable {κ : Pl → Key} {n : Nat}
theorem UN {e e':ED} (h:aaR n e=some e'):Wk (e.D κ) (e'.D κ)∧e'.vW n none=true:=by
 unfold aaR at h;split at h
 ·cases h; exact⟨Wk.Um rfl,rfl⟩
 ·rename_i z b xs;cases h;refine⟨?_,rfl⟩;cases b with
  | true=>exact Wk.Um rfl
  | false=>exact Wk.refl _
 ·split at h
  ·rename_i hok; cases h; exact⟨Wk.refl _,hok⟩
  ·cases h
theorem UO:∀{cs:List ED} {cs':List ED},Le.Yn n cs=some cs'→(ED.DL κ cs').length=(ED.DL κ cs).length∧(∀(j:Nat) a b,(ED.DL κ cs)[j]? = some a→(ED.DL κ cs')[j]? = some b→Wk a b)∧wJ n none cs'=true
 | [],cs',h=>by simp only[Le.Yn,Option.some.injEq] at h; subst h; exact⟨rfl,by simp[ED.DL],rfl⟩
 | e::r,cs',h=>by
  simp only[Le.Yn] at h;split at h
  ·rename_i x y hx hy;cases h;obtain⟨h1,h2,h3⟩:=UO hy;obtain⟨g1,g2⟩:=UN (κ:=κ) hx;refine⟨by simp only[ED.DL,List.length_cons,h1],fun j a b ha hb=>?_,by simp only[wJ,g2,h3,Bool.and_self]⟩;cases j with
   | zero=>simp only[ED.DL,List.getElem?_cons_zero,Option.some.injEq] at ha hb; subst ha; subst hb; exact g1
   | succ j=>exact h2 j a b (by simpa [ED.DL] using ha) (by simpa [ED.DL] using hb)
  ·cases h
theorem Yp {cs:List ED} (h:wJ n none cs=true):(Gt cs).vW n none=true:=by
 unfold Gt;split
 ·rfl
 ·exact h
theorem Yq {e e':ED} (h:Le.Ym n e=some e'):Wk (e.D κ) (e'.D κ)∧e'.vW n none=true:=by
 unfold Le.Ym at h;split at h
 ·split at h
  ·rename_i cs c hc;cases h;obtain⟨h1,h2,h3⟩:=UO (κ:=κ) hc;refine⟨?_,Yp h3⟩;rw[Il];exact Wk.acB h1 h2
  ·cases h
 ·rename_i ks;cases h;exact⟨PO (.agg ks),rfl⟩
 ·exact UN h
theorem UQ:∀{ds:List ED} {ds':List ED},Le n ds=some ds'→(ED.DL κ ds').length=(ED.DL κ ds).length∧(∀(j:Nat) a b,(ED.DL κ ds)[j]? = some a→(ED.DL κ ds')[j]? = some b→Wk a b)∧wJ n none ds'=true
 | [],cs',h=>by simp only[Le,Option.some.injEq] at h; subst h; exact⟨rfl,by simp[ED.DL],rfl⟩
 | e::r,cs',h=>by
  simp only[Le] at h;split at h
  ·rename_i x y hx hy;cases h;obtain⟨h1,h2,h3⟩:=UQ hy;obtain⟨g1,g2⟩:=Yq (κ:=κ) hx;refine⟨by simp only[ED.DL,List.length_cons,h1],fun j a b ha hb=>?_,by simp only[wJ,g2,h3,Bool.and_self]⟩;cases j with
   | zero=>simp only[ED.DL,List.getElem?_cons_zero,Option.some.injEq] at ha hb; subst ha; subst hb; exact g1
   | succ j=>exact h2 j a b (by simpa [ED.DL] using ha) (by simpa [ED.DL] using hb)
  ·cases h
end
def JE (T:TypeId→Option (Nat×Nat×fJ)) (ρ:Nat→ED) (f:List (Nat×aB)) (os:List (Option aB)):List ResultVar→Option (List ED)
 | []=>some []
 | .tmp t::r=>match JE T ρ f os r with
  | some ds=>some (ρ t::ds)
  | none=>none
 | .cell b ty::r=>
  match T ty,ρ b,JE T ρ f os r with
  | some (n,_,s),.ptr p 0,some ds=>
   match fU f os p with
   | some (.cells cs)=>match s.agg with
    | true=>match Nat.beq cs.length n with
     | true=>some (.agg cs::ds)
     | false=>none
    | false=>match cs[0]? with
     | some d=>some (d::ds)
     | none=>none
   | _=>none
  | _,_,_=>none
def resE:List ED→ED
 | [d]=>d
 | ds=>.dU ds
def unO:List (Option aB)→Option (List aB)
 | []=>some []
 | some o::r=>(unO r).map (o::·)
 | none::r=>none
def JF (n:Nat):List aB→Bool
 | []=>true
 | o::r=>o.vW n none&&JF n r
def Yr (T:TypeId→Option (Nat×Nat×fJ)) (rs:List ResultVar) (ρ:Nat→ED) (f:List (Nat×aB)) (os:List (Option aB)):Option (ED×List aB):=
 match JE T ρ f os rs with
 | some ds=>match Le os.length ds,unO os with
  | some ds',some outs=>match JF os.length outs with
   | true=>some (resE ds',outs)
   | false=>none
  | _,_=>none
 | none=>none
theorem EC {E:Setting} {T:Tb E.P} {ks:List Key} {low:List (Option dD)→St} {L:Nat} (hl:Low ks low) (hL:∀os,(low os).length=L) {ρ:Nat→ED} {f:List (Nat×aB)} {os:List (Option aB)} (hk:os.length=ks.length) :
  ∀{rs:List ResultVar} {ds:List ED},JE T.t ρ f os rs=some ds→I9 E (dP (aT L ks) ρ) (bT (aT L ks) low f os) rs (ED.DL (aT L ks) ds)
 | [],ds,h=>by cases h; exact .nil
 | .tmp t::r,ds,h=>by
  simp only[JE] at h;split at h
  ·rename_i ds' hr;cases h;exact .tmp (EC hl hL hk hr)
  ·cases h
 | .cell b ty::r,ds,h=>by
  simp only[JE] at h;split at h
  ·rename_i n _ s p ds' hT hb hr;have hr':=EC hl hL hk hr;have hb':dP (aT L ks) ρ b=.bx (aT L ks p) 0:=by unfold dP; rw[hb]; rfl
   cases hg:fU f os p with
   | none=>rw[hg] at h; cases h
   | some o=>
    rw[hg] at h;cases o with
    | tok=>cases h
    | rows=>cases h
    | vec=>cases h
    | cells cs=>
     have hp:=(eG hl (hL _) hk hg).1;simp only at h;split at h
     ·rename_i hs;split at h
      ·rename_i hn;cases h;have hn:=Nat.eq_of_beq_eq_true hn;exact .cellS (T.ht _ _ hT) hs hb' hp (by rw[dM]; exact hn) hr'
      ·cases h
     ·rename_i hs;split at h
      ·rename_i d hd;cases h;exact .cell1 (T.ht _ _ hT) hs hb' hp (by rw[kG,hd]; rfl) hr'
      ·cases h
  ·cases h
theorem UR {κ:Pl→Key}:∀{ds ds':List ED},(ED.DL κ ds').length=(ED.DL κ ds).length→(∀(j:Nat) a b,(ED.DL κ ds)[j]? = some a→(ED.DL κ ds')[j]? = some b→Wk a b)→Wk (CX (ED.DL κ ds)) ((resE ds').D κ)
 | [],[],_,_=>Wk.refl _
 | [d],[d'],_,h=>h 0 _ _ rfl rfl
 | [],_::_,h,_=>by simp[dM] at h
 | _::_,[],h,_=>by simp[dM] at h
 | [_],_::_::_,h,_=>by simp[dM] at h
 | _::_::_,[_],h,_=>by simp[dM] at h
 | d::e::r,d'::e'::r',h1,h2=>Wk.aeG h1 h2
theorem IB {n:Nat}:∀{ds:List ED},wJ n none ds=true→(resE ds).vW n none=true
 | [],_=>rfl
 | [d],h=>by simp only[wJ,Bool.and_true] at h; exact h
 | d::e::r,h=>h
theorem EF:∀{os:List (Option aB)} {outs:List aB},unO os=some outs→os=outs.map some
 | [],outs,h=>by cases h; rfl
 | some o::r,outs,h=>by
  simp only[unO,Option.map_eq_some_iff] at h;obtain⟨q,hq,rfl⟩:=h;rw[EF hq]; rfl
 | none::r,outs,h=>by cases h
theorem BO {κ κ':Pl→Key} {n:Nat} (hp:∀p:Pl,p.vW n none=true→κ p=κ' p):∀{outs:List aB},JF n outs=true→gG κ (outs.map some)=gG κ' (outs.map some)
 | [],_=>rfl
 | o::r,h=>by
  simp only[JF,Bool.and_eq_true] at h;have ih:=BO hp h.2;simp only[gG,List.map_cons,Option.map_some] at ih ⊢;rw[ih];congr 2;cases o with
  | cells cs=>simp only[aB.A,pG hp cs h.1]
  | tok=>rfl
  | rows=>rfl
  | vec=>rfl
section
variable {W : Wd} {k k' : List KI} {l : List (Nat × ED)} {f : List (Nat × aB)} {os : List (Option aB)}
theorem WG.ret {rs:List ResultVar} {d:ED} {outs:List aB} (hf:flatK 64 k=.code .ret::k') (hr:W.fn.results.toList=rs) (he:Yr W.X.T.t rs (gY l) f os=some (d,outs))
  (hK:W.F (d.D (aT 0 W.ks)) (W.low (gG (aT 0 W.ks) (outs.map some)))):WG W k l f os:=WG.flat hf fun hlen=>by
 unfold Yr at he;split at he
 ·rename_i ds hds;split at he
  ·rename_i ds' xq ho hu;split at he
   ·rename_i hok;cases he;obtain⟨w1,w2,w3⟩:=UQ (κ:=W.κ) ho;have hos:=EF hu;have hp:∀p:Pl,p.vW os.length none=true→W.κ p=aT 0 W.ks p:=fun p hp=>(FQ W.hl W.hL hlen hp).2;have hp2:∀p:Pl,p.vW os.length none=true→lv W.L (W.κ p)=true:=fun p hp=>(FQ W.hl W.hL hlen hp).1;have hres:=EC (T:=W.X.T) W.hl W.hL hlen hds;have hL:=W.hL (gG W.κ os);refine AW.aew (U:=W.U) (F:=W.F) (d':=(resE ds').D W.κ) (by rw[show W.U.fn.results.toList=rs from hr]; exact hres) (UR w1 w2) ?_ ?_
    ·rw[hL]; exact Iy hp2 _ (IB w3)
    ·have e1:(resE ds').D W.κ=(resE ds').D (aT 0 W.ks):=JC hp _ (IB w3);have e2:gG W.κ os=gG (aT 0 W.ks) (outs.map some):=by
      rw[hos] at hok hp ⊢;exact BO hp hok
     rw[e1,e2]; exact hK
   ·cases he
  ·cases he
 ·cases he
theorem WG.fin {outs:List aB} (hf:flatK 64 k=[]) (hr:W.fn.results.toList=[]) (he:unO os=some outs) (hok:JF os.length outs=true)
  (hK:W.F (.dU []) (W.low (gG (aT 0 W.ks) (outs.map some)))):WG W k l f os:=WG.flat hf fun hlen=>by
 have hos:=EF he;have hp:∀p:Pl,p.vW os.length none=true→W.κ p=aT 0 W.ks p:=fun p hp=>(FQ W.hl W.hL hlen hp).2;have e2:gG W.κ os=gG (aT 0 W.ks) (outs.map some):=by
  rw[hos] at hok hp ⊢;exact BO hp hok
 refine AW.nil (ds:=[]) (by show resD _ W.fn.results.toList=_; rw[hr]; rfl) rfl ?_;show W.F (.dU []) (W.low (gG W.κ os));rw[e2]; exact hK
end
theorem aC.mk {X : Ctx} {g : Nat} {fn : Func} {c : Code} {N : Nat} {args : List ED} {ins : List (Option aB)} {d : ED} {outs : List aB} (hf : X.E.P.funcs[g]? = some fn) (hb : fn.body = some c) (hn : (fn.name == "runtime.NumGoroutine") = false) (hN : fn.ntmps = N) (hle : Nat.ble args.length N = true)
  (l:List (Nat×ED)) (hl:(l.map fun p=>args[p.1]?)=l.map fun p=>some p.2) (ha:wJ ins.length none args=true) (hi:JF ins.length (ins.filterMap id)=true)
  (h:∀(L:Nat) (ks:List Key) (low:List (Option dD)→St) (K:D→St→Prop) (hl:Low ks low) (hL:∀os,(low os).length=L),ks.length=ins.length→K (d.D (aT 0 ks)) (low (gG (aT 0 ks) (outs.map some)))→WG ⟨X,fn,L,N,ks,low,K,hl,hL⟩ [.code c] l [] ins):aC X.E g args ins d outs:=by
 refine⟨⟨fn,c,hf,hb,hn⟩,fun ks low K hlow hlen hK=>?_⟩;have hL:∀os,(low os).length=(low []).length:=fun os=>hlow.len os [];have hp:∀p:Pl,p.vW ins.length none=true→aT (low []).length ks p=aT 0 ks p:=fun p hp=>(FQ hlow hL hlen.symm hp).2;have hargs:ED.DL (aT 0 ks) args=ED.DL (aT (low []).length ks) args:=(pG hp args ha).symm;have hins:gG (aT 0 ks) ins=gG (aT (low []).length ks) ins:=by
  have:∀(l:List (Option aB)),JF ins.length (l.filterMap id)=true→gG (aT 0 ks) l=gG (aT (low []).length ks) l:=fun l=>by
   induction l with
   | nil=>intro _; rfl
   | cons o r ih=>
    intro h;cases o with
    | none=>simp only[List.filterMap_cons,id] at h; have:=ih h; simp only[gG,List.map_cons,Option.map_none] at this ⊢; rw[this]
    | some o=>
     simp only[List.filterMap_cons,id,JF,Bool.and_eq_true] at h;have:=ih h.2;have ho:o.A (aT 0 ks)=o.A (aT (low []).length ks):=by
      cases o with
      | cells cs=>simp only[aB.A,pG hp cs h.1]
      | tok=>rfl
      | rows=>rfl
      | vec=>rfl
     simp only[gG,List.map_cons,Option.map_some,ho] at this ⊢;rw[this]
  exact this ins hi
 rw[hargs,hins];refine acf hf hb hN (by rw[dM]; exact hle) (l:=lD (aT (low []).length ks) l) (P6 fun p hp'=>?_) fun L hLe _=>?_
 ·obtain⟨q,hq,rfl⟩:=List.mem_map.1 hp';have:args[q.1]? = some q.2:=by
   have h0:=hl;clear hp' h
   induction l with
   | nil=>cases hq
   | cons a r ih=>
    simp only[List.map_cons,List.cons.injEq] at h0;cases hq with
    | head=>exact h0.1
    | tail _ hq=>exact ih h0.2 hq h0.2
  simp only[enter,kG,this,Option.map_some,Option.getD_some]
 ·have hLL:L=(low []).length:=by rw[← hLe]; exact hL _
  subst hLL;have:=h (low []).length ks low K hlow hL hlen hK hlen.symm;rw[← vX];exact this
end Go.Mx
namespace Go.Mx
set_option linter.unusedVariables false
set_option linter.unusedSimpArgs false
theorem Rel.aeT {E:Setting} {cx:Cx} {st:St} {w:World} (r:Rel E cx st w) {key:Key} (h:st.get key=none):cx.tk key=none∧cx.bx key=none:=by
 constructor
 ·cases ht:cx.tk key with
  | none=>rfl
  | some l=>obtain⟨_,n,e,hg,_⟩:=r.mD key l ht; rw[h] at hg; cases hg
 ·cases ht:cx.bx key with
  | none=>rfl
  | some l=>obtain⟨n,hg⟩:=r.qI key l ht; rw[h] at hg; cases hg
theorem Rel.ghost {E:Setting} {cx:Cx} {st:St} {w:World} (r:Rel E cx st w) {key:Key} (hlt:key.1<st.length) (hg:st.get key=none) (n:Nat) (e:TypeId) :
  ∃bK,Rel E bK (st.set key (some (.tok n e))) w∧Ext (fun _=>true) cx w bK w∧bK.tk key=some (n,e,none):=by
 have h0:=(r.aeT hg).1;obtain⟨h1,h2⟩:=r.Ij hlt (fun cs h=>by rw[hg] at h; cases h) (n:=n) (e:=e) (tl:=none) (w':=w) (M':=cx.M) (fun n0 l0 h=>by rw[h0] at h; cases h) rfl rfl rfl (Nat.le_refl _) (fun _ _ _=>rfl) (fun _ _ _ _=>rfl) (fun _ _ h=>.inl h) (fun b o h=>r.mlt b o h) (fun b o h=>r.zm b o h) (fun _ _ _=>rfl)
  (fun _ _ _ h=>by cases h) (fun k b o _ hf=>⟨rfl,rfl,(r.foot k b o hf).2.2⟩) (fun _ _ _ _ _ _ _ _=>rfl) (fun _ _ _ h=>by cases h)
 exact⟨_,h1,h2,if_pos rfl⟩
theorem Rd.own {cx bK:Cx} {w:World} {sz:Nat} {xs:List (List D)} {v:Value} {key:Key} {e:TypeId} (h:Rd bK w (.sl sz .full xs) v) (hk:bK.tk key=some (xs.length,e,none)):Rd bK w (.sl sz (.own key) xs) v:=by
 cases h with
 | sl A vs h1 h2 h3 h4 h5 h6 h7=>exact .sl A vs h1 h2 h3 h4 h5 h6 ⟨_,e,none,hk,Nat.le_refl _,fun _=>h7⟩
section
variable {W : Wd} {k k' : List KI} {l : List (Nat × ED)} {f : List (Nat × aB)} {os : List (Option aB)}
theorem WG.own (t u:Nat) (e:TypeId) {z:Nat} {xs:List (List KD)} (ht:gY l t=.d (.sl z true xs)) (hu:gu f u=none) (l':List (Nat×ED)) (he:(l'.map Prod.fst).map (qM (gY l) t (.gs (.own u) z xs))=l'.map Prod.snd)
  (hk:WG W k l' (dw f u (.tok xs.length e)) os):WG W k l f os:=fun hlen=>by
 have hL:=W.hL (gG W.κ os);intro B cx a w hB hl' hex hr;have hg:=oZ (ks:=W.ks) (low:=W.low) (os:=os) W.hl hL hu;have hkey:(W.L,u).1<(bT W.κ W.low f os).length:=by simp[bT,hL]
 obtain⟨bK,r1,r2,r3⟩:=hr.rel.ghost (key:=(W.L,u)) hkey hg xs.length e;have hst:(bT W.κ W.low f os).set (W.L,u) (some (.tok xs.length e))=bT W.κ W.low (dw f u (.tok xs.length e)) os:=fO (p:=.own u) (o':=.tok xs.length e) W.hl hL hlen rfl;have r1:Rel W.X.E bK ((bT W.κ W.low f os).set (W.L,u) (some (dD.tok xs.length e))) w:=r1;rw[hst] at r1;have hlen2:(bT W.κ W.low (dw f u (.tok xs.length e)) os).length=(bT W.κ W.low f os).length:=by simp[bT]
 refine hk hlen B bK a w hB (by show(bT _ _ _ _).length=_; rw[hlen2]; exact hl') (hex.trans (r2.weaken fun _ _=>rfl)) ⟨r1,hr.size,fun v=>?_,hr.defers⟩;refine BN he v _ _ _ ?_;have hv:=(hr.tmps v).mono r2 (eU.ext.all_true _);unfold qM;cases hb:Nat.beq v t with
 | false=>exact hv
 | true=>
  have:=Nat.eq_of_beq_eq_true hb;subst this;have hv:Rd bK w ((gY l v).D W.κ) (a.tmps.getD v undef):=hv;rw[ht] at hv;refine Rd.own (cx:=bK) (e:=e) hv ?_;rw[dK]; exact r3
end
end Go.Mx
namespace Go.Ev
open Go.Mx (KD ED aB Idx Idy KZ Jg kH Gu)
set_option linter.unusedVariables false
set_option linter.unusedSimpArgs false
structure Form where
 kind:Int
 name:List UInt8
 n:Int
 scopes:List Int
 kids:List Form
structure Core where
 kind:Int
 id:Int
 name:List UInt8
 n:Int
 ids:List Int
 data:Form
 kids:List Core
structure Bind where
 name:List UInt8
 scopes:List Int
 id:Int
structure iJ where
 name:Form
 depth:Int
 one:Form
 many:List iJ
structure Rule where
 pattern:Form
 template:Form
structure Macro where
 id:Int
 literals:List Form
 rules:List Rule
structure Expansion where
 binds:List Bind
 macros:List Macro
 scope:Int
 id:Int
 steps:Int
structure bg where
 b:List UInt8
 p:Int
def aeU (i:Int):List KD:=[.v (.int .i64 i)]
def aeV (s:List UInt8):List KD:=[.s s]
def Yt (y:UInt8):List KD:=[.v (.int .u8 y.toNat)]
def aj (l:List Int):List (List KD):=l.map aeU
def aH (l:List (List UInt8)):List (List KD):=l.map aeV
def gJ (l:List UInt8):List (List KD):=l.map Yt
mutual
def aeW:Form→List KD
 | ⟨k,nm,n,sc,kids⟩=>[.v (.int .i64 k),.s nm,.v (.int .i64 n),.sl 1 false (aj sc),.sl 5 false (ah kids)]
def ah:List Form→List (List KD)
 | []=>[]
 | f::r=>aeW f::ah r
end
def ak (f:Form):List KD:=[.v (.int .i64 f.kind),.s f.name,.v (.int .i64 f.n),.sl 1 false (aj f.scopes),.sl 5 false (ah f.kids)]
mutual
def aeX:Core→List KD
 | ⟨k,id,nm,n,ids,dt,kids⟩=>[.v (.int .i64 k),.v (.int .i64 id),.s nm,.v (.int .i64 n),.sl 1 false (aj ids),.v (.int .i64 dt.kind),.s dt.name,.v (.int .i64 dt.n),.sl 1 false (aj dt.scopes),.sl 5 false (ah dt.kids),.sl 11 false (aG kids)]
def aG:List Core→List (List KD)
 | []=>[]
 | f::r=>aeX f::aG r
end
def aI (c:Core):List KD:=[.v (.int .i64 c.kind),.v (.int .i64 c.id),.s c.name,.v (.int .i64 c.n),.sl 1 false (aj c.ids),.v (.int .i64 c.data.kind),.s c.data.name,.v (.int .i64 c.data.n),.sl 1 false (aj c.data.scopes),.sl 5 false (ah c.data.kids),.sl 11 false (aG c.kids)]
def fB (b:Bind):List KD:=[.s b.name,.sl 1 false (aj b.scopes),.v (.int .i64 b.id)]
def aA (l:List Bind):List (List KD):=l.map fB
mutual
def agv:iJ→List KD
 | ⟨nm,d,one,many⟩=>[.v (.int .i64 nm.kind),.s nm.name,.v (.int .i64 nm.n),.sl 1 false (aj nm.scopes),.sl 5 false (ah nm.kids),.v (.int .i64 d),.v (.int .i64 one.kind),.s one.name,.v (.int .i64 one.n),.sl 1 false (aj one.scopes),.sl 5 false (ah one.kids),.sl 12 false (aS many)]
def aS:List iJ→List (List KD)
 | []=>[]
 | f::r=>agv f::aS r
end
def xC (h:iJ):List KD:=[.v (.int .i64 h.name.kind),.s h.name.name,.v (.int .i64 h.name.n),.sl 1 false (aj h.name.scopes),.sl 5 false (ah h.name.kids),.v (.int .i64 h.depth),.v (.int .i64 h.one.kind),.s h.one.name,.v (.int .i64 h.one.n),.sl 1 false (aj h.one.scopes),.sl 5 false (ah h.one.kids),.sl 12 false (aS h.many)]
def vY (r:Rule):List KD:=[.v (.int .i64 r.pattern.kind),.s r.pattern.name,.v (.int .i64 r.pattern.n),.sl 1 false (aj r.pattern.scopes),.sl 5 false (ah r.pattern.kids),.v (.int .i64 r.template.kind),.s r.template.name,.v (.int .i64 r.template.n),.sl 1 false (aj r.template.scopes),.sl 5 false (ah r.template.kids)]
def dY (l:List Rule):List (List KD):=l.map vY
def JG (m:Macro):List KD:=[.v (.int .i64 m.id),.sl 5 false (ah m.literals),.sl 10 false (dY m.rules)]
def cO (l:List Macro):List (List KD):=l.map JG
def au (x:Expansion):List KD:=[.sl 3 false (aA x.binds),.sl 3 false (cO x.macros),.v (.int .i64 x.scope),.v (.int .i64 x.id),.v (.int .i64 x.steps)]
def aF (r:bg):List KD:=[.sl 1 false (gJ r.b),.v (.int .i64 r.p)]
structure Kd {α:Type} (k:α→List KD) (ks:List α→List (List KD)) (sz:Nat):Prop where
 eq:∀l,ks l=l.map k
 one:∀x,Gu (k x)=true
 len:∀x,(k x).length=sz
theorem aO:Kd aeU aj 1:=⟨fun _=>rfl,fun _=>rfl,fun _=>rfl⟩
theorem dZ:Kd aeV aH 1:=⟨fun _=>rfl,fun _=>rfl,fun _=>rfl⟩
theorem vZ:Kd Yt gJ 1:=⟨fun _=>rfl,fun _=>rfl,fun _=>rfl⟩
def abO (l:List iJ):List KD:=[.sl 12 false (aS l)]
def uU (l:List (List iJ)):List (List KD):=l.map abO
theorem MO:Kd abO uU 1:=⟨fun _=>rfl,fun _=>rfl,fun _=>rfl⟩
theorem MP:∀l:List Form,ah l=l.map ak
 | []=>rfl
 | ⟨k,nm,n,sc,kids⟩::r=>by simp only[ah,List.map_cons,MP r]; rfl
theorem ay:Kd ak ah 5:=⟨MP,fun _=>rfl,fun _=>rfl⟩
theorem MQ:∀l:List Core,aG l=l.map aI
 | []=>rfl
 | ⟨_,_,_,_,_,_,_⟩::r=>by simp only[aG,List.map_cons,MQ r]; rfl
theorem bM:Kd aI aG 11:=⟨MQ,fun _=>rfl,fun _=>rfl⟩
theorem aY:Kd fB aA 3:=⟨fun _=>rfl,fun _=>rfl,fun _=>rfl⟩
theorem P7:∀l:List iJ,aS l=l.map xC
 | []=>rfl
 | ⟨_,_,_,_⟩::r=>by simp only[aS,List.map_cons,P7 r]; rfl
theorem jf:Kd xC aS 12:=⟨P7,fun _=>rfl,fun _=>rfl⟩
theorem kU:Kd vY dY 10:=⟨fun _=>rfl,fun _=>rfl,fun _=>rfl⟩
theorem Af:Kd JG cO 3:=⟨fun _=>rfl,fun _=>rfl,fun _=>rfl⟩
abbrev aX (x:Int):Int:=IntKind.i64.wrap x
def gW {α:Type} (l:List α) (i:Int):Option α:=if 0≤i then l[i.toNat]? else none
def jm {α:Type} (be:Nat) (l ys:List α):Option (List α):=if(l.length+ys.length)*be≤140737488355328 then some (l++ys) else none
def IC {α:Type} (l:List α) (a b:Int):Option (List α):=if 0≤a∧a≤b∧b≤l.length then some ((l.drop a.toNat).take (b.toNat-a.toNat)) else none
def N8 (a b:List UInt8):Option (List UInt8):=if a.length+b.length≤9223372036854775807 then some (a++b) else none
def Hr (a b:Int):Option Int:=if b≠0 then some (aX (a.tdiv b)) else none
def yS (a b:Int):Option Int:=if b≠0 then some (a.tmod b) else none
section
variable {α : Type} {k : α → List KD} {ks : List α → List (List KD)} {sz : Nat}
theorem Kd.length (h:Kd k ks sz) (l:List α):(ks l).length=l.length:=by rw[h.eq]; simp
theorem P8 {l:List α} {i:Int} {x:α} (h:gW l i=some x):0≤i∧l[i.toNat]? = some x:=by
 unfold gW at h;split at h
 ·rename_i h0; exact⟨h0,h⟩
 ·cases h
theorem Kd.idx (h:Kd k ks sz) {l:List α} {i:Int} {x:α} (hx:gW l i=some x):Idx i (ks l) (k x):=by
 obtain⟨h0,h1⟩:=P8 hx;exact⟨h0,by rw[h.eq,List.getElem?_map,h1]; rfl⟩
theorem Kd.iV (h:Kd k ks sz) {l:List α} {i:Nat} {x:α} (hx:l[i]? = some x):Idx (i:Int) (ks l) (k x):=
 ⟨Int.natCast_nonneg i,by rw[h.eq,Int.toNat_natCast,List.getElem?_map,hx]; rfl⟩
theorem Df {l:List UInt8} {i:Int} {y:UInt8} (hx:gW l i=some y):Idy i l y:=P8 hx
theorem Kd.ap (h:Kd k ks sz) {be:Nat} {l ys zs:List α} (hx:jm be l ys=some zs):KZ be (ks l).length (ks ys)∧ks l++ks ys=ks zs:=by
 unfold jm at hx;split at hx
 ·rename_i hb;cases hx;refine⟨⟨fun cs hc=>?_,by rw[h.length,h.length]; exact hb⟩,by rw[h.eq,h.eq,h.eq,List.map_append]⟩;rw[h.eq] at hc;obtain⟨x,_,rfl⟩:=List.mem_map.1 hc;exact h.one x
 ·cases hx
theorem Kd.sl (h:Kd k ks sz) {l zs:List α} {a b:Int} (hx:IC l a b=some zs):Jg a b (ks l).length∧((ks l).drop a.toNat).take (b.toNat-a.toNat)=ks zs:=by
 unfold IC at hx;split at hx
 ·rename_i hb;cases hx;exact⟨by rw[h.length]; exact hb,by rw[h.eq,h.eq,List.map_take,List.map_drop]⟩
 ·cases hx
theorem slS {l zs:List UInt8} {a b:Int} (hx:IC l a b=some zs):Jg a b l.length∧(l.drop a.toNat).take (b.toNat-a.toNat)=zs:=by
 unfold IC at hx;split at hx
 ·rename_i hb;cases hx;exact⟨hb,rfl⟩
 ·cases hx
theorem FV {a b z:List UInt8} (hx:N8 a b=some z):a.length+b.length≤9223372036854775807∧a++b=z:=by
 unfold N8 at hx;split at hx
 ·rename_i hb; cases hx; exact⟨hb,rfl⟩
 ·cases hx
theorem Tv {a b y:Int} (hx:Hr a b=some y):b≠0∧IntKind.i64.wrap (a.tdiv b)=y:=by
 unfold Hr at hx;split at hx
 ·rename_i hb; cases hx; exact⟨hb,rfl⟩
 ·cases hx
theorem JH {a b y:Int} (hx:yS a b=some y):b≠0∧a.tmod b=y:=by
 unfold yS at hx;split at hx
 ·rename_i hb; cases hx; exact⟨hb,rfl⟩
 ·cases hx
theorem Kd.lit (h:Kd k ks sz) (l:List α):l.map k=ks l:=(h.eq l).symm
theorem Kd.rows (h:Kd k ks sz) (l:List α):kH sz (ks l):=fun cs hc=>by
 rw[h.eq] at hc;obtain⟨x,_,rfl⟩:=List.mem_map.1 hc;exact h.len x
end
theorem wn {i:Nat} (h:i+1≤9223372036854775807):IntKind.i64.wrap ((i:Int)+1)=((i+1:Nat):Int):=by
 rw[IntKind.wrap_i64]; omega
end Go.Ev
namespace Go.Mx
set_option linter.unusedVariables false
set_option linter.unusedSimpArgs false
section
variable {W : Wd} {k k' : List KI} {l : List (Nat × ED)} {f : List (Nat × aB)} {os : List (Option aB)} {α σ ρ : Type}
def IL (xs:List α) (run:Nat→List α→σ→Prop) (n:Nat) (t:Nat×σ×List α):Prop:=t.2.2.length=n∧xs.drop t.1=t.2.2∧t.1≤xs.length∧run t.1 t.2.2 t.2.1
abbrev JI (W:Wd) (env:Nat→σ→List (Nat×ED)) (fr:Nat→σ→List (Nat×aB)) (low:Nat→σ→List (Option aB)) (xs:List α) (run:Nat→List α→σ→Prop) (n:Nat):Env→St→Prop:=
 UM W (σ:=Nat×σ×List α) (fun t=>env t.1 t.2.1) (fun t=>fr t.1 t.2.1) (fun t=>low t.1 t.2.1) (IL xs run) n
theorem WG.list {c:Code} {xs:List α} {s0:σ} {run:Nat→List α→σ→Prop} (h:run 0 xs s0) (hf:flatK 64 k=.code (.loop c)::k') (env:Nat→σ→List (Nat×ED)) (fr:Nat→σ→List (Nat×aB)) (low:Nat→σ→List (Option aB)) (gI:List Nat)
  (he:pF gI (gY l) ((env 0 s0).map Prod.fst)=(env 0 s0).map Prod.snd) (h1:f=fr 0 s0) (h2:os=low 0 s0)
  (round:∀i s q,xs.drop i=q→i≤xs.length→run i q s→WG W (.code c::.goal (JI W env fr low xs run q.length)::k') (env i s) (fr i s) (low i s)):WG W k l f os:=by
 refine WG.loop hf (fun t:Nat×σ×List α=>env t.1 t.2.1) (fun t=>fr t.1 t.2.1) (fun t=>low t.1 t.2.1) (IL xs run) xs.length (0,s0,xs) ⟨rfl,rfl,Nat.zero_le _,h⟩ gI he h1 h2 ?_;rintro n ⟨i,s,q⟩ ⟨g1,g2,g3,g4⟩;subst g1;exact round i s q g2 g3 g4
theorem WG.nextL {env:Nat→σ→List (Nat×ED)} {fr:Nat→σ→List (Nat×aB)} {low:Nat→σ→List (Option aB)} {xs:List α} {run:Nat→List α→σ→Prop} {x:α} {q:List α} (hf:flatK 64 k=.goal (JI W env fr low xs run (x::q).length)::k') (i:Nat) (s:σ) (hd:xs.drop i=q) (hi:i≤xs.length) (hr:run i q s) (gI:List Nat)
  (he:pF gI (gY l) ((env i s).map Prod.fst)=(env i s).map Prod.snd) (h1:f=fr i s) (h2:os=low i s):WG W k l f os:=
 WG.next hf q.length (Nat.lt_succ_self _) (i,s,q) ⟨rfl,hd,hi,hr⟩ gI he h1 h2
abbrev UU (W:Wd) (env:σ→List (Nat×ED)) (fr:σ→List (Nat×aB)) (low:σ→List (Option aB)) (step:σ→Option (ρ⊕σ)) (o:ρ) (n:Nat):Env→St→Prop:=
 UM W env fr low (fun n s=>iterM n step s=some o) n
theorem WG.iter {c:Code} {step:σ→Option (ρ⊕σ)} {n:Nat} {s0:σ} {o:ρ} (h:iterM n step s0=some o) (hf:flatK 64 k=.code (.loop c)::k') (env:σ→List (Nat×ED)) (fr:σ→List (Nat×aB)) (low:σ→List (Option aB)) (gI:List Nat)
  (he:pF gI (gY l) ((env s0).map Prod.fst)=(env s0).map Prod.snd) (h1:f=fr s0) (h2:os=low s0)
  (round:∀n s,iterM (n+1) step s=some o→WG W (.code c::.goal (UU W env fr low step o (n+1))::k') (env s) (fr s) (low s)):WG W k l f os:=by
 refine WG.loop hf env fr low (fun n s=>iterM n step s=some o) n s0 h gI he h1 h2 ?_;intro n s hi;obtain⟨m,rfl,hm⟩:=Tj hi;exact round m s hi
theorem WG.aeZ {env:σ→List (Nat×ED)} {fr:σ→List (Nat×aB)} {low:σ→List (Option aB)} {step:σ→Option (ρ⊕σ)} {o:ρ} {n:Nat} (hf:flatK 64 k=.goal (UU W env fr low step o (n+1))::k') (s:σ) (hr:iterM n step s=some o) (gI:List Nat)
  (he:pF gI (gY l) ((env s).map Prod.fst)=(env s).map Prod.snd) (h1:f=fr s) (h2:os=low s):WG W k l f os:=
 WG.next hf n (Nat.lt_succ_self _) s hr gI he h1 h2
end
def lkT {α:Type}:List (Nat×α)→Nat→Option α
 | [],_=>none
 | (i,a)::r,t=>match Nat.beq i t with
  | true=>some a
  | false=>lkT r t
def allT {α:Type} (p:Nat→α→Prop):List (Nat×α)→Prop
 | []=>True
 | (i,a)::r=>p i a∧allT p r
theorem Tz {α:Type} {p:Nat→α→Prop}:∀{l:List (Nat×α)},allT p l→∀i a,lkT l i=some a→p i a
 | [],_,i,a,h=>by cases h
 | (j,b)::r,hp,i,a,h=>by
  simp only[lkT] at h;split at h
  ·rename_i hj;have:=Nat.eq_of_beq_eq_true hj;subst this;cases h; exact hp.1
  ·exact Tz hp.2 i a h
end Go.Mx
namespace Go.Ev
theorem Kd.len' {α:Type} {k:α→List Go.Mx.KD} {ks:List α→List (List Go.Mx.KD)} {sz:Nat} (h:Kd k ks sz) (l:List α):(((ks l).length:Nat):Int)=(l.length:Int):=by rw[h.length]
end Go.Ev
namespace Go.Mx
set_option linter.unusedVariables false
set_option linter.unusedSimpArgs false
def bn {ω τ:Type} (X:Option (ω⊕τ)) (R:τ→Option ω):Option ω:=
 X.bind fun o=>match o with
  | .inl w=>some w
  | .inr t=>R t
theorem FW {ω τ:Type} {X:Option (ω⊕τ)} {R:τ→Option ω} {r:ω} (h:bn X R=some r):∃o,X=some o∧(∀w,o=.inl w→w=r)∧∀t,o=.inr t→R t=some r:=by
 unfold bn at h;obtain⟨o,ho,h⟩:=bnd h;refine⟨o,ho,fun w hw=>?_,fun t ht=>?_⟩
 ·subst hw; exact Option.some.inj h
 ·subst ht; exact h
theorem bU {α σ ρ:Type} {step:σ→Nat→α→Option σ} {i:Nat} {x:α} {q:List α} {s:σ} {R:σ→Option ρ} {r:ρ} (h:(dV step i (x::q) s).bind R=some r):∃s',step s i x=some s'∧(dV step (i+1) q s').bind R=some r:=by
 simp only[dV] at h;obtain⟨y,hy,h⟩:=bnd h;obtain⟨s',hs,hy⟩:=bnd hy;exact⟨s',hs,by rw[hy]; exact h⟩
theorem aZ {α σ ω:Type} {step:σ→Nat→α→Option (ω⊕σ)} {i:Nat} {x:α} {q:List α} {s:σ} {R:σ→Option ω} {r:ω} (h:bn (bI step i (x::q) s) R=some r) :
  ∃y,step s i x=some y∧(∀w,y=.inl w→w=r)∧∀s',y=.inr s'→bn (bI step (i+1) q s') R=some r:=by
 obtain⟨o,ho,h1,h2⟩:=FW h;simp only[bI] at ho;obtain⟨y,hy,ho⟩:=bnd ho;refine⟨y,hy,fun w hw=>?_,fun s' hs=>?_⟩
 ·subst hw;exact h1 w (Option.some.inj ho).symm
 ·subst hs;have ho:bI step (i+1) q s'=some o:=ho;unfold bn;rw[ho];cases o with
  | inl w=>exact congrArg some (h1 w rfl)
  | inr t=>exact h2 t rfl
theorem bV {σ ω:Type} {step:σ→Option (ω⊕σ)} {n:Nat} {s:σ} {r:ω} (h:iterM (n+1) step s=some r) :
  ∃y,step s=some y∧(∀w,y=.inl w→w=r)∧∀s',y=.inr s'→iterM n step s'=some r:=by
 simp only[iterM] at h;obtain⟨y,hy,h⟩:=bnd h;refine⟨y,hy,fun w hw=>?_,fun s' hs=>?_⟩
 ·subst hw; exact Option.some.inj h
 ·subst hs; exact h
section
variable {W : Wd} {k k' : List KI} {l : List (Nat × ED)} {f : List (Nat × aB)} {os : List (Option aB)} {τ ω ρ : Type}
theorem WG.ae1 {X:Option τ} {R:τ→Option ρ} {r:ρ} (h:X.bind R=some r) {c:Code} (hf:flatK 64 k=.code c::k') (env:τ→List (Nat×ED)) (fr:τ→List (Nat×aB)) (low:τ→List (Option aB))
  (jp:∀t,R t=some r→WG W (flatK 64 k') (env t) (fr t) (low t)) (body:∀t,X=some t→WG W (flatK 64 k') (env t) (fr t) (low t)→WG W (.code c::k') l f os):WG W k l f os:=by
 obtain⟨t,ht,h⟩:=bnd h;exact WG.flat hf (body t ht (jp t h))
theorem WG.ae2 {X:Option (ω⊕τ)} {R:τ→Option ω} {r:ω} (h:bn X R=some r) {c:Code} (hf:flatK 64 k=.code c::k') (env:τ→List (Nat×ED)) (fr:τ→List (Nat×aB)) (low:τ→List (Option aB))
  (jp:∀t,R t=some r→WG W (flatK 64 k') (env t) (fr t) (low t)) (body:∀o,X=some o→(∀t,o=.inr t→WG W (flatK 64 k') (env t) (fr t) (low t))→(∀w,o=.inl w→w=r)→WG W (.code c::k') l f os):WG W k l f os:=by
 obtain⟨o,ho,h1,h2⟩:=FW h;exact WG.flat hf (body o ho (fun t ht=>jp t (h2 t ht)) h1)
theorem WG.leaf {l':List (Nat×ED)} {f':List (Nat×aB)} {os':List (Option aB)} (hj:WG W k' l' f' os') (hf:flatK 64 k=k') (gI:List Nat) (he:pF gI (gY l) (l'.map Prod.fst)=l'.map Prod.snd) (h1:f=f') (h2:os=os'):WG W k l f os:=by
 subst h1; subst h2;exact WG.flat hf (WG.less gI l' he hj)
end
theorem Rel.Yu {E:Setting} {cx:Cx} {st:St} {w:World} (r:Rel E cx st w) {key:Key} {cs cs':List D} (hk:st.get key=some (.cells cs)) (hlt:key.1<st.length) (hl:cs'.length=cs.length)
  (h:∀(j:Nat) d d' x,cs[j]? = some d→cs'[j]? = some d'→Rd cx w d x→Rd cx w d' x) (jD:allL (lv (key.1+1)) cs'=true):Rel E cx (st.set key (some (.cells cs'))) w:=by
 have hget:∀q,(st.set key (some (.cells cs'))).get q=if q=key then some (.cells cs') else st.get q:=fun q=>St.bZ hlt
 have bD:∀q b o,Mx.foot cx (st.set key (some (.cells cs'))) q b o→Mx.foot cx st q b o:=fun q b o hf=>by
  unfold Mx.foot at hf ⊢;rw[hget] at hf;by_cases hq:q=key
  ·subst hq;rw[if_pos rfl] at hf;rcases hf with ⟨c,o0,h1,h2,h3⟩ | ⟨_,_,_,_,_,⟨h1,h0⟩,_⟩
   ·cases h1; exact .inl ⟨cs,o0,hk,h2,by omega⟩
   ·cases h1; cases h0
  ·rw[if_neg hq] at hf; exact hf
 refine⟨fun q c hq=>?_,fun q n e z c hq=>?_,fun q ob n e hq=>?_,fun q b o hf=>r.foot q b o (bD q b o hf),fun q q' b o h1 h2=>r.sep q q' b o (bD q b o h1) (bD q' b o h2),fun q l hq=>?_,fun q l hq=>?_,r.mlt,fun q b o hf=>r.nz q b o (bD q b o hf),r.zm,r.tK,r.apart,r.rows,r.glob⟩
 ·rw[hget] at hq;by_cases hqk:q=key
  ·subst hqk;rw[if_pos rfl] at hq;cases hq;obtain⟨_,b,o,h2,h3⟩:=r.cells q cs hk;refine⟨jD,b,o,h2,fun j d hj=>?_⟩;obtain⟨d0,hd0⟩:=eF hl.symm hj;obtain⟨x,hx,hrd⟩:=h3 j d0 hd0;exact⟨x,hx,h j d0 d x hd0 hj hrd⟩
  ·rw[if_neg hqk] at hq; exact r.cells q c hq
 ·rw[hget] at hq;by_cases hqk:q=key
  ·subst hqk; rw[if_pos rfl] at hq; cases hq
  ·rw[if_neg hqk] at hq; exact r.vec q n e z c hq
 ·obtain⟨hq,h0⟩:=hq;rw[hget] at hq;by_cases hqk:q=key
  ·subst hqk; rw[if_pos rfl] at hq; cases hq; cases h0
  ·rw[if_neg hqk] at hq; exact r.tok q ob n e ⟨hq,h0⟩
 ·rw[hget];by_cases hqk:q=key
  ·subst hqk; rw[if_pos rfl]; exact⟨_,rfl⟩
  ·rw[if_neg hqk]; exact r.qI q l hq
 ·rw[hget];by_cases hqk:q=key
  ·subst hqk;obtain⟨ob,n,e,h1,h0⟩:=r.mD q l hq;rw[hk] at h1; cases h1; cases h0
  ·rw[if_neg hqk]; exact r.mD q l hq
section
variable {W : Wd} {k k' : List KI} {l : List (Nat × ED)} {f : List (Nat × aB)} {os : List (Option aB)}
theorem WG.aaS (u j v:Nat) (e:TypeId) {z:Nat} {xs:List (List KD)} {cs:List ED} (hu:gu f u=some (.cells cs)) (hj:cs[j]? = some (.d (.sl z true xs))) (hv:gu f v=none) (hne:Nat.beq u v=false) (f':List (Nat×aB))
  (hf':dw (dw f v (.tok xs.length e)) u (.cells (cs.set j (.gs (.own v) z xs)))=f') (hk:WG W k l f' os):WG W k l f os:=fun hlen=>by
 have hL:=W.hL (gG W.κ os);intro B cx a w hB hl' hex hr;have hg:=oZ (ks:=W.ks) (low:=W.low) (os:=os) W.hl hL hv;have hkey:(W.L,v).1<(bT W.κ W.low f os).length:=by simp[bT,hL]
 obtain⟨bK,r1,r2,r3⟩:=hr.rel.ghost (key:=(W.L,v)) hkey hg xs.length e;have hst:(bT W.κ W.low f os).set (W.L,v) (some (.tok xs.length e))=bT W.κ W.low (dw f v (.tok xs.length e)) os:=fO (p:=.own v) (o':=.tok xs.length e) W.hl hL hlen rfl;have r1:Rel W.X.E bK ((bT W.κ W.low f os).set (W.L,v) (some (dD.tok xs.length e))) w:=r1;rw[hst] at r1;have hgu:fU (dw f v (.tok xs.length e)) os (.own u)=some (.cells cs):=by
  simp only[fU,Ey];rw[if_neg (fun h=>by subst h; simp at hne)]; exact hu
 obtain⟨c1,c2⟩:=eG (ks:=W.ks) W.hl hL hlen hgu;have c1:(bT W.κ W.low (dw f v (.tok xs.length e)) os).get (W.L,u)=some (.cells (ED.DL W.κ cs)):=c1;have jD:=(r1.cells _ _ c1).1;have hset:∀j',(cs.set j (.gs (.own v) z xs))[j']? = if j=j' then(if j<cs.length then some (.gs (.own v) z xs) else none) else cs[j']?:=fun j'=>by rw[List.getElem?_set]
 have r4:=r1.Yu c1 c2 (cs':=ED.DL W.κ (cs.set j (.gs (.own v) z xs))) (by simp[dM]) (fun j' d d' x hd hd' hrd=>by
  rw[kG,Option.map_eq_some_iff] at hd hd';obtain⟨a1,h1,rfl⟩:=hd;obtain⟨a2,h2,rfl⟩:=hd';rw[hset] at h2;by_cases hjj:j=j'
  ·subst hjj;rw[hj] at h1; cases h1;rw[if_pos rfl] at h2;split at h2
   ·cases h2;exact Rd.own (cx:=bK) (e:=e) hrd (by rw[dK]; exact r3)
   ·cases h2
  ·rw[if_neg hjj] at h2;rw[h1] at h2; cases h2; exact hrd) (by
  have hall:∀(c:List ED),allL (lv (W.L+1)) (ED.DL W.κ c)=true↔∀x∈c,(x.D W.κ).all (lv (W.L+1))=true:=fun c=>by
   induction c with
   | nil=>simp[ED.DL,allL]
   | cons a r ih=>simp only[ED.DL,allL,Bool.and_eq_true,ih,List.forall_mem_cons]
  have h0:=(hall cs).1 jD;refine(hall _).2 fun x hx=>?_;rcases List.mem_or_eq_of_mem_set hx with h | h
  ·exact h0 x h
  ·subst h;simp only[ED.D,D.all,Tok.all,Bool.and_eq_true];exact⟨by show lv (W.L+1) (W.L,v)=true; simp[lv],KD.iW _ _⟩)
 have hst2:(bT W.κ W.low (dw f v (.tok xs.length e)) os).set (W.L,u) (some (.cells (ED.DL W.κ (cs.set j (.gs (.own v) z xs)))))=bT W.κ W.low f' os:=by
  rw[← hf'];exact fO (p:=.own u) (o':=.cells (cs.set j (.gs (.own v) z xs))) W.hl hL hlen rfl
 have r4:Rel W.X.E bK ((bT W.κ W.low (dw f v (.tok xs.length e)) os).set (W.L,u) (some (.cells (ED.DL W.κ (cs.set j (.gs (.own v) z xs)))))) w:=r4;rw[hst2] at r4;have hlen2:(bT W.κ W.low f' os).length=(bT W.κ W.low f os).length:=by simp[bT]
 exact hk hlen B bK a w hB (by show(bT _ _ _ _).length=_; rw[hlen2]; exact hl') (hex.trans (r2.weaken fun _ _=>rfl)) ⟨r4,hr.size,fun t=>(hr.tmps t).mono r2 (eU.ext.all_true _),hr.defers⟩
end
end Go.Mx
namespace Go.Mx
set_option linter.unusedVariables false
theorem dF {α σ ρ:Type} {step:σ→Nat→α→Option σ} {i:Nat} {s:σ} {R:σ→Option ρ} {r:ρ} (h:(dV step i [] s).bind R=some r):R s=some r:=h
theorem bH {α σ ω:Type} {step:σ→Nat→α→Option (ω⊕σ)} {i:Nat} {s:σ} {R:σ→Option ω} {r:ω} (h:bn (bI step i [] s) R=some r):R s=some r:=h
section
variable {W : Wd} {k k' : List KI} {l : List (Nat × ED)} {f : List (Nat × aB)} {os : List (Option aB)} {α σ ρ : Type}
theorem WG.ae3 {c:Code} {xs:List α} {s0:σ} {step:σ→Nat→α→Option σ} {R:σ→Option ρ} {r:ρ} (h:(dV step 0 xs s0).bind R=some r) (hf:flatK 64 k=.code (.loop c)::k') (env:Nat→σ→List (Nat×ED)) (fr:Nat→σ→List (Nat×aB)) (low:Nat→σ→List (Option aB)) (gI:List Nat)
  (he:pF gI (gY l) ((env 0 s0).map Prod.fst)=(env 0 s0).map Prod.snd) (h1:f=fr 0 s0) (h2:os=low 0 s0)
  (round:∀i s q,xs.drop i=q→i≤xs.length→(dV step i q s).bind R=some r→WG W (.code c::.goal (JI W env fr low xs (fun i q s=>(dV step i q s).bind R=some r) q.length)::k') (env i s) (fr i s) (low i s)):WG W k l f os:=
 WG.list (run:=fun i q s=>(dV step i q s).bind R=some r) h hf env fr low gI he h1 h2 round
theorem WG.ae4 {c:Code} {xs:List α} {s0:σ} {step:σ→Nat→α→Option (ρ⊕σ)} {R:σ→Option ρ} {r:ρ} (h:bn (bI step 0 xs s0) R=some r) (hf:flatK 64 k=.code (.loop c)::k') (env:Nat→σ→List (Nat×ED)) (fr:Nat→σ→List (Nat×aB)) (low:Nat→σ→List (Option aB)) (gI:List Nat)
  (he:pF gI (gY l) ((env 0 s0).map Prod.fst)=(env 0 s0).map Prod.snd) (h1:f=fr 0 s0) (h2:os=low 0 s0)
  (round:∀i s q,xs.drop i=q→i≤xs.length→bn (bI step i q s) R=some r→WG W (.code c::.goal (JI W env fr low xs (fun i q s=>bn (bI step i q s) R=some r) q.length)::k') (env i s) (fr i s) (low i s)):WG W k l f os:=
 WG.list (run:=fun i q s=>bn (bI step i q s) R=some r) h hf env fr low gI he h1 h2 round
end
end Go.Mx
namespace Go.Ev
open Go.Mx (KD)
def inB (i:Int) (n:Nat):Option Unit:=if 0≤i∧i.toNat<n then some () else none
theorem ae5 {i:Int} {n:Nat} {u:Unit} (h:inB i n=some u):0≤i∧i.toNat<n:=by
 unfold inB at h;split at h
 ·rename_i hb; exact hb
 ·cases h
def VX {α:Type} (l:List α) (n:Nat):Option Unit:=if l.length=n then some () else none
section
variable {α : Type} {k : α → List KD} {ks : List α → List (List KD)} {sz : Nat}
theorem Kd.FX (h:Kd k ks sz) {l:List α} {i:Nat} {x:α} (hx:l[i]? = some x):(ks l)[i]? = some (k x):=by rw[h.eq,List.getElem?_map,hx]; rfl
theorem Kd.agw (h:Kd k ks sz) (l:List α) (i:Nat) (x:α):(ks l).set i (k x)=ks (l.set i x):=by rw[h.eq,h.eq,List.map_set]
theorem Kd.sln (h:Kd k ks sz) {l zs:List α} {a:Int} (hx:IC l a (l.length:Int)=some zs):Go.Mx.Jg a ((ks l).length:Int) (ks l).length∧((ks l).drop a.toNat).take ((((ks l).length:Int)).toNat-a.toNat)=ks zs:=by
 have:=h.sl hx;rw[h.length] at this ⊢;exact this
end
end Go.Ev
namespace Go.Mx
set_option linter.unusedVariables false
def pI:Nat→List KI→List KI
 | 0,k=>k
 | n+1,.code (.seq x y)::k=>pI n (.code x::.code y::k)
 | n+1,.code .skip::k=>pI n k
 | n+1,.inBlock _::k=>pI n k
 | n+1,.code (.exit id)::k=>match rC id k with
  | some k'=>pI n k'
  | none=>.code (.exit id)::k
 | n+1,k=>k
theorem WS.pI {W:Wd} {s:ES}:∀{n:Nat} {k:List KI},WS W (pI n k) s→WS W k s
 | 0,_,h=>h
 | n+1,[],h=>h
 | n+1,.inBlock id::k,h=>fun hlen=>AW.inBlock (WS.pI (n:=n) (k:=k) h hlen)
 | n+1,.inLoop c::k,h=>h
 | n+1,.ops a b::k,h=>h
 | n+1,.goal J::k,h=>h
 | n+1,.code c::k,h=>by
  cases c with
  | seq x y=>exact fun hlen=>AW.seq (WS.pI (n:=n) (k:=.code x::.code y::k) h hlen)
  | skip=>exact fun hlen=>AW.skip (WS.pI (n:=n) (k:=k) h hlen)
  | exit id=>
   simp only[Mx.pI] at h;cases hp:rC id k with
   | none=>rw[hp] at h; exact h
   | some k'=>rw[hp] at h; exact fun hlen=>AW.exit hp (WS.pI (n:=n) (k:=k') h hlen)
  | _=>exact h
theorem WG.pI {W:Wd} {k k':List KI} {l:List (Nat×ED)} {f:List (Nat×aB)} {os:List (Option aB)} (hf:Mx.pI 64 k=k') (h:WG W k' l f os):WG W k l f os:=by
 subst hf; exact WS.pI (n:=64) h
section
variable {W : Wd} {k k' : List KI} {l : List (Nat × ED)} {f : List (Nat × aB)} {os : List (Option aB)} {τ ω ρ : Type}
theorem WG.acN {X:Option τ} {R:τ→Option ρ} {r:ρ} (h:X.bind R=some r) {c:Code} (hf:Mx.pI 64 k=.code c::k') (env:τ→List (Nat×ED)) (fr:τ→List (Nat×aB)) (low:τ→List (Option aB))
  (jp:∀t,R t=some r→WG W (flatK 64 k') (env t) (fr t) (low t)) (body:∀t,X=some t→WG W (flatK 64 k') (env t) (fr t) (low t)→WG W (.code c::k') l f os):WG W k l f os:=by
 obtain⟨t,ht,h⟩:=bnd h;exact WG.pI hf (body t ht (jp t h))
theorem WG.acO {X:Option (ω⊕τ)} {R:τ→Option ω} {r:ω} (h:bn X R=some r) {c:Code} (hf:Mx.pI 64 k=.code c::k') (env:τ→List (Nat×ED)) (fr:τ→List (Nat×aB)) (low:τ→List (Option aB))
  (jp:∀t,R t=some r→WG W (flatK 64 k') (env t) (fr t) (low t)) (body:∀o,X=some o→(∀t,o=.inr t→WG W (flatK 64 k') (env t) (fr t) (low t))→(∀w,o=.inl w→w=r)→WG W (.code c::k') l f os):WG W k l f os:=by
 obtain⟨o,ho,h1,h2⟩:=FW h;exact WG.pI hf (body o ho (fun t ht=>jp t (h2 t ht)) h1)
end
end Go.Mx
namespace Go.Mx
set_option linter.unusedVariables false
set_option linter.unusedSimpArgs false
def nek (k0:Key):Key→Bool:=fun k=>!(decide (k=k0))
theorem gX {k0 k:Key}:nek k0 k=true↔k≠k0:=by simp[nek]
theorem Rel.move {E:Setting} {cx:Cx} {st:St} {w:World} (r:Rel E cx st w) {k0 q:Key} {cs:List D} (hk0:st.get k0=some (.cells cs)) (hq:st.get q=none) (hl0:k0.1<st.length) (hlq:q.1<st.length)
  (hcs:allL (fun _=>false) cs=true) (hc:∀key (c:dD),key≠k0→st.get key=some c→allL (nek k0) c.body=true) :
  ∃bK,Rel E bK ((st.set k0 none).set q (some (.cells cs))) w∧Ext (nek k0) cx w bK w∧bK.bx q=cx.bx k0:=by
 have hne:q≠k0:=fun e=>by subst e; rw[hk0] at hq; cases hq
 have hqb:cx.bx q=none:=by
  cases h:cx.bx q with
  | none=>rfl
  | some l=>obtain⟨c,hc⟩:=r.qI q l h; rw[hq] at hc; cases hc
 have hqt:cx.tk q=none:=by
  cases h:cx.tk q with
  | none=>rfl
  | some l=>obtain⟨_,n,e,hc,_⟩:=r.mD q l h; rw[hq] at hc; cases hc
 have h0t:cx.tk k0=none:=by
  cases h:cx.tk k0 with
  | none=>rfl
  | some l=>obtain⟨_,n,e,hc,h0⟩:=r.mD k0 l h; rw[hk0] at hc; cases hc; cases h0
 let bx':Key→Option (Nat×Nat):=fun k=>if k=q then cx.bx k0 else if k=k0 then none else cx.bx k
 have hget:∀k,((st.set k0 none).set q (some (.cells cs))).get k=if k=q then some (.cells cs) else if k=k0 then none else st.get k:=fun k=>by
  rw[St.bZ (by rw[St.length_set]; exact hlq),St.bZ hl0]
 let bK:Cx:={ bx:=bx',tk:=cx.tk,M:=cx.M,Z:=cx.Z }
 have hext:Ext (nek k0) cx w bK w:=by
  refine⟨rfl,rfl,rfl,Nat.le_refl _,fun _ _ _=>rfl,fun _ _ _ _=>rfl,fun _ _ _ h=>h,fun key l hk h=>?_,fun key n l hk h=>⟨n,l,h,Nat.le_refl _,fun _=>rfl⟩,rfl,fun key n e g c z h _=>⟨key,n,e,c,z,h⟩,fun _ _ _=>rfl⟩;show(if key=q then _ else if key=k0 then none else cx.bx key)=_;rw[if_neg (fun e=>by subst e; rw[hqb] at h; cases h),if_neg (gX.1 hk)]; exact h
 -- what stands in the new state, told of the old
 have bD:∀key b o,Mx.foot bK ((st.set k0 none).set q (some (.cells cs))) key b o→Mx.foot cx st (if key=q then k0 else key) b o∧key≠k0:=fun key b o h=>by
  rcases h with ⟨c,o0,h1,h2,h3⟩ | ⟨ob,n,e,c,z,⟨h1,h0⟩,h2,h3⟩
  ·rw[hget] at h1;have h2:bx' key=some (b,o0):=h2;by_cases hkq:key=q
   ·subst hkq;rw[if_pos rfl] at h1; cases h1;have h2:(if key=key then cx.bx k0 else if key=k0 then none else cx.bx key)=some (b,o0):=h2;rw[if_pos rfl] at h2;rw[if_pos rfl];exact⟨.inl ⟨cs,o0,hk0,h2,h3⟩,hne⟩
   ·rw[if_neg hkq] at h1;have h2:(if key=q then cx.bx k0 else if key=k0 then none else cx.bx key)=some (b,o0):=h2;rw[if_neg hkq] at h2;rw[if_neg hkq];by_cases hk:key=k0
    ·rw[if_pos hk] at h1; cases h1
    ·rw[if_neg hk] at h1 h2;exact⟨.inl ⟨c,o0,h1,h2,h3⟩,hk⟩
  ·rw[hget] at h1;have h2:cx.tk key=some (n,e,some (b,c,z)):=h2;by_cases hkq:key=q
   ·subst hkq; rw[if_pos rfl] at h1; cases h1; cases h0
   ·rw[if_neg hkq] at h1;rw[if_neg hkq];by_cases hk:key=k0
    ·rw[if_pos hk] at h1; cases h1
    ·rw[if_neg hk] at h1;exact⟨.inr ⟨ob,n,e,c,z,⟨h1,h0⟩,h2,h3⟩,hk⟩
 refine⟨bK,⟨fun key c h=>?_,fun key n e z c h=>?_,fun key ob n e h=>?_,fun key b o h=>r.foot _ b o (bD _ _ _ h).1,fun k1 k2 b o h h'=>?_,fun key l h=>?_,fun key l h=>?_,r.mlt,fun key b o h=>r.nz _ b o (bD _ _ _ h).1,r.zm,fun key b o h=>?_,
   fun k1 k2 b o n e g c z h h'=>?_,r.rows,fun g=>(r.glob g).mono hext ((dI (fun q hq=>by cases hq)).1 _ (E.lK g))⟩,hext,if_pos rfl⟩
 ·rw[hget] at h;by_cases hkq:key=q
  ·subst hkq;rw[if_pos rfl] at h; cases h;obtain⟨_,b,o,h2,h3⟩:=r.cells k0 cs hk0;refine⟨(dI (fun q hq=>by cases hq)).2.1 _ hcs,b,o,(if_pos rfl:bx' key=_).trans h2,fun j d hj=>?_⟩;obtain⟨x,hx,hrd⟩:=h3 j d hj;exact⟨x,hx,hrd.mono hext ((dI (fun q hq=>by cases hq)).1 _ (dX hcs hj))⟩
  ·rw[if_neg hkq] at h;by_cases hk:key=k0
   ·rw[if_pos hk] at h; cases h
   ·rw[if_neg hk] at h;obtain⟨h1,b,o,h2,h3⟩:=r.cells key c h;refine⟨h1,b,o,?_,fun j d hj=>?_⟩
    ·show(if key=q then cx.bx k0 else if key=k0 then none else cx.bx key)=_;rw[if_neg hkq,if_neg hk]; exact h2
    ·obtain⟨x,hx,hrd⟩:=h3 j d hj;exact⟨x,hx,hrd.mono hext (dX (hc key (.cells c) hk h) hj)⟩
 ·rw[hget] at h;by_cases hkq:key=q
  ·subst hkq; rw[if_pos rfl] at h; cases h
  ·rw[if_neg hkq] at h;by_cases hk:key=k0
   ·rw[if_pos hk] at h; cases h
   ·rw[if_neg hk] at h;exact r.qc h rfl (fun _ _ _ _ _ _ _ hx=>hx) (fun j d x hj hr=>hr.mono hext (dX (hc key (.vec n e z c) hk h) hj))
 ·obtain⟨h,h0⟩:=h;rw[hget] at h;by_cases hkq:key=q
  ·subst hkq; rw[if_pos rfl] at h; cases h; cases h0
  ·rw[if_neg hkq] at h;by_cases hk:key=k0
   ·rw[if_pos hk] at h; cases h
   ·rw[if_neg hk] at h; exact r.tok key ob n e ⟨h,h0⟩
 ·obtain⟨g1,n1⟩:=bD _ _ _ h;obtain⟨g2,n2⟩:=bD _ _ _ h';have:=r.sep _ _ b o g1 g2;by_cases e1:k1=q <;> by_cases e2:k2=q
  ·rw[e1,e2]
  ·rw[if_pos e1,if_neg e2] at this; exact absurd this.symm n2
  ·rw[if_neg e1,if_pos e2] at this; exact absurd this n1
  ·rw[if_neg e1,if_neg e2] at this; exact this
 ·have h:(if key=q then cx.bx k0 else if key=k0 then none else cx.bx key)=some l:=h;rw[hget];by_cases hkq:key=q
  ·rw[if_pos hkq]; exact⟨_,rfl⟩
  ·rw[if_neg hkq] at h ⊢;by_cases hk:key=k0
   ·rw[if_pos hk] at h; cases h
   ·rw[if_neg hk] at h ⊢; exact r.qI key l h
 ·have h:cx.tk key=some l:=h;rw[hget];by_cases hkq:key=q
  ·subst hkq; rw[hqt] at h; cases h
  ·rw[if_neg hkq];by_cases hk:key=k0
   ·subst hk; rw[h0t] at h; cases h
   ·rw[if_neg hk]; exact r.mD key l h
 ·have h:(if key=q then cx.bx k0 else if key=k0 then none else cx.bx key)=some (b,o):=h;split at h
  ·exact r.tK _ _ _ h
  ·split at h
   ·cases h
   ·exact r.tK _ _ _ h
 ·have h:(if k1=q then cx.bx k0 else if k1=k0 then none else cx.bx k1)=some (b,o):=h;split at h
  ·exact r.apart _ _ _ _ _ _ _ _ _ h h'
  ·split at h
   ·cases h
   ·exact r.apart _ _ _ _ _ _ _ _ _ h h'
section
variable {W : Wd} {k k' : List KI} {l : List (Nat × ED)} {f : List (Nat × aB)} {os : List (Option aB)}
theorem IE {L u:Nat} {κ:Pl→Key} {low:List (Option dD)→St} {f:List (Nat×aB)} {os:List (Option aB)} (hL:(low (gG κ os)).length=L):(bT κ low f os).set (L,u) none=bT κ low (fV f u) os:=by
 unfold bT;subst hL;rw[yK,sV,jU]
theorem WG.move (t u i:Nat) {cs:List KD} (hl:l=[(t,.ptr (.own u) 0)]) (hu:gu f u=some (.cells (cs.map .d))) (hf:CB os.length (some u) (fV f u)=true) (hi:os[i]? = some none)
  (hk:WG W k [(t,.ptr (.low i) 0)] (fV f u) (os.set i (some (.cells (cs.map .d))))):WG W k l f os:=fun hlen=>by
 subst hl;have hlen:os.length=W.ks.length:=hlen;have hp:∀p:Pl,p.vW os.length (some u)=true→notKey W.L u (W.κ p)=true:=fun p hp=>yR W.hl W.hL hlen hp;have hL:=W.hL (gG W.κ os);have hio:i<os.length:=by
  rcases Nat.lt_or_ge i os.length with h | h
  ·exact h
  ·rw[List.getElem?_eq_none h] at hi; cases hi
 have hik:W.ks[i]? = some (W.ks[i]'(by omega)):=List.getElem?_eq_getElem (by omega);have hq:W.κ (.low i)=W.ks[i]'(by omega):=je hik;have hlen':(os.set i (some (aB.cells (cs.map .d)))).length=W.ks.length:=by rw[List.length_set]; exact hlen
 intro B cx a w hB hl' hex hr;have r:Rel W.X.E cx (bT W.κ W.low f os) w:=hr.rel;obtain⟨g1,g2⟩:=eG (ks:=W.ks) (low:=W.low) (p:=.own u) W.hl hL hlen hu;have hlow:=W.hl.get (gG W.κ os) (by rw[rF]; exact hlen) i _ hik;have yL:=W.hl.lt (gG W.κ os) i _ hik;rw[hL] at yL;have DT:(bT W.κ W.low f os).length=W.L+1:=by simp[bT,hL]
 have hgq:(bT W.κ W.low f os).get (W.κ (.low i))=none:=by
  rw[hq];show St.get (_::W.low (gG W.κ os)) _=none;rw[St.kM (by rw[hL]; exact yL),hlow,yM,hi]; rfl
 have hnk:∀k:Key,k≠(W.L,u)→nek (W.L,u) k=true:=fun k h=>gX.2 h;have hok:=rW hp _ hf;obtain⟨bK,r1,r2,r3⟩:=r.move (k0:=(W.L,u)) (q:=W.κ (.low i)) g1 hgq (by rw[DT]; simp) (by rw[DT,hq]; omega)
  ((congrArg (allL fun _=>false) (by rw[ED.fK,List.map_map]; rfl:ED.DL W.κ (cs.map .d)=cs.map KD.D)).trans (by rw[← KD.fK]; exact KD.iP _ cs)) (fun key c hne hg=>by
   have h2:=r.FB hg;by_cases h1:key.1=W.L
   ·have hg2:jA (fA W.κ (fV f u)) key.2=some c:=by
     rw[sV,← jU,Fr.upd_ne _ _ _ _ (fun e=>hne (Prod.ext h1 e))];have:St.get (jA (fA W.κ f)::W.low (gG W.κ os)) key=some c:=hg;simp only[St.get,h1,hL,if_true] at this;exact this
    refine(dI (fun q hq=>gX.2 ?_)).2.1 _ (jd.ok hok key.2 c hg2);exact dL.1 hq
   ·have h3:key.1<W.L:=by
     rcases Nat.lt_or_ge key.1 (bT W.κ W.low f os).length with h | h
     ·rw[DT] at h; omega
     ·rw[St.wH h] at hg; cases hg
    refine(dI (fun q hq=>gX.2 (fun e=>?_))).2.1 _ h2;simp only[lv,decide_eq_true_eq,e] at hq;omega)
 have e1:(bT W.κ W.low f os).set (W.L,u) none=bT W.κ W.low (fV f u) os:=IE hL;rw[e1] at r1;have e2:(bT W.κ W.low (fV f u) os).set (W.κ (.low i)) (some ((aB.cells (cs.map .d)).A W.κ))=bT W.κ W.low (fV f u) (os.set i (some (.cells (cs.map .d)))):=
  fO (p:=.low i) (o':=.cells (cs.map .d)) W.hl hL hlen (Nat.ble_eq_true_of_le hio)
 have r1:Rel W.X.E bK ((bT W.κ W.low (fV f u) os).set (W.κ (.low i)) (some ((aB.cells (cs.map .d)).A W.κ))) w:=r1;rw[e2] at r1;refine hk hlen' B bK a w hB (by show(bT W.κ W.low _ _).length=W.L+1; simp[bT,W.hL]) (hex.trans (r2.weaken fun key hk=>gX.2 (fun e=>?_))) ⟨r1,hr.size,fun v=>?_,hr.defers⟩
 ·have hB:B.L=W.L:=hB;simp only[lv,decide_eq_true_eq,e,hB] at hk;omega
 ·have hv:=hr.tmps v;show Rd bK w ((qM (gY []) t (.ptr (.low i) 0) v).D W.κ) _;have hv:Rd cx w ((qM (gY []) t (.ptr (.own u) 0) v).D W.κ) (a.tmps.getD v undef):=hv;simp only[qM] at hv ⊢;cases hb:Nat.beq v t with
  | false=>exact .any _
  | true=>
   rw[hb] at hv;have hv:Rd cx w (.bx (W.L,u) 0) (a.tmps.getD v undef):=hv;show Rd bK w (.bx (W.κ (.low i)) 0) (a.tmps.getD v undef);cases hx:a.tmps.getD v undef <;> rw[hx] at hv <;> cases hv;rename_i b o hbx;exact .bx (by rw[r3]; exact hbx)
end
end Go.Mx
namespace Go.Mx
set_option linter.unusedVariables false
set_option linter.unusedSimpArgs false
theorem Rel.BP {E:Setting} {cx:Cx} {st:St} {w:World} (r:Rel E cx st w) {key:Key} {cs cs':List D} (hk:st.get key=some (.cells cs)) (hlt:key.1<st.length) (hl:cs'.length=cs.length)
  (h:∀b o,cx.bx key=some (b,o)→∀(j:Nat) d d' x,cs[j]? = some d→cs'[j]? = some d'→w.cell? ⟨b,o+j,none⟩=some x→Rd cx w d x→Rd cx w d' x) (jD:allL (lv (key.1+1)) cs'=true):Rel E cx (st.set key (some (.cells cs'))) w:=by
 have hget:∀q,(st.set key (some (.cells cs'))).get q=if q=key then some (.cells cs') else st.get q:=fun q=>St.bZ hlt
 have bD:∀q b o,Mx.foot cx (st.set key (some (.cells cs'))) q b o→Mx.foot cx st q b o:=fun q b o hf=>by
  unfold Mx.foot at hf ⊢;rw[hget] at hf;by_cases hq:q=key
  ·subst hq;rw[if_pos rfl] at hf;rcases hf with ⟨c,o0,h1,h2,h3⟩ | ⟨_,_,_,_,_,⟨h1,h0⟩,_⟩
   ·cases h1; exact .inl ⟨cs,o0,hk,h2,by omega⟩
   ·cases h1; cases h0
  ·rw[if_neg hq] at hf; exact hf
 refine⟨fun q c hq=>?_,fun q n e z c hq=>?_,fun q ob n e hq=>?_,fun q b o hf=>r.foot q b o (bD q b o hf),fun q q' b o h1 h2=>r.sep q q' b o (bD q b o h1) (bD q' b o h2),fun q l hq=>?_,fun q l hq=>?_,r.mlt,fun q b o hf=>r.nz q b o (bD q b o hf),r.zm,r.tK,r.apart,r.rows,r.glob⟩
 ·rw[hget] at hq;by_cases hqk:q=key
  ·subst hqk;rw[if_pos rfl] at hq;cases hq;obtain⟨_,b,o,h2,h3⟩:=r.cells q cs hk;refine⟨jD,b,o,h2,fun j d hj=>?_⟩;obtain⟨d0,hd0⟩:=eF hl.symm hj;obtain⟨x,hx,hrd⟩:=h3 j d0 hd0;exact⟨x,hx,h _ _ h2 j d0 d x hd0 hj hx hrd⟩
  ·rw[if_neg hqk] at hq; exact r.cells q c hq
 ·rw[hget] at hq;by_cases hqk:q=key
  ·subst hqk; rw[if_pos rfl] at hq; cases hq
  ·rw[if_neg hqk] at hq; exact r.vec q n e z c hq
 ·obtain⟨hq,h0⟩:=hq;rw[hget] at hq;by_cases hqk:q=key
  ·subst hqk; rw[if_pos rfl] at hq; cases hq; cases h0
  ·rw[if_neg hqk] at hq; exact r.tok q ob n e ⟨hq,h0⟩
 ·rw[hget];by_cases hqk:q=key
  ·subst hqk; rw[if_pos rfl]; exact⟨_,rfl⟩
  ·rw[if_neg hqk]; exact r.qI q l hq
 ·rw[hget];by_cases hqk:q=key
  ·subst hqk;obtain⟨ob,n,e,h1,h0⟩:=r.mD q l hq;rw[hk] at h1; cases h1; cases h0
  ·rw[if_neg hqk]; exact r.mD q l hq
section
variable {W : Wd} {k k' : List KI} {l : List (Nat × ED)} {f : List (Nat × aB)} {os : List (Option aB)}
theorem WG.Yv (u j v:Nat) (e:TypeId) {z:Nat} {cs:List ED} (hu:gu f u=some (.cells cs)) (hj:cs[j]? = some (.d (.sl z true []))) (hv:gu f v=none) (hne:Nat.beq u v=false) (f':List (Nat×aB))
  (hf':dw (dw f v (.vec e z [])) u (.cells (cs.set j (.vs (.own v) z 0)))=f') (hk:WG W k l f' os):WG W k l f os:=fun hlen=>by
 have hL:=W.hL (gG W.κ os);intro B cx a w hB hl' hex hr;have hg:=oZ (ks:=W.ks) (low:=W.low) (os:=os) W.hl hL hv;have hkey:(W.L,v).1<(bT W.κ W.low f os).length:=by simp[bT,hL]
 obtain⟨bK,r1,r2,r3⟩:=hr.rel.NH (key:=(W.L,v)) hkey hg e z;have hst:(bT W.κ W.low f os).set (W.L,v) (some (.vec 0 e z []))=bT W.κ W.low (dw f v (.vec e z [])) os:=fO (p:=.own v) (o':=.vec e z []) W.hl hL hlen rfl;have r1:Rel W.X.E bK ((bT W.κ W.low f os).set (W.L,v) (some (dD.vec 0 e z []))) w:=r1;rw[hst] at r1;have hgu:fU (dw f v (.vec e z [])) os (.own u)=some (.cells cs):=by
  simp only[fU,Ey];rw[if_neg (fun h=>by subst h; simp at hne)]; exact hu
 obtain⟨c1,c2⟩:=eG (ks:=W.ks) W.hl hL hlen hgu;have c1:(bT W.κ W.low (dw f v (.vec e z [])) os).get (W.L,u)=some (.cells (ED.DL W.κ cs)):=c1;have jD:=(r1.cells _ _ c1).1;have hset:∀j',(cs.set j (.vs (.own v) z 0))[j']? = if j=j' then(if j<cs.length then some (.vs (.own v) z 0) else none) else cs[j']?:=fun j'=>by rw[List.getElem?_set]
 have r4:=r1.Yu c1 c2 (cs':=ED.DL W.κ (cs.set j (.vs (.own v) z 0))) (by simp[dM]) (fun j' d d' x hd hd' hrd=>by
  rw[kG,Option.map_eq_some_iff] at hd hd';obtain⟨a1,h1,rfl⟩:=hd;obtain⟨a2,h2,rfl⟩:=hd';rw[hset] at h2;by_cases hjj:j=j'
  ·subst hjj;rw[hj] at h1; cases h1;rw[if_pos rfl] at h2;split at h2
   ·cases h2;exact Rd.aao (bK:=bK) (e:=e) hrd r3
   ·cases h2
  ·rw[if_neg hjj] at h2;rw[h1] at h2; cases h2; exact hrd) (by
  have hall:∀(c:List ED),allL (lv (W.L+1)) (ED.DL W.κ c)=true↔∀x∈c,(x.D W.κ).all (lv (W.L+1))=true:=fun c=>by
   induction c with
   | nil=>simp[ED.DL,allL]
   | cons a r ih=>simp only[ED.DL,allL,Bool.and_eq_true,ih,List.forall_mem_cons]
  have h0:=(hall cs).1 jD;refine(hall _).2 fun x hx=>?_;rcases List.mem_or_eq_of_mem_set hx with h | h
  ·exact h0 x h
  ·subst h;show lv (W.L+1) (W.L,v)=true;simp[lv])
 have hst2:(bT W.κ W.low (dw f v (.vec e z [])) os).set (W.L,u) (some (.cells (ED.DL W.κ (cs.set j (.vs (.own v) z 0)))))=bT W.κ W.low f' os:=by
  rw[← hf'];exact fO (p:=.own u) (o':=.cells (cs.set j (.vs (.own v) z 0))) W.hl hL hlen rfl
 have r4:Rel W.X.E bK ((bT W.κ W.low (dw f v (.vec e z [])) os).set (W.L,u) (some (.cells (ED.DL W.κ (cs.set j (.vs (.own v) z 0)))))) w:=r4;rw[hst2] at r4;have hlen2:(bT W.κ W.low f' os).length=(bT W.κ W.low f os).length:=by simp[bT]
 exact hk hlen B bK a w hB (by show(bT _ _ _ _).length=_; rw[hlen2]; exact hl') (hex.trans (r2.weaken fun _ _=>rfl)) ⟨r4,hr.size,fun t=>(hr.tmps t).mono r2 (eU.ext.all_true _),hr.defers⟩
theorem WG.TA (u j v:Nat) {e:TypeId} {z n:Nat} {xs:List (List KD)} {cs:List ED} (hu:gu f u=some (.cells cs)) (hj:cs[j]? = some (.vs (.own v) z n)) (hv:gu f v=some (.vec e z xs)) (hn:xs.length=n) (hz:kH z xs) (hne:Nat.beq u v=false)
  (h1:DR os.length (some v) l=true) (h2:CB os.length (some v) (fV (dw f u (.cells (cs.set j (.d .any)))) v)=true) (f':List (Nat×aB))
  (hf':dw (fV (dw f u (.cells (cs.set j (.d .any)))) v) u (.cells (cs.set j (.d (.sl z false xs))))=f') (hg':gu (fV (dw f u (.cells (cs.set j (.d .any)))) v) u=some (.cells (cs.set j (.d .any)))) (hk:WG W k l f' os):WG W k l f os:=fun hlen=>by
 have hlen:os.length=W.ks.length:=hlen;have hp:∀p:Pl,p.vW os.length (some v)=true→notKey W.L v (W.κ p)=true:=fun p hp=>yR W.hl W.hL hlen hp;have hL:=W.hL (gG W.κ os);subst hn;intro B cx a w hB hl' hex hr;have r0:Rel W.X.E cx (bT W.κ W.low f os) w:=hr.rel;obtain⟨c1,c2⟩:=eG (ks:=W.ks) (p:=.own u) W.hl hL hlen hu;obtain⟨v1,v2⟩:=eG (ks:=W.ks) (p:=.own v) W.hl hL hlen hv;have c1:(bT W.κ W.low f os).get (W.L,u)=some (.cells (ED.DL W.κ cs)):=c1;have v1:(bT W.κ W.low f os).get (W.L,v)=some (.vec xs.length e z (KD.DLL xs).flatten):=v1;obtain⟨jD,b,o,hb,hc⟩:=r0.cells _ _ c1;obtain⟨xj,hxj,hrj⟩:=hc j _ (by rw[kG,hj]; rfl:(ED.DL W.κ cs)[j]? = some (.vs (W.L,v) z xs.length));obtain⟨ad,cap,tl,rfl,q1,q2,htk,q3⟩:=r0.Jb v1 hrj;obtain⟨_,_,_,hcont⟩:=r0.vec _ _ _ _ _ v1;have hset:∀(y:ED) j',(cs.set j y)[j']? = if j=j' then(if j<cs.length then some y else none) else cs[j']?:=fun y j'=>by rw[List.getElem?_set]
 have hall:∀(c:List ED),allL (lv (W.L+1)) (ED.DL W.κ c)=true↔∀x∈c,(x.D W.κ).all (lv (W.L+1))=true:=fun c=>by
  induction c with
  | nil=>simp[ED.DL,allL]
  | cons a r ih=>simp only[ED.DL,allL,Bool.and_eq_true,ih,List.forall_mem_cons]
 have GH:∀y:KD,allL (lv (W.L+1)) (ED.DL W.κ (cs.set j (.d y)))=true:=fun y=>(hall _).2 fun x hx=>by
  rcases List.mem_or_eq_of_mem_set hx with h | h
  ·exact(hall cs).1 jD x h
  ·subst h; exact KD.lK _ y
 -- the slice is forgotten
 have r1:=r0.BP (cs':=ED.DL W.κ (cs.set j (.d .any))) c1 c2 (by simp[dM]) (fun _ _ _ j' d d' x hd hd' _ hrd=>by
  rw[kG,Option.map_eq_some_iff] at hd hd';obtain⟨a1,g1,rfl⟩:=hd;obtain⟨a2,g2,rfl⟩:=hd';rw[hset] at g2;by_cases hjj:j=j'
  ·rw[if_pos hjj] at g2;split at g2
   ·cases g2; exact .any _
   ·cases g2
  ·rw[if_neg hjj,g1] at g2;cases g2; exact hrd) (GH .any)
 have e1:(bT W.κ W.low f os).set (W.L,u) (some (.cells (ED.DL W.κ (cs.set j (.d .any)))))=bT W.κ W.low (dw f u (.cells (cs.set j (.d .any)))) os:=fO (p:=.own u) (o':=.cells (cs.set j (.d .any))) W.hl hL hlen rfl;rw[e1] at r1;have Yw:=jd.ok (rW hp _ h2);rw[sV,← jU,← hL] at Yw;have r1:Rel W.X.E cx (jA (fA W.κ (dw f u (.cells (cs.set j (.d .any)))))::W.low (gG W.κ os)) w:=r1
 -- the row is nobody's any more
 obtain⟨bK,r2,hext,hM,_⟩:=r1.abH (u:=v) Yw;have hLk:(List.length (W.low (gG W.κ os)),v)=(W.L,v):=by rw[hL]
 have hkeep:∀q,q≠(W.L,v)→bK.bx q=cx.bx q∨cx.bx q=none:=fun q hq=>by
  cases hbq:cx.bx q with
  | none=>exact .inr rfl
  | some l'=>exact .inl ((hext.bx q l' (dL.2 (by rw[hLk]; exact hq)) hbq))
 rw[jU,← sV] at r2;have r2:Rel W.X.E bK (bT W.κ W.low (fV (dw f u (.cells (cs.set j (.d .any)))) v) os) w:=r2;obtain⟨d1,d2⟩:=eG (ks:=W.ks) (p:=.own u) W.hl hL hlen hg';have d1:(bT W.κ W.low (fV (dw f u (.cells (cs.set j (.d .any)))) v) os).get (W.L,u)=some (.cells (ED.DL W.κ (cs.set j (.d .any)))):=d1;have huv:(W.L,u)≠(W.L,v):=fun h=>by
  have:u=v:=by simpa using h
  subst this; simp at hne
 have agx:bK.bx (W.L,u)=some (b,o):=by
  rcases hkeep _ huv with h | h
  ·rw[h]; exact hb
  ·rw[h] at hb; cases hb
 -- what it holds is read
 have hrow:Rd bK w (.sl z .ro (KD.DLL xs)) (.slice ad xs.length cap):=by
  have TB:∀g c,tl=some (g,c,z)→∀i,i<xs.length*z→¬bK.M g i:=fun g c ht i hi=>by
   refine hM g i (.inr ⟨.vec xs.length e z (KD.DLL xs).flatten,xs.length,e,c,z,⟨?_,rfl⟩,?_,Nat.zero_le _,?_⟩)
   ·rw[hLk];have:(bT W.κ W.low (dw f u (.cells (cs.set j (.d .any)))) os).get (W.L,v)=(bT W.κ W.low f os).get (W.L,v):=by
     have c2':(W.L,u).1<(bT W.κ W.low f os).length:=c2;rw[← e1,St.bZ c2',if_neg (fun h=>huv h.symm)]
    show(bT W.κ W.low (dw f u (.cells (cs.set j (.d .any)))) os).get (W.L,v)=_;rw[this]; exact v1
   ·rw[hLk,htk,ht]
   ·obtain⟨tl',t1,t2⟩:=r0.tok _ _ _ _ ⟨v1,rfl⟩;rw[htk] at t1; cases t1;rw[ht] at t2;exact Nat.lt_of_lt_of_le hi (Nat.mul_le_mul_right _ t2.1)
  have hlenx:(KD.DLL xs).length=xs.length:=dK _;cases tl with
  | none=>
   obtain⟨rfl,h0⟩:=q3;have hx0:xs=[]:=List.eq_nil_of_length_eq_zero h0;subst hx0;exact .sl (xs:=[]) (0,0) (fun _ _=>undef) (Nat.zero_le _) q2 (by simp) (by simp) (by simp) (by simp) trivial
  | some gl=>
   obtain⟨g,c,z'⟩:=gl;obtain⟨rfl,rfl,rfl⟩:=q3;have hcont:=(hcont g c z' htk).2;have key:∀(i jj:Nat) r d,(KD.DLL xs)[i]? = some r→r[jj]? = some d→∃x,w.cell? ⟨g,i*z'+jj,none⟩=some x∧Rd bK w d x∧i*z'+jj<xs.length*z':=fun i jj r d hi hjj=>by
    have hfl:=flat_get (qL hz) hi hjj;obtain⟨x,hx,hrd⟩:=hcont _ d hfl;refine⟨x,hx,hrd.mono hext ?_,?_⟩
    ·have:d.all (notKey (List.length (W.low (gG W.κ os))) v)=true:=dX (Bl (KD.iW _ xs) hi) hjj;exact this
    ·have:=(List.getElem?_eq_some_iff.1 hfl).1
     rwa [iD (qL hz),hlenx] at this
   have:=Rd.sl (cx:=bK) (w:=w) (sz:=z') (tok:=.ro) (xs:=KD.DLL xs) (a:=some ⟨g,0,none⟩) (cap:=c) (g,0) (fun i jj=>(w.cell? ⟨g,i*z'+jj,none⟩).getD undef) (by rw[hlenx]; exact q1) q2 (fun i r hi=>qL hz r (List.mem_of_getElem? hi)) (fun _=>rfl) (fun i jj r d hi hjj=>by
    obtain⟨x,hx,_,hlt⟩:=key i jj r d hi hjj;rw[Nat.zero_add,hx];exact⟨rfl,TB g c rfl _ hlt⟩) (fun i jj r d hi hjj=>by
    obtain⟨x,hx,hrd,_⟩:=key i jj r d hi hjj;simp only[hx,Option.getD_some]; exact hrd) trivial
   rw[hlenx] at this;exact this
 have r3:=r2.BP (cs':=ED.DL W.κ (cs.set j (.d (.sl z false xs)))) d1 d2 (by simp[dM]) (fun b' o' hb' j' d d' x hd hd' hx hrd=>by
  rw[agx] at hb';cases hb';rw[kG,Option.map_eq_some_iff] at hd hd';obtain⟨a1,g1,rfl⟩:=hd;obtain⟨a2,g2,rfl⟩:=hd';rw[hset] at g1 g2;by_cases hjj:j=j'
  ·subst hjj;rw[if_pos rfl] at g2;split at g2
   ·cases g2;rw[hxj] at hx;cases hx;exact hrow
   ·cases g2
  ·rw[if_neg hjj] at g1 g2;rw[g1] at g2;cases g2; exact hrd) (GH _)
 have e3:(bT W.κ W.low (fV (dw f u (.cells (cs.set j (.d .any)))) v) os).set (W.L,u) (some (.cells (ED.DL W.κ (cs.set j (.d (.sl z false xs))))))=bT W.κ W.low f' os:=by
  rw[← hf'];exact fO (p:=.own u) (o':=.cells (cs.set j (.d (.sl z false xs)))) W.hl hL hlen rfl
 rw[e3] at r3;have hok1:=uT hp _ h1;refine hk hlen B bK a w hB (by show(bT W.κ W.low _ _).length=W.L+1; simp[bT,W.hL]) (hex.trans (hext.weaken fun key hk=>dL.2 (fun e=>?_))) ⟨r3,hr.size,fun t=>?_,hr.defers⟩
 ·have hB:B.L=W.L:=hB;rw[hLk] at e;simp only[lv,decide_eq_true_eq,e,hB] at hk;omega
 ·have ht:=hr.tmps t;refine ht.mono hext ?_;have:=wX hok1 t;rw[← vX] at this;rw[hL]; exact this
end
end Go.Mx
namespace Go.Mx
set_option linter.unusedVariables false
set_option linter.unusedSimpArgs false
theorem Rel.Yx {E:Setting} {cx:Cx} {st:St} {w:World} (r:Rel E cx st w) {k0 q:Key} {ob:dD} {n:Nat} {e:TypeId} (hrow:ob.row=some (n,e)) (hk0:st.get k0=some ob) (hq:st.get q=none) (hl0:k0.1<st.length) (hlq:q.1<st.length)
  (hcs:allL (fun _=>false) ob.body=true) (hc:∀key (c:dD),key≠k0→st.get key=some c→allL (nek k0) c.body=true) :
  ∃bK,Rel E bK ((st.set k0 none).set q (some ob)) w∧Ext (nek k0) cx w bK w∧bK.tk q=cx.tk k0∧∀key,bK.bx key=cx.bx key:=by
 have hne:q≠k0:=fun e=>by subst e; rw[hk0] at hq; cases hq
 have hqb:cx.bx q=none:=by
  cases h:cx.bx q with
  | none=>rfl
  | some l=>obtain⟨c,hc⟩:=r.qI q l h; rw[hq] at hc; cases hc
 have h0b:cx.bx k0=none:=by
  cases h:cx.bx k0 with
  | none=>rfl
  | some l=>obtain⟨c,hc⟩:=r.qI k0 l h; rw[hk0] at hc; cases hc; cases hrow
 have hqt:cx.tk q=none:=by
  cases h:cx.tk q with
  | none=>rfl
  | some l=>obtain⟨_,n,e,hc,_⟩:=r.mD q l h; rw[hq] at hc; cases hc
 have hget:∀k,((st.set k0 none).set q (some ob)).get k=if k=q then some ob else if k=k0 then none else st.get k:=fun k=>by
  rw[St.bZ (by rw[St.length_set]; exact hlq),St.bZ hl0]
 let bK:Cx:={ bx:=cx.bx,tk:=fun k=>if k=q then cx.tk k0 else if k=k0 then none else cx.tk k,M:=cx.M,Z:=cx.Z }
 have htk:∀k,k≠q→k≠k0→bK.tk k=cx.tk k:=fun k h1 h2=>by
  show(if k=q then cx.tk k0 else if k=k0 then none else cx.tk k)=_;rw[if_neg h1,if_neg h2]
 have Sv:bK.tk q=cx.tk k0:=if_pos rfl;have htd:∀k l,bK.tk k=some l→(k=q∧cx.tk k0=some l)∨(k≠q∧k≠k0∧cx.tk k=some l):=fun k l h=>by
  have h:(if k=q then cx.tk k0 else if k=k0 then none else cx.tk k)=some l:=h;split at h
  ·rename_i h1; exact .inl ⟨h1,h⟩
  ·split at h
   ·cases h
   ·rename_i h1 h2; exact .inr ⟨h1,h2,h⟩
 have hext:Ext (nek k0) cx w bK w:=by
  refine⟨rfl,rfl,rfl,Nat.le_refl _,fun _ _ _=>rfl,fun _ _ _ _=>rfl,fun _ _ _ h=>h,fun _ _ _ h=>h,fun key n l hk h=>⟨n,l,?_,Nat.le_refl _,fun _=>rfl⟩,rfl,fun key n e g c z h _=>?_,fun _ _ _=>rfl⟩
  ·rw[htk key (fun e=>by subst e; rw[hqt] at h; cases h) (gX.1 hk)]; exact h
  ·rcases htd _ _ h with ⟨_,h⟩ | ⟨_,_,h⟩
   ·exact⟨_,_,_,_,_,h⟩
   ·exact⟨_,_,_,_,_,h⟩
 have bD:∀key b o,Mx.foot bK ((st.set k0 none).set q (some ob)) key b o→Mx.foot cx st (if key=q then k0 else key) b o∧key≠k0:=fun key b o h=>by
  rcases h with ⟨c,o0,h1,h2,h3⟩ | ⟨ob',n',e',c,z',⟨h1,h0⟩,h2,h3⟩
  ·rw[hget] at h1;by_cases hkq:key=q
   ·subst hkq; rw[if_pos rfl] at h1; cases h1; cases hrow
   ·rw[if_neg hkq] at h1;rw[if_neg hkq];by_cases hk:key=k0
    ·rw[if_pos hk] at h1; cases h1
    ·rw[if_neg hk] at h1;exact⟨.inl ⟨c,o0,h1,h2,h3⟩,hk⟩
  ·rw[hget] at h1;by_cases hkq:key=q
   ·subst hkq;rw[if_pos rfl] at h1; cases h1;rw[if_pos rfl];rw[Sv] at h2;exact⟨.inr ⟨_,n',e',c,z',⟨hk0,h0⟩,h2,h3⟩,hne⟩
   ·rw[if_neg hkq] at h1;rw[if_neg hkq];by_cases hk:key=k0
    ·rw[if_pos hk] at h1; cases h1
    ·rw[if_neg hk] at h1;rw[htk key hkq hk] at h2;exact⟨.inr ⟨ob',n',e',c,z',⟨h1,h0⟩,h2,h3⟩,hk⟩
 refine⟨bK,⟨fun key c h=>?_,fun key n' e' z' c h=>?_,fun key ob' n' e' h=>?_,fun key b o h=>r.foot _ b o (bD _ _ _ h).1,fun k1 k2 b o h h'=>?_,fun key l h=>?_,fun key l h=>?_,r.mlt,fun key b o h=>r.nz _ b o (bD _ _ _ h).1,r.zm,r.tK,
   fun k1 k2 b o n e g c z h h'=>?_,fun k1 k2 n1 e1 n2 e2 g c1 z1 c2 z2 h h'=>?_,fun g=>(r.glob g).mono hext ((dI (fun q hq=>by cases hq)).1 _ (E.lK g))⟩,hext,Sv,fun _=>rfl⟩
 ·rw[hget] at h;by_cases hkq:key=q
  ·subst hkq; rw[if_pos rfl] at h; cases h; cases hrow
  ·rw[if_neg hkq] at h;by_cases hk:key=k0
   ·rw[if_pos hk] at h; cases h
   ·rw[if_neg hk] at h;obtain⟨h1,b,o,h2,h3⟩:=r.cells key c h;refine⟨h1,b,o,h2,fun j d hj=>?_⟩;obtain⟨x,hx,hrd⟩:=h3 j d hj;exact⟨x,hx,hrd.mono hext (dX (hc key (.cells c) hk h) hj)⟩
 ·rw[hget] at h;by_cases hkq:key=q
  ·subst hkq;rw[if_pos rfl] at h; cases h;obtain⟨_,c2,c3,c4⟩:=r.vec k0 n' e' z' c hk0;rw[Sv];refine⟨(dI (fun q hq=>by cases hq)).2.1 _ hcs,c2,c3,fun g cc zz hk=>⟨(c4 g cc zz hk).1,fun j d hj=>?_⟩⟩;obtain⟨x,hx,hr⟩:=(c4 g cc zz hk).2 j d hj;exact⟨x,hx,hr.mono hext ((dI (fun q hq=>by cases hq)).1 _ (dX hcs hj))⟩
  ·rw[if_neg hkq] at h;by_cases hk:key=k0
   ·rw[if_pos hk] at h; cases h
   ·rw[if_neg hk] at h;exact r.qc h (htk key hkq hk) (fun _ _ _ _ _ _ _ hx=>hx) (fun j d x hj hr=>hr.mono hext (dX (hc key (.vec n' e' z' c) hk h) hj))
 ·obtain⟨h,h0⟩:=h;rw[hget] at h;by_cases hkq:key=q
  ·subst hkq;rw[if_pos rfl] at h; cases h;obtain⟨tl,g1,g2⟩:=r.tok k0 _ n' e' ⟨hk0,h0⟩;exact⟨tl,Sv.trans g1,g2⟩
  ·rw[if_neg hkq] at h;by_cases hk:key=k0
   ·rw[if_pos hk] at h; cases h
   ·rw[if_neg hk] at h;obtain⟨tl,g1,g2⟩:=r.tok key ob' n' e' ⟨h,h0⟩;exact⟨tl,(htk key hkq hk).trans g1,g2⟩
 ·obtain⟨g1,n1⟩:=bD _ _ _ h;obtain⟨g2,n2⟩:=bD _ _ _ h';have:=r.sep _ _ b o g1 g2;by_cases e1:k1=q <;> by_cases e2:k2=q
  ·rw[e1,e2]
  ·rw[if_pos e1,if_neg e2] at this; exact absurd this.symm n2
  ·rw[if_neg e1,if_pos e2] at this; exact absurd this n1
  ·rw[if_neg e1,if_neg e2] at this; exact this
 ·rw[hget,if_neg (fun e=>by subst e; have h:cx.bx key=some l:=h; rw[hqb] at h; cases h),if_neg (fun e=>by subst e; have h:cx.bx key=some l:=h; rw[h0b] at h; cases h)];exact r.qI key l h
 ·rw[hget];rcases htd _ _ h with ⟨h1,h2⟩ | ⟨h1,h2,h3⟩
  ·rw[if_pos h1];exact⟨_,n,e,rfl,hrow⟩
  ·rw[if_neg h1,if_neg h2]; exact r.mD key l h3
 ·rcases htd _ _ h' with ⟨_,h2⟩ | ⟨_,_,h2⟩ <;> exact r.apart _ _ _ _ _ _ _ _ _ h h2
 ·rcases htd _ _ h with ⟨a1,a2⟩ | ⟨a1,a3,a2⟩ <;> rcases htd _ _ h' with ⟨b1,b2⟩ | ⟨b1,b3,b2⟩
  ·rw[a1,b1]
  ·exact absurd (r.rows _ _ _ _ _ _ _ _ _ _ _ a2 b2).symm b3
  ·exact absurd (r.rows _ _ _ _ _ _ _ _ _ _ _ a2 b2) a3
  ·exact r.rows _ _ _ _ _ _ _ _ _ _ _ a2 b2
section
variable {W : Wd} {k k' : List KI} {l : List (Nat × ED)} {f : List (Nat × aB)} {os : List (Option aB)}
theorem WG.Yy (u j v i:Nat) {e:TypeId} {z n:Nat} {xs:List (List KD)} {cs:List ED} (hu:gu f u=some (.cells cs)) (hj:cs[j]? = some (.vs (.own v) z n)) (hv:gu f v=some (.vec e z xs)) (hne:Nat.beq u v=false) (hi:os[i]? = some none)
  (h1:DR os.length (some v) l=true) (h2:CB os.length (some v) (fV (dw f u (.cells (cs.set j (.d .any)))) v)=true) (f':List (Nat×aB))
  (hf':dw (fV (dw f u (.cells (cs.set j (.d .any)))) v) u (.cells (cs.set j (.vs (.low i) z n)))=f') (hg':gu (fV (dw f u (.cells (cs.set j (.d .any)))) v) u=some (.cells (cs.set j (.d .any))))
  (hk:WG W k l f' (os.set i (some (.vec e z xs)))):WG W k l f os:=fun hlen=>by
 have hlen:os.length=W.ks.length:=hlen;have hp:∀p:Pl,p.vW os.length (some v)=true→notKey W.L v (W.κ p)=true:=fun p hp=>yR W.hl W.hL hlen hp;have hL:=W.hL (gG W.κ os);have hio:i<os.length:=by
  rcases Nat.lt_or_ge i os.length with h | h
  ·exact h
  ·rw[List.getElem?_eq_none h] at hi; cases hi
 have hik:W.ks[i]? = some (W.ks[i]'(by omega)):=List.getElem?_eq_getElem (by omega);have hq:W.κ (.low i)=W.ks[i]'(by omega):=je hik;have hlen':(os.set i (some (aB.vec e z xs))).length=W.ks.length:=by rw[List.length_set]; exact hlen
 intro B cx a w hB hl' hex hr;have r0:Rel W.X.E cx (bT W.κ W.low f os) w:=hr.rel;obtain⟨c1,c2⟩:=eG (ks:=W.ks) (p:=.own u) W.hl hL hlen hu;obtain⟨v1,v2⟩:=eG (ks:=W.ks) (p:=.own v) W.hl hL hlen hv;have c1:(bT W.κ W.low f os).get (W.L,u)=some (.cells (ED.DL W.κ cs)):=c1;have c2:(W.L,u).1<(bT W.κ W.low f os).length:=c2;have v1:(bT W.κ W.low f os).get (W.L,v)=some (.vec xs.length e z (KD.DLL xs).flatten):=v1;obtain⟨jD,b,o,hb,hc⟩:=r0.cells _ _ c1;obtain⟨xj,hxj,hrj⟩:=hc j _ (by rw[kG,hj]; rfl:(ED.DL W.κ cs)[j]? = some (.vs (W.L,v) z n));have hset:∀(y:ED) j',(cs.set j y)[j']? = if j=j' then(if j<cs.length then some y else none) else cs[j']?:=fun y j'=>by rw[List.getElem?_set]
 have hall:∀(c:List ED),allL (lv (W.L+1)) (ED.DL W.κ c)=true↔∀x∈c,(x.D W.κ).all (lv (W.L+1))=true:=fun c=>by
  induction c with
  | nil=>simp[ED.DL,allL]
  | cons a r ih=>simp only[ED.DL,allL,Bool.and_eq_true,ih,List.forall_mem_cons]
 have GH:∀y:ED,(y.D W.κ).all (lv (W.L+1))=true→allL (lv (W.L+1)) (ED.DL W.κ (cs.set j y))=true:=fun y hy=>(hall _).2 fun x hx=>by
  rcases List.mem_or_eq_of_mem_set hx with h | h
  ·exact(hall cs).1 jD x h
  ·subst h; exact hy
 have r1:=r0.BP (cs':=ED.DL W.κ (cs.set j (.d .any))) c1 c2 (by simp[dM]) (fun _ _ _ j' d d' x hd hd' _ hrd=>by
  rw[kG,Option.map_eq_some_iff] at hd hd';obtain⟨a1,g1,rfl⟩:=hd;obtain⟨a2,g2,rfl⟩:=hd';rw[hset] at g2;by_cases hjj:j=j'
  ·rw[if_pos hjj] at g2;split at g2
   ·cases g2; exact .any _
   ·cases g2
  ·rw[if_neg hjj,g1] at g2;cases g2; exact hrd) (GH _ rfl)
 have e1:(bT W.κ W.low f os).set (W.L,u) (some (.cells (ED.DL W.κ (cs.set j (.d .any)))))=bT W.κ W.low (dw f u (.cells (cs.set j (.d .any)))) os:=fO (p:=.own u) (o':=.cells (cs.set j (.d .any))) W.hl hL hlen rfl;have huv:(W.L,u)≠(W.L,v):=fun h=>by
  have:u=v:=by simpa using h
  subst this; simp at hne
 have hgv:(bT W.κ W.low (dw f u (.cells (cs.set j (.d .any)))) os).get (W.L,v)=some (.vec xs.length e z (KD.DLL xs).flatten):=by
  rw[← e1,St.bZ c2,if_neg (fun h=>huv h.symm)]; exact v1
 rw[e1] at r1;have DT:∀f,(bT W.κ W.low f os).length=W.L+1:=fun f=>by simp[bT,hL]
 have hlow:=W.hl.get (gG W.κ os) (by rw[rF]; exact hlen) i _ hik;have yL:=W.hl.lt (gG W.κ os) i _ hik;rw[hL] at yL;have hgq:(bT W.κ W.low (dw f u (.cells (cs.set j (.d .any)))) os).get (W.κ (.low i))=none:=by
  rw[hq];show St.get (_::W.low (gG W.κ os)) _=none;rw[St.kM (by rw[hL]; exact yL),hlow,yM,hi]; rfl
 have hok:=rW hp _ h2;obtain⟨bK,r2,hext,Sv,hbq⟩:=r1.Yx (k0:=(W.L,v)) (q:=W.κ (.low i)) (n:=xs.length) (e:=e) rfl hgv hgq (by rw[DT]; simp) (by rw[DT,hq]; omega) (by
   show allL _ (KD.DLL xs).flatten=true;rw[rQ]; exact KD.iP _ _) (fun key c hne' hg=>by
   have h2:=r1.FB hg;by_cases h1:key.1=W.L
   ·have hg2:jA (fA W.κ (fV (dw f u (.cells (cs.set j (.d .any)))) v)) key.2=some c:=by
     rw[sV,← jU,Fr.upd_ne _ _ _ _ (fun e=>hne' (Prod.ext h1 e))];have:St.get (jA (fA W.κ (dw f u (.cells (cs.set j (.d .any)))))::W.low (gG W.κ os)) key=some c:=hg;simp only[St.get,h1,hL,if_true] at this;exact this
    refine(dI (fun q hq=>gX.2 ?_)).2.1 _ (jd.ok hok key.2 c hg2);exact dL.1 hq
   ·have h3:key.1<W.L:=by
     rcases Nat.lt_or_ge key.1 (bT W.κ W.low (dw f u (.cells (cs.set j (.d .any)))) os).length with h | h
     ·rw[DT] at h; omega
     ·rw[St.wH h] at hg; cases hg
    refine(dI (fun q hq=>gX.2 (fun e=>?_))).2.1 _ h2;simp only[lv,decide_eq_true_eq,e] at hq;omega)
 have e2:(bT W.κ W.low (dw f u (.cells (cs.set j (.d .any)))) os).set (W.L,v) none=bT W.κ W.low (fV (dw f u (.cells (cs.set j (.d .any)))) v) os:=IE hL;rw[e2] at r2;have e3:(bT W.κ W.low (fV (dw f u (.cells (cs.set j (.d .any)))) v) os).set (W.κ (.low i)) (some (.vec xs.length e z (KD.DLL xs).flatten))=bT W.κ W.low (fV (dw f u (.cells (cs.set j (.d .any)))) v) (os.set i (some (.vec e z xs))):=
  fO (p:=.low i) (o':=.vec e z xs) W.hl hL hlen (Nat.ble_eq_true_of_le hio)
 rw[e3] at r2;have hL':=W.hL (gG W.κ (os.set i (some (aB.vec e z xs))));obtain⟨d1,d2⟩:=eG (ks:=W.ks) (p:=.own u) (os:=os.set i (some (aB.vec e z xs))) W.hl hL' hlen' hg';have d1:(bT W.κ W.low (fV (dw f u (.cells (cs.set j (.d .any)))) v) (os.set i (some (.vec e z xs)))).get (W.L,u)=some (.cells (ED.DL W.κ (cs.set j (.d .any)))):=d1;have r3:=r2.BP (cs':=ED.DL W.κ (cs.set j (.vs (.low i) z n))) d1 d2 (by simp[dM]) (fun b' o' hb' j' d d' x hd hd' hx hrd=>by
  rw[hbq,hb] at hb';cases hb';rw[kG,Option.map_eq_some_iff] at hd hd';obtain⟨a1,g1,rfl⟩:=hd;obtain⟨a2,g2,rfl⟩:=hd';rw[hset] at g1 g2;by_cases hjj:j=j'
  ·subst hjj;rw[if_pos rfl] at g2;split at g2
   ·cases g2;rw[hxj] at hx;cases hx;cases hrj with
    | vs q1 q2 q3=>
     obtain⟨n',e',tl,t1,t2,t3⟩:=q3;exact .vs q1 q2 ⟨n',e',tl,Sv.trans t1,t2,t3⟩
   ·cases g2
  ·rw[if_neg hjj] at g1 g2;rw[g1] at g2;cases g2; exact hrd) (GH _ (by
   show lv (W.L+1) (W.κ (.low i))=true;rw[hq]; simp only[lv,decide_eq_true_eq]; omega))
 have e4:(bT W.κ W.low (fV (dw f u (.cells (cs.set j (.d .any)))) v) (os.set i (some (.vec e z xs)))).set (W.L,u) (some (.cells (ED.DL W.κ (cs.set j (.vs (.low i) z n)))))=bT W.κ W.low f' (os.set i (some (.vec e z xs))):=by
  rw[← hf'];exact fO (p:=.own u) (o':=.cells (cs.set j (.vs (.low i) z n))) W.hl hL' hlen' rfl
 rw[e4] at r3;have hok1:=uT hp _ h1;refine hk hlen' B bK a w hB (by show(bT W.κ W.low _ _).length=W.L+1; simp[bT,W.hL]) (hex.trans (hext.weaken fun key hk=>gX.2 (fun e=>?_))) ⟨r3,hr.size,fun t=>?_,hr.defers⟩
 ·have hB:B.L=W.L:=hB;simp only[lv,decide_eq_true_eq,e,hB] at hk;omega
 ·have ht:=hr.tmps t;refine ht.mono hext ?_;have:=wX hok1 t;rw[← vX] at this;exact(dI (fun q hq=>gX.2 (dL.1 hq))).1 _ this
theorem WG.WE (u j v i:Nat) {e:TypeId} {z n:Nat} {xs:List (List KD)} {cs:List ED} (hu:gu f u=some (.cells cs)) (hj:cs[j]? = some (.gs (.own v) z xs)) (hv:gu f v=some (.tok n e)) (hne:Nat.beq u v=false) (hi:os[i]? = some none)
  (h1:DR os.length (some v) l=true) (h2:CB os.length (some v) (fV (dw f u (.cells (cs.set j (.d .any)))) v)=true) (f':List (Nat×aB))
  (hf':dw (fV (dw f u (.cells (cs.set j (.d .any)))) v) u (.cells (cs.set j (.gs (.low i) z xs)))=f') (hg':gu (fV (dw f u (.cells (cs.set j (.d .any)))) v) u=some (.cells (cs.set j (.d .any))))
  (hk:WG W k l f' (os.set i (some (.tok n e)))):WG W k l f os:=fun hlen=>by
 have hlen:os.length=W.ks.length:=hlen;have hp:∀p:Pl,p.vW os.length (some v)=true→notKey W.L v (W.κ p)=true:=fun p hp=>yR W.hl W.hL hlen hp;have hL:=W.hL (gG W.κ os);have hio:i<os.length:=by
  rcases Nat.lt_or_ge i os.length with h | h
  ·exact h
  ·rw[List.getElem?_eq_none h] at hi; cases hi
 have hik:W.ks[i]? = some (W.ks[i]'(by omega)):=List.getElem?_eq_getElem (by omega);have hq:W.κ (.low i)=W.ks[i]'(by omega):=je hik;have hlen':(os.set i (some (aB.tok n e))).length=W.ks.length:=by rw[List.length_set]; exact hlen
 intro B cx a w hB hl' hex hr;have r0:Rel W.X.E cx (bT W.κ W.low f os) w:=hr.rel;obtain⟨c1,c2⟩:=eG (ks:=W.ks) (p:=.own u) W.hl hL hlen hu;obtain⟨v1,v2⟩:=eG (ks:=W.ks) (p:=.own v) W.hl hL hlen hv;have c1:(bT W.κ W.low f os).get (W.L,u)=some (.cells (ED.DL W.κ cs)):=c1;have c2:(W.L,u).1<(bT W.κ W.low f os).length:=c2;have v1:(bT W.κ W.low f os).get (W.L,v)=some (.tok n e):=v1;obtain⟨jD,b,o,hb,hc⟩:=r0.cells _ _ c1;obtain⟨xj,hxj,hrj⟩:=hc j _ (by rw[kG,hj]; rfl:(ED.DL W.κ cs)[j]? = some (.sl z (.own (W.L,v)) (KD.DLL xs)));have hset:∀(y:ED) j',(cs.set j y)[j']? = if j=j' then(if j<cs.length then some y else none) else cs[j']?:=fun y j'=>by rw[List.getElem?_set]
 have hall:∀(c:List ED),allL (lv (W.L+1)) (ED.DL W.κ c)=true↔∀x∈c,(x.D W.κ).all (lv (W.L+1))=true:=fun c=>by
  induction c with
  | nil=>simp[ED.DL,allL]
  | cons a r ih=>simp only[ED.DL,allL,Bool.and_eq_true,ih,List.forall_mem_cons]
 have GH:∀y:ED,(y.D W.κ).all (lv (W.L+1))=true→allL (lv (W.L+1)) (ED.DL W.κ (cs.set j y))=true:=fun y hy=>(hall _).2 fun x hx=>by
  rcases List.mem_or_eq_of_mem_set hx with h | h
  ·exact(hall cs).1 jD x h
  ·subst h; exact hy
 have r1:=r0.BP (cs':=ED.DL W.κ (cs.set j (.d .any))) c1 c2 (by simp[dM]) (fun _ _ _ j' d d' x hd hd' _ hrd=>by
  rw[kG,Option.map_eq_some_iff] at hd hd';obtain⟨a1,g1,rfl⟩:=hd;obtain⟨a2,g2,rfl⟩:=hd';rw[hset] at g2;by_cases hjj:j=j'
  ·rw[if_pos hjj] at g2;split at g2
   ·cases g2; exact .any _
   ·cases g2
  ·rw[if_neg hjj,g1] at g2;cases g2; exact hrd) (GH _ rfl)
 have e1:(bT W.κ W.low f os).set (W.L,u) (some (.cells (ED.DL W.κ (cs.set j (.d .any)))))=bT W.κ W.low (dw f u (.cells (cs.set j (.d .any)))) os:=fO (p:=.own u) (o':=.cells (cs.set j (.d .any))) W.hl hL hlen rfl;have huv:(W.L,u)≠(W.L,v):=fun h=>by
  have:u=v:=by simpa using h
  subst this; simp at hne
 have hgv:(bT W.κ W.low (dw f u (.cells (cs.set j (.d .any)))) os).get (W.L,v)=some (.tok n e):=by
  rw[← e1,St.bZ c2,if_neg (fun h=>huv h.symm)]; exact v1
 rw[e1] at r1;have DT:∀f,(bT W.κ W.low f os).length=W.L+1:=fun f=>by simp[bT,hL]
 have hlow:=W.hl.get (gG W.κ os) (by rw[rF]; exact hlen) i _ hik;have yL:=W.hl.lt (gG W.κ os) i _ hik;rw[hL] at yL;have hgq:(bT W.κ W.low (dw f u (.cells (cs.set j (.d .any)))) os).get (W.κ (.low i))=none:=by
  rw[hq];show St.get (_::W.low (gG W.κ os)) _=none;rw[St.kM (by rw[hL]; exact yL),hlow,yM,hi]; rfl
 have hok:=rW hp _ h2;obtain⟨bK,r2,hext,Sv,hbq⟩:=r1.Yx (k0:=(W.L,v)) (q:=W.κ (.low i)) (n:=n) (e:=e) rfl hgv hgq (by rw[DT]; simp) (by rw[DT,hq]; omega) rfl (fun key c hne' hg=>by
   have h2:=r1.FB hg;by_cases h1:key.1=W.L
   ·have hg2:jA (fA W.κ (fV (dw f u (.cells (cs.set j (.d .any)))) v)) key.2=some c:=by
     rw[sV,← jU,Fr.upd_ne _ _ _ _ (fun e=>hne' (Prod.ext h1 e))];have:St.get (jA (fA W.κ (dw f u (.cells (cs.set j (.d .any)))))::W.low (gG W.κ os)) key=some c:=hg;simp only[St.get,h1,hL,if_true] at this;exact this
    refine(dI (fun q hq=>gX.2 ?_)).2.1 _ (jd.ok hok key.2 c hg2);exact dL.1 hq
   ·have h3:key.1<W.L:=by
     rcases Nat.lt_or_ge key.1 (bT W.κ W.low (dw f u (.cells (cs.set j (.d .any)))) os).length with h | h
     ·rw[DT] at h; omega
     ·rw[St.wH h] at hg; cases hg
    refine(dI (fun q hq=>gX.2 (fun e=>?_))).2.1 _ h2;simp only[lv,decide_eq_true_eq,e] at hq;omega)
 have e2:(bT W.κ W.low (dw f u (.cells (cs.set j (.d .any)))) os).set (W.L,v) none=bT W.κ W.low (fV (dw f u (.cells (cs.set j (.d .any)))) v) os:=IE hL;rw[e2] at r2;have e3:(bT W.κ W.low (fV (dw f u (.cells (cs.set j (.d .any)))) v) os).set (W.κ (.low i)) (some (.tok n e))=bT W.κ W.low (fV (dw f u (.cells (cs.set j (.d .any)))) v) (os.set i (some (.tok n e))):=
  fO (p:=.low i) (o':=.tok n e) W.hl hL hlen (Nat.ble_eq_true_of_le hio)
 rw[e3] at r2;have hL':=W.hL (gG W.κ (os.set i (some (aB.tok n e))));obtain⟨d1,d2⟩:=eG (ks:=W.ks) (p:=.own u) (os:=os.set i (some (aB.tok n e))) W.hl hL' hlen' hg';have d1:(bT W.κ W.low (fV (dw f u (.cells (cs.set j (.d .any)))) v) (os.set i (some (.tok n e)))).get (W.L,u)=some (.cells (ED.DL W.κ (cs.set j (.d .any)))):=d1;have r3:=r2.BP (cs':=ED.DL W.κ (cs.set j (.gs (.low i) z xs))) d1 d2 (by simp[dM]) (fun b' o' hb' j' d d' x hd hd' hx hrd=>by
  rw[hbq,hb] at hb';cases hb';rw[kG,Option.map_eq_some_iff] at hd hd';obtain⟨a1,g1,rfl⟩:=hd;obtain⟨a2,g2,rfl⟩:=hd';rw[hset] at g1 g2;by_cases hjj:j=j'
  ·subst hjj;rw[if_pos rfl] at g2;split at g2
   ·cases g2;rw[hxj] at hx;cases hx;cases hrj with
    | sl A vs s1 s2 s3 s4 s5 s6 s7=>
     obtain⟨n',e',tl,t1,t2,t3⟩:=s7;exact .sl A vs s1 s2 s3 s4 (fun i j cs d hi hj=>⟨(s5 i j cs d hi hj).1,hext.tC _ _ (cell_lt (s5 i j cs d hi hj).1) (s5 i j cs d hi hj).2⟩) (fun i j cs d hi hj=>(s6 i j cs d hi hj).mono hext (dX (Bl (KD.iW _ xs) hi) hj)) ⟨n',e',tl,Sv.trans t1,t2,t3⟩
   ·cases g2
  ·rw[if_neg hjj] at g1 g2;rw[g1] at g2;cases g2; exact hrd) (GH _ (by
   show(Tok.all _ (.own (W.κ (.low i)))&&mM _ (KD.DLL xs))=true;rw[KD.iW,Bool.and_true];show lv (W.L+1) (W.κ (.low i))=true;rw[hq]; simp only[lv,decide_eq_true_eq]; omega))
 have e4:(bT W.κ W.low (fV (dw f u (.cells (cs.set j (.d .any)))) v) (os.set i (some (.tok n e)))).set (W.L,u) (some (.cells (ED.DL W.κ (cs.set j (.gs (.low i) z xs)))))=bT W.κ W.low f' (os.set i (some (.tok n e))):=by
  rw[← hf'];exact fO (p:=.own u) (o':=.cells (cs.set j (.gs (.low i) z xs))) W.hl hL' hlen' rfl
 rw[e4] at r3;have hok1:=uT hp _ h1;refine hk hlen' B bK a w hB (by show(bT W.κ W.low _ _).length=W.L+1; simp[bT,W.hL]) (hex.trans (hext.weaken fun key hk=>gX.2 (fun e=>?_))) ⟨r3,hr.size,fun t=>?_,hr.defers⟩
 ·have hB:B.L=W.L:=hB;simp only[lv,decide_eq_true_eq,e,hB] at hk;omega
 ·have ht:=hr.tmps t;refine ht.mono hext ?_;have:=wX hok1 t;rw[← vX] at this;exact(dI (fun q hq=>gX.2 (dL.1 hq))).1 _ this
end
end Go.Mx
namespace Go.Ev
open Go.Mx (KD)
theorem Kd.inv {α:Type} {k:α→List KD} {ks:List α→List (List KD)} {sz:Nat} (h:Kd k ks sz) {l:List α} {i:Int} {u:Unit} {n:Nat} (hu:inB i l.length=some u) (hn:(ks l).length=n):0≤i∧i.toNat<n:=by
 have:=ae5 hu;rw[← hn,h.length]; exact this
end Go.Ev
