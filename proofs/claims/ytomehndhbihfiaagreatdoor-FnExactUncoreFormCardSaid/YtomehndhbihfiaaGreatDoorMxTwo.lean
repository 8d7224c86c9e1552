/- A walk over an abstract state of the machine, second part. No condition. -/
import Derived.Test.YtomehndhbihfiaaGreatDoorMxOne
import Derived.Laws.MakeOwn
import Derived.MapKept
set_option linter.unusedVariables false
set_option linter.unusedSimpArgs false
namespace Go.Mx
set_option linter.unusedVariables false
set_option linter.unusedSimpArgs false
section
variable {E : Setting} {U : Fun} {F : D → St → Prop} {k : List KI} {ρ : Env} {fr : Fr} {st : St} {all : Array Oper} {rest : List Oper}
variable {t : Nat} {ty : TypeId} {pos : String} {af : Array Edge} {nn bb : Nat} {ss : Shp}
def mkEnv:List (Nat×D)→Env
 | []=>fun _=>.any
 | (t,d)::r=>upd (mkEnv r) t d
inductive WkE (ρ:Env):List (Nat×D)→Prop
 | nil:WkE ρ []
 | cons {t d r} (h:Wk (ρ t) d) (hr:WkE ρ r):WkE ρ ((t,d)::r)
theorem WkE.same {ρ:Env} {t:Nat} {d:D} {r:List (Nat×D)} (h:ρ t=d) (hr:WkE ρ r):WkE ρ ((t,d)::r):=.cons (h▸Wk.refl _) hr
theorem WkE.out {ρ:Env} {l:List (Nat×D)} (h:WkE ρ l):∀t,Wk (ρ t) (mkEnv l t):=by
 induction h with
 | nil=>exact fun t=>Wk.any _
 | cons h hr ih=>
  intro t;simp only[mkEnv,upd];split
  ·rename_i he; subst he; exact h
  ·exact ih t
theorem AW.reset (l:List (Nat×D)) (hw:WkE ρ l) (h:AW E U k F (mkEnv l) st):AW E U k F ρ st:=
 fun B cx a w hB hl he hr=>h B cx a w hB hl he ⟨hr.rel,hr.size,fun t=>hw.out t _ _ _ (hr.tmps t),hr.defers⟩
def allE (p:Key→Bool):List (Nat×D)→Bool
 | []=>true
 | (_,d)::r=>d.all p&&allE p r
theorem allE_out {p:Key→Bool} {l:List (Nat×D)} (h:allE p l=true) (t:Nat):(mkEnv l t).all p=true:=by
 induction l with
 | nil=>rfl
 | cons x r ih=>
  obtain⟨u,d⟩:=x;simp only[allE,Bool.and_eq_true] at h;simp only[mkEnv,upd];split
  ·exact h.1
  ·exact ih h.2
def FrAll (p:Key→Bool) (fr:Fr):Prop:=∀t ob,fr t=some ob→allL p ob.body=true
theorem FrAll.empty {p:Key→Bool}:FrAll p (fun _=>none):=fun _ _ h=>by cases h
theorem FrAll.updO {p:Key→Bool} {fr:Fr} {t:Nat} {ob:AObj} (h:FrAll p fr) (hc:allL p ob.body=true):FrAll p (fr.upd t (some ob)):=fun u c hu=>by
 unfold Fr.upd at hu;split at hu
 ·cases hu; exact hc
 ·exact h u c hu
theorem FrAll.upd {p:Key→Bool} {fr:Fr} {t:Nat} {cs:List D} (h:FrAll p fr) (hc:allL p cs=true):FrAll p (fr.upd t (some (.cells cs))):=h.updO hc
theorem FrAll.updT {p:Key→Bool} {fr:Fr} {t n e:Nat} (h:FrAll p fr):FrAll p (fr.upd t (some (.tok n e))):=h.updO rfl
def notKey (L t:Nat):Key→Bool:=fun k=>!(decide (k.2=t)&&decide (k.1=L))
theorem notKey_spec {L t:Nat} {k:Key}:notKey L t k=true↔k≠(L,t):=by
 unfold notKey;obtain⟨a,b⟩:=k;simp only[Bool.not_eq_true',Bool.and_eq_false_iff,decide_eq_false_iff_not,ne_eq,Prod.mk.injEq];constructor
 ·rintro (h | h) ⟨rfl,rfl⟩ <;> exact h rfl
 ·intro h;by_cases hb:b=t
  ·right; intro ha; exact h ⟨ha,hb⟩
  ·left; exact hb
theorem AW.drop {l:List (Nat×D)} (u:Nat) (hE:allE (notKey st.length u) l=true) (hF:FrAll (notKey st.length u) (fr.upd u none)) (h:AW E U k F (mkEnv l) (fr.upd u none::st)):AW E U k F (mkEnv l) (fr::st):=by
 intro B cx a w hB hl he hr;have hget:∀key,key≠(st.length,u)→St.get (fr.upd u none::st) key=St.get (fr::st) key:=fun key hk=>by
  simp only[St.get];split
  ·rename_i h1;exact Fr.upd_ne _ _ _ _ (fun h2=>hk (Prod.ext h1 h2))
  ·rfl
 have hget0:St.get (fr.upd u none::st) (st.length,u)=none:=get_top.trans (Fr.upd_same _ _ _)
 let cx':Cx:={ bx:=fun k=>if k=(st.length,u) then none else cx.bx k,tk:=fun k=>if k=(st.length,u) then none else cx.tk k,M:=cx.M,Z:=cx.Z }
 have hext:Ext (notKey st.length u) cx w cx' w:=by
  refine⟨rfl,rfl,rfl,Nat.le_refl _,fun _ _ _=>rfl,fun _ _ _ _=>rfl,fun _ _ _ h=>h,fun key l hk h=>?_,fun key n l hk h=>⟨n,l,?_,Nat.le_refl _,fun _=>rfl⟩,rfl,fun key n e g c z h _=>⟨key,n,e,c,z,?_⟩,fun _ _ _=>rfl⟩
  ·show(if key=(st.length,u) then none else cx.bx key)=_;rw[if_neg (notKey_spec.1 hk)]; exact h
  ·show(if key=(st.length,u) then none else cx.tk key)=_;rw[if_neg (notKey_spec.1 hk)]; exact h
  ·have h:(if key=(st.length,u) then none else cx.tk key)=some (n,e,some (g,c,z)):=h;split at h
   ·cases h
   ·exact h
 have r:=hr.rel;have hcontent:∀key (ob:AObj),key≠(st.length,u)→St.get (fr::st) key=some ob→allL (notKey st.length u) ob.body=true:=fun key cs hk hg=>by
  by_cases h1:key.1=st.length
  ·have:fr.upd u none key.2=some cs:=by
    rw[Fr.upd_ne _ _ _ _ (fun h2=>hk (Prod.ext h1 h2))];simp only[St.get,h1,if_true] at hg; exact hg
   exact hF _ _ this
  ·have h2:=r.bodyLv hg;have h3:key.1<(fr::st).length:=by
    rcases Nat.lt_or_ge key.1 (fr::st).length with h | h
    ·exact h
    ·rw[St.get_ge h] at hg; cases hg
   refine(all_mono (fun q hq=>notKey_spec.2 (fun e=>?_))).2.1 _ h2;simp only[lv,decide_eq_true_eq,e] at hq;simp at h3;omega
 have hfoot:∀key b o,Mx.foot cx' (fr.upd u none::st) key b o→key≠(st.length,u)∧Mx.foot cx (fr::st) key b o:=fun key b o h=>by
  have hne:key≠(st.length,u):=fun e=>by
   subst e;rcases h with ⟨cs,o0,h1,_⟩ | ⟨ob,n,e,c,z,⟨h1,_⟩,_⟩ <;> (rw[hget0] at h1; cases h1)
  refine⟨hne,?_⟩;rcases h with ⟨cs,o0,h1,h2,h3⟩ | ⟨ob,n,e,c,z,⟨h1,h0⟩,h2,h3⟩
  ·rw[hget key hne] at h1;have h2:(if key=(st.length,u) then none else cx.bx key)=some (b,o0):=h2;rw[if_neg hne] at h2;exact .inl ⟨cs,o0,h1,h2,h3⟩
  ·rw[hget key hne] at h1;have h2:(if key=(st.length,u) then none else cx.tk key)=some (n,e,some (b,c,z)):=h2;rw[if_neg hne] at h2;exact .inr ⟨ob,n,e,c,z,⟨h1,h0⟩,h2,h3⟩
 have hne_of:∀key o,St.get (fr.upd u none::st) key=some o→key≠(st.length,u):=fun key o h e=>by
  subst e; rw[hget0] at h; cases h
 have hrel:Rel E cx' (fr.upd u none::st) w:=by
  refine⟨fun key cs h=>?_,fun key n e z cs h=>?_,fun key ob n e h=>?_,fun key b o h=>r.foot key b o (hfoot _ _ _ h).2,fun k1 k2 b o h h'=>r.sep _ _ b o (hfoot _ _ _ h).2 (hfoot _ _ _ h').2,fun key l h=>?_,fun key l h=>?_,r.mlt,fun key b o h=>r.nz key b o (hfoot _ _ _ h).2,r.zm,fun key b o h=>?_,
   fun k1 k2 b o n e g c z h h'=>?_,fun k1 k2 n e n' e' g c z c' z' h h'=>?_,fun g=>(r.glob g).mono hext ((all_mono (fun q hq=>by cases hq)).1 _ (E.keyless g))⟩
  ·have hne:=hne_of _ _ h;rw[hget key hne] at h;obtain⟨h1,b,o,h2,h3⟩:=r.cells key cs h;refine⟨h1,b,o,(if_neg hne).trans h2,fun j d hj=>?_⟩;obtain⟨x,hx,hrd⟩:=h3 j d hj;exact⟨x,hx,hrd.mono hext (allL_get (hcontent key (.cells cs) hne h) hj)⟩
  ·have hne:=hne_of _ _ h;rw[hget key hne] at h;exact r.vecKeep h (if_neg hne) (fun _ _ _ _ _ _ _ hx=>hx) (fun j d x hj hr=>hr.mono hext (allL_get (hcontent key (.vec n e z cs) hne h) hj))
  ·obtain⟨h,h0⟩:=h;have hne:=hne_of _ _ h;rw[hget key hne] at h;obtain⟨tl,h1,h2⟩:=r.tok key ob n e ⟨h,h0⟩;exact⟨tl,(if_neg hne).trans h1,h2⟩
  ·have h:(if key=(st.length,u) then none else cx.bx key)=some l:=h;split at h
   ·cases h
   ·rename_i hne;obtain⟨cs,hcs⟩:=r.domb key l h;exact⟨cs,(hget key hne).trans hcs⟩
  ·have h:(if key=(st.length,u) then none else cx.tk key)=some l:=h;split at h
   ·cases h
   ·rename_i hne;obtain⟨ob,n,e,hcs,h0⟩:=r.domt key l h;exact⟨ob,n,e,(hget key hne).trans hcs,h0⟩
  ·have h:(if key=(st.length,u) then none else cx.bx key)=some (b,o):=h;split at h
   ·cases h
   ·exact r.bxlt _ _ _ h
  ·have h:(if k1=(st.length,u) then none else cx.bx k1)=some (b,o):=h;have h':(if k2=(st.length,u) then none else cx.tk k2)=some (n,e,some (g,c,z)):=h';split at h <;> split at h' <;> first | exact r.apart _ _ _ _ _ _ _ _ _ h h' | cases h | cases h'
  ·have h:(if k1=(st.length,u) then none else cx.tk k1)=some (n,e,some (g,c,z)):=h;have h':(if k2=(st.length,u) then none else cx.tk k2)=some (n',e',some (g,c',z')):=h';split at h <;> split at h' <;> first | exact r.rows _ _ _ _ _ _ _ _ _ _ _ h h' | cases h | cases h'
 have hlen:st.length=U.L:=by simp at hl; omega
 refine h B cx' a w hB (by simpa using hl) (he.trans (hext.weaken fun key hk=>notKey_spec.2 (fun e=>?_))) ⟨hrel,hr.size,fun v=>(hr.tmps v).mono hext (allE_out hE v),hr.defers⟩;subst e;simp only[lv,decide_eq_true_eq] at hk;omega
end
end Go.Mx
namespace Go.Mx
set_option linter.unusedVariables false
set_option linter.unusedSimpArgs false
section
variable {E : Setting} {U : Fun} {F : D → St → Prop} {k : List KI} {ρ : Env} {fr : Fr} {st : St} {ops : Array Oper} {n : Nat} {listed : Array Bool}
theorem RelF.drawn {N:Nat} {cx:Cx} {a:Act} {w:World} (hr:RelF E N cx ρ st a w):RelF E N cx ρ st a { w with drawn:=w.drawn+1 }∧Ext (fun _=>true) cx w cx { w with drawn:=w.drawn+1 }:=by
 have he:Ext (fun _=>true) cx w cx { w with drawn:=w.drawn+1 }:=
  ⟨rfl,rfl,rfl,Nat.le_refl _,fun _ _ _=>rfl,fun _ _ _ _=>rfl,fun _ _ _ h=>h,fun _ _ _ h=>h,fun k n l _ h=>⟨n,l,h,Nat.le_refl _,fun _=>rfl⟩,rfl,fun k n e g c z h _=>⟨k,n,e,c,z,h⟩,fun _ _ _=>rfl⟩
 have r:=hr.rel;refine⟨hr.ext he ⟨fun k cs h=>?_,fun k n e z cs h=>r.vecKeep h rfl (fun _ _ _ _ _ _ _ hx=>hx) (fun j d x _ hr=>hr.mono he (RelF.ext.all_true _)),r.tok,r.foot,r.sep,r.domb,r.domt,r.mlt,r.nz,r.zm,r.bxlt,r.apart,r.rows,fun g=>(r.glob g).mono he (RelF.ext.all_true _)⟩,he⟩;obtain⟨h1,b,o,h2,h3⟩:=r.cells k cs h;refine⟨h1,b,o,h2,fun j d hj=>?_⟩;obtain⟨x,hx,hrd⟩:=h3 j d hj;exact⟨x,hx,hrd.mono he (RelF.ext.all_true _)⟩
end
end Go.Mx
namespace Go.Mx
set_option linter.unusedVariables false
set_option linter.unusedSimpArgs false
theorem flat_len {α:Type} {sz:Nat}:∀{l:List (List α)},(∀cs∈l,cs.length=sz)→l.flatten.length=l.length*sz
 | [],_=>by simp
 | c::r,h=>by
  simp only[List.flatten_cons,List.length_append,List.length_cons,Nat.add_mul,Nat.one_mul];rw[h c (by simp),flat_len (l:=r) (fun c hc=>h c (by simp[hc]))]; omega
theorem flat_get {α:Type} {sz:Nat}:∀{l:List (List α)},(∀cs∈l,cs.length=sz)→∀{i j:Nat} {cs:List α} {d:α},l[i]? = some cs→cs[j]? = some d→l.flatten[i*sz+j]? = some d
 | [],_,i,_,_,_,hi,_=>by simp at hi
 | c::r,hl,i,j,cs,d,hi,hj=>by
  have hc:=hl c (by simp);rw[List.flatten_cons];cases i with
  | zero=>
   simp only[List.getElem?_cons_zero,Option.some.injEq] at hi;subst hi;rw[List.getElem?_append_left (by have:=(List.getElem?_eq_some_iff.1 hj).1; omega)]
   simpa using hj
  | succ i=>
   rw[List.getElem?_append_right (by rw[hc,Nat.add_mul]; omega),show(i+1)*sz+j-c.length=i*sz+j by rw[hc,Nat.add_mul]; omega];exact flat_get (l:=r) (fun c hc=>hl c (by simp[hc])) (by simpa using hi) hj
theorem flat_inv {α:Type} {sz:Nat} (hsz:0<sz) {l:List (List α)} (h:∀cs∈l,cs.length=sz) {q:Nat} {d:α} (hq:l.flatten[q]? = some d):∃cs,l[q / sz]? = some cs∧cs[q % sz]? = some d:=by
 have hlt:q<l.length*sz:=by have:=(List.getElem?_eq_some_iff.1 hq).1; rw[flat_len h] at this; exact this
 have h1:q / sz<l.length:=(Nat.div_lt_iff_lt_mul hsz).2 hlt;have h2:q % sz<sz:=Nat.mod_lt _ hsz;have e1:l[q / sz]? = some l[q / sz]:=List.getElem?_eq_getElem h1;have e2:=h _ (List.getElem_mem h1);have e3:(l[q / sz])[q % sz]? = some (l[q / sz])[q % sz]:=List.getElem?_eq_getElem (by omega);have:=flat_get h e1 e3;rw[show q / sz*sz+q % sz=q by rw[Nat.mul_comm]; exact Nat.div_add_mod q sz,hq] at this;cases this;exact⟨_,e1,e3⟩
section
variable {E : Setting} {U : Fun} {F : D → St → Prop} {k : List KI} {ρ : Env} {fr : Fr} {st : St} {all : Array Oper} {rest : List Oper}
variable {t : Nat} {ty : TypeId} {pos : String} {af : Array Edge} {nn bb : Nat} {ss : Shp} {H : Key → Bool}
theorem RelF.sbInv {N:Nat} {cx:Cx} {a:Act} {w:World} (hr:RelF E N cx ρ st a w) {x:Operand} {key:Key} {n:Nat} (h:ev E ρ x=.sb key n) :
  ∃b o,cx.bx key=some (b,o)∧a.eval x=.slice (some ⟨b,o,none⟩) n n∧n≤maxLen:=by
 have:=hr.eval x; rw[h] at this;generalize a.eval x=v at this;cases this with
 | sb hb hn=>exact⟨_,_,hb,rfl,hn⟩
theorem S.makeSlice {s e:TypeId} {n b be sz:Nat} {se:Shp} {x y:Operand} {kk kk':IntKind} {len:Nat} {zs:List Value} {zds:List D} (ht:Nat.blt t U.N=true) (hT:tShape E.P s=some (n,b,.slice e)) (hE:tShape E.P e=some (sz,be,se))
  (hz:tZero E.P e=some zs) (hzl:zs.length=sz) (hzd:ZeroL zds zs) (hlev:allL (fun _=>false) zds=true) (hx:ev E ρ x=.v (.int kk len)) (hy:ev E ρ y=.v (.int kk' len)) (hb:be*len≤281474976710656) (hm:len≤9223372036854775807) (hf:fr t=none) :
  SOk E U ρ (fr::st) ⟨some t,.makeSlice s x y,ty,pos,af,none⟩ (upd ρ t (.sb (st.length,t) len)) (fr.upd t (some (.cells (List.replicate len zds).flatten))::st):=
 ⟨rfl,by simp,fun cx a w hr=>by
  obtain⟨i,u,hi,hu,h1,h2,h3⟩:=tShape_parts hT;obtain⟨ie,ue,hie,hue,k1,k2,k3⟩:=tShape_parts hE;have hu:E.P.underlying s=some (.slice e):=by
   cases u <;> simp only[shpOf,Shp.slice.injEq,reduceCtorEq] at h3;rw[hu,h3]
  unfold tZero at hz;rw[hie] at hz;simp only[Option.bind_some,Option.map_eq_some_iff] at hz;obtain⟨z,hz1,hz2⟩:=hz;have hb':(ie.bytes:Int)*(len:Int)≤281474976710656:=by
   have h:((be*len:Nat):Int)≤281474976710656:=by omega
   rw[k2]; rwa [Int.natCast_mul] at h
  have hrun:=run_make (P:=E.P) w s e ie z hu hie hz1 kk kk' len len (by omega) (Int.le_refl _) hb' (by omega);simp only[Int.toNat_natCast] at hrun;obtain⟨l1,l2⟩:=hzd.rd (cx:=cx) (w:=w);have hmade:(madeCells z.cells (len*ie.size)).toList=(List.replicate len zs).flatten:=by
   rw[k1];unfold madeCells;apply List.ext_getElem?;intro q;by_cases hq:q<len*sz
   ·have hsz:0<sz:=by
     rcases Nat.eq_zero_or_pos sz with h | h
     ·rw[h] at hq; simp at hq
     ·exact h
    have hl2:∀cs∈List.replicate len zs,cs.length=sz:=fun cs hc=>by rw[List.eq_of_mem_replicate hc]; exact hzl
    have e0:(List.replicate len zs)[q / sz]? = some zs:=by
     rw[List.getElem?_replicate,if_pos ((Nat.div_lt_iff_lt_mul hsz).2 hq)]
    have hml:q % sz<zs.length:=by rw[hzl]; exact Nat.mod_lt _ hsz
    have:=flat_get hl2 e0 (List.getElem?_eq_getElem hml);rw[show q / sz*sz+q % sz=q by rw[Nat.mul_comm]; exact Nat.div_add_mod q sz] at this;rw[this];have hzs:z.cells.size=sz:=by rw[← hzl,← hz2]; simp
    have hzq:z.cells[q % sz]! = zs[q % sz]:=by
     have:q % sz<z.cells.size:=by omega
     simp only[← hz2,this,getElem!_pos,Array.getElem_toList]
    simp[hq,hzs,hzq]
   ·have hl2:∀cs∈List.replicate len zs,cs.length=sz:=fun cs hc=>by rw[List.eq_of_mem_replicate hc]; exact hzl
    rw[List.getElem?_eq_none (by simp; omega),List.getElem?_eq_none (by rw[flat_len hl2]; simp; omega)]
  have hlen2:(List.replicate len zds).flatten.length=((List.replicate len zs).flatten).length:=by
   rw[flat_len (sz:=sz) (fun cs hc=>by rw[List.eq_of_mem_replicate hc]; omega),flat_len (sz:=sz) (fun cs hc=>by rw[List.eq_of_mem_replicate hc]; omega)];simp
  have hrd2:∀(j:Nat) d x,(List.replicate len zds).flatten[j]? = some d→((List.replicate len zs).flatten)[j]? = some x→Rd cx w d x:=fun j d x hd hx=>by
   rcases Nat.eq_zero_or_pos sz with h0 | hsz
   ·have:(List.replicate len zds).flatten.length=0:=by
     rw[flat_len (sz:=sz) (fun cs hc=>by rw[List.eq_of_mem_replicate hc]; omega),h0]; simp
    have:=(List.getElem?_eq_some_iff.1 hd).1;omega
   ·obtain⟨cs,e1,e2⟩:=flat_inv hsz (fun cs hc=>by rw[List.eq_of_mem_replicate hc]; omega) hd;obtain⟨vs,f1,f2⟩:=flat_inv hsz (fun cs hc=>by rw[List.eq_of_mem_replicate hc]; exact hzl) hx;have g1:=List.eq_of_mem_replicate (List.mem_of_getElem? e1);have g2:=List.eq_of_mem_replicate (List.mem_of_getElem? f1);subst g1; subst g2;exact l2 _ d x e2 f2
  have hkl:∀n,allL (fun _=>false) (List.replicate n zds).flatten=true:=fun n=>by
   induction n with
   | zero=>rfl
   | succ n ih=>
    rw[List.replicate_succ,List.flatten_cons];have hap:∀(a b:List D),allL (fun _=>false) a=true→allL (fun _=>false) b=true→allL (fun _=>false) (a++b)=true:=fun a b ha hb=>by
     induction a with
     | nil=>exact hb
     | cons d r ih=>simp only[List.cons_append,allL,Bool.and_eq_true] at *; exact⟨ha.1,ih ha.2⟩
    exact hap _ _ hlev ih
  obtain⟨cx',r',hb2,he⟩:=hr.rel.new (key:=(st.length,t)) (get_top.trans hf) (by simp) (ds:=(List.replicate len zds).flatten) (vs:=(List.replicate len zs).flatten) e hlen2 hrd2 ((all_mono (fun _ h=>by cases h)).2.1 _ (hkl len));rw[set_top] at r';rw[← hmade,Array.toArray_toList] at r' he;refine⟨_,_,cx',_,?_,.inl rfl,put_rd (hr.ext he r') ht (Rd.sb hb2 (by unfold maxLen; omega)),he⟩;simp only[execOp,Sem.run_bind,hr.lit hx,hr.lit hy,hrun,Result.andThen_ok,Sem.run_pure]⟩
theorem P.indexAddrB {s e:TypeId} {n b be sz:Nat} {se:Shp} {x ix:Operand} {key:Key} {len:Nat} {kk:IntKind} {i:Nat}
  (h:tShape E.P s=some (n,b,.slice e)) (he:tShape E.P e=some (sz,be,se))
  (hx:ev E ρ x=.sb key len) (hi:ev E ρ ix=.v (.int kk i)) (hlt:i<len):POk E U ρ st ⟨some t,.indexAddr s x ix,ty,pos,af,none⟩ (.bx key (i*sz)):=
 (fun cx a w hr=>by
  obtain⟨bl,o,hb,hv,hn⟩:=hr.sbInv hx;refine⟨.pointer (some ⟨bl,o+i*sz,none⟩),fun w'=>?_,.bx hb⟩;simp only[execOp,hv,hr.lit hi,Sem.run_bind,run_indexAt h he w' bl o len len kk i (by omega) (by omega),Result.andThen_ok,Sem.run_pure,Int.toNat_natCast])
theorem P.lenB {s e:TypeId} {n b:Nat} {x:Operand} {key:Key} {len:Nat} (h:tShape E.P s=some (n,b,.slice e)) (hx:ev E ρ x=.sb key len):POk E U ρ st ⟨some t,.call ⟨.builtin .len,#[x],#[s]⟩,ty,pos,af,none⟩ (.v (.int .i64 len)):=
 P.lit (fun a w0 w cx hr=>by
  obtain⟨bl,o,hb,hv,hn⟩:=hr.sbInv hx;have:=run_len_slice h ty (some ⟨bl,o,none⟩) len len w;simp only[execOp,resolve,Sem.run_bind,Sem.run_pure,Result.andThen_ok,invoke,builtin,List.map_toArray,List.map_cons,List.map_nil,hv,this])
theorem Rel.unkey {cx:Cx} {w:World} {u:Nat} (r:Rel E cx (fr::st) w) (hF:FrAll (notKey st.length u) (fr.upd u none)) :
  ∃cx',Rel E cx' (fr.upd u none::st) w∧Ext (notKey st.length u) cx w cx' w∧(∀b o,Mx.foot cx (fr::st) (st.length,u) b o→¬cx'.M b o)∧(∀b o,cx'.M b o→cx.M b o):=by
 have hget:∀key,key≠(st.length,u)→St.get (fr.upd u none::st) key=St.get (fr::st) key:=fun key hk=>by
  simp only[St.get];split
  ·rename_i h1;exact Fr.upd_ne _ _ _ _ (fun h2=>hk (Prod.ext h1 h2))
  ·rfl
 have hget0:St.get (fr.upd u none::st) (st.length,u)=none:=get_top.trans (Fr.upd_same _ _ _)
 let cx':Cx:={ bx:=fun k=>if k=(st.length,u) then none else cx.bx k,tk:=fun k=>if k=(st.length,u) then none else cx.tk k,M:=fun b o=>cx.M b o∧¬Mx.foot cx (fr::st) (st.length,u) b o,Z:=cx.Z }
 have hext:Ext (notKey st.length u) cx w cx' w:=by
  refine⟨rfl,rfl,rfl,Nat.le_refl _,fun _ _ _=>rfl,fun _ _ _ _=>rfl,fun _ _ _ h h2=>h h2.1,fun key l hk h=>?_,fun key n l hk h=>⟨n,l,?_,Nat.le_refl _,fun _=>rfl⟩,rfl,fun key n e g c z h _=>⟨key,n,e,c,z,?_⟩,fun _ _ _=>rfl⟩
  ·show(if key=(st.length,u) then none else cx.bx key)=_;rw[if_neg (notKey_spec.1 hk)]; exact h
  ·show(if key=(st.length,u) then none else cx.tk key)=_;rw[if_neg (notKey_spec.1 hk)]; exact h
  ·have h:(if key=(st.length,u) then none else cx.tk key)=some (n,e,some (g,c,z)):=h;split at h
   ·cases h
   ·exact h
 have hcontent:∀key (ob:AObj),key≠(st.length,u)→St.get (fr::st) key=some ob→allL (notKey st.length u) ob.body=true:=fun key cs hk hg=>by
  by_cases h1:key.1=st.length
  ·have:fr.upd u none key.2=some cs:=by
    rw[Fr.upd_ne _ _ _ _ (fun h2=>hk (Prod.ext h1 h2))];simp only[St.get,h1,if_true] at hg; exact hg
   exact hF _ _ this
  ·have h2:=r.bodyLv hg;have h3:key.1<(fr::st).length:=by
    rcases Nat.lt_or_ge key.1 (fr::st).length with h | h
    ·exact h
    ·rw[St.get_ge h] at hg; cases hg
   refine(all_mono (fun q hq=>notKey_spec.2 (fun e=>?_))).2.1 _ h2;simp only[lv,decide_eq_true_eq,e] at hq;simp at h3;omega
 have hfoot:∀key b o,Mx.foot cx' (fr.upd u none::st) key b o→key≠(st.length,u)∧Mx.foot cx (fr::st) key b o:=fun key b o h=>by
  have hne:key≠(st.length,u):=fun e=>by
   subst e;rcases h with ⟨cs,o0,h1,_⟩ | ⟨ob,n,e,c,z,⟨h1,_⟩,_⟩ <;> (rw[hget0] at h1; cases h1)
  refine⟨hne,?_⟩;rcases h with ⟨cs,o0,h1,h2,h3⟩ | ⟨ob,n,e,c,z,⟨h1,h0⟩,h2,h3⟩
  ·rw[hget key hne] at h1;have h2:(if key=(st.length,u) then none else cx.bx key)=some (b,o0):=h2;rw[if_neg hne] at h2;exact .inl ⟨cs,o0,h1,h2,h3⟩
  ·rw[hget key hne] at h1;have h2:(if key=(st.length,u) then none else cx.tk key)=some (n,e,some (b,c,z)):=h2;rw[if_neg hne] at h2;exact .inr ⟨ob,n,e,c,z,⟨h1,h0⟩,h2,h3⟩
 have hne_of:∀key o,St.get (fr.upd u none::st) key=some o→key≠(st.length,u):=fun key o h e=>by
  subst e; rw[hget0] at h; cases h
 refine⟨cx',⟨fun key cs h=>?_,fun key n e z cs h=>?_,fun key ob n e h=>?_,fun key b o h=>?_,fun k1 k2 b o h h'=>r.sep _ _ b o (hfoot _ _ _ h).2 (hfoot _ _ _ h').2,fun key l h=>?_,fun key l h=>?_,fun b o h=>r.mlt b o h.1,fun key b o h=>r.nz key b o (hfoot _ _ _ h).2,fun b o h=>⟨r.zm b o h,fun hf=>r.nz _ _ _ hf h⟩,fun key b o h=>?_,
   fun k1 k2 b o n e g c z h h'=>?_,fun k1 k2 n e n' e' g c z c' z' h h'=>?_,fun g=>(r.glob g).mono hext ((all_mono (fun q hq=>by cases hq)).1 _ (E.keyless g))⟩,hext,fun b o hf h=>h.2 hf,fun b o h=>h.1⟩
 ·have hne:=hne_of _ _ h;rw[hget key hne] at h;obtain⟨h1,b,o,h2,h3⟩:=r.cells key cs h;refine⟨h1,b,o,(if_neg hne).trans h2,fun j d hj=>?_⟩;obtain⟨x,hx,hrd⟩:=h3 j d hj;exact⟨x,hx,hrd.mono hext (allL_get (hcontent key (.cells cs) hne h) hj)⟩
 ·have hne:=hne_of _ _ h;rw[hget key hne] at h;exact r.vecKeep h (if_neg hne) (fun _ _ _ _ _ _ _ hx=>hx) (fun j d x hj hr=>hr.mono hext (allL_get (hcontent key (.vec n e z cs) hne h) hj))
 ·obtain⟨h,h0⟩:=h;have hne:=hne_of _ _ h;rw[hget key hne] at h;obtain⟨tl,h1,h2⟩:=r.tok key ob n e ⟨h,h0⟩;exact⟨tl,(if_neg hne).trans h1,h2⟩
 ·obtain⟨hne,hf⟩:=hfoot _ _ _ h;obtain⟨g1,g2,g3⟩:=r.foot key b o hf;exact⟨g1,g2,g3,fun hf'=>hne (r.sep _ _ b o hf hf')⟩
 ·have h:(if key=(st.length,u) then none else cx.bx key)=some l:=h;split at h
  ·cases h
  ·rename_i hne;obtain⟨cs,hcs⟩:=r.domb key l h;exact⟨cs,(hget key hne).trans hcs⟩
 ·have h:(if key=(st.length,u) then none else cx.tk key)=some l:=h;split at h
  ·cases h
  ·rename_i hne;obtain⟨ob,n,e,hcs,h0⟩:=r.domt key l h;exact⟨ob,n,e,(hget key hne).trans hcs,h0⟩
 ·have h:(if key=(st.length,u) then none else cx.bx key)=some (b,o):=h;split at h
  ·cases h
  ·exact r.bxlt _ _ _ h
 ·have h:(if k1=(st.length,u) then none else cx.bx k1)=some (b,o):=h;have h':(if k2=(st.length,u) then none else cx.tk k2)=some (n,e,some (g,c,z)):=h';split at h <;> split at h' <;> first | exact r.apart _ _ _ _ _ _ _ _ _ h h' | cases h | cases h'
 ·have h:(if k1=(st.length,u) then none else cx.tk k1)=some (n,e,some (g,c,z)):=h;have h':(if k2=(st.length,u) then none else cx.tk k2)=some (n',e',some (g,c',z')):=h';split at h <;> split at h' <;> first | exact r.rows _ _ _ _ _ _ _ _ _ _ _ h h' | cases h | cases h'
inductive ResR (E:Setting) (ρ:Env) (st:St):List ResultVar→List D→Prop
 | nil:ResR E ρ st [] []
 | tmp {t r ds} (h:ResR E ρ st r ds):ResR E ρ st (.tmp t::r) (ρ t::ds)
 | cellS {b ty n bb ss key cs r ds} (hT:tShape E.P ty=some (n,bb,ss)) (ha:ss.agg=true) (hb:ρ b=.bx key 0) (hg:st.get key=some (.cells cs)) (hn:cs.length=n) (h:ResR E ρ st r ds):ResR E ρ st (.cell b ty::r) (.agg cs::ds)
 | cell1 {b ty n bb ss key cs d r ds} (hT:tShape E.P ty=some (n,bb,ss)) (ha:ss.agg=false) (hb:ρ b=.bx key 0) (hg:st.get key=some (.cells cs)) (hd:cs[0]? = some d) (h:ResR E ρ st r ds):ResR E ρ st (.cell b ty::r) (d::ds)
theorem mapM_resR {N:Nat} {cx:Cx} {w:World} {a:Act} (hr:RelF E N cx ρ st a w):∀{l:List ResultVar} {ds:List D},ResR E ρ st l ds →
  ∃vs,(l.mapM (oneRes a.tmps)).run E.P w=.ok vs w∧vs.length=ds.length∧∀(j:Nat) d x,ds[j]? = some d→vs[j]? = some x→Rd cx w d x:=by
 have step:∀(r:ResultVar) (l:List ResultVar) (d:D) (ds:List D) (x:Value) (vs:List Value),(oneRes a.tmps r).run E.P w=.ok x w→Rd cx w d x→(l.mapM (oneRes a.tmps)).run E.P w=.ok vs w→vs.length=ds.length→(∀(j:Nat) d x,ds[j]? = some d→vs[j]? = some x→Rd cx w d x) →
   ∃vs,((r::l).mapM (oneRes a.tmps)).run E.P w=.ok vs w∧vs.length=(d::ds).length∧∀(j:Nat) d' x,(d::ds)[j]? = some d'→vs[j]? = some x→Rd cx w d' x:=fun r l d ds x vs h1 h2 h3 h4 h5=>by
  refine⟨x::vs,by rw[List.mapM_cons,Sem.run_bind,h1]; simp only[Result.andThen_ok,Sem.run_bind]; rw[h3]; rfl,by simp[h4],fun j d' y hd hy=>?_⟩;cases j with
  | zero=>simp at hd hy; subst hd; subst hy; exact h2
  | succ j=>exact h5 j d' y (by simpa using hd) (by simpa using hy)
 intro l ds h
 induction h with
 | nil=>exact⟨[],rfl,rfl,by simp⟩
 | @tmp t r ds h ih=>
  obtain⟨vs,h1,h2,h3⟩:=ih;exact step _ _ _ _ (a.tmps.getD t undef) vs rfl (hr.tmps t) h1 h2 h3
 | @cellS b ty n bb ss key cs r ds hT ha hb hg hn h ih=>
  obtain⟨vs,h1,h2,h3⟩:=ih
  have hL := L.loadS (E := E) (U := ⟨default, 0, N⟩) (ρ := ρ) (st := st) (t := 0) (ty := 0) (pos := "") (af := #[]) (H := fun _ => true) (x := .tmp b) hT ha hb rfl hg (ds := cs) (by simp [← hn]) hn
  obtain⟨x,hx,hrun⟩:=hL cx a w hr;have:=hrun w (fun _ _ _ _=>rfl);obtain⟨bl,o,hbx,hev⟩:=hr.ptr (x:=.tmp b) hb;refine step _ _ _ _ x vs ?_ hx h1 h2 h3;simp only[execOp,hev,Instr.loadAt,Instr.sureAddr,Sem.run_bind,Sem.run_pure,Result.andThen_ok] at this;have hev':a.tmps.getD b undef=.pointer (some ⟨bl,o+0,none⟩):=hev;simp only[oneRes,hev',Sem.run_bind,asAddr,Sem.run_pure,Result.andThen_ok];generalize (loadVar ty ⟨bl,o+0,none⟩).run E.P w=rr at this;cases rr with
  | ok y w2=>simp only[Result.andThen_ok,Result.ok.injEq,Next.value.injEq] at this; rw[this.1,this.2]
  | halt y w2=>cases this
 | @cell1 b ty n bb ss key cs d r ds hT ha hb hg hd h ih=>
  obtain⟨vs,h1,h2,h3⟩:=ih
  have hL := L.load (E := E) (U := ⟨default, 0, N⟩) (ρ := ρ) (st := st) (t := 0) (ty := 0) (pos := "") (af := #[]) (H := fun _ => true) (x := .tmp b) hT ha hb rfl hg hd
  obtain⟨x,hx,hrun⟩:=hL cx a w hr;have:=hrun w (fun _ _ _ _=>rfl);obtain⟨bl,o,hbx,hev⟩:=hr.ptr (x:=.tmp b) hb;refine step _ _ _ _ x vs ?_ hx h1 h2 h3;simp only[execOp,hev,Instr.loadAt,Instr.sureAddr,Sem.run_bind,Sem.run_pure,Result.andThen_ok] at this;have hev':a.tmps.getD b undef=.pointer (some ⟨bl,o+0,none⟩):=hev;simp only[oneRes,hev',Sem.run_bind,asAddr,Sem.run_pure,Result.andThen_ok];generalize (loadVar ty ⟨bl,o+0,none⟩).run E.P w=rr at this;cases rr with
  | ok y w2=>simp only[Result.andThen_ok,Result.ok.injEq,Next.value.injEq] at this; rw[this.1,this.2]
  | halt y w2=>cases this
theorem Fin_ofR {B:Base} {cx:Cx} {a:Act} {w:World} {ds:List D} {d':D} (hres:ResR E ρ (fr::st) U.fn.results.toList ds) (hw:Wk (resOf ds) d') (hall:d'.all (lv st.length)=true) (hF:F d' st)
  (hB:B.L=U.L) (hl:(fr::st).length=U.L+1) (he:Ext (lv B.L) B.cx B.w cx w) (hr:RelF E U.N cx ρ (fr::st) a w):a.defers=[]∧∃v,(results U.fn a.tmps).run E.P w=.ok v w ∧
   ∃d st' cx' v',Ending.returned v=.returned v'∧F d st'∧st'.length=B.L∧Rel E cx' st' w∧Rd cx' w d v'∧Ext (fun _=>true) B.cx B.w cx' w:=by
 obtain⟨vs,h1,h2,h3⟩:=mapM_resR hr hres;have hm:(U.fn.results.mapM (oneRes a.tmps)).run E.P w=.ok vs.toArray w:=by
  rw[← Array.toArray_toList (xs:=U.fn.results),List.mapM_toArray,Sem.run_map,h1]; rfl
 have hv:(results U.fn a.tmps).run E.P w=.ok (if h:vs.toArray.size=1 then vs.toArray[0] else .tuple vs.toArray) w:=by rw[results_eq,Sem.run_bind,hm]; rfl
 have hrd:Rd cx w (resOf ds) (if h:vs.toArray.size=1 then vs.toArray[0] else .tuple vs.toArray):=by
  clear hm hv h1 hres hw
  match ds,vs,h2,h3 with
  | [d],[x],_,h3=>exact h3 0 d x rfl rfl
  | [],[],_,_=>exact .tup (vs:=[]) rfl (by simp)
  | d::d'::ds,x::x'::vs,h2,h3=>
   rw[dif_neg (by simp)];exact .tup h2.symm h3
 have hlen:st.length=B.L:=by simp at hl; omega
 refine⟨hr.defers,_,hv,d',st,cx.cut st.length,_,rfl,hF,hlen,hr.rel.cut,(hw _ _ _ hrd).mono (Ext.cut cx w st.length) hall,?_⟩;have e2:=he.trans ((Ext.cut cx w st.length).weaken (fun k hk=>by rw[hlen]; exact hk));refine⟨e2.os,e2.tape,e2.output,e2.size,e2.block,e2.cell,e2.nomut,fun key l _ hl=>?_,fun key n l _ hl=>?_,e2.zz,e2.rowold,e2.fz⟩
 ·by_cases hk:key.1<B.L
  ·exact e2.bx key l (by simp[lv,hk]) hl
  ·rw[(B.dom key hk).1] at hl; cases hl
 ·by_cases hk:key.1<B.L
  ·exact e2.tk key n l (by simp[lv,hk]) hl
  ·rw[(B.dom key hk).2] at hl; cases hl
theorem AW.retR {ds:List D} {d':D} (hres:ResR E ρ (fr::st) U.fn.results.toList ds) (hw:Wk (resOf ds) d') (hall:d'.all (lv st.length)=true) (hF:F d' st):AW E U (.code .ret::k) F ρ (fr::st):=
 fun B cx a w hB hl he hr=>wp_ret (kpost_ret (Fin_ofR hres hw hall hF hB hl he hr))
end
end Go.Mx
namespace Go.Mx
set_option linter.unusedVariables false
set_option linter.unusedSimpArgs false
def mkFr:List (Nat×AObj)→Fr
 | []=>fun _=>none
 | (t,o)::r=>Fr.upd (mkFr r) t (some o)
def setL:List (Nat×AObj)→Nat→AObj→List (Nat×AObj)
 | [],t,o=>[(t,o)]
 | (u,p)::r,t,o=>if Nat.beq u t=true then(u,o)::r else(u,p)::setL r t o
def delL:List (Nat×AObj)→Nat→List (Nat×AObj)
 | [],_=>[]
 | (u,p)::r,t=>if Nat.beq u t=true then delL r t else(u,p)::delL r t
theorem mkFr_set:∀(l:List (Nat×AObj)) (t:Nat) (o:AObj),Fr.upd (mkFr l) t (some o)=mkFr (setL l t o)
 | [],t,o=>rfl
 | (u,p)::r,t,o=>by
  simp only[setL];by_cases h:Nat.beq u t=true
  ·have:=Nat.eq_of_beq_eq_true h;subst this;rw[if_pos h]
   funext v
   simp only[mkFr,Fr.upd];split <;> rfl
  ·rw[if_neg h];have hne:u≠t:=fun e=>h (by rw[e]; exact Nat.beq_refl t);have ih:=mkFr_set r t o
   funext v
   simp only[mkFr];rw[← ih];simp only[Fr.upd];by_cases h1:v=t <;> by_cases h2:v=u <;> simp_all
theorem mkFr_del:∀(l:List (Nat×AObj)) (t:Nat),Fr.upd (mkFr l) t none=mkFr (delL l t)
 | [],t=>by funext v; simp only[mkFr,delL,Fr.upd]; split <;> rfl
 | (u,p)::r,t=>by
  simp only[delL];have ih:=mkFr_del r t;by_cases h:Nat.beq u t=true
  ·have:=Nat.eq_of_beq_eq_true h;subst this;rw[if_pos h,← ih]
   funext v
   simp only[mkFr,Fr.upd];split <;> rfl
  ·rw[if_neg h];have hne:u≠t:=fun e=>h (by rw[e]; exact Nat.beq_refl t)
   funext v
   simp only[mkFr];rw[← ih];simp only[Fr.upd];by_cases h1:v=t <;> by_cases h2:v=u <;> simp_all
def allF (p:Key→Bool):List (Nat×AObj)→Bool
 | []=>true
 | (_,.cells cs)::r=>allL p cs&&allF p r
 | (_,.tok _ _)::r=>allF p r
 | (_,.vec _ _ _ cs)::r=>allL p cs&&allF p r
theorem FrAll.ok {p:Key→Bool}:∀{l:List (Nat×AObj)},allF p l=true→FrAll p (mkFr l)
 | [],_=>FrAll.empty
 | (t,.cells cs)::r,h=>by
  simp only[allF,Bool.and_eq_true] at h;exact FrAll.upd (FrAll.ok h.2) h.1
 | (t,.tok n e)::r,h=>FrAll.updT (FrAll.ok h)
 | (t,.vec n e z cs)::r,h=>by
  simp only[allF,Bool.and_eq_true] at h;exact FrAll.updO (FrAll.ok h.2) h.1
section
variable {E : Setting} {fn : Func} {L N : Nat} {F : D → St → Prop} {k : List KI} {ρ : Env} {f : List (Nat × AObj)} {st : St} {all : Array Oper} {rest : List Oper}
variable {t : Nat} {ty : TypeId} {pos : String} {af : Array Edge} {nn bb : Nat} {ss : Shp} {H : Key → Bool}
theorem acallE {fno:Nat} {c:Code} {ds:List D} {K:D→St→Prop} (hf:E.P.funcs[fno]? = some fn) (hb:fn.body=some c) {N:Nat} (hN:fn.ntmps=N) (hn:Nat.ble ds.length N=true) {l:List (Nat×D)} (hw:WkE (enter ds) l)
  (h:∀L,st.length=L→allL (lv L) ds=true→AW E ⟨fn,L,N⟩ [.code c] K (mkEnv l) (mkFr []::st)):ACall E fno ds st K:=
 fun cx w vs hr hd=>by
  have hlv:allL (lv st.length) ds=true:=by
   have:∀(cs:List D),(∀(j:Nat) d,cs[j]? = some d→d.all (lv st.length)=true)→allL (lv st.length) cs=true:=fun cs=>by
    induction cs with
    | nil=>intro _; rfl
    | cons d r ih=>intro h; simp only[allL,Bool.and_eq_true]; exact⟨h 0 d rfl,ih fun j e hj=>h (j+1) e (by simpa using hj)⟩
   refine this _ fun j d hj=>?_;obtain⟨x,hx⟩:=len_get hd.1.symm hj;exact hr.lev (hd.2 j d x hj hx) (Nat.le_refl _)
  exact acall_body hf hb hN hn (AW.reset l hw (h _ rfl hlv)) cx w vs hr hd
end
theorem bytes_eq {a b:ByteArray}:(a.toList==b.toList)=decide (a=b):=by
 have h:(a.toList=b.toList)↔a=b:=⟨fun h=>by
  rw[ByteArray.toList_eq,ByteArray.toList_eq] at h;obtain⟨⟨a⟩⟩:=a;obtain⟨⟨b⟩⟩:=b;simp only at h;rw[h],fun h=>by rw[h]⟩
 cases hd:decide (a=b) with
 | true=>have:=of_decide_eq_true hd; subst this; simp
 | false=>have:=of_decide_eq_false hd; simp[h,this]
section
variable {E : Setting} {U : Fun} {F : D → St → Prop} {k : List KI} {ρ : Env} {st : St} {all : Array Oper} {rest : List Oper}
variable {t : Nat} {ty : TypeId} {pos : String} {af : Array Edge} {nn bb : Nat} {ss : Shp} {H : Key → Bool}
theorem P.eqS {xt yt:TypeId} {x y:Operand} {a b:ByteArray} (hx:ev E ρ x=.v (.string a)) (hy:ev E ρ y=.v (.string b)):POk E U ρ st ⟨some t,.binOp .eql xt x y yt,ty,pos,af,none⟩ (.v (.bool (decide (a=b)))):=
 P.bin hx hy (by simp only[dbin,bytes_eq])
theorem P.neS {xt yt:TypeId} {x y:Operand} {a b:ByteArray} (hx:ev E ρ x=.v (.string a)) (hy:ev E ρ y=.v (.string b)):POk E U ρ st ⟨some t,.binOp .neq xt x y yt,ty,pos,af,none⟩ (.v (.bool (decide (¬a=b)))):=
 P.bin hx hy (by simp only[dbin,bytes_eq,decide_not])
end
end Go.Mx
namespace Go.Mx
structure Form where
 kind:Int
 name:ByteArray
 n:Int
 scopes:List Int
 kids:List Form
def intsD (l:List Int):List (List D):=l.map fun i=>[.v (.int .i64 i)]
def strsD (l:List ByteArray):List (List D):=l.map fun i=>[.v (.string i)]
mutual
def formD:Form→List D
 | ⟨k,nm,n,sc,kids⟩=>[.v (.int .i64 k),.v (.string nm),.v (.int .i64 n),.sl 1 .ro (intsD sc),.sl 5 .ro (formsD kids)]
def formsD:List Form→List (List D)
 | []=>[]
 | f::r=>formD f::formsD r
end
def cForm (f:Form):List D:=[.v (.int .i64 f.kind),.v (.string f.name),.v (.int .i64 f.n),.sl 1 .ro (intsD f.scopes),.sl 5 .ro (formsD f.kids)]
theorem formD_eq (f:Form):formD f=cForm f:=by cases f; rfl
theorem formsD_eq (l:List Form):formsD l=l.map cForm:=by
 induction l with
 | nil=>rfl
 | cons f r ih=>rw[formsD,formD_eq,ih]; rfl
theorem formsD_length (l:List Form):(formsD l).length=l.length:=by rw[formsD_eq]; simp
theorem formsD_get (l:List Form) (i:Nat):(formsD l)[i]? = (l[i]?).map cForm:=by rw[formsD_eq]; simp
structure Core where
 kind:Int
 id:Int
 name:ByteArray
 n:Int
 ids:List Int
 data:Form
 kids:List Core
mutual
def coreD:Core→List D
 | ⟨k,id,nm,n,ids,dt,kids⟩=>[.v (.int .i64 k),.v (.int .i64 id),.v (.string nm),.v (.int .i64 n),.sl 1 .ro (intsD ids),.v (.int .i64 dt.kind),.v (.string dt.name),.v (.int .i64 dt.n),.sl 1 .ro (intsD dt.scopes),.sl 5 .ro (formsD dt.kids),.sl 11 .ro (coresD kids)]
def coresD:List Core→List (List D)
 | []=>[]
 | f::r=>coreD f::coresD r
end
def cCore (c:Core):List D:=[.v (.int .i64 c.kind),.v (.int .i64 c.id),.v (.string c.name),.v (.int .i64 c.n),.sl 1 .ro (intsD c.ids),.v (.int .i64 c.data.kind),.v (.string c.data.name),.v (.int .i64 c.data.n),.sl 1 .ro (intsD c.data.scopes),.sl 5 .ro (formsD c.data.kids),.sl 11 .ro (coresD c.kids)]
theorem coreD_eq (f:Core):coreD f=cCore f:=by cases f; rfl
theorem coresD_eq (l:List Core):coresD l=l.map cCore:=by
 induction l with
 | nil=>rfl
 | cons f r ih=>rw[coresD,coreD_eq,ih]; rfl
theorem coresD_length (l:List Core):(coresD l).length=l.length:=by rw[coresD_eq]; simp
theorem coresD_get (l:List Core) (i:Nat):(coresD l)[i]? = (l[i]?).map cCore:=by rw[coresD_eq]; simp
theorem intsD_length (l:List Int):(intsD l).length=l.length:=by simp[intsD]
theorem intsD_get (l:List Int) (i:Nat):(intsD l)[i]? = (l[i]?).map fun i=>[.v (.int .i64 i)]:=by simp[intsD]
theorem strsD_get (l:List ByteArray) (i:Nat):(strsD l)[i]? = (l[i]?).map fun i=>[.v (.string i)]:=by simp[strsD]
@[simp] theorem intsD_all (p:Key→Bool) (l:List Int):allLL p (intsD l)=true:=by
 induction l with
 | nil=>rfl
 | cons x r ih=>simp only[intsD,List.map_cons,allLL,allL,D.all,Bool.true_and,Bool.and_true] at *; exact ih
mutual
theorem formD_all (p:Key→Bool):∀f:Form,allL p (formD f)=true
 | ⟨k,nm,n,sc,kids⟩=>by simp only[formD,allL,D.all,Tok.all,intsD_all,formsD_all p kids,Bool.and_self]
@[simp] theorem formsD_all (p:Key→Bool):∀l:List Form,allLL p (formsD l)=true
 | []=>rfl
 | f::r=>by simp only[formsD,allLL,formD_all p f,formsD_all p r,Bool.and_self]
end
@[simp] theorem cForm_all (p:Key→Bool) (f:Form):allL p (cForm f)=true:=by rw[← formD_eq]; exact formD_all p f
def rows {α:Type} (f:α→List D) (z:List D) (xs:List α) (i:Nat):List (List D):=(xs.take i).map f++List.replicate (xs.length-i) z
theorem strsD_sz (l:List ByteArray):∀cs∈strsD l,cs.length=1:=fun cs h=>by obtain⟨x,_,rfl⟩:=List.mem_map.1 h; rfl
mutual
def okForm:Form→Prop
 | ⟨_,nm,_,_,kids⟩=>nm.size≤9223372036854775807∧okForms kids
def okForms:List Form→Prop
 | []=>True
 | f::r=>okForm f∧okForms r
end
mutual
def okCore:Core→Prop
 | ⟨_,_,nm,_,_,dt,kids⟩=>nm.size≤9223372036854775807∧okForm dt∧okCores kids
def okCores:List Core→Prop
 | []=>True
 | f::r=>okCore f∧okCores r
end
theorem okForm_eq (f:Form):okForm f↔f.name.size≤9223372036854775807∧okForms f.kids:=by cases f; simp only[okForm]
theorem okCore_eq (f:Core):okCore f↔f.name.size≤9223372036854775807∧okForm f.data∧okCores f.kids:=by cases f; simp only[okCore]
end Go.Mx
namespace Go.Mx
set_option linter.unusedVariables false
set_option linter.unusedSimpArgs false
theorem St.set_same:∀{st:St} {k:Key} {o:AObj},St.get st k=some o→St.set st k (some o)=st
 | [],_,_,h=>rfl
 | fr::r,k,o,h=>by
  simp only[St.get] at h;simp only[St.set];split
  ·rename_i hk;rw[if_pos hk] at h;congr 1
   funext t
   unfold Fr.upd;split
   ·rename_i ht; rw[ht]; exact h.symm
   ·rfl
  ·rename_i hk;rw[if_neg hk] at h;rw[St.set_same h]
theorem set_top' {f f':List (Nat×AObj)} {st:St} {L t:Nat} {o:AObj} (hL:st.length=L) (h:setL f t o=f'):St.set (mkFr f::st) (L,t) (some o)=mkFr f'::st:=by
 subst hL; subst h;rw[set_top,mkFr_set]
theorem get_top' {f:List (Nat×AObj)} {st:St} {L t:Nat} (hL:st.length=L):St.get (mkFr f::st) (L,t)=mkFr f t:=by
 subst hL; exact get_top
structure Callable (E:Setting) (g:Nat) (fn:Func) (c:Code):Prop where
 at_:E.P.funcs[g]? = some fn
 body:fn.body=some c
 name : (fn.name == "runtime.NumGoroutine") = false
section
variable {E : Setting} {U : Fun} {F : D → St → Prop} {k : List KI} {ρ : Env} {st : St} {all : Array Oper} {rest : List Oper}
variable {t : Nat} {ty : TypeId} {pos : String} {af : Array Edge}
theorem P.pickB {c x y:Operand} {b:Bool} {d:D} (hc:ev E ρ c=.v (.bool b)) (hd:(match b with | true=>ev E ρ x | false=>ev E ρ y)=d):POk E U ρ st ⟨some t,.pick c x y,ty,pos,af,none⟩ d:=by
 have:=P.pick (U:=U) (st:=st) (t:=t) (ty:=ty) (pos:=pos) (af:=af) (x:=x) (y:=y) hc;subst hd;cases b
 ·exact this
 ·exact this
end
end Go.Mx
namespace Go.Mx
set_option linter.unusedVariables false
set_option linter.unusedSimpArgs false
section
variable {E : Setting} {U : Fun} {F : D → St → Prop} {k : List KI} {ρ : Env} {st : St} {all : Array Oper} {rest : List Oper}
variable {t : Nat} {ty : TypeId} {pos : String} {af : Array Edge} {nn bb : Nat} {ss : Shp} {H : Key → Bool}
theorem ro_row {cx:Cx} {w:World} {sz n:Nat} {xs:List (List D)} {v:Value} (hn:xs.length=n) (hm:n≤maxLen) (hsz:∀cs∈xs,cs.length=sz) (h:Rd cx w (.ro xs.flatten) v) :
  ∃b o,v=.pointer (some ⟨b,o,none⟩)∧Rd cx w (.sl sz .full xs) (.slice (some ⟨b,o,none⟩) n n)∧∀(i:Nat) cs,xs[i]? = some cs→Rd cx w (.ro cs) (.pointer (some ⟨b,o+i*sz,none⟩)):=by
 cases h with
 | ro b o vs hc hr=>
  refine⟨b,o,rfl,?_,fun i cs hi=>?_⟩
  ·subst hn;refine .sl (b,o) (fun i j=>vs (i*sz+j)) (Nat.le_refl _) hm (fun i cs hi=>hsz cs (List.mem_of_getElem? hi)) (fun _=>rfl) (fun i j cs d hi hj=>?_) (fun i j cs d hi hj=>?_) rfl
   ·have:=hc _ d (flat_get hsz hi hj)
    rwa [← Nat.add_assoc] at this
   ·exact hr _ d (flat_get hsz hi hj)
  ·refine .ro b (o+i*sz) (fun j=>vs (i*sz+j)) (fun j d hj=>?_) (fun j d hj=>hr _ d (flat_get hsz hi hj));have:=hc _ d (flat_get hsz hi hj)
   rwa [← Nat.add_assoc] at this
theorem P.sliceArr {s e:TypeId} {n b m be sz:Nat} {se:Shp} {x:Operand} {xs:List (List D)} (h:tShape E.P s=some (n,b,.array m e)) (he:tShape E.P e=some (sz,be,se)) (hx:ev E ρ x=.ro xs.flatten) (hn:xs.length=m) (hm:m≤maxLen) (hsz:∀cs∈xs,cs.length=sz) :
  POk E U ρ st ⟨some t,.slice s x none none none,ty,pos,af,none⟩ (.sl sz .full xs):=fun cx a w hr=>by
 have hv:=hr.eval x;rw[hx] at hv;obtain⟨bl,o,he1,h2,_⟩:=ro_row hn hm hsz hv;obtain⟨inf,u,hi,hu,g1,g2,g3⟩:=tShape_parts h;cases u <;> simp only[shpOf,Shp.array.injEq,reduceCtorEq] at g3;obtain⟨rfl,rfl⟩:=g3;refine⟨_,fun w'=>?_,h2⟩;have hsz2:=run_sizeOf_shape he w';simp only[execOp,he1,Instr.sliceAt,Instr.sureAddr,Instr.sliceBounds,Sem.run_bind,run_underlying hu,Result.andThen_ok,Sem.run_pure,hsz2,Option.map_none,Nat.sub_zero,Nat.zero_mul];simp[Addr.add]
theorem P.indexArr {s e:TypeId} {n b m be sz:Nat} {se:Shp} {x ix:Operand} {xs:List (List D)} {kk:IntKind} {i:Nat} {cs:List D} (h:tShape E.P s=some (n,b,.array m e)) (he:tShape E.P e=some (sz,be,se)) (hx:ev E ρ x=.ro xs.flatten) (hn:xs.length=m) (hm:m≤maxLen) (hsz:∀cs∈xs,cs.length=sz)
  (hi:ev E ρ ix=.v (.int kk i)) (hcs:xs[i]? = some cs):POk E U ρ st ⟨some t,.indexAddr s x ix,ty,pos,af,none⟩ (.ro cs):=fun cx a w hr=>by
 have hv:=hr.eval x;rw[hx] at hv;obtain⟨bl,o,he1,_,h2⟩:=ro_row hn hm hsz hv;obtain⟨inf,u,hi',hu,g1,g2,g3⟩:=tShape_parts h;cases u <;> simp only[shpOf,Shp.array.injEq,reduceCtorEq] at g3;obtain⟨rfl,rfl⟩:=g3;have hlt:i<xs.length:=(List.getElem?_eq_some_iff.1 hcs).1;refine⟨_,fun w'=>?_,h2 i cs hcs⟩;have hsz2:=run_sizeOf_shape he w';have hlt':(i:Int)<(xs.length:Int):=by omega
 subst hn;simp only[execOp,he1,hr.lit hi,Instr.indexAt,asIntOf,Instr.sureAddr,Sem.run_bind,run_underlying hu,Result.andThen_ok,Sem.run_pure,hsz2];simp[addr_add,hlt,hsz2]
theorem P.indexArrI {s e:TypeId} {n b m be sz:Nat} {se:Shp} {x ix:Operand} {xs:List (List D)} {kk:IntKind} {i:Int} {cs:List D} (h:tShape E.P s=some (n,b,.array m e)) (he:tShape E.P e=some (sz,be,se)) (hx:ev E ρ x=.ro xs.flatten) (hn:xs.length=m) (hm:m≤maxLen) (hsz:∀cs∈xs,cs.length=sz)
  (hi:ev E ρ ix=.v (.int kk i)) (h0:0≤i) (hcs:xs[i.toNat]? = some cs):POk E U ρ st ⟨some t,.indexAddr s x ix,ty,pos,af,none⟩ (.ro cs):=
 P.indexArr h he hx hn hm hsz (i:=i.toNat) (by rw[hi,Int.toNat_of_nonneg h0]) hcs
theorem run_equal_bool {P:Program} {xt:TypeId} {n b:Nat} (h:tShape P xt=some (n,b,.bool)) (x y:Bool) (w:World):(Op.equal xt (.bool x) (.bool y)).run P w=.ok (x==y) w:=by
 obtain⟨inf,u,hi,hu,g1,g2,g3⟩:=tShape_parts h;cases u <;> simp only[shpOf,reduceCtorEq] at g3;unfold Op.equal;rw[show Op.maxDepth=9999+1 from rfl,Op.equalIn];rw[Sem.run_bind,run_underlying hu];rfl
theorem P.eqB {xt yt:TypeId} {x y:Operand} {a b:Bool} (hT:tShape E.P xt=some (nn,bb,.bool)) (hx:ev E ρ x=.v (.bool a)) (hy:ev E ρ y=.v (.bool b)):POk E U ρ st ⟨some t,.binOp .eql xt x y yt,ty,pos,af,none⟩ (.v (.bool (a==b))):=
 fun cx a' w hr=>⟨_,fun w'=>by
  simp only[execOp,hr.lit hx,hr.lit hy];simp[eqGuard,binOp,run_equal_bool hT],.v _⟩
theorem P.neB {xt yt:TypeId} {x y:Operand} {a b:Bool} (hT:tShape E.P xt=some (nn,bb,.bool)) (hx:ev E ρ x=.v (.bool a)) (hy:ev E ρ y=.v (.bool b)):POk E U ρ st ⟨some t,.binOp .neq xt x y yt,ty,pos,af,none⟩ (.v (.bool (!(a==b)))):=
 fun cx a' w hr=>⟨_,fun w'=>by
  simp only[execOp,hr.lit hx,hr.lit hy];simp[eqGuard,binOp,run_equal_bool hT],.v _⟩
end
end Go.Mx
namespace Go.Mx
set_option linter.unusedVariables false
set_option linter.unusedSimpArgs false
theorem allLL_flat {p:Key→Bool}:∀{ys:List (List D)},allLL p ys=true→allL p ys.flatten=true
 | [],_=>rfl
 | c::r,h=>by
  simp only[allLL,Bool.and_eq_true] at h;have ih:=allLL_flat h.2;rw[List.flatten_cons];have:∀(a b:List D),allL p a=true→allL p b=true→allL p (a++b)=true:=fun a b ha hb=>by
   induction a with
   | nil=>exact hb
   | cons x a ih=>simp only[allL,Bool.and_eq_true,List.cons_append] at ha ⊢; exact⟨ha.1,ih ha.2⟩
  exact this _ _ h.1 ih
theorem allL_app {p:Key→Bool} {a b:List D} (ha:allL p a=true) (hb:allL p b=true):allL p (a++b)=true:=by
 induction a with
 | nil=>exact hb
 | cons x a ih=>simp only[allL,Bool.and_eq_true,List.cons_append] at ha ⊢; exact⟨ha.1,ih ha.2⟩
theorem Rel.vsInv {E:Setting} {cx:Cx} {st:St} {w:World} (r:Rel E cx st w) {key:Key} {n:Nat} {e:TypeId} {z:Nat} {cs:List D} (hs:st.get key=some (.vec n e z cs)) {v:Value} (hv:Rd cx w (.vs key z n) v) :
  ∃a cap tl,v=.slice a n cap∧n≤cap∧cap≤maxLen∧cx.tk key=some (n,e,tl)∧(match tl with
   | none=>cap=n∧n=0
   | some (g,c,z')=>a=some ⟨g,0,none⟩∧c=cap∧z'=z):=by
 cases hv with
 | @vs _ _ _ a cap h1 h2 h3=>
  obtain⟨n',e',tl,k1,k2,k3⟩:=h3;obtain⟨tl',g1,g2⟩:=r.tok key _ n e ⟨hs,rfl⟩;rw[k1] at g1;cases g1;refine⟨a,cap,tl,rfl,h1,h2,k1,?_⟩;have:=k3 rfl;cases tl with
  | none=>exact⟨this,(r.vec key n e z cs hs).2.2.1 k1⟩
  | some l=>obtain⟨g,c,z'⟩:=l; exact this
theorem vec_append {E:Setting} {cx:Cx} {st:St} {w:World} (r:Rel E cx st w) {sz:Nat} (hsz:0<sz) {toky:Tok} {cs:List D} {ys:List (List D)} {nx:Nat} {v vy:Value} {key:Key}
  (hv:Rd cx w (.vs key sz nx) v) (hy:Rd cx w (.sl sz toky ys) vy) {t e ty:TypeId} {n b be:Nat} {se:Shp} (hT:tShape E.P t=some (n,b,.slice e)) (hE:tShape E.P e=some (sz,be,se)) {zs:List Value} (hz:tZero E.P e=some zs) (hzl:zs.length=sz)
  (hone:∀cs∈ys,allB D.one cs=true) (hb1:(nx+ys.length)*be≤140737488355328) (hb2:nx+ys.length≤9223372036854775807)
  (hlt:key.1<st.length) (hs:st.get key=some (.vec nx e sz cs)) (hlev:allLL (lv (key.1+1)) ys=true) :
  ∃v' w' cx',(Builtin.append_ #[t,t] ty #[v,vy]).run E.P w=.ok v' w'∧Rel E cx' (st.set key (some (.vec (nx+ys.length) e sz (cs++ys.flatten)))) w'∧Rd cx' w' (.vs key sz (nx+ys.length)) v'∧Ext (fun _=>true) cx w cx' w':=by
 obtain⟨a,cap,tl,rfl,p1,p2,htk,p3⟩:=r.vsInv hs hv;obtain⟨a2,cap2,rfl,q1,q2,q3,q4,fy,g1,g2,g3⟩:=flat_of hsz hy;obtain⟨i,u,hi,hu,h1,h2,h3⟩:=tShape_parts hT;obtain⟨ie,ue,hie,hue,k1,k2,k3⟩:=tShape_parts hE;have hu:E.P.underlying t=some (.slice e):=by
  cases u <;> simp only[shpOf,Shp.slice.injEq,reduceCtorEq] at h3;rw[hu,h3]
 clear h3;obtain⟨c1,c2,c3,c4⟩:=r.vec key nx e sz cs hs;have hnc:∀cs,st.get key≠some (.cells cs):=fun cs hc=>by rw[hs] at hc; cases hc
 by_cases hm:ys.length=0
 ·have hy0:ys=[]:=List.eq_nil_of_length_eq_zero hm;subst hy0;have hrun:=run_append_empty (ty:=ty) hT hE a nx cap p1 a2 cap2 w;refine⟨_,w,cx,hrun,?_,hv,Ext.refl _ _ _⟩;simp only[List.flatten_nil,List.append_nil,List.length_nil,Nat.add_zero];rw[St.set_same hs]; exact r
 ·have hyne:ys≠[]:=fun h=>hm (by rw[h]; rfl);obtain⟨A2,rfl,hc2⟩:=g3 hyne;have hnews:∀(j:Nat) y,fy[j]? = some y→w.cell? ((⟨A2.1,A2.2,none⟩:Addr).add j)=some y:=fun j y h=>by rw[addr_add]; exact(hc2 j y h).1
  have hone':=allOne_flat hsz g1 q4 g2 hone;obtain⟨z,hz1,hz2⟩:∃z,ie.zero=some z∧z.cells.size=sz:=by
   unfold tZero at hz;rw[hie] at hz;simp only[Option.bind_some,Option.map_eq_some_iff] at hz;obtain⟨z,hz1,rfl⟩:=hz;exact⟨z,hz1,by simpa using hzl⟩
  have hyl:ys.flatten.length=ys.length*sz:=flat_len (fun c hc=>by obtain⟨i,hi⟩:=List.getElem?_of_mem hc; exact q4 i c hi)
  -- the new elements, one behind the other
  have hyd:∀(j:Nat) d,ys.flatten[j]? = some d→∃y,fy[j]? = some y∧Rd cx w d y:=fun j d hj=>by
   have hjl:=(List.getElem?_eq_some_iff.1 hj).1;rw[hyl] at hjl;have hq:j / sz<ys.length:=(Nat.div_lt_iff_lt_mul hsz).2 hjl;have e1:ys[j / sz]? = some ys[j / sz]:=List.getElem?_eq_getElem hq;have e2:=q4 _ _ e1;have hmod:j % sz<sz:=Nat.mod_lt _ hsz;have e3:(ys[j / sz])[j % sz]? = some ((ys[j / sz])[j % sz]):=List.getElem?_eq_getElem (by omega);have e4:j / sz*sz+j % sz=j:=by rw[Nat.mul_comm]; exact Nat.div_add_mod j sz
   have e5:=flat_get (sz:=sz) (fun c hc=>by obtain⟨i,hi⟩:=List.getElem?_of_mem hc; exact q4 i c hi) e1 e3;rw[e4,hj] at e5;cases e5;obtain⟨y,hy1,hy2⟩:=g2 _ _ _ _ e1 e3;rw[e4] at hy1;exact⟨y,hy1,hy2⟩
  have hbody:allL (lv (key.1+1)) (cs++ys.flatten)=true:=allL_app c1 (allLL_flat hlev);have hbl:(cs++ys.flatten).length=(nx+ys.length)*sz:=by rw[List.length_append,c2,hyl,Nat.add_mul]
  by_cases hroom:∃g c,tl=some (g,c,sz)∧nx+ys.length≤c
  ·-- in place
   obtain⟨g,c,rfl,hfit⟩:=hroom;obtain⟨rfl,rfl,_⟩:=p3;have c4:=(c4 g c sz htk).2;obtain⟨tl',ht',hb'⟩:=r.tok _ _ _ _ ⟨hs,rfl⟩;rw[htk] at ht';cases ht';obtain⟨b1,b2,cur,hcur,hcs⟩:=hb';have hglt:=r.row_lt htk;have hfull:nx*sz+fy.length≤cur.size:=by rw[g1,hcs,← Nat.add_mul]; exact Nat.mul_le_mul_right _ hfit
   have hrun:=run_append_room (P:=E.P) w t ty e ie hu hie g nx c cur hcur ⟨A2.1,A2.2,none⟩ ys.length cap2 fy (by rw[g1,k1]) hnews hone' hfit (by rw[k1]; exact hfull);rw[k1] at hrun;generalize hnew:(cur.toList.take (nx*sz)++fy++cur.toList.drop (nx*sz+fy.length)).toArray=new at hrun;have hnsz:new.size=cur.size:=by rw[← hnew]; simp; omega
   have hcellg:∀o,(w.setRow g new).cell? ⟨g,o,none⟩=new[o]?:=fun o=>cell_setRow_same w g o cur new e (0,0) hcur;have hcello:∀o,w.cell? ⟨g,o,none⟩=cur[o]?:=fun o=>by simp[World.cell?,hcur]
   have hlow:∀o,o<nx*sz→new[o]? = cur[o]?:=fun o ho=>by
    rw[← hnew,List.getElem?_toArray,List.append_assoc,List.getElem?_append_left (by simp; omega),List.getElem?_take,if_pos ho,Array.getElem?_toList]
   have hmid:∀q,q<fy.length→new[nx*sz+q]? = fy[q]?:=fun q hq=>by
    rw[← hnew,List.getElem?_toArray,List.append_assoc,List.getElem?_append_right (by simp; omega),List.getElem?_append_left (by simp; omega)];congr 1; simp; omega
   have hfoot:∀o,o<c*sz→Mx.foot cx st key g o:=fun o h=>.inr ⟨_,_,_,c,sz,⟨hs,rfl⟩,htk,Nat.zero_le _,h⟩;have hblkne:∀k b o,k≠key→Mx.foot cx st k b o→b≠g:=fun k b o hk hf=>by
    rcases hf with ⟨cs,o0,y1,y2,_⟩ | ⟨_,n0,e0,c0,z0,y1,y2,_⟩
    ·exact r.apart _ _ _ _ _ _ _ _ _ y2 htk
    ·intro he; subst he; exact hk (r.rows _ _ _ _ _ _ _ _ _ _ _ y2 htk)
   have hother:∀b o,b≠g→(w.setRow g new).cell? ⟨b,o,none⟩=w.cell? ⟨b,o,none⟩:=fun b o h=>cell_setRow_other w g new ⟨b,o,none⟩ h;have hcpos:0<c*sz:=Nat.mul_pos (by omega) hsz;have hstep:=r.rowStep (key:=key) hlt hnc (n:=nx+ys.length) (e:=e) (tl:=some (g,c,sz)) (o':=.vec (nx+ys.length) e sz (cs++ys.flatten)) rfl (w':=w.setRow g new) (M':=cx.M)
    (fun n0 l0 h=>by rw[htk] at h; cases h; exact⟨by omega,fun h=>by omega⟩)
    rfl rfl rfl (by simp)
    (fun b hb hm=>setRow_other w g b new (fun he=>by
     subst he;exact hm 0 (r.foot key _ _ (hfoot 0 hcpos)).2.2))
    (fun b o hb hm=>by
     by_cases he:b=g
     ·subst he;rcases Nat.lt_or_ge o (c*sz) with h' | h'
      ·exact absurd (hm (r.foot key _ _ (hfoot o h')).2.2) (r.nz key _ o (hfoot o h'))
      ·rw[hcellg,hcello,Array.getElem?_eq_none (by omega),Array.getElem?_eq_none (by omega)]
     ·exact hother b o he)
    (fun b o h=>.inl h) (fun b o h=>by rw[setRow_size]; exact r.mlt b o h)
    (fun b o h=>r.zm b o h)
    (fun b o hb=>by
     by_cases he:b=g
     ·subst he;simp only[World.frozen?,setRow_heap w b cur new e (0,0) hcur,hcur]
     ·exact World.frozen?_of_block (a:=⟨b,o,none⟩) (setRow_other w g b new he))
    (fun g' c' z' ht _=>by cases ht; exact⟨_,_,_,_,_,htk⟩)
    (fun k b o hk hf=>by
     have hne:=hblkne k b o hk hf;refine⟨hother b o hne,?_,(r.foot k b o hf).2.2⟩;exact World.frozen?_of_block (a:=⟨b,o,none⟩) (setRow_other w g b new hne))
    (fun k n' e' g' c' z' hk h=>setRow_other w g g' new (fun he=>by subst he; exact hk (r.rows _ _ _ _ _ _ _ _ _ _ _ h htk)))
    (fun g' c' z' ht=>by
     cases ht;exact⟨hfit,b2,⟨new,setRow_heap w g cur new e (0,0) hcur,by rw[hnsz,hcs]⟩,fun o _ h2=>⟨(r.foot key _ _ (hfoot o h2)).2.2,r.nz key _ o (hfoot o h2)⟩,
      fun k n' e' c' z' hk h=>hk (r.rows _ _ _ _ _ _ _ _ _ _ _ h htk),fun k b o h=>r.apart _ _ _ _ _ _ _ _ _ h htk⟩)
    (fun z' cs' h=>by
     cases h;refine⟨hbody,hbl,fun h=>(by cases h),fun g' c' z' h=>?_⟩;cases h;refine⟨rfl,fun j d hj=>?_⟩;rcases append_get hj with ⟨l1,l2⟩ | ⟨l1,l2⟩
     ·obtain⟨x,hx,hr⟩:=c4 j d l2;refine⟨x,?_,hr⟩;rw[hcellg,hlow j (by rw[← c2]; exact l1),← hcello]; exact hx
     ·obtain⟨y,hy1,hy2⟩:=hyd _ d l2;refine⟨y,?_,hy2⟩;have:=hmid (j-cs.length) (List.getElem?_eq_some_iff.1 hy1).1;rw[show nx*sz+(j-cs.length)=j by rw[← c2]; omega] at this;rw[hcellg,this]; exact hy1)
   obtain⟨hrel,hext⟩:=hstep;exact⟨_,_,_,hrun,hrel,.vs hfit p2 ⟨_,e,some (g,c,sz),if_pos rfl,Nat.le_refl _,fun _=>⟨rfl,rfl,rfl⟩⟩,hext⟩
  ·-- a new row
   have hnr:cap<nx+ys.length∧(a=none→nx=0∧cap=0):=by
    cases tl with
    | none=>obtain⟨rfl,rfl⟩:=p3; exact⟨by omega,fun _=>⟨rfl,rfl⟩⟩
    | some l=>
     obtain⟨g,c,z'⟩:=l;obtain⟨rfl,rfl,rfl⟩:=p3;refine⟨?_,fun h=>by cases h⟩;rcases Nat.lt_or_ge c (nx+ys.length) with h | h
     ·exact h
     ·exact absurd ⟨g,c,rfl,h⟩ hroom
   -- the old elements
   obtain⟨fx,f1,f2,f3⟩:∃fx:List Value,fx.length=nx*sz∧(∀(j:Nat) d,cs[j]? = some d→∃y,fx[j]? = some y∧Rd cx w d y)∧(∀ad,a=some ad→∀(j:Nat) y,fx[j]? = some y→w.cell? (ad.add j)=some y):=by
    cases tl with
    | none=>
     obtain⟨rfl,rfl⟩:=p3;refine⟨[],by simp,fun j d hj=>?_,fun ad _ j y hj=>by simp at hj⟩;rw[Nat.zero_mul] at c2;rw[List.eq_nil_of_length_eq_zero c2] at hj; simp at hj
    | some l=>
     obtain⟨g,c,z'⟩:=l;obtain⟨rfl,rfl,rfl⟩:=p3;have c4:=(c4 g c z' htk).2;refine⟨(List.range (nx*z')).map fun q=>(w.cell? ⟨g,q,none⟩).getD undef,by simp,fun j d hj=>?_,fun ad had j y hj=>?_⟩
     ·obtain⟨x,hx,hr⟩:=c4 j d hj;refine⟨x,?_,hr⟩;have hjl:=(List.getElem?_eq_some_iff.1 hj).1;rw[c2] at hjl;rw[List.getElem?_map,List.getElem?_range hjl];simp only[Option.map_some,hx,Option.getD_some]
     ·cases had;have hjl:=(List.getElem?_eq_some_iff.1 hj).1;simp only[List.length_map,List.length_range] at hjl;rw[List.getElem?_map,List.getElem?_range hjl] at hj;simp only[Option.map_some,Option.some.injEq] at hj;have hd:cs[j]? = some (cs[j]'(by omega)):=List.getElem?_eq_getElem (by omega);obtain⟨x,hx,_⟩:=c4 j _ hd;rw[hx] at hj;simp only[Option.getD_some] at hj;subst hj;have:(⟨g,0,none⟩:Addr).add j=⟨g,j,none⟩:=by rw[addr_add,Nat.zero_add]
      rw[this]; exact hx
   generalize hcap':grownCap w (nx+ys.length) cap e=cap';have hge:nx+ys.length≤cap':=by rw[← hcap']; exact grownCap_ge w _ _ e
   have hml:cap'≤maxLen:=by rw[← hcap']; exact grownCap_le_maxLen w _ _ e (by unfold maxLen; omega)
   generalize hnew:(fx.toArray++fy.toArray++Builtin.zeroCells z.cells (cap'-(nx+ys.length)))=new;have hnsz:new.size=cap'*sz:=by
    rw[← hnew];simp only[Array.size_append,List.size_toArray,size_zeroCells,hz2,f1,g1,← Nat.add_mul];congr 1; omega
   have hrun:(Builtin.append_ #[t,t] ty #[.slice a nx cap,.slice (some ⟨A2.1,A2.2,none⟩) ys.length cap2]).run E.P w=.ok (.slice (some ⟨w.heap.size,0,none⟩) (nx+ys.length) cap') (w.drew.alloc (.cells new e (0,0))):=by
    cases a with
    | none=>
     obtain⟨hx0,hc0⟩:=hnr.2 rfl;have hfx:fx=[]:=List.eq_nil_of_length_eq_zero (by rw[f1,hx0]; simp);have:=run_append_nil (P:=E.P) w t ty e ie z hu hie hz1 ⟨A2.1,A2.2,none⟩ ys.length cap2 fy (by rw[g1,k1]) hnews (by omega) (by omega) (by rw[hx0] at hb1; simp at hb1; rw[k2]; omega);subst hfx;subst hc0;subst hx0;simp only[Nat.zero_add] at hcap' hnew ⊢;rw[this,hcap',← hnew];simp
    | some ad=>
     have:=run_append_grow (P:=E.P) w t ty e ie z hu hie hz1 ad nx cap fx (by rw[f1,k1]) (f3 ad rfl) ⟨A2.1,A2.2,none⟩ ys.length cap2 fy (by rw[g1,k1]) hnews hnr.1 (by omega) (growslice_fits hnr.1 (by rw[k2]; exact hb1));rw[this,hcap',hnew]
   have hcelln:∀o,(w.drew.alloc (.cells new e (0,0))).cell? ⟨w.heap.size,o,none⟩=new[o]?:=fun o=>by
    have:(w.drew.alloc (.cells new e (0,0))).heap[w.heap.size]? = some (.cells new e (0,0)):=heap_alloc_new w.drew _;unfold World.cell?;rw[this]; rfl
   have hcello:∀b o,b<w.heap.size→(w.drew.alloc (.cells new e (0,0))).cell? ⟨b,o,none⟩=w.cell? ⟨b,o,none⟩:=fun b o h=>cell_old (w:=w.drew) h;have hheap:∀b,b<w.heap.size→(w.drew.alloc (.cells new e (0,0))).heap[b]? = w.heap[b]?:=fun b h=>heap_old (w:=w.drew) h;have hstep:=r.rowStep (key:=key) hlt hnc (n:=nx+ys.length) (e:=e) (tl:=some (w.heap.size,cap',sz)) (o':=.vec (nx+ys.length) e sz (cs++ys.flatten)) rfl (w':=w.drew.alloc (.cells new e (0,0)))
    (M':=fun b o=>cx.M b o∨(b=w.heap.size∧o<cap'*sz))
    (fun n0 l0 h=>by rw[htk] at h; cases h; exact⟨by omega,fun h=>by omega⟩)
    rfl rfl rfl (by show w.heap.size≤(w.heap.push _).size; simp)
    (fun b hb _=>hheap b hb) (fun b o hb _=>hcello b o hb)
    (fun b o h=>by
     rcases h with h | h
     ·exact .inl h
     ·exact .inr (by omega))
    (fun b o h=>by
     show b<(w.heap.push _).size;simp only[Array.size_push];rcases h with h | h
     ·have:=r.mlt b o h; omega
     ·omega)
    (fun b o h=>.inl (r.zm b o h)) (fun b o hb=>World.frozen?_of_block (a:=⟨b,o,none⟩) (hheap b hb)) (fun g' c' z' ht hlt=>by cases ht; omega)
    (fun k b o hk hf=>by
     have hb:=not_foot_new r hf;exact⟨hcello b o hb,World.frozen?_of_block (a:=⟨b,o,none⟩) (hheap b hb),.inl (r.foot k b o hf).2.2⟩)
    (fun k n' e' g' c' z' hk h=>hheap _ (r.row_lt h))
    (fun g' c' z' ht=>by
     cases ht;refine⟨hge,hml,⟨new,heap_alloc_new w.drew _,hnsz⟩,fun o h1 h2=>⟨.inr ⟨rfl,h2⟩,fun h=>by have:=r.mlt _ _ (r.zm _ _ h); omega⟩,fun k n' e' c' z' hk h=>?_,fun k b o h he=>?_⟩
     ·have:=r.row_lt h; omega
     ·have:=r.bxlt k b o h; omega)
    (fun z' cs' h=>by
     cases h;refine⟨hbody,hbl,fun h=>(by cases h),fun g' c' z' h=>?_⟩;cases h;refine⟨rfl,fun j d hj=>?_⟩;have hpick:∀(q:Nat) y,(fx++fy)[q]? = some y→new[q]? = some y:=fun q y hq=>by
      have hqlt:q<(fx++fy).length:=(List.getElem?_eq_some_iff.1 hq).1;rw[← hnew,Array.getElem?_append_left (by simpa using hqlt),List.append_toArray,List.getElem?_toArray]; exact hq
     rcases append_get hj with ⟨l1,l2⟩ | ⟨l1,l2⟩
     ·obtain⟨y,hy1,hy2⟩:=f2 j d l2;refine⟨y,?_,hy2⟩;rw[hcelln];exact hpick j y (by rw[List.getElem?_append_left (List.getElem?_eq_some_iff.1 hy1).1]; exact hy1)
     ·obtain⟨y,hy1,hy2⟩:=hyd _ d l2;refine⟨y,?_,hy2⟩;rw[hcelln];exact hpick j y (by rw[List.getElem?_append_right (by rw[f1,← c2]; exact l1),f1,← c2]; exact hy1))
   obtain⟨hrel,hext⟩:=hstep;exact⟨_,_,_,hrun,hrel,.vs hge hml ⟨_,e,some (w.heap.size,cap',sz),if_pos rfl,Nat.le_refl _,fun _=>⟨rfl,rfl,rfl⟩⟩,hext⟩
end Go.Mx
namespace Go.Mx
set_option linter.unusedVariables false
set_option linter.unusedSimpArgs false
theorem row_setCells (b:Nat) (e:TypeId):∀(vs:List Value) (o:Nat) (w:World) (cur:Array Value),w.heap[b]? = some (.cells cur e (0,0))→∃cur',(w.setCells b o vs).heap[b]? = some (.cells cur' e (0,0))∧cur'.size=cur.size
 | [],_,_,cur,h=>⟨cur,h,rfl⟩
 | v::r,o,w,cur,h=>by
  obtain⟨c,h1,h2⟩:=row_setCells b e r (o+1) (w.setCell ⟨b,o,none⟩ v) _ (heap_setCell_same w b o cur e v h);exact⟨c,h1,by rw[h2]; simp⟩
theorem Rel.ghostV {E:Setting} {cx:Cx} {st:St} {w:World} (r:Rel E cx st w) {key:Key} (hlt:key.1<st.length) (hg:st.get key=none) (e:TypeId) (z:Nat) :
  ∃cx',Rel E cx' (st.set key (some (.vec 0 e z []))) w∧Ext (fun _=>true) cx w cx' w∧cx'.tk key=some (0,e,none):=by
 have h0:cx.tk key=none:=r.tk_none hg;obtain⟨h1,h2⟩:=r.rowStep hlt (fun cs h=>by rw[hg] at h; cases h) (n:=0) (e:=e) (tl:=none) (o':=.vec 0 e z []) rfl (w':=w) (M':=cx.M) (fun n0 l0 h=>by rw[h0] at h; cases h) rfl rfl rfl (Nat.le_refl _) (fun _ _ _=>rfl) (fun _ _ _ _=>rfl) (fun _ _ h=>.inl h) (fun b o h=>r.mlt b o h) (fun b o h=>r.zm b o h) (fun _ _ _=>rfl)
  (fun _ _ _ h=>by cases h) (fun k b o _ hf=>⟨rfl,rfl,(r.foot k b o hf).2.2⟩) (fun _ _ _ _ _ _ _ _=>rfl) (fun _ _ _ h=>by cases h) (fun z' cs h=>by cases h; exact⟨rfl,by simp,fun _=>rfl,fun _ _ _ h=>by cases h⟩)
 exact⟨_,h1,h2,if_pos rfl⟩
theorem Rd.ownV {cx':Cx} {w:World} {sz:Nat} {v:Value} {key:Key} {e:TypeId} (h:Rd cx' w (.sl sz .full []) v) (hk:cx'.tk key=some (0,e,none)):Rd cx' w (.vs key sz 0) v:=by
 generalize hx:([]:List (List D))=xs at h;cases h with
 | sl A vs h1 h2 h3 h4 h5 h6 h7=>subst hx; exact .vs h1 h2 ⟨_,e,none,hk,Nat.le_refl _,fun _=>h7⟩
theorem Rel.storeV {E:Setting} {cx:Cx} {st:St} {w:World} (r:Rel E cx st w) {key:Key} {n:Nat} {e:TypeId} {z:Nat} {cs:List D} (hs:st.get key=some (.vec n e z cs)) (hlt:key.1<st.length) {off:Nat} {ds:List D} {vs:List Value} {g c z':Nat}
  (htk:cx.tk key=some (n,e,some (g,c,z'))) (hl:ds.length=vs.length) (hrd:∀(j:Nat) d x,ds[j]? = some d→vs[j]? = some x→Rd cx w d x) (hlev:allL (lv (key.1+1)) ds=true) (hfit:off+ds.length≤cs.length) :
  ∃cx',Rel E cx' (st.set key (some (.vec n e z (splice cs off ds)))) (w.setCells g off vs)∧Ext (fun _=>true) cx w cx' (w.setCells g off vs):=by
 obtain⟨c1,c2,c3,c4⟩:=r.vec key n e z cs hs;obtain⟨rfl,c5⟩:=c4 g c z' htk;obtain⟨tl',ht',hb'⟩:=r.tok _ _ _ _ ⟨hs,rfl⟩;rw[htk] at ht';cases ht';obtain⟨b1,b2,cur,hcur,hcs⟩:=hb';have hnc:cs.length≤c*z':=by rw[c2]; exact Nat.mul_le_mul_right _ b1
 obtain⟨e1,e2,e3,e4⟩:=size_setCells g vs off w;obtain⟨cur',hcur',hsz'⟩:=row_setCells g e vs off w cur hcur;have hfoot:∀o,o<c*z'→Mx.foot cx st key g o:=fun o h=>.inr ⟨_,_,_,c,z',⟨hs,rfl⟩,htk,Nat.zero_le _,h⟩;have hout:∀b' o',(b'=g→o'<off∨off+vs.length≤o')→(w.setCells g off vs).cell? ⟨b',o',none⟩=w.cell? ⟨b',o',none⟩:=fun b' o' h=>World.cell?_setCells_out g vs off w ⟨b',o',none⟩ (fun h1 _=>h h1);have hblkne:∀k b o,k≠key→Mx.foot cx st k b o→b≠g:=fun k b o hk hf=>by
  rcases hf with ⟨cs,o0,y1,y2,_⟩ | ⟨_,n0,e0,c0,z0,y1,y2,_⟩
  ·exact r.apart _ _ _ _ _ _ _ _ _ y2 htk
  ·intro he; subst he; exact hk (r.rows _ _ _ _ _ _ _ _ _ _ _ y2 htk)
 have hin:∀j,j<vs.length→∀x,vs[j]? = some x→(w.setCells g off vs).cell? ⟨g,off+j,none⟩=some x:=fun j hj x hx=>by
  rw[World.cell?_setCells_in g vs off w (fun i hi=>by
   obtain⟨⟨y,hy⟩,_⟩:=r.foot _ _ _ (hfoot (off+i) (by omega));rw[hy]; rfl) j hj]
  rw[← hx,List.getElem?_eq_getElem hj]
 obtain⟨h1,h2⟩:=r.rowStep (key:=key) hlt (fun cs h=>by rw[hs] at h; cases h) (n:=n) (e:=e) (tl:=some (g,c,z')) (o':=.vec n e z' (splice cs off ds)) rfl (w':=w.setCells g off vs) (M':=cx.M)
  (fun n0 l0 h=>by rw[htk] at h; cases h; exact⟨Nat.le_refl _,fun _=>rfl⟩)
  e2 e3 e4 (by omega)
  (fun b hb hm=>by
   by_cases hv:vs=[]
   ·subst hv; rfl
   ·refine heap_setCells g vs _ w b (fun he=>?_);have:0<ds.length:=by rw[hl]; exact List.length_pos_iff.2 hv
    exact hm off (by rw[he]; exact(r.foot _ _ _ (hfoot off (by omega))).2.2))
  (fun b o hb hm=>hout b o (fun he=>by
   rcases Nat.lt_or_ge o off with h | h
   ·exact .inl h
   ·rcases Nat.lt_or_ge o (off+vs.length) with h' | h'
    ·have hf:=hfoot o (by omega);exact absurd (he▸hm (he▸(r.foot _ _ _ hf).2.2)) (r.nz _ _ _ hf)
    ·exact .inr h'))
  (fun b o h=>.inl h) (fun b o h=>by rw[e1]; exact r.mlt b o h) (fun b o h=>r.zm b o h)
  (fun b o hb=>by rw[World.frozen?_setCells])
  (fun g' c' z0 ht _=>by cases ht; exact⟨_,_,_,_,_,htk⟩)
  (fun k b o hk hf=>⟨hout b o (fun he=>absurd he (hblkne k b o hk hf)),by rw[World.frozen?_setCells],(r.foot k b o hf).2.2⟩)
  (fun k n' e' g' c' z0 hk h=>heap_setCells g vs off w g' (fun he=>by subst he; exact hk (r.rows _ _ _ _ _ _ _ _ _ _ _ h htk)))
  (fun g' c' z0 ht=>by
   cases ht;exact⟨b1,b2,⟨cur',hcur',by rw[hsz',hcs]⟩,fun o _ h2=>⟨(r.foot key _ _ (hfoot o h2)).2.2,r.nz key _ o (hfoot o h2)⟩,
    fun k n' e' c' z0 hk h=>hk (r.rows _ _ _ _ _ _ _ _ _ _ _ h htk),fun k b o h=>r.apart _ _ _ _ _ _ _ _ _ h htk⟩)
  (fun z0 cs' h=>by
   cases h;refine⟨?_,by rw[splice_length hfit,c2],fun h=>(by cases h),fun g' c' z0 h=>?_⟩
   ·have hall:∀(l:List D),(∀(j:Nat) d,l[j]? = some d→d.all (lv (key.1+1))=true)→allL (lv (key.1+1)) l=true:=fun l=>by
     induction l with
     | nil=>intro _; rfl
     | cons d r ih=>intro h; simp only[allL,Bool.and_eq_true]; exact⟨h 0 d rfl,ih fun j e hj=>h (j+1) e (by simpa using hj)⟩
    refine hall _ fun j d hj=>?_;rw[splice_get hfit] at hj;split at hj
    ·exact allL_get hlev hj
    ·exact allL_get c1 hj
   ·cases h;refine⟨rfl,fun j d hj=>?_⟩;rw[splice_get hfit] at hj;split at hj
    ·rename_i hr;obtain⟨x,hx⟩:=len_get hl.symm hj;refine⟨x,?_,hrd _ d x hj hx⟩;have:=hin (j-off) (by omega) x hx
     rwa [show off+(j-off)=j by omega] at this
    ·rename_i hr;obtain⟨x,hx,hr'⟩:=c5 j d hj;exact⟨x,by rw[hout _ _ (fun _=>by omega)]; exact hx,hr'⟩)
 exact⟨_,h1,h2⟩
section
variable {E : Setting} {U : Fun} {F : D → St → Prop} {k : List KI} {ρ : Env} {st : St} {all : Array Oper} {rest : List Oper}
variable {t : Nat} {ty : TypeId} {pos : String} {af : Array Edge} {nn bb : Nat} {ss : Shp}
theorem RelF.veInv {N:Nat} {cx:Cx} {a:Act} {w:World} (hr:RelF E N cx ρ st a w) {x:Operand} {key:Key} {n z i off:Nat} {e:TypeId} {cs:List D} (h:ev E ρ x=.ve key z n i off) (hs:st.get key=some (.vec n e z cs)) :
  ∃g c,cx.tk key=some (n,e,some (g,c,z))∧a.eval x=.pointer (some ⟨g,i*z+off,none⟩):=by
 have hv:=hr.eval x; rw[h] at hv;generalize a.eval x=v at hv;cases hv with
 | ve ht=>
  obtain⟨n',e',tl,k1,k2,k3⟩:=ht;obtain⟨tl',g1,g2⟩:=hr.rel.tok key _ n e ⟨hs,rfl⟩;rw[k1] at g1;cases g1;obtain⟨c,rfl,rfl⟩:=k3 rfl;exact⟨_,c,k1,rfl⟩
theorem P.lenV {s e:TypeId} {n b:Nat} {x:Operand} {key:Key} {sz len:Nat} (h:tShape E.P s=some (n,b,.slice e)) (hx:ev E ρ x=.vs key sz len):POk E U ρ st ⟨some t,.call ⟨.builtin .len,#[x],#[s]⟩,ty,pos,af,none⟩ (.v (.int .i64 len)):=
 P.lit (fun a w0 w cx hr=>by
  have hv:=hr.eval x; rw[hx] at hv;generalize hg:a.eval x=v at hv;cases hv with
  | @vs _ _ _ ad cap h1 h2 h3=>
   have:=run_len_slice h ty ad len cap w;simp only[execOp,resolve,Sem.run_bind,Sem.run_pure,Result.andThen_ok,invoke,builtin,List.map_toArray,List.map_cons,List.map_nil,hg,this])
theorem L.indexV {s e:TypeId} {n b be sz:Nat} {se:Shp} {x ix:Operand} {key:Key} {len:Nat} {kk:IntKind} {i:Int} {H:Key→Bool} {cs:List D} {e':TypeId}
  (h:tShape E.P s=some (n,b,.slice e)) (he:tShape E.P e=some (sz,be,se)) (hs:st.get key=some (.vec len e' sz cs))
  (hx:ev E ρ x=.vs key sz len) (hi:ev E ρ ix=.v (.int kk i)) (h0:0≤i) (hlt:i.toNat<len):LOk E U ρ st H ⟨some t,.indexAddr s x ix,ty,pos,af,none⟩ (.ve key sz len i.toNat 0):=
 (fun cx a w hr=>by
  have hv:=hr.eval x; rw[hx] at hv;obtain⟨ad,cap,tl,hval,p1,p2,htk,p3⟩:=hr.rel.vsInv hs hv;cases tl with
  | none=>obtain⟨rfl,rfl⟩:=p3; omega
  | some l=>
   obtain⟨g,c,z'⟩:=l;obtain⟨rfl,rfl,rfl⟩:=p3;refine⟨.pointer (some ⟨g,i.toNat*z'+0,none⟩),.ve ⟨len,e',_,htk,Nat.le_refl _,fun _=>⟨c,rfl,rfl⟩⟩,fun w' _=>?_⟩;simp only[execOp,hval,hr.lit hi,Sem.run_bind,run_indexAt h he w' g 0 len c kk i h0 (by omega),Result.andThen_ok,Sem.run_pure,Nat.zero_add,Nat.add_zero])
theorem P.fieldAddrV {s:TypeId} {x:Operand} {f fo fz:Nat} {key:Key} {z n i off:Nat} {fs:List (Nat×Nat)} (hT:tShape E.P s=some (nn,bb,.struct fs)) (hf:fs[f]? = some (fo,fz)) (hz:fz≠0)
  (hx:ev E ρ x=.ve key z n i off):POk E U ρ st ⟨some t,.fieldAddr s x f,ty,pos,af,none⟩ (.ve key z n i (off+fo)):=
 (fun cx a w hr=>by
  have hv:=hr.eval x; rw[hx] at hv;generalize hg:a.eval x=v at hv;cases hv with
  | @ve _ _ _ _ _ bl o ht=>
   refine⟨.pointer (some ⟨bl,o+fo,none⟩),fun w'=>?_,.ve ?_⟩
   ·simp only[execOp,hg,Sem.run_bind,run_fieldAt hT hf hz,Result.andThen_ok,Sem.run_pure]
   ·obtain⟨n',e,tl,k1,k2,k3⟩:=ht;refine⟨n',e,tl,k1,k2,fun h=>?_⟩;obtain⟨c,h1,rfl⟩:=k3 h;exact⟨c,h1,by simp only[Nat.add_assoc]⟩)
theorem L.loadV {ty':TypeId} {x:Operand} {key:Key} {n z i off:Nat} {e:TypeId} {cs:List D} {d:D} {H:Key→Bool} (hT:tShape E.P ty'=some (nn,bb,ss)) (ha:ss.agg=false)
  (hx:ev E ρ x=.ve key z n i off) (hH:H key=true) (hs:st.get key=some (.vec n e z cs)) (hd:cs[i*z+off]? = some d):LOk E U ρ st H ⟨some t,.load ty' x,ty,pos,af,none⟩ d:=
 (fun cx a w hr=>by
  obtain⟨g,c,htk,he⟩:=hr.veInv hx hs;obtain⟨_,c2,_,c4⟩:=hr.rel.vec key n e z cs hs;obtain⟨y,hy,hrd⟩:=(c4 g c z htk).2 _ d hd;refine⟨y,hrd,fun w' hw=>?_⟩;have hb:=hr.rel.tok key _ n e ⟨hs,rfl⟩;obtain⟨tl',ht',hb'⟩:=hb;rw[htk] at ht'; cases ht';have hlt:i*z+off<c*z:=Nat.lt_of_lt_of_le (by rw[← c2]; exact(List.getElem?_eq_some_iff.1 hd).1) (Nat.mul_le_mul_right _ hb'.1);have hy':w'.cell? ⟨g,i*z+off,none⟩=some y:=(hw _ _ (cell_lt hy) (.inr ⟨key,hH,.inr ⟨_,n,e,c,z,⟨hs,rfl⟩,htk,Nat.zero_le _,hlt⟩⟩)).trans hy;simp only[execOp,he,Instr.loadAt,Instr.sureAddr,Sem.run_bind,Sem.run_pure,Result.andThen_ok,run_loadVar_cell hT ha hy'])
theorem L.loadVS {ty':TypeId} {x:Operand} {key:Key} {n z i off:Nat} {e:TypeId} {cs ds:List D} {H:Key→Bool} (hT:tShape E.P ty'=some (nn,bb,ss)) (ha:ss.agg=true)
  (hx:ev E ρ x=.ve key z n i off) (hH:H key=true) (hs:st.get key=some (.vec n e z cs)) (hd:(cs.drop (i*z+off)).take nn=ds) (hl:ds.length=nn):LOk E U ρ st H ⟨some t,.load ty' x,ty,pos,af,none⟩ (.agg ds):=
 (fun cx a w hr=>by
  obtain⟨g,c,htk,he⟩:=hr.veInv hx hs;obtain⟨_,c2,_,c4⟩:=hr.rel.vec key n e z cs hs;have c4:=(c4 g c z htk).2;obtain⟨tl',ht',hb'⟩:=hr.rel.tok key _ n e ⟨hs,rfl⟩;rw[htk] at ht'; cases ht';have hcz:cs.length≤c*z:=by rw[c2]; exact Nat.mul_le_mul_right _ hb'.1
  have hds:∀(j:Nat) d,ds[j]? = some d→cs[i*z+off+j]? = some d:=fun j d hj=>by
   subst hd;rw[List.getElem?_take] at hj;split at hj
   ·rwa [List.getElem?_drop] at hj
   ·cases hj
  obtain⟨vs,h1,h2⟩:=pick_list (p:=fun j y=>w.cell? ⟨g,i*z+off+j,none⟩=some y) (q:=Rd cx w) (ds:=ds) (fun j d hj=>by
   obtain⟨y,hy,hrd⟩:=c4 _ d (hds j d hj);exact⟨y,hy,hrd⟩)
  refine⟨.agg vs.toArray,.agg h1.symm (fun j d y hj hy=>(h2 j d y hj hy).2),fun w' hw=>?_⟩;simp only[execOp,he,Instr.loadAt,Instr.sureAddr,Sem.run_bind,Sem.run_pure,Result.andThen_ok];rw[run_loadVar_agg hT ha (vs:=vs) (by omega) (fun j v hv=>by
   obtain⟨d,hd'⟩:=len_get h1.symm hv;have:=(List.getElem?_eq_some_iff.1 (hds j d hd')).1;rw[addr_add];exact(hw _ _ (cell_lt (h2 j d v hd' hv).1) (.inr ⟨key,hH,.inr ⟨_,n,e,c,z,⟨hs,rfl⟩,htk,Nat.zero_le _,by omega⟩⟩)).trans (h2 j d v hd' hv).1)]; rfl)
theorem S.storeV {st':St} {e e':TypeId} {p x:Operand} {d:D} {key:Key} {n z i off:Nat} {cs ds:List D} (hT:tShape E.P e=some (nn,bb,ss)) (hp:ev E ρ p=.ve key z n i off) (hx:ev E ρ x=d) (hs:d.simple=true)
  (hdl:ds.length=(cellsD d).length) (hds:∀(j:Nat) a b,(cellsD d)[j]? = some a→ds[j]? = some b→Wk a b)
  (hn:ds.length=nn) (h1:allB D.one ds=true) (hg:st.get key=some (.vec n e' z cs)) (hlt:key.1<st.length) (hlev:allL (lv (key.1+1)) ds=true) (hfit:Nat.ble (i*z+off+nn) cs.length=true)
  (hst:st.set key (some (.vec n e' z (splice cs (i*z+off) ds)))=st') :
  SOk E U ρ st ⟨none,.store e p x,ty,pos,af,none⟩ ρ st':=
 ⟨rfl,by rw[← hst,St.length_set],fun cx a w hr=>by
  obtain⟨g,c,htk,he⟩:=hr.veInv hp hg;have hv:=hr.eval x;rw[hx] at hv;obtain⟨g1,g2'⟩:=cellsD_rd' hv hs;rw[← hdl] at g1;have g2:∀(j:Nat) e y,ds[j]? = some e→(a.eval x).cells.toList[j]? = some y→Rd cx w e y:=fun j e y he hy=>by
   obtain⟨c,hc⟩:=len_get hdl.symm he;exact hds j c e hc he _ _ _ (g2' j c y hc hy)
  have hfit:=Nat.le_of_ble_eq_true hfit;obtain⟨_,c2,_,_⟩:=hr.rel.vec key n e' z cs hg;obtain⟨tl',ht',hb'⟩:=hr.rel.tok key _ n e' ⟨hg,rfl⟩;rw[htk] at ht'; cases ht';have hcz:cs.length≤c*z:=by rw[c2]; exact Nat.mul_le_mul_right _ hb'.1
  obtain⟨cx',r',hext⟩:=hr.rel.storeV hg hlt (off:=i*z+off) htk g1 g2 hlev (by omega);rw[hst] at r';have hfc:∀j,j<nn→Mx.foot cx st key g (i*z+off+j):=fun j hj=>.inr ⟨_,n,e',c,z,⟨hg,rfl⟩,htk,Nat.zero_le _,by omega⟩;refine⟨_,_,cx',undef,?_,.inr ⟨rfl,rfl⟩,?_,hext⟩
  ·simp only[execOp,he,Instr.storeAt,Instr.sureAddr,Sem.run_bind,Sem.run_pure,Result.andThen_ok];rw[run_storeVar hT (by omega) (fun j hj=>by obtain⟨⟨y,hy⟩,_⟩:=hr.rel.foot _ _ _ (hfc j hj); rw[hy]; rfl) (fun j hj=>(hr.rel.foot _ _ _ (hfc j hj)).2.1) (oneL g1 h1 g2)];rfl
  ·have:=hr.ext hext r';exact⟨this.rel,this.size,this.tmps,this.defers⟩⟩
theorem S.appendV {s e:TypeId} {n b be:Nat} {se:Shp} {x y:Operand} {sz nx:Nat} {toky:Tok} {cs:List D} {ys:List (List D)} {zs:List Value} {key:Key} {st':St} (ht:Nat.blt t U.N=true)
  (hT:tShape E.P s=some (n,b,.slice e)) (hE:tShape E.P e=some (sz,be,se)) (hz:tZero E.P e=some zs) (hzl:zs.length=sz) (hsz:0<sz)
  (hx:ev E ρ x=.vs key sz nx) (hy:ev E ρ y=.sl sz toky ys) (hone:∀cs∈ys,allB D.one cs=true) (hbound:(nx+ys.length)*be≤140737488355328) (hbe:0<be)
  (hlt:key.1<st.length) (hg:st.get key=some (.vec nx e sz cs)) (hlev:allLL (lv (key.1+1)) ys=true) (hst:st.set key (some (.vec (nx+ys.length) e sz (cs++ys.flatten)))=st') :
  SOk E U ρ st ⟨some t,.call ⟨.builtin .append,#[x,y],#[s,s]⟩,ty,pos,af,none⟩ (upd ρ t (.vs key sz (nx+ys.length))) st':=
 ⟨rfl,by rw[← hst,St.length_set],fun cx a w hr=>by
  have hv:=hr.eval x; rw[hx] at hv;have hw:=hr.eval y; rw[hy] at hw;have hb2:nx+ys.length≤9223372036854775807:=by
   have:(nx+ys.length)*1≤(nx+ys.length)*be:=Nat.mul_le_mul_left _ hbe;omega
  obtain⟨v',w',cx',h1,h2,h3,h4⟩:=vec_append hr.rel hsz hv hw (ty:=ty) hT hE hz hzl hone hbound hb2 hlt hg hlev;rw[hst] at h2;refine⟨_,w',cx',v',?_,.inl rfl,put_rd (hr.ext h4 h2) ht h3,h4⟩;simp only[execOp,resolve,Sem.run_bind,Sem.run_pure,Result.andThen_ok,invoke,builtin,List.map_toArray,List.map_cons,List.map_nil,h1]⟩
end
end Go.Mx
namespace Go.Mx
set_option linter.unusedVariables false
set_option linter.unusedSimpArgs false
section
variable {E : Setting} {U : Fun} {F : D → St → Prop} {k : List KI} {ρ : Env} {fr : Fr} {st : St} {all : Array Oper} {rest : List Oper}
variable {t : Nat} {ty : TypeId} {pos : String} {af : Array Edge} {nn bb : Nat} {ss : Shp} {H : Key → Bool}
theorem S.makeVec {s e:TypeId} {n b be sz:Nat} {se:Shp} {x y:Operand} {kk kk':IntKind} {len:Nat} {zs:List Value} {zds:List D} (ht:Nat.blt t U.N=true) (hT:tShape E.P s=some (n,b,.slice e)) (hE:tShape E.P e=some (sz,be,se))
  (hz:tZero E.P e=some zs) (hzl:zs.length=sz) (hzd:ZeroL zds zs) (hlev:allL (fun _=>false) zds=true) (hx:ev E ρ x=.v (.int kk len)) (hy:ev E ρ y=.v (.int kk' len)) (hb:be*len≤281474976710656) (hm:len≤9223372036854775807) (hf:fr t=none) :
  SOk E U ρ (fr::st) ⟨some t,.makeSlice s x y,ty,pos,af,none⟩ (upd ρ t (.vs (st.length,t) sz len)) (fr.upd t (some (.vec len e sz (List.replicate len zds).flatten))::st):=
 ⟨rfl,by simp,fun cx a w hr=>by
  obtain⟨i,u,hi,hu,h1,h2,h3⟩:=tShape_parts hT;obtain⟨ie,ue,hie,hue,k1,k2,k3⟩:=tShape_parts hE;have hu:E.P.underlying s=some (.slice e):=by
   cases u <;> simp only[shpOf,Shp.slice.injEq,reduceCtorEq] at h3;rw[hu,h3]
  unfold tZero at hz;rw[hie] at hz;simp only[Option.bind_some,Option.map_eq_some_iff] at hz;obtain⟨z,hz1,hz2⟩:=hz;have hb':(ie.bytes:Int)*(len:Int)≤281474976710656:=by
   have h:((be*len:Nat):Int)≤281474976710656:=by omega
   rw[k2]; rwa [Int.natCast_mul] at h
  have hrun:=run_make (P:=E.P) w s e ie z hu hie hz1 kk kk' len len (by omega) (Int.le_refl _) hb' (by omega);simp only[Int.toNat_natCast] at hrun;obtain⟨l1,l2⟩:=hzd.rd (cx:=cx) (w:=w);have hmade:(madeCells z.cells (len*ie.size)).toList=(List.replicate len zs).flatten:=by
   rw[k1];unfold madeCells;apply List.ext_getElem?;intro q;by_cases hq:q<len*sz
   ·have hsz:0<sz:=by
     rcases Nat.eq_zero_or_pos sz with h | h
     ·rw[h] at hq; simp at hq
     ·exact h
    have hl2:∀cs∈List.replicate len zs,cs.length=sz:=fun cs hc=>by rw[List.eq_of_mem_replicate hc]; exact hzl
    have e0:(List.replicate len zs)[q / sz]? = some zs:=by
     rw[List.getElem?_replicate,if_pos ((Nat.div_lt_iff_lt_mul hsz).2 hq)]
    have hml:q % sz<zs.length:=by rw[hzl]; exact Nat.mod_lt _ hsz
    have:=flat_get hl2 e0 (List.getElem?_eq_getElem hml);rw[show q / sz*sz+q % sz=q by rw[Nat.mul_comm]; exact Nat.div_add_mod q sz] at this;rw[this];have hzs:z.cells.size=sz:=by rw[← hzl,← hz2]; simp
    have hzq:z.cells[q % sz]! = zs[q % sz]:=by
     have:q % sz<z.cells.size:=by omega
     simp only[← hz2,this,getElem!_pos,Array.getElem_toList]
    simp[hq,hzs,hzq]
   ·have hl2:∀cs∈List.replicate len zs,cs.length=sz:=fun cs hc=>by rw[List.eq_of_mem_replicate hc]; exact hzl
    rw[List.getElem?_eq_none (by simp; omega),List.getElem?_eq_none (by rw[flat_len hl2]; simp; omega)]
  have hlen2:(List.replicate len zds).flatten.length=((List.replicate len zs).flatten).length:=by
   rw[flat_len (sz:=sz) (fun cs hc=>by rw[List.eq_of_mem_replicate hc]; omega),flat_len (sz:=sz) (fun cs hc=>by rw[List.eq_of_mem_replicate hc]; omega)];simp
  have hrd2:∀(j:Nat) d x,(List.replicate len zds).flatten[j]? = some d→((List.replicate len zs).flatten)[j]? = some x→Rd cx w d x:=fun j d x hd hx=>by
   rcases Nat.eq_zero_or_pos sz with h0 | hsz
   ·have:(List.replicate len zds).flatten.length=0:=by
     rw[flat_len (sz:=sz) (fun cs hc=>by rw[List.eq_of_mem_replicate hc]; omega),h0]; simp
    have:=(List.getElem?_eq_some_iff.1 hd).1;omega
   ·obtain⟨cs,e1,e2⟩:=flat_inv hsz (fun cs hc=>by rw[List.eq_of_mem_replicate hc]; omega) hd;obtain⟨vs,f1,f2⟩:=flat_inv hsz (fun cs hc=>by rw[List.eq_of_mem_replicate hc]; exact hzl) hx;have g1:=List.eq_of_mem_replicate (List.mem_of_getElem? e1);have g2:=List.eq_of_mem_replicate (List.mem_of_getElem? f1);subst g1; subst g2;exact l2 _ d x e2 f2
  have hkl:∀n,allL (fun _=>false) (List.replicate n zds).flatten=true:=fun n=>by
   induction n with
   | zero=>rfl
   | succ n ih=>
    rw[List.replicate_succ,List.flatten_cons];have hap:∀(a b:List D),allL (fun _=>false) a=true→allL (fun _=>false) b=true→allL (fun _=>false) (a++b)=true:=fun a b ha hb=>by
     induction a with
     | nil=>exact hb
     | cons d r ih=>simp only[List.cons_append,allL,Bool.and_eq_true] at *; exact⟨ha.1,ih ha.2⟩
    exact hap _ _ hlev ih
  have hm2:(madeCells z.cells (len*ie.size)).size=len*sz:=by
   rw[← Array.length_toList,hmade,flat_len (sz:=sz) (fun cs hc=>by rw[List.eq_of_mem_replicate hc]; exact hzl)]; simp
  have hbl:(List.replicate len zds).flatten.length=len*sz:=by
   rw[flat_len (sz:=sz) (fun cs hc=>by rw[List.eq_of_mem_replicate hc]; omega)]; simp
  generalize hnew:madeCells z.cells (len*ie.size)=new at hrun hmade hm2;have r:=hr.rel;have hg:St.get (fr::st) (st.length,t)=none:=get_top.trans hf;have h0:cx.tk (st.length,t)=none:=r.tk_none hg;have hcelln:∀o,(w.alloc (.cells new e (0,0))).cell? ⟨w.heap.size,o,none⟩=new[o]?:=fun o=>by
   have:(w.alloc (.cells new e (0,0))).heap[w.heap.size]? = some (.cells new e (0,0)):=heap_alloc_new w _;unfold World.cell?;rw[this]; rfl
  have hcello:∀b o,b<w.heap.size→(w.alloc (.cells new e (0,0))).cell? ⟨b,o,none⟩=w.cell? ⟨b,o,none⟩:=fun b o h=>cell_old h;have hheap:∀b,b<w.heap.size→(w.alloc (.cells new e (0,0))).heap[b]? = w.heap[b]?:=fun b h=>heap_old h;have hstep:=r.rowStep (key:=(st.length,t)) (by simp) (fun cs h=>by rw[hg] at h; cases h) (n:=len) (e:=e) (tl:=some (w.heap.size,len,sz)) (o':=.vec len e sz (List.replicate len zds).flatten) rfl (w':=w.alloc (.cells new e (0,0)))
   (M':=fun b o=>cx.M b o∨(b=w.heap.size∧o<len*sz))
   (fun n0 l0 h=>by rw[h0] at h; cases h)
   rfl rfl rfl (by show w.heap.size≤(w.heap.push _).size; simp)
   (fun b hb _=>hheap b hb) (fun b o hb _=>hcello b o hb)
   (fun b o h=>by
    rcases h with h | h
    ·exact .inl h
    ·exact .inr (by omega))
   (fun b o h=>by
    show b<(w.heap.push _).size;simp only[Array.size_push];rcases h with h | h
    ·have:=r.mlt b o h; omega
    ·omega)
   (fun b o h=>.inl (r.zm b o h)) (fun b o hb=>World.frozen?_of_block (a:=⟨b,o,none⟩) (hheap b hb)) (fun g' c' z' ht hlt=>by cases ht; omega)
   (fun k b o hk hf=>by
    have hb:=not_foot_new r hf;exact⟨hcello b o hb,World.frozen?_of_block (a:=⟨b,o,none⟩) (hheap b hb),.inl (r.foot k b o hf).2.2⟩)
   (fun k n' e' g' c' z' hk h=>hheap _ (r.row_lt h))
   (fun g' c' z' ht=>by
    cases ht;refine⟨Nat.le_refl _,by unfold maxLen; omega,⟨new,heap_alloc_new w _,hm2⟩,fun o h1 h2=>⟨.inr ⟨rfl,h2⟩,fun h=>by have:=r.mlt _ _ (r.zm _ _ h); omega⟩,fun k n' e' c' z' hk h=>?_,fun k b o h he=>?_⟩
    ·have:=r.row_lt h; omega
    ·have:=r.bxlt k b o h; omega)
   (fun z' cs' h=>by
    cases h;refine⟨(all_mono (fun _ h=>by cases h)).2.1 _ (hkl len),hbl,fun h=>(by cases h),fun g' c' z' h=>?_⟩;cases h;refine⟨rfl,fun j d hj=>?_⟩;have hjl:=(List.getElem?_eq_some_iff.1 hj).1;have hjl2:j<(List.replicate len zs).flatten.length:=by rw[← hlen2]; exact hjl
    have ex:((List.replicate len zs).flatten)[j]? = some ((List.replicate len zs).flatten)[j]:=List.getElem?_eq_getElem hjl2;refine⟨_,?_,hrd2 j d _ hj ex⟩;rw[hcelln,← Array.getElem?_toList,hmade]; exact ex)
  obtain⟨hrel,he⟩:=hstep;rw[set_top] at hrel;refine⟨_,_,_,_,?_,.inl rfl,put_rd (hr.ext he hrel) ht (Rd.vs (Nat.le_refl _) (by unfold maxLen; omega) ⟨len,e,some (w.heap.size,len,sz),if_pos rfl,Nat.le_refl _,fun _=>⟨rfl,rfl,rfl⟩⟩),he⟩;simp only[execOp,Sem.run_bind,hr.lit hx,hr.lit hy,hrun,Result.andThen_ok,Sem.run_pure]⟩
theorem S.buildVec {s e:TypeId} {n b be sz:Nat} {se:Shp} {len:Nat} {parts:Array (Nat×Operand)} {zs:List Value} {cs cs':List D} {ps:List (Nat×D)} (ht:Nat.blt t U.N=true) (hT:tShape E.P s=some (n,b,.slice e)) (hE:tShape E.P e=some (sz,be,se))
  (hz:tZero E.P e=some zs) (hzl:zs.length=sz) (hsz:0<sz) (hlen:len*sz≤65536) (hps:(parts.toList.map fun p=>(p.1,ev E ρ p.2))=ps) (hsim:allP ps=true)
  (hf:fillD (plE sz) (List.replicate (len*sz) .any) ps=some cs) (hcl:cs.length=len*sz) (hfog:cs.map fog1=cs') (hlev:allL (fun _=>false) cs'=true) (hfr:fr t=none) :
  SOk E U ρ (fr::st) ⟨some t,.buildSlice s len parts,ty,pos,af,none⟩ (upd ρ t (.vs (st.length,t) sz len)) (fr.upd t (some (.vec len e sz cs'))::st):=
 ⟨rfl,by simp,fun cx a w hr=>by
  obtain⟨i,u,hi,hu,h1,h2,h3⟩:=tShape_parts hT;obtain⟨ie,ue,hie,hue,k1,k2,k3⟩:=tShape_parts hE;have hu:E.P.underlying s=some (.slice e):=by
   cases u <;> simp only[shpOf,Shp.slice.injEq,reduceCtorEq] at h3;rw[hu,h3]
  unfold tZero at hz;rw[hie] at hz;simp only[Option.bind_some,Option.map_eq_some_iff] at hz;obtain⟨z,hz1,hz2⟩:=hz;obtain⟨p1,p2⟩:=parts_rd hr (parts:=parts);rw[hps] at p1 p2;obtain⟨out,e1,e2,e3⟩:=fill_rd (vcells:=((Array.range (len*sz)).map (fun j=>z.cells[j % z.cells.size]!))) (cx:=cx) (w:=w) hf (allP_get hsim) (by simp) (fun j d x hd _=>by
   rw[List.getElem?_replicate] at hd;split at hd
   ·cases hd; exact .any x
   ·cases hd) p1 p2
  have hrun:(execOp a.eval ⟨some t,.buildSlice s len parts,ty,pos,af,none⟩).run E.P w=.ok (.value (.slice (some ⟨w.heap.size,0,none⟩) len len)) (w.alloc (.cells out e (0,0))):=by
   have hsz2:=run_sizeOf_shape hE w;have hle:¬(len*sz>2 ^ 24):=by omega
   simp only[execOp,Instr.buildSlice,Sem.run_bind,run_underlying hu,Result.andThen_ok,hsz2];rw[if_neg hle];by_cases h0:len*sz=0
   ·have hl0:len=0:=by
     rcases Nat.mul_eq_zero.1 h0 with h | h
     ·exact h
     ·omega
    subst hl0;rw[Nat.zero_mul,show ∀f:Nat→Value,Array.map f (Array.range 0)=#[] from fun f=>by simp] at e1;simp only[Nat.zero_mul,if_true,Sem.run_bind,Sem.run_pure,Result.andThen_ok];rw[show ∀f:Nat→Value,Array.map f (Array.range 0)=#[] from fun f=>by simp,show(fun i=>some (i*sz,sz))=plE sz from rfl,e1];simp only[newRow,Sem.run_bind,Sem.run_pure,Result.andThen_ok];rfl
   ·rw[if_neg h0];simp only[zeroValue,Sem.run_bind,run_typeInfo w hie,Result.andThen_ok,hz1,Sem.run_pure];rw[show(fun i=>some (i*sz,sz))=plE sz from rfl,e1];simp only[newRow,Sem.run_bind,Sem.run_pure,Result.andThen_ok];rfl
  have hm2:out.size=len*sz:=by
   rw[← Array.length_toList,← hcl]; exact e2.symm
  have hbl:cs'.length=len*sz:=by rw[← hfog,List.length_map]; exact hcl
  have r:=hr.rel;have hg:St.get (fr::st) (st.length,t)=none:=get_top.trans hfr;have h0:cx.tk (st.length,t)=none:=r.tk_none hg;have hcelln:∀o,(w.alloc (.cells out e (0,0))).cell? ⟨w.heap.size,o,none⟩=out[o]?:=fun o=>by
   have:(w.alloc (.cells out e (0,0))).heap[w.heap.size]? = some (.cells out e (0,0)):=heap_alloc_new w _;unfold World.cell?;rw[this]; rfl
  have hcello:∀b o,b<w.heap.size→(w.alloc (.cells out e (0,0))).cell? ⟨b,o,none⟩=w.cell? ⟨b,o,none⟩:=fun b o h=>cell_old h;have hheap:∀b,b<w.heap.size→(w.alloc (.cells out e (0,0))).heap[b]? = w.heap[b]?:=fun b h=>heap_old h;have hstep:=r.rowStep (key:=(st.length,t)) (by simp) (fun cs h=>by rw[hg] at h; cases h) (n:=len) (e:=e) (tl:=some (w.heap.size,len,sz)) (o':=.vec len e sz cs') rfl (w':=w.alloc (.cells out e (0,0)))
   (M':=fun b o=>cx.M b o∨(b=w.heap.size∧o<len*sz))
   (fun n0 l0 h=>by rw[h0] at h; cases h)
   rfl rfl rfl (by show w.heap.size≤(w.heap.push _).size; simp)
   (fun b hb _=>hheap b hb) (fun b o hb _=>hcello b o hb)
   (fun b o h=>by
    rcases h with h | h
    ·exact .inl h
    ·exact .inr (by omega))
   (fun b o h=>by
    show b<(w.heap.push _).size;simp only[Array.size_push];rcases h with h | h
    ·have:=r.mlt b o h; omega
    ·omega)
   (fun b o h=>.inl (r.zm b o h)) (fun b o hb=>World.frozen?_of_block (a:=⟨b,o,none⟩) (hheap b hb)) (fun g' c' z' ht hlt=>by cases ht; omega)
   (fun k b o hk hf=>by
    have hb:=not_foot_new r hf;exact⟨hcello b o hb,World.frozen?_of_block (a:=⟨b,o,none⟩) (hheap b hb),.inl (r.foot k b o hf).2.2⟩)
   (fun k n' e' g' c' z' hk h=>hheap _ (r.row_lt h))
   (fun g' c' z' ht=>by
    cases ht;refine⟨Nat.le_refl _,by unfold maxLen; have:len*1≤len*sz:=Nat.mul_le_mul_left _ hsz; omega,⟨out,heap_alloc_new w _,hm2⟩,fun o h1 h2=>⟨.inr ⟨rfl,h2⟩,fun h=>by have:=r.mlt _ _ (r.zm _ _ h); omega⟩,fun k n' e' c' z' hk h=>?_,fun k b o h he=>?_⟩
    ·have:=r.row_lt h; omega
    ·have:=r.bxlt k b o h; omega)
   (fun z' cs0 h=>by
    cases h;refine⟨(all_mono (fun _ h=>by cases h)).2.1 _ hlev,hbl,fun h=>(by cases h),fun g' c' z' h=>?_⟩;cases h;refine⟨rfl,fun j d hj=>?_⟩;rw[← hfog,List.getElem?_map,Option.map_eq_some_iff] at hj;obtain⟨d0,hd0,rfl⟩:=hj;obtain⟨y,hy⟩:=len_get e2.symm hd0;exact⟨y,by rw[hcelln,← Array.getElem?_toList]; exact hy,(e3 j d0 y hd0 hy).fog1⟩)
  obtain⟨hrel,he⟩:=hstep;rw[set_top] at hrel;refine⟨_,_,_,_,?_,.inl rfl,put_rd (hr.ext he hrel) ht (Rd.vs (Nat.le_refl _) (by unfold maxLen; have:len*1≤len*sz:=Nat.mul_le_mul_left _ hsz; omega) ⟨len,e,some (w.heap.size,len,sz),if_pos rfl,Nat.le_refl _,fun _=>⟨rfl,rfl,rfl⟩⟩),he⟩;exact hrun⟩
end
theorem Rel.cutV {E:Setting} {cx:Cx} {st:St} {w:World} (r:Rel E cx st w) {k0 q:Key} {n m N:Nat} {e:TypeId} {z:Nat} {cs:List D} (hk0:st.get k0=some (.vec n e z cs)) (hm:m≤n) (hN:n<N) (hq:st.get q=none) (hl0:k0.1<st.length) (hlq:q.1<st.length)
  (hcs:allL (lv (q.1+1)) cs=true) :
  ∃cx',Rel E cx' ((st.set k0 (some (.tok (N) e))).set q (some (.vec m e z (cs.take (m*z))))) w∧Ext (fun _=>true) cx w cx' w∧∀tl,cx.tk k0=some (n,e,tl)→cx'.tk q=some (m,e,tl):=by
 have hne:q≠k0:=fun e=>by subst e; rw[hk0] at hq; cases hq
 have hqb:cx.bx q=none:=by
  cases h:cx.bx q with
  | none=>rfl
  | some l=>obtain⟨c,hc⟩:=r.domb q l h; rw[hq] at hc; cases hc
 have h0b:cx.bx k0=none:=by
  cases h:cx.bx k0 with
  | none=>rfl
  | some l=>obtain⟨c,hc⟩:=r.domb k0 l h; rw[hk0] at hc; cases hc
 have hqt:cx.tk q=none:=r.tk_none hq;obtain⟨tl,t1,t2⟩:=r.tok k0 _ n e ⟨hk0,rfl⟩;obtain⟨_,v2,v3,v4⟩:=r.vec k0 n e z cs hk0;have hget:∀k,((st.set k0 (some (.tok (N) e))).set q (some (.vec m e z (cs.take (m*z))))).get k=if k=q then some (.vec m e z (cs.take (m*z))) else if k=k0 then some (.tok (N) e) else st.get k:=fun k=>by
  rw[St.get_set (by rw[St.length_set]; exact hlq),St.get_set hl0]
 let cx':Cx:={ bx:=cx.bx,tk:=fun k=>if k=q then some (m,e,tl) else if k=k0 then some (N,e,none) else cx.tk k,M:=cx.M,Z:=cx.Z }
 have htk:∀k,k≠q→k≠k0→cx'.tk k=cx.tk k:=fun k h1 h2=>by
  show(if k=q then some (m,e,tl) else if k=k0 then some (N,e,none) else cx.tk k)=_;rw[if_neg h1,if_neg h2]
 have htq:cx'.tk q=some (m,e,tl):=if_pos rfl;have ht0:cx'.tk k0=some (N,e,none):=by
  show(if k0=q then some (m,e,tl) else if k0=k0 then some (N,e,none) else cx.tk k0)=_;rw[if_neg (fun h=>hne h.symm),if_pos rfl]
 have htd:∀k n1 e1 g c z1,cx'.tk k=some (n1,e1,some (g,c,z1))→(k=q∧n1=m∧e1=e∧cx.tk k0=some (n,e,some (g,c,z1)))∨(k≠q∧k≠k0∧cx.tk k=some (n1,e1,some (g,c,z1))):=fun k n1 e1 g c z1 h=>by
  have h:(if k=q then some (m,e,tl) else if k=k0 then some (N,e,none) else cx.tk k)=some (n1,e1,some (g,c,z1)):=h;split at h
  ·rename_i h1;simp only[Option.some.injEq,Prod.mk.injEq] at h;obtain⟨rfl,rfl,rfl⟩:=h;exact .inl ⟨h1,rfl,rfl,t1⟩
  ·split at h
   ·cases h
   ·rename_i h1 h2; exact .inr ⟨h1,h2,h⟩
 have hext:Ext (fun _=>true) cx w cx' w:=by
  refine⟨rfl,rfl,rfl,Nat.le_refl _,fun _ _ _=>rfl,fun _ _ _ _=>rfl,fun _ _ _ h=>h,fun _ _ _ h=>h,fun key n1 l hk h=>?_,rfl,fun key n1 e1 g c z1 h _=>?_,fun _ _ _=>rfl⟩
  ·by_cases h1:key=k0
   ·subst h1;rw[t1] at h; cases h;exact⟨N,_,ht0,by omega,fun h=>by omega⟩
   ·exact⟨n1,l,by rw[htk key (fun e=>by subst e; rw[hqt] at h; cases h) h1]; exact h,Nat.le_refl _,fun _=>rfl⟩
  ·rcases htd _ _ _ _ _ _ h with ⟨_,_,_,h⟩ | ⟨_,_,h⟩
   ·exact⟨_,_,_,_,_,h⟩
   ·exact⟨_,_,_,_,_,h⟩
 have hfoot:∀key b o,Mx.foot cx' ((st.set k0 (some (.tok (N) e))).set q (some (.vec m e z (cs.take (m*z))))) key b o→Mx.foot cx st (if key=q then k0 else key) b o∧key≠k0:=fun key b o h=>by
  rcases h with ⟨c,o0,h1,h2,h3⟩ | ⟨ob',n',e',c,z',⟨h1,h0⟩,h2,h3⟩
  ·rw[hget] at h1;by_cases hkq:key=q
   ·subst hkq; rw[if_pos rfl] at h1; cases h1
   ·rw[if_neg hkq] at h1;rw[if_neg hkq];by_cases hk:key=k0
    ·rw[if_pos hk] at h1; cases h1
    ·rw[if_neg hk] at h1;exact⟨.inl ⟨c,o0,h1,h2,h3⟩,hk⟩
  ·rw[hget] at h1;by_cases hkq:key=q
   ·subst hkq;rw[if_pos rfl] at h1; cases h1;rw[if_pos rfl];rcases htd _ _ _ _ _ _ h2 with ⟨_,_,_,h⟩ | ⟨h,_,_⟩
    ·exact⟨.inr ⟨_,n,e,c,z',⟨hk0,rfl⟩,h,h3⟩,hne⟩
    ·exact absurd rfl h
   ·rw[if_neg hkq] at h1;rw[if_neg hkq];by_cases hk:key=k0
    ·subst hk; rw[ht0] at h2; cases h2
    ·rw[if_neg hk] at h1;rw[htk key hkq hk] at h2;exact⟨.inr ⟨ob',n',e',c,z',⟨h1,h0⟩,h2,h3⟩,hk⟩
 refine⟨cx',⟨fun key c h=>?_,fun key n' e' z' c h=>?_,fun key ob' n' e' h=>?_,fun key b o h=>r.foot _ b o (hfoot _ _ _ h).1,fun k1 k2 b o h h'=>?_,fun key l h=>?_,fun key l h=>?_,r.mlt,fun key b o h=>r.nz _ b o (hfoot _ _ _ h).1,r.zm,r.bxlt,
   fun k1 k2 b o n e g c z h h'=>?_,fun k1 k2 n1 e1 n2 e2 g c1 z1 c2 z2 h h'=>?_,fun g=>(r.glob g).mono hext (RelF.ext.all_true _)⟩,hext,fun tl' h=>by rw[t1] at h; cases h; exact htq⟩
 ·rw[hget] at h;by_cases hkq:key=q
  ·subst hkq; rw[if_pos rfl] at h; cases h
  ·rw[if_neg hkq] at h;by_cases hk:key=k0
   ·rw[if_pos hk] at h; cases h
   ·rw[if_neg hk] at h;obtain⟨h1,b,o,h2,h3⟩:=r.cells key c h;refine⟨h1,b,o,h2,fun j d hj=>?_⟩;obtain⟨x,hx,hrd⟩:=h3 j d hj;exact⟨x,hx,hrd.mono hext (RelF.ext.all_true _)⟩
 ·rw[hget] at h;by_cases hkq:key=q
  ·subst hkq;rw[if_pos rfl] at h; cases h;have hmz:m*z≤n*z:=Nat.mul_le_mul_right _ hm;refine⟨?_,by rw[List.length_take]; omega,fun h=>?_,fun g cc zz hk=>?_⟩
   ·have:∀(l:List D) (i:Nat),allL (lv (key.1+1)) l=true→allL (lv (key.1+1)) (l.take i)=true:=fun l=>by
     induction l with
     | nil=>intro i _; simp[allL]
     | cons d l ih=>
      intro i h;cases i with
      | zero=>rfl
      | succ i=>simp only[allL,Bool.and_eq_true,List.take_succ_cons] at h ⊢; exact⟨h.1,ih i h.2⟩
    exact this _ _ hcs
   ·rw[htq] at h;simp only[Option.some.injEq,Prod.mk.injEq,true_and] at h;subst h;have:=v3 t1;omega
   ·rw[htq] at hk;simp only[Option.some.injEq,Prod.mk.injEq,true_and] at hk;subst hk;refine⟨(v4 g cc zz t1).1,fun j d hj=>?_⟩;rw[List.getElem?_take] at hj;split at hj
    ·obtain⟨x,hx,hr⟩:=(v4 g cc zz t1).2 j d hj;exact⟨x,hx,hr.mono hext (RelF.ext.all_true _)⟩
    ·cases hj
  ·rw[if_neg hkq] at h;by_cases hk:key=k0
   ·rw[if_pos hk] at h; cases h
   ·rw[if_neg hk] at h;exact r.vecKeep h (htk key hkq hk) (fun _ _ _ _ _ _ _ hx=>hx) (fun j d x hj hr=>hr.mono hext (RelF.ext.all_true _))
 ·obtain⟨h,h0⟩:=h;rw[hget] at h;by_cases hkq:key=q
  ·subst hkq;rw[if_pos rfl] at h; cases h; cases h0;refine⟨tl,htq,?_⟩;cases tl with
   | none=>trivial
   | some p=>obtain⟨g,c,z1⟩:=p; obtain⟨a1,a2,a3⟩:=t2; exact⟨by omega,a2,a3⟩
  ·rw[if_neg hkq] at h;by_cases hk:key=k0
   ·rw[if_pos hk] at h; cases h; cases h0;subst hk;exact⟨none,ht0,trivial⟩
   ·rw[if_neg hk] at h;obtain⟨tl,g1,g2⟩:=r.tok key ob' n' e' ⟨h,h0⟩;exact⟨tl,(htk key hkq hk).trans g1,g2⟩
 ·obtain⟨g1,n1⟩:=hfoot _ _ _ h;obtain⟨g2,n2⟩:=hfoot _ _ _ h';have:=r.sep _ _ b o g1 g2;by_cases e1:k1=q <;> by_cases e2:k2=q
  ·rw[e1,e2]
  ·rw[if_pos e1,if_neg e2] at this; exact absurd this.symm n2
  ·rw[if_neg e1,if_pos e2] at this; exact absurd this n1
  ·rw[if_neg e1,if_neg e2] at this; exact this
 ·rw[hget,if_neg (fun e=>by subst e; have h:cx.bx key=some l:=h; rw[hqb] at h; cases h),if_neg (fun e=>by subst e; have h:cx.bx key=some l:=h; rw[h0b] at h; cases h)];exact r.domb key l h
 ·rw[hget];by_cases hkq:key=q
  ·rw[if_pos hkq]; exact⟨_,_,_,rfl,rfl⟩
  ·rw[if_neg hkq];by_cases hk:key=k0
   ·rw[if_pos hk]; exact⟨_,_,_,rfl,rfl⟩
   ·rw[if_neg hk];rw[htk key hkq hk] at h;exact r.domt key l h
 ·rcases htd _ _ _ _ _ _ h' with ⟨_,_,_,h2⟩ | ⟨_,_,h2⟩ <;> exact r.apart _ _ _ _ _ _ _ _ _ h h2
 ·rcases htd _ _ _ _ _ _ h with ⟨a1,_,_,a2⟩ | ⟨a1,a3,a2⟩ <;> rcases htd _ _ _ _ _ _ h' with ⟨b1,_,_,b2⟩ | ⟨b1,b3,b2⟩
  ·rw[a1,b1]
  ·exact absurd (r.rows _ _ _ _ _ _ _ _ _ _ _ a2 b2).symm b3
  ·exact absurd (r.rows _ _ _ _ _ _ _ _ _ _ _ a2 b2) a3
  ·exact r.rows _ _ _ _ _ _ _ _ _ _ _ a2 b2
end Go.Mx
namespace Go.Mx
set_option linter.unusedVariables false
set_option linter.unusedSimpArgs false
section
variable {E : Setting} {U : Fun} {F : D → St → Prop} {k : List KI} {ρ : Env} {st : St} {all : Array Oper} {rest : List Oper}
theorem find_one {k i:Int} {e:MapEntry} (he:e.key=.int .i64 k):Instr.findNow (.int .i64) (.int .i64 i) [e] 0=some (if i=k then some (0,e.val) else none):=by
 simp only[Instr.findNow,he,Instr.sameNow,if_true];by_cases h:i=k
 ·subst h; simp
 ·have:(i==k)=false:=by simpa using h
  rw[this,if_neg h]
theorem S.lookup1 {r:Nat} {T kt el ty:TypeId} {pos:String} {af:Array Edge} {x ix:Operand} {i k:Int} {d:D} {zs:List Value} {zds:List D} (ht:Nat.blt r U.N=true) (hT:E.P.underlying T=some (.map kt el)) (hK:E.P.underlying kt=some (.int .i64))
  (hz:(E.P.info? el).bind (·.zero)=some (.agg zs.toArray)) (hzd:∀cx w,Rd cx w (.agg zds) (.agg zs.toArray)) (hx:ev E ρ x=.mp [k] [d]) (hi:ev E ρ ix=.v (.int .i64 i)) :
  SOk E U ρ st ⟨some r,.lookup T x ix true,ty,pos,af,none⟩ (upd ρ r (if i=k then .tup [d,.v (.bool true)] else .tup [.agg zds,.v (.bool false)])) st:=
 ⟨rfl,rfl,fun cx a w hr=>by
  have hv:=hr.eval x;rw[hx] at hv;generalize hvx:a.eval x=v at hv;cases hv with
  | @mp _ _ b c es hb hm hk hl hrd=>
   cases es with
   | nil=>simp at hl
   | cons e es=>
    have:es=[]:=by simpa using hl.symm
    subst this;simp only[List.map_cons,List.map_nil,List.cons.injEq,and_true] at hk;have hd:Rd cx w d e.val:=hrd 0 d e rfl rfl;have hix:a.eval ix=.int .i64 i:=hr.lit hi;have hf:=fun w'=>MapKept.run_findKey (w:=w') hK (find_one (i:=i) hk);obtain⟨inf,hinf,hinz⟩:=Option.bind_eq_some_iff.1 hz;have hzr:(zeroValue el).run E.P w=.ok (.agg zs.toArray) w:=by
     simp only[zeroValue,Sem.run_bind,run_typeInfo w hinf,Result.andThen_ok,hinz,Sem.run_pure]
    have hrun:(execOp a.eval ⟨some r,.lookup T x ix true,ty,pos,af,none⟩).run E.P w=.ok (.value (if i=k then .tuple #[e.val,.bool true] else .tuple #[.agg zs.toArray,.bool false])) w:=by
     simp only[execOp,hvx,hix,Instr.lookup,Sem.run_bind,run_underlying hT,Result.andThen_ok,MapKept.run_getObj_map hb,Sem.run_pure];rw[MapKept.run_checkKey hK (by trivial)];simp only[Result.andThen_ok,Sem.run_bind];rw[hf];by_cases h:i=k
     ·simp[h]
     ·simp[h,hzr,Sem.run_bind]
    by_cases h:i=k
    ·rw[if_pos h] at hrun ⊢;refine⟨_,w,cx,_,hrun,.inl rfl,put_rd hr ht ?_,Ext.refl _ _ _⟩;exact .tup (vs:=[e.val,.bool true]) rfl (fun j d' y hj hy=>by
      match j with
      | 0=>cases hj; cases hy; exact hd
      | 1=>cases hj; cases hy; exact .v _
      | j+2=>simp at hj)
    ·rw[if_neg h] at hrun ⊢;refine⟨_,w,cx,_,hrun,.inl rfl,put_rd hr ht ?_,Ext.refl _ _ _⟩;exact .tup (vs:=[.agg zs.toArray,.bool false]) rfl (fun j d' y hj hy=>by
      match j with
      | 0=>cases hj; cases hy; exact hzd cx w
      | 1=>cases hj; cases hy; exact .v _
      | j+2=>simp at hj)⟩
end
end Go.Mx
