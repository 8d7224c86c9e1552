/- A walk over an abstract state of the machine, first part. No condition. -/
import Derived.Calls
import Derived.Tactics
import Derived.Below
import Derived.OrdersHeld
import Derived.Laws.Entries
import Derived.Laws.Cells
import Derived.ChangeKeysEq
import Derived.Laws.IdiomCopy
import Derived.Laws.AppendOwn
import Derived.Laws.NewBlocks
import Derived.Laws.Append
import Derived.Laws.Tables
set_option linter.unusedVariables false
set_option linter.unusedSimpArgs false
namespace Go.Mx
open Go.RowKit
set_option linter.unusedVariables false
abbrev Key:=Nat×Nat
inductive Tok where
 | ro | full | own (k:Key)
inductive D where
 | v (x:Value)
 | any
 | sl (sz:Nat) (tok:Tok) (xs:List (List D))
 | bx (k:Key) (off:Nat)
 | sb (k:Key) (n:Nat)
 | vs (k:Key) (z n:Nat)
 | ve (k:Key) (z n i off:Nat)
 | ro (cells:List D)
 | agg (cs:List D)
 | tup (ds:List D)
 | clo (fn:Fn) (first caps:List D)
 | mp (ks:List Int) (ds:List D)
 | gb (p:Array Value→Prop)
inductive AObj where
 | cells (cs:List D)
 | tok (n:Nat) (e:TypeId)
 | vec (n:Nat) (e:TypeId) (z:Nat) (cs:List D)
def AObj.row:AObj→Option (Nat×TypeId)
 | .cells _=>none
 | .tok n e=>some (n,e)
 | .vec n e _ _=>some (n,e)
def AObj.lo (z:Nat):AObj→Nat
 | .tok n _=>n*z
 | _=>0
def AObj.body:AObj→List D
 | .cells cs=>cs
 | .tok _ _=>[]
 | .vec _ _ _ cs=>cs
abbrev Fr:=Nat→Option AObj
abbrev St:=List Fr
def St.get:St→Key→Option AObj
 | [],_=>none
 | fr::r,k=>if k.1=r.length then fr k.2 else St.get r k
def Fr.upd (fr:Fr) (t:Nat) (o:Option AObj):Fr:=fun u=>if u=t then o else fr u
def St.set:St→Key→Option AObj→St
 | [],_,_=>[]
 | fr::r,k,o=>if k.1=r.length then Fr.upd fr k.2 o::r else fr::St.set r k o
def Tok.all (p:Key→Bool):Tok→Bool
 | .own k=>p k
 | _=>true
mutual
def D.all (p:Key→Bool):D→Bool
 | .v _=>true
 | .any=>true
 | .sl _ tok xs=>tok.all p&&allLL p xs
 | .bx k _=>p k
 | .sb k _=>p k
 | .vs k _ _=>p k
 | .ve k _ _ _ _=>p k
 | .ro cells=>allL p cells
 | .agg cs=>allL p cs
 | .tup ds=>allL p ds
 | .clo _ a b=>allL p a&&allL p b
 | .mp _ ds=>allL p ds
 | .gb _=>true
def allL (p:Key→Bool):List D→Bool
 | []=>true
 | d::r=>D.all p d&&allL p r
def allLL (p:Key→Bool):List (List D)→Bool
 | []=>true
 | d::r=>allL p d&&allLL p r
end
structure Cx where
 bx:Key→Option (Nat×Nat)
 tk : Key → Option (Nat × TypeId × Option (Nat × Nat × Nat))     -- how many, of what type, the row that may be grown: block, capacity, cells of an element
 M:Nat→Nat→Prop
 Z:Nat→Nat→Prop
def TokOk (cx:Cx) (a:Option Addr) (len cap sz:Nat):Tok→Prop
 | .ro=>True
 | .full=>cap=len
 | .own k=>∃n e tl,cx.tk k=some (n,e,tl)∧len≤n∧(len=n→match tl with
   | none=>cap=len
   | some (g,c,z)=>a=some ⟨g,0,none⟩∧c=cap∧z=sz)
inductive Rd (cx:Cx) (w:World):D→Value→Prop
 | v (x:Value):Rd cx w (.v x) x
 | any (x:Value):Rd cx w .any x
 | sl {sz tok xs a cap} (A:Nat×Nat) (vs:Nat→Nat→Value) (hcap:xs.length≤cap) (hcm:cap≤maxLen)
   (hsz:∀(i:Nat) cs,xs[i]? = some cs→cs.length=sz)
   (ha:xs≠[]→a=some ⟨A.1,A.2,none⟩)
   (hc:∀(i j:Nat) cs d,xs[i]? = some cs→cs[j]? = some d→w.cell? ⟨A.1,A.2+i*sz+j,none⟩=some (vs i j)∧¬cx.M A.1 (A.2+i*sz+j))
   (hr:∀(i j:Nat) cs d,xs[i]? = some cs→cs[j]? = some d→Rd cx w d (vs i j))
   (ht:TokOk cx a xs.length cap sz tok):Rd cx w (.sl sz tok xs) (.slice a xs.length cap)
 | bx {k off b o} (h:cx.bx k=some (b,o)):Rd cx w (.bx k off) (.pointer (some ⟨b,o+off,none⟩))
 | sb {k n b o} (h:cx.bx k=some (b,o)) (hn:n≤maxLen):Rd cx w (.sb k n) (.slice (some ⟨b,o,none⟩) n n)
 | vs {k z n a cap} (hn:n≤cap) (hcm:cap≤maxLen) (ht:TokOk cx a n cap z (.own k)):Rd cx w (.vs k z n) (.slice a n cap)
 | ve {k z n i off b o} (ht:∃n' e tl,cx.tk k=some (n',e,tl)∧n≤n'∧(n=n'→∃c,tl=some (b,c,z)∧o=i*z+off)):Rd cx w (.ve k z n i off) (.pointer (some ⟨b,o,none⟩))
 | ro {cells} (b o:Nat) (vs:Nat→Value)
   (hc:∀(j:Nat) d,cells[j]? = some d→w.cell? ⟨b,o+j,none⟩=some (vs j)∧¬cx.M b (o+j))
   (hr:∀(j:Nat) d,cells[j]? = some d→Rd cx w d (vs j)):Rd cx w (.ro cells) (.pointer (some ⟨b,o,none⟩))
 | agg {cs:List D} {vs:List Value} (hl:cs.length=vs.length)
   (hr:∀(j:Nat) d x,cs[j]? = some d→vs[j]? = some x→Rd cx w d x):Rd cx w (.agg cs) (.agg vs.toArray)
 | tup {cs:List D} {vs:List Value} (hl:cs.length=vs.length)
   (hr:∀(j:Nat) d x,cs[j]? = some d→vs[j]? = some x→Rd cx w d x):Rd cx w (.tup cs) (.tuple vs.toArray)
 | clo {fn:Fn} {f c:List D} {fv cv:List Value} (hf:f.length=fv.length) (hcl:c.length=cv.length)
   (hrf:∀(j:Nat) d x,f[j]? = some d→fv[j]? = some x→Rd cx w d x)
   (hrc:∀(j:Nat) d x,c[j]? = some d→cv[j]? = some x→Rd cx w d x):Rd cx w (.clo fn f c) (.func fn fv.toArray cv.toArray)
 | mp {ks:List Int} {ds:List D} {b c:Nat} {es:List MapEntry} (hb:w.heap[b]? = some (.map es.toArray c)) (hm:∀o,¬cx.M b o) (hk:es.map (·.key)=ks.map (Value.int .i64)) (hl:ds.length=es.length)
   (hr:∀(j:Nat) d e,ds[j]? = some d→es[j]? = some e→Rd cx w d e.val):Rd cx w (.mp ks ds) (.map (some b))
 | gb {p:Array Value→Prop} {b:Nat} {vs:Array Value} {e:TypeId} {fz:Nat×Nat} (hb:w.heap[b]? = some (.cells vs e fz)) (hm:∀o,¬cx.M b o) (hp:p vs):Rd cx w (.gb p) (.pointer (some ⟨b,0,none⟩))
structure Ext (S:Key→Bool) (cx:Cx) (w:World) (cx':Cx) (w':World):Prop where
 os:w'.os=w.os
 tape:w'.tape=w.tape
 output:w'.output=w.output
 size:w.heap.size≤w'.heap.size
 block:∀b,b<w.heap.size→(∀o,¬cx.M b o)→w'.heap[b]? = w.heap[b]?
 cell:∀b o,b<w.heap.size→(cx.M b o→cx.Z b o)→w'.cell? ⟨b,o,none⟩=w.cell? ⟨b,o,none⟩
 nomut:∀b o,b<w.heap.size→¬cx.M b o→¬cx'.M b o
 bx:∀k l,S k=true→cx.bx k=some l→cx'.bx k=some l
 tk:∀k n l,S k=true→cx.tk k=some (n,l)→∃n' l',cx'.tk k=some (n',l')∧n≤n'∧(n'=n→l'=l)
 zz:cx'.Z=cx.Z
 rowold:∀k n e g c z,cx'.tk k=some (n,e,some (g,c,z))→g<w.heap.size→∃k0 n0 e0 c0 z0,cx.tk k0=some (n0,e0,some (g,c0,z0))
 fz:∀b o,b<w.heap.size→w'.frozen? ⟨b,o,none⟩=w.frozen? ⟨b,o,none⟩
theorem cell_lt {w:World} {b o:Nat} {x:Value} (h:w.cell? ⟨b,o,none⟩=some x):b<w.heap.size:=World.block_lt_of_cell? (w:=w) (a:=⟨b,o,none⟩) h
theorem Ext.refl (S:Key→Bool) (cx:Cx) (w:World):Ext S cx w cx w:=
 ⟨rfl,rfl,rfl,Nat.le_refl _,fun _ _ _=>rfl,fun _ _ _ _=>rfl,fun _ _ _ h=>h,fun _ _ _ h=>h,fun _ n l _ h=>⟨n,l,h,Nat.le_refl _,fun _=>rfl⟩,rfl,fun k n e g c z h _=>⟨k,n,e,c,z,h⟩,fun _ _ _=>rfl⟩
theorem Ext.trans {S:Key→Bool} {c1 c2 c3:Cx} {w1 w2 w3:World} (h:Ext S c1 w1 c2 w2) (k:Ext S c2 w2 c3 w3):Ext S c1 w1 c3 w3 where
 os:=k.os.trans h.os
 tape:=k.tape.trans h.tape
 output:=k.output.trans h.output
 size:=Nat.le_trans h.size k.size
 block b hb hm:=(k.block b (Nat.lt_of_lt_of_le hb h.size) (fun o=>h.nomut b o hb (hm o))).trans (h.block b hb hm)
 cell b o hb hm:=(k.cell b o (Nat.lt_of_lt_of_le hb h.size) (fun h2=>by
  rw[h.zz];exact Classical.byContradiction fun hz=>h.nomut b o hb (fun h3=>hz (hm h3)) h2)).trans (h.cell b o hb hm)
 zz:=k.zz.trans h.zz
 rowold key n e g c z hk hg:=by
  obtain⟨k0,n0,e0,c0,z0,h0⟩:=k.rowold key n e g c z hk (Nat.lt_of_lt_of_le hg h.size);exact h.rowold k0 n0 e0 g c0 z0 h0 hg
 fz b o hb:=(k.fz b o (Nat.lt_of_lt_of_le hb h.size)).trans (h.fz b o hb)
 nomut b o hb hm:=k.nomut b o (Nat.lt_of_lt_of_le hb h.size) (h.nomut b o hb hm)
 bx key l hS hl:=k.bx key l hS (h.bx key l hS hl)
 tk key n l hS hl:=by
  obtain⟨n',l',h1,h2,h3⟩:=h.tk key n l hS hl;obtain⟨n'',l'',k1,k2,k3⟩:=k.tk key n' l' hS h1;exact⟨n'',l'',k1,Nat.le_trans h2 k2,fun e=>by
   have:n'=n:=by omega
   rw[k3 (by omega),h3 this]⟩
theorem Ext.weaken {S S':Key→Bool} {c1 c2:Cx} {w1 w2:World} (h:Ext S c1 w1 c2 w2) (hs:∀k,S' k=true→S k=true):Ext S' c1 w1 c2 w2:=
 ⟨h.os,h.tape,h.output,h.size,h.block,h.cell,h.nomut,fun k l hk=>h.bx k l (hs k hk),fun k n l hk=>h.tk k n l (hs k hk),h.zz,h.rowold,h.fz⟩
theorem allL_get {p:Key→Bool} {cs:List D} (h:allL p cs=true) {j:Nat} {d:D} (hj:cs[j]? = some d):d.all p=true:=by
 induction cs generalizing j with
 | nil=>simp at hj
 | cons c r ih=>
  simp only[allL,Bool.and_eq_true] at h;cases j with
  | zero=>simp at hj; subst hj; exact h.1
  | succ j=>simp at hj; exact ih h.2 hj
theorem allLL_get {p:Key→Bool} {xs:List (List D)} (h:allLL p xs=true) {j:Nat} {d:List D} (hj:xs[j]? = some d):allL p d=true:=by
 induction xs generalizing j with
 | nil=>simp at hj
 | cons c r ih=>
  simp only[allLL,Bool.and_eq_true] at h;cases j with
  | zero=>simp at hj; subst hj; exact h.1
  | succ j=>simp at hj; exact ih h.2 hj
structure ExtR (S:Key→Bool) (cx:Cx) (w:World) (cx':Cx) (w':World):Prop where
 block:∀b,b<w.heap.size→(∀o,¬cx.M b o)→w'.heap[b]? = w.heap[b]?
 cell:∀b o,b<w.heap.size→¬cx.M b o→w'.cell? ⟨b,o,none⟩=w.cell? ⟨b,o,none⟩
 nomut:∀b o,b<w.heap.size→¬cx.M b o→¬cx'.M b o
 bx:∀k l,S k=true→cx.bx k=some l→cx'.bx k=some l
 tk:∀k n l,S k=true→cx.tk k=some (n,l)→∃n' l',cx'.tk k=some (n',l')∧n≤n'∧(n'=n→l'=l)
theorem Ext.r {S:Key→Bool} {cx cx':Cx} {w w':World} (he:Ext S cx w cx' w'):ExtR S cx w cx' w':=
 ⟨he.block,fun b o hb h=>he.cell b o hb (fun h2=>absurd h2 h),he.nomut,he.bx,he.tk⟩
theorem Rd.monoR {S:Key→Bool} {cx cx':Cx} {w w':World} (he:ExtR S cx w cx' w') {d:D} {x:Value} (h:Rd cx w d x):d.all S=true→Rd cx' w' d x:=by
 induction h with
 | v x=>intro _; exact .v x
 | any x=>intro _; exact .any x
 | @sl sz tok xs a cap A vs hcap hcm hsz ha hc hr ht ih=>
  intro hS;simp only[D.all,Bool.and_eq_true] at hS;refine .sl A vs hcap hcm hsz ha (fun i j cs d hi hj=>?_) (fun i j cs d hi hj=>ih i j cs d hi hj (allL_get (allLL_get hS.2 hi) hj)) ?_
  ·have:=hc i j cs d hi hj;have hb:=cell_lt this.1;exact⟨(he.cell _ _ hb this.2).trans this.1,he.nomut _ _ hb this.2⟩
  ·cases tok with
   | ro=>trivial
   | full=>exact ht
   | own k=>
    obtain⟨n,e,tl,h1,h2,h3⟩:=ht;obtain⟨n',⟨e',tl'⟩,k1,k2,k3⟩:=he.tk k n _ hS.1 h1;refine⟨n',e',tl',k1,by omega,fun e=>?_⟩;have hn:n'=n:=by omega
    have:=k3 hn;simp only[Prod.mk.injEq] at this;obtain⟨rfl,rfl⟩:=this;exact h3 (by omega)
 | @bx k off b o h=>intro hS; exact .bx (he.bx k _ hS h)
 | @sb k n b o h hn=>intro hS; exact .sb (he.bx k _ hS h) hn
 | @vs k z n a cap hn hcm ht=>
  intro hS;obtain⟨m,e,tl,h1,h2,h3⟩:=ht;obtain⟨n',⟨e',tl'⟩,k1,k2,k3⟩:=he.tk k m _ hS h1;refine .vs hn hcm ⟨n',e',tl',k1,by omega,fun e=>?_⟩;have hn:n'=m:=by omega
  have:=k3 hn;simp only[Prod.mk.injEq] at this;obtain⟨rfl,rfl⟩:=this;exact h3 (by omega)
 | @ve k z n i off b o ht=>
  intro hS;obtain⟨m,e,tl,h1,h2,h3⟩:=ht;obtain⟨n',⟨e',tl'⟩,k1,k2,k3⟩:=he.tk k m _ hS h1;refine .ve ⟨n',e',tl',k1,by omega,fun e=>?_⟩;have hn:n'=m:=by omega
  have:=k3 hn;simp only[Prod.mk.injEq] at this;obtain⟨rfl,rfl⟩:=this;exact h3 (by omega)
 | @ro cells b o vs hc hr ih=>
  intro hS;simp only[D.all] at hS;refine .ro b o vs (fun j d hj=>?_) (fun j d hj=>ih j d hj (allL_get hS hj));have:=hc j d hj;have hb:=cell_lt this.1;exact⟨(he.cell _ _ hb this.2).trans this.1,he.nomut _ _ hb this.2⟩
 | agg hl hr ih=>intro hS; simp only[D.all] at hS; exact .agg hl fun j d x hj hx=>ih j d x hj hx (allL_get hS hj)
 | tup hl hr ih=>intro hS; simp only[D.all] at hS; exact .tup hl fun j d x hj hx=>ih j d x hj hx (allL_get hS hj)
 | clo hf hcl hrf hrc ih1 ih2=>
  intro hS; simp only[D.all,Bool.and_eq_true] at hS;exact .clo hf hcl (fun j d x hj hx=>ih1 j d x hj hx (allL_get hS.1 hj)) (fun j d x hj hx=>ih2 j d x hj hx (allL_get hS.2 hj))
 | mp hb hm hk hl hr ih=>
  intro hS;simp only[D.all] at hS;have hlt:=(Array.getElem?_eq_some_iff.1 hb).1;exact .mp ((he.block _ hlt hm).trans hb) (fun o=>he.nomut _ o hlt (hm o)) hk hl (fun j d e hj hx=>ih j d e hj hx (allL_get hS hj))
 | gb hb hm hp=>
  intro _;have hlt:=(Array.getElem?_eq_some_iff.1 hb).1;exact .gb ((he.block _ hlt hm).trans hb) (fun o=>he.nomut _ o hlt (hm o)) hp
theorem Rd.mono {S:Key→Bool} {cx cx':Cx} {w w':World} (he:Ext S cx w cx' w') {d:D} {x:Value} (h:Rd cx w d x):d.all S=true→Rd cx' w' d x:=h.monoR he.r
structure Setting where
 P:Program
 G:Nat→D
 keyless:∀g,(G g).all (fun _=>false)=true
def lv (n:Nat):Key→Bool:=fun k=>decide (k.1<n)
def foot (cx:Cx) (st:St) (k:Key) (b o:Nat):Prop:=
 (∃cs o0,st.get k=some (.cells cs)∧cx.bx k=some (b,o0)∧o0≤o∧o<o0+cs.length) ∨
 (∃ob n e c z,(st.get k=some ob∧ob.row=some (n,e))∧cx.tk k=some (n,e,some (b,c,z))∧ob.lo z≤o∧o<c*z)
structure Rel (E:Setting) (cx:Cx) (st:St) (w:World):Prop where
 cells:∀k cs,st.get k=some (.cells cs)→allL (lv (k.1+1)) cs=true∧∃b o,cx.bx k=some (b,o)∧∀(j:Nat) d,cs[j]? = some d→∃x,w.cell? ⟨b,o+j,none⟩=some x∧Rd cx w d x
 vec:∀k n e z cs,st.get k=some (.vec n e z cs)→allL (lv (k.1+1)) cs=true∧cs.length=n*z∧(cx.tk k=some (n,e,none)→n=0)∧∀g c z',cx.tk k=some (n,e,some (g,c,z'))→z'=z∧∀(j:Nat) d,cs[j]? = some d→∃x,w.cell? ⟨g,j,none⟩=some x∧Rd cx w d x
 tok:∀k ob n e,st.get k=some ob∧ob.row=some (n,e)→∃tl,cx.tk k=some (n,e,tl)∧match tl with
  | none=>True
  | some (g,c,z)=>n≤c∧c≤maxLen∧∃cur,w.heap[g]? = some (.cells cur e (0,0))∧cur.size=c*z
 foot:∀k b o,foot cx st k b o→(∃x,w.cell? ⟨b,o,none⟩=some x)∧w.frozen? ⟨b,o,none⟩=false∧cx.M b o
 sep:∀k k' b o,Mx.foot cx st k b o→Mx.foot cx st k' b o→k=k'
 domb:∀k l,cx.bx k=some l→∃cs,st.get k=some (.cells cs)
 domt:∀k l,cx.tk k=some l→∃ob n e,st.get k=some ob∧ob.row=some (n,e)
 mlt:∀b o,cx.M b o→b<w.heap.size
 nz:∀k b o,Mx.foot cx st k b o→¬cx.Z b o
 zm:∀b o,cx.Z b o→cx.M b o
 bxlt:∀k b o,cx.bx k=some (b,o)→b<w.heap.size
 apart:∀k k' b o n e g c z,cx.bx k=some (b,o)→cx.tk k'=some (n,e,some (g,c,z))→b≠g
 rows:∀k k' n e n' e' g c z c' z',cx.tk k=some (n,e,some (g,c,z))→cx.tk k'=some (n',e',some (g,c',z'))→k=k'
 glob:∀g,Rd cx w (E.G g) (.pointer (some ⟨g,0,none⟩))
abbrev Env:=Nat→D
def upd (ρ:Env) (t:Nat) (d:D):Env:=fun u=>if u=t then d else ρ u
theorem upd_same (ρ:Env) (t:Nat) (d:D):upd ρ t d t=d:=if_pos rfl
theorem upd_ne (ρ:Env) (t u:Nat) (d:D) (h:u≠t):upd ρ t d u=ρ u:=if_neg h
structure RelF (E:Setting) (N:Nat) (cx:Cx) (ρ:Env) (st:St) (a:Act) (w:World):Prop where
 rel:Rel E cx st w
 size:a.tmps.size=N
 tmps:∀t,Rd cx w (ρ t) (a.tmps.getD t undef)
 defers:a.defers=[]
inductive KI where
 | code (c:Code)
 | inBlock (id:Nat)
 | inLoop (c:Code)
 | ops (all:Array Oper) (rest:List Oper)
 | goal (J:Env→St→Prop)
def kpost (P:Program) (G:(Env→St→Prop)→Act→World→Prop):List KI→(Exit→Act→World→Prop)→Exit→Act→World→Prop
 | [],F=>F
 | .code c::k,F=>Exit.then (c.wp P (kpost P G k F)) (kpost P G k F)
 | .inBlock id::k,F=>Exit.inBlock id (kpost P G k F)
 | .inLoop c::k,F=>Exit.then ((Code.loop c).wp P (kpost P G k F)) (kpost P G k F)
 | .ops all rest::k,F=>Exit.then (wpList P all (kpost P G k F) rest) (kpost P G k F)
 | .goal J::k,F=>Exit.then (G J) (kpost P G k F)
structure Base where
 L:Nat
 cx:Cx
 w:World
 dom:∀k,¬k.1<L→cx.bx k=none∧cx.tk k=none
def Fin (E:Setting) (fn:Func) (F:D→St→Prop) (B:Base):Exit→Act→World→Prop:=
 bodyPost E.P fn fun e w'=>∃d st' cx' v,e=.returned v∧F d st'∧st'.length=B.L∧Rel E cx' st' w'∧Rd cx' w' d v∧Ext (fun _=>true) B.cx B.w cx' w'
def Gc (E:Setting) (N:Nat) (B:Base) (J:Env→St→Prop) (a:Act) (w:World):Prop:=
 ∃ρ st cx,J ρ st∧st.length=B.L+1∧RelF E N cx ρ st a w∧Ext (lv B.L) B.cx B.w cx w
structure Fun where
 fn:Func
 L:Nat
 N:Nat
def AW (E:Setting) (U:Fun) (todo:List KI) (F:D→St→Prop) (ρ:Env) (st:St):Prop:=
 ∀(B:Base) cx a w,B.L=U.L→st.length=U.L+1→Ext (lv B.L) B.cx B.w cx w→RelF E U.N cx ρ st a w →
  kpost E.P (Gc E U.N B) todo (Fin E U.fn F B) .normal a w
def RdL (cx:Cx) (w:World) (ds:List D) (vs:List Value):Prop:=
 ds.length=vs.length∧∀(j:Nat) d x,ds[j]? = some d→vs[j]? = some x→Rd cx w d x
def ACall (E:Setting) (f:Nat) (ds:List D) (st:St) (K:D→St→Prop):Prop:=
 ∀cx w vs,Rel E cx st w→RdL cx w ds vs→Calls E.P f vs.toArray w fun e w'=>
  ∃d st' cx' v,e=.returned v∧K d st'∧st'.length=st.length∧Rel E cx' st' w'∧Rd cx' w' d v∧Ext (fun _=>true) cx w cx' w'
section
variable {E : Setting} {U : Fun} {F : D → St → Prop} {k : List KI} {ρ : Env} {st : St}
theorem AW.seq {x y:Code} (h:AW E U (.code x::.code y::k) F ρ st):AW E U (.code (.seq x y)::k) F ρ st:=
 fun B cx a w hB hl he hr=>wp_seq (h B cx a w hB hl he hr)
theorem AW.skip (h:AW E U k F ρ st):AW E U (.code .skip::k) F ρ st:=
 fun B cx a w hB hl he hr=>wp_skip (h B cx a w hB hl he hr)
theorem AW.block {id:Nat} {c:Code} (h:AW E U (.code c::.inBlock id::k) F ρ st):AW E U (.code (.block id c)::k) F ρ st:=
 fun B cx a w hB hl he hr=>wp_block (h B cx a w hB hl he hr)
theorem AW.inBlock {id:Nat} (h:AW E U k F ρ st):AW E U (.inBlock id::k) F ρ st:=
 fun B cx a w hB hl he hr=>h B cx a w hB hl he hr
theorem AW.region {id:Nat} {l:Array Oper} (h:AW E U (.ops l l.toList::k) F ρ st):AW E U (.code (.region id l false)::k) F ρ st:=
 fun B cx a w hB hl he hr=>wp_region_list (h B cx a w hB hl he hr)
theorem AW.opsNil {l:Array Oper} (h:AW E U k F ρ st):AW E U (.ops l []::k) F ρ st:=
 fun B cx a w hB hl he hr=>wpList_nil (P:=E.P) (ops:=l) (Q:=kpost E.P (Gc E U.N B) k (Fin E U.fn F B)) (h B cx a w hB hl he hr)
theorem AW.goal {J:Env→St→Prop} (h:J ρ st):AW E U (.goal J::k) F ρ st:=
 fun B cx a w hB hl he hr=>⟨ρ,st,cx,h,by omega,hr,he⟩
def popExit (id:Nat):List KI→Option (List KI)
 | []=>none
 | .inBlock j::k=>if id=j then some k else popExit id k
 | _::k=>popExit id k
theorem kpost_exit {P:Program} {G:(Env→St→Prop)→Act→World→Prop} {id:Nat} {Q:Exit→Act→World→Prop} {a:Act} {w:World} :
  ∀{k k':List KI},popExit id k=some k'→kpost P G k' Q .normal a w→kpost P G k Q (.exit id) a w:=by
 intro k
 induction k with
 | nil=>intro k' h; simp[popExit] at h
 | cons x k ih=>
  intro k' h hk;cases x with
  | inBlock j=>
   simp only[popExit] at h;by_cases hj:id=j
   ·rw[if_pos hj] at h;cases h;simp only[kpost,Exit.inBlock,hj,if_true];exact hk
   ·rw[if_neg hj] at h;simp only[kpost,Exit.inBlock,hj,if_false];exact ih h hk
  | code c=>exact ih h hk
  | inLoop c=>exact ih h hk
  | ops a b=>exact ih h hk
  | goal J=>exact ih h hk
theorem AW.exit {id:Nat} {k':List KI} (hp:popExit id k=some k') (h:AW E U k' F ρ st):AW E U (.code (.exit id)::k) F ρ st:=
 fun B cx a w hB hl he hr=>wp_exit (kpost_exit hp (h B cx a w hB hl he hr))
def ev (E:Setting) (ρ:Env):Operand→D
 | .tmp t=>ρ t
 | .const v=>.v v
 | .global g=>E.G g
 | .func f=>.clo (.func f) [] []
theorem RelF.eval {N:Nat} {cx:Cx} {a:Act} {w:World} (h:RelF E N cx ρ st a w) (o:Operand):Rd cx w (ev E ρ o) (a.eval o):=by
 cases o with
 | tmp t=>exact h.tmps t
 | const v=>exact .v v
 | global g=>exact h.rel.glob g
 | func f=>exact .clo (fv:=[]) (cv:=[]) rfl rfl (by simp) (by simp)
theorem AW.cond {c:Operand} {x y:Code} {t:Bool} (hc:ev E ρ c=.v (.bool t)) (h1:t=true→AW E U (.code x::k) F ρ st) (h2:t=false→AW E U (.code y::k) F ρ st) :
  AW E U (.code (.cond c x y)::k) F ρ st:=by
 intro B cx a w hB hl he hr;have:=hr.eval c;rw[hc] at this;generalize hv:a.eval c=v at this;cases this;refine wp_cond (t:=t) hv ?_;cases t
 ·exact h2 rfl B cx a w hB hl he hr
 ·exact h1 rfl B cx a w hB hl he hr
theorem kpost_ret {P:Program} {G:(Env→St→Prop)→Act→World→Prop} {Q:Exit→Act→World→Prop} {a:Act} {w:World} :
  ∀{k:List KI},Q .ret a w→kpost P G k Q .ret a w:=by
 intro k
 induction k with
 | nil=>exact id
 | cons x k ih=>intro h; cases x <;> exact ih h
def resD (ρ:Env):List ResultVar→Option (List D)
 | []=>some []
 | .tmp t::r=>(resD ρ r).map (ρ t::·)
 | .cell _ _::_=>none
def resOf:List D→D
 | [d]=>d
 | ds=>.tup ds
def oneRes (tmps:Array Value):ResultVar→Sem Value
 | .tmp t=>pure (tmps.getD t undef)
 | .cell b t=>do loadVar t (← asAddr (tmps.getD b undef))
theorem results_eq (fn:Func) (tmps:Array Value):results fn tmps=(fn.results.mapM (oneRes tmps) >>= fun vs=>pure (if h:vs.size=1 then vs[0] else .tuple vs)):=by
 unfold results;have:(oneRes tmps)=(fun | .tmp t=>pure (tmps.getD t undef) | .cell a t=>do loadVar t (← asAddr (tmps.getD a undef))):=by
  funext x; cases x <;> rfl
 rw[this];congr
theorem mapM_results {P:Program} {w:World} {a:Act}:∀{l:List ResultVar} {ρ:Env} {ds:List D},resD ρ l=some ds →
  ∃vs,(l.mapM (oneRes a.tmps)).run P w=.ok vs w ∧
   vs.length=ds.length∧∀(j:Nat) d x,ds[j]? = some d→vs[j]? = some x→∃t,d=ρ t∧x=a.tmps.getD t undef:=by
 intro l
 induction l with
 | nil=>intro ρ ds h; simp only[resD,Option.some.injEq] at h; subst h; exact⟨[],rfl,rfl,by simp⟩
 | cons r l ih=>
  intro ρ ds h;cases r with
  | cell b t=>simp[resD] at h
  | tmp t=>
   simp only[resD] at h;cases hr:resD ρ l with
   | none=>simp[hr] at h
   | some ds'=>
    simp only[hr,Option.map_some,Option.some.injEq] at h;subst h;obtain⟨vs,h1,h2,h3⟩:=ih hr;refine⟨a.tmps.getD t undef::vs,?_,by simp[h2],?_⟩
    ·rw[List.mapM_cons,Sem.run_bind]; simp only[oneRes,Sem.run_pure,Result.andThen_ok,Sem.run_bind]; rw[h1]; rfl
    ·intro j d x hd hx;cases j with
     | zero=>simp only[List.getElem?_cons_zero,Option.some.injEq] at hd hx; exact⟨t,hd.symm,hx.symm⟩
     | succ j=>simp at hd hx; exact h3 j d x hd hx
theorem run_results {P:Program} {fn:Func} {w:World} {a:Act} {ρ:Env} {ds:List D} (h:resD ρ fn.results.toList=some ds) {cx:Cx} (hr:∀t,Rd cx w (ρ t) (a.tmps.getD t undef)) :
  ∃v,(results fn a.tmps).run P w=.ok v w∧Rd cx w (resOf ds) v:=by
 obtain⟨vs,h1,h2,h3⟩:=mapM_results (P:=P) (w:=w) (a:=a) h;have hm:(fn.results.mapM (oneRes a.tmps)).run P w=.ok vs.toArray w:=by
  rw[← Array.toArray_toList (xs:=fn.results),List.mapM_toArray,Sem.run_map,h1]; rfl
 have hrd:∀(j:Nat) d x,ds[j]? = some d→vs[j]? = some x→Rd cx w d x:=fun j d x hd hx=>by
  obtain⟨t,rfl,rfl⟩:=h3 j d x hd hx;exact hr t
 refine⟨if h:vs.toArray.size=1 then vs.toArray[0] else .tuple vs.toArray,?_,?_⟩
 ·rw[results_eq,Sem.run_bind,hm]; rfl
 ·match ds,vs,h2 with
  | [d],[x],_=>exact hrd 0 d x rfl rfl
  | [],[],_=>exact .tup (vs:=[]) rfl (by simp)
  | d::d'::ds,x::x'::vs,h2=>
   rw[dif_neg (by simp)];exact .tup h2.symm hrd
end
theorem St.get_ge:∀{st:St} {k:Key},st.length≤k.1→st.get k=none
 | [],_,_=>rfl
 | fr::r,k,h=>by
  simp only[List.length_cons] at h;simp only[St.get];rw[if_neg (by omega)];exact St.get_ge (by omega)
theorem St.get_tail {fr:Fr} {st:St} {k:Key} (h:k.1<st.length):St.get (fr::st) k=St.get st k:=by
 simp only[St.get]; rw[if_neg (by omega)]
theorem St.get_empty {st:St} {k:Key}:St.get ((fun _=>none)::st) k=St.get st k:=by
 simp only[St.get];split
 ·rename_i h; exact(St.get_ge (by omega)).symm
 ·rfl
theorem foot_congr {cx:Cx} {st st':St} (h:∀k,st.get k=st'.get k) {k:Key} {b o:Nat} (hf:foot cx st k b o):foot cx st' k b o:=by
 unfold foot at *; rw[h k] at hf; exact hf
theorem Rel.congr {E:Setting} {cx:Cx} {st st':St} {w:World} (h:∀k,st.get k=st'.get k) (r:Rel E cx st w):Rel E cx st' w where
 cells k cs hk:=r.cells k cs ((h k).trans hk)
 vec k n e z cs hk:=r.vec k n e z cs ((h k).trans hk)
 tok k ob n e hk:=r.tok k ob n e ⟨(h k).trans hk.1,hk.2⟩
 foot k b o hk:=r.foot k b o (foot_congr (fun k=>(h k).symm) hk)
 sep k k' b o hk hk':=r.sep k k' b o (foot_congr (fun k=>(h k).symm) hk) (foot_congr (fun k=>(h k).symm) hk')
 domb k l hk:=by obtain⟨cs,e⟩:=r.domb k l hk; exact⟨cs,(h k).symm.trans e⟩
 domt k l hk:=by obtain⟨ob,n,e,h',h0⟩:=r.domt k l hk; exact⟨ob,n,e,(h k).symm.trans h',h0⟩
 mlt:=r.mlt
 nz k b o hk:=r.nz k b o (foot_congr (fun k=>(h k).symm) hk)
 zm:=r.zm
 bxlt:=r.bxlt
 apart:=r.apart
 rows:=r.rows
 glob:=r.glob
theorem Rel.vecKeep {E:Setting} {cx cx':Cx} {st:St} {w w':World} (r:Rel E cx st w) {k:Key} {n:Nat} {e:TypeId} {z:Nat} {cs:List D} (hs:st.get k=some (.vec n e z cs)) (htk:cx'.tk k=cx.tk k)
  (hcell:∀g c z' (j:Nat) x,cx.tk k=some (n,e,some (g,c,z'))→j<n*z→w.cell? ⟨g,j,none⟩=some x→w'.cell? ⟨g,j,none⟩=some x) (hrd:∀(j:Nat) d x,cs[j]? = some d→Rd cx w d x→Rd cx' w' d x) :
  allL (lv (k.1+1)) cs=true∧cs.length=n*z∧(cx'.tk k=some (n,e,none)→n=0)∧∀g c z',cx'.tk k=some (n,e,some (g,c,z'))→z'=z∧∀(j:Nat) d,cs[j]? = some d→∃x,w'.cell? ⟨g,j,none⟩=some x∧Rd cx' w' d x:=by
 obtain⟨h1,h2,h3,h4⟩:=r.vec k n e z cs hs;rw[htk];refine⟨h1,h2,h3,fun g c z' hk=>⟨(h4 g c z' hk).1,fun j d hj=>?_⟩⟩;obtain⟨x,hx,hr⟩:=(h4 g c z' hk).2 j d hj;exact⟨x,hcell g c z' j x hk (by rw[← h2]; exact(List.getElem?_eq_some_iff.1 hj).1) hx,hrd j d x hj hr⟩
theorem Rel.bodyLv {E:Setting} {cx:Cx} {st:St} {w:World} (r:Rel E cx st w) {k:Key} {ob:AObj} (h:st.get k=some ob):allL (lv (k.1+1)) ob.body=true:=by
 cases ob with
 | cells cs=>exact(r.cells k cs h).1
 | tok n e=>rfl
 | vec n e z cs=>exact(r.vec k n e z cs h).1
theorem Rel.noKey {E:Setting} {cx:Cx} {st:St} {w:World} (r:Rel E cx st w) (k:Key) (h:¬k.1<st.length):cx.bx k=none∧cx.tk k=none:=by
 have hg:=St.get_ge (st:=st) (k:=k) (by omega);constructor
 ·cases hb:cx.bx k with
  | none=>rfl
  | some l=>obtain⟨cs,e⟩:=r.domb k l hb; rw[hg] at e; cases e
 ·cases hb:cx.tk k with
  | none=>rfl
  | some l=>obtain⟨ob,n,_,e,_⟩:=r.domt k l hb; rw[hg] at e; cases e
def Cx.cut (cx:Cx) (L:Nat):Cx:={ bx:=fun k=>if k.1<L then cx.bx k else none,tk:=fun k=>if k.1<L then cx.tk k else none,M:=cx.M,Z:=cx.Z }
theorem Ext.cut (cx:Cx) (w:World) (L:Nat):Ext (lv L) cx w (cx.cut L) w where
 os:=rfl
 tape:=rfl
 output:=rfl
 size:=Nat.le_refl _
 block _ _ _:=rfl
 cell _ _ _ _:=rfl
 nomut _ _ _ h:=h
 bx k l hk h:=by simp only[lv,decide_eq_true_eq] at hk; simp only[Cx.cut,hk,if_true]; exact h
 tk k n l hk h:=by simp only[lv,decide_eq_true_eq] at hk; exact⟨n,l,by simp only[Cx.cut,hk,if_true]; exact h,Nat.le_refl _,fun _=>rfl⟩
 zz:=rfl
 rowold k n e g c z h _:=by
  simp only[Cx.cut] at h;split at h
  ·exact⟨k,n,e,c,z,h⟩
  ·cases h
 fz _ _ _:=rfl
theorem D.both {m1:D→Prop} {m2:List (List D)→Prop} {m3:List D→Prop}
  (hv:∀x,m1 (.v x)) (ha:m1 .any) (hsl:∀sz tok xs,m2 xs→m1 (.sl sz tok xs)) (hbx:∀k o,m1 (.bx k o)) (hsb:∀k n,m1 (.sb k n)) (hvs:∀k z n,m1 (.vs k z n)) (hve:∀k z n i o,m1 (.ve k z n i o)) (hro:∀cs,m3 cs→m1 (.ro cs))
  (hag:∀cs,m3 cs→m1 (.agg cs)) (htu:∀cs,m3 cs→m1 (.tup cs)) (hcl:∀fn a b,m3 a→m3 b→m1 (.clo fn a b)) (hmp:∀ks ds,m3 ds→m1 (.mp ks ds)) (hgb:∀p,m1 (.gb p))
  (h2n:m2 []) (h2c:∀l r,m3 l→m2 r→m2 (l::r)) (h3n:m3 []) (h3c:∀d r,m1 d→m3 r→m3 (d::r)) :
  (∀d,m1 d)∧(∀l,m3 l)∧(∀l,m2 l):=by
 have h1:∀d,m1 d:=fun d=>D.rec (motive_1:=m1) (motive_2:=m2) (motive_3:=m3) hv ha hsl hbx hsb hvs hve hro hag htu hcl hmp hgb h2n h2c h3n h3c d;have h3:∀l,m3 l:=fun l=>by
  induction l with
  | nil=>exact h3n
  | cons d r ih=>exact h3c d r (h1 d) ih
 exact⟨h1,h3,fun l=>by
  induction l with
  | nil=>exact h2n
  | cons d r ih=>exact h2c d r (h3 d) ih⟩
theorem all_mono {p q:Key→Bool} (h:∀k,p k=true→q k=true):(∀d:D,d.all p=true→d.all q=true)∧(∀l:List D,allL p l=true→allL q l=true)∧(∀l:List (List D),allLL p l=true→allLL q l=true):=by
 have ht:∀t:Tok,t.all p=true→t.all q=true:=fun t=>by cases t <;> simp[Tok.all] <;> exact h _
 exact D.both (fun _ _=>rfl) (fun _=>rfl) (fun sz tok xs ih h=>by simp only[D.all,Bool.and_eq_true] at *; exact⟨ht _ h.1,ih h.2⟩) (fun k _ hk=>by simp only[D.all] at *; exact h _ hk) (fun k _ hk=>by simp only[D.all] at *; exact h _ hk) (fun k _ _ hk=>by simp only[D.all] at *; exact h _ hk) (fun k _ _ _ _ hk=>by simp only[D.all] at *; exact h _ hk)
   (fun _ ih hk=>by simp only[D.all] at *; exact ih hk) (fun _ ih hk=>by simp only[D.all] at *; exact ih hk) (fun _ ih hk=>by simp only[D.all] at *; exact ih hk)
   (fun _ _ _ i1 i2 hk=>by simp only[D.all,Bool.and_eq_true] at *; exact⟨i1 hk.1,i2 hk.2⟩) (fun _ _ ih hk=>by simp only[D.all] at *; exact ih hk) (fun _ _=>rfl)
   (fun _=>rfl) (fun _ _ i1 i2 hk=>by simp only[allLL,Bool.and_eq_true] at *; exact⟨i1 hk.1,i2 hk.2⟩)
   (fun _=>rfl) (fun _ _ i1 i2 hk=>by simp only[allL,Bool.and_eq_true] at *; exact⟨i1 hk.1,i2 hk.2⟩)
theorem Rel.cut {E:Setting} {cx:Cx} {fr:Fr} {st:St} {w:World} (r:Rel E cx (fr::st) w):Rel E (cx.cut st.length) st w:=by
 have hget:∀k o,St.get st k=some o→k.1<st.length∧St.get (fr::st) k=some o:=fun k o h=>by
  have hlt:k.1<st.length:=by
   rcases Nat.lt_or_ge k.1 st.length with h' | h'
   ·exact h'
   ·rw[St.get_ge h'] at h; cases h
  exact⟨hlt,(St.get_tail hlt).trans h⟩
 have hfoot:∀k b o,Mx.foot (cx.cut st.length) st k b o→Mx.foot cx (fr::st) k b o:=fun k b o h=>by
  rcases h with ⟨cs,o0,h1,h2,h3⟩ | ⟨ob,n,e,c,z,⟨h1,h0⟩,h2,h3⟩
  ·obtain⟨hlt,hg⟩:=hget _ _ h1;simp only[Cx.cut,hlt,if_true] at h2;exact .inl ⟨cs,o0,hg,h2,h3⟩
  ·obtain⟨hlt,hg⟩:=hget _ _ h1;simp only[Cx.cut,hlt,if_true] at h2;exact .inr ⟨ob,n,e,c,z,⟨hg,h0⟩,h2,h3⟩
 refine⟨fun k cs h=>?_,fun k n e z cs h=>?_,fun k ob n e h=>?_,fun k b o h=>r.foot k b o (hfoot k b o h),fun k k' b o h h'=>r.sep k k' b o (hfoot k b o h) (hfoot k' b o h'),fun k l h=>?_,fun k l h=>?_,r.mlt,fun k b o h=>r.nz k b o (hfoot k b o h),r.zm,fun k b o h=>by { simp only[Cx.cut] at h; split at h; { exact r.bxlt k b o h }; { cases h } },
  fun k k' b o n e g c z h h'=>?_,fun k k' n e n' e' g c z c' z' h h'=>?_,fun g=>?_⟩
 ·obtain⟨hlt,hg⟩:=hget _ _ h;obtain⟨h1,b,o,h2,h3⟩:=r.cells k cs hg;refine⟨h1,b,o,by simp only[Cx.cut,hlt,if_true]; exact h2,fun j d hj=>?_⟩;obtain⟨x,hx,hr⟩:=h3 j d hj;refine⟨x,hx,hr.mono (Ext.cut cx w st.length) ?_⟩;exact(all_mono (fun q hq=>by simp only[lv,decide_eq_true_eq] at *; omega)).1 d (allL_get h1 hj)
 ·obtain⟨hlt,hg⟩:=hget _ _ h;obtain⟨h1,h2,h3,h4⟩:=r.vec k n e z cs hg;have htk:(cx.cut st.length).tk k=cx.tk k:=if_pos hlt;rw[htk];refine⟨h1,h2,h3,fun g c z' hk=>⟨(h4 g c z' hk).1,fun j d hj=>?_⟩⟩;obtain⟨x,hx,hr⟩:=(h4 g c z' hk).2 j d hj;refine⟨x,hx,hr.mono (Ext.cut cx w st.length) ?_⟩;exact(all_mono (fun q hq=>by simp only[lv,decide_eq_true_eq] at *; omega)).1 d (allL_get h1 hj)
 ·obtain⟨hlt,hg⟩:=hget _ _ h.1;obtain⟨l,hl,hl'⟩:=r.tok k ob n e ⟨hg,h.2⟩;exact⟨l,by simp only[Cx.cut,hlt,if_true]; exact hl,hl'⟩
 ·simp only[Cx.cut] at h;split at h
  ·rename_i hlt;obtain⟨cs,e⟩:=r.domb k l h;exact⟨cs,(St.get_tail hlt).symm.trans e⟩
  ·cases h
 ·simp only[Cx.cut] at h;split at h
  ·rename_i hlt;obtain⟨ob,n,e,h',h0⟩:=r.domt k l h;exact⟨ob,n,e,(St.get_tail hlt).symm.trans h',h0⟩
  ·cases h
 ·simp only[Cx.cut] at h h';split at h <;> split at h' <;> first | exact r.apart _ _ _ _ _ _ _ _ _ h h' | cases h | cases h'
 ·simp only[Cx.cut] at h h';split at h <;> split at h' <;> first | exact r.rows _ _ _ _ _ _ _ _ _ _ _ h h' | cases h | cases h'
 ·exact(r.glob g).mono (Ext.cut cx w st.length) ((all_mono (fun q hq=>by cases hq)).1 _ (E.keyless g))
section
variable {E : Setting} {U : Fun} {F : D → St → Prop} {k : List KI} {ρ : Env} {fr : Fr} {st : St}
theorem Fin_of {B:Base} {cx:Cx} {a:Act} {w:World} {ds:List D} (hres:resD ρ U.fn.results.toList=some ds) (hall:(resOf ds).all (lv st.length)=true) (hF:F (resOf ds) st)
  (hB:B.L=U.L) (hl:(fr::st).length=U.L+1) (he:Ext (lv B.L) B.cx B.w cx w) (hr:RelF E U.N cx ρ (fr::st) a w):a.defers=[]∧∃v,(results U.fn a.tmps).run E.P w=.ok v w ∧
   ∃d st' cx' v',Ending.returned v=.returned v'∧F d st'∧st'.length=B.L∧Rel E cx' st' w∧Rd cx' w d v'∧Ext (fun _=>true) B.cx B.w cx' w:=by
 obtain⟨v,h1,h2⟩:=run_results (P:=E.P) (fn:=U.fn) (w:=w) (a:=a) hres hr.tmps;have hlen:st.length=B.L:=by simp at hl; omega
 refine⟨hr.defers,v,h1,resOf ds,st,cx.cut st.length,v,rfl,hF,hlen,hr.rel.cut,h2.mono (Ext.cut cx w st.length) hall,?_⟩;have e2:=he.trans ((Ext.cut cx w st.length).weaken (fun k hk=>by rw[hlen]; exact hk));refine⟨e2.os,e2.tape,e2.output,e2.size,e2.block,e2.cell,e2.nomut,fun key l _ hl=>?_,fun key n l _ hl=>?_,e2.zz,e2.rowold,e2.fz⟩
 ·by_cases hk:key.1<B.L
  ·exact e2.bx key l (by simp[lv,hk]) hl
  ·rw[(B.dom key hk).1] at hl; cases hl
 ·by_cases hk:key.1<B.L
  ·exact e2.tk key n l (by simp[lv,hk]) hl
  ·rw[(B.dom key hk).2] at hl; cases hl
theorem AW.nil {ds:List D} (hres:resD ρ U.fn.results.toList=some ds) (hall:(resOf ds).all (lv st.length)=true) (hF:F (resOf ds) st):AW E U [] F ρ (fr::st):=
 fun B cx a w hB hl he hr=>Fin_of hres hall hF hB hl he hr
end
def enter (ds:List D):Env:=fun t=>(ds[t]?).getD (.v undef)
theorem acall_body {E:Setting} {f:Nat} {fn:Func} {c:Code} {ds:List D} {st:St} {K:D→St→Prop} (hf:E.P.funcs[f]? = some fn) (hb:fn.body=some c) {N:Nat} (hN:fn.ntmps=N) (hn:Nat.ble ds.length N=true)
  (h:AW E ⟨fn,st.length,N⟩ [.code c] K (enter ds) ((fun _=>none)::st)):ACall E f ds st K:=by
 intro cx w vs hr hd;subst hN;have hn:=Nat.le_of_ble_eq_true hn;refine calls_of_wp hf hb ?_;have hw:∀t,Rd cx w (enter ds t) ((vs.toArray++Array.replicate (fn.ntmps-vs.toArray.size) undef).getD t undef):=fun t=>by
  unfold enter;simp only[Array.getD_eq_getD_getElem?];by_cases ht:t<ds.length
  ·have ht':t<vs.length:=by rw[← hd.1]; exact ht
   have e1:ds[t]? = some ds[t]:=List.getElem?_eq_getElem ht;have e2:(vs.toArray++Array.replicate (fn.ntmps-vs.toArray.size) undef)[t]? = some vs[t]:=by
    rw[Array.getElem?_append_left (by simpa using ht')]; simp[ht']
   rw[e1,e2];exact hd.2 t _ _ e1 (List.getElem?_eq_getElem ht')
  ·have e1:ds[t]? = none:=List.getElem?_eq_none (by omega);have e2:((vs.toArray++Array.replicate (fn.ntmps-vs.toArray.size) undef)[t]?).getD undef=undef:=by
    rw[Array.getElem?_append_right (by simp; rw[← hd.1]; omega)];rw[Array.getElem?_replicate];split <;> rfl
   rw[e1,e2];exact .v _
 have:=h ⟨st.length,cx,w,hr.noKey⟩ cx { tmps:=vs.toArray++Array.replicate (fn.ntmps-vs.toArray.size) undef,defers:=[] } w rfl (by simp) (Ext.refl _ _ _)
  ⟨hr.congr (fun k=>St.get_empty.symm),by have:=hd.1; simp; omega,hw,rfl⟩
 exact this
theorem AW.loop {E:Setting} {U:Fun} {F:D→St→Prop} {k:List KI} {ρ:Env} {st:St} {c:Code} {ι:Type} (I:ι→Env→St→Prop) (μ:ι→Nat) (i0:ι) (h0:I i0 ρ st)
  (step:∀i ρ st,st.length=U.L+1→I i ρ st→AW E U (.code c::.goal (fun ρ' st'=>∃j,μ j<μ i∧I j ρ' st')::k) F ρ st):AW E U (.code (.loop c)::k) F ρ st:=by
 intro B cx a w hB hl he hr
 let C:Nat→Act→World→Prop:=fun n a w=>∃i ρ st cx,μ i=n∧I i ρ st∧st.length=U.L+1∧Ext (lv B.L) B.cx B.w cx w∧RelF E U.N cx ρ st a w
 have key:∀n a w,C n a w→∃m,C m a w∧∀m',C m' a w→m≤m':=by
  intro n
  induction n using Nat.strongRecOn with
  | _ n ih=>
   intro a w hC;by_cases hm:∃m,m<n∧C m a w
   ·obtain⟨m,hlt,hc⟩:=hm;exact ih m hlt a w hc
   ·exact⟨n,hC,fun m' hc=>by rcases Nat.lt_or_ge m' n with h | h; exact absurd ⟨m',h,hc⟩ hm; exact h⟩
 let M:Act→World→Nat:=fun a w=>Classical.epsilon fun m=>C m a w∧∀m',C m' a w→m≤m'
 have hM:∀n a w,C n a w→C (M a w) a w∧M a w≤n:=by
  intro n a w hC;have h:=Classical.epsilon_spec (key n a w hC);exact⟨h.1,h.2 n hC⟩
 refine wp_loop (fun a w=>∃n,C n a w) M ⟨_,i0,ρ,st,cx,rfl,h0,hl,he,hr⟩ ?_;rintro a w ⟨n,hC⟩;obtain⟨⟨i,ρ,st,cx,hμ,hI,hl,he,hr⟩,_⟩:=hM n a w hC;have:=step i ρ st hl hI B cx a w hB hl he hr;refine Code.wp_mono (fun e a' w' h=>?_) this;cases e with
 | normal=>
  obtain⟨ρ',st',cx',⟨j,hj,hI'⟩,hl',hr',he'⟩:=h;have hc:C (μ j) a' w':=⟨j,ρ',st',cx',rfl,hI',by omega,he',hr'⟩
  refine⟨⟨_,hc⟩,?_⟩;have:=(hM _ _ _ hc).2;omega
 | _=>exact h
end Go.Mx
namespace Go.Mx
set_option linter.unusedVariables false
inductive Shp where
 | struct (fs:List (Nat×Nat)) | slice (e:TypeId) | ptr (e:TypeId) | array (n:Nat) (e:TypeId) | int (k:IntKind) | str | bool | other
def shpOf (P:Program):TypeDesc→Shp
 | .struct fs=>.struct (fs.toList.map fun f=>(f.offset,P.cellsOf f.type))
 | .slice e=>.slice e
 | .pointer e=>.ptr e
 | .array n e=>.array n e
 | .int k=>.int k
 | .string=>.str
 | .bool=>.bool
 | _=>.other
def tShape (P:Program) (t:TypeId):Option (Nat×Nat×Shp):=
 match P.info? t,P.underlying t with
 | some i,some u=>some (i.size,i.bytes,shpOf P u)
 | _,_=>none
def tZero (P:Program) (t:TypeId):Option (List Value):=((P.info? t).bind (·.zero)).map (·.cells.toList)
theorem tShape_parts {P:Program} {t:TypeId} {n b:Nat} {s:Shp} (h:tShape P t=some (n,b,s)):∃i u,P.info? t=some i∧P.underlying t=some u∧i.size=n∧i.bytes=b∧shpOf P u=s:=by
 unfold tShape at h;split at h
 ·rename_i i u hi hu;simp only[Option.some.injEq,Prod.mk.injEq] at h;exact⟨i,u,hi,hu,h.1,h.2.1,h.2.2⟩
 ·cases h
def Shp.agg:Shp→Bool
 | .struct _ | .array _ _=>true
 | _=>false
theorem run_isAgg_shape {P:Program} {t:TypeId} {n b:Nat} {s:Shp} (h:tShape P t=some (n,b,s)) (w:World):(isAgg t).run P w=.ok s.agg w:=by
 obtain⟨i,u,hi,hu,h1,h2,h3⟩:=tShape_parts h;unfold isAgg;rw[Sem.run_bind,run_underlying hu];subst h3;cases u <;> rfl
theorem run_sizeOf_shape {P:Program} {t:TypeId} {n b:Nat} {s:Shp} (h:tShape P t=some (n,b,s)) (w:World):(sizeOf t).run P w=.ok n w:=by
 obtain⟨i,u,hi,hu,h1,h2,h3⟩:=tShape_parts h;unfold sizeOf;rw[Sem.run_bind,run_typeInfo w hi];simp[h1]
theorem put_rd {E:Setting} {N:Nat} {cx:Cx} {ρ:Env} {st:St} {a:Act} {w:World} (h:RelF E N cx ρ st a w) {t:Nat} (ht:Nat.blt t N=true) {d:D} {x:Value} (hx:Rd cx w d x) :
  RelF E N cx (upd ρ t d) st (a.put (some t) x) w where
 rel:=h.rel
 size:=by simp[Act.put,h.size]
 defers:=h.defers
 tmps u:=by
  have ht':t<a.tmps.size:=by rw[h.size]; exact Nat.le_of_ble_eq_true ht
  unfold upd;simp only[Act.put,Array.getD_eq_getD_getElem?];by_cases hu:u=t
  ·subst hu; rw[if_pos rfl,Array.getElem?_setIfInBounds_self_of_lt ht']; exact hx
  ·rw[if_neg hu,Array.getElem?_setIfInBounds_ne (Ne.symm hu)];have:=h.tmps u;rw[Array.getD_eq_getD_getElem?] at this;exact this
theorem RelF.ext.all_true:∀d:D,d.all (fun _=>true)=true:=(D.both (m1:=fun d=>d.all (fun _=>true)=true) (m2:=fun l=>allLL (fun _=>true) l=true) (m3:=fun l=>allL (fun _=>true) l=true)
  (fun _=>rfl) rfl (fun sz tok xs ih=>by simp only[D.all,ih,Bool.and_true]; cases tok <;> rfl) (fun _ _=>rfl) (fun _ _=>rfl) (fun _ _ _=>rfl) (fun _ _ _ _ _=>rfl) (fun _ h=>h) (fun _ h=>h) (fun _ h=>h) (fun _ _ _ h1 h2=>by simp only[D.all,h1,h2]; rfl) (fun _ _ h=>h)
  (fun _=>rfl) rfl (fun _ _ h1 h2=>by simp only[allLL,h1,h2]; rfl) rfl (fun _ _ h1 h2=>by simp only[allL,h1,h2]; rfl)).1
theorem RelF.ext {E:Setting} {N:Nat} {cx cx':Cx} {ρ:Env} {st st':St} {a:Act} {w w':World} (h:RelF E N cx ρ st a w) (he:Ext (fun _=>true) cx w cx' w') (hr:Rel E cx' st' w'):RelF E N cx' ρ st' a w' where
 rel:=hr
 size:=h.size
 defers:=h.defers
 tmps u:=(h.tmps u).mono he ((all_mono (p:=fun _=>true) (fun _ h=>h)).1 _ (RelF.ext.all_true _))
section
variable {E : Setting} {U : Fun} {F : D → St → Prop} {k : List KI} {ρ : Env} {st : St} {all : Array Oper} {rest : List Oper}
def POk (E:Setting) (U:Fun) (ρ:Env) (st:St) (o:Oper) (d:D):Prop:=
 ∀cx a w,RelF E U.N cx ρ st a w→∃x,(∀w',(execOp a.eval o).run E.P w'=.ok (.value x) w')∧Rd cx w d x
def SOk (E:Setting) (U:Fun) (ρ:Env) (st:St) (o:Oper) (ρ':Env) (st':St):Prop:=
 o.guard=none∧st'.length=st.length ∧
 ∀cx a w,RelF E U.N cx ρ st a w→∃nx w' cx' x,(execOp a.eval o).run E.P w=.ok nx w'∧(nx=.value x∨(nx=.skip∧x=undef))∧RelF E U.N cx' ρ' st' (a.put o.dst x) w'∧Ext (fun _=>true) cx w cx' w'
def Hd (cx:Cx) (st:St) (H:Key→Bool) (b o:Nat):Prop:=¬cx.M b o∨∃k,H k=true∧foot cx st k b o
def LOk (E:Setting) (U:Fun) (ρ:Env) (st:St) (H:Key→Bool) (o:Oper) (d:D):Prop:=
 ∀cx a w,RelF E U.N cx ρ st a w→∃x,Rd cx w d x∧∀w',(∀b q,b<w.heap.size→Hd cx st H b q→w'.cell? ⟨b,q,none⟩=w.cell? ⟨b,q,none⟩)→(execOp a.eval o).run E.P w'=.ok (.value x) w'
variable {t : Nat} {ty : TypeId} {pos : String} {af : Array Edge}
theorem P.move {x:Operand}:POk E U ρ st ⟨some t,.move x,ty,pos,af,none⟩ (ev E ρ x):=fun cx a w hr=>⟨a.eval x,fun _=>rfl,hr.eval x⟩
theorem P.assign {x:Operand}:POk E U ρ st ⟨some t,.assign x,ty,pos,af,none⟩ (ev E ρ x):=fun cx a w hr=>⟨a.eval x,fun _=>rfl,hr.eval x⟩
theorem Rd.v_inv {cx:Cx} {w:World} {x y:Value} (h:Rd cx w (.v x) y):y=x:=by cases h; rfl
theorem RelF.lit {N:Nat} {cx:Cx} {a:Act} {w:World} (hr:RelF E N cx ρ st a w) {x:Operand} {v:Value} (h:ev E ρ x=.v v):a.eval x=v:=by
 have:=hr.eval x; rw[h] at this; exact this.v_inv
def bitsI (op:BinOp) (k:IntKind) (x y:Int):Int:=
 let a:=BitVec.ofInt k.bits x
 let b:=BitVec.ofInt k.bits y
 match op with
 | .and=>k.wrap (a &&& b).toNat
 | .or=>k.wrap (a ||| b).toNat
 | .xor=>k.wrap (a ^^^ b).toNat
 | .andNot=>k.wrap (a &&& ~~~b).toNat
 | _=>0
def dbin (op:BinOp):Value→Value→Option Value
 | .int k a,.int k' b=>
  if k=k' then
   match op with
   | .add=>some (.int k (k.wrap (a+b)))
   | .sub=>some (.int k (k.wrap (a-b)))
   | .mul=>some (.int k (k.wrap (a*b)))
   | .quo=>if b=0 then none else some (.int k (k.wrap (a.tdiv b)))
   | .rem=>if b=0 then none else some (.int k (a.tmod b))
   | .eql=>some (.bool (a==b))
   | .neq=>some (.bool (a != b))
   | .lss=>some (.bool (a<b))
   | .leq=>some (.bool (a≤b))
   | .gtr=>some (.bool (a>b))
   | .geq=>some (.bool (a≥b))
   | .and=>some (.int k (bitsI .and k a b))
   | .or=>some (.int k (bitsI .or k a b))
   | .xor=>some (.int k (bitsI .xor k a b))
   | .andNot=>some (.int k (bitsI .andNot k a b))
   | _=>none
  else none
 | .string a,.string b=>
   match op with
   | .add=>if((a.size+b.size:Nat):Int)≤IntKind.i64.max then some (.string (a++b)) else none
   | .eql=>some (.bool (a.toList==b.toList))
   | .neq=>some (.bool !(a.toList==b.toList))
   | .lss=>some (.bool (Op.bytesLess a.toList b.toList))
   | _=>none
 | _,_=>none
theorem run_dbin {P:Program} {op:BinOp} {xt:TypeId} {x y:Operand} {a b v:Value} (h:dbin op a b=some v) (w:World) :
  (do eqGuard op xt x y a b; binOp op xt a b:Sem Value).run P w=.ok v w:=by
 unfold dbin at h;split at h
 ·rename_i k a k' b;split at h
  ·rename_i hk;subst hk;split at h <;> first
    | (simp only[Option.some.injEq] at h; subst h; simp[eqGuard,binOp,Op.intArith,Op.intCmp]; done)
    | (simp only[Option.some.injEq] at h; subst h; simp[eqGuard,binOp,Op.intBits,bitsI]; done)
    | (split at h; cases h; rename_i hb; simp only[Option.some.injEq] at h; subst h; simp[eqGuard,binOp,Op.intDiv,hb]; done)
    | cases h
  ·cases h
 ·rename_i a b;split at h <;> first
    | (simp only[Option.some.injEq] at h; subst h; simp[eqGuard,binOp,Op.stringOp]; done)
    | (split at h; rename_i hb; simp only[Option.some.injEq] at h; subst h; simp only[eqGuard,binOp,Op.stringOp,if_neg (Int.not_lt.2 hb)]; rfl; cases h)
    | cases h
 ·cases h
theorem P.bin {op:BinOp} {xt yt:TypeId} {x y:Operand} {a b v:Value} (hx:ev E ρ x=.v a) (hy:ev E ρ y=.v b) (hv:dbin op a b=some v):POk E U ρ st ⟨some t,.binOp op xt x y yt,ty,pos,af,none⟩ (.v v):=
 fun cx a' w hr=>⟨v,fun w'=>by
  simp only[execOp,hr.lit hx,hr.lit hy];rw[Sem.run_bind,run_dbin hv]; rfl,.v v⟩
end
end Go.Mx
namespace Go.Mx
set_option linter.unusedVariables false
theorem run_loadVar_cell {P:Program} {t:TypeId} {n b:Nat} {s:Shp} (h:tShape P t=some (n,b,s)) (hs:s.agg=false) {w:World} {a:Addr} {x:Value} (hc:w.cell? a=some x) :
  (loadVar t a).run P w=.ok x w:=by
 unfold loadVar;rw[Sem.run_bind,run_isAgg_shape h,hs];simp only[Result.andThen_ok,Bool.false_eq_true,if_false,run_load,hc]
theorem run_loadVar_agg {P:Program} {t:TypeId} {n b:Nat} {s:Shp} (h:tShape P t=some (n,b,s)) (hs:s.agg=true) {w:World} {a:Addr} {vs:List Value} (hl:vs.length=n)
  (hc:∀j v,vs[j]? = some v→w.cell? (a.add j)=some v):(loadVar t a).run P w=.ok (.agg vs.toArray) w:=by
 unfold loadVar;rw[Sem.run_bind,run_isAgg_shape h,hs];simp only[Result.andThen_ok,if_true,Sem.run_bind,run_sizeOf_shape h];rw[← hl,run_loadCells_list w a vs hc]; rfl
theorem pick_list {p:Nat→Value→Prop}:∀{ds:List D} {q:D→Value→Prop},(∀(j:Nat) d,ds[j]? = some d→∃x,p j x∧q d x) →
  ∃vs:List Value,vs.length=ds.length∧∀(j:Nat) d x,ds[j]? = some d→vs[j]? = some x→p j x∧q d x:=by
 intro ds
 induction ds generalizing p with
 | nil=>intro q _; exact⟨[],rfl,by simp⟩
 | cons d r ih=>
  intro q h;obtain⟨x,hx⟩:=h 0 d rfl;obtain⟨vs,h1,h2⟩:=ih (p:=fun j=>p (j+1)) (q:=q) (fun j e hj=>h (j+1) e (by simpa using hj));refine⟨x::vs,by simp[h1],fun j e y hj hy=>?_⟩;cases j with
  | zero=>simp at hj hy; subst hj; subst hy; exact hx
  | succ j=>exact h2 j e y (by simpa using hj) (by simpa using hy)
theorem addr_add (b o j:Nat):(⟨b,o,none⟩:Addr).add j=⟨b,o+j,none⟩:=by unfold Addr.add; split <;> simp_all
theorem len_get {α β:Type} {xs:List α} {ys:List β} (h:xs.length=ys.length) {j:Nat} {y:β} (hy:ys[j]? = some y):∃x,xs[j]? = some x:=by
 have hlt:j<ys.length:=(List.getElem?_eq_some_iff.1 hy).1;exact⟨xs[j],List.getElem?_eq_getElem (by omega)⟩
section
variable {E : Setting} {U : Fun} {F : D → St → Prop} {k : List KI} {ρ : Env} {st : St} {all : Array Oper} {rest : List Oper}
variable {t : Nat} {ty : TypeId} {pos : String} {af : Array Edge} {nn bb : Nat} {ss : Shp} {H : Key → Bool}
theorem RelF.ptr {N:Nat} {cx:Cx} {a:Act} {w:World} (hr:RelF E N cx ρ st a w) {x:Operand} {key:Key} {off:Nat} (h:ev E ρ x=.bx key off) :
  ∃b o,cx.bx key=some (b,o)∧a.eval x=.pointer (some ⟨b,o+off,none⟩):=by
 have:=hr.eval x; rw[h] at this;generalize a.eval x=v at this;cases this with
 | bx hb=>exact⟨_,_,hb,rfl⟩
theorem L.load {ty':TypeId} {x:Operand} {key:Key} {off:Nat} {cs:List D} {d:D} (hT:tShape E.P ty'=some (nn,bb,ss)) (ha:ss.agg=false)
  (hx:ev E ρ x=.bx key off) (hH:H key=true) (hs:st.get key=some (.cells cs)) (hd:cs[off]? = some d):LOk E U ρ st H ⟨some t,.load ty' x,ty,pos,af,none⟩ d:=
 (fun cx a w hr=>by
  obtain⟨b,o,hb,he⟩:=hr.ptr hx;obtain⟨_,b',o',hb',hc⟩:=hr.rel.cells key cs hs;rw[hb] at hb'; cases hb';obtain⟨y,hy,hrd⟩:=hc off d hd;refine⟨y,hrd,fun w' hw=>?_⟩;have hy':w'.cell? ⟨b,o+off,none⟩=some y:=(hw _ _ (cell_lt hy) (.inr ⟨key,hH,.inl ⟨cs,o,hs,hb,by omega,by have:=(List.getElem?_eq_some_iff.1 hd).1; omega⟩⟩)).trans hy;simp only[execOp,he,Instr.loadAt,Instr.sureAddr,Sem.run_bind,Sem.run_pure,Result.andThen_ok,run_loadVar_cell hT ha hy'])
theorem L.loadS {ty':TypeId} {x:Operand} {key:Key} {off:Nat} {cs ds:List D} (hT:tShape E.P ty'=some (nn,bb,ss)) (ha:ss.agg=true)
  (hx:ev E ρ x=.bx key off) (hH:H key=true) (hs:st.get key=some (.cells cs)) (hd:(cs.drop off).take nn=ds) (hl:ds.length=nn):LOk E U ρ st H ⟨some t,.load ty' x,ty,pos,af,none⟩ (.agg ds):=
 (fun cx a w hr=>by
  obtain⟨b,o,hb,he⟩:=hr.ptr hx;obtain⟨_,b',o',hb',hc⟩:=hr.rel.cells key cs hs;rw[hb] at hb'; cases hb';have hds:∀(j:Nat) d,ds[j]? = some d→cs[off+j]? = some d:=fun j d hj=>by
   subst hd;rw[List.getElem?_take] at hj;split at hj
   ·rwa [List.getElem?_drop] at hj
   ·cases hj
  obtain⟨vs,h1,h2⟩:=pick_list (p:=fun j y=>w.cell? ⟨b,o+off+j,none⟩=some y) (q:=Rd cx w) (ds:=ds) (fun j d hj=>by
   obtain⟨y,hy,hrd⟩:=hc (off+j) d (hds j d hj);exact⟨y,by rw[Nat.add_assoc]; exact hy,hrd⟩)
  refine⟨.agg vs.toArray,.agg h1.symm (fun j d y hj hy=>(h2 j d y hj hy).2),fun w' hw=>?_⟩;simp only[execOp,he,Instr.loadAt,Instr.sureAddr,Sem.run_bind,Sem.run_pure,Result.andThen_ok];rw[run_loadVar_agg hT ha (vs:=vs) (by omega) (fun j v hv=>by
   obtain⟨d,hd'⟩:=len_get h1.symm hv;have:=(List.getElem?_eq_some_iff.1 (hds j d hd')).1;rw[addr_add];exact(hw _ _ (cell_lt (h2 j d v hd' hv).1) (.inr ⟨key,hH,.inl ⟨cs,o,hs,hb,by omega,by omega⟩⟩)).trans (h2 j d v hd' hv).1)]; rfl)
theorem RelF.roInv {N:Nat} {cx:Cx} {a:Act} {w:World} (hr:RelF E N cx ρ st a w) {x:Operand} {cells:List D} (h:ev E ρ x=.ro cells) :
  ∃b o,a.eval x=.pointer (some ⟨b,o,none⟩)∧∀(j:Nat) d,cells[j]? = some d→∃y,w.cell? ⟨b,o+j,none⟩=some y∧¬cx.M b (o+j)∧Rd cx w d y:=by
 have:=hr.eval x; rw[h] at this;generalize a.eval x=v at this;cases this with
 | ro b o vs hc hrd=>exact⟨b,o,rfl,fun j d hj=>⟨vs j,(hc j d hj).1,(hc j d hj).2,hrd j d hj⟩⟩
theorem L.loadR {ty':TypeId} {x:Operand} {cs:List D} {d:D} (hT:tShape E.P ty'=some (nn,bb,ss)) (ha:ss.agg=false)
  (hx:ev E ρ x=.ro cs) (hd:cs[0]? = some d):LOk E U ρ st H ⟨some t,.load ty' x,ty,pos,af,none⟩ d:=
 (fun cx a w hr=>by
  obtain⟨b,o,he,hc⟩:=hr.roInv hx;obtain⟨y,hy,hm,hrd⟩:=hc 0 d hd;refine⟨y,hrd,fun w' hw=>?_⟩;have hy':w'.cell? ⟨b,o,none⟩=some y:=(hw _ _ (cell_lt hy) (.inl hm)).trans hy;simp only[execOp,he,Instr.loadAt,Instr.sureAddr,Sem.run_bind,Sem.run_pure,Result.andThen_ok,run_loadVar_cell hT ha hy'])
theorem L.loadRS {ty':TypeId} {x:Operand} {cs ds:List D} (hT:tShape E.P ty'=some (nn,bb,ss)) (ha:ss.agg=true)
  (hx:ev E ρ x=.ro cs) (hd:cs.take nn=ds) (hl:ds.length=nn):LOk E U ρ st H ⟨some t,.load ty' x,ty,pos,af,none⟩ (.agg ds):=
 (fun cx a w hr=>by
  obtain⟨b,o,he,hc⟩:=hr.roInv hx;have hds:∀(j:Nat) d,ds[j]? = some d→cs[j]? = some d:=fun j d hj=>by
   subst hd;rw[List.getElem?_take] at hj;split at hj
   ·exact hj
   ·cases hj
  obtain⟨vs,h1,h2⟩:=pick_list (p:=fun j y=>w.cell? ⟨b,o+j,none⟩=some y∧¬cx.M b (o+j)) (q:=Rd cx w) (ds:=ds) (fun j d hj=>by
   obtain⟨y,hy,hm,hrd⟩:=hc j d (hds j d hj);exact⟨y,⟨hy,hm⟩,hrd⟩)
  refine⟨.agg vs.toArray,.agg h1.symm (fun j d y hj hy=>(h2 j d y hj hy).2),fun w' hw=>?_⟩;simp only[execOp,he,Instr.loadAt,Instr.sureAddr,Sem.run_bind,Sem.run_pure,Result.andThen_ok];rw[run_loadVar_agg hT ha (vs:=vs) (by omega) (fun j v hv=>by
   obtain⟨d,hd'⟩:=len_get h1.symm hv;rw[addr_add];exact(hw _ _ (cell_lt (h2 j d v hd' hv).1.1) (.inl (h2 j d v hd' hv).1.2)).trans (h2 j d v hd' hv).1.1)]; rfl)
theorem run_fieldAt {P:Program} {s:TypeId} {n b:Nat} {fs:List (Nat×Nat)} (h:tShape P s=some (n,b,.struct fs)) {f fo fz:Nat} (hf:fs[f]? = some (fo,fz)) (hz:fz≠0) (w:World) (bl o:Nat) :
  (Instr.fieldAt s (.pointer (some ⟨bl,o,none⟩)) f).run P w=.ok (.pointer (some ⟨bl,o+fo,none⟩)) w:=by
 obtain⟨i,u,hi,hu,h1,h2,h3⟩:=tShape_parts h;cases u <;> simp only[shpOf,Shp.struct.injEq,reduceCtorEq] at h3;rename_i fields;subst h3;rw[List.getElem?_map,Option.map_eq_some_iff] at hf;obtain⟨fd,hfd,he⟩:=hf;simp only[Prod.mk.injEq] at he;obtain⟨rfl,hc⟩:=he;have hfd':fields[f]? = some fd:=by simpa using hfd
 unfold Instr.fieldAt;rw[Sem.run_bind,run_underlying hu];simp only[Result.andThen_ok,hfd',Instr.sureAddr,Sem.run_bind,Sem.run_pure,fieldPlace];have hsz:(sizeOf fd.type).run P w=.ok fz w:=by
  unfold sizeOf Program.cellsOf at *;cases hi':P.info? fd.type with
  | none=>simp[hi'] at hc; omega
  | some j=>simp only[hi',Option.map_some,Option.getD_some] at hc; rw[Sem.run_bind,run_typeInfo w hi']; simp[hc]
 rw[hsz];simp only[Result.andThen_ok,if_neg hz,Sem.run_pure,addr_add]
theorem P.fieldAddr {s:TypeId} {x:Operand} {f fo fz:Nat} {key:Key} {off:Nat} {fs:List (Nat×Nat)} (hT:tShape E.P s=some (nn,bb,.struct fs)) (hf:fs[f]? = some (fo,fz)) (hz:fz≠0)
  (hx:ev E ρ x=.bx key off):POk E U ρ st ⟨some t,.fieldAddr s x f,ty,pos,af,none⟩ (.bx key (off+fo)):=
 (fun cx a w hr=>by
  obtain⟨b,o,hb,he⟩:=hr.ptr hx;refine⟨.pointer (some ⟨b,o+(off+fo),none⟩),fun w'=>?_,.bx hb⟩;simp only[execOp,he,Sem.run_bind,run_fieldAt hT hf hz,Result.andThen_ok,Sem.run_pure,Nat.add_assoc])
theorem P.fieldAddrR {s:TypeId} {x:Operand} {f fo fz:Nat} {cs ds:List D} {fs:List (Nat×Nat)} (hT:tShape E.P s=some (nn,bb,.struct fs)) (hf:fs[f]? = some (fo,fz)) (hz:fz≠0)
  (hx:ev E ρ x=.ro cs) (hd:cs.drop fo=ds):POk E U ρ st ⟨some t,.fieldAddr s x f,ty,pos,af,none⟩ (.ro ds):=
 (fun cx a w hr=>by
  obtain⟨b,o,he,hc⟩:=hr.roInv hx;subst hd;obtain⟨vs,h1,h2⟩:=pick_list (p:=fun j y=>w.cell? ⟨b,o+j,none⟩=some y∧¬cx.M b (o+j)) (q:=Rd cx w) (ds:=cs) (fun j d hj=>by
   obtain⟨y,hy,hm,hrd⟩:=hc j d hj;exact⟨y,⟨hy,hm⟩,hrd⟩)
  refine⟨.pointer (some ⟨b,o+fo,none⟩),fun w'=>?_,.ro b (o+fo) (fun j=>vs.getD (fo+j) undef) (fun j d hj=>?_) (fun j d hj=>?_)⟩
  ·simp only[execOp,he,Sem.run_bind,run_fieldAt hT hf hz,Result.andThen_ok,Sem.run_pure]
  ·rw[List.getElem?_drop] at hj;obtain⟨y,hy⟩:=len_get h1 hj;have:=(h2 _ d y hj hy).1;rw[Nat.add_assoc,List.getD_eq_getElem?_getD,hy];exact this
  ·rw[List.getElem?_drop] at hj;obtain⟨y,hy⟩:=len_get h1 hj;rw[List.getD_eq_getElem?_getD,hy];exact(h2 _ d y hj hy).2)
end
end Go.Mx
namespace Go.Mx
set_option linter.unusedVariables false
theorem rd_sl_inv {cx:Cx} {w:World} {sz:Nat} {tok:Tok} {xs:List (List D)} {v:Value} (h:Rd cx w (.sl sz tok xs) v) :
  ∃a cap,v=.slice a xs.length cap∧xs.length≤cap∧cap≤maxLen∧(∀(i:Nat) cs,xs[i]? = some cs→cs.length=sz)∧TokOk cx a xs.length cap sz tok ∧
   ∃A:Nat×Nat,(xs≠[]→a=some ⟨A.1,A.2,none⟩)∧∀(i j:Nat) cs d,xs[i]? = some cs→cs[j]? = some d →
    ∃y,w.cell? ⟨A.1,A.2+i*sz+j,none⟩=some y∧¬cx.M A.1 (A.2+i*sz+j)∧Rd cx w d y:=by
 cases h with
 | sl A vs hcap hcm hsz ha hc hr ht=>exact⟨_,_,rfl,hcap,hcm,hsz,ht,A,ha,fun i j cs d hi hj=>⟨vs i j,(hc i j cs d hi hj).1,(hc i j cs d hi hj).2,hr i j cs d hi hj⟩⟩
theorem get_nonempty {α:Type} {xs:List α} {i:Nat} {x:α} (h:xs[i]? = some x):xs≠[]:=by rintro rfl; simp at h
theorem run_indexAt {P:Program} {s e:TypeId} {n b ne be:Nat} {se:Shp} (h:tShape P s=some (n,b,.slice e)) (he:tShape P e=some (ne,be,se)) (w:World) (bl o len cap:Nat) (kk:IntKind) (i:Int) (h0:0≤i) (h1:i<len) :
  (Instr.indexAt s (.slice (some ⟨bl,o,none⟩) len cap) (.int kk i)).run P w=.ok (.pointer (some ⟨bl,o+i.toNat*ne,none⟩)) w:=by
 obtain⟨inf,u,hi,hu,g1,g2,g3⟩:=tShape_parts h;cases u <;> simp only[shpOf,Shp.slice.injEq,reduceCtorEq] at g3;subst g3;unfold Instr.indexAt;simp only[asIntOf,Sem.run_bind,Sem.run_pure,Result.andThen_ok,run_underlying hu,run_sizeOf_shape he,h0,h1,and_self,if_true,addr_add]
section
variable {E : Setting} {U : Fun} {F : D → St → Prop} {k : List KI} {ρ : Env} {st : St} {all : Array Oper} {rest : List Oper}
variable {t : Nat} {ty : TypeId} {pos : String} {af : Array Edge} {nn bb : Nat} {ss : Shp}
theorem RelF.slInv {N:Nat} {cx:Cx} {a:Act} {w:World} (hr:RelF E N cx ρ st a w) {x:Operand} {sz:Nat} {tok:Tok} {xs:List (List D)} (h:ev E ρ x=.sl sz tok xs) :
  ∃ad cap,a.eval x=.slice ad xs.length cap∧xs.length≤cap∧cap≤maxLen∧(∀(i:Nat) cs,xs[i]? = some cs→cs.length=sz)∧TokOk cx ad xs.length cap sz tok ∧
   ∃A:Nat×Nat,(xs≠[]→ad=some ⟨A.1,A.2,none⟩)∧∀(i j:Nat) cs d,xs[i]? = some cs→cs[j]? = some d →
    ∃y,w.cell? ⟨A.1,A.2+i*sz+j,none⟩=some y∧¬cx.M A.1 (A.2+i*sz+j)∧Rd cx w d y:=by
 have:=hr.eval x; rw[h] at this; exact rd_sl_inv this
theorem AW.slLen {x:Operand} {sz:Nat} {tok:Tok} {xs:List (List D)} (hx:ev E ρ x=.sl sz tok xs) (h:xs.length≤9223372036854775807→AW E U k F ρ st):AW E U k F ρ st:=
 fun B cx a w hB hl he hr=>by
  obtain⟨ad,cap,_,h1,h2,_⟩:=hr.slInv hx;exact h (by unfold maxLen at h2; omega) B cx a w hB hl he hr
theorem P.indexAddr {s e:TypeId} {n b be:Nat} {se:Shp} {x ix:Operand} {sz:Nat} {tok:Tok} {xs:List (List D)} {kk:IntKind} {i:Int} {cs:List D}
  (h:tShape E.P s=some (n,b,.slice e)) (he:tShape E.P e=some (sz,be,se))
  (hx:ev E ρ x=.sl sz tok xs) (hi:ev E ρ ix=.v (.int kk i)) (h0:0≤i) (hcs:xs[i.toNat]? = some cs):POk E U ρ st ⟨some t,.indexAddr s x ix,ty,pos,af,none⟩ (.ro cs):=
 (fun cx a w hr=>by
  obtain⟨ad,cap,hv,_,_,hsz,_,A,hA,hc⟩:=hr.slInv hx;have hlt:i.toNat<xs.length:=(List.getElem?_eq_some_iff.1 hcs).1;rw[hA (get_nonempty hcs)] at hv;obtain⟨vs,g1,g2⟩:=pick_list (p:=fun j y=>w.cell? ⟨A.1,A.2+i.toNat*sz+j,none⟩=some y∧¬cx.M A.1 (A.2+i.toNat*sz+j)) (q:=Rd cx w) (ds:=cs) (fun j d hj=>by
   obtain⟨y,hy,hm,hrd⟩:=hc _ j cs d hcs hj;exact⟨y,⟨hy,hm⟩,hrd⟩)
  refine⟨.pointer (some ⟨A.1,A.2+i.toNat*sz,none⟩),?_,.ro A.1 (A.2+i.toNat*sz) (fun j=>vs.getD j undef) (fun j d hj=>?_) (fun j d hj=>?_)⟩
  ·intro w'; simp only[execOp,hv,hr.lit hi,Sem.run_bind,run_indexAt h he w' A.1 A.2 xs.length cap kk i h0 (by omega),Result.andThen_ok,Sem.run_pure]
  ·obtain⟨y,hy⟩:=len_get g1 hj;rw[List.getD_eq_getElem?_getD,hy];exact(g2 j d y hj hy).1
  ·obtain⟨y,hy⟩:=len_get g1 hj;rw[List.getD_eq_getElem?_getD,hy];exact(g2 j d y hj hy).2)
theorem P.lit {op:Op} {v:Value} (h:∀(a:Act) (w0 w:World) cx,RelF E U.N cx ρ st a w0→(execOp a.eval ⟨some t,op,ty,pos,af,none⟩).run E.P w=.ok (.value v) w):POk E U ρ st ⟨some t,op,ty,pos,af,none⟩ (.v v):=
 fun cx a w hr=>⟨v,fun w'=>h a w w' cx hr,.v v⟩
theorem run_len_slice {P:Program} {s e:TypeId} {n b:Nat} (h:tShape P s=some (n,b,.slice e)) (r:TypeId) (a:Option Addr) (len cap:Nat) (w:World) :
  (Builtin.len_ #[s] r #[.slice a len cap]).run P w=.ok (.int .i64 len) w:=by
 obtain⟨inf,u,hi,hu,g1,g2,g3⟩:=tShape_parts h;cases u <;> simp only[shpOf,Shp.slice.injEq,reduceCtorEq] at g3;simp[Builtin.len_,run_underlying hu,goInt]
theorem P.len {s e:TypeId} {n b:Nat} {x:Operand} {sz:Nat} {tok:Tok} {xs:List (List D)} (h:tShape E.P s=some (n,b,.slice e)) (hx:ev E ρ x=.sl sz tok xs):POk E U ρ st ⟨some t,.call ⟨.builtin .len,#[x],#[s]⟩,ty,pos,af,none⟩ (.v (.int .i64 xs.length)):=
 P.lit (fun a w0 w cx hr=>by
  obtain⟨ad,cap,hv,_⟩:=hr.slInv hx;have:=run_len_slice h ty ad xs.length cap w;simp only[execOp,resolve,Sem.run_bind,Sem.run_pure,Result.andThen_ok,invoke,builtin,List.map_toArray,List.map_cons,List.map_nil,hv,this])
theorem P.lenS {s:TypeId} {n b:Nat} {x:Operand} {c:ByteArray} (h:tShape E.P s=some (n,b,.str)) (hx:ev E ρ x=.v (.string c)):POk E U ρ st ⟨some t,.call ⟨.builtin .len,#[x],#[s]⟩,ty,pos,af,none⟩ (.v (.int .i64 c.size)):=
 P.lit (fun a w0 w cx hr=>by
  obtain⟨inf,u,hi,hu,g1,g2,g3⟩:=tShape_parts h;cases u <;> simp only[shpOf,reduceCtorEq] at g3;simp[execOp,resolve,invoke,builtin,hr.lit hx,Builtin.len_,run_underlying hu,goInt])
theorem P.not {xt:TypeId} {x:Operand} {b:Bool} (hx:ev E ρ x=.v (.bool b)):POk E U ρ st ⟨some t,.unOp .not xt x,ty,pos,af,none⟩ (.v (.bool !b)):=
 P.lit (fun a w0 w cx hr=>by simp[execOp,hr.lit hx,Op.unary])
theorem P.neg {xt:TypeId} {x:Operand} {kk:IntKind} {i:Int} (hx:ev E ρ x=.v (.int kk i)):POk E U ρ st ⟨some t,.unOp .neg xt x,ty,pos,af,none⟩ (.v (.int kk (kk.wrap (0-i)))):=
 P.lit (fun a w0 w cx hr=>by simp[execOp,hr.lit hx,Op.unary,Op.intArith])
theorem P.maxI {x y:Operand} {at1:Array TypeId} {kk kk':IntKind} {i j:Int} (hx:ev E ρ x=.v (.int kk i)) (hy:ev E ρ y=.v (.int kk' j)):POk E U ρ st ⟨some t,.call ⟨.builtin .max,#[x,y],at1⟩,ty,pos,af,none⟩ (.v (.int kk (if j>i then j else i))):=
 P.lit (fun a w0 w cx hr=>by simp[execOp,resolve,invoke,builtin,hr.lit hx,hr.lit hy,Builtin.max_,Builtin.max2])
theorem P.pick {c x y:Operand} {b:Bool} (hc:ev E ρ c=.v (.bool b)):POk E U ρ st ⟨some t,.pick c x y,ty,pos,af,none⟩ (if b then ev E ρ x else ev E ρ y):=
 (fun cx a w hr=>by
  refine⟨if b then a.eval x else a.eval y,fun w'=>?_,?_⟩
  ·cases b <;> simp[execOp,hr.lit hc,asBool]
  ·cases b
   ·exact hr.eval y
   ·exact hr.eval x)
theorem P.nilCheck {x:Operand} {key:Key} {off:Nat} (hx:ev E ρ x=.bx key off):POk E U ρ st ⟨some t,.nilCheck x,ty,pos,af,none⟩ (.bx key off):=
 (fun cx a w hr=>by
  obtain⟨b,o,hb,he⟩:=hr.ptr hx;exact⟨.pointer (some ⟨b,o+off,none⟩),fun w'=>by simp[execOp,he],.bx hb⟩)
theorem P.extract {x:Operand} {i:Nat} {ds:List D} {d:D} (hx:ev E ρ x=.tup ds) (hd:ds[i]? = some d):POk E U ρ st ⟨some t,.extract x i,ty,pos,af,none⟩ (d):=
 (fun cx a w hr=>by
  have:=hr.eval x; rw[hx] at this;generalize hv:a.eval x=v at this;cases this with
  | tup hl hrd=>
   rename_i vs;obtain⟨y,hy⟩:=len_get hl.symm hd;exact⟨y,fun w'=>by simp[execOp,hv,Instr.extract,hy],hrd i d y hd hy⟩)
theorem P.makeFunc {f:FuncId} {first caps:Array Operand} {fs cs:List D} (h1:first.toList.map (ev E ρ)=fs) (h2:caps.toList.map (ev E ρ)=cs):POk E U ρ st ⟨some t,.makeFunc (.func f) first caps,ty,pos,af,none⟩ (.clo (.func f) fs cs):=
 (fun cx a w hr=>by
  subst h1; subst h2;refine⟨.func (.func f) (first.toList.map a.eval).toArray (caps.toList.map a.eval).toArray,fun w'=>?_,.clo (by simp) (by simp) (fun j d x hd hx=>?_) (fun j d x hd hx=>?_)⟩
  ·simp only[execOp,Instr.makeFunc,Sem.run_bind,Sem.run_pure,Result.andThen_ok,Array.toArray_toList,← List.map_toArray]
  ·rw[List.getElem?_map,Option.map_eq_some_iff] at hd hx;obtain⟨o,ho,rfl⟩:=hd;obtain⟨o',ho',rfl⟩:=hx;rw[ho] at ho'; cases ho';exact hr.eval o
  ·rw[List.getElem?_map,Option.map_eq_some_iff] at hd hx;obtain⟨o,ho,rfl⟩:=hd;obtain⟨o',ho',rfl⟩:=hx;rw[ho] at ho'; cases ho';exact hr.eval o)
theorem P.conv {src dst:TypeId} {x:Operand} {n b:Nat} {kk kk':IntKind} {i:Int} {n' b':Nat} {s':Shp} (hs:tShape E.P src=some (n',b',s')) (hT:tShape E.P dst=some (n,b,.int kk)) (hx:ev E ρ x=.v (.int kk' i)):POk E U ρ st ⟨some t,.convert src dst x,ty,pos,af,none⟩ (.v (.int kk (kk.wrap i))):=
 P.lit (fun a w0 w cx hr=>by
  obtain⟨inf,u,hi,hu,g1,g2,g3⟩:=tShape_parts hT;obtain⟨inf',u',hi',hu',_,_,_⟩:=tShape_parts hs;cases u <;> simp only[shpOf,Shp.int.injEq,reduceCtorEq] at g3;subst g3;simp only[execOp,hr.lit hx,convert,Sem.run_bind,run_underlying hu,run_underlying hu',Result.andThen_ok];cases u' <;> simp[Conv.intToInt])
theorem P.indexS {s:TypeId} {n b:Nat} {x ix:Operand} {c:ByteArray} {kk:IntKind} {i:Int} {y:UInt8} (h:tShape E.P s=some (n,b,.str)) (hx:ev E ρ x=.v (.string c)) (hi:ev E ρ ix=.v (.int kk i)) (h0:0≤i) (hy:c[i.toNat]? = some y):POk E U ρ st ⟨some t,.index s x ix,ty,pos,af,none⟩ (.v (.int .u8 y.toNat)):=
 P.lit (fun a w0 w cx hr=>by
  obtain⟨inf,u,hi',hu,g1,g2,g3⟩:=tShape_parts h;cases u <;> simp only[shpOf,reduceCtorEq] at g3;simp[execOp,hr.lit hx,hr.lit hi,Instr.index,asIntOf,run_underlying hu,h0,hy])
end
end Go.Mx
namespace Go.Mx
set_option linter.unusedVariables false
theorem Fr.upd_same (fr:Fr) (t:Nat) (o:Option AObj):fr.upd t o t=o:=if_pos rfl
theorem Fr.upd_ne (fr:Fr) (t u:Nat) (o:Option AObj) (h:u≠t):fr.upd t o u=fr u:=if_neg h
theorem St.get_set:∀{st:St} {k k':Key} {o:Option AObj},k.1<st.length→(st.set k o).get k'=if k'=k then o else st.get k'
 | [],_,_,_,h=>by simp at h
 | fr::r,k,k',o,h=>by
  have hlen:∀{st:St} {k:Key} {o:Option AObj},(St.set st k o).length=st.length:=by
   intro st k o
   induction st with
   | nil=>rfl
   | cons fr r ih=>simp only[St.set]; split <;> simp[ih]
  simp only[St.set];by_cases hk:k.1=r.length
  ·rw[if_pos hk];simp only[St.get];by_cases hk':k'.1=r.length
   ·rw[if_pos hk',if_pos hk'];unfold Fr.upd;by_cases he:k'=k
    ·rw[if_pos he,if_pos (by rw[he])]
    ·rw[if_neg he,if_neg (fun h2=>he (Prod.ext (by omega) h2))]
   ·rw[if_neg hk',if_neg hk',if_neg (fun he=>hk' (by rw[he]; exact hk))]
  ·rw[if_neg hk];simp only[St.get,hlen];by_cases hk':k'.1=r.length
   ·rw[if_pos hk',if_pos hk',if_neg (fun he=>hk (by rw[← he]; exact hk'))]
   ·rw[if_neg hk',if_neg hk'];exact St.get_set (by simp at h; omega)
theorem St.length_set (st:St) (k:Key) (o:Option AObj):(st.set k o).length=st.length:=by
 induction st with
 | nil=>rfl
 | cons fr r ih=>simp only[St.set]; split <;> simp[ih]
theorem cell_new {w:World} {cs:Array Value} {e:TypeId} {j:Nat} {x:Value} (h:cs[j]? = some x):(w.alloc (.cells cs e (0,0))).cell? ⟨w.heap.size,j,none⟩=some x:=by
 simp only[World.cell?,World.alloc,Array.getElem?_push_size]; exact h
theorem frozen_new {w:World} {cs:Array Value} {e:TypeId} {j:Nat}:(w.alloc (.cells cs e (0,0))).frozen? ⟨w.heap.size,j,none⟩=false:=by
 simp only[World.frozen?,World.alloc,Array.getElem?_push_size]; simp
theorem cell_old {w:World} {o:Go.Obj} {b j:Nat} (h:b<w.heap.size):(w.alloc o).cell? ⟨b,j,none⟩=w.cell? ⟨b,j,none⟩:=World.cell?_alloc_lt (w:=w) (a:=⟨b,j,none⟩) (o:=o) h
theorem frozen_old {w:World} {o:Go.Obj} {b j:Nat} (h:b<w.heap.size):(w.alloc o).frozen? ⟨b,j,none⟩=w.frozen? ⟨b,j,none⟩:=World.frozen?_alloc_old (w:=w) (a:=⟨b,j,none⟩) (o:=o) (Nat.ne_of_lt h)
theorem heap_old {w:World} {o:Go.Obj} {b:Nat} (h:b<w.heap.size):(w.alloc o).heap[b]? = w.heap[b]?:=by
 show(w.heap.push o)[b]? = _; rw[Array.getElem?_push,if_neg (by omega)]
theorem not_foot_new {E:Setting} {cx:Cx} {st:St} {w:World} (r:Rel E cx st w) {k:Key} {b o:Nat} (h:foot cx st k b o):b<w.heap.size:=by
 obtain⟨⟨x,hx⟩,_⟩:=r.foot k b o h;exact cell_lt hx
theorem Rel.row_lt {E:Setting} {cx:Cx} {st:St} {w:World} (r:Rel E cx st w) {k:Key} {n:Nat} {e:TypeId} {g c z:Nat} (h:cx.tk k=some (n,e,some (g,c,z))):g<w.heap.size:=by
 obtain⟨ob,n',e',h'⟩:=r.domt k _ h;obtain⟨tl,h1,h2⟩:=r.tok k ob n' e' h';rw[h] at h1;simp only[Option.some.injEq,Prod.mk.injEq] at h1;obtain⟨_,_,rfl⟩:=h1;obtain⟨_,_,cur,q3,_⟩:=h2;rcases Nat.lt_or_ge g w.heap.size with h' | h'
 ·exact h'
 ·simp[Array.getElem?_eq_none h'] at q3
theorem Rel.new {E:Setting} {cx:Cx} {st:St} {w:World} (r:Rel E cx st w) {key:Key} (hk:st.get key=none) (hlt:key.1<st.length) {ds:List D} {vs:List Value} (e:TypeId)
  (hl:ds.length=vs.length) (hrd:∀(j:Nat) d x,ds[j]? = some d→vs[j]? = some x→Rd cx w d x) (hlev:allL (lv (key.1+1)) ds=true) :
  ∃cx',Rel E cx' (st.set key (some (.cells ds))) (w.alloc (.cells vs.toArray e (0,0)))∧cx'.bx key=some (w.heap.size,0)∧Ext (fun _=>true) cx w cx' (w.alloc (.cells vs.toArray e (0,0))):=by
 have hnb:cx.bx key=none:=by
  cases h:cx.bx key with
  | none=>rfl
  | some l=>obtain⟨cs,e⟩:=r.domb key l h; rw[hk] at e; cases e
 have hnt:cx.tk key=none:=by
  cases h:cx.tk key with
  | none=>rfl
  | some l=>obtain⟨_,n,_,e,_⟩:=r.domt key l h; rw[hk] at e; cases e
 let cx':Cx:={ bx:=fun k=>if k=key then some (w.heap.size,0) else cx.bx k,tk:=cx.tk,M:=fun b o=>cx.M b o∨b=w.heap.size,Z:=cx.Z }
 have hext:Ext (fun _=>true) cx w cx' (w.alloc (.cells vs.toArray e (0,0))):=by
  refine⟨rfl,rfl,rfl,by simp only[World.alloc,Array.size_push]; omega,fun b hb _=>heap_old hb,fun b o hb _=>cell_old hb,fun b o hb hm h=>?_,fun k l _ h=>?_,fun k n l _ h=>⟨n,l,h,Nat.le_refl _,fun _=>rfl⟩,rfl,fun k n e g c z h _=>⟨k,n,e,c,z,h⟩,fun b o hb=>frozen_old hb⟩
  ·rcases h with h | h
   ·exact hm h
   ·omega
  ·show(if k=key then _ else cx.bx k)=_;rw[if_neg (fun he=>by subst he; rw[hnb] at h; cases h)]; exact h
 have hmono:∀{d x},Rd cx w d x→Rd cx' (w.alloc (.cells vs.toArray e (0,0))) d x:=fun h=>h.mono hext (RelF.ext.all_true _);have hfoot:∀k b o,Mx.foot cx' (st.set key (some (.cells ds))) k b o→(k=key∧b=w.heap.size∧o<ds.length)∨Mx.foot cx st k b o:=fun k b o h=>by
  rcases h with ⟨cs,o0,h1,h2,h3,h4⟩ | ⟨ob,n,e',c,z,⟨h1,h0⟩,h2,h3⟩
  ·rw[St.get_set hlt] at h1;by_cases hkk:k=key
   ·rw[if_pos hkk] at h1;simp only[cx',hkk,if_true] at h2;cases h1; cases h2;exact .inl ⟨hkk,rfl,by omega⟩
   ·rw[if_neg hkk] at h1;simp only[cx',hkk,if_false] at h2;exact .inr (.inl ⟨cs,o0,h1,h2,h3,h4⟩)
  ·rw[St.get_set hlt] at h1;by_cases hkk:k=key
   ·rw[if_pos hkk] at h1; cases h1; cases h0
   ·rw[if_neg hkk] at h1;exact .inr (.inr ⟨ob,n,e',c,z,⟨h1,h0⟩,h2,h3⟩)
 refine⟨cx',⟨fun k cs h=>?_,fun k n e' z cs h=>?_,fun k ob n e' h=>?_,fun k b o h=>?_,fun k k' b o h h'=>?_,fun k l h=>?_,fun k l h=>?_,fun b o h=>by simp only[World.alloc,Array.size_push]; rcases h with h | h; (have:=r.mlt b o h; omega); omega,fun k b o h hz=>?_,fun b o h=>.inl (r.zm b o h),fun k b o h=>?_,fun k k' b o n e' g c z h h'=>?_,r.rows,fun g=>hmono (r.glob g)⟩,if_pos rfl,hext⟩
 ·rw[St.get_set hlt] at h;by_cases hkk:k=key
  ·rw[if_pos hkk] at h; cases h;refine⟨by rw[hkk]; exact hlev,w.heap.size,0,if_pos hkk,fun j d hj=>?_⟩;obtain⟨x,hx⟩:=len_get hl.symm hj;refine⟨x,?_,hmono (hrd j d x hj hx)⟩;rw[Nat.zero_add];exact cell_new (by simpa using hx)
  ·rw[if_neg hkk] at h;obtain⟨h1,b,o,h2,h3⟩:=r.cells k cs h;refine⟨h1,b,o,by show(if k=key then _ else cx.bx k)=_; rw[if_neg hkk]; exact h2,fun j d hj=>?_⟩;obtain⟨x,hx,hrd⟩:=h3 j d hj;exact⟨x,by rw[cell_old (cell_lt hx)]; exact hx,hmono hrd⟩
 ·rw[St.get_set hlt] at h;by_cases hkk:k=key
  ·rw[if_pos hkk] at h; cases h
  ·rw[if_neg hkk] at h;exact r.vecKeep h rfl (fun g c z' j x hk _ hx=>by rw[cell_old (cell_lt hx)]; exact hx) (fun j d x _ hr=>hmono hr)
 ·obtain⟨h,h0⟩:=h;rw[St.get_set hlt] at h;by_cases hkk:k=key
  ·rw[if_pos hkk] at h; cases h; cases h0
  ·rw[if_neg hkk] at h;obtain⟨tl,h1,h2⟩:=r.tok k ob n e' ⟨h,h0⟩;refine⟨tl,h1,?_⟩
   match tl,h2 with
   | none,_=>trivial
   | some (g,c,z),⟨q1,q2,cur,q3,q4⟩=>
    refine⟨q1,q2,cur,?_,q4⟩;rw[heap_old (by rcases Nat.lt_or_ge g w.heap.size with h' | h'; exact h'; simp[Array.getElem?_eq_none h'] at q3)]; exact q3
 ·rcases hfoot k b o h with ⟨_,rfl,h2⟩ | h
  ·have hlt':o<vs.length:=by omega
   exact⟨⟨vs[o],cell_new (by simp[hlt'])⟩,frozen_new,.inr rfl⟩
  ·obtain⟨⟨x,hx⟩,h2,h3⟩:=r.foot k b o h;have hb:=cell_lt hx;exact⟨⟨x,by rw[cell_old hb]; exact hx⟩,by rw[frozen_old hb]; exact h2,.inl h3⟩
 ·rcases hfoot k b o h with ⟨e1,e0,_⟩ | h1 <;> rcases hfoot k' b o h' with ⟨e2,e3,_⟩ | h2
  ·rw[e1,e2]
  ·have:=not_foot_new r h2; omega
  ·have:=not_foot_new r h1; omega
  ·exact r.sep k k' b o h1 h2
 ·by_cases hkk:k=key
  ·exact⟨ds,by rw[St.get_set hlt,if_pos hkk]⟩
  ·have h':cx.bx k=some l:=by have h2:(if k=key then some (w.heap.size,0) else cx.bx k)=some l:=h; rwa [if_neg hkk] at h2
   obtain⟨cs,hcs⟩:=r.domb k l h';exact⟨cs,by rw[St.get_set hlt,if_neg hkk]; exact hcs⟩
 ·obtain⟨ob,n,e',hcs,h0⟩:=r.domt k l h;have hkk:k≠key:=fun he=>by subst he; rw[hk] at hcs; cases hcs
  exact⟨ob,n,e',by rw[St.get_set hlt,if_neg hkk]; exact hcs,h0⟩
 ·rcases hfoot k b o h with ⟨_,h1,_⟩ | h1
  ·have:=r.mlt _ _ (r.zm _ _ hz); omega
  ·exact r.nz k b o h1 hz
 ·have h2:(if k=key then some (w.heap.size,0) else cx.bx k)=some (b,o):=h;simp only[World.alloc,Array.size_push];split at h2
  ·cases h2; omega
  ·have:=r.bxlt k b o h2; omega
 ·have h2:(if k=key then some (w.heap.size,0) else cx.bx k)=some (b,o):=h;split at h2
  ·cases h2;have hg:=r.row_lt h';omega
  ·exact r.apart k k' b o n e' g c z h2 h'
theorem Rd.keys {cx:Cx} {w:World} {d:D} {x:Value} (h:Rd cx w d x) {p:Key→Bool} (hp:∀k,(∃l,cx.bx k=some l)∨(∃l,cx.tk k=some l)→p k=true):d.all p=true:=by
 have hL:∀(cs:List D),(∀(j:Nat) d,cs[j]? = some d→d.all p=true)→allL p cs=true:=fun cs=>by
  induction cs with
  | nil=>intro _; rfl
  | cons d r ih=>intro h; simp only[allL,Bool.and_eq_true]; exact⟨h 0 d rfl,ih fun j e hj=>h (j+1) e (by simpa using hj)⟩
 have hLL:∀(cs:List (List D)),(∀(j:Nat) d,cs[j]? = some d→allL p d=true)→allLL p cs=true:=fun cs=>by
  induction cs with
  | nil=>intro _; rfl
  | cons d r ih=>intro h; simp only[allLL,Bool.and_eq_true]; exact⟨h 0 d rfl,ih fun j e hj=>h (j+1) e (by simpa using hj)⟩
 induction h with
 | v x=>rfl
 | any x=>rfl
 | @sl sz tok xs a cap A vs hcap hcm hsz ha hc hr ht ih=>
  simp only[D.all,Bool.and_eq_true];refine⟨?_,hLL _ fun i cs hi=>hL _ fun j d hj=>ih i j cs d hi hj⟩;cases tok with
  | own k=>obtain⟨n,e,tl,h1,_⟩:=ht; exact hp k (.inr ⟨_,h1⟩)
  | _=>rfl
 | bx h=>exact hp _ (.inl ⟨_,h⟩)
 | sb h _=>exact hp _ (.inl ⟨_,h⟩)
 | vs _ _ ht=>obtain⟨n,e,tl,h1,_⟩:=ht; exact hp _ (.inr ⟨_,h1⟩)
 | ve ht=>obtain⟨n,e,tl,h1,_⟩:=ht; exact hp _ (.inr ⟨_,h1⟩)
 | ro b o vs hc hr ih=>exact hL _ fun j d hj=>ih j d hj
 | agg hl hr ih=>exact hL _ fun j d hj=>by obtain⟨y,hy⟩:=len_get hl.symm hj; exact ih j d y hj hy
 | tup hl hr ih=>exact hL _ fun j d hj=>by obtain⟨y,hy⟩:=len_get hl.symm hj; exact ih j d y hj hy
 | clo hf hcl hrf hrc ih1 ih2=>
  simp only[D.all,Bool.and_eq_true];exact⟨hL _ fun j d hj=>by obtain⟨y,hy⟩:=len_get hf.symm hj; exact ih1 j d y hj hy,hL _ fun j d hj=>by obtain⟨y,hy⟩:=len_get hcl.symm hj; exact ih2 j d y hj hy⟩
 | mp hb hm hk hl hr ih=>exact hL _ fun j d hj=>by obtain⟨y,hy⟩:=len_get hl.symm hj; exact ih j d y hj hy
 | gb _ _ _=>rfl
theorem Rel.lev {E:Setting} {cx:Cx} {st:St} {w:World} (r:Rel E cx st w) {d:D} {x:Value} (h:Rd cx w d x) {n:Nat} (hn:st.length≤n):d.all (lv n)=true:=
 h.keys fun k hk=>by
  have:¬¬k.1<st.length:=fun hc=>by
   have:=r.noKey k hc;rcases hk with ⟨l,hl⟩ | ⟨l,hl⟩
   ·rw[this.1] at hl; cases hl
   ·rw[this.2] at hl; cases hl
  simp only[lv,decide_eq_true_eq]; omega
section
variable {E : Setting} {U : Fun} {F : D → St → Prop} {k : List KI} {ρ : Env} {st : St} {all : Array Oper} {rest : List Oper}
variable {t : Nat} {ty : TypeId} {pos : String} {af : Array Edge} {nn bb : Nat} {ss : Shp}
def cellsD:D→List D
 | .agg cs=>cs
 | d=>[d]
theorem cellsD_rd {cx:Cx} {w:World} {d:D} {x:Value} (h:Rd cx w d x) (hd:d≠.any) (hv:∀y,d=.v y→y.cells.size=1∧y.cells=#[y]):(cellsD d).length=x.cells.toList.length∧∀(j:Nat) e y,(cellsD d)[j]? = some e→x.cells.toList[j]? = some y→Rd cx w e y:=by
 have one:∀(d:D) (x:Value),Rd cx w d x→x.cells=#[x]→([d]:List D).length=x.cells.toList.length∧∀(j:Nat) e y,([d]:List D)[j]? = some e→x.cells.toList[j]? = some y→Rd cx w e y:=fun d x h hx=>by
  rw[hx];refine⟨rfl,fun j e y he hy=>?_⟩;cases j with
  | zero=>simp at he hy; subst he; subst hy; exact h
  | succ j=>simp at he
 cases h with
 | agg hl hr=>exact⟨by simpa [Value.cells,cellsD] using hl,fun j e y he hy=>hr j e y he (by simpa [Value.cells] using hy)⟩
 | v x=>exact one _ _ (.v x) (hv x rfl).2
 | any=>exact absurd rfl hd
 | sl A vs h1 h2 h3 h4 h5 h6 h7=>exact one _ _ (.sl A vs h1 h2 h3 h4 h5 h6 h7) rfl
 | bx h=>exact one _ _ (.bx h) rfl
 | sb h hn=>exact one _ _ (.sb h hn) rfl
 | vs h1 h2 h3=>exact one _ _ (.vs h1 h2 h3) rfl
 | ve h=>exact one _ _ (.ve h) rfl
 | ro b o vs h1 h2=>exact one _ _ (.ro b o vs h1 h2) rfl
 | tup h1 h2=>exact one _ _ (.tup h1 h2) rfl
 | clo h1 h2 h3 h4=>exact one _ _ (.clo h1 h2 h3 h4) rfl
 | mp h1 h2 h3 h4 h5=>exact one _ _ (.mp h1 h2 h3 h4 h5) rfl
 | gb h1 h2 h3=>exact one _ _ (.gb h1 h2 h3) rfl
end
end Go.Mx
namespace Go.Mx
set_option linter.unusedVariables false
def splice {α:Type} (cs:List α) (off:Nat) (ds:List α):List α:=cs.take off++ds++cs.drop (off+ds.length)
theorem splice_get {α:Type} {cs ds:List α} {off:Nat} (h:off+ds.length≤cs.length) (j:Nat):(splice cs off ds)[j]? = if off≤j∧j<off+ds.length then ds[j-off]? else cs[j]?:=by
 unfold splice;by_cases h1:j<off
 ·rw[if_neg (by omega),List.append_assoc,List.getElem?_append_left (by simp; omega),List.getElem?_take,if_pos h1]
 ·by_cases h2:j<off+ds.length
  ·rw[if_pos ⟨by omega,h2⟩,List.append_assoc,List.getElem?_append_right (by simp; omega),List.getElem?_append_left (by simp; omega)];congr 1; simp; omega
  ·rw[if_neg (by omega),List.getElem?_append_right (by simp; omega),List.getElem?_drop];congr 1; simp; omega
theorem splice_length {α:Type} {cs ds:List α} {off:Nat} (h:off+ds.length≤cs.length):(splice cs off ds).length=cs.length:=by
 unfold splice; simp; omega
theorem heap_setCells (b:Nat):∀(vs:List Value) (o:Nat) (w:World) (b':Nat),b'≠b→(w.setCells b o vs).heap[b']? = w.heap[b']?
 | [],_,_,_,_=>rfl
 | v::r,o,w,b',h=>by
  rw[World.setCells,heap_setCells b r (o+1) _ b' h];exact Go.RowKit.Below.heap_setCell w ⟨b,o,none⟩ v b' h
theorem size_setCells (b:Nat):∀(vs:List Value) (o:Nat) (w:World),(w.setCells b o vs).heap.size=w.heap.size∧(w.setCells b o vs).os=w.os∧(w.setCells b o vs).tape=w.tape∧(w.setCells b o vs).output=w.output
 | [],_,_=>⟨rfl,rfl,rfl,rfl⟩
 | v::r,o,w=>by
  obtain⟨h1,h2,h3,h4⟩:=size_setCells b r (o+1) (w.setCell ⟨b,o,none⟩ v);rw[World.setCells];exact⟨h1.trans (by simp[World.setCell]),h2,h3,h4⟩
def D.one:D→Bool
 | .v x=>x.oneCell'
 | .any=>false
 | .agg _=>false
 | .tup _=>false
 | _=>true
theorem Rd.oneCell {cx:Cx} {w:World} {d:D} {x:Value} (h:Rd cx w d x) (h1:d.one=true):x.oneCell'=true:=by
 cases h <;> simp_all [D.one,Value.oneCell']
def allB (p:D→Bool):List D→Bool
 | []=>true
 | d::r=>p d&&allB p r
theorem allB_get {p:D→Bool} {cs:List D} (h:allB p cs=true) {j:Nat} {d:D} (hj:cs[j]? = some d):p d=true:=by
 induction cs generalizing j with
 | nil=>simp at hj
 | cons c r ih=>
  simp only[allB,Bool.and_eq_true] at h;cases j with
  | zero=>simp at hj; subst hj; exact h.1
  | succ j=>simp at hj; exact ih h.2 hj
theorem Rel.store {E:Setting} {cx:Cx} {st:St} {w:World} (r:Rel E cx st w) {key:Key} {cs:List D} (hk:st.get key=some (.cells cs)) (hlt:key.1<st.length) {off:Nat} {ds:List D} {vs:List Value}
  {b o:Nat} (hb:cx.bx key=some (b,o))
  (hl:ds.length=vs.length) (hrd:∀(j:Nat) d x,ds[j]? = some d→vs[j]? = some x→Rd cx w d x) (hlev:allL (lv (key.1+1)) ds=true) (hfit:off+ds.length≤cs.length) :
  Rel E cx (st.set key (some (.cells (splice cs off ds)))) (w.setCells b (o+off) vs)∧Ext (fun _=>true) cx w cx (w.setCells b (o+off) vs):=by
 have hfc:∀j,j<cs.length→Mx.foot cx st key b (o+j):=fun j hj=>.inl ⟨cs,o,hk,hb,by omega,by omega⟩;obtain⟨e1,e2,e3,e4⟩:=size_setCells b vs (o+off) w;have hout:∀b' o',(b'=b→o'<o+off∨o+off+vs.length≤o')→(w.setCells b (o+off) vs).cell? ⟨b',o',none⟩=w.cell? ⟨b',o',none⟩:=fun b' o' h=>World.cell?_setCells_out b vs (o+off) w ⟨b',o',none⟩ (fun h1 _=>h h1);have hext:Ext (fun _=>true) cx w cx (w.setCells b (o+off) vs):=by
  refine⟨e2,e3,e4,by omega,fun b' _ hm=>?_,fun b' o' _ hm=>?_,fun _ _ _ h=>h,fun _ _ _ h=>h,fun k n l _ h=>⟨n,l,h,Nat.le_refl _,fun _=>rfl⟩,rfl,fun k n e g c z h _=>⟨k,n,e,c,z,h⟩,fun _ _ _=>by rw[World.frozen?_setCells]⟩
  ·by_cases hv:vs=[]
   ·subst hv; rfl
   ·refine heap_setCells b vs _ w b' (fun he=>?_);have:0<ds.length:=by rw[hl]; exact List.length_pos_iff.2 hv
    exact hm (o+off) (by rw[he]; exact(r.foot _ _ _ (hfc off (by omega))).2.2)
  ·refine hout b' o' (fun he=>?_);rcases Nat.lt_or_ge o' (o+off) with h | h
   ·exact .inl h
   ·rcases Nat.lt_or_ge o' (o+off+vs.length) with h' | h'
    ·have hf:=hfc (o'-o) (by omega);rw[show o+(o'-o)=o' by omega] at hf;exact absurd (he▸hm (he▸(r.foot _ _ _ hf).2.2)) (r.nz _ _ _ hf)
    ·exact .inr h'
 have hmono:∀{d x},Rd cx w d x→Rd cx (w.setCells b (o+off) vs) d x:=fun h=>h.mono hext (RelF.ext.all_true _);have hin:∀j,j<vs.length→∀x,vs[j]? = some x→(w.setCells b (o+off) vs).cell? ⟨b,o+off+j,none⟩=some x:=fun j hj x hx=>by
  rw[World.cell?_setCells_in b vs (o+off) w (fun i hi=>by
   obtain⟨⟨y,hy⟩,_⟩:=r.foot _ _ _ (hfc (off+i) (by omega));rw[Nat.add_assoc,hy]; rfl) j hj]
  rw[← hx,List.getElem?_eq_getElem hj]
 have hcell:∀b' o',(∃x,w.cell? ⟨b',o',none⟩=some x)→∃x,(w.setCells b (o+off) vs).cell? ⟨b',o',none⟩=some x:=fun b' o' ⟨x,hx⟩=>by
  by_cases h:b'=b∧o+off≤o'∧o'<o+off+vs.length
  ·obtain⟨rfl,h1,h2⟩:=h;have:=hin (o'-(o+off)) (by omega) _ (List.getElem?_eq_getElem (by omega));rw[show o+off+(o'-(o+off))=o' by omega] at this;exact⟨_,this⟩
  ·exact⟨x,by rw[hout b' o' (fun he=>by omega)]; exact hx⟩
 have hfoot:∀k b' o',Mx.foot cx (st.set key (some (.cells (splice cs off ds)))) k b' o'→Mx.foot cx st k b' o':=fun k b' o' h=>by
  rcases h with ⟨cs',o0,h1,h2,h3,h4⟩ | ⟨ob,n,e',c,z,⟨h1,h0⟩,h2,h3⟩
  ·rw[St.get_set hlt] at h1;by_cases hkk:k=key
   ·rw[if_pos hkk] at h1; cases h1;rw[splice_length hfit] at h4;exact .inl ⟨cs,o0,by rw[hkk]; exact hk,h2,h3,h4⟩
   ·rw[if_neg hkk] at h1;exact .inl ⟨cs',o0,h1,h2,h3,h4⟩
  ·rw[St.get_set hlt] at h1;by_cases hkk:k=key
   ·rw[if_pos hkk] at h1; cases h1; cases h0
   ·rw[if_neg hkk] at h1;exact .inr ⟨ob,n,e',c,z,⟨h1,h0⟩,h2,h3⟩
 refine⟨⟨fun k cs' h=>?_,fun k n e' z cs' h=>?_,fun k ob n e' h=>?_,fun k b' o' h=>?_,fun k k' b' o' h h'=>r.sep k k' b' o' (hfoot _ _ _ h) (hfoot _ _ _ h'),fun k l h=>?_,fun k l h=>?_,fun b' o' h=>by rw[e1]; exact r.mlt b' o' h,fun k b' o' h=>r.nz k b' o' (hfoot _ _ _ h),r.zm,fun k b' o' h=>by rw[e1]; exact r.bxlt k b' o' h,r.apart,r.rows,fun g=>hmono (r.glob g)⟩,hext⟩
 ·rw[St.get_set hlt] at h;by_cases hkk:k=key
  ·rw[if_pos hkk] at h; cases h;obtain⟨hlev0,b0,o0,hb0,hc0⟩:=r.cells key cs hk;rw[hb] at hb0; cases hb0;refine⟨?_,b,o,by rw[hkk]; exact hb,fun j d hj=>?_⟩
   ·rw[hkk];have hall:∀(l:List D),(∀(j:Nat) d,l[j]? = some d→d.all (lv (key.1+1))=true)→allL (lv (key.1+1)) l=true:=fun l=>by
     induction l with
     | nil=>intro _; rfl
     | cons d r ih=>intro h; simp only[allL,Bool.and_eq_true]; exact⟨h 0 d rfl,ih fun j e hj=>h (j+1) e (by simpa using hj)⟩
    refine hall _ fun j d hj=>?_;rw[splice_get hfit] at hj;split at hj
    ·exact allL_get hlev hj
    ·exact allL_get hlev0 hj
   ·rw[splice_get hfit] at hj;split at hj
    ·rename_i hr;obtain⟨x,hx⟩:=len_get hl.symm hj;refine⟨x,?_,hmono (hrd _ d x hj hx)⟩;have:=hin (j-off) (by omega) x hx
     rwa [show o+off+(j-off)=o+j by omega] at this
    ·rename_i hr;obtain⟨x,hx,hrd'⟩:=hc0 j d hj;exact⟨x,by rw[hout _ _ (fun _=>by omega)]; exact hx,hmono hrd'⟩
  ·rw[if_neg hkk] at h;obtain⟨h1,b0,o0,h2,h3⟩:=r.cells k cs' h;refine⟨h1,b0,o0,h2,fun j d hj=>?_⟩;obtain⟨x,hx,hrd'⟩:=h3 j d hj;refine⟨x,?_,hmono hrd'⟩;rw[hout _ _ (fun he=>?_)]; exact hx;rcases Nat.lt_or_ge (o0+j) (o+off) with h' | h'
   ·exact .inl h'
   ·rcases Nat.lt_or_ge (o0+j) (o+off+vs.length) with h'' | h''
    ·refine absurd (r.sep k key b0 (o0+j) (.inl ⟨cs',o0,h,h2,by omega,by have:=(List.getElem?_eq_some_iff.1 hj).1; omega⟩) ?_) hkk;have:=hfc (o0+j-o) (by omega);rw[show o+(o0+j-o)=o0+j by omega] at this;rw[he]; exact this
    ·exact .inr h''
 ·rw[St.get_set hlt] at h;by_cases hkk:k=key
  ·rw[if_pos hkk] at h; cases h
  ·rw[if_neg hkk] at h;exact r.vecKeep h rfl (fun g c z' j x hk _ hx=>by rw[hout _ _ (fun he=>(r.apart key k b o n e' g c z' hb hk he.symm).elim)]; exact hx) (fun j d x _ hr=>hmono hr)
 ·obtain⟨h,h0⟩:=h;rw[St.get_set hlt] at h;by_cases hkk:k=key
  ·rw[if_pos hkk] at h; cases h; cases h0
  ·rw[if_neg hkk] at h;obtain⟨tl,h1,h2⟩:=r.tok k ob n e' ⟨h,h0⟩;refine⟨tl,h1,?_⟩
   match tl,h1,h2 with
   | none,_,_=>trivial
   | some (g,c,z),h1,⟨q1,q2,cur,q3,q4⟩=>exact⟨q1,q2,cur,by rw[heap_setCells b vs _ w g (fun he=>r.apart key k b o n e' g c z hb h1 he.symm)]; exact q3,q4⟩
 ·obtain⟨h1,h2,h3⟩:=r.foot k b' o' (hfoot _ _ _ h);exact⟨hcell _ _ h1,by rw[World.frozen?_setCells]; exact h2,h3⟩
 ·by_cases hkk:k=key
  ·exact⟨_,by rw[St.get_set hlt,if_pos hkk]⟩
  ·obtain⟨cs',hcs⟩:=r.domb k l h;exact⟨cs',by rw[St.get_set hlt,if_neg hkk]; exact hcs⟩
 ·obtain⟨ob,n,e',hcs,h0⟩:=r.domt k l h;exact⟨ob,n,e',by rw[St.get_set hlt,if_neg (fun he=>by rw[he,hk] at hcs; cases hcs; cases h0)]; exact hcs,h0⟩
end Go.Mx
namespace Go.Mx
set_option linter.unusedVariables false
def D.simple:D→Bool
 | .any=>false
 | .v (.agg _)=>false
 | _=>true
theorem cellsD_rd' {cx:Cx} {w:World} {d:D} {x:Value} (h:Rd cx w d x) (hd:d.simple=true):(cellsD d).length=x.cells.toList.length∧∀(j:Nat) e y,(cellsD d)[j]? = some e→x.cells.toList[j]? = some y→Rd cx w e y:=
 cellsD_rd h (by rintro rfl; cases hd) (fun y hy=>by subst hy; cases y <;> first | exact⟨rfl,rfl⟩ | cases hd)
theorem allL_cellsD {p:Key→Bool} {d:D} (h:d.all p=true):allL p (cellsD d)=true:=by
 cases d <;> first | exact h | (simp only[cellsD,allL,h]; rfl)
theorem get_top {fr:Fr} {st:St} {t:Nat}:St.get (fr::st) (st.length,t)=fr t:=if_pos rfl
theorem set_top {fr:Fr} {st:St} {t:Nat} {o:Option AObj}:St.set (fr::st) (st.length,t) o=fr.upd t o::st:=if_pos rfl
theorem run_newVar (P:Program) (t:TypeId) (v:Value) (w:World):(newVar t v).run P w=.ok ⟨w.heap.size,0,none⟩ (w.alloc (.cells v.cells t (0,0))):=by
 unfold newVar newRow;rw[Sem.run_bind];rfl
inductive ZeroL:List D→List Value→Prop
 | nil:ZeroL [] []
 | v {x ds ys} (h:ZeroL ds ys):ZeroL (.v x::ds) (x::ys)
 | sl {sz ds ys} (h:ZeroL ds ys):ZeroL (.sl sz .full []::ds) (.slice none 0 0::ys)
 | slf {sz ds ys} (h:ZeroL ds ys):ZeroL (.sl sz .ro []::ds) (.slice none 0 0::ys)
theorem ZeroL.rd {cx:Cx} {w:World} {ds:List D} {ys:List Value} (h:ZeroL ds ys):ds.length=ys.length∧∀(j:Nat) d x,ds[j]? = some d→ys[j]? = some x→Rd cx w d x:=by
 induction h with
 | nil=>exact⟨rfl,by simp⟩
 | v h ih=>
  refine⟨by simp[ih.1],fun j d x hd hx=>?_⟩;cases j with
  | zero=>simp at hd hx; subst hd; subst hx; exact .v _
  | succ j=>exact ih.2 j d x (by simpa using hd) (by simpa using hx)
 | sl h ih=>
  refine⟨by simp[ih.1],fun j d x hd hx=>?_⟩;cases j with
  | zero=>simp at hd hx; subst hd; subst hx; exact .sl (0,0) (fun _ _=>undef) (by simp) (by unfold maxLen; omega) (by simp) (by simp) (by simp) (by simp) rfl
  | succ j=>exact ih.2 j d x (by simpa using hd) (by simpa using hx)
 | @slf sz ds ys h ih=>
  refine⟨by simp[ih.1],fun j d x hd hx=>?_⟩;cases j with
  | zero=>
   simp at hd hx; subst hd; subst hx;exact .sl (0,0) (fun _ _=>undef) (by simp) (by unfold maxLen; omega) (by simp) (by simp) (by simp) (by simp) trivial
  | succ j=>exact ih.2 j d x (by simpa using hd) (by simpa using hx)
section
variable {E : Setting} {U : Fun} {F : D → St → Prop} {k : List KI} {ρ : Env} {fr : Fr} {st : St} {all : Array Oper} {rest : List Oper}
variable {t : Nat} {ty : TypeId} {pos : String} {af : Array Edge} {nn bb : Nat} {ss : Shp}
theorem S.box {e:TypeId} {x:Operand} {d:D} (ht:Nat.blt t U.N=true) (hx:ev E ρ x=d) (hs:d.simple=true) (hf:fr t=none) :
  SOk E U ρ (fr::st) ⟨some t,.box e x,ty,pos,af,none⟩ (upd ρ t (.bx (st.length,t) 0)) (fr.upd t (some (.cells (cellsD d)))::st):=
 ⟨rfl,by simp,fun cx a w hr=>by
  have hv:=hr.eval x;rw[hx] at hv;obtain⟨h1,h2⟩:=cellsD_rd' hv hs;obtain⟨cx',r',hb,he⟩:=hr.rel.new (key:=(st.length,t)) (get_top.trans hf) (by simp) (ds:=cellsD d) (vs:=(a.eval x).cells.toList) e h1 h2 (allL_cellsD (hr.rel.lev hv (by simp)));rw[Array.toArray_toList] at r' he;rw[set_top] at r';refine⟨_,_,cx',.pointer (some ⟨w.heap.size,0,none⟩),?_,.inl rfl,put_rd (hr.ext he r') ht ?_,he⟩
  ·simp only[execOp,Instr.box,Sem.run_bind,run_newVar,Result.andThen_ok,Sem.run_pure]
  ·exact Rd.bx (off:=0) hb⟩
theorem S.alloc {e:TypeId} {zs:List Value} {ds:List D} (ht:Nat.blt t U.N=true) (hz:tZero E.P e=some zs) (hd:ZeroL ds zs) (hlev:allL (fun _=>false) ds=true) (hf:fr t=none) :
  SOk E U ρ (fr::st) ⟨some t,.alloc e,ty,pos,af,none⟩ (upd ρ t (.bx (st.length,t) 0)) (fr.upd t (some (.cells ds))::st):=
 ⟨rfl,by simp,fun cx a w hr=>by
  obtain⟨h1,h2⟩:=hd.rd (cx:=cx) (w:=w);obtain⟨cx',r',hb,he⟩:=hr.rel.new (key:=(st.length,t)) (get_top.trans hf) (by simp) (ds:=ds) (vs:=zs) e h1 h2 ((all_mono (fun _ h=>by cases h)).2.1 _ hlev);rw[set_top] at r';unfold tZero at hz;cases hi:E.P.info? e with
  | none=>rw[hi] at hz; cases hz
  | some i=>
   rw[hi] at hz;simp only[Option.bind_some,Option.map_eq_some_iff] at hz;obtain⟨z,hz1,rfl⟩:=hz;rw[Array.toArray_toList] at r' he;refine⟨_,_,cx',.pointer (some ⟨w.heap.size,0,none⟩),?_,.inl rfl,put_rd (hr.ext he r') ht (Rd.bx (off:=0) hb),he⟩;simp only[execOp,Instr.alloc,zeroValue,Sem.run_bind,run_typeInfo w hi,Result.andThen_ok,hz1,Sem.run_pure,run_newVar]⟩
theorem run_storeVar {P:Program} {t:TypeId} {n b:Nat} {s:Shp} (h:tShape P t=some (n,b,s)) {w:World} {bl o:Nat} {v:Value} (hn:v.cells.toList.length=n)
  (hc:∀j,j<n→(w.cell? ⟨bl,o+j,none⟩).isSome=true) (hf:∀j,j<n→w.frozen? ⟨bl,o+j,none⟩=false) (h1:∀x∈v.cells.toList,x.oneCell'=true) :
  (storeVar t ⟨bl,o,none⟩ v).run P w=.ok () (w.setCells bl o v.cells.toList):=by
 unfold storeVar;simp only[Sem.run_bind,run_sizeOf_shape h,Result.andThen_ok];rw[if_neg (by simp at hn; omega)];have:=run_storeCells_cells (P:=P) bl o v.cells.toList 0 w (by simpa [hn] using hc) (by simpa [hn] using hf) h1
 simpa using this
theorem oneL {cx:Cx} {w:World} {ds:List D} {vs:List Value} (hl:ds.length=vs.length) (h1:allB D.one ds=true) (hr:∀(j:Nat) e y,ds[j]? = some e→vs[j]? = some y→Rd cx w e y):∀x∈vs,x.oneCell'=true:=fun x hx=>by
 obtain⟨j,hj,rfl⟩:=List.getElem_of_mem hx;have h2:vs[j]? = some vs[j]:=List.getElem?_eq_getElem hj;obtain⟨e,he⟩:=len_get hl h2;exact(hr j e _ he h2).oneCell (allB_get h1 he)
end
end Go.Mx
namespace Go.Mx
set_option linter.unusedVariables false
theorem lo_le {ob:AObj} {n:Nat} {e:TypeId} (h:ob.row=some (n,e)) (z:Nat):ob.lo z≤n*z:=by
 cases ob with
 | cells cs=>cases h
 | tok n' e'=>cases h; exact Nat.le_refl _
 | vec n' e' z' cs=>exact Nat.zero_le _
theorem Rel.rowStep {E:Setting} {cx:Cx} {st:St} {w:World} (r:Rel E cx st w) {key:Key} (hlt:key.1<st.length) (hnc:∀cs,st.get key≠some (.cells cs)) {n:Nat} {e:TypeId} {tl:Option (Nat×Nat×Nat)} {o':AObj} (ho:o'.row=some (n,e)) {w':World} {M':Nat→Nat→Prop}
  (hold:∀n0 l0,cx.tk key=some (n0,l0)→n0≤n∧(n0=n→l0=(e,tl)))
  (h1:w'.os=w.os) (h2:w'.tape=w.tape) (h3:w'.output=w.output) (h4:w.heap.size≤w'.heap.size)
  (hblk:∀b,b<w.heap.size→(∀o,¬cx.M b o)→w'.heap[b]? = w.heap[b]?)
  (hcell:∀b o,b<w.heap.size→(cx.M b o→cx.Z b o)→w'.cell? ⟨b,o,none⟩=w.cell? ⟨b,o,none⟩)
  (hM:∀b o,M' b o→cx.M b o∨w.heap.size≤b) (hM2:∀b o,M' b o→b<w'.heap.size) (hMZ:∀b o,cx.Z b o→M' b o) (hfz:∀b o,b<w.heap.size→w'.frozen? ⟨b,o,none⟩=w.frozen? ⟨b,o,none⟩) (hrowold:∀g c z,tl=some (g,c,z)→g<w.heap.size→∃k0 n0 e0 c0 z0,cx.tk k0=some (n0,e0,some (g,c0,z0)))
  (hother:∀k b o,k≠key→Mx.foot cx st k b o→w'.cell? ⟨b,o,none⟩=w.cell? ⟨b,o,none⟩∧w'.frozen? ⟨b,o,none⟩=w.frozen? ⟨b,o,none⟩∧M' b o)
  (hrows:∀k n' e' g c z,k≠key→cx.tk k=some (n',e',some (g,c,z))→w'.heap[g]? = w.heap[g]?)
  (htl:∀g c z,tl=some (g,c,z)→n≤c∧c≤maxLen∧(∃cur,w'.heap[g]? = some (.cells cur e (0,0))∧cur.size=c*z)∧(∀o,o'.lo z≤o→o<c*z→M' g o∧¬cx.Z g o) ∧
   (∀k n' e' c' z',k≠key→cx.tk k≠some (n',e',some (g,c',z')))∧(∀k b o,cx.bx k=some (b,o)→b≠g))
  (hvec:∀z cs,o'=.vec n e z cs→allL (lv (key.1+1)) cs=true∧cs.length=n*z∧(tl=none→n=0)∧∀g c z',tl=some (g,c,z')→z'=z∧∀(j:Nat) d,cs[j]? = some d→∃x,w'.cell? ⟨g,j,none⟩=some x∧Rd cx w d x) :
  Rel E { bx:=cx.bx,tk:=fun k=>if k=key then some (n,e,tl) else cx.tk k,M:=M',Z:=cx.Z } (st.set key (some o')) w' ∧
   Ext (fun _=>true) cx w { bx:=cx.bx,tk:=fun k=>if k=key then some (n,e,tl) else cx.tk k,M:=M',Z:=cx.Z } w':=by
 have hext:Ext (fun _=>true) cx w { bx:=cx.bx,tk:=fun k=>if k=key then some (n,e,tl) else cx.tk k,M:=M',Z:=cx.Z } w':=by
  refine⟨h1,h2,h3,h4,hblk,hcell,fun b o hb hm hm'=>?_,fun _ _ _ h=>h,fun k n0 l0 _ h=>?_,rfl,fun k n0 e0 g c z h hg=>?_,hfz⟩
  ·rcases hM b o hm' with h | h
   ·exact hm h
   ·omega
  ·by_cases hk:k=key
   ·subst hk;obtain⟨q1,q2⟩:=hold n0 l0 h;exact⟨n,(e,tl),if_pos rfl,q1,fun he=>(q2 he.symm).symm⟩
   ·exact⟨n0,l0,(if_neg hk).trans h,Nat.le_refl _,fun _=>rfl⟩
  ·have h:(if k=key then some (n,e,tl) else cx.tk k)=some (n0,e0,some (g,c,z)):=h;split at h
   ·cases h; exact hrowold g c z rfl hg
   ·exact⟨_,_,_,_,_,h⟩
 have hmono:∀{d x},Rd cx w d x→Rd { bx:=cx.bx,tk:=fun k=>if k=key then some (n,e,tl) else cx.tk k,M:=M',Z:=cx.Z } w' d x:=fun h=>h.mono hext (RelF.ext.all_true _);have hfoot:∀k b o,Mx.foot { bx:=cx.bx,tk:=fun k=>if k=key then some (n,e,tl) else cx.tk k,M:=M',Z:=cx.Z } (st.set key (some o')) k b o →
   (k=key∧∃c z,tl=some (b,c,z)∧o'.lo z≤o∧o<c*z)∨(k≠key∧Mx.foot cx st k b o):=fun k b o h=>by
  rcases h with ⟨cs,o0,q1,q2,q3,q4⟩ | ⟨ob,n0,e0,c,z,⟨q1,q0⟩,q2,q3,q4⟩
  ·rw[St.get_set hlt] at q1;by_cases hk:k=key
   ·rw[if_pos hk] at q1; cases q1; cases ho
   ·rw[if_neg hk] at q1; exact .inr ⟨hk,.inl ⟨cs,o0,q1,q2,q3,q4⟩⟩
  ·rw[St.get_set hlt] at q1;by_cases hk:k=key
   ·rw[if_pos hk] at q1; cases q1;rw[ho] at q0; cases q0;simp only[hk,if_true] at q2;cases q2;exact .inl ⟨hk,c,z,rfl,q3,q4⟩
   ·rw[if_neg hk] at q1;simp only[hk,if_false] at q2;exact .inr ⟨hk,.inr ⟨ob,n0,e0,c,z,⟨q1,q0⟩,q2,q3,q4⟩⟩
 have hblkne:∀k k' b o,(k=key∧∃c z,tl=some (b,c,z)∧o'.lo z≤o∧o<c*z)→(k'≠key∧Mx.foot cx st k' b o)→False:=fun k k' b o h h'=>by
  obtain⟨_,c,z,ht,_⟩:=h;obtain⟨_,_,_,_,q5,q6⟩:=htl b c z ht;obtain⟨hk',hf⟩:=h';rcases hf with ⟨cs,o0,g1,g2,_⟩ | ⟨_,n0,e0,c0,z0,g1,g2,_⟩
  ·exact q6 _ _ _ g2 rfl
  ·exact q5 _ _ _ _ _ hk' g2
 refine⟨⟨fun k cs h=>?_,fun k n0 e0 z cs h=>?_,fun k ob n0 e0 h=>?_,fun k b o h=>?_,fun k k' b o h h'=>?_,fun k l h=>?_,fun k l h=>?_,hM2,fun k b o h hz=>?_,hMZ,fun k b o h=>Nat.lt_of_lt_of_le (r.bxlt k b o h) h4,fun k k' b o n0 e0 g c z h h'=>?_,fun k k' n0 e0 n1 e1 g c z c1 z1 h h'=>?_,fun g=>hmono (r.glob g)⟩,hext⟩
 ·rw[St.get_set hlt] at h;by_cases hk:k=key
  ·rw[if_pos hk] at h; cases h; cases ho
  ·rw[if_neg hk] at h;obtain⟨q1,b,o,q2,q3⟩:=r.cells k cs h;refine⟨q1,b,o,q2,fun j d hj=>?_⟩;obtain⟨x,hx,hrd⟩:=q3 j d hj;refine⟨x,?_,hmono hrd⟩;rw[(hother k b (o+j) hk (.inl ⟨cs,o,h,q2,by omega,by have:=(List.getElem?_eq_some_iff.1 hj).1; omega⟩)).1]; exact hx
 ·rw[St.get_set hlt] at h;by_cases hk:k=key
  ·rw[if_pos hk] at h; cases h;cases ho;obtain⟨v1,v2,v3,v4⟩:=hvec z cs rfl;have htk:∀tl',(if k=key then some (n,e,tl) else cx.tk k)=some (n,e,tl')→tl'=tl:=fun tl' h=>by
    rw[if_pos hk] at h; cases h; rfl
   refine⟨by rw[hk]; exact v1,v2,fun h=>v3 (htk _ h).symm,fun g c z' h=>⟨(v4 g c z' (htk _ h).symm).1,fun j d hj=>?_⟩⟩;obtain⟨x,hx,hr⟩:=(v4 g c z' (htk _ h).symm).2 j d hj;exact⟨x,hx,hmono hr⟩
  ·rw[if_neg hk] at h;exact r.vecKeep h (if_neg hk) (fun g c z' j x htk hj hx=>by
    have:=hrows k n0 e0 g c z' hk htk;unfold World.cell? at hx ⊢;rw[this]; exact hx) (fun j d x _ hr=>hmono hr)
 ·obtain⟨h,h0⟩:=h;rw[St.get_set hlt] at h;by_cases hk:k=key
  ·rw[if_pos hk] at h; cases h;rw[ho] at h0; cases h0;refine⟨tl,if_pos hk,?_⟩;cases htl':tl with
   | none=>trivial
   | some l=>obtain⟨g,c,z⟩:=l; obtain⟨q1,q2,q3,_⟩:=htl g c z htl'; exact⟨q1,q2,q3⟩
  ·rw[if_neg hk] at h;obtain⟨tl0,q1,q2⟩:=r.tok k ob n0 e0 ⟨h,h0⟩;refine⟨tl0,(if_neg hk).trans q1,?_⟩
   match tl0,q1,q2 with
   | none,_,_=>trivial
   | some (g,c,z),q1,⟨g1,g2,cur,g3,g4⟩=>exact⟨g1,g2,cur,by rw[hrows k n0 e0 g c z hk q1]; exact g3,g4⟩
 ·rcases hfoot k b o h with ⟨_,c,z,ht,q1,q2⟩ | ⟨hk,hf⟩
  ·obtain⟨_,_,⟨cur,g1,g2⟩,g3,_⟩:=htl b c z ht;refine⟨?_,?_,(g3 o q1 q2).1⟩
   ·exact⟨cur[o]'(by omega),by simp only[World.cell?,g1]; simp⟩
   ·simp only[World.frozen?,g1]; simp
  ·obtain⟨g1,g2,g3⟩:=hother k b o hk hf;obtain⟨q1,q2,q3⟩:=r.foot k b o hf;exact⟨by rw[g1]; exact q1,by rw[g2]; exact q2,g3⟩
 ·rcases hfoot k b o h with q1 | q1 <;> rcases hfoot k' b o h' with q2 | q2
  ·rw[q1.1,q2.1]
  ·exact(hblkne _ _ _ _ q1 q2).elim
  ·exact(hblkne _ _ _ _ q2 q1).elim
  ·exact r.sep k k' b o q1.2 q2.2
 ·obtain⟨cs,hcs⟩:=r.domb k l h;exact⟨cs,by rw[St.get_set hlt,if_neg (fun he=>by subst he; exact hnc cs hcs)]; exact hcs⟩
 ·by_cases hk:k=key
  ·exact⟨o',n,e,by rw[St.get_set hlt,if_pos hk],ho⟩
  ·have h':cx.tk k=some l:=by have h0:(if k=key then some (n,e,tl) else cx.tk k)=some l:=h; rwa [if_neg hk] at h0
   obtain⟨ob,n0,e0,q,q0⟩:=r.domt k l h';exact⟨ob,n0,e0,by rw[St.get_set hlt,if_neg hk]; exact q,q0⟩
 ·rcases hfoot k b o h with ⟨_,c,z,ht,q1,q2⟩ | ⟨hk,hf⟩
  ·exact((htl b c z ht).2.2.2.1 o q1 q2).2 hz
  ·exact r.nz k b o hf hz
 ·have h0:(if k'=key then some (n,e,tl) else cx.tk k')=some (n0,e0,some (g,c,z)):=h';split at h0
  ·cases h0; exact(htl g c z rfl).2.2.2.2.2 k b o h
  ·exact r.apart k k' b o n0 e0 g c z h h0
 ·have g0:(if k=key then some (n,e,tl) else cx.tk k)=some (n0,e0,some (g,c,z)):=h;have g1:(if k'=key then some (n,e,tl) else cx.tk k')=some (n1,e1,some (g,c1,z1)):=h';split at g0 <;> split at g1
  ·rename_i a b; rw[a,b]
  ·rename_i a b; cases g0; exact absurd g1 ((htl g c z rfl).2.2.2.2.1 k' n1 e1 c1 z1 b)
  ·rename_i a b; cases g1; exact absurd g0 ((htl g c1 z1 rfl).2.2.2.2.1 k n0 e0 c z a)
  ·exact r.rows k k' n0 e0 n1 e1 g c z c1 z1 g0 g1
theorem Rel.tokStep {E:Setting} {cx:Cx} {st:St} {w:World} (r:Rel E cx st w) {key:Key} (hlt:key.1<st.length) (hnc:∀cs,st.get key≠some (.cells cs)) {n:Nat} {e:TypeId} {tl:Option (Nat×Nat×Nat)} {w':World} {M':Nat→Nat→Prop}
  (hold:∀n0 l0,cx.tk key=some (n0,l0)→n0≤n∧(n0=n→l0=(e,tl)))
  (h1:w'.os=w.os) (h2:w'.tape=w.tape) (h3:w'.output=w.output) (h4:w.heap.size≤w'.heap.size)
  (hblk:∀b,b<w.heap.size→(∀o,¬cx.M b o)→w'.heap[b]? = w.heap[b]?)
  (hcell:∀b o,b<w.heap.size→(cx.M b o→cx.Z b o)→w'.cell? ⟨b,o,none⟩=w.cell? ⟨b,o,none⟩)
  (hM:∀b o,M' b o→cx.M b o∨w.heap.size≤b) (hM2:∀b o,M' b o→b<w'.heap.size) (hMZ:∀b o,cx.Z b o→M' b o) (hfz:∀b o,b<w.heap.size→w'.frozen? ⟨b,o,none⟩=w.frozen? ⟨b,o,none⟩) (hrowold:∀g c z,tl=some (g,c,z)→g<w.heap.size→∃k0 n0 e0 c0 z0,cx.tk k0=some (n0,e0,some (g,c0,z0)))
  (hother:∀k b o,k≠key→Mx.foot cx st k b o→w'.cell? ⟨b,o,none⟩=w.cell? ⟨b,o,none⟩∧w'.frozen? ⟨b,o,none⟩=w.frozen? ⟨b,o,none⟩∧M' b o)
  (hrows:∀k n' e' g c z,k≠key→cx.tk k=some (n',e',some (g,c,z))→w'.heap[g]? = w.heap[g]?)
  (htl:∀g c z,tl=some (g,c,z)→n≤c∧c≤maxLen∧(∃cur,w'.heap[g]? = some (.cells cur e (0,0))∧cur.size=c*z)∧(∀o,n*z≤o→o<c*z→M' g o∧¬cx.Z g o) ∧
   (∀k n' e' c' z',k≠key→cx.tk k≠some (n',e',some (g,c',z')))∧(∀k b o,cx.bx k=some (b,o)→b≠g)) :
  Rel E { bx:=cx.bx,tk:=fun k=>if k=key then some (n,e,tl) else cx.tk k,M:=M',Z:=cx.Z } (st.set key (some (.tok n e))) w' ∧
   Ext (fun _=>true) cx w { bx:=cx.bx,tk:=fun k=>if k=key then some (n,e,tl) else cx.tk k,M:=M',Z:=cx.Z } w':=
 r.rowStep hlt hnc (o':=.tok n e) rfl hold h1 h2 h3 h4 hblk hcell hM hM2 hMZ hfz hrowold hother hrows htl (fun z cs h=>by cases h)
theorem flat_of {cx:Cx} {w:World} {sz:Nat} {tok:Tok} {xs:List (List D)} {v:Value} (hsz:0<sz) (h:Rd cx w (.sl sz tok xs) v) :
  ∃a cap,v=.slice a xs.length cap∧xs.length≤cap∧cap≤maxLen∧TokOk cx a xs.length cap sz tok∧(∀(i:Nat) cs,xs[i]? = some cs→cs.length=sz)∧∃fl:List Value,fl.length=xs.length*sz ∧
   (∀(i j:Nat) cs d,xs[i]? = some cs→cs[j]? = some d→∃y,fl[i*sz+j]? = some y∧Rd cx w d y) ∧
   (xs≠[]→∃A:Nat×Nat,a=some ⟨A.1,A.2,none⟩∧∀(q:Nat) y,fl[q]? = some y→w.cell? ⟨A.1,A.2+q,none⟩=some y∧¬cx.M A.1 (A.2+q)):=by
 obtain⟨a,cap,rfl,h1,h2,h3,h4,A,hA,hc⟩:=rd_sl_inv h
 let f:Nat→Value:=fun q=>((w.cell? ⟨A.1,A.2+q,none⟩).getD undef)
 have hq:∀q,q<xs.length*sz→∃cs d,xs[q / sz]? = some cs∧cs[q % sz]? = some d∧q / sz*sz+q % sz=q:=fun q hq=>by
  have hlt:q / sz<xs.length:=(Nat.div_lt_iff_lt_mul hsz).2 hq;have hm:q % sz<sz:=Nat.mod_lt _ hsz;have e1:xs[q / sz]? = some xs[q / sz]:=List.getElem?_eq_getElem hlt;have e2:=h3 _ _ e1;exact⟨_,_,e1,List.getElem?_eq_getElem (by omega),by rw[Nat.mul_comm]; exact Nat.div_add_mod q sz⟩
 refine⟨a,cap,rfl,h1,h2,h4,h3,(List.range (xs.length*sz)).map f,by simp,fun i j cs d hi hj=>?_,fun hne=>⟨A,hA hne,fun q y hy=>?_⟩⟩
 ·obtain⟨y,hy,hm,hr⟩:=hc i j cs d hi hj;have hlt:i*sz+j<xs.length*sz:=by
   have a1:=(List.getElem?_eq_some_iff.1 hi).1;have a2:=(List.getElem?_eq_some_iff.1 hj).1;have a3:=h3 i cs hi
   calc i*sz+j<i*sz+sz:=by omega
    _=(i+1)*sz:=by rw[Nat.add_mul,Nat.one_mul]
    _≤xs.length*sz:=Nat.mul_le_mul_right _ a1
  refine⟨y,?_,hr⟩;rw[List.getElem?_map,List.getElem?_range hlt];simp only[Option.map_some,f];rw[← Nat.add_assoc,hy]; rfl
 ·have hlt:q<xs.length*sz:=by have:=(List.getElem?_eq_some_iff.1 hy).1; simpa using this
  rw[List.getElem?_map,List.getElem?_range hlt] at hy;simp only[Option.map_some,Option.some.injEq] at hy;obtain⟨cs,d,e1,e2,e3⟩:=hq q hlt;obtain⟨z,hz,hm,_⟩:=hc _ _ cs d e1 e2;rw[Nat.add_assoc,e3] at hz hm;subst hy;simp only[f,hz];exact⟨rfl,hm⟩
end Go.Mx
namespace Go.Mx
set_option linter.unusedVariables false
set_option linter.unusedSimpArgs false
theorem allOne_flat {cx:Cx} {w:World} {sz:Nat} {ys:List (List D)} {fl:List Value} (hsz:0<sz) (hl:fl.length=ys.length*sz) (hs:∀(i:Nat) cs,ys[i]? = some cs→cs.length=sz)
  (h:∀(i j:Nat) cs d,ys[i]? = some cs→cs[j]? = some d→∃y,fl[i*sz+j]? = some y∧Rd cx w d y) (h1:∀cs∈ys,allB D.one cs=true):∀u∈fl,u.oneCell'=true:=fun u hu=>by
 obtain⟨q,hq,rfl⟩:=List.getElem_of_mem hu;have hlt:q / sz<ys.length:=(Nat.div_lt_iff_lt_mul hsz).2 (by omega);have hm:q % sz<sz:=Nat.mod_lt _ hsz;have e1:ys[q / sz]? = some ys[q / sz]:=List.getElem?_eq_getElem hlt;have e2:=hs _ _ e1;have e3:ys[q / sz][q % sz]? = some ys[q / sz][q % sz]:=List.getElem?_eq_getElem (by omega);obtain⟨y,hy,hr⟩:=h _ _ _ _ e1 e3;have e4:q / sz*sz+q % sz=q:=by rw[Nat.mul_comm]; exact Nat.div_add_mod q sz
 rw[e4,List.getElem?_eq_getElem hq] at hy;cases hy;exact hr.oneCell (allB_get (h1 _ (List.getElem_mem hlt)) e3)
theorem rd_sl_mk {cx:Cx} {w:World} {sz:Nat} {tok:Tok} {zs:List (List D)} {a:Option Addr} {cap:Nat} (A:Nat×Nat) (fl:List Value) (hcap:zs.length≤cap) (hcm:cap≤maxLen) (hs:∀(i:Nat) cs,zs[i]? = some cs→cs.length=sz)
  (ha:zs≠[]→a=some ⟨A.1,A.2,none⟩) (hc:∀(q:Nat) y,fl[q]? = some y→w.cell? ⟨A.1,A.2+q,none⟩=some y∧¬cx.M A.1 (A.2+q))
  (h:∀(i j:Nat) cs d,zs[i]? = some cs→cs[j]? = some d→∃y,fl[i*sz+j]? = some y∧Rd cx w d y) (ht:TokOk cx a zs.length cap sz tok):Rd cx w (.sl sz tok zs) (.slice a zs.length cap):=by
 refine .sl A (fun i j=>(fl[i*sz+j]?).getD undef) hcap hcm hs ha (fun i j cs d hi hj=>?_) (fun i j cs d hi hj=>?_) ht
 ·obtain⟨y,hy,_⟩:=h i j cs d hi hj;have:=hc _ y hy;rw[hy,Nat.add_assoc]; exact this
 ·obtain⟨y,hy,hr⟩:=h i j cs d hi hj;rw[hy]; exact hr
theorem rd_sl_mk' {cx:Cx} {w:World} {sz:Nat} {tok:Tok} {zs:List (List D)} {a:Option Addr} {cap n:Nat} (hn:zs.length=n) (A:Nat×Nat) (fl:List Value) (hcap:n≤cap) (hcm:cap≤maxLen) (hs:∀(i:Nat) cs,zs[i]? = some cs→cs.length=sz)
  (ha:zs≠[]→a=some ⟨A.1,A.2,none⟩) (hc:∀(q:Nat) y,fl[q]? = some y→w.cell? ⟨A.1,A.2+q,none⟩=some y∧¬cx.M A.1 (A.2+q))
  (h:∀(i j:Nat) cs d,zs[i]? = some cs→cs[j]? = some d→∃y,fl[i*sz+j]? = some y∧Rd cx w d y) (ht:TokOk cx a n cap sz tok):Rd cx w (.sl sz tok zs) (.slice a n cap):=by
 subst hn; exact rd_sl_mk A fl hcap hcm hs ha hc h ht
theorem append_get {α:Type} {xs ys:List α} {i:Nat} {c:α} (h:(xs++ys)[i]? = some c):(i<xs.length∧xs[i]? = some c)∨(xs.length≤i∧ys[i-xs.length]? = some c):=by
 by_cases hi:i<xs.length
 ·rw[List.getElem?_append_left hi] at h; exact .inl ⟨hi,h⟩
 ·rw[List.getElem?_append_right (by omega)] at h; exact .inr ⟨by omega,h⟩
theorem flat_append {cx:Cx} {w:World} {sz:Nat} {xs ys:List (List D)} {fx fy:List Value} (hx:fx.length=xs.length*sz) (hsx:∀(i:Nat) cs,xs[i]? = some cs→cs.length=sz)
  (gx:∀(i j:Nat) cs d,xs[i]? = some cs→cs[j]? = some d→∃y,fx[i*sz+j]? = some y∧Rd cx w d y)
  (gy:∀(i j:Nat) cs d,ys[i]? = some cs→cs[j]? = some d→∃y,fy[i*sz+j]? = some y∧Rd cx w d y) :
  ∀(i j:Nat) cs d,(xs++ys)[i]? = some cs→cs[j]? = some d→∃y,(fx++fy)[i*sz+j]? = some y∧Rd cx w d y:=fun i j cs d hi hj=>by
 rcases append_get hi with ⟨h1,h2⟩ | ⟨h1,h2⟩
 ·obtain⟨y,hy,hr⟩:=gx i j cs d h2 hj;exact⟨y,by rw[List.getElem?_append_left (List.getElem?_eq_some_iff.1 hy).1]; exact hy,hr⟩
 ·obtain⟨y,hy,hr⟩:=gy _ j cs d h2 hj;have e:i*sz+j-fx.length=(i-xs.length)*sz+j:=by
   rw[hx,Nat.sub_mul];have:xs.length*sz≤i*sz:=Nat.mul_le_mul_right _ h1;omega
  refine⟨y,?_,hr⟩;rw[List.getElem?_append_right (by rw[hx]; have:xs.length*sz≤i*sz:=Nat.mul_le_mul_right _ h1; omega),e]; exact hy
theorem run_append_empty {P:Program} {t e ty:TypeId} {n b:Nat} (hT:tShape P t=some (n,b,.slice e)) {ne be:Nat} {se:Shp} (hE:tShape P e=some (ne,be,se)) (a:Option Addr) (len cap:Nat) (hc:len≤cap) (a2:Option Addr) (c2:Nat) (w:World) :
  (Builtin.append_ #[t,t] ty #[.slice a len cap,.slice a2 0 c2]).run P w=.ok (.slice a len cap) w:=by
 obtain⟨i,u,hi,hu,h1,h2,h3⟩:=tShape_parts hT;cases u <;> simp only[shpOf,Shp.slice.injEq,reduceCtorEq] at h3;subst h3;have hf:(Builtin.firstCells ne 0 (.slice a2 0 c2)).run P w=.ok #[] w:=by
  cases a2 with
  | none=>rfl
  | some x=>exact run_firstCells_some (P:=P) w ne 0 x 0 c2 [] (by simp) (by simp)
 have hz:=run_sizeOf_shape hE w;simp only[Builtin.append_,Sem.run_bind,run_underlying hu,Result.andThen_ok,hz,Builtin.lenOf,Sem.run_pure];simp only[List.getElem?_toArray,List.getElem?_cons_succ,List.getElem?_cons_zero,Sem.run_bind,run_underlying hu,Result.andThen_ok,hz,Sem.run_pure,Bool.false_eq_true,if_false,Nat.add_zero,hc,if_true,Bool.not_false,hf];cases a <;> simp[storeCells]
end Go.Mx
namespace Go.Mx
set_option linter.unusedVariables false
set_option linter.unusedSimpArgs false
theorem Rel.tk_none {E:Setting} {cx:Cx} {st:St} {w:World} (r:Rel E cx st w) {key:Key} (h:st.get key=none):cx.tk key=none:=by
 cases hk:cx.tk key with
 | none=>rfl
 | some l=>obtain⟨_,n,e,h',_⟩:=r.domt key l hk; rw[h] at h'; cases h'
def Grows (st:St) (key:Key) (e:TypeId) (len:Nat):Tok→Prop
 | .ro=>False
 | .full=>st.get key=none
 | .own k=>k=key∧st.get key=some (.tok len e)
theorem append_core {E:Setting} {cx:Cx} {st:St} {w:World} (r:Rel E cx st w) {sz:Nat} (hsz:0<sz) {tok toky:Tok} {xs ys:List (List D)} {v vy:Value}
  (hv:Rd cx w (.sl sz tok xs) v) (hy:Rd cx w (.sl sz toky ys) vy) {t e ty:TypeId} {n b be:Nat} {se:Shp} (hT:tShape E.P t=some (n,b,.slice e)) (hE:tShape E.P e=some (sz,be,se)) {zs:List Value} (hz:tZero E.P e=some zs) (hzl:zs.length=sz)
  (hone:∀cs∈ys,allB D.one cs=true) (hb1:(xs.length+ys.length)*be≤140737488355328) (hb2:xs.length+ys.length≤9223372036854775807)
  {key:Key} (hlt:key.1<st.length) (hg:Grows st key e xs.length tok) :
  ∃v' w' cx',(Builtin.append_ #[t,t] ty #[v,vy]).run E.P w=.ok v' w'∧Rel E cx' (st.set key (some (.tok (xs.length+ys.length) e))) w'∧Rd cx' w' (.sl sz (.own key) (xs++ys)) v'∧Ext (fun _=>true) cx w cx' w':=by
 obtain⟨a,cap,rfl,p1,p2,p3,p4,fx,f1,f2,f3⟩:=flat_of hsz hv;obtain⟨a2,cap2,rfl,q1,q2,q3,q4,fy,g1,g2,g3⟩:=flat_of hsz hy;obtain⟨i,u,hi,hu,h1,h2,h3⟩:=tShape_parts hT;obtain⟨ie,ue,hie,hue,k1,k2,k3⟩:=tShape_parts hE;have hu:E.P.underlying t=some (.slice e):=by
  cases u <;> simp only[shpOf,Shp.slice.injEq,reduceCtorEq] at h3;rw[hu,h3]
 clear h3;have hnc:∀cs,st.get key≠some (.cells cs):=fun cs hc=>by
  cases tok with
  | ro=>exact hg
  | full=>simp only[Grows] at hg; rw[hc] at hg; cases hg
  | own k=>have:=hg.2; rw[hc] at this; cases this
 have hall:∀(c:Cx) (w':World),(∀d x,Rd cx w d x→Rd c w' d x)→∀(i j:Nat) cs d,(xs++ys)[i]? = some cs→cs[j]? = some d→∃y,(fx++fy)[i*sz+j]? = some y∧Rd c w' d y:=fun c w' hm=>
  flat_append f1 p4 (fun i j cs d hi hj=>by obtain⟨y,hy,hr⟩:=f2 i j cs d hi hj; exact⟨y,hy,hm _ _ hr⟩) (fun i j cs d hi hj=>by obtain⟨y,hy,hr⟩:=g2 i j cs d hi hj; exact⟨y,hy,hm _ _ hr⟩)
 have hsall:∀(i:Nat) cs,(xs++ys)[i]? = some cs→cs.length=sz:=fun i cs h=>by
  rcases append_get h with ⟨_,h⟩ | ⟨_,h⟩
  ·exact p4 _ _ h
  ·exact q4 _ _ h
 have holdlen:∀n0 l0,cx.tk key=some (n0,l0)→n0=xs.length∧∃tl,l0=(e,tl)∧tok=.own key:=fun n0 l0 h=>by
  cases tok with
  | ro=>exact hg.elim
  | full=>rw[r.tk_none hg] at h; cases h
  | own k=>
   obtain⟨rfl,hs⟩:=hg;obtain⟨tl,ht,_⟩:=r.tok _ _ _ _ ⟨hs,rfl⟩;rw[ht] at h;cases h;exact⟨rfl,tl,rfl,rfl⟩
 by_cases hm:ys.length=0
 ·-- nothing is appended
  have hy0:ys=[]:=List.eq_nil_of_length_eq_zero hm;subst hy0;have hrun:=run_append_empty (ty:=ty) hT hE a xs.length cap p1 a2 cap2 w;obtain⟨tl,htl,htk⟩:∃tl:Option (Nat×Nat×Nat),(∀n0 l0,cx.tk key=some (n0,l0)→l0=(e,tl))∧(match tl with | none=>cap=xs.length | some (g,c,z)=>a=some ⟨g,0,none⟩∧c=cap∧z=sz∧cx.tk key=some (xs.length,e,tl)):=by
   cases tok with
   | ro=>exact hg.elim
   | full=>exact⟨none,fun n0 l0 h=>by(rw[r.tk_none hg] at h; cases h),p3⟩
   | own k=>
    obtain⟨rfl,hs⟩:=hg;obtain⟨n0,e0,tl,ht,hle,hx⟩:=p3;obtain⟨tl',ht',_⟩:=r.tok _ _ _ _ ⟨hs,rfl⟩;rw[ht] at ht';cases ht';refine⟨tl,fun n0 l0 h=>by(rw[ht] at h; cases h; rfl),?_⟩;have:=hx rfl;cases tl with
    | none=>exact this
    | some l=>obtain⟨g,c,z⟩:=l; exact⟨this.1,this.2.1,this.2.2,ht⟩
  have hstep:=r.tokStep (key:=key) hlt hnc (n:=xs.length) (e:=e) (tl:=tl) (w':=w) (M':=cx.M)
   (fun n0 l0 h=>by
    have:=(holdlen n0 l0 h).1;exact⟨by omega,fun _=>htl n0 l0 h⟩)
   rfl rfl rfl (Nat.le_refl _) (fun _ _ _=>rfl) (fun _ _ _ _=>rfl) (fun _ _ h=>.inl h) r.mlt r.zm (fun _ _ _=>rfl) (fun g c z ht _=>by
    subst ht;exact⟨_,_,_,_,_,htk.2.2.2⟩)
   (fun k b o hk hf=>⟨rfl,rfl,(r.foot k b o hf).2.2⟩) (fun _ _ _ _ _ _ _ _=>rfl)
   (fun g c z ht=>by
    subst ht;obtain⟨z1,z2,z3,z4⟩:=htk;obtain⟨ob,n',e',hs⟩:=r.domt key _ z4;obtain⟨tl',ht',hb'⟩:=r.tok _ _ _ _ hs;rw[z4] at ht';cases ht';obtain⟨b1,b2,b3⟩:=hb';refine⟨b1,b2,b3,fun o ho1 ho2=>⟨(r.foot key g o (.inr ⟨_,_,_,c,z,hs,z4,Nat.le_trans (lo_le hs.2 z) ho1,ho2⟩)).2.2,r.nz key g o (.inr ⟨_,_,_,c,z,hs,z4,Nat.le_trans (lo_le hs.2 z) ho1,ho2⟩)⟩,fun k n' e' c' z' hk h=>hk (r.rows _ _ _ _ _ _ _ _ _ _ _ h z4),fun k b o h=>r.apart _ _ _ _ _ _ _ _ _ h z4⟩)
  obtain⟨hrel,hext⟩:=hstep;refine⟨_,w,_,hrun,?_,?_,hext⟩
  ·simpa using hrel
  ·rw[List.append_nil];have hv':=hv.mono hext (RelF.ext.all_true _);obtain⟨a',cap',he,s1,s2,s3,s4,A,s5,s6⟩:=rd_sl_inv hv';cases he;refine .sl A (fun i j=>(((xs[i]?).bind (·[j]?)).elim undef (fun d=>(w.cell? ⟨A.1,A.2+i*sz+j,none⟩).getD undef))) s1 s2 s3 s5 (fun i j cs d hi hj=>?_) (fun i j cs d hi hj=>?_) ?_
   ·obtain⟨y,c1,c2,c3⟩:=s6 i j cs d hi hj;rw[hi]; simp only[Option.bind_some,hj,Option.elim_some];rw[c1]; exact⟨rfl,c2⟩
   ·obtain⟨y,c1,c2,c3⟩:=s6 i j cs d hi hj;rw[hi]; simp only[Option.bind_some,hj,Option.elim_some];rw[c1]; exact c3
   ·refine⟨xs.length,e,tl,if_pos rfl,Nat.le_refl _,fun _=>?_⟩;cases tl with
    | none=>exact htk
    | some l=>obtain⟨g,c,z⟩:=l; exact⟨htk.1,htk.2.1,htk.2.2.1⟩
 ·-- something is appended
  have hyne:ys≠[]:=fun h=>hm (by rw[h]; rfl);obtain⟨A2,rfl,hc2⟩:=g3 hyne;have hnews:∀(j:Nat) y,fy[j]? = some y→w.cell? ((⟨A2.1,A2.2,none⟩:Addr).add j)=some y:=fun j y h=>by rw[addr_add]; exact(hc2 j y h).1
  have hone':=allOne_flat hsz g1 q4 g2 hone;obtain⟨z,hz1,hz2⟩:∃z,ie.zero=some z∧z.cells.size=sz:=by
   unfold tZero at hz;rw[hie] at hz;simp only[Option.bind_some,Option.map_eq_some_iff] at hz;obtain⟨z,hz1,rfl⟩:=hz;exact⟨z,hz1,by simpa using hzl⟩
  by_cases hroom:∃g c zz,cx.tk key=some (xs.length,e,some (g,c,zz))∧a=some ⟨g,0,none⟩∧c=cap∧zz=sz∧xs.length+ys.length≤cap
  ·-- in place
   obtain⟨g,c,zz,htk,rfl,rfl,rfl,hfit⟩:=hroom;obtain⟨ob,n',e',hs⟩:=r.domt key _ htk;obtain⟨tl',ht',hb'⟩:=r.tok _ _ _ _ hs;rw[htk] at ht';cases ht';obtain⟨b1,b2,cur,hcur,hcs⟩:=hb';have hglt:=r.row_lt htk;have hfull:xs.length*zz+fy.length≤cur.size:=by rw[g1,hcs,← Nat.add_mul]; exact Nat.mul_le_mul_right _ hfit
   have hrun:=run_append_room (P:=E.P) w t ty e ie hu hie g xs.length c cur hcur ⟨A2.1,A2.2,none⟩ ys.length cap2 fy (by rw[g1,k1]) hnews hone' hfit (by rw[k1]; exact hfull);rw[k1] at hrun;generalize hnew:(cur.toList.take (xs.length*zz)++fy++cur.toList.drop (xs.length*zz+fy.length)).toArray=new at hrun;have hnsz:new.size=cur.size:=by rw[← hnew]; simp; omega
   have hcellg:∀o,(w.setRow g new).cell? ⟨g,o,none⟩=new[o]?:=fun o=>cell_setRow_same w g o cur new e (0,0) hcur;have hcello:∀o,w.cell? ⟨g,o,none⟩=cur[o]?:=fun o=>by simp[World.cell?,hcur]
   have hlow:∀o,o<xs.length*zz→new[o]? = cur[o]?:=fun o ho=>by
    rw[← hnew,List.getElem?_toArray,List.append_assoc,List.getElem?_append_left (by simp; omega),List.getElem?_take,if_pos ho,Array.getElem?_toList]
   have hmid:∀q,q<fy.length→new[xs.length*zz+q]? = fy[q]?:=fun q hq=>by
    rw[← hnew,List.getElem?_toArray,List.append_assoc,List.getElem?_append_right (by simp; omega),List.getElem?_append_left (by simp; omega)];congr 1; simp; omega
   have hfootg:∀o,xs.length*zz≤o→o<c*zz→cx.M g o:=fun o h1 h2=>(r.foot key g o (.inr ⟨_,_,_,c,zz,hs,htk,Nat.le_trans (lo_le hs.2 zz) h1,h2⟩)).2.2;have hblkne:∀k b o,k≠key→Mx.foot cx st k b o→b≠g:=fun k b o hk hf=>by
    rcases hf with ⟨cs,o0,y1,y2,_⟩ | ⟨_,n0,e0,c0,z0,y1,y2,_⟩
    ·exact r.apart _ _ _ _ _ _ _ _ _ y2 htk
    ·intro he; subst he; exact hk (r.rows _ _ _ _ _ _ _ _ _ _ _ y2 htk)
   have habs:∀o,o<xs.length*zz→¬cx.Z g o:=fun o ho hz=>by
    have hxne:xs≠[]:=fun h=>by rw[h] at ho; simp at ho
    obtain⟨A,hA,hcA⟩:=f3 hxne;simp only[Option.some.injEq,Addr.mk.injEq,and_true] at hA;have:=(hcA o _ (List.getElem?_eq_getElem (by omega))).2;rw[← hA.1,← hA.2,Nat.zero_add] at this;exact this (r.zm _ _ hz)
   have hother:∀b o,b≠g→(w.setRow g new).cell? ⟨b,o,none⟩=w.cell? ⟨b,o,none⟩:=fun b o h=>cell_setRow_other w g new ⟨b,o,none⟩ h;have hstep:=r.tokStep (key:=key) hlt hnc (n:=xs.length+ys.length) (e:=e) (tl:=some (g,c,zz)) (w':=w.setRow g new) (M':=fun b o=>cx.M b o∧¬(b=g∧o<(xs.length+ys.length)*zz))
    (fun n0 l0 h=>by rw[htk] at h; cases h; exact⟨by omega,fun h=>by omega⟩)
    rfl rfl rfl (by simp)
    (fun b hb hm=>setRow_other w g b new (fun he=>by
     subst he;have hpos:0<ys.length*zz:=Nat.mul_pos (by omega) hsz;have hle:(xs.length+ys.length)*zz≤c*zz:=Nat.mul_le_mul_right _ hfit;rw[Nat.add_mul] at hle;exact hm (xs.length*zz) (hfootg _ (Nat.le_refl _) (by omega))))
    (fun b o hb hm=>by
     by_cases he:b=g
     ·subst he;rw[hcellg,hcello];rcases Nat.lt_or_ge o (xs.length*zz) with h | h
      ·exact hlow o h
      ·rcases Nat.lt_or_ge o (c*zz) with h' | h'
       ·exact absurd (hm (hfootg o h h')) (r.nz key _ o (.inr ⟨_,_,_,c,zz,hs,htk,Nat.le_trans (lo_le hs.2 zz) h,h'⟩))
       ·rw[Array.getElem?_eq_none (by omega),Array.getElem?_eq_none (by omega)]
     ·exact hother b o he)
    (fun b o h=>.inl h.1) (fun b o h=>by rw[setRow_size]; exact r.mlt b o h.1)
    (fun b o h=>⟨r.zm b o h,fun h2=>by
     obtain⟨rfl,h2⟩:=h2;rcases Nat.lt_or_ge o (xs.length*zz) with h3 | h3
     ·exact habs o h3 h
     ·refine r.nz key _ o (.inr ⟨_,_,_,c,zz,hs,htk,Nat.le_trans (lo_le hs.2 zz) h3,?_⟩) h;have:(xs.length+ys.length)*zz≤c*zz:=Nat.mul_le_mul_right _ hfit;omega⟩)
    (fun b o hb=>by
     by_cases he:b=g
     ·subst he;simp only[World.frozen?,setRow_heap w b cur new e (0,0) hcur,hcur]
     ·exact World.frozen?_of_block (a:=⟨b,o,none⟩) (setRow_other w g b new he))
    (fun g' c' z' ht _=>by cases ht; exact⟨_,_,_,_,_,htk⟩)
    (fun k b o hk hf=>by
     have hne:=hblkne k b o hk hf;refine⟨hother b o hne,?_,(r.foot k b o hf).2.2,fun h=>hne h.1⟩;exact World.frozen?_of_block (a:=⟨b,o,none⟩) (setRow_other w g b new hne))
    (fun k n' e' g' c' z' hk h=>setRow_other w g g' new (fun he=>by subst he; exact hk (r.rows _ _ _ _ _ _ _ _ _ _ _ h htk)))
    (fun g' c' z' ht=>by
     cases ht;refine⟨hfit,b2,⟨new,setRow_heap w g cur new e (0,0) hcur,by rw[hnsz,hcs]⟩,fun o h1 h2=>⟨⟨hfootg o (by have:xs.length*zz≤(xs.length+ys.length)*zz:=Nat.mul_le_mul_right _ (by omega); omega) h2,fun h=>by omega⟩,r.nz key _ o (.inr ⟨_,_,_,c,zz,hs,htk,by have:=lo_le hs.2 zz; have:xs.length*zz≤(xs.length+ys.length)*zz:=Nat.mul_le_mul_right _ (by omega); omega,h2⟩)⟩,
      fun k n' e' c' z' hk h=>hk (r.rows _ _ _ _ _ _ _ _ _ _ _ h htk),fun k b o h=>r.apart _ _ _ _ _ _ _ _ _ h htk⟩)
   obtain⟨hrel,hext⟩:=hstep;refine⟨_,_,_,hrun,hrel,?_,hext⟩;have hlen:(xs++ys).length=xs.length+ys.length:=by simp
   refine rd_sl_mk' hlen (g,0) (fx++fy) hfit p2 hsall (fun _=>rfl) (fun q y hq=>?_) (hall _ _ fun d x h=>h.mono hext (RelF.ext.all_true _)) ?_
   ·rw[Nat.zero_add,hcellg];have hqlt:q<(fx++fy).length:=(List.getElem?_eq_some_iff.1 hq).1;rw[List.length_append,f1,g1,← Nat.add_mul] at hqlt;refine⟨?_,fun h=>h.2 ⟨rfl,hqlt⟩⟩;rcases append_get hq with ⟨l1,l2⟩ | ⟨l1,l2⟩
    ·rw[hlow q (by omega),← hcello];have hxne:xs≠[]:=fun h=>by rw[h] at f1; simp at f1; subst f1; simp at l1
     obtain⟨A,hA,hcA⟩:=f3 hxne;simp only[Option.some.injEq,Addr.mk.injEq,and_true] at hA;have:=(hcA q y l2).1
     rwa [← hA.1,← hA.2,Nat.zero_add] at this
    ·have:=hmid (q-fx.length) (List.getElem?_eq_some_iff.1 l2).1;rw[show xs.length*zz+(q-fx.length)=q by omega] at this;rw[this]; exact l2
   ·refine⟨_,e,some (g,c,zz),if_pos rfl,Nat.le_refl _,fun _=>⟨rfl,rfl,rfl⟩⟩
  ·-- a new row
   have hnr:cap<xs.length+ys.length∧(a=none→xs.length=0∧cap=0):=by
    refine⟨?_,fun ha=>?_⟩
    ·rcases Nat.lt_or_ge cap (xs.length+ys.length) with h | h
     ·exact h
     ·refine absurd ?_ hroom;cases tok with
      | ro=>exact hg.elim
      | full=>have:cap=xs.length:=p3; omega
      | own k=>
       obtain⟨rfl,hs⟩:=hg;obtain⟨n0,e0,tl,ht,hle,hx⟩:=p3;obtain⟨tl',ht',_⟩:=r.tok _ _ _ _ ⟨hs,rfl⟩;rw[ht] at ht';cases ht';have:=hx rfl;cases tl with
       | none=>have:cap=xs.length:=this; omega
       | some l=>obtain⟨g,c,z⟩:=l; exact⟨g,c,z,ht,this.1,this.2.1,this.2.2,h⟩
    ·have hx0:xs.length=0:=by
      rcases Nat.eq_zero_or_pos xs.length with h | h
      ·exact h
      ·obtain⟨A,hA,_⟩:=f3 (List.length_pos_iff.1 h);rw[ha] at hA; cases hA
     refine⟨hx0,?_⟩;cases tok with
     | ro=>exact hg.elim
     | full=>have:cap=xs.length:=p3; omega
     | own k=>
      obtain⟨rfl,hs⟩:=hg;obtain⟨n0,e0,tl,ht,hle,hx⟩:=p3;obtain⟨tl',ht',_⟩:=r.tok _ _ _ _ ⟨hs,rfl⟩;rw[ht] at ht';cases ht';have:=hx rfl;cases tl with
      | none=>have:cap=xs.length:=this; omega
      | some l=>obtain⟨g,c,z⟩:=l; rw[ha] at this; exact absurd this.1 (by simp)
   generalize hcap':grownCap w (xs.length+ys.length) cap e=cap';have hge:xs.length+ys.length≤cap':=by rw[← hcap']; exact grownCap_ge w _ _ e
   have hml:cap'≤maxLen:=by rw[← hcap']; exact grownCap_le_maxLen w _ _ e (by unfold maxLen; omega)
   generalize hnew:(fx.toArray++fy.toArray++Builtin.zeroCells z.cells (cap'-(xs.length+ys.length)))=new;have hnsz:new.size=cap'*sz:=by
    rw[← hnew];simp only[Array.size_append,List.size_toArray,size_zeroCells,hz2,f1,g1,← Nat.add_mul];congr 1; omega
   have hrun:(Builtin.append_ #[t,t] ty #[.slice a xs.length cap,.slice (some ⟨A2.1,A2.2,none⟩) ys.length cap2]).run E.P w=.ok (.slice (some ⟨w.heap.size,0,none⟩) (xs.length+ys.length) cap') (w.drew.alloc (.cells new e (0,0))):=by
    cases a with
    | none=>
     obtain⟨hx0,hc0⟩:=hnr.2 rfl;have hfx:fx=[]:=List.eq_nil_of_length_eq_zero (by rw[f1,hx0]; simp);have:=run_append_nil (P:=E.P) w t ty e ie z hu hie hz1 ⟨A2.1,A2.2,none⟩ ys.length cap2 fy (by rw[g1,k1]) hnews (by omega) (by omega) (by rw[hx0] at hb1; simp at hb1; rw[k2]; omega);subst hfx;subst hc0;rw[hx0] at hcap' hnew ⊢;simp only[Nat.zero_add] at hcap' hnew ⊢;rw[this,hcap',← hnew];simp
    | some ad=>
     have holds:∀(j:Nat) y,fx[j]? = some y→w.cell? (ad.add j)=some y:=fun j y h=>by
      have hxne:xs≠[]:=fun h'=>by rw[h'] at f1; simp at f1; subst f1; simp at h
      obtain⟨A,hA,hcA⟩:=f3 hxne;cases hA;rw[addr_add]; exact(hcA j y h).1
     have:=run_append_grow (P:=E.P) w t ty e ie z hu hie hz1 ad xs.length cap fx (by rw[f1,k1]) holds ⟨A2.1,A2.2,none⟩ ys.length cap2 fy (by rw[g1,k1]) hnews hnr.1 (by omega) (growslice_fits hnr.1 (by rw[k2]; exact hb1));rw[this,hcap',hnew]
   have hcelln:∀o,(w.drew.alloc (.cells new e (0,0))).cell? ⟨w.heap.size,o,none⟩=new[o]?:=fun o=>by
    have:(w.drew.alloc (.cells new e (0,0))).heap[w.heap.size]? = some (.cells new e (0,0)):=heap_alloc_new w.drew _;unfold World.cell?;rw[this]; rfl
   have hcello:∀b o,b<w.heap.size→(w.drew.alloc (.cells new e (0,0))).cell? ⟨b,o,none⟩=w.cell? ⟨b,o,none⟩:=fun b o h=>cell_old (w:=w.drew) h;have hheap:∀b,b<w.heap.size→(w.drew.alloc (.cells new e (0,0))).heap[b]? = w.heap[b]?:=fun b h=>heap_old (w:=w.drew) h;have hstep:=r.tokStep (key:=key) hlt hnc (n:=xs.length+ys.length) (e:=e) (tl:=some (w.heap.size,cap',sz)) (w':=w.drew.alloc (.cells new e (0,0)))
    (M':=fun b o=>cx.M b o∨(b=w.heap.size∧(xs.length+ys.length)*sz≤o∧o<cap'*sz))
    (fun n0 l0 h=>by
     have:=(holdlen n0 l0 h).1;exact⟨by omega,fun h=>by omega⟩)
    rfl rfl rfl (by show w.heap.size≤(w.heap.push _).size; simp)
    (fun b hb _=>hheap b hb) (fun b o hb _=>hcello b o hb)
    (fun b o h=>by
     rcases h with h | h
     ·exact .inl h
     ·exact .inr (by omega))
    (fun b o h=>by
     show b<(w.heap.push _).size;simp only[Array.size_push];rcases h with h | h
     ·have:=r.mlt b o h; omega
     ·omega)
    (fun b o h=>.inl (r.zm b o h)) (fun b o hb=>World.frozen?_of_block (a:=⟨b,o,none⟩) (hheap b hb)) (fun g' c' z' ht hlt=>by cases ht; omega)
    (fun k b o hk hf=>by
     have hb:=not_foot_new r hf;exact⟨hcello b o hb,World.frozen?_of_block (a:=⟨b,o,none⟩) (hheap b hb),.inl (r.foot k b o hf).2.2⟩)
    (fun k n' e' g' c' z' hk h=>hheap _ (r.row_lt h))
    (fun g' c' z' ht=>by
     cases ht;refine⟨hge,hml,⟨new,heap_alloc_new w.drew _,hnsz⟩,fun o h1 h2=>⟨.inr ⟨rfl,h1,h2⟩,fun h=>by have:=r.mlt _ _ (r.zm _ _ h); omega⟩,fun k n' e' c' z' hk h=>?_,fun k b o h he=>?_⟩
     ·have:=r.row_lt h; omega
     ·have:=r.bxlt k b o h; omega)
   obtain⟨hrel,hext⟩:=hstep;refine⟨_,_,_,hrun,hrel,?_,hext⟩;have hlen:(xs++ys).length=xs.length+ys.length:=by simp
   refine rd_sl_mk' hlen (w.heap.size,0) (fx++fy) hge hml hsall (fun _=>rfl) (fun q y hq=>?_) (hall _ _ fun d x h=>h.mono hext (RelF.ext.all_true _)) ?_
   ·rw[Nat.zero_add,hcelln];have hqlt:q<(fx++fy).length:=(List.getElem?_eq_some_iff.1 hq).1;refine⟨?_,fun h=>?_⟩
    ·rw[← hnew,Array.getElem?_append_left (by simpa using hqlt)];rw[List.append_toArray,List.getElem?_toArray]; exact hq
    ·rw[List.length_append,f1,g1,← Nat.add_mul] at hqlt;rcases h with h | h
     ·have:=r.mlt _ _ h; omega
     ·omega
   ·exact⟨_,e,some (w.heap.size,cap',sz),if_pos rfl,Nat.le_refl _,fun _=>⟨rfl,rfl,rfl⟩⟩
end Go.Mx
namespace Go.Mx
set_option linter.unusedVariables false
set_option linter.unusedSimpArgs false
def fog1:D→D
 | .sl sz _ xs=>.sl sz .ro xs
 | d=>d
def fog:D→D
 | .sl sz _ xs=>.sl sz .ro xs
 | .agg cs=>.agg (cs.map fog1)
 | .tup cs=>.tup (cs.map fun | .agg cs=>.agg (cs.map fog1) | d=>fog1 d)
 | d=>d
theorem Rd.fog1 {cx:Cx} {w:World} {d:D} {x:Value} (h:Rd cx w d x):Rd cx w (fog1 d) x:=by
 cases h with
 | sl A vs h1 h2 h3 h4 h5 h6 h7=>exact .sl A vs h1 h2 h3 h4 h5 h6 trivial
 | v x=>exact .v x
 | any x=>exact .any x
 | bx h=>exact .bx h
 | sb h hn=>exact .sb h hn
 | vs h1 h2 h3=>exact .vs h1 h2 h3
 | ve h=>exact .ve h
 | ro b o vs h1 h2=>exact .ro b o vs h1 h2
 | agg h1 h2=>exact .agg h1 h2
 | tup h1 h2=>exact .tup h1 h2
 | clo h1 h2 h3 h4=>exact .clo h1 h2 h3 h4
 | mp h1 h2 h3 h4 h5=>exact .mp h1 h2 h3 h4 h5
 | gb h1 h2 h3=>exact .gb h1 h2 h3
theorem rd_map {cx:Cx} {w:World} {f:D→D} (hf:∀d x,Rd cx w d x→Rd cx w (f d) x) {cs:List D} {vs:List Value} (h:∀(j:Nat) d x,cs[j]? = some d→vs[j]? = some x→Rd cx w d x) :
  ∀(j:Nat) d x,(cs.map f)[j]? = some d→vs[j]? = some x→Rd cx w d x:=fun j d x hd hx=>by
 rw[List.getElem?_map,Option.map_eq_some_iff] at hd;obtain⟨e,he,rfl⟩:=hd;exact hf e x (h j e x he hx)
theorem Rd.fog {cx:Cx} {w:World} {d:D} {x:Value} (h:Rd cx w d x):Rd cx w (fog d) x:=by
 cases h with
 | sl A vs h1 h2 h3 h4 h5 h6 h7=>exact .sl A vs h1 h2 h3 h4 h5 h6 trivial
 | v x=>exact .v x
 | any x=>exact .any x
 | bx h=>exact .bx h
 | sb h hn=>exact .sb h hn
 | vs h1 h2 h3=>exact .vs h1 h2 h3
 | ve h=>exact .ve h
 | ro b o vs h1 h2=>exact .ro b o vs h1 h2
 | agg h1 h2=>exact .agg (by simpa using h1) (rd_map (fun d x h=>h.fog1) h2)
 | tup h1 h2=>
  refine .tup (by simpa using h1) (rd_map (fun d x h=>?_) h2);cases h with
  | agg g1 g2=>exact .agg (by simpa using g1) (rd_map (fun d x h=>h.fog1) g2)
  | sl A vs h1 h2 h3 h4 h5 h6 h7=>exact .sl A vs h1 h2 h3 h4 h5 h6 trivial
  | v x=>exact .v x
  | any x=>exact .any x
  | bx h=>exact .bx h
  | sb h hn=>exact .sb h hn
  | vs h1 h2 h3=>exact .vs h1 h2 h3
  | ve h=>exact .ve h
  | ro b o vs h1 h2=>exact .ro b o vs h1 h2
  | tup h1 h2=>exact .tup h1 h2
  | clo h1 h2 h3 h4=>exact .clo h1 h2 h3 h4
  | mp h1 h2 h3 h4 h5=>exact .mp h1 h2 h3 h4 h5
  | gb h1 h2 h3=>exact .gb h1 h2 h3
 | clo h1 h2 h3 h4=>exact .clo h1 h2 h3 h4
 | mp h1 h2 h3 h4 h5=>exact .mp h1 h2 h3 h4 h5
 | gb h1 h2 h3=>exact .gb h1 h2 h3
def Wk (d d':D):Prop:=∀cx w x,Rd cx w d x→Rd cx w d' x
def WkL (ds ds':List D):Prop:=∀cx w vs,RdL cx w ds vs→RdL cx w ds' vs
theorem Wk.refl (d:D):Wk d d:=fun _ _ _ h=>h
theorem Wk.fog {d d':D} (h:Mx.fog d=d'):Wk d d':=fun _ _ _ hr=>h▸hr.fog
theorem Wk.any (d:D):Wk d .any:=fun _ _ x _=>.any x
theorem ACall.wk {E:Setting} {f:Nat} {ds ds':List D} {st:St} {K:D→St→Prop} (hw:WkL ds ds') (h:ACall E f ds' st K):ACall E f ds st K:=
 fun cx w vs hr hd=>h cx w vs hr (hw cx w vs hd)
section
variable {E : Setting} {U : Fun} {F : D → St → Prop} {k : List KI} {ρ : Env} {fr : Fr} {st : St} {all : Array Oper} {rest : List Oper}
variable {t : Nat} {ty : TypeId} {pos : String} {af : Array Edge} {nn bb : Nat} {ss : Shp}
theorem S.append {s e:TypeId} {n b be:Nat} {se:Shp} {x y:Operand} {sz:Nat} {tok toky:Tok} {xs ys:List (List D)} {zs:List Value} {key:Key} {st':St} (ht:Nat.blt t U.N=true)
  (hT:tShape E.P s=some (n,b,.slice e)) (hE:tShape E.P e=some (sz,be,se)) (hz:tZero E.P e=some zs) (hzl:zs.length=sz) (hsz:0<sz)
  (hx:ev E ρ x=.sl sz tok xs) (hy:ev E ρ y=.sl sz toky ys) (hone:∀cs∈ys,allB D.one cs=true) (hbound:(xs.length+ys.length)*be≤140737488355328) (hbe:0<be)
  (hlt:key.1<st.length) (hg:Grows st key e xs.length tok) (hst:st.set key (some (.tok (xs.length+ys.length) e))=st') :
  SOk E U ρ st ⟨some t,.call ⟨.builtin .append,#[x,y],#[s,s]⟩,ty,pos,af,none⟩ (upd ρ t (.sl sz (.own key) (xs++ys))) st':=
 ⟨rfl,by rw[← hst,St.length_set],fun cx a w hr=>by
  have hv:=hr.eval x; rw[hx] at hv;have hw:=hr.eval y; rw[hy] at hw;have hb2:xs.length+ys.length≤9223372036854775807:=by
   have:(xs.length+ys.length)*1≤(xs.length+ys.length)*be:=Nat.mul_le_mul_left _ hbe;omega
  obtain⟨v',w',cx',h1,h2,h3,h4⟩:=append_core hr.rel hsz hv hw (ty:=ty) hT hE hz hzl hone hbound hb2 hlt hg;rw[hst] at h2;refine⟨_,w',cx',v',?_,.inl rfl,put_rd (hr.ext h4 h2) ht h3,h4⟩;simp only[execOp,resolve,Sem.run_bind,Sem.run_pure,Result.andThen_ok,invoke,builtin,List.map_toArray,List.map_cons,List.map_nil,h1]⟩
end
def fillD (pl:Nat→Option (Nat×Nat)) (cells:List D):List (Nat×D)→Option (List D)
 | []=>some cells
 | (i,d)::r=>
  match pl i with
  | none=>none
  | some (o,z)=>if Nat.beq (cellsD d).length z&&Nat.ble (o+z) cells.length then fillD pl (splice cells o (cellsD d)) r else none
theorem foldl_splice (vs:List Value):∀(off k:Nat) (cells:Array Value),off+k+vs.length≤cells.size →
  ((vs.zipIdx k).foldl (fun cs (x:Value×Nat)=>cs.setIfInBounds (off+x.2) x.1) cells).toList=splice cells.toList (off+k) vs:=by
 induction vs with
 | nil=>intro off k cells h; simp[splice]
 | cons v r ih=>
  intro off k cells h;rw[List.zipIdx_cons,List.foldl_cons,ih off (k+1) _ (by simp at h ⊢; omega)];apply List.ext_getElem?;intro j;rw[splice_get (by simp at h ⊢; omega),splice_get (by simp at h ⊢; omega)];simp only[Array.toList_setIfInBounds,List.length_cons];by_cases h1:off+(k+1)≤j∧j<off+(k+1)+r.length
  ·rw[if_pos h1,if_pos (by omega),show j-(off+k)=(j-(off+(k+1)))+1 by omega,List.getElem?_cons_succ]
  ·rw[if_neg h1];by_cases h2:j=off+k
   ·subst h2;rw[if_pos (by omega)];have hlt:off+k<cells.toList.length:=by simp at h ⊢; omega
    rw[List.getElem?_set_self hlt];simp
   ·rw[if_neg (by omega),List.getElem?_set_ne (by omega)]
theorem fill_rd {cx:Cx} {w:World} {pl:Nat→Option (Nat×Nat)}:∀{parts:List (Nat×D)} {vparts:List (Nat×Value)} {cells:List D} {vcells:Array Value} {ds:List D},
  fillD pl cells parts=some ds→(∀p∈parts,p.2.simple=true)→cells.length=vcells.toList.length→(∀(j:Nat) d x,cells[j]? = some d→vcells.toList[j]? = some x→Rd cx w d x) →
  parts.length=vparts.length→(∀(j:Nat) p q,parts[j]? = some p→vparts[j]? = some q→p.1=q.1∧Rd cx w p.2 q.2) →
  ∃out:Array Value,Instr.fill pl vcells vparts=some out∧ds.length=out.toList.length∧∀(j:Nat) d x,ds[j]? = some d→out.toList[j]? = some x→Rd cx w d x:=by
 intro parts
 induction parts with
 | nil=>
  intro vparts cells vcells ds h _ hl hr hp _;cases vparts with
  | nil=>simp only[fillD,Option.some.injEq] at h; subst h; exact⟨vcells,rfl,hl,hr⟩
  | cons _ _=>simp at hp
 | cons p r ih=>
  intro vparts cells vcells ds h hs hl hr hp hpr;cases vparts with
  | nil=>simp at hp
  | cons q vr=>
   obtain⟨i,d⟩:=p;obtain⟨i',v⟩:=q;obtain⟨hi,hd⟩:=hpr 0 (i,d) (i',v) rfl rfl;simp only at hi hd;subst hi;simp only[fillD] at h;cases hpl:pl i with
   | none=>rw[hpl] at h; cases h
   | some oz=>
    obtain⟨o,z⟩:=oz;rw[hpl] at h;simp only[Bool.and_eq_true] at h;split at h
    ·rename_i hc;obtain⟨hc1,hc2⟩:=hc;have hc1:=Nat.eq_of_beq_eq_true hc1;have hc2:=Nat.le_of_ble_eq_true hc2;obtain⟨g1,g2⟩:=cellsD_rd' hd (hs (i,d) (by simp));have hvz:v.cells.size=z:=by simp at g1; omega
     have hfit:o+v.cells.toList.length≤vcells.size:=by simp at hl ⊢; omega
     have hfold:(v.cells.zipIdx.foldl (fun cs (x:Value×Nat)=>cs.setIfInBounds (o+x.2) x.1) vcells).toList=splice vcells.toList o v.cells.toList:=by
      have:=foldl_splice v.cells.toList o 0 vcells (by simpa using hfit);rw[Nat.add_zero] at this;rw[← Array.foldl_toList,Array.toList_zipIdx];exact this
     obtain⟨out,e1,e2,e3⟩:=ih (vparts:=vr) (vcells:=v.cells.zipIdx.foldl (fun cs (x:Value×Nat)=>cs.setIfInBounds (o+x.2) x.1) vcells) h (fun p hp=>hs p (by simp[hp]))
      (by rw[hfold,splice_length (by omega),splice_length (by simpa using hfit)]; exact hl)
      (fun j d x hd hx=>by
       rw[hfold,splice_get (by simpa using hfit)] at hx;rw[splice_get (by omega)] at hd;have hle:(cellsD d).length=(cellsD d).length:=rfl;split at hd
       ·rw[if_pos (by omega)] at hx; exact g2 _ d x hd hx
       ·rw[if_neg (by omega)] at hx; exact hr j d x hd hx)
      (by simpa using hp) (fun j p q h1 h2=>hpr (j+1) p q (by simpa using h1) (by simpa using h2))
     refine⟨out,?_,e2,e3⟩;simp only[Instr.fill,hpl];rw[if_neg (by simp; simp at hfit; omega)];exact e1
    ·cases h
end Go.Mx
namespace Go.Mx
set_option linter.unusedVariables false
set_option linter.unusedSimpArgs false
def plS (fs:List (Nat×Nat)):Nat→Option (Nat×Nat):=fun i=>fs[i]?
def plE (sz:Nat):Nat→Option (Nat×Nat):=fun i=>some (i*sz,sz)
theorem run_sizeOf_cells {P:Program} {t:TypeId} {z:Nat} (h:P.cellsOf t=z) (hz:z≠0) (w:World):(sizeOf t).run P w=.ok z w:=by
 unfold Program.cellsOf at h;unfold sizeOf;cases hi:P.info? t with
 | none=>rw[hi] at h; simp at h; omega
 | some j=>rw[hi] at h; simp only[Option.map_some,Option.getD_some] at h; rw[Sem.run_bind,run_typeInfo w hi]; simp[h]
theorem run_places {P:Program} (w:World):∀(l:List Field),(∀f∈l,P.cellsOf f.type≠0) →
  (l.mapM (m:=Sem) fun f=>do pure (f.offset,← sizeOf f.type)).run P w=.ok (l.map fun f=>(f.offset,P.cellsOf f.type)) w
 | [],_=>rfl
 | f::r,h=>by
  rw[List.mapM_cons];simp only[Sem.run_bind,run_sizeOf_cells rfl (h f (by simp)),Result.andThen_ok,Sem.run_pure,run_places w r (fun g hg=>h g (by simp[hg]))];rfl
section
variable {E : Setting} {U : Fun} {F : D → St → Prop} {k : List KI} {ρ : Env} {fr : Fr} {st : St} {all : Array Oper} {rest : List Oper}
variable {t : Nat} {ty : TypeId} {pos : String} {af : Array Edge} {nn bb : Nat} {ss : Shp}
theorem parts_rd {N:Nat} {cx:Cx} {a:Act} {w:World} (hr:RelF E N cx ρ st a w) {parts:Array (Nat×Operand)} :
  (parts.toList.map fun p=>(p.1,ev E ρ p.2)).length=((parts.map fun(i,x)=>(i,a.eval x)).toList).length ∧
  ∀(j:Nat) p q,(parts.toList.map fun p=>(p.1,ev E ρ p.2))[j]? = some p→(parts.map fun(i,x)=>(i,a.eval x)).toList[j]? = some q→p.1=q.1∧Rd cx w p.2 q.2:=by
 refine⟨by simp,fun j p q hp hq=>?_⟩;rw[Array.toList_map,List.getElem?_map,Option.map_eq_some_iff] at hq;rw[List.getElem?_map,Option.map_eq_some_iff] at hp;obtain⟨x,hx,rfl⟩:=hp;obtain⟨y,hy,rfl⟩:=hq;rw[hx] at hy; cases hy;exact⟨rfl,hr.eval _⟩
def allP:List (Nat×D)→Bool
 | []=>true
 | p::r=>p.2.simple&&allP r
theorem allP_get {l:List (Nat×D)} (h:allP l=true):∀p∈l,p.2.simple=true:=by
 induction l with
 | nil=>simp
 | cons q r ih=>
  simp only[allP,Bool.and_eq_true] at h;intro p hp;cases hp with
  | head=>exact h.1
  | tail _ hp=>exact ih h.2 p hp
def allZ:List (Nat×Nat)→Bool
 | []=>true
 | p::r=>(match p.2 with | 0=>false | _=>true)&&allZ r
theorem allZ_get {l:List (Nat×Nat)} (h:allZ l=true):∀p∈l,p.2≠0:=by
 induction l with
 | nil=>simp
 | cons q r ih=>
  simp only[allZ,Bool.and_eq_true] at h;intro p hp;cases hp with
  | head=>intro he; have:=h.1; rw[he] at this; cases this
  | tail _ hp=>exact ih h.2 p hp
theorem P.build {s:TypeId} {n b:Nat} {fs:List (Nat×Nat)} {parts:Array (Nat×Operand)} {zs:List Value} {zds ds:List D} {ps:List (Nat×D)} (hT:tShape E.P s=some (n,b,.struct fs)) (hfs:allZ fs=true)
  (hz:tZero E.P s=some zs) (hzd:ZeroL zds zs) (hps:(parts.toList.map fun p=>(p.1,ev E ρ p.2))=ps) (hsim:allP ps=true) (hf:fillD (plS fs) zds ps=some ds):POk E U ρ st ⟨some t,.build s parts,ty,pos,af,none⟩ (.agg ds):=
 (fun cx a w hr=>by
  obtain⟨i,u,hi,hu,h1,h2,h3⟩:=tShape_parts hT;cases u <;> simp only[shpOf,Shp.struct.injEq,reduceCtorEq] at h3;rename_i fields;unfold tZero at hz;rw[hi] at hz;simp only[Option.bind_some,Option.map_eq_some_iff] at hz;obtain⟨z,hz1,hz2⟩:=hz;obtain⟨l1,l2⟩:=hzd.rd (cx:=cx) (w:=w);obtain⟨p1,p2⟩:=parts_rd hr (parts:=parts);rw[hps] at p1 p2;obtain⟨out,e1,e2,e3⟩:=fill_rd (vcells:=z.cells) hf (allP_get hsim) (by rw[hz2]; exact l1) (by rw[hz2]; exact l2) p1 p2;refine⟨.agg out,fun w=>?_,?_⟩
  ·have hpl:(fields.mapM (m:=Sem) fun f=>do Pure.pure (f.offset,← sizeOf f.type)).run E.P w=.ok fs.toArray w:=by
    rw[← Array.toArray_toList (xs:=fields),List.mapM_toArray,Sem.run_map,run_places w _ (fun f hf'=>?_)]
    ·simp only[Result.andThen_ok]; rw[h3]
    ·exact allZ_get hfs (f.offset,E.P.cellsOf f.type) (by rw[← h3]; exact List.mem_map.2 ⟨f,hf',rfl⟩)
   have hplf:(fun j=>fs.toArray[j]?)=plS fs:=by funext j; simp[plS]
   simp only[execOp,Instr.build,zeroValue,Sem.run_bind,run_typeInfo w hi,Result.andThen_ok,hz1,Sem.run_pure,run_underlying hu,hpl,hplf,e1]
  ·have:(.agg out:Value)=.agg out.toList.toArray:=by simp
   rw[this];exact .agg e2 e3)
theorem S.buildSlice {s e:TypeId} {n b be sz:Nat} {se:Shp} {len:Nat} {parts:Array (Nat×Operand)} {zs:List Value} {xs xs':List (List D)} {ps:List (Nat×D)} (ht:Nat.blt t U.N=true) (hT:tShape E.P s=some (n,b,.slice e)) (hE:tShape E.P e=some (sz,be,se))
  (hz:tZero E.P e=some zs) (hzl:zs.length=sz) (hsz:0<sz) (hlen:len*sz≤65536) (hps:(parts.toList.map fun p=>(p.1,ev E ρ p.2))=ps) (hsim:allP ps=true)
  (hf:fillD (plE sz) (List.replicate (len*sz) .any) ps=some xs.flatten) (hxl:xs.length=len) (hxs:∀cs∈xs,cs.length=sz) (hfog:xs.map (·.map fog1)=xs') :
  SOk E U ρ st ⟨some t,.buildSlice s len parts,ty,pos,af,none⟩ (upd ρ t (.sl sz .full xs')) st:=
 ⟨rfl,rfl,fun cx a w hr=>by
  obtain⟨i,u,hi,hu,h1,h2,h3⟩:=tShape_parts hT;obtain⟨ie,ue,hie,hue,k1,k2,k3⟩:=tShape_parts hE;have hu:E.P.underlying s=some (.slice e):=by
   cases u <;> simp only[shpOf,Shp.slice.injEq,reduceCtorEq] at h3;rw[hu,h3]
  unfold tZero at hz;rw[hie] at hz;simp only[Option.bind_some,Option.map_eq_some_iff] at hz;obtain⟨z,hz1,hz2⟩:=hz;have hzne:z.cells.toList≠[]:=by rw[hz2]; intro h; rw[h] at hzl; simp at hzl; omega
  obtain⟨p1,p2⟩:=parts_rd hr (parts:=parts);rw[hps] at p1 p2;obtain⟨out,e1,e2,e3⟩:=fill_rd (vcells:=((Array.range (len*sz)).map (fun j=>z.cells[j % z.cells.size]!))) (cx:=cx) (w:=w) hf (allP_get hsim) (by simp) (fun j d x hd _=>by
   rw[List.getElem?_replicate] at hd;split at hd
   ·cases hd; exact .any x
   ·cases hd) p1 p2
  have hflen:xs.flatten.length=len*sz:=by
   rw[← hxl];clear hf hfog hxl hlen e2 e3
   induction xs with
   | nil=>simp
   | cons c r ih=>simp only[List.flatten_cons,List.length_append,List.length_cons,Nat.add_mul,Nat.one_mul]; rw[hxs c (by simp),ih (fun c hc=>hxs c (by simp[hc]))]; omega
  have hflat:∀(l:List (List D)),(∀cs∈l,cs.length=sz)→∀(i j:Nat) cs d,l[i]? = some cs→cs[j]? = some d→l.flatten[i*sz+j]? = some d:=fun l=>by
   induction l with
   | nil=>intro _ i j cs d hi; simp at hi
   | cons c r ih=>
    intro hl i j cs d hi hj;have hc:=hl c (by simp);rw[List.flatten_cons];cases i with
    | zero=>
     simp only[List.getElem?_cons_zero,Option.some.injEq] at hi;subst hi;rw[List.getElem?_append_left (by have:=(List.getElem?_eq_some_iff.1 hj).1; omega)]
     simpa using hj
    | succ i=>
     rw[List.getElem?_append_right (by rw[hc,Nat.add_mul]; omega),show(i+1)*sz+j-c.length=i*sz+j by rw[hc,Nat.add_mul]; omega];exact ih (fun c hc=>hl c (by simp[hc])) i j cs d (by simpa using hi) hj
  have hext:Ext (fun _=>true) cx w cx (w.alloc (.cells out e (0,0))):=
   ⟨rfl,rfl,rfl,by show _≤(w.heap.push _).size; simp,fun b hb _=>heap_old hb,fun b o hb _=>cell_old hb,fun _ _ _ h=>h,fun _ _ _ h=>h,fun k n l _ h=>⟨n,l,h,Nat.le_refl _,fun _=>rfl⟩,rfl,fun k n e g c z h _=>⟨k,n,e,c,z,h⟩,fun b o hb=>frozen_old hb⟩
  have hrel:Rel E cx st (w.alloc (.cells out e (0,0))):=by
   have r:=hr.rel;refine⟨fun k cs h=>?_,fun k n0 e0 z cs h=>r.vecKeep h rfl (fun g c z' j x hk _ hx=>by rw[cell_old (cell_lt hx)]; exact hx) (fun j d x _ hr=>hr.mono hext (RelF.ext.all_true _)),fun k ob n0 e0 h=>?_,fun k b o h=>?_,r.sep,r.domb,r.domt,fun b o h=>?_,r.nz,r.zm,fun k b o h=>?_,r.apart,r.rows,fun g=>(r.glob g).mono hext (RelF.ext.all_true _)⟩
   ·obtain⟨q1,b,o,q2,q3⟩:=r.cells k cs h;refine⟨q1,b,o,q2,fun j d hj=>?_⟩;obtain⟨x,hx,hrd⟩:=q3 j d hj;exact⟨x,by rw[cell_old (cell_lt hx)]; exact hx,hrd.mono hext (RelF.ext.all_true _)⟩
   ·obtain⟨tl,q1,q2⟩:=r.tok k ob n0 e0 h;refine⟨tl,q1,?_⟩
    match tl,q1,q2 with
    | none,_,_=>trivial
    | some (g,c,z),q1,⟨g1,g2,cur,g3,g4⟩=>exact⟨g1,g2,cur,by rw[heap_old (r.row_lt q1)]; exact g3,g4⟩
   ·obtain⟨⟨x,hx⟩,q2,q3⟩:=r.foot k b o h;have hb:=cell_lt hx;exact⟨⟨x,by rw[cell_old hb]; exact hx⟩,by rw[frozen_old hb]; exact q2,q3⟩
   ·show b<(w.heap.push _).size;have:=r.mlt b o h;simp; omega
   ·show b<(w.heap.push _).size;have:=r.bxlt k b o h;simp; omega
  refine⟨_,_,cx,.slice (some ⟨w.heap.size,0,none⟩) len len,?_,.inl rfl,put_rd (hr.ext hext hrel) ht ?_,hext⟩
  ·have hsz2:=run_sizeOf_shape hE w;have hle:¬(len*sz>2 ^ 24):=by omega
   simp only[execOp,Instr.buildSlice,Sem.run_bind,run_underlying hu,Result.andThen_ok,hsz2];rw[if_neg hle];by_cases h0:len*sz=0
   ·have hl0:len=0:=by
     rcases Nat.mul_eq_zero.1 h0 with h | h
     ·exact h
     ·omega
    subst hl0;rw[Nat.zero_mul,show ∀f:Nat→Value,Array.map f (Array.range 0)=#[] from fun f=>by simp] at e1;simp only[Nat.zero_mul,if_true,Sem.run_bind,Sem.run_pure,Result.andThen_ok];rw[show ∀f:Nat→Value,Array.map f (Array.range 0)=#[] from fun f=>by simp,show(fun i=>some (i*sz,sz))=plE sz from rfl,e1];simp only[newRow,Sem.run_bind,Sem.run_pure,Result.andThen_ok];rfl
   ·rw[if_neg h0];simp only[zeroValue,Sem.run_bind,run_typeInfo w hie,Result.andThen_ok,hz1,Sem.run_pure];rw[show(fun i=>some (i*sz,sz))=plE sz from rfl,e1];simp only[newRow,Sem.run_bind,Sem.run_pure,Result.andThen_ok];rfl
  ·have hl':xs'.length=len:=by rw[← hfog]; simpa using hxl
   have hxs':∀(i:Nat) cs,xs'[i]? = some cs→∃cs0,xs[i]? = some cs0∧cs=cs0.map fog1:=fun i cs h=>by
    rw[← hfog,List.getElem?_map,Option.map_eq_some_iff] at h;obtain⟨c,hc,rfl⟩:=h;exact⟨c,hc,rfl⟩
   refine rd_sl_mk' hl' (w.heap.size,0) out.toList (Nat.le_refl _) (by unfold maxLen; have:len*1≤len*sz:=Nat.mul_le_mul_left _ hsz; omega) (fun i cs h=>?_) (fun _=>rfl) (fun q y hq=>?_) (fun i j cs d hi hj=>?_) rfl
   ·obtain⟨c,hc,rfl⟩:=hxs' i cs h
    simpa using hxs c (List.mem_of_getElem? hc)
   ·rw[Nat.zero_add];exact⟨cell_new (by simpa using hq),fun h=>by have:=hr.rel.mlt _ _ h; omega⟩
   ·obtain⟨c,hc,rfl⟩:=hxs' i cs hi;rw[List.getElem?_map,Option.map_eq_some_iff] at hj;obtain⟨d0,hd0,rfl⟩:=hj;have h2:=hflat xs hxs i j c d0 hc hd0;obtain⟨y,hy⟩:=len_get e2.symm h2;exact⟨y,hy,((e3 _ d0 y h2 hy).mono hext (RelF.ext.all_true _)).fog1⟩⟩
end
end Go.Mx
