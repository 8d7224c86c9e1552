/- Contracts of the evaluator told of memory itself. No condition. -/
import Derived.Test.YtacfeklhbbdghaaGreatRawC
import Derived.Test.YtacfeklhbbdghaaGreatEvTri
namespace Go.Raw
open Go.Mx Go.RowKit
set_option linter.unusedVariables false
def glob (E:Setting) (w:World):Prop:=∀g,Rd zH w (E.G g) (.pointer (some ⟨g,0,none⟩))
theorem TN {cx:Cx} {w:World} {d:D} {x:Value} (h:Rd cx w d x) (hd:d.all (fun _=>false)=true):Rd zH w d x:=
 h.Ie (S:=fun _=>false) (bG:=zH) ⟨fun _ _ _=>rfl,fun _ _ _ _=>rfl,fun _ _ _ _ h=>h,fun _ _ h=>(by cases h),fun _ _ _ h=>(by cases h)⟩ hd
theorem ah7:Low [] (fun _=>[]):=⟨fun os _ i k h=>by simp at h,fun os _ i k o h=>by simp at h,fun os i k h=>by simp at h,fun _ _=>rfl⟩
def Out (dd:D) (w:World) (e:Ending) (w':World):Prop:=∃v,e=.returned v∧Below w.heap.size w w'∧Rd zH w' dd v
theorem ah8 {E:Setting} {g:Nat} {args:List ED} {d:KD} {ds:List D} {dd:D} (h:Mx.aF E g args [] (.d d) []) (he:ED.DL (aS 0 []) args=ds) (hd':d.D=dd) {w:World} {vs:List Value} (hg:glob E w) (hd:pJ zH w ds vs) :
  Calls E.P g vs.toArray w (Out dd w):=by
 have:=h.2 [] (fun _=>[]) (fun x _=>x=dd) ah7 rfl (by show d.D=dd; exact hd');rw[he] at this;refine(this zH w vs (adX hg) hd).mono fun e w' ⟨d0,st',bG,v,he,hK,_,_,hr,hx⟩=>?_;subst hK;refine⟨v,he,hx.below,TN hr ?_⟩;rw[← hd']; exact KD.jL _ _
theorem Qr {w:World} {g:Nat}:∀(cs:List D) (o:Nat),(∀(j:Nat) d,cs[j]? = some d→∃x,w.cell? ⟨g,o+j,none⟩=some x∧Rd zH w d x) →
  ∃cells:List Value,cells.length=cs.length∧(∀(j:Nat) x,cells[j]? = some x→w.cell? ⟨g,o+j,none⟩=some x)∧∀(j:Nat) d,cs[j]? = some d→∃x,cells[j]? = some x∧Rd zH w d x
 | [],o,h=>⟨[],rfl,fun j x hx=>by simp at hx,fun j d hd=>by simp at hd⟩
 | d::cs,o,h=>by
  obtain⟨x,hx,hr⟩:=h 0 d rfl;obtain⟨cells,h1,h2,h3⟩:=Qr cs (o+1) (fun j e he=>by
   obtain⟨y,hy,hr⟩:=h (j+1) e (by simpa using he);exact⟨y,by rw[show o+1+j=o+(j+1) by omega]; exact hy,hr⟩)
  refine⟨x::cells,by simp[h1],fun j y hy=>?_,fun j e he=>?_⟩
  ·cases j with
   | zero=>simp at hy; subst hy; exact hx
   | succ j=>have:=h2 j y (by simpa using hy); rwa [show o+1+j=o+(j+1) by omega] at this
  ·cases j with
   | zero=>simp at he; subst he; exact⟨x,rfl,hr⟩
   | succ j=>obtain⟨y,hy,hr⟩:=h3 j e (by simpa using he); exact⟨y,by simpa using hy,hr⟩
def fr1 (os:List (Option dD)):St:=[fun i=>(os[i]?).getD none]
theorem ah9:Low [(0,0)] fr1 where
 get os hl i k hk:=by
  cases i with
  | zero=>simp at hk; subst hk; simp[fr1,St.get]
  | succ i=>simp at hk
 set os hl i k o hk:=by
  cases i with
  | zero=>
   simp at hk; subst hk;simp only[fr1,St.set,List.length_nil,if_true];congr 1
   funext j
   unfold Fr.upd;by_cases hj:j=0
   ·subst hj;rw[if_pos rfl,List.getElem?_set_self (by rw[hl]; decide)]; rfl
   ·rw[if_neg hj,List.getElem?_set_ne (fun e=>hj e.symm)]
  | succ i=>simp at hk
 lt os i k hk:=by
  cases i with
  | zero=>simp at hk; subst hk; simp[fr1]
  | succ i=>simp at hk
 len _ _:=rfl
def ad8 (n:Nat) (ds:List D) (w:World) (e:Ending) (w':World):Prop:=
 ∃v cells,e=.returned v∧Below w.heap.size w w'∧Zi w' (Ge w.heap.size) v n cells∧cells.length=ds.length∧∀(j:Nat) d,ds[j]? = some d→∃x,cells[j]? = some x∧Rd zH w' d x
theorem aia {E:Setting} {g:Nat} {args:List ED} {ds:List D} {e:TypeId} {z n:Nat} {r:List (List KD)} (h:Mx.aF E g args [none] (.vs (.low 0) z n) [.vec e z r]) (hn:r.length=n) (he:ED.DL (aS 0 [(0,0)]) args=ds)
  {w:World} {vs:List Value} (hg:glob E w) (hd:pJ zH w ds vs):Calls E.P g vs.toArray w (ad8 n (KD.DLL r).flatten w):=by
 have:=h.2 [(0,0)] fr1 (fun x st'=>x=.vs (0,0) z n∧st'=fr1 [some (.vec r.length e z (KD.DLL r).flatten)]) ah9 rfl ⟨rfl,rfl⟩;rw[he] at this;have hrel:Rel E zH (fr1 [none]) w:=(adX hg).congr (fun k=>by
  simp only[St.get,fr1];split
  ·rename_i hk;cases hk2:k.2 with
   | zero=>rfl
   | succ i=>rfl
  ·rfl)
 refine(this zH w vs hrel hd).mono fun e' w' ⟨d0,st',bG,v,he',⟨hK,hst⟩,_,hr',hrd,hx⟩=>?_;subst hK; subst hst; subst hn;have hget:(fr1 [some (.vec r.length e z (KD.DLL r).flatten)]).get (0,0)=some (.vec r.length e z (KD.DLL r).flatten):=by simp[fr1,St.get]
 obtain⟨h1,h2,h3,h4⟩:=hr'.vec _ _ _ _ _ hget;obtain⟨tl,t1,t2⟩:=hr'.tok (0,0) _ _ _ ⟨hget,rfl⟩;cases hrd with
 | vs q1 q2 q3=>
  obtain⟨n',e2,tl',q4,q5,q6⟩:=q3;rw[t1] at q4;simp only[Option.some.injEq,Prod.mk.injEq] at q4;obtain⟨rfl,rfl,rfl⟩:=q4;have q6:=q6 rfl
  match tl,t1,t2,q6 with
  | none,t1,t2,q6=>
   have h0:=h3 t1;have hc:(KD.DLL r).flatten=[]:=by apply List.eq_nil_of_length_eq_zero; rw[h2,h0]; simp
   exact⟨_,[],he',hx.below,⟨_,_,rfl,q1,q2,fun hn=>absurd rfl hn⟩,by rw[hc]; rfl,fun j d hd=>by rw[hc] at hd; simp at hd⟩
  | some (b,c,z'),t1,t2,q6=>
   obtain⟨ha,rfl,rfl⟩:=q6;obtain⟨_,h5⟩:=h4 _ _ _ t1;obtain⟨cells,k1,k2,k3⟩:=Qr (w:=w') (g:=b) (KD.DLL r).flatten 0 (fun j d hd=>by
    obtain⟨x,hx,hr⟩:=h5 j d hd;refine⟨x,by rw[Nat.zero_add]; exact hx,TN hr ?_⟩;have hall:∀(l:List (List KD)) (j:Nat) d,(KD.DLL l).flatten[j]? = some d→d.all (fun _=>false)=true:=fun l j d hd=>by
     have hm:=List.mem_of_getElem? hd;rw[List.mem_flatten] at hm;obtain⟨c,hc,hdc⟩:=hm;rw[KD.eH,List.mem_map] at hc;obtain⟨ks,_,rfl⟩:=hc
     first | rw[KD.eX,List.mem_map] at hdc | rw[List.mem_map] at hdc
     obtain⟨k,_,rfl⟩:=hdc;exact KD.jL _ _
    exact hall r j d hd)
   refine⟨_,cells,he',hx.below,⟨_,_,rfl,q1,q2,fun hne=>⟨b,0,ha,?_,fun j x hx=>⟨k2 j x hx,?_⟩⟩⟩,k1,k3⟩
   ·show w.heap.size≤b;rcases Nat.lt_or_ge b w.heap.size with hlt | hge
    ·obtain⟨k0,n0,e0,c0,z0,hk0⟩:=hx.zN _ _ _ _ _ _ t1 hlt;cases hk0
    ·exact hge
   ·have hj:j<r.length*z':=by
     have:=(List.getElem?_eq_some_iff.1 hx).1;rw[k1,h2] at this; exact this
    obtain⟨t3,_⟩:=t2;have hj2:j<c*z':=Nat.lt_of_lt_of_le hj (Nat.mul_le_mul_right _ t3);rw[Nat.zero_add];exact(hr'.foot (0,0) b j (.inr ⟨_,_,_,_,_,⟨hget,rfl⟩,t1,Nat.zero_le _,hj2⟩)).2.1
mutual
theorem TP:∀f:Mx.Form,cntF f≤4*Ev.wF (Ev.toF f)
 | ⟨_,_,_,sc,kids⟩=>by
  have:=Vt kids;have e:(Ev.Ji kids).length=kids.length:=Qs kids;simp only[cntF,Ev.toF,Ev.wF]; omega
theorem Vt:∀l:List Mx.Form,Gi l≤3*l.length+4*Ev.qj (Ev.Ji l)
 | []=>by simp[Gi]
 | f::r=>by
  have:=TP f;have:=Vt r;simp only[Gi,Ev.Ji,Ev.qj,List.length_cons]; omega
theorem Qs:∀l:List Mx.Form,(Ev.Ji l).length=l.length
 | []=>rfl
 | f::r=>by rw[Ev.Ji,List.length_cons,List.length_cons,Qs r]
end
mutual
theorem Zj:∀f:Mx.Core,Fz f≤8*Ev.wC (Ev.toC f)
 | ⟨_,_,_,_,ids,d,kids⟩=>by
  have:=Vu kids;have:=TP d;have e:(Ev.BZ kids).length=kids.length:=Qu kids;simp only[Fz,Ev.toC,Ev.wC]; omega
theorem Vu:∀l:List Mx.Core,xq l≤7*l.length+8*Ev.tK (Ev.BZ l)
 | []=>by simp[xq]
 | f::r=>by
  have:=Zj f;have:=Vu r;simp only[xq,Ev.BZ,Ev.tK,List.length_cons]; omega
theorem Qu:∀l:List Mx.Core,(Ev.BZ l).length=l.length
 | []=>rfl
 | f::r=>by rw[Ev.BZ,List.length_cons,List.length_cons,Qu r]
end
def ad9 (x:Value) (w:World) (e:Ending) (w':World):Prop:=e=.returned x∧Below w.heap.size w w'
theorem agc {E:Setting} {g:Nat} {args:List ED} {d:KD} {ds:List D} {x:Value} (h:Mx.aF E g args [] (.d d) []) (he:ED.DL (aS 0 []) args=ds) (hd':d.D=.v x) {w:World} {vs:List Value} (hg:glob E w) (hd:pJ zH w ds vs) :
  Calls E.P g vs.toArray w (ad9 x w):=(ah8 h he hd' hg hd).mono fun e w' ⟨v,he,hb,hr⟩=>by rw[he,hr.lY]; exact⟨rfl,hb⟩
def aea (l:List Int) (w:World) (e:Ending) (w':World):Prop:=∃v,e=.returned v∧Below w.heap.size w w'∧Zi w' (Ge w.heap.size) v l.length (ints l)
theorem Xq (l:List Int):(KD.DLL (Ev.ah l)).flatten=l.map fun i=>D.v (.int .i64 i):=by
 rw[Ev.Jj]
 induction l with
 | nil=>rfl
 | cons x r ih=>simp only[cO,List.map_cons,List.flatten_cons] at *; rw[ih]; rfl
theorem agd {E:Setting} {g:Nat} {args:List ED} {ds:List D} {e:TypeId} {n:Nat} {l:List Int} (h:Mx.aF E g args [none] (.vs (.low 0) 1 n) [.vec e 1 (Ev.ah l)]) (hn:n=(Ev.ah l).length) (he:ED.DL (aS 0 [(0,0)]) args=ds)
  {w:World} {vs:List Value} (hg:glob E w) (hd:pJ zH w ds vs):Calls E.P g vs.toArray w (aea l w):=by
 have hlen:(Ev.ah l).length=l.length:=by have:=congrArg List.length (Ev.Jj l); rw[KD.eH,List.length_map,lK] at this; exact this
 refine(aia h hn.symm he hg hd).mono fun e w' ⟨v,cells,h1,h2,h3,h4,h5⟩=>⟨v,h1,h2,?_⟩
 have:cells=ints l:=by
  rw[Xq] at h4 h5;apply List.ext_getElem?;intro j;simp only[ints,List.getElem?_map];cases hj:l[j]? with
  | none=>rw[List.getElem?_eq_none_iff] at hj; rw[List.getElem?_eq_none (by rw[h4]; simpa using hj)]; rfl
  | some i=>
   obtain⟨x,hx,hr⟩:=h5 j (.v (.int .i64 i)) (by rw[List.getElem?_map,hj]; rfl);rw[hx,hr.lY]; rfl
 subst this;rw[hn,hlen] at h3;exact h3
theorem aib {w:World} {ds:List D} {vs:List Value} (h:pJ zH w ds vs):Rd zH w (.agg ds) (.agg vs.toArray):=.agg h.1 h.2
theorem agf {w w':World} {ds:List D} {vs:List Value} (h:pJ zH w ds vs) (hb:Below w.heap.size w w'):pJ zH w' ds vs:=⟨h.1,fun j d x hd hx=>Jp (h.2 j d x hd hx) hb⟩
theorem aeb (l:List Int):(KD.sl 1 false (Ev.ah l)).D=.sl 1 .ro (cO l):=by simp only[KD.D,XR,Ev.Jj]
end Go.Raw
