/- A row of the call's own as it is read. No condition. -/
import Derived.Test.YtacfeklhbbdghaaGreatRenA
namespace Go.Raw
open Go.Mx Go.RowKit Go.Maps
set_option linter.unusedVariables false
theorem abW (env:Int→Int) (k:Nat) (c:Mx.Core):aT env k c=⟨c.kind,if c.kind=1 then env c.id else c.id,c.name,c.n,pU k c.ids.length,c.data,uM (dh c.ids k env) (k+c.ids.length) c.kids⟩:=by cases c; rw[aT]
theorem abX (c:Mx.Core):zI c=c.ids.length+dB c.kids:=by cases c; rw[zI]
theorem Vw {cx:Cx} {w:World} {f:Mx.Core} {x5 y4 y5 x7:Value} (r5:Rd cx w (.sl 1 .ro (cO f.ids)) x5) (rd:pJ cx w (jV f.data) [.int .i64 f.data.kind,.string f.data.name,.int .i64 f.data.n,y4,y5]) (r7:Rd cx w (.sl 11 .ro (dP f.kids)) x7) :
  pJ cx w (jc f) [.int .i64 f.kind,.int .i64 f.id,.string f.name,.int .i64 f.n,x5,.int .i64 f.data.kind,.string f.data.name,.int .i64 f.data.n,y4,y5,x7]:=by
 refine⟨rfl,fun j d x hd hx=>?_⟩
 match j,hd,hx with
 | 0,hd,hx=>cases hd; cases hx; exact .v _
 | 1,hd,hx=>cases hd; cases hx; exact .v _
 | 2,hd,hx=>cases hd; cases hx; exact .v _
 | 3,hd,hx=>cases hd; cases hx; exact .v _
 | 4,hd,hx=>cases hd; cases hx; exact r5
 | 5,hd,hx=>exact rd.2 0 _ _ hd hx
 | 6,hd,hx=>exact rd.2 1 _ _ hd hx
 | 7,hd,hx=>exact rd.2 2 _ _ hd hx
 | 8,hd,hx=>exact rd.2 3 _ _ hd hx
 | 9,hd,hx=>exact rd.2 4 _ _ hd hx
 | 10,hd,hx=>cases hd; cases hx; exact r7
 | j+11,hd,hx=>simp at hx
theorem TQ {cx:Cx} {w:World} {base e sz n:Nat} {v:Value} {cells:List Value} {xs:List (List D)} (hz:0<sz) (h:w.ownsRow base e sz v n cells) (hn:xs.length=n) (hs:∀(i:Nat) cs,xs[i]? = some cs→cs.length=sz)
  (hc:∀(i j:Nat) cs d,xs[i]? = some cs→cs[j]? = some d→∃y,cells[i*sz+j]? = some y∧Rd cx w d y) (hM:∀g,v.ownBlock=some g→∀o,¬cx.M g o):Rd cx w (.sl sz .ro xs) v:=by
 have h0:=h;obtain⟨h1,h2⟩:=h;rcases h2 with ⟨rfl,rfl⟩ | ⟨g,cap,cur,rfl,q1,q2,q3,q4,q5⟩
 ·have:xs=[]:=List.eq_nil_of_length_eq_zero hn;subst this;exact D5 (0,0) [] (Nat.le_refl _) (Nat.zero_le _) hs (fun h=>absurd rfl h) (by simp) (fun i j cs d hi=>by simp at hi) trivial
 ·refine wM hn (g,0) cells q3 q4 hs (fun _=>rfl) (fun q y hq=>⟨?_,hM g rfl _⟩) hc trivial;have:=h0.cells (g:=g) rfl q y hq;by_cases hq0:q=0
  ·subst hq0; simpa [Addr.add] using this
  ·simpa [Addr.add,hq0] using this
theorem Zl {cx:Cx} {w:World} {base n:Nat} {v:Value} {l:List Int} (h:w.ownsRow base 3 1 v n (ints l)) (hn:l.length=n) (hM:∀g,v.ownBlock=some g→∀o,¬cx.M g o):Rd cx w (.sl 1 .ro (cO l)) v:=by
 refine TQ (by decide) h (by rw[lK]; exact hn) (fun i cs hi=>?_) (fun i j cs d hi hj=>?_) hM
 ·rw[wQ,Option.map_eq_some_iff] at hi; obtain⟨x,_,rfl⟩:=hi; rfl
 ·rw[wQ,Option.map_eq_some_iff] at hi; obtain⟨x,hx,rfl⟩:=hi;cases j with
  | zero=>simp at hj; subst hj; exact⟨_,by simp[ints,hx],.v _⟩
  | succ j=>simp at hj
def CX (M0:Nat→Nat→Prop) (S:Nat→Prop) (w:World) (cs:List Mx.Core) (xs:List Value):Prop:=
 ∀q,(hq:q<cs.length)→∃vs,pJ (Jq M0 S) w (jc cs[q]) vs∧∀(j:Nat) x,vs[j]? = some x→xs[q*11+j]? = some x
theorem Zm {M0:Nat→Nat→Prop} {S:Nat→Prop} {w:World} {base n:Nat} {v:Value} {cs:List Mx.Core} {xs:List Value} (h:w.ownsRow base 29 11 v n xs) (hk:CX M0 S w cs xs) (hn:cs.length=n) (hM:∀g,v.ownBlock=some g→∀o,¬(Jq M0 S).M g o) :
  Rd (Jq M0 S) w (.sl 11 .ro (dP cs)) v:=by
 refine TQ (by decide) h (by rw[CP]; exact hn) (fun i c' hi=>?_) (fun i j c' d hi hj=>?_) hM
 ·rw[Dk,Option.map_eq_some_iff] at hi; obtain⟨x,_,rfl⟩:=hi; rfl
 ·rw[Dk,Option.map_eq_some_iff] at hi; obtain⟨x,hx,rfl⟩:=hi;obtain⟨hlt,rfl⟩:=List.getElem?_eq_some_iff.1 hx;obtain⟨vs,hr,hv⟩:=hk i hlt;obtain⟨y,hy⟩:∃y,vs[j]? = some y:=by
   have h1:=(List.getElem?_eq_some_iff.1 hj).1;rw[hr.1] at h1;exact⟨_,List.getElem?_eq_getElem h1⟩
  exact⟨y,hv j y hy,hr.2 j d y hj hy⟩
theorem CX.keep {M0:Nat→Nat→Prop} {S S' T:Nat→Prop} {w w':World} {cs:List Mx.Core} {xs:List Value} (h:CX M0 S w cs xs) (g:Gr T w w') (h1:∀b,b<w.heap.size→T b→S b) (h2:∀b,b<w.heap.size→S' b→S b):CX M0 S' w' cs xs:=fun q hq=>by
 obtain⟨vs,hr,hv⟩:=h q hq;exact⟨vs,FB hr (qx _ _) g h1 h2,hv⟩
end Go.Raw
