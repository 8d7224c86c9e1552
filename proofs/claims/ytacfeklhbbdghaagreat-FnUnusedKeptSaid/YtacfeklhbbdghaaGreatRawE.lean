/- Contracts of the evaluator told of memory itself. No condition. -/
import Derived.Test.YtacfeklhbbdghaaGreatRawC
import Derived.Test.YtacfeklhbbdghaaGreatEvTri
namespace Go.Raw
open Go.Mx Go.RowKit
set_option linter.unusedVariables false
def glob (E:Setting) (w:World):Prop:=∀g,Rd mJ w (E.G g) (.pointer (some ⟨g,0,none⟩))
theorem glob.below {E:Setting} {w w':World} (h:glob E w) (hb:Below w.heap.size w w'):glob E w':=fun g=>Pn (h g) hb
theorem MO {cx:Cx} {w:World} {d:D} {x:Value} (h:Rd cx w d x) (hd:d.all (fun _=>false)=true):Rd mJ w d x:=
 h.WO (S:=fun _=>false) (bf:=mJ) ⟨fun _ _ _=>rfl,fun _ _ _ _=>rfl,fun _ _ _ _ h=>h,fun _ _ h=>(by cases h),fun _ _ _ h=>(by cases h)⟩ hd
theorem af8:Low [] (fun _=>[]):=⟨fun os _ i k h=>by simp at h,fun os _ i k o h=>by simp at h,fun os i k h=>by simp at h,fun _ _=>rfl⟩
def Out (dd:D) (w:World) (e:Ending) (w':World):Prop:=∃v,e=.returned v∧Below w.heap.size w w'∧Rd mJ w' dd v
theorem af9 {E:Setting} {g:Nat} {args:List ED} {d:KD} {ds:List D} {dd:D} (h:Mx.aF E g args [] (.d d) []) (he:ED.DL (aT 0 []) args=ds) (hd':d.D=dd) {w:World} {vs:List Value} (hg:glob E w) (hd:qy mJ w ds vs) :
  Calls E.P g vs.toArray w (Out dd w):=by
 have:=h.2 [] (fun _=>[]) (fun x _=>x=dd) af8 rfl (by show d.D=dd; exact hd');rw[he] at this;refine(this mJ w vs (aeg hg) hd).mono fun e w' ⟨d0,st',bf,v,he,hK,_,_,hr,hx⟩=>?_;subst hK;refine⟨v,he,hx.below,MO hr ?_⟩;rw[← hd']; exact KD.jL _ _
mutual
theorem Yp:∀f:Mx.Form,cntF f≤4*Ev.wF (Ev.Si f)
 | ⟨_,_,_,sc,kids⟩=>by
  have:=UF kids;have e:(Ev.IQ kids).length=kids.length:=Po kids;simp only[cntF,Ev.Si,Ev.wF]; omega
theorem UF:∀l:List Mx.Form,Pm l≤3*l.length+4*Ev.qg (Ev.IQ l)
 | []=>by simp[Pm]
 | f::r=>by
  have:=Yp f;have:=UF r;simp only[Pm,Ev.IQ,Ev.qg,List.length_cons]; omega
theorem Po:∀l:List Mx.Form,(Ev.IQ l).length=l.length
 | []=>rfl
 | f::r=>by rw[Ev.IQ,List.length_cons,List.length_cons,Po r]
end
mutual
theorem Yq:∀f:Mx.Core,I5 f≤8*Ev.wC (Ev.toC f)
 | ⟨_,_,_,_,ids,d,kids⟩=>by
  have:=UG kids;have:=Yp d;have e:(Ev.IU kids).length=kids.length:=Pq kids;simp only[I5,Ev.toC,Ev.wC]; omega
theorem UG:∀l:List Mx.Core,FM l≤7*l.length+8*Ev.vJ (Ev.IU l)
 | []=>by simp[FM]
 | f::r=>by
  have:=Yq f;have:=UG r;simp only[FM,Ev.IU,Ev.vJ,List.length_cons]; omega
theorem Pq:∀l:List Mx.Core,(Ev.IU l).length=l.length
 | []=>rfl
 | f::r=>by rw[Ev.IU,List.length_cons,List.length_cons,Pq r]
end
def MQ (x:Value) (w:World) (e:Ending) (w':World):Prop:=e=.returned x∧Below w.heap.size w w'
theorem Yr {E:Setting} {g:Nat} {args:List ED} {d:KD} {ds:List D} {x:Value} (h:Mx.aF E g args [] (.d d) []) (he:ED.DL (aT 0 []) args=ds) (hd':d.D=.v x) {w:World} {vs:List Value} (hg:glob E w) (hd:qy mJ w ds vs) :
  Calls E.P g vs.toArray w (MQ x w):=(af9 h he hd' hg hd).mono fun e w' ⟨v,he,hb,hr⟩=>by rw[he,hr.pW]; exact⟨rfl,hb⟩
theorem aaC {w:World} {ds:List D} {vs:List Value} (h:qy mJ w ds vs):Rd mJ w (.agg ds) (.agg vs.toArray):=.agg h.1 h.2
theorem Gl {w w':World} {ds:List D} {vs:List Value} (h:qy mJ w ds vs) (hb:Below w.heap.size w w'):qy mJ w' ds vs:=⟨h.1,fun j d x hd hx=>Pn (h.2 j d x hd hx) hb⟩
end Go.Raw
