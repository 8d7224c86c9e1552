/- Memory that is written cell by cell without a change of kind: rows, trees of rows, what stays. No condition. -/
import Derived.Test.YtacfeklhbbdghaaGreatEvTri
import Derived.WalkKit
import Derived.Below
import Derived.KernelRfl
namespace Go.Raw
open Go.Mx Go.RowKit
set_option linter.unusedVariables false
def Zi (w:World) (R:Nat→Prop) (v:Value) (n:Nat) (cells:List Value):Prop:=
 ∃a cap,v=.slice a n cap∧n≤cap∧cap≤maxLen∧(cells≠[]→∃g o,a=some ⟨g,o,none⟩∧R g∧∀(j:Nat) x,cells[j]? = some x→w.cell? ⟨g,o+j,none⟩=some x∧w.frozen? ⟨g,o+j,none⟩=false)
mutual
def cntF:Mx.Form→Nat
 | ⟨_,_,_,sc,kids⟩=>sc.length+Gi kids
def Gi:List Mx.Form→Nat
 | []=>0
 | f::r=>3+cntF f+Gi r
end
mutual
def Fz:Mx.Core→Nat
 | ⟨_,_,_,_,ids,d,kids⟩=>ids.length+cntF d+xq kids
def xq:List Mx.Core→Nat
 | []=>0
 | f::r=>7+Fz f+xq r
end
theorem abU (f:Mx.Form):cntF f=f.scopes.length+Gi f.kids:=by cases f; rfl
theorem Vs (f:Mx.Core):Fz f=f.ids.length+cntF f.data+xq f.kids:=by cases f; rfl
end Go.Raw
