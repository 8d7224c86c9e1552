/- New trees of rows: what they hold, how they are read. No condition. -/
import Derived.Test.YtacfeklhbbdghaaGreatRawA
namespace Go.Raw
open Go.Mx Go.RowKit
set_option linter.unusedVariables false
def Ge (base:Nat):Nat→Prop:=fun b=>base≤b
def ints (l:List Int):List Value:=l.map (Value.int .i64)
theorem Jp {w w':World} {d:D} {x:Value} (h:Rd zH w d x) (hb:Below w.heap.size w w'):Rd zH w' d x:=
 h.Ie (S:=fun _=>true) (bG:=zH) ⟨fun b h _=>hb.block b h,fun b o h _=>hb.cell (p:=⟨b,o,none⟩) h,fun _ _ _ h=>h,fun _ _ _ h=>(by cases h),fun _ _ _ _ h=>(by cases h)⟩ (eG.ext.all_true _)
def fB (w:World) (g:Nat) (cells:List Value):Prop:=∀(j:Nat) x,cells[j]? = some x→w.cell? ⟨g,j,none⟩=some x∧w.frozen? ⟨g,j,none⟩=false
theorem fB.below {w w':World} {g:Nat} {cells:List Value} (h:fB w g cells) (k:Below w.heap.size w w'):fB w' g cells:=fun j x hx=>by
 obtain⟨c,f⟩:=h j x hx;have hlt:=cell_lt c;exact⟨(k.cell (p:=⟨g,j,none⟩) hlt).trans c,(k.frozen (p:=⟨g,j,none⟩) hlt).trans f⟩
theorem fB.set {w:World} {g:Nat} {cells:List Value} (h:fB w g cells) {o:Nat} (ho:o<cells.length) (x:Value):fB (w.setCell ⟨g,o,none⟩ x) g (cells.set o x):=fun j y hy=>by
 obtain⟨c,f⟩:=h o _ (List.getElem?_eq_getElem ho);by_cases hj:o=j
 ·subst hj;rw[List.getElem?_set_self ho] at hy; cases hy;exact⟨World.cell?_setCell_same _ _ _ c,by rw[World.frozen?_setCell]; exact f⟩
 ·rw[List.getElem?_set_ne hj] at hy;obtain⟨c',f'⟩:=h j y hy;exact⟨by rw[World.cell?_setCell_other _ _ _ _ (fun e=>by cases e; exact hj rfl)]; exact c',by rw[World.frozen?_setCell]; exact f'⟩
theorem fB.other {w:World} {g g' o:Nat} {cells:List Value} (h:fB w g cells) (hg:g'≠g) (x:Value):fB (w.setCell ⟨g',o,none⟩ x) g cells:=fun j y hy=>by
 obtain⟨c',f'⟩:=h j y hy;exact⟨by rw[World.cell?_setCell_other _ _ _ _ (fun e=>by cases e; exact hg rfl)]; exact c',by rw[World.frozen?_setCell]; exact f'⟩
theorem fB.new (w:World) (cells:List Value) (t:TypeId):fB (w.alloc (.cells cells.toArray t (0,0))) w.heap.size cells:=fun j x hx=>
 ⟨DY (by simpa using hx),Ih⟩
theorem fB.alloc {w:World} {g:Nat} {cells:List Value} (h:fB w g cells) (o:Go.Obj):fB (w.alloc o) g cells:=h.below ((Below.refl _ _).alloc (Nat.le_refl _) _)
theorem MF:∀(fs:List Mx.Form),3*fs.length≤Gi fs
 | []=>by simp
 | f::r=>by have:=MF r; rw[Gi,List.length_cons]; omega
theorem MG:∀(fs:List Mx.Core),7*fs.length≤xq fs
 | []=>by simp
 | f::r=>by have:=MG r; rw[xq,List.length_cons]; omega
end Go.Raw
