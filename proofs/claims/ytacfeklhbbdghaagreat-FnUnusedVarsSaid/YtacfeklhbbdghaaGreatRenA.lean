/- What is read stays while some blocks change; a map that may be nil; a program with its variables numbered anew. No condition. -/
import Derived.Test.YtacfeklhbbdghaaGreatRawC
import Derived.Test.YtacfeklhbbdghaaGreatRawE
import Derived.Test.YtacfeklhbbdghaaGreatEvTri
import Derived.OwnWalk
import Derived.Lib.Hide
import Derived.Maps.Ext
import Derived.Maps.RangeWalk
import Derived.Maps.OwnOps
import Derived.Maps.AppendAt
import Derived.Deep.RegionHeld3
import Derived.Laws.IdiomRangeMap
import Derived.Test.YtacfeklhbbdghaaGreatProg
namespace Go.Raw
open Go.Mx Go.RowKit Go.Maps
set_option linter.unusedVariables false
theorem law3:Keyed Go.Proofs.Tryz.prog 3:=int_keyed Go.Proofs.Tryz.underlying3
theorem zero3 (w:World):(zeroValue 3).run Go.Proofs.Tryz.prog w=.ok (.int .i64 0) w:=by kernel_rfl
abbrev MP (w:World) (b n:Nat) (D:DataW Unit):Prop:=w.ownsMap Go.Proofs.Tryz.prog 3 (plainElem Go.Proofs.Tryz.prog 3) b n D
def Jq (M0:Nat→Nat→Prop) (S:Nat→Prop):Cx:={ zH with M:=fun b o=>M0 b o∨S b }
structure Gr (S:Nat→Prop) (w w':World):Prop where
 os:w'.os=w.os
 tape:w'.tape=w.tape
 output:w'.output=w.output
 size:w.heap.size≤w'.heap.size
 block:∀b,b<w.heap.size→¬S b→w'.heap[b]? = w.heap[b]?
theorem Gr.refl (S:Nat→Prop) (w:World):Gr S w w:=⟨rfl,rfl,rfl,Nat.le_refl _,fun _ _ _=>rfl⟩
theorem Gr.trans {S:Nat→Prop} {a b c:World} (h:Gr S a b) (k:Gr S b c):Gr S a c:=
 ⟨k.os.trans h.os,k.tape.trans h.tape,k.output.trans h.output,Nat.le_trans h.size k.size,fun i hi hn=>(k.block i (Nat.lt_of_lt_of_le hi h.size) hn).trans (h.block i hi hn)⟩
theorem Gr.mono {S T:Nat→Prop} {a b:World} (h:Gr S a b) (ht:∀i,i<a.heap.size→S i→T i):Gr T a b:=⟨h.os,h.tape,h.output,h.size,fun i hi hn=>h.block i hi fun h'=>hn (ht i hi h')⟩
theorem Gr.trans' {S T:Nat→Prop} {a b c:World} (h:Gr S a b) (k:Gr T b c) (ht:∀i,i<a.heap.size→T i→S i):Gr S a c:=
 ⟨k.os.trans h.os,k.tape.trans h.tape,k.output.trans h.output,Nat.le_trans h.size k.size,fun i hi hn=>(k.block i (Nat.lt_of_lt_of_le hi h.size) (fun h'=>hn (ht i hi h'))).trans (h.block i hi hn)⟩
theorem Gr.of_below {S:Nat→Prop} {a b:World} (h:Below a.heap.size a b):Gr S a b:=⟨h.os,h.tape,h.output,h.size,fun i hi _=>h.block i hi⟩
theorem Gr.pR {a b:World} {r:Option Nat} (h:a.grownBy b r):Gr (fun i=>some i=r) a b:=⟨h.os,h.tape,h.output,h.size,fun i hi hn=>h.block i hi hn⟩
theorem Gr.setCell (w:World) (p:Addr) (x:Value):Gr (fun i=>i=p.block) w (w.setCell p x):=⟨rfl,rfl,rfl,by simp,fun i hi hn=>Below.heap_setCell w p x i hn⟩
theorem Gr.alloc {S:Nat→Prop} (w:World) (o:Go.Obj):Gr S w (w.alloc o):=.of_below ((Below.refl _ _).alloc (Nat.le_refl _) o)
theorem Gr.drew {S:Nat→Prop} {a b:World} (h:Gr S a b):Gr S a b.drew:=⟨h.os,h.tape,h.output,h.size,h.block⟩
theorem Gr.cell {S:Nat→Prop} {a b:World} (h:Gr S a b) {g o:Nat} {x:Value} (hn:¬S g) (hx:a.cell? ⟨g,o,none⟩=some x):b.cell? ⟨g,o,none⟩=some x:=by
 have hl:=cell_lt hx;rw[World.cell?_of_block (a:=⟨g,o,none⟩) (h.block g hl hn)]; exact hx
theorem Gr.row {S:Nat→Prop} {a b:World} (h:Gr S a b) {g:Nat} {cells:List Value} (hn:¬S g) (hx:fB a g cells):fB b g cells:=fun j x hj=>by
 obtain⟨h1,h2⟩:=hx j x hj;have hl:=cell_lt h1;have hb:=h.block g hl hn;exact⟨by rw[World.cell?_of_block (a:=⟨g,j,none⟩) hb]; exact h1,by rw[World.frozen?_of_block (a:=⟨g,j,none⟩) hb]; exact h2⟩
theorem Gr.mp {S:Nat→Prop} {a b:World} (h:Gr S a b) {g n:Nat} {D:DataW Unit} (hn:¬S g) (hx:MP a g n D):MP b g n D:=by
 obtain⟨es,clock,h1,h2⟩:=hx;exact⟨es,clock,(h.block g (Array.getElem?_eq_some_iff.1 h1).1 hn).trans h1,h2⟩
theorem Gr.own {S:Nat→Prop} {a b:World} (h:Gr S a b) {base e size n:Nat} {v:Value} {xs:List Value} (hx:a.ownsRow base e size v n xs) (hn:∀g,v.ownBlock=some g→¬S g):b.ownsRow base e size v n xs:=by
 obtain⟨h1,h2⟩:=hx;refine⟨h1,?_⟩;rcases h2 with h2 | ⟨g,cap,cur,rfl,q1,q2,q3⟩
 ·exact .inl h2
 ·exact .inr ⟨g,cap,cur,rfl,q1,(h.block g (Array.getElem?_eq_some_iff.1 q2).1 (hn g rfl)).trans q2,q3⟩
theorem rdk {M0:Nat→Nat→Prop} {S S' T:Nat→Prop} {w w':World} {d:D} {x:Value} (h:Rd (Jq M0 S) w d x) (hd:d.all (fun _=>false)=true) (g:Gr T w w') (h1:∀b,b<w.heap.size→T b→S b) (h2:∀b,b<w.heap.size→S' b→S b):Rd (Jq M0 S') w' d x:=
 h.Ie (S:=fun _=>false) (bG:=Jq M0 S') ⟨fun b hb hm=>g.block b hb fun ht=>hm 0 (Or.inr (h1 b hb ht)),fun b o hb hm=>World.cell?_of_block (a:=⟨b,o,none⟩) (g.block b hb fun ht=>hm (Or.inr (h1 b hb ht))),
  fun b o hb hm hm'=>hm (Or.imp id (h2 b hb) hm'),fun _ _ _ h=>(by cases h),fun _ _ _ _ h=>(by cases h)⟩ hd
theorem FB {M0:Nat→Nat→Prop} {S S' T:Nat→Prop} {w w':World} {ds:List D} {vs:List Value} (h:pJ (Jq M0 S) w ds vs) (hd:allL (fun _=>false) ds=true) (g:Gr T w w') (h1:∀b,b<w.heap.size→T b→S b) (h2:∀b,b<w.heap.size→S' b→S b):pJ (Jq M0 S') w' ds vs:=
 ⟨h.1,fun j d x hj hx=>rdk (h.2 j d x hj hx) (dF hd hj) g h1 h2⟩
theorem agi {M0:Nat→Nat→Prop} {S:Nat→Prop} {w:World} {ds:List D} {vs:List Value} (h:pJ (Jq M0 S) w ds vs) (hd:allL (fun _=>false) ds=true):pJ zH w ds vs:=⟨h.1,fun j d x hj hx=>TN (h.2 j d x hj hx) (dF hd hj)⟩
theorem Eu {cx:Cx} {w:World} {f:Mx.Core} {vs:List Value} (h:pJ cx w (jc f) vs):∃x5 y4 y5 x7,vs=[.int .i64 f.kind,.int .i64 f.id,.string f.name,.int .i64 f.n,x5,.int .i64 f.data.kind,.string f.data.name,.int .i64 f.data.n,y4,y5,x7] ∧
  Rd cx w (.sl 1 .ro (cO f.ids)) x5∧pJ cx w (jV f.data) [.int .i64 f.data.kind,.string f.data.name,.int .i64 f.data.n,y4,y5]∧Rd cx w (.sl 11 .ro (dP f.kids)) x7:=by
 obtain⟨hl,h⟩:=h
 match vs,hl with
 | [x1,x2,x3,x4,x5,z1,z2,z3,z4,z5,x7],_=>
  have h1:=(h 0 _ _ rfl rfl).lY;have h2:=(h 1 _ _ rfl rfl).lY;have h3:=(h 2 _ _ rfl rfl).lY;have h4:=(h 3 _ _ rfl rfl).lY;have h5:=(h 5 _ _ rfl rfl).lY;have h6:=(h 6 _ _ rfl rfl).lY;have h7:=(h 7 _ _ rfl rfl).lY;subst h1 h2 h3 h4 h5 h6 h7;refine⟨x5,z4,z5,x7,rfl,h 4 _ _ rfl rfl,⟨rfl,fun j d x hd hx=>?_⟩,h 10 _ _ rfl rfl⟩;have hj:j<5:=by have:=(List.getElem?_eq_some_iff.1 hd).1; simpa [jV] using this
  rcases(by omega:j=0∨j=1∨j=2∨j=3∨j=4) with rfl | rfl | rfl | rfl | rfl
  ·exact h 5 _ _ hd hx
  ·exact h 6 _ _ hd hx
  ·exact h 7 _ _ hd hx
  ·exact h 8 _ _ hd hx
  ·exact h 9 _ _ hd hx
theorem agj {cx:Cx} {w:World} {fs:List Mx.Core} {v:Value} (h:Rd cx w (.sl 11 .ro (dP fs)) v):∃a cap,v=.slice a fs.length cap∧fs.length≤maxLen∧∃A1 A2,(0<fs.length→a=some ⟨A1,A2,none⟩) ∧
  ∀i,(hi:i<fs.length)→∃vs,pJ cx w (jc fs[i]) vs∧∀(j:Nat) x,vs[j]? = some x→w.cell? ⟨A1,A2+i*11+j,none⟩=some x:=by
 obtain⟨a,cap,rfl,h1,h2,h3,_,A,hA,hc⟩:=oL h;have hl:(dP fs).length=fs.length:=CP fs;rw[hl] at h1;refine⟨a,cap,by rw[hl],Nat.le_trans h1 h2,A.1,A.2,fun h=>hA (by intro h'; rw[h'] at hl; simp at hl; omega),fun i hi=>?_⟩;have hg:(dP fs)[i]? = some (jc fs[i]):=by rw[Dk,List.getElem?_eq_getElem hi]; rfl
 have hn:(jc fs[i]).length=11:=rfl;have hf:∀j d,(jc fs[i])[j]? = some d→w.cell? ⟨A.1,A.2+i*11+j,none⟩=some ((w.cell? ⟨A.1,A.2+i*11+j,none⟩).getD (.bool false))∧Rd cx w d ((w.cell? ⟨A.1,A.2+i*11+j,none⟩).getD (.bool false)):=fun j d hd=>by
  obtain⟨y,q,_,r⟩:=hc i j _ _ hg hd;rw[q]; exact⟨rfl,r⟩
 refine⟨(List.range 11).map fun j=>(w.cell? ⟨A.1,A.2+i*11+j,none⟩).getD (.bool false),⟨by simp[hn],fun j d x hd hx=>?_⟩,fun j x hx=>?_⟩
 ·have hj:j<11:=by rw[← hn]; exact(List.getElem?_eq_some_iff.1 hd).1
  simp[hj] at hx;rw[← hx]; exact(hf j d hd).2
 ·have hj:j<11:=by
   have:=(List.getElem?_eq_some_iff.1 hx).1
   simpa using this
  have hd:(jc fs[i])[j]? = some ((jc fs[i])[j]'(by rw[hn]; exact hj)):=List.getElem?_eq_getElem _;simp[hj] at hx;rw[← hx]; exact(hf j _ hd).1
theorem aic {cx:Cx} {w:World} {fs:List Int} {v:Value} (h:Rd cx w (.sl 1 .ro (cO fs)) v):∃a cap,v=.slice a fs.length cap∧fs.length≤maxLen∧∃A1 A2,(0<fs.length→a=some ⟨A1,A2,none⟩) ∧
  ∀i,(hi:i<fs.length)→w.cell? ⟨A1,A2+i,none⟩=some (.int .i64 fs[i]):=by
 obtain⟨a,cap,rfl,h1,h2,h3,_,A,hA,hc⟩:=oL h;have hl:(cO fs).length=fs.length:=lK fs;rw[hl] at h1;refine⟨a,cap,by rw[hl],Nat.le_trans h1 h2,A.1,A.2,fun h=>hA (by intro h'; rw[h'] at hl; simp at hl; omega),fun i hi=>?_⟩;obtain⟨y,q1,_,q2⟩:=hc i 0 [.v (.int .i64 fs[i])] (.v (.int .i64 fs[i])) (by rw[wQ,List.getElem?_eq_getElem hi]; rfl) rfl;rw[q2.lY] at q1
 simpa using q1
def MPo (w:World) (mv:Option Nat) (n:Nat) (D:DataW Unit):Prop:=(mv=none∧D=.map [])∨∃b,mv=some b∧MP w b n D
def RgO (w:World) (mv:Option Nat) (r n:Nat) (D:DataW Unit) (left:Lit→Bool) (cnt:Nat):Prop:=
 (mv=none∧D=.map []∧(∀kl,left kl=false)∧cnt=0∧w.heap[r]? = some (.mapIter none 0 #[] 0))∨∃b,mv=some b∧w.ranges Go.Proofs.Tryz.prog 3 (plainElem Go.Proofs.Tryz.prog 3) b r n D left cnt
def aif (w:World) (mv:Option Nat) (r:Nat):Nat:=match mv with
 | none=>0
 | some b=>w.rangeLeft b r
theorem Gr.mpo {S:Nat→Prop} {a b:World} (h:Gr S a b) {mv:Option Nat} {n:Nat} {D:DataW Unit} (hn:∀g,mv=some g→¬S g) (hx:MPo a mv n D):MPo b mv n D:=by
 rcases hx with hx | ⟨g,h1,h2⟩
 ·exact .inl hx
 ·exact .inr ⟨g,h1,h.mp (hn g h1) h2⟩
section
variable {w : World} {ops : Array Oper} {rest : List Oper} {o : Oper} {a : Act} {Q : Exit → Act → World → Prop}
theorem Xr (hg:o.guard=none) (m:Operand) (t:TypeId) (hop:o.op=Op.range t m) (ht:Go.Proofs.Tryz.prog.underlying t=some (.map 3 3)) (mv:Option Nat) (n:Nat) (D:DataW Unit)
  (hm:a.eval m=.map mv) (hown:MPo w mv n D)
  (hK:∀w' left cnt,RgO w' mv w.heap.size n D left cnt→cnt=Maps.size D→(left=Maps.has D)→w.grownBy w' none→w'.heap.size=w.heap.size+1→wpList Go.Proofs.Tryz.prog ops Q rest (a.put o.dst (.pointer (some ⟨w.heap.size,0,none⟩))) w') :
  wpList Go.Proofs.Tryz.prog ops Q (o::rest) a w:=by
 rcases hown with ⟨rfl,rfl⟩ | ⟨b,rfl,hown⟩
 ·refine wpList_plain hg fun K' hK'=>?_;have hrun:=run_range_nilMap (P:=Go.Proofs.Tryz.prog) w t 3 3 ht;unfold Oper.wp;simp[execOp,hop,hm,hrun,Result.andThen];exact hK' _ _ (hK _ (Maps.has (.map [])) (Maps.size (.map []:DataW Unit)) (.inl ⟨rfl,rfl,fun kl=>rfl,rfl,heap_alloc_new w _⟩) rfl rfl ⟨rfl,rfl,rfl,by simp,fun k hk _=>Below.heap_alloc w _ k hk⟩ (by simp))
 ·exact wpList_range_own w hg m t hop 3 3 law3 ht _ b n D hm hown fun w' h1 h2 h3=>hK w' _ _ (.inr ⟨b,rfl,h1⟩) rfl rfl h2 h3
theorem Zk (hg:o.guard=none) (it:Operand) (hop:o.op=Op.next it false) (mv:Option Nat) (r n:Nat) (D:DataW Unit) (left:Lit→Bool) (cnt:Nat) (hit:a.eval it=.pointer (some ⟨r,0,none⟩)) (h:RgO w mv r n D left cnt)
  (hDone:cnt=0→(∀kl,left kl=false)→wpList Go.Proofs.Tryz.prog ops Q rest (a.put o.dst (.tuple #[.bool false])) w)
  (hMore:∀(b:Nat) (x c:Int) (w':World) (cnt':Nat),mv=some b→(Lit.int .i64 x).wf=true→(Lit.int .i64 c).wf=true→left (.int .i64 x)=true→(∀zd,D.atKey (.int .i64 x) zd=.lit (.int .i64 c))→w'.ranges Go.Proofs.Tryz.prog 3 (plainElem Go.Proofs.Tryz.prog 3) b r n D (fun z=>left z&&!z.sameKey (.int .i64 x)) cnt'→cnt'<cnt →
   w.grownBy w' (some r)→w'.heap.size=w.heap.size→(Instr.entry (.pointer (some ⟨r,0,none⟩))).run Go.Proofs.Tryz.prog w'=.ok (.tuple #[.int .i64 x,.int .i64 c]) w'→wpList Go.Proofs.Tryz.prog ops Q rest (a.put o.dst (.tuple #[.bool true,.int .i64 x,.int .i64 c])) w') :
  wpList Go.Proofs.Tryz.prog ops Q (o::rest) a w:=by
 rcases h with ⟨rfl,rfl,h1,h2,h3⟩ | ⟨b,rfl,h⟩
 ·refine wpList_plain hg fun K' hK'=>?_;have hrun:∀ty,(Instr.next (.pointer (some ⟨r,0,none⟩)) false ty).run Go.Proofs.Tryz.prog w=.ok (.tuple #[.bool false]) w:=fun ty=>by
   simp only[Instr.next,getObj,Sem.run_bind,Sem.run,h3,Result.andThen];rfl
  unfold Oper.wp;simp[execOp,hop,hit,hrun,Result.andThen];exact hK' _ _ (hDone h2 h1)
 ·exact wpList_next_ranges_ii w hg it hop 3 3 .i64 .i64 law3 Go.Proofs.Tryz.underlying3 Go.Proofs.Tryz.underlying3 b r n D left cnt hit h hDone fun x c w' cnt'=>hMore b x c w' cnt' rfl
end
def dh:List Int→Nat→(Int→Int)→Int→Int
 | [],_,env=>env
 | x::r,n,env=>dh r (n+1) fun j=>if j=x then((n+1:Nat):Int) else env j
def pU (n k:Nat):List Int:=(List.range k).map fun i=>((n+i+1:Nat):Int)
mutual
def zI:Mx.Core→Nat
 | ⟨_,_,_,_,ids,_,kids⟩=>ids.length+dB kids
def dB:List Mx.Core→Nat
 | []=>0
 | x::r=>zI x+dB r
end
mutual
def aT (env:Int→Int) (n:Nat):Mx.Core→Mx.Core
 | ⟨k,id,nm,v,ids,dt,kids⟩=>⟨k,if k=1 then env id else id,nm,v,pU n ids.length,dt,uM (dh ids n env) (n+ids.length) kids⟩
def uM (env:Int→Int) (n:Nat):List Mx.Core→List Mx.Core
 | []=>[]
 | x::r=>aT env n x::uM env (n+zI x) r
end
def Qv (D:DataW Unit) (env:Int→Int) (sc:List Int):Prop:=∀i∈sc,(Lit.int .i64 i).wf=true∧(Lit.int .i64 (env i)).wf=true∧D.atKey (.int .i64 i) (.lit (.int .i64 0))=.lit (.int .i64 (env i))
theorem abV {D:DataW Unit} {env:Int→Int} {sc:List Int} (hD:IsMap D) (h:Qv D env sc) {i:Int} {n:Nat} (hw:(Lit.int .i64 i).wf=true) (hn:(Lit.int .i64 ((n:Nat):Int)).wf=true) :
  Qv (D.put (.int .i64 i) (.lit (.int .i64 n))) (fun j=>if j=i then(n:Int) else env j) (sc++[i]):=by
 intro j hj;by_cases e:j=i
 ·subst e;simp only[if_true];exact⟨hw,hn,atKey_put_same (k:=.int .i64 j) hD trivial _ _⟩
 ·simp only[e,if_false];rcases List.mem_append.1 hj with hj | hj
  ·obtain⟨h1,h2,h3⟩:=h j hj;refine⟨h1,h2,?_⟩;rw[atKey_put_other (fun e'=>e (by cases e'; rfl))];exact h3
  ·exact absurd (List.mem_singleton.1 hj) e
end Go.Raw
