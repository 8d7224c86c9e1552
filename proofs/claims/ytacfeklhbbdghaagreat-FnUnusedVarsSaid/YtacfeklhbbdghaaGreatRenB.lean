/- impl.renumber. No condition. -/
import Derived.Test.YtacfeklhbbdghaaGreatRenL
import Derived.StillTailTactics
import Derived.Deep.AppendLies
import Derived.Deep.CutRange
import Derived.Deep.CutBlock
import Derived.Deep.RegionLaw
import Derived.Deep.RegionHeldLaw
import Derived.Deep.DeepCutAuto
namespace Go.Raw
open Go.Mx Go.RowKit Go.Maps
set_option linter.unusedVariables false
set_option maxHeartbeats 1000000
set_option maxRecDepth 100000
def aij (M0:Nat→Nat→Prop) (S:Nat→Prop) (f:Mx.Form) (w:World) (e:Ending) (w':World):Prop:=
 ∃vs:List Value,e=.returned (.agg vs.toArray)∧pJ (Jq M0 S) w' (jV f) vs∧Below w.heap.size w w'
def ac0 (M0:Nat→Nat→Prop) (G:World→Prop) (f:Mx.Form):Prop:=∀(S:Nat→Prop) (vs:List Value) (w:World),pJ (Jq M0 S) w (jV f) vs→(∀b,S b→b<w.heap.size)→G w →
 Calls Go.Proofs.Tryz.prog 43 #[.agg vs.toArray] w (aij M0 S f w)
def aik (M0:Nat→Nat→Prop) (S:Nat→Prop) (c:Mx.Core) (p k:Nat) (w:World) (e:Ending) (w':World):Prop:=
 ∃vs:List Value,e=.returned (.agg vs.toArray)∧pJ (Jq M0 S) w' (jc c) vs∧Gr (fun b=>b=p) w w'∧fB w' p [.int .i64 k]
def aec (M0:Nat→Nat→Prop) (G:World→Prop) (c:Mx.Core) (sc:List Int):Prop:=
 ∀(w0:World) (hM0:∀b o,M0 b o→b<w0.heap.size) (vs:List Value) (mv:Option Nat) (n:Nat) (D:DataW Unit) (env:Int→Int) (k p:Nat) (w:World),pJ (Jq M0 fun _=>False) w0 (jc c) vs→Below w0.heap.size w0 w→w0.heap.size≤p→fB w p [.int .i64 k]→MPo w mv n D→(∀b,mv=some b→b≠p) →
  (mv=none→sc=[])→Qv D env sc→n+Fz c<5000000000000→k+Fz c<5000000000000→G w →
  Calls Go.Proofs.Tryz.prog 25 #[.agg vs.toArray,.map mv,.pointer (some ⟨p,0,none⟩)] w (aik M0 (fun b=>w0.heap.size≤b∧b<w.heap.size) (aT env k c) p (k+zI c) w)
theorem MH (x:Int):∀(l:List Int) (n:Nat) (env:Int→Int),dh (l++[x]) n env=fun j=>if j=x then((n+l.length+1:Nat):Int) else dh l n env j
 | [],n,env=>rfl
 | y::l,n,env=>by
  rw[List.cons_append,dh,MH x l,dh]
  funext j
  rw[List.length_cons,show n+1+l.length+1=n+(l.length+1)+1 by omega]
theorem Xt (n k:Nat):pU n (k+1)=pU n k++[((n+k+1:Nat):Int)]:=by simp[pU,List.range_succ]
theorem info3:(Go.Proofs.Tryz.prog.info? 3).map (fun i=>(i.zero,i.size,i.bytes))=some (some (.int .i64 0),1,8):=by kernel_rfl
theorem aed:(Go.Proofs.Tryz.prog.info? 29).map (fun i=>(i.zero,i.size,i.bytes))=some (some (.agg #[.int .i64 0,.int .i64 0,.string ⟨#[]⟩,.int .i64 0,.slice none 0 0,.int .i64 0,.string ⟨#[]⟩,.int .i64 0,.slice none 0 0,.slice none 0 0,.slice none 0 0]),11,168):=by kernel_rfl
theorem yI (env:Int→Int):∀(l:List Mx.Core) (n:Nat),(uM env n l).length=l.length
 | [],n=>rfl
 | x::r,n=>by rw[uM,List.length_cons,List.length_cons,yI env r]
theorem Jr (env:Int→Int) (x:Mx.Core):∀(l:List Mx.Core) (n:Nat),uM env n (l++[x])=uM env n l++[aT env (n+dB l) x]
 | [],n=>rfl
 | y::l,n=>by
  rw[List.cons_append,uM,Jr env x l,uM,dB,← Nat.add_assoc]; rfl
theorem Js (x:Mx.Core):∀l:List Mx.Core,dB (l++[x])=dB l+zI x
 | []=>by simp[dB]
 | y::l=>by rw[List.cons_append,dB,Js x l,dB,Nat.add_assoc]
theorem Zn {n:Nat} (h:n<9000000000000000000):(Lit.int .i64 ((n:Nat):Int)).wf=true:=by
 have e1:IntKind.i64.min=-9223372036854775808:=rfl;have e2:IntKind.i64.max=9223372036854775807:=rfl;simp[Lit.wf,e1,e2]; omega
theorem kX {w:World} {base e size n g:Nat} {v:Value} {xs:List Value} (h:w.ownsRow base e size v n xs) (hg:v.ownBlock=some g):base≤g:=by
 obtain⟨_,h⟩:=h;rcases h with ⟨rfl,_⟩ | ⟨g',cap,cur,rfl,q,_⟩
 ·cases hg
 ·cases hg; exact q
theorem TR {w:World} {base e size n g:Nat} {v:Value} {xs:List Value} (h:w.ownsRow base e size v n xs) (hg:v.ownBlock=some g):g<w.heap.size:=by
 obtain⟨_,h⟩:=h;rcases h with ⟨rfl,_⟩ | ⟨g',cap,cur,rfl,_,q,_⟩
 ·cases hg
 ·cases hg; exact(Array.getElem?_eq_some_iff.1 q).1
theorem FC {w:World} {base e size n:Nat} {v:Value} {xs:List Value} (h:w.ownsRow base e size v n xs):∃a cap,v=.slice a n cap:=by
 obtain⟨_,h⟩:=h;rcases h with ⟨rfl,rfl⟩ | ⟨g',cap,cur,rfl,_⟩
 ·exact⟨_,_,rfl⟩
 ·exact⟨_,_,rfl⟩
theorem Jt {cx:Cx} {w:World} {f:Mx.Form} {vs:List Value} (h:pJ cx w (jV f) vs):∃a4 c4 a5 c5,vs=[.int .i64 f.kind,.string f.name,.int .i64 f.n,.slice a4 f.scopes.length c4,.slice a5 f.kids.length c5]:=by
 obtain⟨hl,h⟩:=h
 match vs,hl with
 | [x1,x2,x3,x4,x5],_=>
  have h1:=(h 0 _ _ rfl rfl).lY;have h2:=(h 1 _ _ rfl rfl).lY;have h3:=(h 2 _ _ rfl rfl).lY;obtain⟨a4,c4,rfl⟩:=iO (h 3 _ _ rfl rfl);obtain⟨a5,c5,rfl⟩:=iO (h 4 _ _ rfl rfl);subst h1 h2 h3;rw[lK,vX];exact⟨a4,c4,a5,c5,rfl⟩
mutual
theorem Ju:∀c:Mx.Core,zI c≤Fz c
 | ⟨_,_,_,_,ids,d,kids⟩=>by have:=MI kids; simp only[zI,Fz]; omega
theorem MI:∀l:List Mx.Core,dB l≤xq l
 | []=>Nat.le_refl _
 | x::r=>by have:=Ju x; have:=MI r; simp only[dB,xq]; omega
end
theorem Jv:∀(l:List Mx.Core) (j:Nat) (h:j<l.length),dB (l.take j)+Fz l[j]≤xq l
 | x::r,0,h=>by simp only[List.take_zero,dB,xq,List.getElem_cons_zero]; omega
 | x::r,j+1,h=>by have:=Jv r j (by simpa using h); have:=Ju x; simp only[List.take_succ_cons,dB,xq,List.getElem_cons_succ]; omega
theorem CX.snoc {M0:Nat→Nat→Prop} {S:Nat→Prop} {w:World} {cs:List Mx.Core} {xs vs:List Value} {x:Mx.Core} (h:CX M0 S w cs xs) (hl:xs.length=cs.length*11) (hx:pJ (Jq M0 S) w (jc x) vs):CX M0 S w (cs++[x]) (xs++vs):=fun q hq=>by
 rcases Nat.lt_or_ge q cs.length with hlt | hge
 ·obtain⟨us,h1,h2⟩:=h q hlt;rw[List.getElem_append_left hlt];exact⟨us,h1,fun jj y hy=>by
   have:=h2 jj y hy;rw[List.getElem?_append_left (List.getElem?_eq_some_iff.1 this).1]; exact this⟩
 ·have:q=cs.length:=by simp at hq; omega
  subst this;refine⟨vs,by simpa using hx,fun jj y hy=>?_⟩;rw[List.getElem?_append_right (by omega),hl,Nat.add_sub_cancel_left];exact hy
theorem Zo {M0:Nat→Nat→Prop} {G:World→Prop} (GB:∀w w':World,w.heap.size≤w'.heap.size→G w→G w') (c:Mx.Core) (sc:List Int) (hv:c.kind=1→c.id∈sc) (hw:∀i∈c.ids,(Lit.int .i64 i).wf=true) (CF:ac0 M0 G c.data) (KS:∀x∈c.kids,aec M0 G x (sc++c.ids)):aec M0 G c sc:=by
 intro w0 hM0 vs mv n D env k p w h1 hB hp hP hm hmp hms hE hn hk hG;obtain⟨x5,y4,y5,x7,rfl,r5,rd,r7⟩:=Eu h1;obtain⟨a3,c3,a6,c6,e6⟩:=Jt rd;simp only[List.cons.injEq,true_and,and_true] at e6;obtain⟨rfl,rfl⟩:=e6;obtain⟨a5,c5,rfl,hm5,I1,I2,hI,hIA⟩:=aic r5;obtain⟨a7,c7,rfl,hm7,A1,A2,hA,hKA⟩:=agj r7;have H1:=Lib.hid h1;have HM0:=Lib.hid hM0;clear hM0;have HB:=Lib.hid hB;have HP:=Lib.hid hP;have HM:=Lib.hid hm;have HMP:=Lib.hid hmp;have HMS:=Lib.hid hms;have HE:=Lib.hid hE;have HG:=Lib.hid hG;have HI:=Lib.hid hI;have HIA:=Lib.hid hIA;have HA:=Lib.hid hA;have HKA:=Lib.hid hKA;have HRD:=Lib.hid rd;have HCF:=Lib.hid CF;have HKS:=Lib.hid KS;have HV:=Lib.hid hv;have HW:=Lib.hid hw;have HGB:=Lib.hid GB;have HN:=Lib.hid (And.intro hn hk);have HLp:=Lib.hid hp;have aio:c.ids.length≤9223372036854775807:=hm5;have ak7:c.kids.length≤9223372036854775807:=hm7;clear h1 hB hP hm hmp hms hE hG hI hIA hA hKA rd CF KS hv hw GB hn hk hp hm5 hm7 r5 r7
 go_enter Go.Proofs.Tryz.func25,Go.Proofs.Tryz.ntmps25
 go_wp2_with fail
 have hX1:=(fB.new w #[.int .i64 c.kind,.int .i64 c.id,.string c.name,.int .i64 c.n,.slice a5 c.ids.length c5,.int .i64 c.data.kind,.string c.data.name,.int .i64 c.data.n,.slice a3 c.data.scopes.length c3,.slice a6 c.data.kids.length c6,.slice a7 c.kids.length c7].toList 29).alloc (.cells #[.int .i64 0,.int .i64 0,.string ⟨#[]⟩,.int .i64 0,.slice none 0 0,.int .i64 0,.string ⟨#[]⟩,.int .i64 0,.slice none 0 0,.slice none 0 0,.slice none 0 0] 29);have hX2:=fB.new (w.alloc (.cells #[.int .i64 c.kind,.int .i64 c.id,.string c.name,.int .i64 c.n,.slice a5 c.ids.length c5,.int .i64 c.data.kind,.string c.data.name,.int .i64 c.data.n,.slice a3 c.data.scopes.length c3,.slice a6 c.data.kids.length c6,.slice a7 c.kids.length c7] 29)) #[.int .i64 0,.int .i64 0,.string ⟨#[]⟩,.int .i64 0,.slice none 0 0,.int .i64 0,.string ⟨#[]⟩,.int .i64 0,.slice none 0 0,.slice none 0 0,.slice none 0 0].toList 29;simp only[World.size_alloc] at hX2;have hB2:Below w.heap.size w ((w.alloc (.cells #[.int .i64 c.kind,.int .i64 c.id,.string c.name,.int .i64 c.n,.slice a5 c.ids.length c5,.int .i64 c.data.kind,.string c.data.name,.int .i64 c.data.n,.slice a3 c.data.scopes.length c3,.slice a6 c.data.kids.length c6,.slice a7 c.kids.length c7] 29)).alloc (.cells #[.int .i64 0,.int .i64 0,.string ⟨#[]⟩,.int .i64 0,.slice none 0 0,.int .i64 0,.string ⟨#[]⟩,.int .i64 0,.slice none 0 0,.slice none 0 0,.slice none 0 0] 29)):=((Below.refl _ _).alloc (Nat.le_refl _) _).alloc (by simp) _;have hs2:w.heap.size+2=((w.alloc (.cells #[.int .i64 c.kind,.int .i64 c.id,.string c.name,.int .i64 c.n,.slice a5 c.ids.length c5,.int .i64 c.data.kind,.string c.data.name,.int .i64 c.data.n,.slice a3 c.data.scopes.length c3,.slice a6 c.data.kids.length c6,.slice a7 c.kids.length c7] 29)).alloc (.cells #[.int .i64 0,.int .i64 0,.string ⟨#[]⟩,.int .i64 0,.slice none 0 0,.int .i64 0,.string ⟨#[]⟩,.int .i64 0,.slice none 0 0,.slice none 0 0,.slice none 0 0] 29)).heap.size:=by simp
 have hBB:Below w0.heap.size w0 ((w.alloc (.cells #[.int .i64 c.kind,.int .i64 c.id,.string c.name,.int .i64 c.n,.slice a5 c.ids.length c5,.int .i64 c.data.kind,.string c.data.name,.int .i64 c.data.n,.slice a3 c.data.scopes.length c3,.slice a6 c.data.kids.length c6,.slice a7 c.kids.length c7] 29)).alloc (.cells #[.int .i64 0,.int .i64 0,.string ⟨#[]⟩,.int .i64 0,.slice none 0 0,.int .i64 0,.string ⟨#[]⟩,.int .i64 0,.slice none 0 0,.slice none 0 0,.slice none 0 0] 29)):=HB.out.trans (hB2.mono HB.out.size);have hL0:w0.heap.size≤((w.alloc (.cells #[.int .i64 c.kind,.int .i64 c.id,.string c.name,.int .i64 c.n,.slice a5 c.ids.length c5,.int .i64 c.data.kind,.string c.data.name,.int .i64 c.data.n,.slice a3 c.data.scopes.length c3,.slice a6 c.data.kids.length c6,.slice a7 c.kids.length c7] 29)).alloc (.cells #[.int .i64 0,.int .i64 0,.string ⟨#[]⟩,.int .i64 0,.slice none 0 0,.int .i64 0,.string ⟨#[]⟩,.int .i64 0,.slice none 0 0,.slice none 0 0,.slice none 0 0] 29)).heap.size:=hBB.size;have HBB:=Lib.hid hBB;have HL0:=Lib.hid hL0;clear hBB hL0;have Ku:=Lib.hid hX1;have HX2:=Lib.hid hX2;have HB2:=Lib.hid hB2;have HS2:=Lib.hid hs2;clear hX1 hX2 hB2 hs2;generalize ((w.alloc (.cells #[.int .i64 c.kind,.int .i64 c.id,.string c.name,.int .i64 c.n,.slice a5 c.ids.length c5,.int .i64 c.data.kind,.string c.data.name,.int .i64 c.data.n,.slice a3 c.data.scopes.length c3,.slice a6 c.data.kids.length c6,.slice a7 c.kids.length c7] 29)).alloc (.cells #[.int .i64 0,.int .i64 0,.string ⟨#[]⟩,.int .i64 0,.slice none 0 0,.int .i64 0,.string ⟨#[]⟩,.int .i64 0,.slice none 0 0,.slice none 0 0,.slice none 0 0] 29))=w1 at *
 go_cut [7] from 15 to 26 (fun t7 wx=>∃(o:Nat) (b3 b6:Option Addr) (d3 d6:Nat),t7=.pointer (some ⟨o,0,none⟩)∧Hid (w1.heap.size≤o)∧Hid (fB wx o [.int .i64 c.kind,.int .i64 c.id,.string c.name,.int .i64 c.n,.slice none 0 0,.int .i64 c.data.kind,.string c.data.name,.int .i64 c.data.n,.slice b3 c.data.scopes.length d3,.slice b6 c.data.kids.length d6,.slice none 0 0])∧Hid (Below w1.heap.size w1 wx)∧Hid (pJ (Jq M0 fun b=>(w0.heap.size≤b∧b<w1.heap.size)∨b=o) wx (jV c.data) [.int .i64 c.data.kind,.string c.data.name,.int .i64 c.data.n,.slice b3 c.data.scopes.length d3,.slice b6 c.data.kids.length d6]))
 case first=>
  have n0:=(Ku.out 0 _ rfl).1;have n1:=(Ku.out 1 _ rfl).1;have n2:=(Ku.out 2 _ rfl).1;have n3:=(Ku.out 3 _ rfl).1;have n5:=(Ku.out 5 _ rfl).1;have n6:=(Ku.out 6 _ rfl).1;have n7:=(Ku.out 7 _ rfl).1;have n8:=(Ku.out 8 _ rfl).1;have n9:=(Ku.out 9 _ rfl).1;have hY0:fB (w1.alloc (.cells #[.int .i64 0,.int .i64 0,.string ⟨#[]⟩,.int .i64 0,.slice none 0 0,.int .i64 0,.string ⟨#[]⟩,.int .i64 0,.slice none 0 0,.slice none 0 0,.slice none 0 0] 29)).drew w1.heap.size ([.int .i64 0,.int .i64 0,.string ⟨#[]⟩,.int .i64 0,.slice none 0 0,.int .i64 0,.string ⟨#[]⟩,.int .i64 0,.slice none 0 0,.slice none 0 0,.slice none 0 0]:List Value):=fun j y hj=>fB.new w1 ([.int .i64 0,.int .i64 0,.string ⟨#[]⟩,.int .i64 0,.slice none 0 0,.int .i64 0,.string ⟨#[]⟩,.int .i64 0,.slice none 0 0,.slice none 0 0,.slice none 0 0]:List Value) 29 j y hj;have HY0:=Lib.hid hY0;clear hY0;have q1:¬(w1.heap.size=w.heap.size):=by have:=HS2.out; omega
  have q1':¬(w.heap.size=w1.heap.size):=by have:=HS2.out; omega
  go_region_held3 (fun w'=>w'.cell? ⟨w.heap.size,0,none⟩=some (.int .i64 c.kind)∧w'.cell? ⟨w.heap.size,1,none⟩=some (.int .i64 c.id)∧w'.cell? ⟨w.heap.size,2,none⟩=some (.string c.name)∧w'.cell? ⟨w.heap.size,3,none⟩=some (.int .i64 c.n)∧w'.cell? ⟨w.heap.size,5,none⟩=some (.int .i64 c.data.kind)∧w'.cell? ⟨w.heap.size,6,none⟩=some (.string c.data.name)∧w'.cell? ⟨w.heap.size,7,none⟩=some (.int .i64 c.data.n)∧w'.cell? ⟨w.heap.size,8,none⟩=some (.slice a3 c.data.scopes.length c3)∧w'.cell? ⟨w.heap.size,9,none⟩=some (.slice a6 c.data.kids.length c6)) (first | go_keep)
   (first
    | (
     go_at_call 43
     refine Calls.mono (HCF.out (fun b=>w0.heap.size≤b∧b<w1.heap.size) [.int .i64 c.data.kind,.string c.data.name,.int .i64 c.data.n,.slice a3 c.data.scopes.length c3,.slice a6 c.data.kids.length c6] _ ?_ ?_ ?_) ?_
     ·exact FB HRD.out (jD _ _) (T:=fun _=>False) (.of_below HBB.out.drew) (fun _ _ h=>h.elim) (fun b hb h=>absurd hb (Nat.not_lt.2 h.1))
     ·rintro b ⟨_,hb⟩; exact hb
     ·exact HGB.out _ _ HB2.out.size HG.out
     rintro e w2 ⟨vs2,rfl,hR,hB3⟩;have HB3:=Lib.hid hB3;obtain⟨b3,d3,b6,d6,rfl⟩:=Jt hR;have HR:=Lib.hid hR;clear hR hB3;have z0:w2.cell? ⟨w.heap.size,0,none⟩=some (.int .i64 c.kind):=(HB3.out.cell (p:=⟨w.heap.size,0,none⟩) (cell_lt n0)).trans n0;have z1:w2.cell? ⟨w.heap.size,1,none⟩=some (.int .i64 c.id):=(HB3.out.cell (p:=⟨w.heap.size,1,none⟩) (cell_lt n1)).trans n1;have z2:w2.cell? ⟨w.heap.size,2,none⟩=some (.string c.name):=(HB3.out.cell (p:=⟨w.heap.size,2,none⟩) (cell_lt n2)).trans n2;have z3:w2.cell? ⟨w.heap.size,3,none⟩=some (.int .i64 c.n):=(HB3.out.cell (p:=⟨w.heap.size,3,none⟩) (cell_lt n3)).trans n3;have z5:w2.cell? ⟨w.heap.size,5,none⟩=some (.int .i64 c.data.kind):=(HB3.out.cell (p:=⟨w.heap.size,5,none⟩) (cell_lt n5)).trans n5;have z6:w2.cell? ⟨w.heap.size,6,none⟩=some (.string c.data.name):=(HB3.out.cell (p:=⟨w.heap.size,6,none⟩) (cell_lt n6)).trans n6;have z7:w2.cell? ⟨w.heap.size,7,none⟩=some (.int .i64 c.data.n):=(HB3.out.cell (p:=⟨w.heap.size,7,none⟩) (cell_lt n7)).trans n7;have z8:w2.cell? ⟨w.heap.size,8,none⟩=some (.slice a3 c.data.scopes.length c3):=(HB3.out.cell (p:=⟨w.heap.size,8,none⟩) (cell_lt n8)).trans n8;have z9:w2.cell? ⟨w.heap.size,9,none⟩=some (.slice a6 c.data.kids.length c6):=(HB3.out.cell (p:=⟨w.heap.size,9,none⟩) (cell_lt n9)).trans n9;have q2:¬(w2.heap.size=w.heap.size):=by have:=cell_lt z0; omega
     have q2':¬(w.heap.size=w2.heap.size):=by have:=cell_lt z0; omega)
    | (
     go_at_call 43
     refine Calls.mono (HCF.out (fun b=>w0.heap.size≤b∧b<w1.heap.size+1) [.int .i64 c.data.kind,.string c.data.name,.int .i64 c.data.n,.slice a3 c.data.scopes.length c3,.slice a6 c.data.kids.length c6] _ ?_ ?_ ?_) ?_
     ·exact FB HRD.out (jD _ _) (T:=fun _=>False) (.of_below ((HBB.out.drew).alloc (HL0.out) _)) (fun _ _ h=>h.elim) (fun b hb h=>absurd hb (Nat.not_lt.2 h.1))
     ·rintro b ⟨_,hb⟩; (have:=hb; simp; omega)
     ·exact HGB.out _ _ (by have:=HB2.out.size; simp; omega) HG.out
     rintro e w2 ⟨vs2,rfl,hR,hB3⟩;have HB3:=Lib.hid hB3;obtain⟨b3,d3,b6,d6,rfl⟩:=Jt hR;have HR:=Lib.hid hR;clear hR hB3;have z0:w2.cell? ⟨w.heap.size,0,none⟩=some (.int .i64 c.kind):=(HB3.out.cell (p:=⟨w.heap.size,0,none⟩) (by have:=cell_lt n0; simp; omega)).trans ((((Below.refl _ _).alloc (Nat.le_refl _) _).cell (p:=⟨w.heap.size,0,none⟩) (cell_lt n0)).trans n0);have z1:w2.cell? ⟨w.heap.size,1,none⟩=some (.int .i64 c.id):=(HB3.out.cell (p:=⟨w.heap.size,1,none⟩) (by have:=cell_lt n1; simp; omega)).trans ((((Below.refl _ _).alloc (Nat.le_refl _) _).cell (p:=⟨w.heap.size,1,none⟩) (cell_lt n1)).trans n1);have z2:w2.cell? ⟨w.heap.size,2,none⟩=some (.string c.name):=(HB3.out.cell (p:=⟨w.heap.size,2,none⟩) (by have:=cell_lt n2; simp; omega)).trans ((((Below.refl _ _).alloc (Nat.le_refl _) _).cell (p:=⟨w.heap.size,2,none⟩) (cell_lt n2)).trans n2);have z3:w2.cell? ⟨w.heap.size,3,none⟩=some (.int .i64 c.n):=(HB3.out.cell (p:=⟨w.heap.size,3,none⟩) (by have:=cell_lt n3; simp; omega)).trans ((((Below.refl _ _).alloc (Nat.le_refl _) _).cell (p:=⟨w.heap.size,3,none⟩) (cell_lt n3)).trans n3);have z5:w2.cell? ⟨w.heap.size,5,none⟩=some (.int .i64 c.data.kind):=(HB3.out.cell (p:=⟨w.heap.size,5,none⟩) (by have:=cell_lt n5; simp; omega)).trans ((((Below.refl _ _).alloc (Nat.le_refl _) _).cell (p:=⟨w.heap.size,5,none⟩) (cell_lt n5)).trans n5);have z6:w2.cell? ⟨w.heap.size,6,none⟩=some (.string c.data.name):=(HB3.out.cell (p:=⟨w.heap.size,6,none⟩) (by have:=cell_lt n6; simp; omega)).trans ((((Below.refl _ _).alloc (Nat.le_refl _) _).cell (p:=⟨w.heap.size,6,none⟩) (cell_lt n6)).trans n6);have z7:w2.cell? ⟨w.heap.size,7,none⟩=some (.int .i64 c.data.n):=(HB3.out.cell (p:=⟨w.heap.size,7,none⟩) (by have:=cell_lt n7; simp; omega)).trans ((((Below.refl _ _).alloc (Nat.le_refl _) _).cell (p:=⟨w.heap.size,7,none⟩) (cell_lt n7)).trans n7);have z8:w2.cell? ⟨w.heap.size,8,none⟩=some (.slice a3 c.data.scopes.length c3):=(HB3.out.cell (p:=⟨w.heap.size,8,none⟩) (by have:=cell_lt n8; simp; omega)).trans ((((Below.refl _ _).alloc (Nat.le_refl _) _).cell (p:=⟨w.heap.size,8,none⟩) (cell_lt n8)).trans n8);have z9:w2.cell? ⟨w.heap.size,9,none⟩=some (.slice a6 c.data.kids.length c6):=(HB3.out.cell (p:=⟨w.heap.size,9,none⟩) (by have:=cell_lt n9; simp; omega)).trans ((((Below.refl _ _).alloc (Nat.le_refl _) _).cell (p:=⟨w.heap.size,9,none⟩) (cell_lt n9)).trans n9);have hY:=HY0.out.below HB3.out;obtain⟨y0,f0⟩:=hY 0 _ rfl;obtain⟨y1,f1⟩:=hY 1 _ rfl;obtain⟨y2,f2⟩:=hY 2 _ rfl;obtain⟨y3,f3⟩:=hY 3 _ rfl;obtain⟨y4,f4⟩:=hY 4 _ rfl;obtain⟨y5,f5⟩:=hY 5 _ rfl;obtain⟨y6,f6⟩:=hY 6 _ rfl;obtain⟨y7,f7⟩:=hY 7 _ rfl;obtain⟨y8,f8⟩:=hY 8 _ rfl;obtain⟨y9,f9⟩:=hY 9 _ rfl;obtain⟨TL,f10⟩:=hY 10 _ rfl;have HYw:=Lib.hid hY;clear hY))
  all_goals (go_wp2_with fail)
  all_goals go_meet
  case rel=>
   have hs:w1.heap.size≤w2.heap.size:=HB3.out.size;exact⟨w2.heap.size,b3,b6,d3,d6,rfl,hs,fB.new w2 [.int .i64 c.kind,.int .i64 c.id,.string c.name,.int .i64 c.n,.slice none 0 0,.int .i64 c.data.kind,.string c.data.name,.int .i64 c.data.n,.slice b3 c.data.scopes.length d3,.slice b6 c.data.kids.length d6,.slice none 0 0] 29,((Below.refl _ w1).drew.trans HB3.out).alloc hs _,FB HR.out (jD _ _) (T:=fun _=>False) (Gr.alloc _ _) (fun _ _ h=>h.elim) (fun b hb h=>h.elim id fun e=>absurd hb (by omega))⟩
  case rel=>
   have hl:=HL0.out;exact⟨w1.heap.size,b3,b6,d3,d6,rfl,Nat.le_refl _,(((((((((((HYw.out.set (o:=0) (by simp) (.int .i64 c.kind)).set (o:=1) (by simp) (.int .i64 c.id)).set (o:=2) (by simp) (.string c.name)).set (o:=3) (by simp) (.int .i64 c.n)).set (o:=4) (by simp) (.slice none 0 0)).set (o:=5) (by simp) (.int .i64 c.data.kind)).set (o:=6) (by simp) (.string c.data.name)).set (o:=7) (by simp) (.int .i64 c.data.n)).set (o:=8) (by simp) (.slice b3 c.data.scopes.length d3)).set (o:=9) (by simp) (.slice b6 c.data.kids.length d6)).set (o:=10) (by simp) (.slice none 0 0)),(((((((((((((((Below.refl _ w1).alloc (Nat.le_refl _) _).drew).trans (HB3.out.mono (by simp))).setCell (p:=⟨w1.heap.size,0,none⟩) (Nat.le_refl _) (.int .i64 c.kind)).setCell (p:=⟨w1.heap.size,1,none⟩) (Nat.le_refl _) (.int .i64 c.id)).setCell (p:=⟨w1.heap.size,2,none⟩) (Nat.le_refl _) (.string c.name)).setCell (p:=⟨w1.heap.size,3,none⟩) (Nat.le_refl _) (.int .i64 c.n)).setCell (p:=⟨w1.heap.size,4,none⟩) (Nat.le_refl _) (.slice none 0 0)).setCell (p:=⟨w1.heap.size,5,none⟩) (Nat.le_refl _) (.int .i64 c.data.kind)).setCell (p:=⟨w1.heap.size,6,none⟩) (Nat.le_refl _) (.string c.data.name)).setCell (p:=⟨w1.heap.size,7,none⟩) (Nat.le_refl _) (.int .i64 c.data.n)).setCell (p:=⟨w1.heap.size,8,none⟩) (Nat.le_refl _) (.slice b3 c.data.scopes.length d3)).setCell (p:=⟨w1.heap.size,9,none⟩) (Nat.le_refl _) (.slice b6 c.data.kids.length d6)).setCell (p:=⟨w1.heap.size,10,none⟩) (Nat.le_refl _) (.slice none 0 0)),FB HR.out (jD _ _) (T:=fun b=>b=w1.heap.size) ((((((((((((Gr.refl _ w2).trans (Gr.setCell _ ⟨w1.heap.size,0,none⟩ (.int .i64 c.kind))).trans (Gr.setCell _ ⟨w1.heap.size,1,none⟩ (.int .i64 c.id))).trans (Gr.setCell _ ⟨w1.heap.size,2,none⟩ (.string c.name))).trans (Gr.setCell _ ⟨w1.heap.size,3,none⟩ (.int .i64 c.n))).trans (Gr.setCell _ ⟨w1.heap.size,4,none⟩ (.slice none 0 0))).trans (Gr.setCell _ ⟨w1.heap.size,5,none⟩ (.int .i64 c.data.kind))).trans (Gr.setCell _ ⟨w1.heap.size,6,none⟩ (.string c.data.name))).trans (Gr.setCell _ ⟨w1.heap.size,7,none⟩ (.int .i64 c.data.n))).trans (Gr.setCell _ ⟨w1.heap.size,8,none⟩ (.slice b3 c.data.scopes.length d3))).trans (Gr.setCell _ ⟨w1.heap.size,9,none⟩ (.slice b6 c.data.kids.length d6))).trans (Gr.setCell _ ⟨w1.heap.size,10,none⟩ (.slice none 0 0))) (fun b hb h=>by omega) (fun b hb h=>by omega)⟩
 case rest=>
  obtain⟨o,b3,b6,d3,d6,rfl,HO,HRO,XT,HRX⟩:=hcut;generalize wc=w2 at *;have agm:Below w.heap.size w w2:=HB2.out.trans (XT.out.mono HB2.out.size);have TS:=Lib.hid agm;clear agm;obtain⟨m0,_⟩:=(Ku.out.below XT.out) 0 _ rfl;obtain⟨m1,_⟩:=(Ku.out.below XT.out) 1 _ rfl
  go_upto_if 29 with (fail)
  go_cut [] from 27 to 34 (fun wx=>Hid (fB wx o [.int .i64 c.kind,.int .i64 (if c.kind=1 then env c.id else c.id),.string c.name,.int .i64 c.n,.slice none 0 0,.int .i64 c.data.kind,.string c.data.name,.int .i64 c.data.n,.slice b3 c.data.scopes.length d3,.slice b6 c.data.kids.length d6,.slice none 0 0])∧Hid (Gr (fun b=>b=o) w2 wx))
  case first=>
   by_cases hk1:c.kind=1
   ·obtain⟨b,rfl⟩:∃b,mv=some b:=by
     rcases hmv:mv with _ | b
     ·have:=HMS.out hmv;have h2:=HV.out hk1;rw[this] at h2;cases h2
     ·exact⟨b,rfl⟩
    have hmp:MP w2 b n D:=by
     rcases(Gr.of_below (S:=fun _=>False) TS.out).mpo (fun _ _ h=>h) HM.out with ⟨h,_⟩ | ⟨b',h,h'⟩
     ·cases h
     ·cases h; exact h'
    obtain⟨e1,e2,e3⟩:=HE.out _ (HV.out hk1);obtain⟨y1,f1⟩:=HRO.out 1 _ rfl;have hkb:(c.kind==1)=true:=by simp[hk1]
    have HK1:=Lib.hid hk1;clear hk1
    go_wp2_with (first
     | (at_lookup; refine wpList_lookup_own_int _ rfl _ _ 65 rfl 3 3 .i64 law3 Go.Proofs.Tryz.underlying65 Go.Proofs.Tryz.underlying3 (zero3 _) b n _ rfl hmp _ _ rfl (keyOf_int_mk Go.Proofs.Tryz.underlying3 e1) ?_; intro i aiv hwi)
     | go_in)
    go_meet
    case rel=>
     have e:i=env c.id:=by
      have:=aiv.symm.trans e3
      simpa using this
     subst e;rw[if_pos HK1.out];exact⟨HRO.out.set (o:=1) (by simp) _,Gr.setCell _ ⟨o,1,none⟩ _⟩
   ·have hkb:(c.kind==1)=false:=by simp[hk1]
    have HK1:=Lib.hid hk1;clear hk1
    go_wp2_with fail
    go_meet
    case rel=>
     rw[if_neg HK1.out];exact⟨HRO.out,Gr.refl _ _⟩
  case rest=>
   obtain⟨aeg,hG3⟩:=hcut;generalize wc=w3 at *;have hsz:=HS2.out;have agn:=HO.out;have hlp:=HLp.out;have hpl:=cell_lt (HP.out 0 _ rfl).1;have aeh:=XT.out.size;have aiw:=hG3.size;have HX3:Hid (fB w3 w.heap.size [.int .i64 c.kind,.int .i64 c.id,.string c.name,.int .i64 c.n,.slice a5 c.ids.length c5,.int .i64 c.data.kind,.string c.data.name,.int .i64 c.data.n,.slice a3 c.data.scopes.length c3,.slice a6 c.data.kids.length c6,.slice a7 c.kids.length c7]):=hG3.row (by omega) (Ku.out.below XT.out);have HZ3:Hid (fB w3 (w.heap.size+1) [.int .i64 0,.int .i64 0,.string ⟨#[]⟩,.int .i64 0,.slice none 0 0,.int .i64 0,.string ⟨#[]⟩,.int .i64 0,.slice none 0 0,.slice none 0 0,.slice none 0 0]):=hG3.row (by omega) (HX2.out.below XT.out);have HB3:Hid (Below w.heap.size w w3):=⟨hG3.os.trans TS.out.os,hG3.tape.trans TS.out.tape,hG3.output.trans TS.out.output,Nat.le_trans TS.out.size hG3.size,fun b hb=>(hG3.block b (by omega) (by omega)).trans (TS.out.block b hb)⟩
   have HP3:Hid (fB w3 p [.int .i64 k]):=HP.out.below HB3.out;have HM3:Hid (MPo w3 mv n D):=(Gr.of_below (S:=fun _=>False) HB3.out).mpo (fun _ _ h=>h) HM.out;have HR3:=Lib.hid (FB HRX.out (jD _ _) (T:=fun b=>b=o) hG3 (S':=fun b=>(w0.heap.size≤b∧b<w.heap.size+2)∨b=o) (fun b _ h=>.inr h) (fun b _ h=>by omega));have hpo:p<w.heap.size:=hpl;have hop:w.heap.size+2≤o:=by omega
   have hol:o<w3.heap.size:=cell_lt (aeg.out 0 _ rfl).1;clear hsz agn aeh aiw hG3 HRX TS XT HO HRO Ku HX2 HB2 HS2 HBB HL0 HP HM;clear hpl m0 m1;have hmm:=@run_makeMap Go.Proofs.Tryz.prog
   go_wp2_with (first
    | (at_range; refine Xr rfl _ 65 rfl Go.Proofs.Tryz.underlying65 mv n D rfl ((Gr.alloc (S:=fun _=>False) w3 _).mpo (fun _ _ h=>h) HM3.out) ?_; intro w4 left0 ak8 hrg0 aix aiy hg0 hs0)
    | go_in)
   go_frame
   have e1:(w3.alloc (.map #[] 0)).heap.size=w3.heap.size+1:=by simp
   rw[e1] at hrg0 hs0 ⊢;have hown0:MP w4 w3.heap.size 0 (.map []):=by
    have:=(World.ownsMap_made (H:=Unit) w3 Go.Proofs.Tryz.prog 3 (plainElem Go.Proofs.Tryz.prog 3)).kept hg0 (by simp);exact this
   have hDn:Maps.size D≤n:=by
    rcases HM3.out with ⟨_,rfl⟩ | ⟨b,_,h⟩
    ·exact Nat.zero_le _
    ·exact h.size_le
   have hcan:Hid (Canon D):=by
    rcases HM3.out with ⟨_,h⟩ | ⟨b,_,h⟩
    ·rw[h]; exact hown0.canon law3
    ·exact h.canon law3
   have hnb:n+Fz c<5000000000000:=HN.out.1;have HB4:Hid (Below w3.heap.size w3 w4):=((Below.refl _ w3).alloc (Nat.le_refl _) _).grown hg0 (by simp) (fun j hj=>by cases hj);have HCD:=Lib.hid hown0;have hcn':=aix;subst aiy;clear hg0 hmm hcn'
   go_loopw [9] (fun _ wr=>∃(left:Lit→Bool) (cnt:Nat) (Dout:DataW Unit),Hid (RgO wr mv (w3.heap.size+1) n D left cnt)∧cnt≤Maps.size D∧MP wr w3.heap.size (Maps.size D-cnt) Dout∧Agree Dout D left∧Hid (Below w3.heap.size w3 wr)∧w3.heap.size+2≤wr.heap.size)
    (fun _ wr=>aif wr mv (w3.heap.size+1))
   case atStart=>exact⟨_,_,.map [],hrg0,by omega,hown0.mono (Nat.zero_le _),agree_start D,HB4.out,by omega⟩
   case round=>
    obtain⟨left,cnt,Dout,hrg,hcs,hout,hA,HBq,hsz⟩:=hrel;clear hrg0 hown0 hs0
    go_wp2_with (first
     | (at_next; refine Zk rfl _ rfl mv (w3.heap.size+1) n D _ _ rfl hrg.out ?_ ?_)
     | go_in)
    ·intro hc0 hl0;subst hc0;have e:=agree_end hA hl0 (hout.canon law3) hcan.out;subst e;rw[Nat.sub_zero] at hout;have HO4:=Lib.hid (hout.mono hDn);clear hA hl0 hrg hout hcan HCD hcs HM3;generalize wr=w7 at *;have hX7:=HX3.out.below HBq.out;obtain⟨m4,_⟩:=hX7 4 _ rfl;have HX7:=Lib.hid hX7;have HZ7:=Lib.hid (HZ3.out.below HBq.out);have HP7:=Lib.hid (HP3.out.below HBq.out);have HO7:=Lib.hid (aeg.out.below HBq.out);have aiA:Hid (Gr (fun b=>b=p∨b=o∨b=w3.heap.size) w3 w7):=.of_below HBq.out;have HB7:Hid (Below w.heap.size w w7):=HB3.out.trans (HBq.out.mono HB3.out.size);have HW7:Hid (Below w0.heap.size w0 w7):=HB.out.trans (HB7.out.mono HB.out.size);have hL:=HB.out.size;have hw3:=HB3.out.size;have h37:w3.heap.size+2≤w7.heap.size:=hsz;clear hX7 HBq HX3 HZ3 HP3 aeg HB3 HB4;have hcc:=Vs c;have hkb:k+c.ids.length<5000000000000:=by have:=HN.out.2; omega
     have alf:n+c.ids.length<5000000000000:=by omega
     obtain⟨i3,hi3,hz0,hz1,hz2⟩:=info_parts info3;clear hcc
     go_wp2_with fail
     go_loopw [49] (fun iv wq=>∃(i:Nat) (D':DataW Unit) (v5:Value),i≤c.ids.length∧iv=.int .i64 i∧Hid (MP wq w3.heap.size (n+i) D')∧Hid (Qv D' (dh (c.ids.take i) k env) (sc++c.ids.take i))∧Hid (fB wq p [.int .i64 ((k+i:Nat):Int)]) ∧
       Hid (fB wq o [.int .i64 c.kind,.int .i64 (if c.kind=1 then env c.id else c.id),.string c.name,.int .i64 c.n,v5,.int .i64 c.data.kind,.string c.data.name,.int .i64 c.data.n,.slice b3 c.data.scopes.length d3,.slice b6 c.data.kids.length d6,(.slice none 0 0)])∧Hid (wq.ownsRow w7.heap.size 3 1 v5 i (ints (pU k i)))∧Hid (Gr (fun b=>b=p∨b=o∨b=w3.heap.size) w7 wq)) (fun iv _=>c.ids.length-(intOf iv).toNat)
     case atStart=>exact⟨0,_,.slice none 0 0,by omega,rfl,HO4.out,by rw[List.take_zero,List.append_nil]; exact HE.out,HP7.out,HO7.out,World.ownsRow_nil _ _ _ _,Gr.refl _ _⟩
     case round=>
      obtain⟨i,D',v5,hi,rfl,HM5,HE5,HP5,HO5,HV5,KO⟩:=hrel;by_cases hlt:i<c.ids.length
      ·obtain rfl:=HI.out (by omega);have q0:=HIA.out i hlt;have hI0:=cell_lt q0;have p1:wr.cell? ⟨I1,I2+i,none⟩=some (.int .i64 c.ids[i]):=KO.out.cell (by rintro (h | h | h) <;> omega) ((HW7.out.cell (p:=⟨I1,I2+i,none⟩) hI0).trans q0);have hwi:=HW.out _ (List.getElem_mem hlt);have hap:c.ids.take (i+1)=c.ids.take i++[c.ids[i]]:=List.take_succ_eq_append_getElem hlt;have HAP:=Lib.hid hap;clear hap q0;generalize c.ids[i]=v at p1 hwi HAP;obtain⟨pp,pf⟩:=HP5.out 0 _ rfl;have hm5:MP (wr.setCell ⟨p,0,none⟩ (.int .i64 ((k+i+1:Nat):Int))) w3.heap.size (n+i) D':=(Gr.setCell wr ⟨p,0,none⟩ _).mp (by show ¬w3.heap.size=p; omega) HM5.out
       go_upto_block 3 with (fail)
       go_cut [12] from 51 to 70 (fun t12 wx=>∃(D'':DataW Unit) (v5':Value),Hid (MP wx w3.heap.size (n+(i+1)) D'')∧Hid (Qv D'' (dh (c.ids.take (i+1)) k env) (sc++c.ids.take (i+1)))∧Hid (fB wx p [.int .i64 ((k+(i+1):Nat):Int)]) ∧
        Hid (fB wx o [.int .i64 c.kind,.int .i64 (if c.kind=1 then env c.id else c.id),.string c.name,.int .i64 c.n,v5',.int .i64 c.data.kind,.string c.data.name,.int .i64 c.data.n,.slice b3 c.data.scopes.length d3,.slice b6 c.data.kids.length d6,(.slice none 0 0)])∧Hid (wx.ownsRow w7.heap.size 3 1 v5' (i+1) (ints (pU k (i+1))))∧Hid (Gr (fun b=>b=p∨b=o∨b=w3.heap.size) w7 wx))
       case first=>
        go_wp2_with (first
         | (at_mapUpdate; refine wpList_mapUpdate_own _ rfl _ _ _ 65 rfl 3 3 law3 Go.Proofs.Tryz.underlying65 _ w3.heap.size _ _ rfl hm5 (by unfold maxLen; omega) _ _ _ rfl rfl (keyOf_int_mk Go.Proofs.Tryz.underlying3 hwi) _ [] (plainElem_int Go.Proofs.Tryz.underlying3 (Zn (n:=k+i+1) (by omega))) ?_; intro w8 hout2 hg2; go_frame)
         | go_in)
        have hG8:Gr (fun b=>b=p∨b=o∨b=w3.heap.size) wr w8:=(((Gr.setCell wr ⟨p,0,none⟩ _).mono fun j _ e=>.inl e).trans ((Gr.pR hg2).mono fun j _ e=>by cases e; exact .inr (.inr rfl)))
        have hP8:fB w8 p [.int .i64 ((k+i+1:Nat):Int)]:=(Gr.pR hg2).row (by intro e; cases e; omega) (HP5.out.set (o:=0) (by simp) _);have hO8:=(Gr.pR hg2).row (g:=o) (by intro e; cases e; omega) (HO5.out.other (g':=p) (o:=0) (by omega) (.int .i64 ((k+i+1:Nat):Int)));have hV8:=hG8.own HV5.out (fun g hg=>by have:=kX HV5.out hg; rintro (h | h | h) <;> omega);obtain⟨pp8,_⟩:=hP8 0 _ rfl;obtain⟨oo8,of8⟩:=hO8 4 _ rfl;have HM8:=Lib.hid hout2;have agq:=Lib.hid (And.intro hm5.isMap hwi);have HP8:=Lib.hid hP8;have HO8:=Lib.hid hO8;have HV8:=Lib.hid hV8;have HG8:=Lib.hid (KO.out.trans hG8);have hz8:w7.heap.size≤w8.heap.size:=HG8.out.size;clear hout2 hg2 hP8 hO8 hV8 hG8 HM5 HP5 HO5 HV5 KO pp pf hm5 p1;have oa:(w8.alloc (.cells #[.int .i64 ((k:Int)+(i:Int)+1)] 3)).cell? ⟨o,4,none⟩=some v5:=(((Below.refl _ w8).alloc (Nat.le_refl _) _).cell (p:=⟨o,4,none⟩) (cell_lt oo8)).trans oo8
        go_region_law (first
         | (
          refine step_append_lies _ (by rfl) _ _ _ (by rfl) w7.heap.size 3 i3 _ 1 8 Go.Proofs.Tryz.underlying23 hi3 hz0 hz1 hz2 rfl (by omega) v5 i (ints (pU k i)) (by rfl) (by first | exact((HV8.out.alloc _).drew) | exact(HV8.out.alloc _) | exact(HV8.out.drew.alloc _)) ⟨w8.heap.size,0,none⟩ 1 1 [.int .i64 ((k+i+1:Nat):Int)] (by rfl) (by rfl) (World.news_of_block (cs:=#[.int .i64 ((k+i+1:Nat):Int)]) (t:=3) (fr:=(0,0)) (heap_alloc_new w8 _)) (by simp[Value.oneCell']) (by omega) (by unfold maxLen; omega) (by omega) (by simp; omega) (w8.heap.size+1) (by simp) ?_; intro gg cap w9 ac2 hg9 alj alk;have hO9:fB w9 o [.int .i64 c.kind,.int .i64 (if c.kind=1 then env c.id else c.id),.string c.name,.int .i64 c.n,v5,.int .i64 c.data.kind,.string c.data.name,.int .i64 c.data.n,.slice b3 c.data.scopes.length d3,.slice b6 c.data.kids.length d6,(.slice none 0 0)]:=(Gr.pR hg9).row (g:=o) (fun e=>by have:=kX HV8.out e.symm; omega) (fun j y hj=>(HO8.out.alloc _) j y hj);obtain⟨ya,fa⟩:=hO9 4 _ rfl;have HO9:=Lib.hid hO9;clear hO9))
        all_goals (go_wp2_with fail)
        all_goals go_meet
        all_goals
         have hge:∀b,v5.ownBlock=some b→w7.heap.size≤b:=fun b hb=>kX HV8.out hb;have Gw9:Gr (fun b=>some b=v5.ownBlock) w8 w9:=((Gr.alloc w8 _).drew).trans (Gr.pR hg9);have hgg:w7.heap.size≤gg:=kX ac2 rfl;have hle:(c.ids.take i).length=i:=by rw[List.length_take]; omega
         refine⟨D'.put (.int .i64 v) (.lit (.int .i64 ((k+i+1:Nat):Int))),.slice (some ⟨gg,0,none⟩) (i+1) cap,?_,?_,?_,?_,?_,?_⟩
         ·exact(Gr.setCell w9 ⟨o,4,none⟩ _).mp (by show ¬w3.heap.size=o; omega) (Gw9.mp (fun e=>by have:=hge _ e.symm; omega) HM8.out)
         ·have:=abV (n:=k+i+1) agq.out.1 HE5.out agq.out.2 (Zn (by omega));rw[HAP.out,MH,hle,← List.append_assoc];exact this
         ·exact(Gw9.row (fun e=>by have:=hge _ e.symm; omega) HP8.out).other (g':=o) (by omega) _
         ·exact HO9.out.set (o:=4) (by simp) _
         ·rw[Xt,ints,List.map_append];exact(Gr.setCell w9 ⟨o,4,none⟩ _).own ac2 (fun g e=>by cases e; show ¬gg=o; omega)
         ·exact(HG8.out.trans' Gw9 (fun j hj e=>by have:=hge _ e.symm; omega)).trans ((Gr.setCell w9 ⟨o,4,none⟩ _).mono fun j _ e=>.inr (.inl e))
       case rest=>
        obtain⟨D'',v5',HM9,HE9,HP9,HO9,HV9,HG9⟩:=hcut;generalize wc=w9 at *
        go_wp2_with fail
        exact⟨⟨i+1,D'',v5',by omega,by simp,HM9.out,HE9.out,HP9.out,HO9.out,HV9.out,HG9.out⟩,by simp[intOf]; omega⟩
      ·obtain rfl:i=c.ids.length:=by omega
       rw[List.take_length] at HE5;have hX5:=KO.out.row (g:=w.heap.size) (by rintro (h | h | h) <;> omega) HX7.out;obtain⟨m6,_⟩:=hX5 10 _ rfl;have aiN:Hid (Gr (fun b=>b=p∨b=o∨b=w3.heap.size) w3 wr):=aiA.out.trans KO.out;have HR5:=Lib.hid (FB HR3.out (jD _ _) aiN.out (S':=fun b=>(w0.heap.size≤b∧b<w.heap.size+2)∨b=o∨v5.ownBlock=some b) (fun b hb h=>by omega) (fun b hb h=>by
        rcases h with h | h | h
        ·exact .inl h
        ·exact .inr h
        ·have:=kX HV5.out h; omega))
       have HX5:=Lib.hid hX5;clear hX5
       go_wp2_with fail
       obtain⟨i29,aiO,hy0,hy1,hy2⟩:=info_parts aed;have hvg:∀g,v5.ownBlock=some g→w7.heap.size≤g∧g<wr.heap.size:=fun g hg=>⟨kX HV5.out hg,TR HV5.out hg⟩
       have HEX:=Lib.hid HE5.out;generalize wr=w10 at *
       go_loopw [75] (fun iv wq=>∃(j:Nat) (v7:Value) (xs:List Value),j≤c.kids.length∧iv=.int .i64 j∧Hid (MP wq w3.heap.size (n+c.ids.length) D')∧Hid (fB wq p [.int .i64 ((k+c.ids.length+dB (c.kids.take j):Nat):Int)]) ∧
         Hid (fB wq o [.int .i64 c.kind,.int .i64 (if c.kind=1 then env c.id else c.id),.string c.name,.int .i64 c.n,v5,.int .i64 c.data.kind,.string c.data.name,.int .i64 c.data.n,.slice b3 c.data.scopes.length d3,.slice b6 c.data.kids.length d6,v7])∧Hid (wq.ownsRow w10.heap.size 29 11 v7 j xs)∧Hid (CX M0 (fun b=>(w0.heap.size≤b∧b<w.heap.size+2)∨b=o∨v7.ownBlock=some b) wq (uM (dh c.ids k env) (k+c.ids.length) (c.kids.take j)) xs)∧Hid (Gr (fun b=>b=p∨b=o) w10 wq)) (fun iv _=>c.kids.length-(intOf iv).toNat)
       case atStart=>exact⟨0,.slice none 0 0,[],by omega,rfl,HM5.out,by rw[List.take_zero]; exact HP5.out,HO5.out,World.ownsRow_nil _ _ _ _,fun q hq=>by simp[uM] at hq,Gr.refl _ _⟩
       case round=>
        obtain⟨j,v7,xs,hj,rfl,HM6,HP6,Jw,Vx,HK6,Kv⟩:=hrel;by_cases hlt:j<c.kids.length
        ·obtain rfl:=HA.out (by omega);obtain⟨vsA,rA,ck⟩:=HKA.out j hlt;have hw:=cell_lt (ck 0 _ (by rw[List.getElem?_eq_getElem (by rw[← rA.1]; exact Nat.zero_lt_succ 10)]));have HRA:=Lib.hid rA;obtain⟨x5,y4,y5,x7,rfl,r5,rd5,r7⟩:=Eu rA;obtain⟨g5,i5,rfl⟩:=iO r5;obtain⟨g7,i7,rfl⟩:=iO r7;obtain⟨s3,t3,s6,t6,e6⟩:=Jt rd5;simp only[List.cons.injEq,true_and,and_true] at e6;obtain⟨rfl,rfl⟩:=e6;have hck:=fun jj x hx=>Kv.out.cell (g:=A1) (by rintro (h | h) <;> omega) (KO.out.cell (g:=A1) (by rintro (h | h | h) <;> omega) ((HW7.out.cell (p:=⟨A1,A2+j*11+jj,none⟩) hw).trans (ck jj x hx)));have Qw:=Lib.hid hck;clear hck ck r5 rd5 r7 rA;have ck0:wr.cell? ⟨A1,A2+j*11,none⟩=_:=Qw.out 0 _ rfl;have ck1:wr.cell? ⟨A1,A2+j*11+1,none⟩=_:=Qw.out 1 _ rfl;have ck2:wr.cell? ⟨A1,A2+j*11+2,none⟩=_:=Qw.out 2 _ rfl;have ck3:wr.cell? ⟨A1,A2+j*11+3,none⟩=_:=Qw.out 3 _ rfl;have ck4:wr.cell? ⟨A1,A2+j*11+4,none⟩=_:=Qw.out 4 _ rfl;have ck5:wr.cell? ⟨A1,A2+j*11+5,none⟩=_:=Qw.out 5 _ rfl;have ck6:wr.cell? ⟨A1,A2+j*11+6,none⟩=_:=Qw.out 6 _ rfl;have ck7:wr.cell? ⟨A1,A2+j*11+7,none⟩=_:=Qw.out 7 _ rfl;have ck8:wr.cell? ⟨A1,A2+j*11+8,none⟩=_:=Qw.out 8 _ rfl;have ck9:wr.cell? ⟨A1,A2+j*11+9,none⟩=_:=Qw.out 9 _ rfl;have aiT:wr.cell? ⟨A1,A2+j*11+10,none⟩=_:=Qw.out 10 _ rfl;obtain⟨z10,Zp⟩:=Jw.out 10 _ rfl;have hap:c.kids.take (j+1)=c.kids.take j++[c.kids[j]]:=List.take_succ_eq_append_getElem hlt;have HAP:=Lib.hid hap;have HX:=Lib.hid (HKS.out _ (List.getElem_mem hlt));clear hap
         go_upto_block 5 with (fail)
         go_cut [14] from 77 to 87 (fun t14 wx=>∃(Zq:Value) (xs':List Value),Hid (MP wx w3.heap.size (n+c.ids.length) D')∧Hid (fB wx p [.int .i64 ((k+c.ids.length+dB (c.kids.take (j+1)):Nat):Int)]) ∧
          Hid (fB wx o [.int .i64 c.kind,.int .i64 (if c.kind=1 then env c.id else c.id),.string c.name,.int .i64 c.n,v5,.int .i64 c.data.kind,.string c.data.name,.int .i64 c.data.n,.slice b3 c.data.scopes.length d3,.slice b6 c.data.kids.length d6,Zq])∧Hid (wx.ownsRow w10.heap.size 29 11 Zq (j+1) xs')∧Hid (CX M0 (fun b=>(w0.heap.size≤b∧b<w.heap.size+2)∨b=o∨Zq.ownBlock=some b) wx (uM (dh c.ids k env) (k+c.ids.length) (c.kids.take (j+1))) xs')∧Hid (Gr (fun b=>b=p∨b=o) w10 wx))
         case first=>
          go_wp2_with fail
          have hT:=fB.new wr [.int .i64 c.kids[j].kind,.int .i64 c.kids[j].id,.string c.kids[j].name,.int .i64 c.kids[j].n,.slice g5 (cO c.kids[j].ids).length i5,.int .i64 c.kids[j].data.kind,.string c.kids[j].data.name,.int .i64 c.kids[j].data.n,.slice s3 c.kids[j].data.scopes.length t3,.slice s6 c.kids[j].data.kids.length t6,.slice g7 (dP c.kids[j].kids).length i7] 29;have GA:Gr (fun _=>False) wr (wr.alloc (.cells #[.int .i64 c.kids[j].kind,.int .i64 c.kids[j].id,.string c.kids[j].name,.int .i64 c.kids[j].n,.slice g5 (cO c.kids[j].ids).length i5,.int .i64 c.kids[j].data.kind,.string c.kids[j].data.name,.int .i64 c.kids[j].data.n,.slice s3 c.kids[j].data.scopes.length t3,.slice s6 c.kids[j].data.kids.length t6,.slice g7 (dP c.kids[j].kids).length i7] 29)):=Gr.alloc wr _;have hs11:(wr.alloc (.cells #[.int .i64 c.kids[j].kind,.int .i64 c.kids[j].id,.string c.kids[j].name,.int .i64 c.kids[j].n,.slice g5 (cO c.kids[j].ids).length i5,.int .i64 c.kids[j].data.kind,.string c.kids[j].data.name,.int .i64 c.kids[j].data.n,.slice s3 c.kids[j].data.scopes.length t3,.slice s6 c.kids[j].data.kids.length t6,.slice g7 (dP c.kids[j].kids).length i7] 29)).heap.size=wr.heap.size+1:=by simp
          have als:o<wr.heap.size:=cell_lt z10;have hpl':p<wr.heap.size:=cell_lt (HP6.out 0 _ rfl).1;have TT:Below w0.heap.size w0 wr:=⟨Kv.out.os.trans (KO.out.os.trans HW7.out.os),Kv.out.tape.trans (KO.out.tape.trans HW7.out.tape),Kv.out.output.trans (KO.out.output.trans HW7.out.output),by have:=Kv.out.size; have:=KO.out.size; have:=HW7.out.size; omega,fun b hb=>((Kv.out.block b (by have:=KO.out.size; have:=HW7.out.size; omega) (by omega)).trans (KO.out.block b (by have:=HW7.out.size; omega) (by omega))).trans (HW7.out.block b hb)⟩
          have hwB:w0.heap.size≤wr.heap.size:=TT.size;have HT:=Lib.hid hT;have Qx:=Lib.hid GA;have HBw:=Lib.hid (TT.trans (((Below.refl _ wr).alloc hwB (.cells #[.int .i64 c.kids[j].kind,.int .i64 c.kids[j].id,.string c.kids[j].name,.int .i64 c.kids[j].n,.slice g5 (cO c.kids[j].ids).length i5,.int .i64 c.kids[j].data.kind,.string c.kids[j].data.name,.int .i64 c.kids[j].data.n,.slice s3 c.kids[j].data.scopes.length t3,.slice s6 c.kids[j].data.kids.length t6,.slice g7 (dP c.kids[j].kids).length i7] 29))));have alu:w3.heap.size<wr.heap.size:=HM6.out.lt;have hkn:=Jv c.kids j hlt;have hcq:=Vs c;have hcl:=MG c.kids;have hnn:=HN.out;have akF:w10.heap.size≤wr.heap.size:=Kv.out.size;clear TT hwB hT GA ck0 ck1 ck2 ck3 ck4 ck5 ck6 ck7 ck8 ck9 aiT z10 Zp m6 m4;generalize wr.alloc (.cells #[.int .i64 c.kids[j].kind,.int .i64 c.kids[j].id,.string c.kids[j].name,.int .i64 c.kids[j].n,.slice g5 (cO c.kids[j].ids).length i5,.int .i64 c.kids[j].data.kind,.string c.kids[j].data.name,.int .i64 c.kids[j].data.n,.slice s3 c.kids[j].data.scopes.length t3,.slice s6 c.kids[j].data.kids.length t6,.slice g7 (dP c.kids[j].kids).length i7] 29)=N8 at *;obtain⟨kt0,_⟩:=HT.out 0 _ rfl;obtain⟨kt1,_⟩:=HT.out 1 _ rfl;obtain⟨kt2,_⟩:=HT.out 2 _ rfl;obtain⟨kt3,_⟩:=HT.out 3 _ rfl;obtain⟨kt4,_⟩:=HT.out 4 _ rfl;obtain⟨kt5,_⟩:=HT.out 5 _ rfl;obtain⟨kt6,_⟩:=HT.out 6 _ rfl;obtain⟨kt7,_⟩:=HT.out 7 _ rfl;obtain⟨kt8,_⟩:=HT.out 8 _ rfl;obtain⟨kt9,_⟩:=HT.out 9 _ rfl;obtain⟨alB,_⟩:=HT.out 10 _ rfl;obtain⟨z10,Zp⟩:=(Qx.out.row (fun h=>h) Jw.out) 10 _ rfl
          go_region_law (first
           | (
            go_simp
            go_at_call 25
            refine Calls.mono (HX.out w0 HM0.out [.int .i64 c.kids[j].kind,.int .i64 c.kids[j].id,.string c.kids[j].name,.int .i64 c.kids[j].n,.slice g5 (cO c.kids[j].ids).length i5,.int .i64 c.kids[j].data.kind,.string c.kids[j].data.name,.int .i64 c.kids[j].data.n,.slice s3 c.kids[j].data.scopes.length t3,.slice s6 c.kids[j].data.kids.length t6,.slice g7 (dP c.kids[j].kids).length i7] (some w3.heap.size) (n+c.ids.length) D' (dh c.ids k env) (k+c.ids.length+dB (c.kids.take j)) p _ HRA.out ?_ HLp.out ?_ ?_ ?_ ?_ HEX.out ?_ ?_ ?_) ?_
            ·first | exact HBw.out | exact HBw.out.drew
            ·exact fun y x hx=>Qx.out.row (fun h=>h) HP6.out y x hx
            ·exact .inr ⟨_,rfl,Qx.out.mp (fun h=>h) HM6.out⟩
            ·intro b hb; cases hb; omega
            ·intro h; cases h
            ·omega
            ·omega
            ·exact HGB.out _ _ (by have:=Qx.out.size; have:=Kv.out.size; have:=KO.out.size; have:=HB7.out.size; show w.heap.size≤N8.heap.size; omega) HG.out
            rintro e w12 ⟨vs2,rfl,hR,agv,agw⟩;obtain⟨x5,y4,y5,x7,rfl,r5,rd5,r7⟩:=Eu hR;obtain⟨l5,m5,rfl⟩:=iO r5;obtain⟨l7,m7,rfl⟩:=iO r7;obtain⟨l3,m3,l6,m6,e6⟩:=Jt rd5;simp only[List.cons.injEq,true_and,and_true] at e6;obtain⟨rfl,rfl⟩:=e6;clear r5 rd5 r7;have ael:=Lib.hid hR;have N9:=Lib.hid agv;have aiU:=Lib.hid agw;have TU:fB w12 o _:=N9.out.row (g:=o) (by omega) (fun y x hx=>Qx.out.row (fun h=>h) Jw.out y x hx);obtain⟨Zr,agx⟩:=TU 10 _ rfl;have aem:=Lib.hid TU;have Jy:=Lib.hid (N9.out.own (Qx.out.own Vx.out (fun _ _ h=>h)) (fun g hg=>by have:=kX Vx.out hg; have:=KO.out.size; omega));have aeh:N8.heap.size≤w12.heap.size:=N9.out.size;have zB:(w12.alloc (.cells #[.int .i64 (aT (dh c.ids k env) (k+c.ids.length+dB (c.kids.take j)) c.kids[j]).kind,.int .i64 (aT (dh c.ids k env) (k+c.ids.length+dB (c.kids.take j)) c.kids[j]).id,.string (aT (dh c.ids k env) (k+c.ids.length+dB (c.kids.take j)) c.kids[j]).name,.int .i64 (aT (dh c.ids k env) (k+c.ids.length+dB (c.kids.take j)) c.kids[j]).n,.slice l5 (cO (aT (dh c.ids k env) (k+c.ids.length+dB (c.kids.take j)) c.kids[j]).ids).length m5,.int .i64 (aT (dh c.ids k env) (k+c.ids.length+dB (c.kids.take j)) c.kids[j]).data.kind,.string (aT (dh c.ids k env) (k+c.ids.length+dB (c.kids.take j)) c.kids[j]).data.name,.int .i64 (aT (dh c.ids k env) (k+c.ids.length+dB (c.kids.take j)) c.kids[j]).data.n,.slice l3 (aT (dh c.ids k env) (k+c.ids.length+dB (c.kids.take j)) c.kids[j]).data.scopes.length m3,.slice l6 (aT (dh c.ids k env) (k+c.ids.length+dB (c.kids.take j)) c.kids[j]).data.kids.length m6,.slice l7 (dP (aT (dh c.ids k env) (k+c.ids.length+dB (c.kids.take j)) c.kids[j]).kids).length m7] 29)).cell? ⟨o,10,none⟩=some v7:=(((Below.refl _ w12).alloc (Nat.le_refl _) _).cell (p:=⟨o,10,none⟩) (cell_lt Zr)).trans Zr;clear hR agv agw TU)
           | (
            refine step_append_lies _ (by rfl) _ _ _ (by rfl) w10.heap.size 29 i29 _ 11 168 Go.Proofs.Tryz.underlying27 aiO hy0 hy1 hy2 rfl (by omega) v7 j xs (by rfl) (by first | exact((Jy.out.alloc _).drew) | exact(Jy.out.alloc _) | exact(Jy.out.drew.alloc _)) ⟨w12.heap.size,0,none⟩ 1 1 [.int .i64 (aT (dh c.ids k env) (k+c.ids.length+dB (c.kids.take j)) c.kids[j]).kind,.int .i64 (aT (dh c.ids k env) (k+c.ids.length+dB (c.kids.take j)) c.kids[j]).id,.string (aT (dh c.ids k env) (k+c.ids.length+dB (c.kids.take j)) c.kids[j]).name,.int .i64 (aT (dh c.ids k env) (k+c.ids.length+dB (c.kids.take j)) c.kids[j]).n,.slice l5 (cO (aT (dh c.ids k env) (k+c.ids.length+dB (c.kids.take j)) c.kids[j]).ids).length m5,.int .i64 (aT (dh c.ids k env) (k+c.ids.length+dB (c.kids.take j)) c.kids[j]).data.kind,.string (aT (dh c.ids k env) (k+c.ids.length+dB (c.kids.take j)) c.kids[j]).data.name,.int .i64 (aT (dh c.ids k env) (k+c.ids.length+dB (c.kids.take j)) c.kids[j]).data.n,.slice l3 (aT (dh c.ids k env) (k+c.ids.length+dB (c.kids.take j)) c.kids[j]).data.scopes.length m3,.slice l6 (aT (dh c.ids k env) (k+c.ids.length+dB (c.kids.take j)) c.kids[j]).data.kids.length m6,.slice l7 (dP (aT (dh c.ids k env) (k+c.ids.length+dB (c.kids.take j)) c.kids[j]).kids).length m7] (by rfl) (by rfl) (World.news_of_block (cs:=#[.int .i64 (aT (dh c.ids k env) (k+c.ids.length+dB (c.kids.take j)) c.kids[j]).kind,.int .i64 (aT (dh c.ids k env) (k+c.ids.length+dB (c.kids.take j)) c.kids[j]).id,.string (aT (dh c.ids k env) (k+c.ids.length+dB (c.kids.take j)) c.kids[j]).name,.int .i64 (aT (dh c.ids k env) (k+c.ids.length+dB (c.kids.take j)) c.kids[j]).n,.slice l5 (cO (aT (dh c.ids k env) (k+c.ids.length+dB (c.kids.take j)) c.kids[j]).ids).length m5,.int .i64 (aT (dh c.ids k env) (k+c.ids.length+dB (c.kids.take j)) c.kids[j]).data.kind,.string (aT (dh c.ids k env) (k+c.ids.length+dB (c.kids.take j)) c.kids[j]).data.name,.int .i64 (aT (dh c.ids k env) (k+c.ids.length+dB (c.kids.take j)) c.kids[j]).data.n,.slice l3 (aT (dh c.ids k env) (k+c.ids.length+dB (c.kids.take j)) c.kids[j]).data.scopes.length m3,.slice l6 (aT (dh c.ids k env) (k+c.ids.length+dB (c.kids.take j)) c.kids[j]).data.kids.length m6,.slice l7 (dP (aT (dh c.ids k env) (k+c.ids.length+dB (c.kids.take j)) c.kids[j]).kids).length m7]) (t:=29) (fr:=(0,0)) (heap_alloc_new w12 _)) (by simp[Value.oneCell']) (by omega) (by unfold maxLen; omega) (by omega) (by simp; omega) (w12.heap.size+1) (by simp) ?_;intro gg cap TV Jz Zt Qy agy;have TW:fB TV o _:=(Gr.pR Zt).row (g:=o) (fun e=>by have:=kX Jy.out e.symm; have:=KO.out.size; omega) (fun y x hj=>(aem.out.alloc _) y x hj);obtain⟨aiV,agz⟩:=TW 10 _ rfl;have aen:=Lib.hid TW;clear TW)
           )
          all_goals (go_wp2_with fail)
          all_goals go_meet
          all_goals
           have hge:∀b,v7.ownBlock=some b→w10.heap.size≤b:=fun b hb=>kX Jy.out hb;have hgl:∀b,v7.ownBlock=some b→b<wr.heap.size:=fun b hb=>TR Vx.out hb;have alC:w7.heap.size≤w10.heap.size:=KO.out.size;have aeo:Gr (fun b=>some b=v7.ownBlock) w12 TV:=(Gr.alloc w12 _).trans (Gr.pR Zt);have Gs:Gr (fun b=>b=o) TV (TV.setCell ⟨o,10,none⟩ (.slice (some ⟨gg,0,none⟩) (j+1) cap)):=Gr.setCell TV ⟨o,10,none⟩ _;have Xu:Gr (fun b=>some b=v7.ownBlock∨b=o) w12 (TV.setCell ⟨o,10,none⟩ (.slice (some ⟨gg,0,none⟩) (j+1) cap)):=(aeo.mono fun b _ h=>.inl h).trans (Gs.mono fun b _ h=>.inr h);have Xv:Gr (fun b=>b=p∨some b=v7.ownBlock∨b=o) wr (TV.setCell ⟨o,10,none⟩ (.slice (some ⟨gg,0,none⟩) (j+1) cap)):=((Qx.out.drew.mono (T:=fun b=>b=p∨some b=v7.ownBlock∨b=o) fun b _ h=>h.elim).trans (N9.out.mono (T:=fun b=>b=p∨some b=v7.ownBlock∨b=o) fun b _ h=>Or.inl h)).trans (Xu.mono fun b _ h=>Or.inr h);have hgg:w10.heap.size≤gg:=kX Jz rfl;refine⟨.slice (some ⟨gg,0,none⟩) (j+1) cap,xs++[.int .i64 (aT (dh c.ids k env) (k+c.ids.length+dB (c.kids.take j)) c.kids[j]).kind,.int .i64 (aT (dh c.ids k env) (k+c.ids.length+dB (c.kids.take j)) c.kids[j]).id,.string (aT (dh c.ids k env) (k+c.ids.length+dB (c.kids.take j)) c.kids[j]).name,.int .i64 (aT (dh c.ids k env) (k+c.ids.length+dB (c.kids.take j)) c.kids[j]).n,.slice l5 (cO (aT (dh c.ids k env) (k+c.ids.length+dB (c.kids.take j)) c.kids[j]).ids).length m5,.int .i64 (aT (dh c.ids k env) (k+c.ids.length+dB (c.kids.take j)) c.kids[j]).data.kind,.string (aT (dh c.ids k env) (k+c.ids.length+dB (c.kids.take j)) c.kids[j]).data.name,.int .i64 (aT (dh c.ids k env) (k+c.ids.length+dB (c.kids.take j)) c.kids[j]).data.n,.slice l3 (aT (dh c.ids k env) (k+c.ids.length+dB (c.kids.take j)) c.kids[j]).data.scopes.length m3,.slice l6 (aT (dh c.ids k env) (k+c.ids.length+dB (c.kids.take j)) c.kids[j]).data.kids.length m6,.slice l7 (dP (aT (dh c.ids k env) (k+c.ids.length+dB (c.kids.take j)) c.kids[j]).kids).length m7],?_,?_,?_,?_,?_,?_⟩
           ·exact Xv.mp (by rintro (h | h | h) <;> first | omega | (have:=hge _ h.symm; omega)) HM6.out
           ·rw[HAP.out,Js,← Nat.add_assoc];exact Xu.row (by rintro (h | h) <;> first | omega | (have:=hge _ h.symm; omega)) aiU.out
           ·exact aen.out.set (o:=10) (by simp) _
           ·exact Gs.own Jz (fun g e=>by cases e; show ¬gg=o; omega)
           ·rw[HAP.out,Jr];refine CX.snoc (HK6.out.keep Xv (fun b hb h=>?_) (fun b hb h=>?_)) ?_ (FB ael.out (qx _ _) Xu (fun b hb h=>?_) (fun b hb h=>?_))
            ·rcases h with h | h | h
             ·exact .inl (by omega)
             ·exact .inr (.inr h.symm)
             ·exact .inr (.inl h)
            ·rcases h with h | h | h
             ·exact .inl h
             ·exact .inr (.inl h)
             ·have e:gg=b:=by simpa [Value.ownBlock] using h
              subst e;rcases Qy with h' | h'
              ·exact .inr (.inr h')
              ·omega
            ·rw[Vx.out.1,yI,List.length_take,Nat.min_eq_left hj]
            ·rcases h with h | h
             ·have:=hge _ h.symm; have:=hgl _ h.symm; exact⟨by omega,by show b<N8.heap.size; omega⟩
             ·exact⟨by omega,by show b<N8.heap.size; omega⟩
            ·rcases h with h | h | h
             ·exact⟨h.1,by show b<N8.heap.size; omega⟩
             ·exact⟨by omega,by show b<N8.heap.size; omega⟩
             ·have e:gg=b:=by simpa [Value.ownBlock] using h
              subst e;rcases Qy with h' | h'
              ·have:=hgl _ h'; exact⟨by omega,by show gg<N8.heap.size; omega⟩
              ·omega
           ·exact Kv.out.trans' Xv (fun b hb h=>by
             rcases h with h | h | h
             ·exact .inl h
             ·have:=hge _ h.symm; omega
             ·exact .inr h)
         case rest=>
          obtain⟨Zq,xs',HM9,HP9,HO9,HV9,HK9,HG9⟩:=hcut;generalize wc=N8 at *
          go_wp2_with fail
          exact⟨⟨j+1,Zq,xs',by omega,by simp,HM9.out,HP9.out,HO9.out,HV9.out,HK9.out,HG9.out⟩,by simp[intOf]; omega⟩
        ·obtain rfl:j=c.kids.length:=by omega
         rw[List.take_length] at HP6 HK6;have KP:=Kv.out.row (g:=w.heap.size+1) (by rintro (h | h) <;> omega) (KO.out.row (g:=w.heap.size+1) (by rintro (h | h | h) <;> omega) HZ7.out);generalize hI':(if c.kind=1 then env c.id else c.id)=id' at *;have HI':=Lib.hid hI';clear hI';obtain⟨a5',q5',rfl⟩:=FC HV5.out;obtain⟨a7',q7',rfl⟩:=FC Vx.out;have GL:=Lib.hid KP;obtain⟨g0,_⟩:=Jw.out 0 _ rfl;obtain⟨h0,e0⟩:=KP 0 _ rfl;obtain⟨g1,_⟩:=Jw.out 1 _ rfl;obtain⟨h1,e1⟩:=KP 1 _ rfl;obtain⟨g2,_⟩:=Jw.out 2 _ rfl;obtain⟨h2,e2⟩:=KP 2 _ rfl;obtain⟨g3,_⟩:=Jw.out 3 _ rfl;obtain⟨h3,e3⟩:=KP 3 _ rfl;obtain⟨g4,_⟩:=Jw.out 4 _ rfl;obtain⟨h4,e4⟩:=KP 4 _ rfl;obtain⟨g5,_⟩:=Jw.out 5 _ rfl;obtain⟨h5,e5⟩:=KP 5 _ rfl;obtain⟨g6,_⟩:=Jw.out 6 _ rfl;obtain⟨h6,e6⟩:=KP 6 _ rfl;obtain⟨g7,_⟩:=Jw.out 7 _ rfl;obtain⟨h7,e7⟩:=KP 7 _ rfl;obtain⟨g8,_⟩:=Jw.out 8 _ rfl;obtain⟨h8,e8⟩:=KP 8 _ rfl;obtain⟨g9,_⟩:=Jw.out 9 _ rfl;obtain⟨h9,e9⟩:=KP 9 _ rfl;obtain⟨g10,_⟩:=Jw.out 10 _ rfl;obtain⟨h10,e10⟩:=KP 10 _ rfl;clear KP
         go_wp2_with fail
         refine bodyPost_ret (v:=.agg #[.int .i64 c.kind,.int .i64 id',.string c.name,.int .i64 c.n,.slice a5' c.ids.length q5',.int .i64 c.data.kind,.string c.data.name,.int .i64 c.data.n,.slice b3 c.data.scopes.length d3,.slice b6 c.data.kids.length d6,.slice a7' c.kids.length q7']) (by simp[results,Go.Proofs.Tryz.results25,go_sem,h0,h1,h2,h3,h4,h5,h6,h7,h8,h9,h10]) rfl ⟨#[.int .i64 c.kind,.int .i64 id',.string c.name,.int .i64 c.n,.slice a5' c.ids.length q5',.int .i64 c.data.kind,.string c.data.name,.int .i64 c.data.n,.slice b3 c.data.scopes.length d3,.slice b6 c.data.kids.length d6,.slice a7' c.kids.length q7'].toList,rfl,?_⟩;have GE:Gr (fun i=>i=w.heap.size+1) wr _:=((((((((((((Gr.refl _ wr).trans (Gr.setCell _ ⟨w.heap.size+1,0,none⟩ (.int .i64 c.kind))).trans (Gr.setCell _ ⟨w.heap.size+1,1,none⟩ (.int .i64 id'))).trans (Gr.setCell _ ⟨w.heap.size+1,2,none⟩ (.string c.name))).trans (Gr.setCell _ ⟨w.heap.size+1,3,none⟩ (.int .i64 c.n))).trans (Gr.setCell _ ⟨w.heap.size+1,4,none⟩ (.slice a5' c.ids.length q5'))).trans (Gr.setCell _ ⟨w.heap.size+1,5,none⟩ (.int .i64 c.data.kind))).trans (Gr.setCell _ ⟨w.heap.size+1,6,none⟩ (.string c.data.name))).trans (Gr.setCell _ ⟨w.heap.size+1,7,none⟩ (.int .i64 c.data.n))).trans (Gr.setCell _ ⟨w.heap.size+1,8,none⟩ (.slice b3 c.data.scopes.length d3))).trans (Gr.setCell _ ⟨w.heap.size+1,9,none⟩ (.slice b6 c.data.kids.length d6))).trans (Gr.setCell _ ⟨w.heap.size+1,10,none⟩ (.slice a7' c.kids.length q7')))
         have GW:=Kv.out.mono (T:=fun b=>b=p∨b=o∨b=w.heap.size+1) (fun b _ h=>by omega);have GX:=GW.trans (GE.mono fun b _ h=>.inr (.inr h));have v7g:∀g,(Value.slice a7' c.kids.length q7').ownBlock=some g→w10.heap.size≤g:=fun g hg=>kX Vx.out hg;have hm0:∀g b,w.heap.size+2≤g→¬M0 g b:=fun g b hg h=>by have:=HM0.out g b h; omega
         refine⟨?_,?_,?_⟩
         ·rw[abW,HI'.out];refine Vw (f:=⟨c.kind,id',c.name,c.n,pU k c.ids.length,c.data,uM (dh c.ids k env) (k+c.ids.length) c.kids⟩) ?_ ?_ ?_
          ·exact Zl (GX.own HV5.out (fun g hg=>by have:=kX HV5.out hg; rintro (h | h | h) <;> omega)) (by simp[pU]) (fun g hg o' hM=>by have:=kX HV5.out hg; exact hM.elim (hm0 g _ (by omega)) (fun h=>by omega))
          ·exact FB HR5.out (jD _ _) GX (fun b _ h=>by omega) (fun b _ h=>.inl (by omega))
          ·exact Zm (GE.own Vx.out (fun g hg=>by have:=v7g g hg; have:=KO.out.size; omega)) (HK6.out.keep GE (fun b _ h=>by omega) (fun b _ h=>.inl (by omega))) (yI _ _ _) (fun g hg o' hM=>by have:=v7g g hg; have:=KO.out.size; exact hM.elim (hm0 g _ (by omega)) (fun h=>by omega))
         ·exact((Gr.of_below (S:=fun b=>b=p) HB7.out).trans' KO.out (fun i hi h=>by omega)).trans' GX (fun i hi h=>by omega)
         ·rw[abX,← Nat.add_assoc];exact GE.row (by omega) HP6.out
    ·intro bm kx v w5 cnt1 hmv hwx hwc hlx hat hrg1 hlt hg1 hs1 hen;have hbm:bm<w3.heap.size:=by
      rcases HM3.out with ⟨h,_⟩ | ⟨b',h,h'⟩
      ·rw[hmv] at h; cases h
      ·rw[hmv] at h; cases h; exact h'.lt
     have hout1:=hout.kept hg1 (by simp);have hB1:=HBq.out.grown hg1 (by omega) (fun j hj=>by cases hj; omega);have HB1:=Lib.hid hB1;clear hB1
     go_wp2_with (first
      | (at_mapUpdate; refine wpList_mapUpdate_own _ rfl _ _ _ 65 rfl 3 3 law3 Go.Proofs.Tryz.underlying65 _ w3.heap.size _ _ rfl hout1 (by unfold maxLen; omega) _ _ _ rfl rfl (keyOf_int_mk Go.Proofs.Tryz.underlying3 hwx) _ [] (plainElem_int Go.Proofs.Tryz.underlying3 hwc) ?_; intro w6 hout2 hg2; go_frame)
      | go_in)
     have hrg2:=hrg1.kept hg2 (fun e=>by have:=Option.some.inj e; omega) (fun e=>by have:=Option.some.inj e; omega);have hB2':=HB1.out.grown hg2 (by omega) (fun j hj=>by cases hj; exact Nat.le_refl _);have hsz2:=hg2.size
     go_roundw
     case rel=>exact⟨_,cnt1,_,.inr ⟨bm,hmv,hrg2⟩,by omega,hout2.mono (by omega),agree_step hA hout.isMap trivial hat,hB2',by omega⟩
     case measure=>
      subst hmv;rcases hrg.out with ⟨h,_⟩ | ⟨b',h,h'⟩
      ·cases h
      ·cases h;show w6.rangeLeft bm _<wr.rangeLeft bm _;rw[hrg2.left_eq,h'.left_eq]; exact hlt
end Go.Raw
