/- impl.NumberCore: a valid program with its variables numbered anew. No condition. -/
import Derived.Test.YtacfeklhbbdghaaGreatRenF
namespace Go.Raw
open Go.Mx Go.RowKit Go.Maps
set_option linter.unusedVariables false
set_option maxHeartbeats 1000000
set_option maxRecDepth 100000
inductive Qz (P:List Int→Prop):Mx.Form→Prop
 | mk {f:Mx.Form}:P f.scopes→cntF f<5000000000000→(∀x∈f.kids,Qz P x)→Qz P f
theorem Zv {G:World→Prop} {P:List Int→Prop} (GB:∀w w':World,w.heap.size≤w'.heap.size→G w→G w') (CL:∀l,P l→Oa G l) {f:Mx.Form} (h:Qz P f):Vz G f:=by
 induction h with
 | mk h1 h2 _ ih=>exact Xx GB _ (CL _ h1) h2 ih
theorem Zw {M0:Nat→Nat→Prop} {G:World→Prop} (GM:∀w,G w→∀b o,M0 b o→b<w.heap.size) {f:Mx.Form} (h:Vz G f):ac0 M0 G f:=by
 intro S vs w hr hS hG;refine(h vs w (agi hr (jD _ _)) hG).mono ?_;rintro e w' ⟨us,rfl,h1,h2⟩;exact⟨us,rfl,ab4 h1 (jD _ _) (fun b o _ hm=>GM w hG b o hm) (fun b _ hb=>hS b hb),h2⟩
inductive JB (P:List Int→Prop):Mx.Core→List Int→Prop
 | mk {c:Mx.Core} {sc:List Int}:(c.kind=1→c.id∈sc)→(∀i∈c.ids,(Lit.int .i64 i).wf=true)→Qz P c.data→(∀x∈c.kids,JB P x (sc++c.ids))→JB P c sc
theorem ab5 {M0:Nat→Nat→Prop} {G:World→Prop} {P:List Int→Prop} (GB:∀w w':World,w.heap.size≤w'.heap.size→G w→G w') (GM:∀w,G w→∀b o,M0 b o→b<w.heap.size) (CL:∀l,P l→Oa G l) {c:Mx.Core} {sc:List Int} (h:JB P c sc):aec M0 G c sc:=by
 induction h with
 | mk h1 h2 h3 _ ih=>exact Zo GB _ _ h1 h2 (Zw GM (Zv GB CL h3)) ih
def Zx:List Value:=[.int .i64 0,.int .i64 0,.string ⟨#[]⟩,.int .i64 0,.slice none 0 0,.int .i64 0,.string ⟨#[]⟩,.int .i64 0,.slice none 0 0,.slice none 0 0,.slice none 0 0]
def ai1 (M0:Nat→Nat→Prop) (c:Mx.Core) (w:World) (e:Ending) (w':World):Prop:=
 ∃(vs:List Value) (b:Bool),e=.returned (.tuple #[.agg vs.toArray,.bool b])∧Below w.heap.size w w'∧((zI c≤999∧b=true∧pJ (Jq M0 fun _=>False) w' (jc (aT (fun _=>0) 0 c)) vs)∨(999<zI c∧b=false∧vs=Zx))
theorem TY {M0:Nat→Nat→Prop} {G:World→Prop} {P:List Int→Prop} (GB:∀w w':World,w.heap.size≤w'.heap.size→G w→G w') (GM:∀w,G w→∀b o,M0 b o→b<w.heap.size) (CL:∀l,P l→Oa G l) (c:Mx.Core) (hc:JB P c []) (hn:Fz c<5000000000000)
  (hv:∀(vs:List Value) (w:World),pJ (Jq M0 fun _=>False) w (jc c) vs→G w→Calls Go.Proofs.Tryz.prog 9 #[.agg vs.toArray] w (ad9 (.bool true) w))
  (vs:List Value) (w:World) (hM0:∀b o,M0 b o→b<w.heap.size) (h1:pJ (Jq M0 fun _=>False) w (jc c) vs) (hG:G w):Calls Go.Proofs.Tryz.prog 10 #[.agg vs.toArray] w (ai1 M0 c w):=by
 obtain⟨x5,y4,y5,x7,rfl,r5,rd,r7⟩:=Eu h1;obtain⟨a3,c3,a6,c6,e6⟩:=Jt rd;simp only[List.cons.injEq,true_and,and_true] at e6;obtain⟨rfl,rfl⟩:=e6;obtain⟨a5,c5,rfl⟩:=iO r5;obtain⟨a7,c7,rfl⟩:=iO r7;have H1:=Lib.hid h1;have HM0:=Lib.hid hM0;have HK:=Lib.hid (ab5 GB GM CL hc);have HGB:=Lib.hid GB;have HV:=Lib.hid hv;have HG:=Lib.hid hG;have HN:=Lib.hid hn;have hnn:=Ju c;clear h1 hM0 hc GB hv hG hn r5 rd r7 CL
 go_enter Go.Proofs.Tryz.func10,Go.Proofs.Tryz.ntmps10
 go_wp2_with fail
 have hX1:=(fB.new w [.int .i64 c.kind,.int .i64 c.id,.string c.name,.int .i64 c.n,.slice a5 (cO c.ids).length c5,.int .i64 c.data.kind,.string c.data.name,.int .i64 c.data.n,.slice a3 c.data.scopes.length c3,.slice a6 c.data.kids.length c6,.slice a7 (dP c.kids).length c7] 29).alloc (.cells #[.int .i64 0,.int .i64 0,.string ⟨#[]⟩,.int .i64 0,.slice none 0 0,.int .i64 0,.string ⟨#[]⟩,.int .i64 0,.slice none 0 0,.slice none 0 0,.slice none 0 0] 29);have hX2:=fB.new (w.alloc (.cells #[.int .i64 c.kind,.int .i64 c.id,.string c.name,.int .i64 c.n,.slice a5 (cO c.ids).length c5,.int .i64 c.data.kind,.string c.data.name,.int .i64 c.data.n,.slice a3 c.data.scopes.length c3,.slice a6 c.data.kids.length c6,.slice a7 (dP c.kids).length c7] 29)) [.int .i64 0,.int .i64 0,.string ⟨#[]⟩,.int .i64 0,.slice none 0 0,.int .i64 0,.string ⟨#[]⟩,.int .i64 0,.slice none 0 0,.slice none 0 0,.slice none 0 0] 29;have hB2:Below w.heap.size w ((w.alloc (.cells #[.int .i64 c.kind,.int .i64 c.id,.string c.name,.int .i64 c.n,.slice a5 (cO c.ids).length c5,.int .i64 c.data.kind,.string c.data.name,.int .i64 c.data.n,.slice a3 c.data.scopes.length c3,.slice a6 c.data.kids.length c6,.slice a7 (dP c.kids).length c7] 29)).alloc (.cells #[.int .i64 0,.int .i64 0,.string ⟨#[]⟩,.int .i64 0,.slice none 0 0,.int .i64 0,.string ⟨#[]⟩,.int .i64 0,.slice none 0 0,.slice none 0 0,.slice none 0 0] 29)):=((Below.refl _ _).alloc (Nat.le_refl _) _).alloc (by simp) _;have hs2:((w.alloc (.cells #[.int .i64 c.kind,.int .i64 c.id,.string c.name,.int .i64 c.n,.slice a5 (cO c.ids).length c5,.int .i64 c.data.kind,.string c.data.name,.int .i64 c.data.n,.slice a3 c.data.scopes.length c3,.slice a6 c.data.kids.length c6,.slice a7 (dP c.kids).length c7] 29)).alloc (.cells #[.int .i64 0,.int .i64 0,.string ⟨#[]⟩,.int .i64 0,.slice none 0 0,.int .i64 0,.string ⟨#[]⟩,.int .i64 0,.slice none 0 0,.slice none 0 0,.slice none 0 0] 29)).heap.size=w.heap.size+2:=by simp
 simp only[World.size_alloc] at hX2;have Ku:=Lib.hid hX1;have HX2:=Lib.hid hX2;have HB2:=Lib.hid hB2;clear hX1 hX2 hB2;generalize ((w.alloc (.cells #[.int .i64 c.kind,.int .i64 c.id,.string c.name,.int .i64 c.n,.slice a5 (cO c.ids).length c5,.int .i64 c.data.kind,.string c.data.name,.int .i64 c.data.n,.slice a3 c.data.scopes.length c3,.slice a6 c.data.kids.length c6,.slice a7 (dP c.kids).length c7] 29)).alloc (.cells #[.int .i64 0,.int .i64 0,.string ⟨#[]⟩,.int .i64 0,.slice none 0 0,.int .i64 0,.string ⟨#[]⟩,.int .i64 0,.slice none 0 0,.slice none 0 0,.slice none 0 0] 29))=w1 at *;refine Calls.mono (HV.out _ _ (FB H1.out (qx _ _) (T:=fun _=>False) (.of_below HB2.out) (fun _ _ h=>h.elim) (fun b hb h=>h)) (HGB.out _ _ HB2.out.size HG.out)) ?_;rintro e w3 ⟨rfl,hB3⟩;have HB3:Hid (Below w1.heap.size w1 w3):=hB3;have agD:Below w.heap.size w w3:=HB2.out.trans (hB3.mono HB2.out.size);have JC:=Lib.hid agD;have HY1:Hid (fB w3 w.heap.size _):=Ku.out.below hB3;have HY2:Hid (fB w3 (w.heap.size+1) _):=HX2.out.below hB3;have hs3:w1.heap.size≤w3.heap.size:=hB3.size;clear hB3 agD;have HA:Hid (fB (w3.alloc (.cells #[.int .i64 0] 3)) w.heap.size _):=HY1.out.alloc _;obtain⟨p0,_⟩:=HA.out 0 _ rfl;obtain⟨p1,_⟩:=HA.out 1 _ rfl;obtain⟨p2,_⟩:=HA.out 2 _ rfl;obtain⟨p3,_⟩:=HA.out 3 _ rfl;obtain⟨p4,_⟩:=HA.out 4 _ rfl;obtain⟨p5,_⟩:=HA.out 5 _ rfl;obtain⟨p6,_⟩:=HA.out 6 _ rfl;obtain⟨p7,_⟩:=HA.out 7 _ rfl;obtain⟨p8,_⟩:=HA.out 8 _ rfl;obtain⟨p9,_⟩:=HA.out 9 _ rfl;obtain⟨p10,_⟩:=HA.out 10 _ rfl;have hs4:(w3.alloc (.cells #[.int .i64 0] 3)).heap.size=w3.heap.size+1:=by simp
 have hP4:fB (w3.alloc (.cells #[.int .i64 0] 3)) w3.heap.size [.int .i64 ((0:Nat):Int)]:=fB.new w3 [.int .i64 0] 3;have hB4:Below w3.heap.size w3 (w3.alloc (.cells #[.int .i64 0] 3)):=(Below.refl _ _).alloc (Nat.le_refl _) _;have HB4:=Lib.hid hB4;have HP4:=Lib.hid hP4;clear hP4 hB4
 go_wp2_with fail
 generalize w3.alloc (.cells #[.int .i64 0] 3)=w4 at *;have agE:Hid (Below w.heap.size w w4):=JC.out.trans (HB4.out.mono JC.out.size);refine Calls.mono (HK.out w HM0.out _ none 0 (.map []) (fun _=>0) 0 w3.heap.size _ H1.out agE.out (by have:=JC.out.size; omega) HP4.out (.inl ⟨rfl,rfl⟩) (fun b h=>by cases h) (fun _=>rfl) (fun i h=>by cases h) (by have:=HN.out; omega) (by have:=HN.out; omega) (HGB.out _ _ agE.out.size HG.out)) ?_;rintro e w5 ⟨vs2,rfl,hR,hG5,hP5⟩;obtain⟨x5,y4,y5,x7,rfl,r5,rd5,r7⟩:=Eu hR;obtain⟨l5,m5,rfl⟩:=iO r5;obtain⟨l7,m7,rfl⟩:=iO r7;obtain⟨l3,m3,l6,m6,e6⟩:=Jt rd5;simp only[List.cons.injEq,true_and,and_true] at e6;obtain⟨rfl,rfl⟩:=e6;clear r5 rd5 r7 p0 p1 p2 p3 p4 p5 p6 p7 p8 p9 p10;have HR:=Lib.hid hR;have KO:=Lib.hid hG5;have hs5:w4.heap.size≤w5.heap.size:=hG5.size;have HP5:Hid (fB w5 w3.heap.size _):=hP5;have HZ5:Hid (fB w5 (w.heap.size+1) _):=hG5.row (by omega) (HY2.out.below HB4.out);have HW5:Hid (Below w.heap.size w w5):=⟨hG5.os.trans (HB4.out.os.trans JC.out.os),hG5.tape.trans (HB4.out.tape.trans JC.out.tape),hG5.output.trans (HB4.out.output.trans JC.out.output),by have:=JC.out.size; omega,fun b hb=>((hG5.block b (by omega) (by have:=JC.out.size; omega)).trans (HB4.out.block b (by have:=JC.out.size; omega))).trans (JC.out.block b hb)⟩
 have GA:Gr (fun _=>False) w5 (w5.alloc (.cells #[.int .i64 (aT (fun _=>0) 0 c).kind,.int .i64 (aT (fun _=>0) 0 c).id,.string (aT (fun _=>0) 0 c).name,.int .i64 (aT (fun _=>0) 0 c).n,.slice l5 (cO (aT (fun _=>0) 0 c).ids).length m5,.int .i64 (aT (fun _=>0) 0 c).data.kind,.string (aT (fun _=>0) 0 c).data.name,.int .i64 (aT (fun _=>0) 0 c).data.n,.slice l3 (aT (fun _=>0) 0 c).data.scopes.length m3,.slice l6 (aT (fun _=>0) 0 c).data.kids.length m6,.slice l7 (dP (aT (fun _=>0) 0 c).kids).length m7] 29)):=Gr.alloc w5 _;have HT:Hid (fB (w5.alloc (.cells #[.int .i64 (aT (fun _=>0) 0 c).kind,.int .i64 (aT (fun _=>0) 0 c).id,.string (aT (fun _=>0) 0 c).name,.int .i64 (aT (fun _=>0) 0 c).n,.slice l5 (cO (aT (fun _=>0) 0 c).ids).length m5,.int .i64 (aT (fun _=>0) 0 c).data.kind,.string (aT (fun _=>0) 0 c).data.name,.int .i64 (aT (fun _=>0) 0 c).data.n,.slice l3 (aT (fun _=>0) 0 c).data.scopes.length m3,.slice l6 (aT (fun _=>0) 0 c).data.kids.length m6,.slice l7 (dP (aT (fun _=>0) 0 c).kids).length m7] 29)) w5.heap.size _):=fB.new w5 [.int .i64 (aT (fun _=>0) 0 c).kind,.int .i64 (aT (fun _=>0) 0 c).id,.string (aT (fun _=>0) 0 c).name,.int .i64 (aT (fun _=>0) 0 c).n,.slice l5 (cO (aT (fun _=>0) 0 c).ids).length m5,.int .i64 (aT (fun _=>0) 0 c).data.kind,.string (aT (fun _=>0) 0 c).data.name,.int .i64 (aT (fun _=>0) 0 c).data.n,.slice l3 (aT (fun _=>0) 0 c).data.scopes.length m3,.slice l6 (aT (fun _=>0) 0 c).data.kids.length m6,.slice l7 (dP (aT (fun _=>0) 0 c).kids).length m7] 29;have hs6:(w5.alloc (.cells #[.int .i64 (aT (fun _=>0) 0 c).kind,.int .i64 (aT (fun _=>0) 0 c).id,.string (aT (fun _=>0) 0 c).name,.int .i64 (aT (fun _=>0) 0 c).n,.slice l5 (cO (aT (fun _=>0) 0 c).ids).length m5,.int .i64 (aT (fun _=>0) 0 c).data.kind,.string (aT (fun _=>0) 0 c).data.name,.int .i64 (aT (fun _=>0) 0 c).data.n,.slice l3 (aT (fun _=>0) 0 c).data.scopes.length m3,.slice l6 (aT (fun _=>0) 0 c).data.kids.length m6,.slice l7 (dP (aT (fun _=>0) 0 c).kids).length m7] 29)).heap.size=w5.heap.size+1:=by simp
 have Qx:=Lib.hid GA;clear hR hG5 hP5 GA;obtain⟨q0,_⟩:=(Qx.out.row (fun h=>h) HP5.out) 0 _ rfl;have aer:=JC.out.size;by_cases hgt:999<zI c
 ·have hk:decide (((0+zI c:Nat):Int)>999)=true:=by rw[decide_eq_true_eq]; omega
  have GL:Hid (fB (w5.alloc (.cells #[.int .i64 (aT (fun _=>0) 0 c).kind,.int .i64 (aT (fun _=>0) 0 c).id,.string (aT (fun _=>0) 0 c).name,.int .i64 (aT (fun _=>0) 0 c).n,.slice l5 (cO (aT (fun _=>0) 0 c).ids).length m5,.int .i64 (aT (fun _=>0) 0 c).data.kind,.string (aT (fun _=>0) 0 c).data.name,.int .i64 (aT (fun _=>0) 0 c).data.n,.slice l3 (aT (fun _=>0) 0 c).data.scopes.length m3,.slice l6 (aT (fun _=>0) 0 c).data.kids.length m6,.slice l7 (dP (aT (fun _=>0) 0 c).kids).length m7] 29)) (w.heap.size+1) _):=Qx.out.row (fun h=>h) HZ5.out;obtain⟨z0,e0⟩:=GL.out 0 _ rfl;obtain⟨z1,e1⟩:=GL.out 1 _ rfl;obtain⟨z2,e2⟩:=GL.out 2 _ rfl;obtain⟨z3,e3⟩:=GL.out 3 _ rfl;obtain⟨z4,e4⟩:=GL.out 4 _ rfl;obtain⟨z5,e5⟩:=GL.out 5 _ rfl;obtain⟨z6,e6⟩:=GL.out 6 _ rfl;obtain⟨z7,e7⟩:=GL.out 7 _ rfl;obtain⟨z8,e8⟩:=GL.out 8 _ rfl;obtain⟨z9,e9⟩:=GL.out 9 _ rfl;obtain⟨z10,e10⟩:=GL.out 10 _ rfl
  go_wp2_with fail
  refine bodyPost_ret (v:=.tuple #[.agg #[.int .i64 0,.int .i64 0,.string ⟨#[]⟩,.int .i64 0,.slice none 0 0,.int .i64 0,.string ⟨#[]⟩,.int .i64 0,.slice none 0 0,.slice none 0 0,.slice none 0 0],.bool false]) (by simp[results,Go.Proofs.Tryz.results10,go_sem,z0,z1,z2,z3,z4,z5,z6,z7,z8,z9,z10]) rfl ⟨Zx,false,rfl,?_,.inr ⟨hgt,rfl,rfl⟩⟩;exact((((((((((((HW5.out.alloc HW5.out.size _).setCell (p:=⟨w.heap.size+1,0,none⟩) (Nat.le_succ _) (.int .i64 0)).setCell (p:=⟨w.heap.size+1,1,none⟩) (Nat.le_succ _) (.int .i64 0)).setCell (p:=⟨w.heap.size+1,2,none⟩) (Nat.le_succ _) (.string ⟨#[]⟩)).setCell (p:=⟨w.heap.size+1,3,none⟩) (Nat.le_succ _) (.int .i64 0)).setCell (p:=⟨w.heap.size+1,4,none⟩) (Nat.le_succ _) (.slice none 0 0)).setCell (p:=⟨w.heap.size+1,5,none⟩) (Nat.le_succ _) (.int .i64 0)).setCell (p:=⟨w.heap.size+1,6,none⟩) (Nat.le_succ _) (.string ⟨#[]⟩)).setCell (p:=⟨w.heap.size+1,7,none⟩) (Nat.le_succ _) (.int .i64 0)).setCell (p:=⟨w.heap.size+1,8,none⟩) (Nat.le_succ _) (.slice none 0 0)).setCell (p:=⟨w.heap.size+1,9,none⟩) (Nat.le_succ _) (.slice none 0 0)).setCell (p:=⟨w.heap.size+1,10,none⟩) (Nat.le_succ _) (.slice none 0 0))
 ·have hk:decide (((0+zI c:Nat):Int)>999)=false:=by rw[decide_eq_false_iff_not]; omega
  have GL:Hid (fB (w5.alloc (.cells #[.int .i64 (aT (fun _=>0) 0 c).kind,.int .i64 (aT (fun _=>0) 0 c).id,.string (aT (fun _=>0) 0 c).name,.int .i64 (aT (fun _=>0) 0 c).n,.slice l5 (cO (aT (fun _=>0) 0 c).ids).length m5,.int .i64 (aT (fun _=>0) 0 c).data.kind,.string (aT (fun _=>0) 0 c).data.name,.int .i64 (aT (fun _=>0) 0 c).data.n,.slice l3 (aT (fun _=>0) 0 c).data.scopes.length m3,.slice l6 (aT (fun _=>0) 0 c).data.kids.length m6,.slice l7 (dP (aT (fun _=>0) 0 c).kids).length m7] 29)) (w.heap.size+1) _):=Qx.out.row (fun h=>h) HZ5.out;obtain⟨z0,e0⟩:=GL.out 0 _ rfl;obtain⟨z1,e1⟩:=GL.out 1 _ rfl;obtain⟨z2,e2⟩:=GL.out 2 _ rfl;obtain⟨z3,e3⟩:=GL.out 3 _ rfl;obtain⟨z4,e4⟩:=GL.out 4 _ rfl;obtain⟨z5,e5⟩:=GL.out 5 _ rfl;obtain⟨z6,e6⟩:=GL.out 6 _ rfl;obtain⟨z7,e7⟩:=GL.out 7 _ rfl;obtain⟨z8,e8⟩:=GL.out 8 _ rfl;obtain⟨z9,e9⟩:=GL.out 9 _ rfl;obtain⟨z10,e10⟩:=GL.out 10 _ rfl;obtain⟨t0,_⟩:=HT.out 0 _ rfl;obtain⟨t1,_⟩:=HT.out 1 _ rfl;obtain⟨t2,_⟩:=HT.out 2 _ rfl;obtain⟨t3,_⟩:=HT.out 3 _ rfl;obtain⟨t4,_⟩:=HT.out 4 _ rfl;obtain⟨t5,_⟩:=HT.out 5 _ rfl;obtain⟨t6,_⟩:=HT.out 6 _ rfl;obtain⟨t7,_⟩:=HT.out 7 _ rfl;obtain⟨t8,_⟩:=HT.out 8 _ rfl;obtain⟨t9,_⟩:=HT.out 9 _ rfl;obtain⟨t10,_⟩:=HT.out 10 _ rfl
  go_wp2_with fail
  refine bodyPost_ret (v:=.tuple #[.agg #[.int .i64 (aT (fun _=>0) 0 c).kind,.int .i64 (aT (fun _=>0) 0 c).id,.string (aT (fun _=>0) 0 c).name,.int .i64 (aT (fun _=>0) 0 c).n,.slice l5 (cO (aT (fun _=>0) 0 c).ids).length m5,.int .i64 (aT (fun _=>0) 0 c).data.kind,.string (aT (fun _=>0) 0 c).data.name,.int .i64 (aT (fun _=>0) 0 c).data.n,.slice l3 (aT (fun _=>0) 0 c).data.scopes.length m3,.slice l6 (aT (fun _=>0) 0 c).data.kids.length m6,.slice l7 (dP (aT (fun _=>0) 0 c).kids).length m7],.bool true]) (by simp[results,Go.Proofs.Tryz.results10,go_sem,z0,z1,z2,z3,z4,z5,z6,z7,z8,z9,z10]) rfl ⟨[.int .i64 (aT (fun _=>0) 0 c).kind,.int .i64 (aT (fun _=>0) 0 c).id,.string (aT (fun _=>0) 0 c).name,.int .i64 (aT (fun _=>0) 0 c).n,.slice l5 (cO (aT (fun _=>0) 0 c).ids).length m5,.int .i64 (aT (fun _=>0) 0 c).data.kind,.string (aT (fun _=>0) 0 c).data.name,.int .i64 (aT (fun _=>0) 0 c).data.n,.slice l3 (aT (fun _=>0) 0 c).data.scopes.length m3,.slice l6 (aT (fun _=>0) 0 c).data.kids.length m6,.slice l7 (dP (aT (fun _=>0) 0 c).kids).length m7],true,rfl,?_,.inl ⟨by omega,rfl,?_⟩⟩
  ·exact((((((((((((HW5.out.alloc HW5.out.size _).setCell (p:=⟨w.heap.size+1,0,none⟩) (Nat.le_succ _) (.int .i64 (aT (fun _=>0) 0 c).kind)).setCell (p:=⟨w.heap.size+1,1,none⟩) (Nat.le_succ _) (.int .i64 (aT (fun _=>0) 0 c).id)).setCell (p:=⟨w.heap.size+1,2,none⟩) (Nat.le_succ _) (.string (aT (fun _=>0) 0 c).name)).setCell (p:=⟨w.heap.size+1,3,none⟩) (Nat.le_succ _) (.int .i64 (aT (fun _=>0) 0 c).n)).setCell (p:=⟨w.heap.size+1,4,none⟩) (Nat.le_succ _) (.slice l5 (cO (aT (fun _=>0) 0 c).ids).length m5)).setCell (p:=⟨w.heap.size+1,5,none⟩) (Nat.le_succ _) (.int .i64 (aT (fun _=>0) 0 c).data.kind)).setCell (p:=⟨w.heap.size+1,6,none⟩) (Nat.le_succ _) (.string (aT (fun _=>0) 0 c).data.name)).setCell (p:=⟨w.heap.size+1,7,none⟩) (Nat.le_succ _) (.int .i64 (aT (fun _=>0) 0 c).data.n)).setCell (p:=⟨w.heap.size+1,8,none⟩) (Nat.le_succ _) (.slice l3 (aT (fun _=>0) 0 c).data.scopes.length m3)).setCell (p:=⟨w.heap.size+1,9,none⟩) (Nat.le_succ _) (.slice l6 (aT (fun _=>0) 0 c).data.kids.length m6)).setCell (p:=⟨w.heap.size+1,10,none⟩) (Nat.le_succ _) (.slice l7 (dP (aT (fun _=>0) 0 c).kids).length m7))
  ·exact FB HR.out (qx _ _) ((((((((((((Qx.out.mono (T:=fun b=>b=w.heap.size+1) fun _ _ h=>h.elim).trans (Gr.setCell _ ⟨w.heap.size+1,0,none⟩ (.int .i64 (aT (fun _=>0) 0 c).kind))).trans (Gr.setCell _ ⟨w.heap.size+1,1,none⟩ (.int .i64 (aT (fun _=>0) 0 c).id))).trans (Gr.setCell _ ⟨w.heap.size+1,2,none⟩ (.string (aT (fun _=>0) 0 c).name))).trans (Gr.setCell _ ⟨w.heap.size+1,3,none⟩ (.int .i64 (aT (fun _=>0) 0 c).n))).trans (Gr.setCell _ ⟨w.heap.size+1,4,none⟩ (.slice l5 (cO (aT (fun _=>0) 0 c).ids).length m5))).trans (Gr.setCell _ ⟨w.heap.size+1,5,none⟩ (.int .i64 (aT (fun _=>0) 0 c).data.kind))).trans (Gr.setCell _ ⟨w.heap.size+1,6,none⟩ (.string (aT (fun _=>0) 0 c).data.name))).trans (Gr.setCell _ ⟨w.heap.size+1,7,none⟩ (.int .i64 (aT (fun _=>0) 0 c).data.n))).trans (Gr.setCell _ ⟨w.heap.size+1,8,none⟩ (.slice l3 (aT (fun _=>0) 0 c).data.scopes.length m3))).trans (Gr.setCell _ ⟨w.heap.size+1,9,none⟩ (.slice l6 (aT (fun _=>0) 0 c).data.kids.length m6))).trans (Gr.setCell _ ⟨w.heap.size+1,10,none⟩ (.slice l7 (dP (aT (fun _=>0) 0 c).kids).length m7))) (fun b hb h=>⟨by omega,by have:=HB4.out.size; omega⟩) (fun b hb h=>h.elim)
end Go.Raw
namespace Go.Raw
open Go.Mx Go.RowKit Go.Maps
def zC:Mx.Core:=⟨0,0,⟨#[]⟩,0,[],⟨0,⟨#[]⟩,0,[],[]⟩,[]⟩
theorem Hw {cx:Cx} {w:World} {z:Nat}:Rd cx w (.sl z .ro []) (.slice none 0 0):=
 D5 (0,0) [] (Nat.le_refl _) (Nat.zero_le _) (fun i cs h=>by simp at h) (fun h=>absurd rfl h) (by simp) (fun i j cs d hi=>by simp at hi) trivial
theorem ab6 {cx:Cx} {w:World}:pJ cx w (jc zC) Zx:=Vw (f:=zC) Hw (Vy (f:=⟨0,⟨#[]⟩,0,[],[]⟩) Hw Hw) Hw
theorem QA {E:Setting} (hE:E.P=Go.Proofs.Tryz.prog) {P:List Int→Prop} {c:Mx.Core} (hc:JB P c []) (hn:Fz c<5000000000000) (CL:∀l,P l→∀(v:Value) (w:World),Rd zH w (.sl 1 .ro (cO l)) v→Calls E.P 41 #[v] w (aea l w))
  (CV:∀(vs:List Value) (w:World),pJ zH w (jc c) vs→Calls E.P 9 #[.agg vs.toArray] w (ad9 (.bool true) w)) {cx:Cx} {st:St} {w:World} {vs:List Value} (r:Rel E cx st w) (hr:pJ cx w [.agg (jc c)] vs) :
  Calls E.P 10 vs.toArray w fun e w'=>∃v,e=.returned v∧Below w.heap.size w w'∧Rd cx w' (.dO [.agg (jc (if zI c≤999 then aT (fun _=>0) 0 c else zC)),.v (.bool (decide (zI c≤999)))]) v:=by
 rw[hE] at CL CV ⊢;obtain⟨hl,hv⟩:=hr
 match vs,hl,hv with
 | [x],_,hv=>
  have e1:=hv 0 _ x rfl rfl;cases e1 with
  | @agg _ v1 l1 r1=>
   have hx:pJ (Jq cx.M fun _=>False) w (jc c) v1:=⟨l1,fun j d x hj hx=>(r1 j d x hj hx).Ie (S:=fun _=>false) (bG:=Jq cx.M fun _=>False) ⟨fun _ _ _=>rfl,fun _ _ _ _=>rfl,fun b o _ hm h=>h.elim hm id,fun _ _ h=>(by cases h),fun _ _ _ h=>(by cases h)⟩ (dF (qx _ _) hj)⟩
   refine(TY (M0:=cx.M) (G:=fun w'=>w.heap.size≤w'.heap.size) (fun a b h1 h2=>Nat.le_trans h2 h1) (fun w' h b o hm=>Nat.lt_of_lt_of_le (r.mlt b o hm) h) (fun l hl v w' h1 _=>CL l hl v w' h1) c hc hn (fun us w' h1 _=>CV us w' (agi h1 (qx _ _))) v1 w (fun b o hm=>r.mlt b o hm) hx (Nat.le_refl _)).mono ?_;rintro e w' ⟨us,b,rfl,hb,h⟩;refine⟨_,rfl,hb,?_⟩;have key:∀{cc:Mx.Core} {us:List Value} {b:Bool},pJ cx w' (jc cc) us→Rd cx w' (.dO [.agg (jc cc),.v (.bool b)]) (.tuple #[.agg us.toArray,.bool b]):=fun {cc us b} h=>by
    refine .dO (vs:=[.agg us.toArray,.bool b]) rfl fun j d x hd hx=>?_
    match j,hd,hx with
    | 0,hd,hx=>cases hd; cases hx; exact .agg h.1 h.2
    | 1,hd,hx=>cases hd; cases hx; exact .v _
    | j+2,hd,hx=>simp at hd
   rcases h with ⟨h1,rfl,h3⟩ | ⟨h1,rfl,rfl⟩
   ·rw[if_pos h1,decide_eq_true h1];exact key ⟨h3.1,fun j d x hj hx=>(h3.2 j d x hj hx).Ie (S:=fun _=>false) (bG:=cx) ⟨fun _ _ _=>rfl,fun _ _ _ _=>rfl,fun b o _ hm h=>hm (Or.inl h),fun _ _ h=>(by cases h),fun _ _ _ h=>(by cases h)⟩ (dF (qx _ _) hj)⟩
   ·rw[if_neg (by omega),decide_eq_false (by omega)];exact key ab6
end Go.Raw
namespace Go.Mx
open Go.RowKit
theorem aF.Zy {E : Setting} {g : Nat} {fn : Func} {c : Code} {args : List ED} {d : ED} (hf : E.P.funcs[g]? = some fn) (hb : fn.body = some c) (hn : (fn.name == "runtime.NumGoroutine") = false)
  (h:∀κ cx st w vs,Rel E cx st w→pJ cx w (ED.DL κ args) vs→Calls E.P g vs.toArray w fun e w'=>∃v,e=.returned v∧Below w.heap.size w w'∧Rd cx w' (d.D κ) v):aF E g args [] d []:=by
 refine⟨⟨fn,c,hf,hb,hn⟩,fun ks low K hl hk hK=>?_⟩;intro cx w xs hr hx;refine(h _ _ _ w xs hr hx).mono ?_;rintro e w' ⟨v,rfl,hb',hv⟩;obtain⟨r1,r2⟩:=hr.below hb';exact⟨_,_,cx,v,rfl,hK,rfl,r1,hv,r2⟩
end Go.Mx
namespace Go.Ev
mutual
def O8:Core→Nat
 | ⟨_,_,_,_,ids,_,kids⟩=>ids.length+KQ kids
def KQ:List Core→Nat
 | []=>0
 | x::r=>O8 x+KQ r
end
mutual
def DF (env:Int→Int) (n:Nat):Core→Core
 | ⟨k,id,nm,v,ids,dt,kids⟩=>⟨k,if k=1 then env id else id,nm,v,Raw.pU n ids.length,dt,wo (Raw.dh ids n env) (n+ids.length) kids⟩
def wo (env:Int→Int) (n:Nat):List Core→List Core
 | []=>[]
 | x::r=>DF env n x::wo env (n+O8 x) r
end
mutual
theorem JD:∀c:Mx.Core,O8 (toC c)=Raw.zI c
 | ⟨k,id,nm,v,ids,dt,kids⟩=>by simp only[toC,O8,Raw.zI,VA kids]
theorem VA:∀l:List Mx.Core,KQ (BZ l)=Raw.dB l
 | []=>rfl
 | x::r=>by simp only[BZ,KQ,Raw.dB,JD x,VA r]
end
mutual
theorem Zz:∀(c:Mx.Core) (env:Int→Int) (n:Nat),toC (Raw.aT env n c)=DF env n (toC c)
 | ⟨k,id,nm,v,ids,dt,kids⟩,env,n=>by simp only[Raw.aT,toC,DF,VB kids]
theorem VB:∀(l:List Mx.Core) (env:Int→Int) (n:Nat),BZ (Raw.uM env n l)=wo env n (BZ l)
 | [],_,_=>rfl
 | x::r,env,n=>by simp only[Raw.uM,BZ,wo,Zz x,VB r,JD x]
end
end Go.Ev
