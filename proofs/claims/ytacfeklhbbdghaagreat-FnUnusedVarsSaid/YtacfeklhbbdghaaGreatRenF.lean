/- impl.copyForm hands out a new tree. No condition. -/
import Derived.Test.YtacfeklhbbdghaaGreatRenB
namespace Go.Raw
open Go.Mx Go.RowKit Go.Maps
set_option linter.unusedVariables false
set_option maxHeartbeats 1000000
set_option maxRecDepth 100000
abbrev cxS (S:Nat→Prop):Cx:=Jq (fun _ _=>False) S
theorem ab4 {M0:Nat→Nat→Prop} {S S1:Nat→Prop} {w:World} {ds:List D} {vs:List Value} (h:pJ (cxS S1) w ds vs) (hd:allL (fun _=>false) ds=true) (h1:∀b o,b<w.heap.size→M0 b o→S1 b) (h2:∀b,b<w.heap.size→S b→S1 b):pJ (Jq M0 S) w ds vs:=
 ⟨h.1,fun j d x hj hx=>(h.2 j d x hj hx).Ie (S:=fun _=>false) (bG:=Jq M0 S) ⟨fun _ _ _=>rfl,fun _ _ _ _=>rfl,fun b o hb hm hm'=>hm (Or.inr (hm'.elim (h1 b o hb) (h2 b hb))),fun _ _ h=>(by cases h),fun _ _ _ h=>(by cases h)⟩ (dF hd hj)⟩
theorem JA {cx:Cx} {w:World} {base:Nat} {v:Value} {l:List Int} (h:Zi w (Ge base) v l.length (ints l)) (hM:∀g o,base≤g→¬cx.M g o):Rd cx w (.sl 1 .ro (cO l)) v:=by
 obtain⟨a,cap,rfl,h1,h2,h3⟩:=h;have hs:∀(i:Nat) cs,(cO l)[i]? = some cs→cs.length=1:=fun i cs hi=>by
  rw[wQ,Option.map_eq_some_iff] at hi; obtain⟨x,_,rfl⟩:=hi; rfl
 have hc:∀(i j:Nat) cs d,(cO l)[i]? = some cs→cs[j]? = some d→∃y,(ints l)[i*1+j]? = some y∧Rd cx w d y:=fun i j cs d hi hj=>by
  rw[wQ,Option.map_eq_some_iff] at hi; obtain⟨x,hx,rfl⟩:=hi;cases j with
  | zero=>simp at hj; subst hj; exact⟨_,by simp[ints,hx],.v _⟩
  | succ j=>simp at hj
 by_cases hn:ints l=[]
 ·have:l=[]:=by simpa [ints] using hn
  subst this;exact D5 (0,0) [] h1 h2 hs (fun hx=>absurd rfl hx) (by simp) (fun i j cs d hi=>by simp[cO] at hi) trivial
 ·obtain⟨g,o,rfl,hg,hcc⟩:=h3 hn;exact wM (lK l) (g,o) (ints l) h1 h2 hs (fun _=>rfl) (fun q y hq=>⟨(hcc q y hq).1,hM g _ hg⟩) hc trivial
theorem Vy {cx:Cx} {w:World} {f:Mx.Form} {x4 x5:Value} (r4:Rd cx w (.sl 1 .ro (cO f.scopes)) x4) (r5:Rd cx w (.sl 5 .ro (fZ f.kids)) x5):pJ cx w (jV f) [.int .i64 f.kind,.string f.name,.int .i64 f.n,x4,x5]:=by
 refine⟨rfl,fun j d x hd hx=>?_⟩
 match j,hd,hx with
 | 0,hd,hx=>cases hd; cases hx; exact .v _
 | 1,hd,hx=>cases hd; cases hx; exact .v _
 | 2,hd,hx=>cases hd; cases hx; exact .v _
 | 3,hd,hx=>cases hd; cases hx; exact r4
 | 4,hd,hx=>cases hd; cases hx; exact r5
 | j+5,hd,hx=>simp at hx
theorem Zu {cx:Cx} {w:World} {f:Mx.Form} {vs:List Value} (h:pJ cx w (jV f) vs):∃x4 x5,vs=[.int .i64 f.kind,.string f.name,.int .i64 f.n,x4,x5]∧Rd cx w (.sl 1 .ro (cO f.scopes)) x4∧Rd cx w (.sl 5 .ro (fZ f.kids)) x5:=by
 obtain⟨hl,h⟩:=h
 match vs,hl with
 | [x1,x2,x3,x4,x5],_=>
  have h1:=(h 0 _ _ rfl rfl).lY;have h2:=(h 1 _ _ rfl rfl).lY;have h3:=(h 2 _ _ rfl rfl).lY;subst h1 h2 h3;exact⟨x4,x5,rfl,h 3 _ _ rfl rfl,h 4 _ _ rfl rfl⟩
theorem aep {cx:Cx} {w:World} {fs:List Mx.Form} {v:Value} (h:Rd cx w (.sl 5 .ro (fZ fs)) v):∃a cap,v=.slice a fs.length cap∧fs.length≤maxLen∧∃A1 A2,(0<fs.length→a=some ⟨A1,A2,none⟩) ∧
  ∀i,(hi:i<fs.length)→∃vs,pJ cx w (jV fs[i]) vs∧∀(j:Nat) x,vs[j]? = some x→w.cell? ⟨A1,A2+i*5+j,none⟩=some x:=by
 obtain⟨a,cap,rfl,h1,h2,h3,_,A,hA,hc⟩:=oL h;have hl:(fZ fs).length=fs.length:=vX fs;rw[hl] at h1;refine⟨a,cap,by rw[hl],Nat.le_trans h1 h2,A.1,A.2,fun h=>hA (by intro h'; rw[h'] at hl; simp at hl; omega),fun i hi=>?_⟩;have hg:(fZ fs)[i]? = some (jV fs[i]):=by rw[Dj,List.getElem?_eq_getElem hi]; rfl
 have hn:(jV fs[i]).length=5:=rfl;have hf:∀j d,(jV fs[i])[j]? = some d→w.cell? ⟨A.1,A.2+i*5+j,none⟩=some ((w.cell? ⟨A.1,A.2+i*5+j,none⟩).getD (.bool false))∧Rd cx w d ((w.cell? ⟨A.1,A.2+i*5+j,none⟩).getD (.bool false)):=fun j d hd=>by
  obtain⟨y,q,_,r⟩:=hc i j _ _ hg hd;rw[q]; exact⟨rfl,r⟩
 refine⟨(List.range 5).map fun j=>(w.cell? ⟨A.1,A.2+i*5+j,none⟩).getD (.bool false),⟨by simp[hn],fun j d x hd hx=>?_⟩,fun j x hx=>?_⟩
 ·have hj:j<5:=by rw[← hn]; exact(List.getElem?_eq_some_iff.1 hd).1
  simp[hj] at hx;rw[← hx]; exact(hf j d hd).2
 ·have hj:j<5:=by
   have:=(List.getElem?_eq_some_iff.1 hx).1
   simpa using this
  have hd:(jV fs[i])[j]? = some ((jV fs[i])[j]'(by rw[hn]; exact hj)):=List.getElem?_eq_getElem _;simp[hj] at hx;rw[← hx]; exact(hf j _ hd).1
def vZ (S:Nat→Prop) (w:World) (cs:List Mx.Form) (xs:List Value):Prop:=
 ∀q,(hq:q<cs.length)→∃vs,pJ (cxS S) w (jV cs[q]) vs∧∀(j:Nat) x,vs[j]? = some x→xs[q*5+j]? = some x
theorem Xw {S:Nat→Prop} {w:World} {base n:Nat} {v:Value} {cs:List Mx.Form} {xs:List Value} (h:w.ownsRow base 26 5 v n xs) (hk:vZ S w cs xs) (hn:cs.length=n) (hM:∀g,v.ownBlock=some g→∀o,¬(cxS S).M g o) :
  Rd (cxS S) w (.sl 5 .ro (fZ cs)) v:=by
 refine TQ (by decide) h (by rw[vX]; exact hn) (fun i c' hi=>?_) (fun i j c' d hi hj=>?_) hM
 ·rw[Dj,Option.map_eq_some_iff] at hi; obtain⟨x,_,rfl⟩:=hi; rfl
 ·rw[Dj,Option.map_eq_some_iff] at hi; obtain⟨x,hx,rfl⟩:=hi;obtain⟨hlt,rfl⟩:=List.getElem?_eq_some_iff.1 hx;obtain⟨vs,hr,hv⟩:=hk i hlt;obtain⟨y,hy⟩:∃y,vs[j]? = some y:=by
   have h1:=(List.getElem?_eq_some_iff.1 hj).1;rw[hr.1] at h1;exact⟨_,List.getElem?_eq_getElem h1⟩
  exact⟨y,hv j y hy,hr.2 j d y hj hy⟩
theorem vZ.keep {S S' T:Nat→Prop} {w w':World} {cs:List Mx.Form} {xs:List Value} (h:vZ S w cs xs) (g:Gr T w w') (h1:∀b,b<w.heap.size→T b→S b) (h2:∀b,b<w.heap.size→S' b→S b):vZ S' w' cs xs:=fun q hq=>by
 obtain⟨vs,hr,hv⟩:=h q hq;exact⟨vs,FB hr (jD _ _) g h1 h2,hv⟩
theorem vZ.snoc {S:Nat→Prop} {w:World} {cs:List Mx.Form} {xs vs:List Value} {x:Mx.Form} (h:vZ S w cs xs) (hl:xs.length=cs.length*5) (hx:pJ (cxS S) w (jV x) vs):vZ S w (cs++[x]) (xs++vs):=fun q hq=>by
 rcases Nat.lt_or_ge q cs.length with hlt | hge
 ·obtain⟨us,h1,h2⟩:=h q hlt;rw[List.getElem_append_left hlt];exact⟨us,h1,fun jj y hy=>by
   have:=h2 jj y hy;rw[List.getElem?_append_left (List.getElem?_eq_some_iff.1 this).1]; exact this⟩
 ·have:q=cs.length:=by simp at hq; omega
  subst this;refine⟨vs,by simpa using hx,fun jj y hy=>?_⟩;rw[List.getElem?_append_right (by omega),hl,Nat.add_sub_cancel_left];exact hy
theorem info26:(Go.Proofs.Tryz.prog.info? 26).map (fun i=>(i.zero,i.size,i.bytes))=some (some (.agg #[.int .i64 0,.string ⟨#[]⟩,.int .i64 0,.slice none 0 0,.slice none 0 0]),5,80):=by kernel_rfl
def Oa (G:World→Prop) (l:List Int):Prop:=∀(v:Value) (w:World),Rd zH w (.sl 1 .ro (cO l)) v→G w→Calls Go.Proofs.Tryz.prog 41 #[v] w (aea l w)
def agB (f:Mx.Form) (w:World) (e:Ending) (w':World):Prop:=∃vs:List Value,e=.returned (.agg vs.toArray)∧pJ (cxS fun b=>b<w.heap.size) w' (jV f) vs∧Below w.heap.size w w'
def Vz (G:World→Prop) (f:Mx.Form):Prop:=∀(vs:List Value) (w:World),pJ zH w (jV f) vs→G w→Calls Go.Proofs.Tryz.prog 43 #[.agg vs.toArray] w (agB f w)
theorem Xx {G:World→Prop} (GB:∀w w':World,w.heap.size≤w'.heap.size→G w→G w') (f:Mx.Form) (CL:Oa G f.scopes) (hn:cntF f<5000000000000) (KS:∀x∈f.kids,Vz G x):Vz G f:=by
 intro vs w h1 hG;obtain⟨x4,x5,rfl,r4,r5⟩:=Zu h1;obtain⟨a4,c4,rfl⟩:=iO r4;obtain⟨a5,c5,rfl,hm5,A1,A2,hA,hKA⟩:=aep r5;rw[lK] at *;have H1:=Lib.hid h1;have HG:=Lib.hid hG;have HGB:=Lib.hid GB;have HCL:=Lib.hid CL;have HKS:=Lib.hid KS;have HA:=Lib.hid hA;have HKA:=Lib.hid hKA;have HN:=Lib.hid hn;have HR4:=Lib.hid r4;have aio:f.kids.length≤9223372036854775807:=hm5;clear h1 hG GB CL KS hA hKA hn r4 r5 hm5
 go_enter Go.Proofs.Tryz.func43,Go.Proofs.Tryz.ntmps43
 go_wp2_with fail
 have hX1:=(fB.new w [.int .i64 f.kind,.string f.name,.int .i64 f.n,.slice a4 f.scopes.length c4,.slice a5 f.kids.length c5] 26).alloc (.cells #[.int .i64 0,.string ⟨#[]⟩,.int .i64 0,.slice none 0 0,.slice none 0 0] 26);have hX2:=fB.new (w.alloc (.cells #[.int .i64 f.kind,.string f.name,.int .i64 f.n,.slice a4 f.scopes.length c4,.slice a5 f.kids.length c5] 26)) [.int .i64 0,.string ⟨#[]⟩,.int .i64 0,.slice none 0 0,.slice none 0 0] 26;have hB2:Below w.heap.size w ((w.alloc (.cells #[.int .i64 f.kind,.string f.name,.int .i64 f.n,.slice a4 f.scopes.length c4,.slice a5 f.kids.length c5] 26)).alloc (.cells #[.int .i64 0,.string ⟨#[]⟩,.int .i64 0,.slice none 0 0,.slice none 0 0] 26)):=((Below.refl _ _).alloc (Nat.le_refl _) _).alloc (by simp) _;have hs2:((w.alloc (.cells #[.int .i64 f.kind,.string f.name,.int .i64 f.n,.slice a4 f.scopes.length c4,.slice a5 f.kids.length c5] 26)).alloc (.cells #[.int .i64 0,.string ⟨#[]⟩,.int .i64 0,.slice none 0 0,.slice none 0 0] 26)).heap.size=w.heap.size+2:=by simp
 simp only[World.size_alloc] at hX2;have Ku:=Lib.hid hX1;have HX2:=Lib.hid hX2;have HB2:=Lib.hid hB2;have HS2:=Lib.hid hs2;clear hX1 hX2 hB2 hs2;generalize ((w.alloc (.cells #[.int .i64 f.kind,.string f.name,.int .i64 f.n,.slice a4 f.scopes.length c4,.slice a5 f.kids.length c5] 26)).alloc (.cells #[.int .i64 0,.string ⟨#[]⟩,.int .i64 0,.slice none 0 0,.slice none 0 0] 26))=w1 at *
 go_cut [3] from 6 to 15 (fun t3 wx=>∃(o:Nat) (b4:Option Addr) (d4:Nat),t3=.pointer (some ⟨o,0,none⟩)∧Hid (w1.heap.size≤o)∧Hid (fB wx o [.int .i64 f.kind,.string f.name,.int .i64 f.n,.slice b4 f.scopes.length d4,.slice none 0 0])∧Hid (Below w1.heap.size w1 wx)∧Hid (Rd (cxS fun b=>b<w.heap.size+2∨b=o) wx (.sl 1 .ro (cO f.scopes)) (.slice b4 f.scopes.length d4)))
 case first=>
  have n0:=(Ku.out 0 _ rfl).1;have n1:=(Ku.out 1 _ rfl).1;have n2:=(Ku.out 2 _ rfl).1;have n3:=(Ku.out 3 _ rfl).1;have hY0:fB (w1.alloc (.cells #[.int .i64 0,.string ⟨#[]⟩,.int .i64 0,.slice none 0 0,.slice none 0 0] 26)).drew w1.heap.size ([.int .i64 0,.string ⟨#[]⟩,.int .i64 0,.slice none 0 0,.slice none 0 0]:List Value):=fun j y hj=>fB.new w1 ([.int .i64 0,.string ⟨#[]⟩,.int .i64 0,.slice none 0 0,.slice none 0 0]:List Value) 26 j y hj;have HY0:=Lib.hid hY0;clear hY0;have q1:¬(w1.heap.size=w.heap.size):=by have:=HS2.out; omega
  have q1':¬(w.heap.size=w1.heap.size):=by have:=HS2.out; omega
  go_region_held3 (fun w'=>w'.cell? ⟨w.heap.size,0,none⟩=some (.int .i64 f.kind)∧w'.cell? ⟨w.heap.size,1,none⟩=some (.string f.name)∧w'.cell? ⟨w.heap.size,2,none⟩=some (.int .i64 f.n)∧w'.cell? ⟨w.heap.size,3,none⟩=some (.slice a4 f.scopes.length c4)) (first | go_keep)
   (first
    | (
     go_at_call 41
     refine Calls.mono (HCL.out (.slice a4 f.scopes.length c4) _ ?_ ?_) ?_
     ·exact Jp (w:=w) HR4.out HB2.out.drew
     ·exact HGB.out _ _ HB2.out.size HG.out
     rintro e w2 ⟨v2,rfl,hB3,hR⟩;have HB3:=Lib.hid hB3;have HR:=Lib.hid hR;have HRd:=Lib.hid (JA (cx:=cxS fun b=>b<w1.heap.size) hR (fun g o hg hM=>by have hg:w1.heap.size≤g:=hg; exact hM.elim id (fun(h:g<w1.heap.size)=>by omega)));obtain⟨b4,d4,rfl,_⟩:=hR;clear hB3;have z0:w2.cell? ⟨w.heap.size,0,none⟩=some (.int .i64 f.kind):=(HB3.out.cell (p:=⟨w.heap.size,0,none⟩) (cell_lt n0)).trans n0;have z1:w2.cell? ⟨w.heap.size,1,none⟩=some (.string f.name):=(HB3.out.cell (p:=⟨w.heap.size,1,none⟩) (cell_lt n1)).trans n1;have z2:w2.cell? ⟨w.heap.size,2,none⟩=some (.int .i64 f.n):=(HB3.out.cell (p:=⟨w.heap.size,2,none⟩) (cell_lt n2)).trans n2;have z3:w2.cell? ⟨w.heap.size,3,none⟩=some (.slice a4 f.scopes.length c4):=(HB3.out.cell (p:=⟨w.heap.size,3,none⟩) (cell_lt n3)).trans n3;have q2:¬(w2.heap.size=w.heap.size):=by have:=cell_lt z0; omega
     have q2':¬(w.heap.size=w2.heap.size):=by have:=cell_lt z0; omega)
    | (
     go_at_call 41
     refine Calls.mono (HCL.out (.slice a4 f.scopes.length c4) _ ?_ ?_) ?_
     ·exact Jp (w:=w) HR4.out ((HB2.out.drew).alloc HB2.out.size _)
     ·exact HGB.out _ _ (by have:=HB2.out.size; simp; omega) HG.out
     rintro e w2 ⟨v2,rfl,hB3,hR⟩;have HB3:=Lib.hid hB3;have HR:=Lib.hid hR;have HRd:=Lib.hid (JA (cx:=cxS fun b=>b<w1.heap.size+1) hR (fun g o hg hM=>by have hg:(w1.alloc (.cells #[.int .i64 0,.string ⟨#[]⟩,.int .i64 0,.slice none 0 0,.slice none 0 0] 26)).heap.size≤g:=hg; simp at hg; exact hM.elim id (fun(h:g<w1.heap.size+1)=>by omega)));obtain⟨b4,d4,rfl,_⟩:=hR;clear hB3;have z0:w2.cell? ⟨w.heap.size,0,none⟩=some (.int .i64 f.kind):=(HB3.out.cell (p:=⟨w.heap.size,0,none⟩) (by have:=cell_lt n0; simp; omega)).trans ((((Below.refl _ _).alloc (Nat.le_refl _) _).cell (p:=⟨w.heap.size,0,none⟩) (cell_lt n0)).trans n0);have z1:w2.cell? ⟨w.heap.size,1,none⟩=some (.string f.name):=(HB3.out.cell (p:=⟨w.heap.size,1,none⟩) (by have:=cell_lt n1; simp; omega)).trans ((((Below.refl _ _).alloc (Nat.le_refl _) _).cell (p:=⟨w.heap.size,1,none⟩) (cell_lt n1)).trans n1);have z2:w2.cell? ⟨w.heap.size,2,none⟩=some (.int .i64 f.n):=(HB3.out.cell (p:=⟨w.heap.size,2,none⟩) (by have:=cell_lt n2; simp; omega)).trans ((((Below.refl _ _).alloc (Nat.le_refl _) _).cell (p:=⟨w.heap.size,2,none⟩) (cell_lt n2)).trans n2);have z3:w2.cell? ⟨w.heap.size,3,none⟩=some (.slice a4 f.scopes.length c4):=(HB3.out.cell (p:=⟨w.heap.size,3,none⟩) (by have:=cell_lt n3; simp; omega)).trans ((((Below.refl _ _).alloc (Nat.le_refl _) _).cell (p:=⟨w.heap.size,3,none⟩) (cell_lt n3)).trans n3);have hY:=HY0.out.below HB3.out;obtain⟨y0,f0⟩:=hY 0 _ rfl;obtain⟨y1,f1⟩:=hY 1 _ rfl;obtain⟨y2,f2⟩:=hY 2 _ rfl;obtain⟨y3,f3⟩:=hY 3 _ rfl;obtain⟨y4,f4⟩:=hY 4 _ rfl;have HYw:=Lib.hid hY;clear hY))
  all_goals (go_wp2_with fail)
  all_goals go_meet
  case rel=>
   have hs:w1.heap.size≤w2.heap.size:=HB3.out.size;exact⟨w2.heap.size,b4,d4,rfl,hs,fB.new w2 [.int .i64 f.kind,.string f.name,.int .i64 f.n,.slice b4 f.scopes.length d4,.slice none 0 0] 26,((Below.refl _ w1).drew.trans HB3.out).alloc hs _,rdk HRd.out (by simp[D.all,Tok.all]) (T:=fun _=>False) (Gr.alloc _ _) (fun _ _ h=>h.elim) (fun b hb h=>by have:=HS2.out; omega)⟩
  case rel=>
   have hs:w1.heap.size+1≤w2.heap.size:=by have:=HB3.out.size; simpa using this
   exact⟨w1.heap.size,b4,d4,rfl,Nat.le_refl _,(((((HYw.out.set (o:=0) (by simp) (.int .i64 f.kind)).set (o:=1) (by simp) (.string f.name)).set (o:=2) (by simp) (.int .i64 f.n)).set (o:=3) (by simp) (.slice b4 f.scopes.length d4)).set (o:=4) (by simp) (.slice none 0 0)),(((((((((Below.refl _ w1).alloc (Nat.le_refl _) _).drew).trans (HB3.out.mono (by simp))).setCell (p:=⟨w1.heap.size,0,none⟩) (Nat.le_refl _) (.int .i64 f.kind)).setCell (p:=⟨w1.heap.size,1,none⟩) (Nat.le_refl _) (.string f.name)).setCell (p:=⟨w1.heap.size,2,none⟩) (Nat.le_refl _) (.int .i64 f.n)).setCell (p:=⟨w1.heap.size,3,none⟩) (Nat.le_refl _) (.slice b4 f.scopes.length d4)).setCell (p:=⟨w1.heap.size,4,none⟩) (Nat.le_refl _) (.slice none 0 0)),rdk HRd.out (by simp[D.all,Tok.all]) (T:=fun b=>b=w1.heap.size) ((((((Gr.refl _ w2).trans (Gr.setCell _ ⟨w1.heap.size,0,none⟩ (.int .i64 f.kind))).trans (Gr.setCell _ ⟨w1.heap.size,1,none⟩ (.string f.name))).trans (Gr.setCell _ ⟨w1.heap.size,2,none⟩ (.int .i64 f.n))).trans (Gr.setCell _ ⟨w1.heap.size,3,none⟩ (.slice b4 f.scopes.length d4))).trans (Gr.setCell _ ⟨w1.heap.size,4,none⟩ (.slice none 0 0))) (fun b hb h=>by omega) (fun b hb h=>by have:=HS2.out; omega)⟩
 case rest=>
  obtain⟨o,b4,d4,rfl,HO,HRO,XT,HRX⟩:=hcut;generalize wc=w3 at *;have hs2:=HS2.out;have agn:=HO.out;have hol:o<w3.heap.size:=cell_lt (HRO.out 0 _ rfl).1;have HB3:Hid (Below w.heap.size w w3):=HB2.out.trans (XT.out.mono HB2.out.size);have HX3:Hid (fB w3 w.heap.size _):=Ku.out.below XT.out;have HZ3:Hid (fB w3 (w.heap.size+1) _):=HX2.out.below XT.out;have alE:w1.heap.size≤w3.heap.size:=XT.out.size;obtain⟨m4x,_⟩:=HX3.out 4 _ rfl;obtain⟨i26,agC,hy0,hy1,hy2⟩:=info_parts info26;clear HS2 Ku HX2
  go_wp2_with fail
  go_loopw [19] (fun iv wq=>∃(j:Nat) (v7:Value) (xs:List Value),j≤f.kids.length∧iv=.int .i64 j ∧
    Hid (fB wq o [.int .i64 f.kind,.string f.name,.int .i64 f.n,.slice b4 f.scopes.length d4,v7])∧Hid (wq.ownsRow w3.heap.size 26 5 v7 j xs)∧Hid (vZ (fun b=>b<w.heap.size+2∨b=o∨v7.ownBlock=some b) wq (f.kids.take j) xs)∧Hid (Gr (fun b=>b=o) w3 wq)) (fun iv _=>f.kids.length-(intOf iv).toNat)
  case atStart=>exact⟨0,.slice none 0 0,[],by omega,rfl,HRO.out,World.ownsRow_nil _ _ _ _,fun q hq=>by simp at hq,Gr.refl _ _⟩
  case round=>
   obtain⟨j,v7,xs,hj,rfl,Jw,Vx,HK6,Kv⟩:=hrel;by_cases hlt:j<f.kids.length
   ·obtain rfl:=HA.out (by omega);obtain⟨vsA,rA,ck⟩:=HKA.out j hlt;have hw:=cell_lt (ck 0 _ (by rw[List.getElem?_eq_getElem (by rw[← rA.1]; exact Nat.zero_lt_succ 4)]));have HRA:=Lib.hid rA;obtain⟨x4,x5,rfl,r4,r5⟩:=Zu rA;obtain⟨s4,t4,rfl⟩:=iO r4;obtain⟨s5,t5,rfl⟩:=iO r5;have hck:=fun jj x hx=>Kv.out.cell (g:=A1) (by omega) ((HB3.out.cell (p:=⟨A1,A2+j*5+jj,none⟩) hw).trans (ck jj x hx));have Qw:=Lib.hid hck;clear hck ck r4 r5 rA;have ck0:wr.cell? ⟨A1,A2+j*5,none⟩=_:=Qw.out 0 _ rfl;have ck1:wr.cell? ⟨A1,A2+j*5+1,none⟩=_:=Qw.out 1 _ rfl;have ck2:wr.cell? ⟨A1,A2+j*5+2,none⟩=_:=Qw.out 2 _ rfl;have ck3:wr.cell? ⟨A1,A2+j*5+3,none⟩=_:=Qw.out 3 _ rfl;have ck4:wr.cell? ⟨A1,A2+j*5+4,none⟩=_:=Qw.out 4 _ rfl;obtain⟨z10,Zp⟩:=Jw.out 4 _ rfl;have hap:f.kids.take (j+1)=f.kids.take j++[f.kids[j]]:=List.take_succ_eq_append_getElem hlt;have HAP:=Lib.hid hap;have HX:=Lib.hid (HKS.out _ (List.getElem_mem hlt));clear hap
    go_upto_block 1 with (fail)
    go_cut [5] from 21 to 29 (fun t5 wx=>∃(Zq:Value) (xs':List Value),Hid (fB wx o [.int .i64 f.kind,.string f.name,.int .i64 f.n,.slice b4 f.scopes.length d4,Zq])∧Hid (wx.ownsRow w3.heap.size 26 5 Zq (j+1) xs')∧Hid (vZ (fun b=>b<w.heap.size+2∨b=o∨Zq.ownBlock=some b) wx (f.kids.take (j+1)) xs')∧Hid (Gr (fun b=>b=o) w3 wx))
    case first=>
     go_wp2_with fail
     have hT:=fB.new wr [.int .i64 f.kids[j].kind,.string f.kids[j].name,.int .i64 f.kids[j].n,.slice s4 (cO f.kids[j].scopes).length t4,.slice s5 (fZ f.kids[j].kids).length t5] 26;have GA:Gr (fun _=>False) wr (wr.alloc (.cells #[.int .i64 f.kids[j].kind,.string f.kids[j].name,.int .i64 f.kids[j].n,.slice s4 (cO f.kids[j].scopes).length t4,.slice s5 (fZ f.kids[j].kids).length t5] 26)):=Gr.alloc wr _;have hs11:(wr.alloc (.cells #[.int .i64 f.kids[j].kind,.string f.kids[j].name,.int .i64 f.kids[j].n,.slice s4 (cO f.kids[j].scopes).length t4,.slice s5 (fZ f.kids[j].kids).length t5] 26)).heap.size=wr.heap.size+1:=by simp
     have ai0:w3.heap.size≤wr.heap.size:=Kv.out.size;have TT:Below w.heap.size w wr:=⟨Kv.out.os.trans HB3.out.os,Kv.out.tape.trans HB3.out.tape,Kv.out.output.trans HB3.out.output,by have:=HB3.out.size; omega,fun b hb=>(Kv.out.block b (by have:=HB3.out.size; omega) (by omega)).trans (HB3.out.block b hb)⟩
     have HT:=Lib.hid hT;have Qx:=Lib.hid GA;have HBw:=Lib.hid (TT.trans (((Below.refl _ wr).alloc TT.size (.cells #[.int .i64 f.kids[j].kind,.string f.kids[j].name,.int .i64 f.kids[j].n,.slice s4 (cO f.kids[j].scopes).length t4,.slice s5 (fZ f.kids[j].kids).length t5] 26))));have hcl:=MF f.kids;have hcq:=abU f;have hnn:=HN.out;clear TT hT GA ck0 ck1 ck2 ck3 ck4 z10 Zp m4x;generalize wr.alloc (.cells #[.int .i64 f.kids[j].kind,.string f.kids[j].name,.int .i64 f.kids[j].n,.slice s4 (cO f.kids[j].scopes).length t4,.slice s5 (fZ f.kids[j].kids).length t5] 26)=N8 at *;obtain⟨kt0,_⟩:=HT.out 0 _ rfl;obtain⟨kt1,_⟩:=HT.out 1 _ rfl;obtain⟨kt2,_⟩:=HT.out 2 _ rfl;obtain⟨kt3,_⟩:=HT.out 3 _ rfl;obtain⟨kt4,_⟩:=HT.out 4 _ rfl;obtain⟨z10,Zp⟩:=(Qx.out.row (fun h=>h) Jw.out) 4 _ rfl
     go_region_law (first
      | (
       go_simp
       go_at_call 43
       refine Calls.mono (HX.out [.int .i64 f.kids[j].kind,.string f.kids[j].name,.int .i64 f.kids[j].n,.slice s4 (cO f.kids[j].scopes).length t4,.slice s5 (fZ f.kids[j].kids).length t5] _ ?_ ?_) ?_
       ·first | exact agf HRA.out HBw.out | exact agf HRA.out HBw.out.drew
       ·exact HGB.out _ _ (by have:=HB3.out.size; show w.heap.size≤N8.heap.size; omega) HG.out
       rintro e w12 ⟨vs2,rfl,hR,Xy⟩;obtain⟨x4,x5,rfl,r4,r5⟩:=Zu hR;obtain⟨l4,m4,rfl⟩:=iO r4;obtain⟨l5,m5,rfl⟩:=iO r5;clear r4 r5;have ael:=Lib.hid hR;have N9:Hid (Gr (fun _=>False) N8 w12):=Gr.of_below (a:=N8) ⟨Xy.os,Xy.tape,Xy.output,Xy.size,Xy.block⟩;have aeh:N8.heap.size≤w12.heap.size:=N9.out.size;have TU:fB w12 o _:=N9.out.row (g:=o) (fun h=>h) (fun y x hx=>Qx.out.row (fun h=>h) Jw.out y x hx);obtain⟨Zr,agx⟩:=TU 4 _ rfl;have aem:=Lib.hid TU;have Jy:=Lib.hid (N9.out.own (Qx.out.own Vx.out (fun _ _ h=>h)) (fun g hg h=>h));have zB:(w12.alloc (.cells #[.int .i64 f.kids[j].kind,.string f.kids[j].name,.int .i64 f.kids[j].n,.slice l4 (cO f.kids[j].scopes).length m4,.slice l5 (fZ f.kids[j].kids).length m5] 26)).cell? ⟨o,4,none⟩=some v7:=(((Below.refl _ w12).alloc (Nat.le_refl _) _).cell (p:=⟨o,4,none⟩) (cell_lt Zr)).trans Zr;clear hR Xy TU)
      | (
       refine step_append_lies _ (by rfl) _ _ _ (by rfl) w3.heap.size 26 i26 _ 5 80 Go.Proofs.Tryz.underlying24 agC hy0 hy1 hy2 rfl (by omega) v7 j xs (by rfl) (by first | exact((Jy.out.alloc _).drew) | exact(Jy.out.alloc _) | exact(Jy.out.drew.alloc _)) ⟨w12.heap.size,0,none⟩ 1 1 [.int .i64 f.kids[j].kind,.string f.kids[j].name,.int .i64 f.kids[j].n,.slice l4 (cO f.kids[j].scopes).length m4,.slice l5 (fZ f.kids[j].kids).length m5] (by rfl) (by rfl) (World.news_of_block (cs:=#[.int .i64 f.kids[j].kind,.string f.kids[j].name,.int .i64 f.kids[j].n,.slice l4 (cO f.kids[j].scopes).length m4,.slice l5 (fZ f.kids[j].kids).length m5]) (t:=26) (fr:=(0,0)) (heap_alloc_new w12 _)) (by simp[Value.oneCell']) (by omega) (by unfold maxLen; omega) (by omega) (by simp; omega) (w12.heap.size+1) (by simp) ?_;intro gg cap TV Jz Zt Qy agy;have TW:fB TV o _:=(Gr.pR Zt).row (g:=o) (fun e=>by have:=kX Jy.out e.symm; omega) (fun y x hj=>(aem.out.alloc _) y x hj);obtain⟨aiV,agz⟩:=TW 4 _ rfl;have aen:=Lib.hid TW;clear TW)
      )
     all_goals (go_wp2_with fail)
     all_goals go_meet
     all_goals
      have hge:∀b,v7.ownBlock=some b→w3.heap.size≤b:=fun b hb=>kX Jy.out hb;have hgl:∀b,v7.ownBlock=some b→b<wr.heap.size:=fun b hb=>TR Vx.out hb;have aeo:Gr (fun b=>some b=v7.ownBlock) w12 TV:=(Gr.alloc w12 _).trans (Gr.pR Zt);have Gs:Gr (fun b=>b=o) TV (TV.setCell ⟨o,4,none⟩ (.slice (some ⟨gg,0,none⟩) (j+1) cap)):=Gr.setCell TV ⟨o,4,none⟩ _;have Xu:Gr (fun b=>some b=v7.ownBlock∨b=o) w12 (TV.setCell ⟨o,4,none⟩ (.slice (some ⟨gg,0,none⟩) (j+1) cap)):=(aeo.mono fun b _ h=>.inl h).trans (Gs.mono fun b _ h=>.inr h);have Xv:Gr (fun b=>some b=v7.ownBlock∨b=o) wr (TV.setCell ⟨o,4,none⟩ (.slice (some ⟨gg,0,none⟩) (j+1) cap)):=((Qx.out.mono fun b _ h=>h.elim).trans (N9.out.mono fun b _ h=>h.elim)).trans Xu;have hgg:w3.heap.size≤gg:=kX Jz rfl;refine⟨.slice (some ⟨gg,0,none⟩) (j+1) cap,xs++[.int .i64 f.kids[j].kind,.string f.kids[j].name,.int .i64 f.kids[j].n,.slice l4 (cO f.kids[j].scopes).length m4,.slice l5 (fZ f.kids[j].kids).length m5],?_,?_,?_,?_⟩
      ·exact aen.out.set (o:=4) (by simp) _
      ·exact Gs.own Jz (fun g e=>by cases e; show ¬gg=o; omega)
      ·rw[HAP.out];refine vZ.snoc (HK6.out.keep Xv (fun b hb h=>?_) (fun b hb h=>?_)) ?_ (FB ael.out (jD _ _) Xu (fun b hb h=>?_) (fun b hb h=>?_))
       ·rcases h with h | h
        ·exact .inr (.inr h.symm)
        ·exact .inr (.inl h)
       ·rcases h with h | h | h
        ·exact .inl h
        ·exact .inr (.inl h)
        ·have e:gg=b:=by simpa [Value.ownBlock] using h
         subst e;rcases Qy with h' | h'
         ·exact .inr (.inr h')
         ·omega
       ·rw[Vx.out.1,List.length_take,Nat.min_eq_left hj]
       ·rcases h with h | h
        ·have:=hgl _ h.symm; show b<N8.heap.size; omega
        ·show b<N8.heap.size; omega
       ·rcases h with h | h | h
        ·show b<N8.heap.size; omega
        ·show b<N8.heap.size; omega
        ·have e:gg=b:=by simpa [Value.ownBlock] using h
         subst e;rcases Qy with h' | h'
         ·have:=hgl _ h'; show gg<N8.heap.size; omega
         ·omega
      ·exact Kv.out.trans' Xv (fun b hb h=>by
        rcases h with h | h
        ·have:=hge _ h.symm; omega
        ·exact h)
    case rest=>
     obtain⟨Zq,xs',HO9,HV9,HK9,HG9⟩:=hcut;generalize wc=N8 at *
     go_wp2_with fail
     exact⟨⟨j+1,Zq,xs',by omega,by simp,HO9.out,HV9.out,HK9.out,HG9.out⟩,by simp[intOf]; omega⟩
   ·obtain rfl:j=f.kids.length:=by omega
    rw[List.take_length] at HK6;have KP:=Kv.out.row (g:=w.heap.size+1) (by omega) HZ3.out;obtain⟨a7',q7',rfl⟩:=FC Vx.out;have GL:=Lib.hid KP;obtain⟨g0,_⟩:=Jw.out 0 _ rfl;obtain⟨h0,e0⟩:=KP 0 _ rfl;obtain⟨g1,_⟩:=Jw.out 1 _ rfl;obtain⟨h1,e1⟩:=KP 1 _ rfl;obtain⟨g2,_⟩:=Jw.out 2 _ rfl;obtain⟨h2,e2⟩:=KP 2 _ rfl;obtain⟨g3,_⟩:=Jw.out 3 _ rfl;obtain⟨h3,e3⟩:=KP 3 _ rfl;obtain⟨g4,_⟩:=Jw.out 4 _ rfl;obtain⟨h4,e4⟩:=KP 4 _ rfl;clear KP;have hw3:w.heap.size≤w3.heap.size:=HB3.out.size;have ai0:w3.heap.size≤wr.heap.size:=Kv.out.size
    go_wp2_with fail
    refine bodyPost_ret (v:=.agg #[.int .i64 f.kind,.string f.name,.int .i64 f.n,.slice b4 f.scopes.length d4,.slice a7' f.kids.length q7']) (by simp[results,Go.Proofs.Tryz.results43,go_sem,h0,h1,h2,h3,h4]) rfl ⟨[.int .i64 f.kind,.string f.name,.int .i64 f.n,.slice b4 f.scopes.length d4,.slice a7' f.kids.length q7'],rfl,?_⟩;have GE:Gr (fun i=>i=w.heap.size+1) wr _:=((((((Gr.refl _ wr).trans (Gr.setCell _ ⟨w.heap.size+1,0,none⟩ (.int .i64 f.kind))).trans (Gr.setCell _ ⟨w.heap.size+1,1,none⟩ (.string f.name))).trans (Gr.setCell _ ⟨w.heap.size+1,2,none⟩ (.int .i64 f.n))).trans (Gr.setCell _ ⟨w.heap.size+1,3,none⟩ (.slice b4 f.scopes.length d4))).trans (Gr.setCell _ ⟨w.heap.size+1,4,none⟩ (.slice a7' f.kids.length q7')))
    have GX:=(Kv.out.mono (T:=fun b=>b=o∨b=w.heap.size+1) (fun b _ h=>.inl h)).trans (GE.mono fun b _ h=>.inr h);have v7g:∀g,(Value.slice a7' f.kids.length q7').ownBlock=some g→w3.heap.size≤g:=fun g hg=>kX Vx.out hg;refine⟨Vy ?_ ?_,?_⟩
    ·exact rdk (M0:=fun _ _=>False) HRX.out (by simp[D.all,Tok.all]) GX (fun b _ h=>by omega) (fun b _ h=>.inl (by omega))
    ·refine rdk (M0:=fun _ _=>False) (S:=fun b=>b<w.heap.size+2) (Xw (GE.own Vx.out (fun g hg=>by have:=v7g g hg; omega)) (HK6.out.keep GE (fun b _ h=>.inl (by omega)) (fun b _ h=>.inl h)) rfl (fun g hg o' hM=>by have:=v7g g hg; exact hM.elim id (fun h=>by omega))) (by simp[D.all,Tok.all]) (Gr.refl (fun _=>False) _) (fun b _ h=>h.elim) (fun b _ h=>by omega)
    ·have hB:=(Gr.of_below (S:=fun b=>b=o∨b=w.heap.size+1) HB3.out).trans GX;exact⟨hB.os,hB.tape,hB.output,hB.size,fun b hb=>hB.block b hb (by omega)⟩
end Go.Raw
