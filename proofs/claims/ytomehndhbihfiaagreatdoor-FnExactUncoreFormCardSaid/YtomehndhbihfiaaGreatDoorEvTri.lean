/- An evaluator over the abstract state, third part. No condition. -/
import Derived.Test.YtomehndhbihfiaaGreatDoorEvTwo
import Derived.KernelRfl
import Derived.Lib.Strings
import Derived.Lib.Slices
import Derived.Lib.Walk
import Derived.Lib.Bytealg
import Derived.Sort.Row
import Derived.Sort.Grow
import Derived.Lib.SlicesCompact
import Derived.Lib.RowBridge
set_option linter.unusedVariables false
set_option linter.unusedSimpArgs false
namespace Go.Ev
open Go.Mx (KD ED EObj forL forI seqS iterM)
set_option linter.unusedVariables false
set_option linter.unusedSimpArgs false
def Evt {α:Type} (f:Nat→Option α) (v:α):Prop:=∃N,∀n,N≤n→f n=some v
section
variable {α β σ ω τ : Type}
theorem Evt.const {x:Option α} {v:α} (h:x=some v):Evt (fun _=>x) v:=⟨0,fun _ _=>h⟩
theorem Evt.pure (v:α):Evt (fun _=>some v) v:=.const rfl
theorem Evt.succ {f:Nat→Option α} {v:α} (h:Evt (fun n=>f (n+1)) v):Evt f v:=by
 obtain⟨N,h⟩:=h;refine⟨N+1,fun n hn=>?_⟩;obtain⟨m,rfl⟩:∃m,n=m+1:=⟨n-1,by omega⟩
 exact h m (by omega)
theorem Evt.bind {f:Nat→Option α} {g:Nat→α→Option β} {a:α} {b:β} (hf:Evt f a) (hg:Evt (fun n=>g n a) b):Evt (fun n=>(f n).bind (g n)) b:=by
 obtain⟨N,h⟩:=hf;obtain⟨M,k⟩:=hg;exact⟨max N M,fun n hn=>by show(f n).bind (g n)=some b; rw[h n (by omega)]; exact k n (by omega)⟩
theorem Evt.seqR {f:Nat→Option (ω⊕τ)} {g:Nat→τ→Option ω} {t:τ} {w:ω} (hf:Evt f (.inr t)) (hg:Evt (fun n=>g n t) w):Evt (fun n=>seqS (f n) (g n)) w:=by
 unfold seqS;exact hf.bind (g:=fun n o=>match o with | .inl w=>some w | .inr t=>g n t) hg
theorem Evt.seqL {f:Nat→Option (ω⊕τ)} {g:Nat→τ→Option ω} {w:ω} (hf:Evt f (.inl w)):Evt (fun n=>seqS (f n) (g n)) w:=by
 unfold seqS;exact hf.bind (g:=fun n o=>match o with | .inl w=>some w | .inr t=>g n t) (.pure w)
theorem Evt.pos {c:Prop} [Decidable c] {f g:Nat→Option α} {v:α} (hc:c) (h:Evt f v):Evt (fun n=>if c then f n else g n) v:=by simpa only[hc,if_true] using h
theorem Evt.neg {c:Prop} [Decidable c] {f g:Nat→Option α} {v:α} (hc:¬c) (h:Evt g v):Evt (fun n=>if c then f n else g n) v:=by simpa only[hc,if_false] using h
theorem Evt.forL {step:Nat→σ→Nat→α→Option σ} (I:Nat→List α→σ→Prop) (hs:∀i x q s,I i (x::q) s→∃s',Evt (fun n=>step n s i x) s'∧I (i+1) q s') :
  ∀xs i s,I i xs s→∃s',Evt (fun n=>Mx.forL (step n) i xs s) s'∧I (i+xs.length) [] s'
 | [],i,s,h=>⟨s,.pure s,h⟩
 | x::q,i,s,h=>by
  obtain⟨s1,h1,h2⟩:=hs i x q s h;obtain⟨s2,h3,h4⟩:=Evt.forL I hs q (i+1) s1 h2;refine⟨s2,?_,by rw[List.length_cons,show i+(q.length+1)=i+1+q.length by omega]; exact h4⟩;exact h1.bind (g:=fun n s'=>Mx.forL (step n) (i+1) q s') h3
theorem Evt.forI {step:Nat→σ→Nat→α→Option (ω⊕σ)} (I:Nat→List α→σ→Prop) (Q:ω→Prop) (hs:∀i x q s,I i (x::q) s→(∃w,Evt (fun n=>step n s i x) (.inl w)∧Q w)∨(∃s',Evt (fun n=>step n s i x) (.inr s')∧I (i+1) q s')) :
  ∀xs i s,I i xs s→(∃w,Evt (fun n=>Mx.forI (step n) i xs s) (.inl w)∧Q w)∨(∃s',Evt (fun n=>Mx.forI (step n) i xs s) (.inr s')∧I (i+xs.length) [] s')
 | [],i,s,h=>.inr ⟨s,.pure _,h⟩
 | x::q,i,s,h=>by
  rcases hs i x q s h with ⟨w,h1,h2⟩ | ⟨s1,h1,h2⟩
  ·refine .inl ⟨w,?_,h2⟩;exact h1.bind (g:=fun n y=>match y with | .inl r=>some (.inl r) | .inr s'=>Mx.forI (step n) (i+1) q s') (.pure _)
  ·rcases Evt.forI I Q hs q (i+1) s1 h2 with ⟨w,h3,h4⟩ | ⟨s2,h3,h4⟩
   ·refine .inl ⟨w,?_,h4⟩;exact h1.bind (g:=fun n y=>match y with | .inl r=>some (.inl r) | .inr s'=>Mx.forI (step n) (i+1) q s') h3
   ·refine .inr ⟨s2,?_,by rw[List.length_cons,show i+(q.length+1)=i+1+q.length by omega]; exact h4⟩;exact h1.bind (g:=fun n y=>match y with | .inl r=>some (.inl r) | .inr s'=>Mx.forI (step n) (i+1) q s') h3
end
def mxL:Nat:=9223372036854775807
mutual
def okF:Form→Prop
 | ⟨_,nm,_,sc,kids⟩=>nm.length≤mxL∧sc.length≤mxL∧kids.length≤mxL∧okFs kids
def okFs:List Form→Prop
 | []=>True
 | f::r=>okF f∧okFs r
end
theorem okF_eq (f:Form):okF f↔f.name.length≤mxL∧f.scopes.length≤mxL∧f.kids.length≤mxL∧okFs f.kids:=by cases f; simp only[okF]
theorem okFs_iff:∀{l:List Form},okFs l↔∀x∈l,okF x
 | []=>by simp[okFs]
 | f::r=>by simp only[okFs,okFs_iff (l:=r),List.forall_mem_cons]
mutual
def okC:Core→Prop
 | ⟨_,_,nm,_,ids,dt,kids⟩=>nm.length≤mxL∧ids.length≤mxL∧okF dt∧kids.length≤mxL∧okCs kids
def okCs:List Core→Prop
 | []=>True
 | f::r=>okC f∧okCs r
end
theorem okC_eq (f:Core):okC f↔f.name.length≤mxL∧f.ids.length≤mxL∧okF f.data∧f.kids.length≤mxL∧okCs f.kids:=by cases f; simp only[okC]
theorem okCs_iff:∀{l:List Core},okCs l↔∀x∈l,okC x
 | []=>by simp[okCs]
 | f::r=>by simp only[okCs,okCs_iff (l:=r),List.forall_mem_cons]
mutual
def wF:Form→Nat
 | ⟨_,nm,_,sc,kids⟩=>nm.length+sc.length+kids.length+wFs kids
def wFs:List Form→Nat
 | []=>0
 | f::r=>wF f+wFs r
end
theorem wF_eq (f:Form):wF f=f.name.length+f.scopes.length+f.kids.length+wFs f.kids:=by cases f; simp only[wF]
theorem wFs_mem:∀{l:List Form} {x:Form},x∈l→wF x≤wFs l
 | f::r,x,h=>by
  rcases List.mem_cons.1 h with rfl | h
  ·simp only[wFs]; omega
  ·have:=wFs_mem h; simp only[wFs]; omega
mutual
def wC:Core→Nat
 | ⟨_,_,nm,_,ids,dt,kids⟩=>nm.length+ids.length+wF dt+kids.length+wCs kids
def wCs:List Core→Nat
 | []=>0
 | f::r=>wC f+wCs r
end
theorem wC_eq (f:Core):wC f=f.name.length+f.ids.length+wF f.data+f.kids.length+wCs f.kids:=by cases f; simp only[wC]
theorem wCs_mem:∀{l:List Core} {x:Core},x∈l→wC x≤wCs l
 | f::r,x,h=>by
  rcases List.mem_cons.1 h with rfl | h
  ·simp only[wCs]; omega
  ·have:=wCs_mem h; simp only[wCs]; omega
def szR (w:Nat) (b:Int):Int:=if(w:Int)≤b then b-w else -1
theorem sub_w {b:Int} {n:Nat} (h0:0≤b) (h1:b≤1048576) (hn:n≤mxL):w64 (b-(n:Int))=b-n:=by
 unfold w64; rw[IntKind.wrap_i64]; unfold mxL at hn; omega
theorem szS_evt {α:Type} {m:Nat→α→Int→Option Int} {w:α→Nat} {ws:List α→Nat} (hw0:ws []=0) (hw:∀x r,ws (x::r)=w x+ws r) {xs:List α} (h:∀x∈xs,∀b:Int,0≤b→b≤1048576→Evt (fun n=>m n x b) (szR (w x) b)) (b:Int) (h0:0≤b) (h1:b≤1048576) :
  Evt (fun n=>seqS (Mx.forI (fun(s:Int) (_:Nat) (x:α)=>((m n x s).bind fun k=>(if k<0 then some (Sum.inl (-1)) else some (Sum.inr k)):Option (Int⊕Int))) 0 xs b) (fun s=>some s)) (szR (ws xs) b):=by
 rcases Evt.forI (ω:=Int) (step:=fun n (s:Int) (_:Nat) (x:α)=>((m n x s).bind fun k=>(if k<0 then some (Sum.inl (-1)) else some (Sum.inr k)):Option (Int⊕Int)))
  (fun i q s=>xs.drop i=q∧0≤s∧s≤1048576∧s-ws q=b-ws xs) (fun v=>v=-1∧b<ws xs) (fun i x q s ⟨g1,g2,g3,g4⟩=>by
   have hi:i<xs.length:=by
    rcases Nat.lt_or_ge i xs.length with h | h
    ·exact h
    ·rw[List.drop_eq_nil_of_le h] at g1; cases g1
   have hx:xs[i]=x∧xs.drop (i+1)=q:=by
    rw[List.drop_eq_getElem_cons hi] at g1;exact List.cons.inj g1
   have hm:=h x (hx.1▸List.getElem_mem hi) s g2 g3;rw[hw] at g4;unfold szR at hm;by_cases hle:(w x:Int)≤s
   ·rw[if_pos hle] at hm;exact .inr ⟨s-w x,hm.bind (g:=fun _ k=>if k<0 then some (Sum.inl (-1)) else some (Sum.inr k)) (.neg (by omega) (.pure _)),hx.2,by omega,by omega,by omega⟩
   ·rw[if_neg hle] at hm;exact .inl ⟨-1,hm.bind (g:=fun _ k=>if k<0 then some (Sum.inl (-1)) else some (Sum.inr k)) (.pos (by omega) (.pure _)),rfl,by omega⟩) xs 0 b ⟨rfl,h0,h1,rfl⟩ with ⟨v,g1,rfl,g2⟩ | ⟨s,g1,g2,g3,g4,g5⟩
 ·unfold szR; rw[if_neg (by omega)]; exact g1.seqL
 ·rw[hw0] at g5;have:s=szR (ws xs) b:=by unfold szR; rw[if_pos (by omega)]; omega
  rw[← this]; exact g1.seqR (.pure s)
theorem eqS_evt {α:Type} {e:Nat→α→α→Option Bool} {xs:List α} (h:∀x∈xs,Evt (fun n=>e n x x) true) :
  Evt (fun n=>seqS (Mx.forI (fun(_:Unit) (i:Nat) (x:α)=>((atI xs (i:Int)).bind fun y=>(e n x y).bind fun k=>(if(!k)=true then some (Sum.inl false) else some (Sum.inr ())):Option (Bool⊕Unit))) 0 xs ()) (fun _=>some true)) true:=by
 rcases Evt.forI (ω:=Bool) (step:=fun n (_:Unit) (i:Nat) (x:α)=>((atI xs (i:Int)).bind fun y=>(e n x y).bind fun k=>(if(!k)=true then some (Sum.inl false) else some (Sum.inr ())):Option (Bool⊕Unit)))
  (fun i q s=>xs.drop i=q) (fun _=>False) (fun i x q s g1=>.inr (by
   have hi:i<xs.length:=by
    rcases Nat.lt_or_ge i xs.length with h | h
    ·exact h
    ·rw[List.drop_eq_nil_of_le h] at g1; cases g1
   have hx:xs[i]=x∧xs.drop (i+1)=q:=by
    rw[List.drop_eq_getElem_cons hi] at g1;exact List.cons.inj g1
   have hmem:x∈xs:=hx.1▸List.getElem_mem hi;refine⟨(),Evt.bind (a:=x) (.const ?_) (Evt.bind (h x hmem) (.neg (by simp) (.pure _))),hx.2⟩;unfold atI; rw[if_pos (by omega),Int.toNat_natCast,List.getElem?_eq_getElem hi,hx.1])) xs 0 () rfl with ⟨w,_,hw⟩ | ⟨s,h1,_⟩
 ·exact hw.elim
 ·exact h1.seqR (.pure true)
theorem mem_evt {xs:List (List UInt8)} {y:List UInt8}:Evt (fun _=>seqS (Mx.forI (fun(_:Unit) (_:Nat) (x:List UInt8)=>((if x=y then some (Sum.inl true) else some (Sum.inr ())):Option (Bool⊕Unit))) 0 xs ()) (fun _=>some false)) (decide (y∈xs)):=by
 refine .const ?_;suffices ∀i,seqS (Mx.forI (fun(_:Unit) (_:Nat) (x:List UInt8)=>((if x=y then some (Sum.inl true) else some (Sum.inr ())):Option (Bool⊕Unit))) i xs ()) (fun _=>some false)=some (decide (y∈xs)) from this 0
 induction xs with
 | nil=>intro i; rfl
 | cons x r ih=>
  intro i;by_cases hxy:x=y
  ·subst hxy; simp[Mx.forI,seqS]
  ·have:=ih (i+1);simp only[Mx.forI,if_neg hxy,Option.bind_some];simp only[List.mem_cons,show ¬y=x from fun e=>hxy e.symm,false_or];exact this
end Go.Ev
namespace Go.Ev
open Go.Mx (KD ED EObj forL forI seqS iterM)
theorem Evt.szB {A:Nat→Option Int} {B:Nat→Int→Option Int} {w1 w2:Nat} {b:Int} (hA:Evt A (szR w1 b)) (hB:(w1:Int)≤b→Evt (fun n=>B n (b-w1)) (szR w2 (b-w1))):Evt (fun n=>(A n).bind fun k=>if k<0 then some (-1) else B n k) (szR (w1+w2) b):=by
 refine hA.bind (g:=fun n k=>if k<0 then some (-1) else B n k) ?_;by_cases h:(w1:Int)≤b
 ·have e:szR w1 b=b-w1:=if_pos h;rw[e];refine .neg (by omega) ?_;have:szR (w1+w2) b=szR w2 (b-w1):=by
   unfold szR;by_cases h2:(w2:Int)≤b-w1
   ·rw[if_pos h2,if_pos (by omega)]; omega
   ·rw[if_neg h2,if_neg (by omega)]
  rw[this]; exact hB h
 ·have e:szR w1 b=-1:=if_neg h;rw[e];refine .pos (by omega) ?_;have:szR (w1+w2) b=-1:=if_neg (by omega);rw[this]; exact .pure _
theorem Evt.szA {B:Nat→Option Int} {w1 w2:Nat} {b:Int} (hB:(w1:Int)≤b→Evt B (szR w2 (b-w1))):Evt (fun n=>if b-(w1:Int)<0 then some (-1) else B n) (szR (w1+w2) b):=by
 by_cases h:(w1:Int)≤b
 ·refine .neg (by omega) ?_;have:szR (w1+w2) b=szR w2 (b-w1):=by
   unfold szR;by_cases h2:(w2:Int)≤b-w1
   ·rw[if_pos h2,if_pos (by omega)]; omega
   ·rw[if_neg h2,if_neg (by omega)]
  rw[this]; exact hB h
 ·refine .pos (by omega) ?_;have:szR (w1+w2) b=-1:=if_neg (by omega);rw[this]; exact .pure _
theorem Evt.szZ {b:Int} (h:0≤b):Evt (fun _=>some b) (szR 0 b):=by
 have:szR 0 b=b:=by unfold szR; rw[if_pos (by simpa using h)]; simp
 rw[this]; exact .pure _
theorem szF_lt {f x:Form} (h:x∈f.kids):SizeOf.sizeOf x<SizeOf.sizeOf f:=by
 have:=List.sizeOf_lt_of_mem h;cases f; simp at this ⊢; omega
theorem szC_lt {f x:Core} (h:x∈f.kids):SizeOf.sizeOf x<SizeOf.sizeOf f:=by
 have:=List.sizeOf_lt_of_mem h;cases f; simp at this ⊢; omega
end Go.Ev
namespace Go.Ev
open Go.Mx (KD ED EObj D Rd RdL Cx cx0 ACall Setting mkS)
set_option linter.unusedVariables false
set_option linter.unusedSimpArgs false
def toS (b:ByteArray):List UInt8:=b.data.toList
theorem toS_le {b:ByteArray} (h:b.size≤9223372036854775807):(toS b).length≤mxL:=h
theorem mkS_toS (b:ByteArray):mkS (toS b)=b:=by
 apply ByteArray.ext;simp[mkS,toS]
mutual
def toF:Mx.Form→Form
 | ⟨k,nm,n,sc,kids⟩=>⟨k,toS nm,n,sc,toFs kids⟩
def toFs:List Mx.Form→List Form
 | []=>[]
 | f::r=>toF f::toFs r
end
mutual
def toC:Mx.Core→Core
 | ⟨k,id,nm,n,ids,dt,kids⟩=>⟨k,id,toS nm,n,ids,toF dt,toCs kids⟩
def toCs:List Mx.Core→List Core
 | []=>[]
 | f::r=>toC f::toCs r
end
theorem ints_D (l:List Int):KD.DLL (ksInt l)=Mx.intsD l:=by
 rw[KD.DLL_map];simp only[ksInt,Mx.intsD,List.map_map];rfl
mutual
theorem formK_D:∀f:Mx.Form,KD.DL (formK (toF f))=Mx.formD f
 | ⟨k,nm,n,sc,kids⟩=>by simp only[toF,formK,Mx.formD,KD.DL,KD.D,mkS_toS,ints_D,forms_D kids]; rfl
theorem forms_D:∀l:List Mx.Form,KD.DLL (ksForm (toFs l))=Mx.formsD l
 | []=>rfl
 | f::r=>by simp only[toFs,ksForm,Mx.formsD,KD.DLL,formK_D f,forms_D r]
end
theorem formK_eq (f:Form):formK f=kForm f:=by cases f; rfl
theorem form_D (f:Mx.Form):KD.DL (kForm (toF f))=Mx.cForm f:=by rw[← formK_eq,formK_D,Mx.formD_eq]
mutual
theorem coreK_D:∀f:Mx.Core,KD.DL (coreK (toC f))=Mx.coreD f
 | ⟨k,id,nm,n,ids,dt,kids⟩=>by
  have h:=form_D dt;simp only[kForm,Mx.cForm,KD.DL,KD.D,List.cons.injEq,and_true] at h;obtain⟨h1,h2,h3,h4,h5⟩:=h;simp only[toC,coreK,Mx.coreD,KD.DL,KD.D,mkS_toS,cores_D kids,h1,h2,h3,h4,h5];simp only[ints_D]; rfl
theorem cores_D:∀l:List Mx.Core,KD.DLL (ksCore (toCs l))=Mx.coresD l
 | []=>rfl
 | f::r=>by simp only[toCs,ksCore,Mx.coresD,KD.DLL,coreK_D f,cores_D r]
end
theorem coreK_eq (f:Core):coreK f=kCore f:=by cases f; rfl
theorem core_D (f:Mx.Core):KD.DL (kCore (toC f))=Mx.cCore f:=by rw[← coreK_eq,coreK_D,Mx.coreD_eq]
def RdC (cx:Cx) (w:World) (cs:List D):Prop:=∀(j:Nat) d,cs[j]? = some d→∃x,Rd cx w d x
theorem rd_sl {cx:Cx} {w:World} {z:Nat} {tok:Mx.Tok} {xs:List (List D)} {v:Go.Value} (h:Rd cx w (.sl z tok xs) v):xs.length≤mxL∧∀c∈xs,RdC cx w c:=by
 cases h with
 | sl A vs h1 h2 h3 h4 h5 h6 h7=>
  refine⟨Nat.le_trans h1 h2,fun c hc j d hj=>?_⟩;obtain⟨i,hi⟩:=List.getElem?_of_mem hc;exact⟨_,h6 i j c d hi hj⟩
mutual
theorem okF_rd {cx:Cx} {w:World}:∀(f:Mx.Form),Mx.okForm f→RdC cx w (Mx.formD f)→okF (toF f)
 | ⟨k,nm,n,sc,kids⟩,ho,h=>by
  simp only[Mx.okForm] at ho;obtain⟨v3,h3⟩:=h 3 _ rfl;obtain⟨v4,h4⟩:=h 4 _ rfl;obtain⟨a1,_⟩:=rd_sl h3;obtain⟨b1,b2⟩:=rd_sl h4;rw[Mx.intsD_length] at a1;simp only[toF,okF];refine⟨toS_le ho.1,a1,?_,okFs_rd kids ho.2 b2⟩;have e:=congrArg List.length (forms_D kids);rw[Mx.DLL_length,dForm.length] at e;rw[e]; exact b1
theorem okFs_rd {cx:Cx} {w:World}:∀(l:List Mx.Form),Mx.okForms l→(∀c∈Mx.formsD l,RdC cx w c)→okFs (toFs l)
 | [],_,_=>by simp only[toFs,okFs]
 | f::r,ho,h=>by
  simp only[Mx.okForms] at ho;simp only[toFs,okFs];simp only[Mx.formsD,List.forall_mem_cons] at h;exact⟨okF_rd f ho.1 h.1,okFs_rd r ho.2 h.2⟩
end
mutual
theorem okC_rd {cx:Cx} {w:World}:∀(f:Mx.Core),Mx.okCore f→RdC cx w (Mx.coreD f)→okC (toC f)
 | ⟨k,id,nm,n,ids,dt,kids⟩,ho,h=>by
  simp only[Mx.okCore] at ho;obtain⟨v4,h4⟩:=h 4 _ rfl;obtain⟨v10,h10⟩:=h 10 _ rfl;obtain⟨a1,_⟩:=rd_sl h4;obtain⟨b1,b2⟩:=rd_sl h10;rw[Mx.intsD_length] at a1;have hd:RdC cx w (Mx.formD dt):=fun j d hj=>by
   rw[Mx.formD_eq] at hj
   match j,hj with
   | 0,hj=>exact h 5 d hj
   | 1,hj=>exact h 6 d hj
   | 2,hj=>exact h 7 d hj
   | 3,hj=>exact h 8 d hj
   | 4,hj=>exact h 9 d hj
   | j+5,hj=>simp[Mx.cForm] at hj
  simp only[toC,okC];refine⟨toS_le ho.1,a1,okF_rd dt ho.2.1 hd,?_,okCs_rd kids ho.2.2 b2⟩;have e:=congrArg List.length (cores_D kids);rw[Mx.DLL_length,dCore.length] at e;rw[e]; exact b1
theorem okCs_rd {cx:Cx} {w:World}:∀(l:List Mx.Core),Mx.okCores l→(∀c∈Mx.coresD l,RdC cx w c)→okCs (toCs l)
 | [],_,_=>by simp only[toCs,okCs]
 | f::r,ho,h=>by
  simp only[Mx.okCores] at ho;simp only[toCs,okCs];simp only[Mx.coresD,List.forall_mem_cons] at h;exact⟨okC_rd f ho.1 h.1,okCs_rd r ho.2 h.2⟩
end
theorem rdC_of {cx:Cx} {w:World} {cs:List D} {vs:List Go.Value} (h1:cs.length=vs.length) (h2:∀(j:Nat) d x,cs[j]? = some d→vs[j]? = some x→Rd cx w d x):RdC cx w cs:=fun j d hj=>by
 obtain⟨x,hx⟩:=Mx.len_get h1.symm hj;exact⟨x,h2 j d x hj hx⟩
theorem okC_agg {cx:Cx} {w:World} (c:Mx.Core) (ho:Mx.okCore c) {cs:Array Go.Value} (hr:Rd cx w (.agg (Mx.cCore c)) (.agg cs)):okC (toC c):=by
 refine okC_rd (cx:=cx) (w:=w) c ho ?_;rw[Mx.coreD_eq];cases hr with
 | agg h1 h2=>exact rdC_of h1 h2
end Go.Ev
namespace Go.Ev
open Go.Mx (KD ED EObj forL forI seqS iterM bitsI)
set_option linter.unusedVariables false
set_option linter.unusedSimpArgs false
theorem w_id {x:Int} (h:-9223372036854775808≤x) (h':x≤9223372036854775807):w64 x=x:=by
 unfold w64; rw[IntKind.wrap_i64]; omega
theorem bindE {α β:Type} {x:Option α} {a:α} (hx:x=some a) {f:α→Option β} {b:Option β} (h:f a=b):x.bind f=b:=by subst hx; exact h
theorem iter_ev {σ ω:Type} {step:Nat→σ→Option (ω⊕σ)} (μ:σ→Nat) (I:σ→Prop) (Q:ω→Prop) (hs:∀s,I s→(∃w,Evt (fun n=>step n s) (.inl w)∧Q w)∨(∃s',Evt (fun n=>step n s) (.inr s')∧I s'∧μ s'<μ s)) :
  ∀s,I s→∃w,Evt (fun n=>iterM n (step n) s) w∧Q w:=by
 have main:∀m s,μ s≤m→I s→∃w K,Q w∧∀n,K≤n→∀fuel,m+1≤fuel→iterM fuel (step n) s=some w:=by
  intro m
  induction m with
  | zero=>
   intro s hm hi;rcases hs s hi with ⟨w,⟨N,h⟩,hq⟩ | ⟨s',_,_,h3⟩
   ·refine⟨w,N,hq,fun n hn fuel hf=>?_⟩;obtain⟨k,rfl⟩:∃k,fuel=k+1:=⟨fuel-1,by omega⟩
    simp only[iterM];exact bindE (h n hn) rfl
   ·omega
  | succ m ih=>
   intro s hm hi;rcases hs s hi with ⟨w,⟨N,h⟩,hq⟩ | ⟨s',⟨N,h⟩,h2,h3⟩
   ·refine⟨w,N,hq,fun n hn fuel hf=>?_⟩;obtain⟨k,rfl⟩:∃k,fuel=k+1:=⟨fuel-1,by omega⟩
    simp only[iterM];exact bindE (h n hn) rfl
   ·obtain⟨w,K,hq,hk⟩:=ih s' (by omega) h2;refine⟨w,max N K,hq,fun n hn fuel hf=>?_⟩;obtain⟨k,rfl⟩:∃k,fuel=k+1:=⟨fuel-1,by omega⟩
    simp only[iterM];exact bindE (h n (by omega)) (hk n (by omega) k (by omega))
 intro s hi;obtain⟨w,K,hq,hk⟩:=main (μ s) s (Nat.le_refl _) hi;exact⟨w,⟨max K (μ s+1),fun n hn=>hk n (by omega) n (by omega)⟩,hq⟩
end Go.Ev
namespace Go.Ev
open Go.Mx (KD ED EObj forL forI seqS iterM)
theorem copyA_ev {α:Type} {m:Nat→α→Option α} {xs:List α} {be:Nat} (hb:xs.length*be≤140737488355328) (h:∀x∈xs,Evt (fun n=>m n x) x) :
  Evt (fun n=>Mx.forL (fun(s:List α) (_:Nat) (x:α)=>(m n x).bind fun k=>(apB be s [k]).bind fun z=>some z) 0 xs []) xs:=by
 obtain⟨s,h1,h2,h3⟩:=Evt.forL (step:=fun n (s:List α) (_:Nat) (x:α)=>(m n x).bind fun k=>(apB be s [k]).bind fun z=>some z)
  (fun i q s=>xs.drop i=q∧s=xs.take i) (fun i x q s ⟨g1,g2⟩=>by
   have hi:i<xs.length:=by
    rcases Nat.lt_or_ge i xs.length with h | h
    ·exact h
    ·rw[List.drop_eq_nil_of_le h] at g1; cases g1
   have hx:xs[i]=x∧xs.drop (i+1)=q:=by
    rw[List.drop_eq_getElem_cons hi] at g1;exact List.cons.inj g1
   have hmem:x∈xs:=hx.1▸List.getElem_mem hi;subst g2;have hap:apB be (xs.take i) [x]=some (xs.take i++[x]):=by
    unfold apB;rw[if_pos];have:((xs.take i).length+[x].length)*be≤xs.length*be:=Nat.mul_le_mul_right _ (by simp; omega);omega
   refine⟨xs.take i++[x],(h x hmem).bind (g:=fun _ k=>(apB be (xs.take i) [k]).bind fun z=>some z) (.const (bindE (f:=fun z=>some z) hap rfl)),hx.2,?_⟩;rw[List.take_add_one,List.getElem?_eq_getElem hi,hx.1]; rfl) xs 0 [] ⟨rfl,rfl⟩
 have e:s=xs:=by simpa using h3
 subst e;exact h1
theorem apB_nil {α:Type} {be:Nat} {l:List α} (h:l.length*be≤140737488355328):apB be [] l=some l:=by
 unfold apB;rw[if_pos (by simpa using h)]; rfl
end Go.Ev
namespace Go.Ev
open Go.Mx (KD ED EObj D Rd RdL Cx)
set_option linter.unusedVariables false
end Go.Ev
namespace Go.Mx
set_option linter.unusedVariables false
set_option linter.unusedSimpArgs false
abbrev iE (x:Int):ED:=.d (.v (.int .i64 x))
abbrev bE (x:Bool):ED:=.d (.v (.bool x))
abbrev dE (p:Prop) [Decidable p]:ED:=.d (.v (.bool (decide p)))
abbrev sE (x:List UInt8):ED:=.d (.s x)
abbrev lE (z:Nat) (xs:List (List KD)):ED:=.d (.sl z false xs)
abbrev nE:ED:=.d (.v (.slice none 0 0))
abbrev fE (z:Nat) (xs:List (List KD)):ED:=.d (.sl z true xs)
abbrev aE (cs:List KD):ED:=.d (.agg cs)
abbrev pw (u:Nat):ED:=.ptr (.own u) 0
abbrev pl (u:Nat):ED:=.ptr (.low u) 0
theorem A {p q:Prop} (h:p) (k:q):p∧q:=⟨h,k⟩
abbrev T:=True.intro
def inL (t:Nat):List Nat→Bool
 | []=>false
 | u::r=>match Nat.beq t u with
  | true=>true
  | false=>inL t r
theorem inL_false {t:Nat}:∀{l:List Nat},inL t l=false→t∉l
 | [],_=>by simp
 | u::r,h=>by
  unfold inL at h;split at h
  ·cases h
  ·rename_i hb;intro hm;cases hm with
   | head=>rw[Nat.beq_refl] at hb; cases hb
   | tail _ hm=>exact inL_false h hm
def okW (c old:List Nat):List Oper→Bool
 | []=>true
 | o::r=>match o.dst with
  | none=>okW c old r
  | some t=>match inL t c with
   | true=>okW c old r
   | false=>match inL t old with
    | true=>false
    | false=>okW c old r
theorem okW_spec {c old:List Nat}:∀{ops:List Oper},okW c old ops=true→∀t,t∉c→t∈old→∀o∈ops,o.dst≠some t
 | [],_,t,_,_,o,ho=>by cases ho
 | a::r,h,t,h1,h2,o,ho=>by
  unfold okW at h;have hr:okW c old r=true:=by
   split at h
   ·exact h
   ·split at h
    ·exact h
    ·split at h
     ·cases h
     ·exact h
  cases ho with
  | tail _ ho=>exact okW_spec hr t h1 h2 o ho
  | head=>
   intro e;rw[e] at h;simp only at h;split at h
   ·rename_i hc;apply h1;clear h hr
    induction c with
    | nil=>cases hc
    | cons u c ih=>
     unfold inL at hc;split at hc
     ·rename_i hb; rw[Nat.eq_of_beq_eq_true hb]; exact List.mem_cons_self
     ·exact List.mem_cons_of_mem _ (ih (fun hm=>h1 (List.mem_cons_of_mem _ hm)) hc)
   ·split at h
    ·cases h
    ·rename_i hb; exact inL_false hb h2
theorem app_keep {s:ES} {dst:Option Nat} {δ:Dl} {t:Nat} (h:dst≠some t):(s.app dst δ).ρ t=s.ρ t:=by
 cases dst with
 | none=>rfl
 | some u=>
  simp only[ES.app,updO,updE];cases hb:Nat.beq t u with
  | false=>rfl
  | true=>exact absurd (by rw[Nat.eq_of_beq_eq_true hb]) h
theorem evSeq_keep {X:Ctx} {N:Nat} {all:Array Oper} {t:Nat}:∀{ops:List Oper} {s s':ES} {hs:List Hint} {ob:Prop} {qs:List (Int×Int)},evSeq X N all ops s hs=some (s',ob,qs)→(∀o∈ops,o.dst≠some t)→s'.ρ t=s.ρ t
 | [],s,s',hs,ob,qs,h,_=>by cases h; rfl
 | o::r,s,s',hs,ob,qs,h,hd=>by
  simp only[evSeq] at h;split at h
  ·cases h
  ·rename_i δ q hg;split at h
   ·cases h
   ·rename_i s2 ob2 qs2 hr;cases h;rw[evSeq_keep hr fun o ho=>hd o (List.mem_cons_of_mem _ ho)];exact app_keep (hd o List.mem_cons_self)
theorem evStps_keep {X:Ctx} {N:Nat} {all:Array Oper} {hq:List (Nat×List Hint)} {t:Nat}:∀{i:Nat} {ops:List Oper} {s e:ES} {R:List Stp},evStps X N all hq i ops s=some (R,e)→(∀o∈ops,o.dst≠some t)→e.ρ t=s.ρ t
 | i,[],s,e,R,h,_=>by cases h; rfl
 | i,o::r,s,e,R,h,hd=>by
  simp only[evStps] at h;split at h
  ·cases h
  ·rename_i δ q hg;split at h
   ·cases h
   ·rename_i R' e' hr;cases h;rw[evStps_keep hr fun o ho=>hd o (List.mem_cons_of_mem _ ho)];exact app_keep (hd o List.mem_cons_self)
theorem mkE_app {c l:List (Nat×ED)} (t:Nat):mkE (c++l) t=(match inL t (c.map Prod.fst) with | true=>mkE c t | false=>mkE l t):=by
 induction c with
 | nil=>rfl
 | cons p r ih=>
  obtain⟨u,e⟩:=p;simp only[List.cons_append,mkE,updE,List.map_cons,inL];cases hb:Nat.beq t u with
  | true=>rfl
  | false=>exact ih
theorem mkE_none {l:List (Nat×ED)} {t:Nat} (h:t∉l.map Prod.fst):mkE l t=.d .any:=by
 induction l with
 | nil=>rfl
 | cons p r ih=>
  obtain⟨u,e⟩:=p;simp only[List.map_cons,List.mem_cons,not_or] at h;simp only[mkE,updE];cases hb:Nat.beq t u with
  | true=>exact absurd (Nat.eq_of_beq_eq_true hb) h.1
  | false=>exact ih h.2
theorem keep_wk {κ:Pl→Key} {c l:List (Nat×ED)} {ops:List Oper} {ρ:Nat→ED} (hc:(c.map Prod.fst).map ρ=c.map Prod.snd) (hw:okW (c.map Prod.fst) (l.map Prod.fst) ops=true)
  (hk:∀t,(∀o∈ops,o.dst≠some t)→ρ t=mkE l t) (t:Nat):Wk ((ρ t).D κ) ((mkE (c++l) t).D κ):=by
 rw[mkE_app];split
 ·exact mkE_map hc t
 ·rename_i hb;have hb:=inL_false hb;by_cases hm:t∈l.map Prod.fst
  ·rw[hk t (okW_spec hw t hb hm)]; exact Wk.refl _
  ·rw[mkE_none hm]; exact Wk.any _
inductive FU where
 | c (u j:Nat) (v:ED)
 | o (u:Nat) (ob:EObj)
 | x (u:Nat)
def apF:List FU→List (Nat×EObj)→List (Nat×EObj)
 | [],f=>f
 | .c u j v::r,f=>match getF f u with
  | some (.cells cs)=>apF r (setF f u (.cells (cs.set j v)))
  | _=>apF r f
 | .o u ob::r,f=>apF r (setF f u ob)
 | .x u::r,f=>apF r (delF f u)
def apO:List FU→List (Option EObj)→List (Option EObj)
 | [],f=>f
 | .c u j v::r,f=>match (f[u]?).getD none with
  | some (.cells cs)=>apO r (f.set u (some (.cells (cs.set j v))))
  | _=>apO r f
 | .o u ob::r,f=>apO r (f.set u (some ob))
 | .x u::r,f=>apO r (f.set u none)
def jE (lv:List Nat) (c l:List (Nat×ED)):List (Nat×ED):=c++lv.map fun t=>(t,mkE l t)
def evRegC (X:Ctx) (N:Nat) (c:List Nat) (ops:Array Oper) (l:List (Nat×ED)) (f:List (Nat×EObj)) (os:List (Option EObj)) (hs:List Hint):Option (List ED×List (Nat×EObj)×List (Option EObj)×Prop×List (Int×Int)):=
 match okW c (l.map Prod.fst) ops.toList with
 | true=>evReg X N c ops ⟨mkE l,f,os⟩ hs
 | false=>none
def evDrC (X:Ctx) (N:Nat) (c:List Nat) (ops:Array Oper) (l:List (Nat×ED)) (f:List (Nat×EObj)) (os:List (Option EObj)) (hq:List (Nat×List Hint)):Option (List ED×List (Nat×EObj)×List (Option EObj)×Prop×List (Int×Int)):=
 match okW c (l.map Prod.fst) ops.toList with
 | true=>evDr X N c ops ⟨mkE l,f,os⟩ hq
 | false=>none
section
variable {W : Wd} {k k' : List KI} {l : List (Nat × ED)} {f : List (Nat × EObj)} {os : List (Option EObj)} {τ ω ρ σ α : Type}
theorem WG.rq {id:Nat} {ops:Array Oper} (hs:List Hint) (qs:List Int) {ob:Prop} (ho:ob) (c:List (Nat×ED)) (cf co:List FU) (hf:flatK 64 k=.code (.region id ops false)::k')
  (he:evRegC W.X W.N (c.map Prod.fst) ops l f os hs=some (c.map Prod.snd,apF cf f,apO co os,ob,qs.map fun x=>(x,x))) (hk:WG W k' (c++l) (apF cf f) (apO co os)):WG W k l f os:=by
 refine WS.flat (n:=64) ?_;rw[hf];unfold evRegC at he;split at he
 ·rename_i hw;unfold evReg at he;split at he
  ·rename_i s' ob' qs' hseq;simp only[Option.some.injEq,Prod.mk.injEq] at he;obtain⟨e1,e2,e3,e4,e5⟩:=he;subst e4; subst e5;have hlast:WS W (.ops ops []::k') s':=fun hlen=>AW.opsNil (AW.weak (keep_wk (l:=l) e1 hw fun t ht=>evSeq_keep hseq ht) (by
    have:=hk;rw[← e2,← e3] at this;exact this hlen))
   exact fun hlen=>AW.region (evSeq_sound hseq ho (eqsOk_refl _) hlast hlen)
  ·cases he
 ·cases he
theorem WG.r {id:Nat} {ops:Array Oper} (hs:List Hint) {ob:Prop} (ho:ob) (c:List (Nat×ED)) (hf:flatK 64 k=.code (.region id ops false)::k')
  (he:evRegC W.X W.N (c.map Prod.fst) ops l f os hs=some (c.map Prod.snd,f,os,ob,[])) (hk:WG W k' (c++l) f os):WG W k l f os:=
 WG.rq hs [] ho c [] [] hf he hk
theorem WG.rf {id:Nat} {ops:Array Oper} (hs:List Hint) {ob:Prop} (ho:ob) (c:List (Nat×ED)) (cf:List FU) (hf:flatK 64 k=.code (.region id ops false)::k')
  (he:evRegC W.X W.N (c.map Prod.fst) ops l f os hs=some (c.map Prod.snd,apF cf f,os,ob,[])) (hk:WG W k' (c++l) (apF cf f) os):WG W k l f os:=
 WG.rq hs [] ho c cf [] hf he hk
theorem WG.ro {id:Nat} {ops:Array Oper} (hs:List Hint) {ob:Prop} (ho:ob) (c:List (Nat×ED)) (co:List FU) (hf:flatK 64 k=.code (.region id ops false)::k')
  (he:evRegC W.X W.N (c.map Prod.fst) ops l f os hs=some (c.map Prod.snd,f,apO co os,ob,[])) (hk:WG W k' (c++l) f (apO co os)):WG W k l f os:=
 WG.rq hs [] ho c [] co hf he hk
theorem WG.rd {id:Nat} {ops:Array Oper} (hm:W.X.E.P.follows .mixedOrders=true) (hq:List (Nat×List Hint)) (qs:List Int) {ob:Prop} (ho:ob) (c:List (Nat×ED)) (cf co:List FU) (hf:flatK 64 k=.code (.region id ops true)::k')
  (he:evDrC W.X W.N (c.map Prod.fst) ops l f os hq=some (c.map Prod.snd,apF cf f,apO co os,ob,qs.map fun x=>(x,x))) (hk:WG W k' (c++l) (apF cf f) (apO co os)):WG W k l f os:=by
 refine WS.flat (n:=64) ?_;rw[hf];unfold evDrC at he;split at he
 ·rename_i hw;unfold evDr at he;split at he
  ·rename_i R e hst;split at he
   ·rename_i hpairs;simp only[Option.some.injEq,Prod.mk.injEq] at he;obtain⟨e1,e2,e3,e4,e5⟩:=he;subst e4;have hend:WS W k' e:=fun hlen=>AW.weak (keep_wk (l:=l) e1 hw fun t ht=>evStps_keep hst ht) (by
     have:=hk;rw[← e2,← e3] at this;exact this hlen)
    obtain⟨h1,h2,h3,h4⟩:=stps_at hst;obtain⟨p1,p2⟩:=pairs_all hpairs;have hplan:Plan ops (Array.replicate ops.size false) R:=by
     refine⟨fun j hj=>?_,fun a ha=>?_,p2,?_,fun j o _ hj=>(by simp[Array.getElem?_replicate] at hj; split at hj <;> simp at hj),obs_all ho (by rw[e5]; exact eqsOk_refl _)⟩
     ·have:=getD_lt hj;obtain⟨a,ha,hi⟩:=h3 j (by simpa using this);exact⟨a,ha,by omega⟩
     ·obtain⟨g1,g2⟩:=h2 a ha;rw[Nat.sub_zero] at g2;have hlt:a.i<ops.size:=by have:=(List.getElem?_eq_some_iff.1 g2).1; simpa using this
      exact⟨by simp[hlt],by rw[← Array.getElem?_toList]; exact g2⟩
     ·have:=List.pairwise_and_iff.2 ⟨h4,p1⟩;exact this
    intro hlen B cx a w hB hl hex hrel;obtain⟨hr',he'⟩:=hrel.drawn;refine wp_region_any hm ?_;exact drawn_sound hend (fun _ _=>trivial) ops.size _ R _ (by rw[h1]; simp) (by simp) hplan (stps_run hst) hlen B cx a _ hB hl (hex.trans (he'.weaken fun _ _=>rfl)) hr'
   ·cases he
  ·cases he
 ·cases he
theorem WG.cP {p:Prop} [Decidable p] {x y:Option ρ} {r:ρ} (h:(if p then x else y)=some r) {c:Operand} {a b:Code} (hf:flatK 64 k=.code (.cond c a b)::k') (hc:evO W.X.G (mkE l) c=.d (.v (.bool (decide p))))
  (h1:p→x=some r→WG W (.code a::k') l f os) (h2:¬p→y=some r→WG W (.code b::k') l f os):WG W k l f os:=
 WG.condP hf hc (fun hp=>h1 hp (iteP hp h)) (fun hp=>h2 hp (iteN hp h))
theorem WG.cT {v:Bool} {x y:Option ρ} {r:ρ} (h:(if v=true then x else y)=some r) {c:Operand} {a b:Code} (hf:flatK 64 k=.code (.cond c a b)::k') (hc:evO W.X.G (mkE l) c=.d (.v (.bool v)))
  (h1:v=true→x=some r→WG W (.code a::k') l f os) (h2:¬v=true→y=some r→WG W (.code b::k') l f os):WG W k l f os:=
 WG.cond hf hc (fun hp=>h1 hp (iteP hp h)) (fun hp=>h2 (by rw[hp]; decide) (iteN (by rw[hp]; decide) h))
theorem WG.cB (v:Bool) {c:Operand} {a b:Code} (hf:flatK 64 k=.code (.cond c a b)::k') (hc:evO W.X.G (mkE l) c=.d (.v (.bool v)))
  (h:WG W (.code (match v with | true=>a | false=>b)::k') l f os):WG W k l f os:=
 WG.cond hf hc (fun hp=>by subst hp; exact h) (fun hp=>by subst hp; exact h)
theorem WG.bP {X:Option τ} {R:τ→Option ρ} {r:ρ} (h:X.bind R=some r) {c:Code} (hf:flatK 64 k=.code c::k') (lv:List Nat) (ce:τ→List (Nat×ED)) (cf co:τ→List FU)
  (jp:∀t,R t=some r→WG W (flatK 64 k') (jE lv (ce t) l) (apF (cf t) f) (apO (co t) os)) (body:∀t,X=some t→WG W (flatK 64 k') (jE lv (ce t) l) (apF (cf t) f) (apO (co t) os)→WG W (.code c::k') l f os):WG W k l f os:=
 WG.bindP h hf _ (fun t=>apF (cf t) f) (fun t=>apO (co t) os) jp body
theorem WG.bSB {X:Option (ω⊕τ)} {R:τ→Option ω} {r:ω} (h:seqS X R=some r) {c:Code} (hf:Mx.flatB 64 k=.code c::k') (lv:List Nat) (ce:τ→List (Nat×ED)) (cf co:τ→List FU)
  (jp:∀t,R t=some r→WG W (flatK 64 k') (jE lv (ce t) l) (apF (cf t) f) (apO (co t) os)) (body:∀o,X=some o→(∀t,o=.inr t→WG W (flatK 64 k') (jE lv (ce t) l) (apF (cf t) f) (apO (co t) os))→(∀w,o=.inl w→w=r)→WG W (.code c::k') l f os):WG W k l f os:=
 WG.bindSB h hf _ (fun t=>apF (cf t) f) (fun t=>apO (co t) os) jp body
abbrev n1:τ→List FU:=fun _=>[]
abbrev n2:Nat→τ→List FU:=fun _ _=>[]
theorem WG.lf {l':List (Nat×ED)} {f':List (Nat×EObj)} {os':List (Option EObj)} (hj:WG W k' l' f' os') (hf:flatK 64 k=k') (fogs:List Nat) (he:(lessE fogs (mkE l) (l'.map Prod.fst),f,os)=(l'.map Prod.snd,f',os')):WG W k l f os:=by
 simp only[Prod.mk.injEq] at he;exact WG.leaf hj hf fogs he.1 he.2.1 he.2.2
theorem WG.lL {c:Code} {xs:List α} {s0:σ} {step:σ→Nat→α→Option σ} {R:σ→Option ρ} {r:ρ} (h:(forL step 0 xs s0).bind R=some r) (hf:flatK 64 k=.code (.loop c)::k') (lv:List Nat) (ce:Nat→σ→List (Nat×ED)) (cf co:Nat→σ→List FU) (fogs:List Nat)
  (he:(lessE fogs (mkE l) ((jE lv (ce 0 s0) l).map Prod.fst),f,os)=((jE lv (ce 0 s0) l).map Prod.snd,apF (cf 0 s0) f,apO (co 0 s0) os))
  (round:∀i s q,xs.drop i=q→i≤xs.length→(forL step i q s).bind R=some r→WG W (.code c::.goal (ListJ W (fun i s=>jE lv (ce i s) l) (fun i s=>apF (cf i s) f) (fun i s=>apO (co i s) os) xs (fun i q s=>(forL step i q s).bind R=some r) q.length)::k') (jE lv (ce i s) l) (apF (cf i s) f) (apO (co i s) os)):WG W k l f os:=by
 simp only[Prod.mk.injEq] at he;exact WG.listL h hf (fun i s=>jE lv (ce i s) l) (fun i s=>apF (cf i s) f) (fun i s=>apO (co i s) os) fogs he.1 he.2.1 he.2.2 round
theorem WG.lI {c:Code} {xs:List α} {s0:σ} {step:σ→Nat→α→Option (ρ⊕σ)} {R:σ→Option ρ} {r:ρ} (h:seqS (forI step 0 xs s0) R=some r) (hf:flatK 64 k=.code (.loop c)::k') (lv:List Nat) (ce:Nat→σ→List (Nat×ED)) (cf co:Nat→σ→List FU) (fogs:List Nat)
  (he:(lessE fogs (mkE l) ((jE lv (ce 0 s0) l).map Prod.fst),f,os)=((jE lv (ce 0 s0) l).map Prod.snd,apF (cf 0 s0) f,apO (co 0 s0) os))
  (round:∀i s q,xs.drop i=q→i≤xs.length→seqS (forI step i q s) R=some r→WG W (.code c::.goal (ListJ W (fun i s=>jE lv (ce i s) l) (fun i s=>apF (cf i s) f) (fun i s=>apO (co i s) os) xs (fun i q s=>seqS (forI step i q s) R=some r) q.length)::k') (jE lv (ce i s) l) (apF (cf i s) f) (apO (co i s) os)):WG W k l f os:=by
 simp only[Prod.mk.injEq] at he;exact WG.listI h hf (fun i s=>jE lv (ce i s) l) (fun i s=>apF (cf i s) f) (fun i s=>apO (co i s) os) fogs he.1 he.2.1 he.2.2 round
theorem WG.nL {env:Nat→σ→List (Nat×ED)} {fr:Nat→σ→List (Nat×EObj)} {low:Nat→σ→List (Option EObj)} {xs:List α} {run:Nat→List α→σ→Prop} {x:α} {q:List α} (hf:flatK 64 k=.goal (ListJ W env fr low xs run (x::q).length)::k') (i:Nat) (s:σ) (hd:xs.drop i=q) (hi:i≤xs.length) (hr:run i q s) (fogs:List Nat)
  (he:(lessE fogs (mkE l) ((env i s).map Prod.fst),f,os)=((env i s).map Prod.snd,fr i s,low i s)):WG W k l f os:=by
 simp only[Prod.mk.injEq] at he;exact WG.nextL hf i s hd hi hr fogs he.1 he.2.1 he.2.2
theorem WG.it {c:Code} {step:σ→Option (ρ⊕σ)} {n:Nat} {s0:σ} {o:ρ} (h:iterM n step s0=some o) (hf:flatK 64 k=.code (.loop c)::k') (lv:List Nat) (ce:σ→List (Nat×ED)) (cf co:σ→List FU) (fogs:List Nat)
  (he:(lessE fogs (mkE l) ((jE lv (ce s0) l).map Prod.fst),f,os)=((jE lv (ce s0) l).map Prod.snd,apF (cf s0) f,apO (co s0) os))
  (round:∀n s,iterM (n+1) step s=some o→WG W (.code c::.goal (IterJ W (fun s=>jE lv (ce s) l) (fun s=>apF (cf s) f) (fun s=>apO (co s) os) step o (n+1))::k') (jE lv (ce s) l) (apF (cf s) f) (apO (co s) os)):WG W k l f os:=by
 simp only[Prod.mk.injEq] at he;exact WG.iter h hf (fun s=>jE lv (ce s) l) (fun s=>apF (cf s) f) (fun s=>apO (co s) os) fogs he.1 he.2.1 he.2.2 round
theorem WG.nI {env:σ→List (Nat×ED)} {fr:σ→List (Nat×EObj)} {low:σ→List (Option EObj)} {step:σ→Option (ρ⊕σ)} {o:ρ} {n:Nat} (hf:flatK 64 k=.goal (IterJ W env fr low step o (n+1))::k') (s:σ) (hr:iterM n step s=some o) (fogs:List Nat)
  (he:(lessE fogs (mkE l) ((env s).map Prod.fst),f,os)=((env s).map Prod.snd,fr s,low s)):WG W k l f os:=by
 simp only[Prod.mk.injEq] at he;exact WG.nextI hf s hr fogs he.1 he.2.1 he.2.2
theorem WG.lc {xs q:List α} {i:Nat} (hd:xs.drop i=q) {c:Operand} {a b:Code} (hf:flatK 64 k=.code (.cond c a b)::k') (hc:evO W.X.G (mkE l) c=.d (.v (.bool (decide ((i:Int)<(xs.length:Int))))))
  (h1:∀x q',q=x::q'→xs[i]? = some x→xs.drop (i+1)=q'→i+1≤xs.length→WG W (.code a::k') l f os) (h2:q=[]→WG W (.code b::k') l f os):WG W k l f os:=
 WG.condP hf hc (fun h=>by
  obtain⟨x,r,g1,g2,g3⟩:=drop_cons' hd (by omega);exact h1 x r g1 g2 g3 (by omega)) (fun h=>h2 (drop_nil' hd (by omega)))
theorem WG.kp (lv fogs:List Nat) (hk:WG W k (lv.map fun t=>(t,fogAt fogs t (mkE l t))) f os):WG W k l f os:=by
 refine WG.less fogs _ ?_ hk;simp[lessE]
theorem WG.sn (t:Nat) {ke:α→List KD} {ks:List α→List (List KD)} {sz:Nat} (K:Go.Ev.Kd ke ks sz) (xs:List α) (h:(slE (mkE l t)).map Prod.snd=some (ks xs)) (hk:xs.length≤9223372036854775807→WG W k l f os):WG W k l f os:=by
 cases hs:slE (mkE l t) with
 | none=>rw[hs] at h; cases h
 | some p=>
  obtain⟨z,ys⟩:=p;rw[hs] at h;simp only[Option.map_some,Option.some.injEq] at h;subst h;exact WG.slLen t hs fun hb=>hk (by rw[K.length] at hb; exact hb)
end
def lA:Nat→List ED→List (Nat×ED)
 | _,[]=>[]
 | i,a::r=>(i,a)::lA (i+1) r
theorem lA_map:∀(r p:List ED),(lA p.length r).map (fun q=>(p++r)[q.1]?)=(lA p.length r).map fun q=>some q.2
 | [],p=>rfl
 | a::r,p=>by
  simp only[lA,List.map_cons];have ih:=lA_map r (p++[a]);simp only[List.length_append,List.length_singleton,List.append_assoc,List.singleton_append] at ih;rw[ih];simp
theorem SCall.m {X : Ctx} {g : Nat} {fn : Func} {c : Code} {N : Nat} {args : List ED} {ins : List (Option EObj)} {d : ED} {outs : List EObj} (hf : X.E.P.funcs[g]? = some fn) (hb : fn.body = some c) (hn : (fn.name == "runtime.NumGoroutine") = false) (hN : fn.ntmps = N)
  (hle:(Nat.ble args.length N&&okUL ins.length none args&&okUO ins.length (ins.filterMap id))=true)
  (h:∀(L:Nat) (ks:List Key) (low:List (Option AObj)→St) (K:D→St→Prop) (hl:Low ks low) (hL:∀os,(low os).length=L),ks.length=ins.length→K (d.D (kap 0 ks)) (low (osA (kap 0 ks) (outs.map some)))→WG ⟨X,fn,L,N,ks,low,K,hl,hL⟩ [.code c] (lA 0 args) [] ins):SCall X.E g args ins d outs:=by
 simp only[Bool.and_eq_true] at hle;exact SCall.mk hf hb hn hN hle.1.1 (lA 0 args) (lA_map args []) hle.1.2 hle.2 h
end Go.Mx
namespace Go.Mx
section
variable {W : Wd} {k k' : List KI} {l : List (Nat × ED)} {f : List (Nat × EObj)} {os : List (Option EObj)}
theorem WG.ow (t u:Nat) (e:TypeId) (lv:List Nat) {z:Nat} {xs:List (List KD)} (ht:mkE l t=.d (.sl z true xs)) (hu:getF f u=none)
  (he:((jE lv [(t,.gs (.own u) z xs)] l).map Prod.fst).map (updE (mkE l) t (.gs (.own u) z xs))=(jE lv [(t,.gs (.own u) z xs)] l).map Prod.snd)
  (hk:WG W k (jE lv [(t,.gs (.own u) z xs)] l) (setF f u (.tok xs.length e)) os):WG W k l f os:=
 WG.own t u e ht hu _ he hk
end
end Go.Mx
namespace Go.Mx
def ocF (f:List (Nat×EObj)) (u j v:Nat) (e:TypeId):Option (List (Nat×EObj)):=
 match getF f u with
 | some (.cells cs)=>match cs[j]? with
  | some (.d (.sl z true xs))=>match getF f v with
   | none=>match Nat.beq u v with
    | false=>some (setF (setF f v (.tok xs.length e)) u (.cells (cs.set j (.gs (.own v) z xs))))
    | true=>none
   | _=>none
  | _=>none
 | _=>none
def ocV (f:List (Nat×EObj)) (u j v:Nat) (e:TypeId):Option (List (Nat×EObj)):=
 match getF f u with
 | some (.cells cs)=>match cs[j]? with
  | some (.d (.sl z true []))=>match getF f v with
   | none=>match Nat.beq u v with
    | false=>some (setF (setF f v (.vec e z [])) u (.cells (cs.set j (.vs (.own v) z 0))))
    | true=>none
   | _=>none
  | _=>none
 | _=>none
section
variable {W : Wd} {k k' : List KI} {l : List (Nat × ED)} {f : List (Nat × EObj)} {os : List (Option EObj)}
theorem WG.oc (u j v:Nat) (e:TypeId) (h:(ocF f u j v e).isSome=true) (hk:WG W k l ((ocF f u j v e).getD []) os):WG W k l f os:=by
 unfold ocF at h hk;split at h
 ·rename_i cs hu;split at h
  ·rename_i z xs hj;split at h
   ·rename_i hv;split at h
    ·rename_i hne;simp only[hu,hj,hv,hne,Option.getD_some] at hk;exact WG.ownCell u j v e hu hj hv hne _ rfl hk
    ·cases h
   ·cases h
  ·cases h
 ·cases h
theorem WG.ov (u j v:Nat) (e:TypeId) (h:(ocV f u j v e).isSome=true) (hk:WG W k l ((ocV f u j v e).getD []) os):WG W k l f os:=by
 unfold ocV at h hk;split at h
 ·rename_i cs hu;split at h
  ·rename_i z hj;split at h
   ·rename_i hv;split at h
    ·rename_i hne;simp only[hu,hj,hv,hne,Option.getD_some] at hk;exact WG.ownCellV u j v e hu hj hv hne _ rfl hk
    ·cases h
   ·cases h
  ·cases h
 ·cases h
theorem WG.dr (u:Nat) (h:(okUE os.length (some u) l&&okUF os.length (some u) (delF f u))=true) (hk:WG W k l (delF f u) os):WG W k l f os:=by
 simp only[Bool.and_eq_true] at h;exact WG.drop u h.1 h.2 hk
end
end Go.Mx
namespace Go.Mx
set_option linter.unusedVariables false
set_option linter.unusedSimpArgs false
theorem mkE_of_map {κ:Pl→Key} {l l0:List (Nat×ED)} (h:(l0.map Prod.fst).map (mkE l)=l0.map Prod.snd) (t:Nat):Wk ((mkE l t).D κ) ((mkE l0 t).D κ):=mkE_map h t
section
variable {W : Wd} {k k' : List KI} {l : List (Nat × ED)} {f : List (Nat × EObj)} {os : List (Option EObj)}
theorem WG.moveT (t v i:Nat) (l0:List (Nat×ED)) {e:TypeId} {z n:Nat} {xs:List (List KD)} (ht:mkE l t=.vs (.own v) z n) (hv:getF f v=some (.vec e z xs)) (hi:os[i]? = some none) (h0:(l0.map Prod.fst).map (mkE l)=l0.map Prod.snd)
  (h1:okUE os.length (some v) l0=true) (h2:okUF os.length (some v) (delF f v)=true) (hk:WG W k ((t,.vs (.low i) z n)::l0) (delF f v) (os.set i (some (.vec e z xs)))):WG W k l f os:=fun hlen=>by
 have hlen:os.length=W.ks.length:=hlen;have hp:∀p:Pl,p.okU os.length (some v)=true→notKey W.L v (W.κ p)=true:=fun p hp=>okU_key W.hl W.hL hlen hp;have hL:=W.hL (osA W.κ os);have hio:i<os.length:=by
  rcases Nat.lt_or_ge i os.length with h | h
  ·exact h
  ·rw[List.getElem?_eq_none h] at hi; cases hi
 have hik:W.ks[i]? = some (W.ks[i]'(by omega)):=List.getElem?_eq_getElem (by omega);have hq:W.κ (.low i)=W.ks[i]'(by omega):=kap_low hik;have hlen':(os.set i (some (EObj.vec e z xs))).length=W.ks.length:=by rw[List.length_set]; exact hlen
 intro B cx a w hB hl' hex hr;have r0:Rel W.X.E cx (stD W.κ W.low f os) w:=hr.rel;obtain⟨v1,v2⟩:=getP_st (ks:=W.ks) (p:=.own v) W.hl hL hlen hv;have v1:(stD W.κ W.low f os).get (W.L,v)=some (.vec xs.length e z (KD.DLL xs).flatten):=v1;have hstl:∀f,(stD W.κ W.low f os).length=W.L+1:=fun f=>by simp[stD,hL]
 have hlow:=W.hl.get (osA W.κ os) (by rw[osA_len]; exact hlen) i _ hik;have hqlt:=W.hl.lt (osA W.κ os) i _ hik;rw[hL] at hqlt;have hgq:(stD W.κ W.low f os).get (W.κ (.low i))=none:=by
  rw[hq];show St.get (_::W.low (osA W.κ os)) _=none;rw[St.get_tail (by rw[hL]; exact hqlt),hlow,osA_get,hi]; rfl
 have hok:=okUF_all hp _ h2;obtain⟨cx',r2,hext,htq,hbq⟩:=r0.moveV (k0:=(W.L,v)) (q:=W.κ (.low i)) (n:=xs.length) (e:=e) rfl v1 hgq (by rw[hstl]; simp) (by rw[hstl,hq]; omega) (by
   show allL _ (KD.DLL xs).flatten=true;rw[KDL_flatten]; exact KD.keylessL _ _) (fun key c hne' hg=>by
   have h2:=r0.bodyLv hg;by_cases h1:key.1=W.L
   ·have hg2:mkFr (fA W.κ (delF f v)) key.2=some c:=by
     rw[fA_del,← mkFr_del,Fr.upd_ne _ _ _ _ (fun e=>hne' (Prod.ext h1 e))];have:St.get (mkFr (fA W.κ f)::W.low (osA W.κ os)) key=some c:=hg;simp only[St.get,h1,hL,if_true] at this;exact this
    refine(all_mono (fun q hq=>nek_spec.2 ?_)).2.1 _ (FrAll.ok hok key.2 c hg2);exact notKey_spec.1 hq
   ·have h3:key.1<W.L:=by
     rcases Nat.lt_or_ge key.1 (stD W.κ W.low f os).length with h | h
     ·rw[hstl] at h; omega
     ·rw[St.get_ge h] at hg; cases hg
    refine(all_mono (fun q hq=>nek_spec.2 (fun e=>?_))).2.1 _ h2;simp only[lv,decide_eq_true_eq,e] at hq;omega)
 have e2:(stD W.κ W.low f os).set (W.L,v) none=stD W.κ W.low (delF f v) os:=stD_del hL;rw[e2] at r2;have e3:(stD W.κ W.low (delF f v) os).set (W.κ (.low i)) (some (.vec xs.length e z (KD.DLL xs).flatten))=stD W.κ W.low (delF f v) (os.set i (some (.vec e z xs))):=
  putP_stV (p:=.low i) (o':=.vec e z xs) W.hl hL hlen (Nat.ble_eq_true_of_le hio)
 rw[e3] at r2;have hok1:=okUE_all hp _ h1;refine hk hlen' B cx' a w hB (by show(stD W.κ W.low _ _).length=W.L+1; simp[stD,W.hL]) (hex.trans (hext.weaken fun key hk=>nek_spec.2 (fun e=>?_))) ⟨r2,hr.size,fun u=>?_,hr.defers⟩
 ·have hB:B.L=W.L:=hB;simp only[lv,decide_eq_true_eq,e,hB] at hk;omega
 ·show Rd cx' w ((updE (mkE l0) t (.vs (.low i) z n) u).D W.κ) _;have hu:=hr.tmps u;unfold updE;cases hb:Nat.beq u t with
  | true=>
   have:=Nat.eq_of_beq_eq_true hb;subst this;have hu:Rd cx w ((mkE l u).D W.κ) (a.tmps.getD u undef):=hu;rw[ht] at hu;have hu:Rd cx w (.vs (W.L,v) z n) (a.tmps.getD u undef):=hu;generalize a.tmps.getD u undef=x at hu;cases hu with
   | vs q1 q2 q3=>
    obtain⟨n',e',tl,t1,t2,t3⟩:=q3;exact .vs q1 q2 ⟨n',e',tl,htq.trans t1,t2,t3⟩
  | false=>
   have hu:Rd cx w ((mkE l u).D W.κ) (a.tmps.getD u undef):=hu;have hu:=mkE_of_map h0 u cx w _ hu;refine hu.mono hext ?_;have:=allE_out hok1 u;rw[← mkE_env] at this;exact(all_mono (fun q hq=>nek_spec.2 (notKey_spec.1 hq))).1 _ this
def mvV (n:Nat) (l:List (Nat×ED)) (f:List (Nat×EObj)) (os:List (Option EObj)) (t v i:Nat) (lv:List Nat):Option (ED×EObj):=
 match mkE l t with
 | .vs (.own v') z n'=>match getF f v with
  | some (.vec e z' xs)=>match Nat.beq v' v,Nat.beq z z',os[i]?,okUE n (some v) (lv.map fun t=>(t,mkE l t)),okUF n (some v) (delF f v) with
   | true,true,some none,true,true=>some (.vs (.low i) z n',.vec e z xs)
   | _,_,_,_,_=>none
  | _=>none
 | _=>none
theorem map_self {l:List (Nat×ED)}:∀lv:List Nat,((lv.map fun t=>(t,mkE l t)).map Prod.fst).map (mkE l)=(lv.map fun t=>(t,mkE l t)).map Prod.snd:=fun lv=>by simp
theorem WG.mv (t v i:Nat) (lv:List Nat) (h:(mvV os.length l f os t v i lv).isSome=true)
  (hk:WG W k (jE lv [(t,((mvV os.length l f os t v i lv).getD (.d .any,.tok 0 0)).1)] l) (delF f v) (os.set i (some ((mvV os.length l f os t v i lv).getD (.d .any,.tok 0 0)).2))):WG W k l f os:=by
 unfold mvV at h hk;split at h
 ·rename_i v' z n' ht;split at h
  ·rename_i e z' xs hv;split at h
   ·rename_i h1 h2 h3 h4 h5;simp only[ht,hv,h1,h2,h3,h4,h5,Option.getD_some] at hk;have h1:=Nat.eq_of_beq_eq_true h1;have h2:=Nat.eq_of_beq_eq_true h2;subst h1; subst h2;exact WG.moveT t v' i _ ht hv h3 (map_self lv) h4 h5 hk
   ·cases h
  ·cases h
 ·cases h
theorem WG.freezeT (t v:Nat) (l0:List (Nat×ED)) {e:TypeId} {z n:Nat} {xs:List (List KD)} (ht:mkE l t=.vs (.own v) z n) (hv:getF f v=some (.vec e z xs)) (hn:xs.length=n) (hz:RowsOk z xs) (h0:(l0.map Prod.fst).map (mkE l)=l0.map Prod.snd)
  (h1:okUE os.length (some v) l0=true) (h2:okUF os.length (some v) (delF f v)=true) (hk:WG W k ((t,.d (.sl z false xs))::l0) (delF f v) os):WG W k l f os:=fun hlen=>by
 have hlen:os.length=W.ks.length:=hlen;have hp:∀p:Pl,p.okU os.length (some v)=true→notKey W.L v (W.κ p)=true:=fun p hp=>okU_key W.hl W.hL hlen hp;have hL:=W.hL (osA W.κ os);subst hn;intro B cx a w hB hl' hex hr;have r0:Rel W.X.E cx (stD W.κ W.low f os) w:=hr.rel;obtain⟨v1,v2⟩:=getP_st (ks:=W.ks) (p:=.own v) W.hl hL hlen hv;have v1:(stD W.κ W.low f os).get (W.L,v)=some (.vec xs.length e z (KD.DLL xs).flatten):=v1;have hrj:Rd cx w ((mkE l t).D W.κ) (a.tmps.getD t undef):=hr.tmps t;rw[ht] at hrj;have hrj:Rd cx w (.vs (W.L,v) z xs.length) (a.tmps.getD t undef):=hrj;obtain⟨ad,cap,tl,hval,q1,q2,htk,q3⟩:=r0.vsInv v1 hrj;obtain⟨_,_,_,hcont⟩:=r0.vec _ _ _ _ _ v1;have hokF:=FrAll.ok (okUF_all hp _ h2);rw[fA_del,← mkFr_del,← hL] at hokF;have r1:Rel W.X.E cx (mkFr (fA W.κ f)::W.low (osA W.κ os)) w:=r0;obtain⟨cx',r2,hext,hM,_⟩:=r1.unkey (u:=v) hokF;have hLk:(List.length (W.low (osA W.κ os)),v)=(W.L,v):=by rw[hL]
 rw[mkFr_del,← fA_del] at r2;have r2:Rel W.X.E cx' (stD W.κ W.low (delF f v) os) w:=r2;have hrow:Rd cx' w (.sl z .ro (KD.DLL xs)) (.slice ad xs.length cap):=by
  have hfootv:∀g c,tl=some (g,c,z)→∀i,i<xs.length*z→¬cx'.M g i:=fun g c ht i hi=>by
   refine hM g i (.inr ⟨.vec xs.length e z (KD.DLL xs).flatten,xs.length,e,c,z,⟨?_,rfl⟩,?_,Nat.zero_le _,?_⟩)
   ·rw[hLk]; exact v1
   ·rw[hLk,htk,ht]
   ·obtain⟨tl',t1,t2⟩:=r0.tok _ _ _ _ ⟨v1,rfl⟩;rw[htk] at t1; cases t1;rw[ht] at t2;exact Nat.lt_of_lt_of_le hi (Nat.mul_le_mul_right _ t2.1)
  have hlenx:(KD.DLL xs).length=xs.length:=DLL_length _;cases tl with
  | none=>
   obtain⟨rfl,h0⟩:=q3;have hx0:xs=[]:=List.eq_nil_of_length_eq_zero h0;subst hx0;exact .sl (xs:=[]) (0,0) (fun _ _=>undef) (Nat.zero_le _) q2 (by simp) (by simp) (by simp) (by simp) trivial
  | some gl=>
   obtain⟨g,c,z'⟩:=gl;obtain⟨rfl,rfl,rfl⟩:=q3;have hcont:=(hcont g c z' htk).2;have key:∀(i jj:Nat) r d,(KD.DLL xs)[i]? = some r→r[jj]? = some d→∃x,w.cell? ⟨g,i*z'+jj,none⟩=some x∧Rd cx' w d x∧i*z'+jj<xs.length*z':=fun i jj r d hi hjj=>by
    have hfl:=flat_get (rows_D hz) hi hjj;obtain⟨x,hx,hrd⟩:=hcont _ d hfl;refine⟨x,hx,hrd.mono hext ?_,?_⟩
    ·have:d.all (notKey (List.length (W.low (osA W.κ os))) v)=true:=allL_get (allLL_get (KD.keylessLL _ xs) hi) hjj;exact this
    ·have:=(List.getElem?_eq_some_iff.1 hfl).1
     rwa [flat_len (rows_D hz),hlenx] at this
   have:=Rd.sl (cx:=cx') (w:=w) (sz:=z') (tok:=.ro) (xs:=KD.DLL xs) (a:=some ⟨g,0,none⟩) (cap:=c) (g,0) (fun i jj=>(w.cell? ⟨g,i*z'+jj,none⟩).getD undef) (by rw[hlenx]; exact q1) q2 (fun i r hi=>rows_D hz r (List.mem_of_getElem? hi)) (fun _=>rfl) (fun i jj r d hi hjj=>by
    obtain⟨x,hx,_,hlt⟩:=key i jj r d hi hjj;rw[Nat.zero_add,hx];exact⟨rfl,hfootv g c rfl _ hlt⟩) (fun i jj r d hi hjj=>by
    obtain⟨x,hx,hrd,_⟩:=key i jj r d hi hjj;simp only[hx,Option.getD_some]; exact hrd) trivial
   rw[hlenx] at this;exact this
 have hok1:=okUE_all hp _ h1;refine hk hlen B cx' a w hB (by show(stD W.κ W.low _ _).length=W.L+1; simp[stD,W.hL]) (hex.trans (hext.weaken fun key hk=>notKey_spec.2 (fun e=>?_))) ⟨r2,hr.size,fun u=>?_,hr.defers⟩
 ·have hB:B.L=W.L:=hB;rw[hLk] at e;simp only[lv,decide_eq_true_eq,e,hB] at hk;omega
 ·show Rd cx' w ((updE (mkE l0) t (.d (.sl z false xs)) u).D W.κ) _;have hu:=hr.tmps u;unfold updE;cases hb:Nat.beq u t with
  | true=>
   have:=Nat.eq_of_beq_eq_true hb;subst this;show Rd cx' w (.sl z .ro (KD.DLL xs)) _;rw[hval]; exact hrow
  | false=>
   have hu:Rd cx w ((mkE l u).D W.κ) (a.tmps.getD u undef):=hu;have hu:=mkE_of_map h0 u cx w _ hu;refine hu.mono hext ?_;have:=allE_out hok1 u;rw[← mkE_env] at this;rw[hL]; exact this
def ftV (n:Nat) (l:List (Nat×ED)) (f:List (Nat×EObj)) (t v:Nat) (lv:List Nat):Option (Nat×Nat×List (List KD)):=
 match mkE l t with
 | .vs (.own v') z n'=>match getF f v with
  | some (.vec e z' xs)=>match Nat.beq v' v,Nat.beq z z',okUE n (some v) (lv.map fun t=>(t,mkE l t)),okUF n (some v) (delF f v) with
   | true,true,true,true=>some (n',z,xs)
   | _,_,_,_=>none
  | _=>none
 | _=>none
theorem WG.ft {α:Type} {ke:α→List KD} {ks:List α→List (List KD)} {sz:Nat} (t v:Nat) (lv:List Nat) (K:Go.Ev.Kd ke ks sz) (xs:List α) {n:Nat} (hn:(ks xs).length=n) (h:ftV os.length l f t v lv=some (n,sz,ks xs))
  (hk:WG W k (jE lv [(t,.d (.sl sz false (ks xs)))] l) (delF f v) os):WG W k l f os:=by
 unfold ftV at h;split at h
 ·rename_i v' z n' ht;split at h
  ·rename_i e z' ys hv;split at h
   ·rename_i h1 h2 h3 h4;have h1:=Nat.eq_of_beq_eq_true h1;have h2:=Nat.eq_of_beq_eq_true h2;subst h1; subst h2;simp only[Option.some.injEq,Prod.mk.injEq] at h;obtain⟨rfl,rfl,rfl⟩:=h;exact WG.freezeT t v' _ ht hv hn (K.rows xs) (map_self lv) h3 h4 hk
   ·cases h
  ·cases h
 ·cases h
theorem WG.rn {n n':Nat} (hn:n=n') (ce:Nat→List (Nat×ED)) (cf co:Nat→List FU) (h:(((ce n).map Prod.fst).map (mkE l),apF (cf n) f,apO (co n) os)=((ce n).map Prod.snd,f,os))
  (hk:WG W k (ce n'++l) (apF (cf n') f) (apO (co n') os)):WG W k l f os:=by
 subst hn;simp only[Prod.mk.injEq] at h;obtain⟨h1,h2,h3⟩:=h;rw[h2,h3] at hk;refine fun hlen=>AW.weak (fun t=>?_) (hk hlen);show Wk ((mkE l t).D W.κ) ((mkE (ce n++l) t).D W.κ);rw[mkE_app];split
 ·exact mkE_map h1 t
 ·exact Wk.refl _
end
theorem run_equal_nil {P:Program} {xt:TypeId} {n b:Nat} {e:TypeId} (h:tShape P xt=some (n,b,.slice e)) (a:Option Addr) (m c:Nat) (w:World):(Op.equal xt (.slice a m c) (.slice none 0 0)).run P w=.ok a.isNone w:=by
 obtain⟨inf,u,hi,hu,g1,g2,g3⟩:=tShape_parts h;cases u <;> simp only[shpOf,reduceCtorEq] at g3;unfold Op.equal;rw[show Op.maxDepth=9999+1 from rfl,Op.equalIn];rw[Sem.run_bind,run_underlying hu];cases a <;> rfl
theorem AW.nilq {E:Setting} {U:Fun} {F:D→St→Prop} {k:List KI} {ρ:Env} {st:St} {all:Array Oper} {rest:List Oper} {t:Nat} {ty:TypeId} {pos:String} {af:Array Edge} {xt yt e:TypeId} {n b z:Nat} {x:Operand} {tok:Tok} {xs:List (List D)}
  (ht:Nat.blt t U.N=true) (hT:tShape E.P xt=some (n,b,.slice e)) (hx:ev E ρ x=.sl z tok xs)
  (h1:xs=[]→AW E U (.ops all rest::k) F (upd ρ t (.v (.bool true))) st) (h2:AW E U (.ops all rest::k) F (upd ρ t (.v (.bool false))) st) :
  AW E U (.ops all (⟨some t,.binOp .eql xt x (.const (.slice none 0 0)) yt,ty,pos,af,none⟩::rest)::k) F ρ st:=by
 intro B cx a w hB hlen hext hr;have hv:=hr.eval x;rw[hx] at hv;obtain⟨ad,cap,hval,p1,p2,p3,p4,A,p5,p6⟩:=hr.slInv hx;have hc:a.eval (.const (.slice none 0 0))=.slice none 0 0:=rfl;have hrun:(execOp a.eval ⟨some t,.binOp .eql xt x (.const (.slice none 0 0)) yt,ty,pos,af,none⟩).run E.P w=.ok (.value (.bool ad.isNone)) w:=by
  simp only[execOp,hval,hc];simp[eqGuard,binOp,run_equal_nil hT]
 have hnext:AW E U (.ops all rest::k) F (upd ρ t (.v (.bool ad.isNone))) st:=by
  cases ad with
  | some q=>exact h2
  | none=>
   exact h1 (Classical.byContradiction fun hne=>by have:=p5 hne; cases this)
 have hk':=hnext B cx (a.put (some t) (.bool ad.isNone)) w hB hlen hext (put_rd hr ht (.v _));suffices goal:wpList E.P all (kpost E.P (Gc E U.N B) k (Fin E U.fn F B)) ((⟨some t,.binOp .eql xt x (.const (.slice none 0 0)) yt,ty,pos,af,none⟩:Oper)::rest) a w from goal
 unfold wpList;rw[if_pos (by simp[Region.wanted])];left;unfold Oper.wp;rw[hrun];exact hk'
section
variable {W : Wd} {k k' : List KI} {l : List (Nat × ED)} {f : List (Nat × EObj)} {os : List (Option EObj)}
theorem mkE_cons {κ:Pl→Key} {t:Nat} {e:ED} {l:List (Nat×ED)}:envD κ (mkE ((t,e)::l))=upd (envD κ (mkE l)) t (e.D κ):=updE_D
theorem WG.nq {id a b:Nat} {x:Operand} {ty1 ty2 xt yt el:TypeId} {pos1 pos2:String} {af1 af2:Array Edge} {z n m:Nat} {fl:Bool} {xs:List (List KD)} (hf:flatK 64 k=.code (.region id #[⟨some a,.move x,ty1,pos1,af1,none⟩,⟨some b,.binOp .eql xt (.tmp a) (.const (.slice none 0 0)) yt,ty2,pos2,af2,none⟩] false)::k')
  (hab:(Nat.blt a W.N&&Nat.blt b W.N)=true) (hT:W.X.T.t xt=some (n,m,.slice el)) (hx:evO W.X.G (mkE l) x=.d (.sl z fl xs))
  (h1:xs=[]→WG W k' ((b,bE true)::(a,.d (.sl z fl xs))::l) f os) (h2:WG W k' ((b,bE false)::(a,.d (.sl z fl xs))::l) f os):WG W k l f os:=by
 simp only[Bool.and_eq_true] at hab;refine WG.flat hf fun hlen=>AW.region ?_;have hx':ev W.X.E (envD W.κ (mkE l)) x=.sl z (tkB fl) (KD.DLL xs):=by rw[evO_D W.X.hG,hx]; rfl
 have hmove:OOk W.X.E W.U (envD W.κ (mkE l)) (stD W.κ W.low f os) ⟨some a,.move x,ty1,pos1,af1,none⟩ (upd (envD W.κ (mkE l)) a (.sl z (tkB fl) (KD.DLL xs))) (stD W.κ W.low f os):=
  POk.ook hab.1 (fun cx a' w hr=>⟨a'.eval x,fun w'=>rfl,by have:=hr.eval x; rw[hx'] at this; exact this⟩)
 refine AW.op1 rfl hmove ?_;refine AW.nilq (z:=z) (tok:=tkB fl) (xs:=KD.DLL xs) hab.2 (W.X.T.ht _ _ hT) (by show upd _ _ _ _=_; exact upd_same _ _ _) (fun he=>?_) ?_
 ·have he:xs=[]:=by cases xs with
   | nil=>rfl
   | cons c r=>cases he
  have:=h1 he hlen;have e1:envD W.κ (mkE ((b,bE true)::(a,.d (.sl z fl xs))::l))=upd (upd (envD W.κ (mkE l)) a (.sl z (tkB fl) (KD.DLL xs))) b (.v (.bool true)):=by rw[mkE_cons,mkE_cons]; rfl
  rw[← e1];exact AW.opsNil this
 ·have:=h2 hlen;have e1:envD W.κ (mkE ((b,bE false)::(a,.d (.sl z fl xs))::l))=upd (upd (envD W.κ (mkE l)) a (.sl z (tkB fl) (KD.DLL xs))) b (.v (.bool false)):=by rw[mkE_cons,mkE_cons]; rfl
  rw[← e1];exact AW.opsNil this
end
end Go.Mx
namespace Go.Mx
section
variable {W : Wd} {k k' : List KI} {l : List (Nat × ED)} {f : List (Nat × EObj)} {os : List (Option EObj)}
theorem WG.owV (t u:Nat) (e:TypeId) (lv:List Nat) {z:Nat} (ht:mkE l t=.d (.sl z true [])) (hu:getF f u=none)
  (he:((jE lv [(t,.vs (.own u) z 0)] l).map Prod.fst).map (updE (mkE l) t (.vs (.own u) z 0))=(jE lv [(t,.vs (.own u) z 0)] l).map Prod.snd)
  (hk:WG W k (jE lv [(t,.vs (.own u) z 0)] l) (setF f u (.vec e z [])) os):WG W k l f os:=fun hlen=>by
 have hL:=W.hL (osA W.κ os);intro B cx a w hB hl' hex hr;have hg:=getP_none (ks:=W.ks) (low:=W.low) (os:=os) W.hl hL hu;have hkey:(W.L,u).1<(stD W.κ W.low f os).length:=by simp[stD,hL]
 obtain⟨cx',r1,r2,r3⟩:=hr.rel.ghostV (key:=(W.L,u)) hkey hg e z;have hst:(stD W.κ W.low f os).set (W.L,u) (some (.vec 0 e z []))=stD W.κ W.low (setF f u (.vec e z [])) os:=putP_stV (p:=.own u) (o':=.vec e z []) W.hl hL hlen rfl;have r1:Rel W.X.E cx' ((stD W.κ W.low f os).set (W.L,u) (some (AObj.vec 0 e z []))) w:=r1;rw[hst] at r1;have hlen2:(stD W.κ W.low (setF f u (.vec e z [])) os).length=(stD W.κ W.low f os).length:=by simp[stD]
 refine hk hlen B cx' a w hB (by show(stD _ _ _ _).length=_; rw[hlen2]; exact hl') (hex.trans (r2.weaken fun _ _=>rfl)) ⟨r1,hr.size,fun v=>?_,hr.defers⟩;refine mkE_map he v _ _ _ ?_;have hv:=(hr.tmps v).mono r2 (RelF.ext.all_true _);unfold updE;cases hb:Nat.beq v t with
 | false=>exact hv
 | true=>
  have:=Nat.eq_of_beq_eq_true hb;subst this;have hv:Rd cx' w ((mkE l v).D W.κ) (a.tmps.getD v undef):=hv;rw[ht] at hv;exact Rd.ownV (e:=e) hv r3
end
end Go.Mx
namespace Go.Mx
end Go.Mx
namespace Go.Ev
open Go.Mx (KD SlOk RowsOk)
end Go.Ev
namespace Go.Ev
open Go.Mx (KD ApOk)
theorem Kd.ap0 {α:Type} {k:α→List KD} {ks:List α→List (List KD)} {sz:Nat} (h:Kd k ks sz) {be:Nat} {ys zs:List α} (hx:apB be [] ys=some zs):ApOk be 0 (ks ys)∧ks ys=ks zs:=by
 unfold apB at hx;split at hx
 ·rename_i hb;cases hx;refine⟨⟨fun cs hc=>?_,by rw[h.length]; simpa using hb⟩,by simp⟩;rw[h.eq] at hc;obtain⟨x,_,rfl⟩:=List.mem_map.1 hc;exact h.one x
 ·cases hx
end Go.Ev
namespace Go.Ev
open Go.Mx (KD)
theorem cvB (t:List UInt8):ksByte t=t.map fun b=>[KD.v (.int .u8 b.toNat)]:=rfl
def u8B (x:Int):Option UInt8:=if 0≤x∧x<256 then some (UInt8.ofNat x.toNat) else none
theorem u8B_ok {x:Int} {y:UInt8} (h:u8B x=some y):x=(y.toNat:Int):=by
 unfold u8B at h;split at h
 ·rename_i hb;cases h;rw[UInt8.toNat_ofNat'];omega
 ·cases h
end Go.Ev
namespace Go.Ev
theorem lenB_ok {α:Type} {l:List α} {n:Nat} {u:Unit} (h:lenB l n=some u):l.length=n:=by
 unfold lenB at h;split at h
 ·assumption
 ·cases h
end Go.Ev
namespace Go.Ev
theorem inB_of {α:Type} {l:List α} {i:Nat} {x:α} (h:l[i]? = some x):inB (i:Int) l.length=some ():=by
 have:=(List.getElem?_eq_some_iff.1 h).1;unfold inB;rw[if_pos ⟨by omega,by simpa using this⟩]
end Go.Ev
namespace Go.Mx
def vsN:ED→Option Nat
 | .vs _ _ n=>some n
 | _=>none
theorem WG.snV {W:Wd} {k:List KI} {l:List (Nat×ED)} {f:List (Nat×EObj)} {os:List (Option EObj)} {α:Type} (t:Nat) {ke:α→List KD} {ks:List α→List (List KD)} {sz:Nat} (K:Go.Ev.Kd ke ks sz) (xs:List α) (h:vsN (mkE l t)=some (ks xs).length)
  (hk:xs.length≤9223372036854775807→WG W k l f os):WG W k l f os:=fun hlen B cx a w hB hl' hex hr=>by
 have hv:Rd cx w ((mkE l t).D W.κ) (a.tmps.getD t undef):=hr.tmps t;cases he:mkE l t with
 | vs p z n=>
  rw[he] at h hv;simp only[vsN,Option.some.injEq] at h;subst h;have hv:Rd cx w (.vs (W.κ p) z (ks xs).length) (a.tmps.getD t undef):=hv;generalize a.tmps.getD t undef=v at hv;have hb:(ks xs).length≤9223372036854775807:=by
   cases hv with
   | vs h1 h2 h3=>unfold maxLen at h2; omega
  rw[K.length] at hb;exact hk hb hlen B cx a w hB hl' hex hr
 | _=>rw[he] at h; cases h
end Go.Mx
namespace Go.Mx
set_option linter.unusedVariables false
set_option linter.unusedSimpArgs false
theorem Rel.fogCells {E:Setting} {cx:Cx} {st:St} {w:World} (r:Rel E cx st w) {key:Key} {cs cs':List D} (hlt:key.1<st.length) (hs:st.get key=some (.cells cs)) (hl:cs'.length=cs.length) (hlev:allL (lv (key.1+1)) cs=true→allL (lv (key.1+1)) cs'=true)
  (hw:∀(j:Nat) d',cs'[j]? = some d'→∃d,cs[j]? = some d∧Wk d d'):Rel E cx (st.set key (some (.cells cs'))) w:=by
 have hg:∀k o,(st.set key (some (.cells cs'))).get k=some o→(k=key∧o=.cells cs')∨(k≠key∧st.get k=some o):=fun k o h=>by
  rw[St.get_set hlt] at h;by_cases hk:k=key
  ·rw[if_pos hk] at h; cases h; exact .inl ⟨hk,rfl⟩
  ·rw[if_neg hk] at h; exact .inr ⟨hk,h⟩
 have hrow:∀k ob n e,(st.set key (some (.cells cs'))).get k=some ob∧ob.row=some (n,e)→st.get k=some ob∧ob.row=some (n,e):=fun k ob n e h=>by
  rcases hg k ob h.1 with ⟨_,rfl⟩ | ⟨_,g⟩
  ·cases h.2
  ·exact⟨g,h.2⟩
 have hfoot:∀k b o,Mx.foot cx (st.set key (some (.cells cs'))) k b o→Mx.foot cx st k b o:=fun k b o h=>by
  rcases h with ⟨ds,o0,h1,h2⟩ | ⟨ob,n,e,c,z,h1,h2⟩
  ·rcases hg _ _ h1 with ⟨rfl,h⟩ | ⟨_,g⟩
   ·cases h; rw[hl] at h2; exact .inl ⟨cs,o0,hs,h2⟩
   ·exact .inl ⟨ds,o0,g,h2⟩
  ·exact .inr ⟨ob,n,e,c,z,hrow _ _ _ _ h1,h2⟩
 have hback:∀k,(∃ds,st.get k=some (.cells ds))→∃ds,(st.set key (some (.cells cs'))).get k=some (.cells ds):=fun k ⟨ds,h⟩=>by
  rw[St.get_set hlt];by_cases hk:k=key
  ·rw[if_pos hk]; exact⟨_,rfl⟩
  ·rw[if_neg hk]; exact⟨_,h⟩
 exact {
  cells:=fun k ds h=>by
   rcases hg _ _ h with ⟨rfl,h'⟩ | ⟨_,g⟩
   ·cases h';obtain⟨h1,b,o,h2,h3⟩:=r.cells k cs hs;refine⟨hlev h1,b,o,h2,fun j d hj=>?_⟩;obtain⟨d0,hd0,hwk⟩:=hw j d hj;obtain⟨x,hx,hr⟩:=h3 j d0 hd0;exact⟨x,hx,hwk cx w x hr⟩
   ·exact r.cells k ds g
  vec:=fun k n e z ds h=>by
   rcases hg _ _ h with ⟨rfl,h'⟩ | ⟨_,g⟩
   ·cases h'
   ·exact r.vec k n e z ds g
  tok:=fun k ob n e h=>r.tok k ob n e (hrow _ _ _ _ h)
  foot:=fun k b o h=>r.foot k b o (hfoot k b o h)
  sep:=fun k k' b o h h'=>r.sep k k' b o (hfoot _ _ _ h) (hfoot _ _ _ h')
  domb:=fun k l h=>hback k (r.domb k l h)
  domt:=fun k l h=>by
   obtain⟨ob,n,e,h1,h2⟩:=r.domt k l h;refine⟨ob,n,e,?_,h2⟩;rw[St.get_set hlt,if_neg,h1];rintro rfl;rw[hs] at h1; cases h1; cases h2
  mlt:=r.mlt
  nz:=fun k b o h=>r.nz k b o (hfoot k b o h)
  zm:=r.zm
  bxlt:=r.bxlt
  apart:=r.apart
  rows:=r.rows
  glob:=r.glob }
theorem AW.fogCells {E:Setting} {U:Fun} {F:D→St→Prop} {k:List KI} {ρ:Env} {st:St} {key:Key} {cs cs':List D} (hlt:key.1<st.length) (hs:st.get key=some (.cells cs)) (hl:cs'.length=cs.length) (hlev:allL (lv (key.1+1)) cs=true→allL (lv (key.1+1)) cs'=true)
  (hw:∀(j:Nat) d',cs'[j]? = some d'→∃d,cs[j]? = some d∧Wk d d') (hk:AW E U k F ρ (st.set key (some (.cells cs')))):AW E U k F ρ st:=
 fun B cx a w hB hlen hex hr=>hk B cx a w hB (by rw[St.length_set]; exact hlen) hex ⟨hr.rel.fogCells hlt hs hl hlev hw,hr.size,hr.tmps,hr.defers⟩
def fogD1:ED→ED
 | .d (.sl z true xs)=>.d (.sl z false xs)
 | .gs p z xs=>.d (.sl z false xs)
 | e=>e
def fogJ (js:List Nat):Nat→List ED→List ED
 | _,[]=>[]
 | i,e::r=>(match inL i js with
  | true=>fogD1 e
  | false=>e)::fogJ js (i+1) r
def fgF (f:List (Nat×EObj)) (u:Nat) (js:List Nat):List (Nat×EObj):=
 match getF f u with
 | some (.cells cs)=>setF f u (.cells (fogJ js 0 cs))
 | _=>f
theorem fogD1_wk (κ:Pl→Key) (e:ED):Wk (e.D κ) ((fogD1 e).D κ):=by
 unfold fogD1;split
 ·exact .fog rfl
 ·exact .fog rfl
 ·exact .refl _
theorem fogD1_all (κ:Pl→Key) (p:Key→Bool) (e:ED) (h:(e.D κ).all p=true):((fogD1 e).D κ).all p=true:=by
 unfold fogD1;split
 ·exact KD.keyless p _
 ·exact KD.keyless p (.sl _ false _)
 ·exact h
theorem fogJ_len (js:List Nat):∀(i:Nat) (l:List ED),(fogJ js i l).length=l.length
 | _,[]=>rfl
 | i,e::r=>by simp only[fogJ,List.length_cons,fogJ_len js (i+1) r]
theorem fogJ_all (κ:Pl→Key) (p:Key→Bool) (js:List Nat):∀(i:Nat) (l:List ED),allL p (ED.DL κ l)=true→allL p (ED.DL κ (fogJ js i l))=true
 | _,[],h=>h
 | i,e::r,h=>by
  simp only[ED.DL,allL,Bool.and_eq_true,fogJ] at h ⊢;refine⟨?_,fogJ_all κ p js (i+1) r h.2⟩;split
  ·exact fogD1_all κ p e h.1
  ·exact h.1
theorem fogJ_wk (κ:Pl→Key) (js:List Nat):∀(i:Nat) (l:List ED) (j:Nat) (d':D),(ED.DL κ (fogJ js i l))[j]? = some d'→∃d,(ED.DL κ l)[j]? = some d∧Wk d d'
 | _,[],j,d',h=>by simp[fogJ,ED.DL] at h
 | i,e::r,0,d',h=>by
  simp only[fogJ,ED.DL,List.getElem?_cons_zero,Option.some.injEq] at h ⊢;refine⟨_,rfl,?_⟩;subst h;split
  ·exact fogD1_wk κ e
  ·exact .refl _
 | i,e::r,j+1,d',h=>by
  simp only[fogJ,ED.DL,List.getElem?_cons_succ] at h ⊢;exact fogJ_wk κ js (i+1) r j d' h
theorem WG.fg {W:Wd} {k:List KI} {l:List (Nat×ED)} {f:List (Nat×EObj)} {os:List (Option EObj)} (u:Nat) (js:List Nat) (hk:WG W k l (fgF f u js) os):WG W k l f os:=by
 unfold fgF at hk;split at hk
 ·rename_i cs hu;intro hlen;have h:=hk hlen;have hL:(W.low (osA W.κ os)).length=W.L:=W.hL _;have hget:=(getP_st (f:=f) (os:=os) (L:=W.L) W.hl hL hlen (p:=.own u) hu).1;have hlt:=(getP_st (f:=f) (os:=os) (L:=W.L) W.hl hL hlen (p:=.own u) hu).2;have hput:=putP_st (f:=f) (os:=os) (L:=W.L) W.hl hL hlen (p:=.own u) (o':=.cells (fogJ js 0 cs)) hu;refine AW.fogCells hlt hget ?_ (fogJ_all _ _ js 0 cs) (fogJ_wk _ js 0 cs) ?_
  ·rw[ED.DL_map,ED.DL_map,List.length_map,List.length_map,fogJ_len]
  ·have e:AObj.cells (ED.DL (kap W.L W.ks) (fogJ js 0 cs))=(EObj.cells (fogJ js 0 cs)).A (kap W.L W.ks):=rfl;rw[e];show AW W.X.E W.U k W.F (envD W.κ (mkE l)) ((stD (kap W.L W.ks) W.low f os).set (kap W.L W.ks (.own u)) _);rw[hput];exact h
 ·exact hk
def evRetX (T:TypeId→Option (Nat×Nat×Shp)) (rs:List ResultVar) (ρ:Nat→ED) (f:List (Nat×EObj)) (os:List (Option EObj)):Option (ED×List EObj):=
 match evRes T ρ f os rs with
 | some ds=>match okUL os.length none ds,unO os with
  | true,some outs=>match okUO os.length outs with
   | true=>some (resE ds,outs)
   | false=>none
  | _,_=>none
 | none=>none
theorem WG.retX {W:Wd} {k k':List KI} {l:List (Nat×ED)} {f:List (Nat×EObj)} {os:List (Option EObj)} {rs:List ResultVar} {d:ED} {outs:List EObj} (hf:flatK 64 k=.code .ret::k') (hr:W.fn.results.toList=rs) (he:evRetX W.X.T.t rs (mkE l) f os=some (d,outs))
  (hK:W.F (d.D (kap 0 W.ks)) (W.low (osA (kap 0 W.ks) (outs.map some)))):WG W k l f os:=WG.flat hf fun hlen=>by
 unfold evRetX at he;split at he
 ·rename_i ds hds;split at he
  ·rename_i outs' w3 hu;split at he
   ·rename_i hok;cases he;have hos:=unO_some hu;have hp:∀p:Pl,p.okU os.length none=true→W.κ p=kap 0 W.ks p:=fun p hp=>(okU_lv W.hl W.hL hlen hp).2;have hp2:∀p:Pl,p.okU os.length none=true→lv W.L (W.κ p)=true:=fun p hp=>(okU_lv W.hl W.hL hlen hp).1;have hres:=evRes_ok (T:=W.X.T) W.hl W.hL hlen hds;have hL:=W.hL (osA W.κ os);refine AW.retR (U:=W.U) (F:=W.F) (d':=(resE ds).D W.κ) (by rw[show W.U.fn.results.toList=rs from hr]; exact hres) (resE_wk rfl fun j a b ha hb=>by rw[ha] at hb; cases hb; exact Wk.refl _) ?_ ?_
    ·rw[hL]; exact okU_all hp2 _ (resE_ok w3)
    ·have e1:(resE ds).D W.κ=(resE ds).D (kap 0 W.ks):=okU_same hp _ (resE_ok w3);have e2:osA W.κ os=osA (kap 0 W.ks) (outs.map some):=by
      rw[hos] at hok hp ⊢;exact okUO_same hp hok
     rw[e1,e2]; exact hK
   ·cases he
  ·cases he
 ·cases he
end Go.Mx
namespace Go.Ev
open Go.Mx (KD)
end Go.Ev
namespace Go.Mx
set_option linter.unusedVariables false
set_option linter.unusedSimpArgs false
def rb:Nat→Bool→List Hint→List Hint
 | 0,_,l=>l
 | n+1,b,l=>.b b::rb n b l
def qb:Nat→Nat→Bool→List (Nat×List Hint)→List (Nat×List Hint)
 | _,0,_,l=>l
 | i,n+1,b,l=>(i,[.b b])::qb (i+1) n b l
def Rp:Nat→Prop→Prop→Prop
 | 0,_,q=>q
 | n+1,p,q=>p∧Rp n p q
theorem R {p q:Prop}:∀(n:Nat),p→q→Rp n p q
 | 0,_,k=>k
 | n+1,h,k=>⟨h,R n h k⟩
theorem dt {p:Prop} [Decidable p] (h:p):decide p=true:=decide_eq_true h
theorem df {p:Prop} [Decidable p] (h:¬p):decide p=false:=decide_eq_false h
theorem B1:true=true:=rfl
theorem B0:false=false:=rfl
section
variable {W : Wd} {k k' : List KI} {l : List (Nat × ED)} {f : List (Nat × EObj)} {os : List (Option EObj)} {τ ω ρ σ α : Type}
theorem WG.a {id:Nat} {ops:Array Oper} (hs:List Hint) {ob:Prop} (ho:ob) (c:List (Nat×ED)) (hk:WG W k' (c++l) f os) (hf:flatK 64 k=.code (.region id ops false)::k':=by exact rfl)
  (he:evRegC W.X W.N (c.map Prod.fst) ops l f os hs=some (c.map Prod.snd,f,os,ob,[]):=by kernel_rfl):WG W k l f os:=WG.r hs ho c hf he hk
theorem WG.af {id:Nat} {ops:Array Oper} (hs:List Hint) {ob:Prop} (ho:ob) (c:List (Nat×ED)) (cf:List FU) (hk:WG W k' (c++l) (apF cf f) os) (hf:flatK 64 k=.code (.region id ops false)::k':=by exact rfl)
  (he:evRegC W.X W.N (c.map Prod.fst) ops l f os hs=some (c.map Prod.snd,apF cf f,os,ob,[]):=by kernel_rfl):WG W k l f os:=WG.rf hs ho c cf hf he hk
theorem WG.ao {id:Nat} {ops:Array Oper} (hs:List Hint) {ob:Prop} (ho:ob) (c:List (Nat×ED)) (co:List FU) (hk:WG W k' (c++l) f (apO co os)) (hf:flatK 64 k=.code (.region id ops false)::k':=by exact rfl)
  (he:evRegC W.X W.N (c.map Prod.fst) ops l f os hs=some (c.map Prod.snd,f,apO co os,ob,[]):=by kernel_rfl):WG W k l f os:=WG.ro hs ho c co hf he hk
theorem WG.aq {id:Nat} {ops:Array Oper} (hs:List Hint) (qs:List Int) {ob:Prop} (ho:ob) (c:List (Nat×ED)) (cf co:List FU) (hk:WG W k' (c++l) (apF cf f) (apO co os)) (hf:flatK 64 k=.code (.region id ops false)::k':=by exact rfl)
  (he:evRegC W.X W.N (c.map Prod.fst) ops l f os hs=some (c.map Prod.snd,apF cf f,apO co os,ob,qs.map fun x=>(x,x)):=by kernel_rfl):WG W k l f os:=WG.rq hs qs ho c cf co hf he hk
theorem WG.ad {id:Nat} {ops:Array Oper} (hm:W.X.E.P.follows .mixedOrders=true) (hq:List (Nat×List Hint)) (qs:List Int) {ob:Prop} (ho:ob) (c:List (Nat×ED)) (cf co:List FU) (hk:WG W k' (c++l) (apF cf f) (apO co os)) (hf:flatK 64 k=.code (.region id ops true)::k':=by exact rfl)
  (he:evDrC W.X W.N (c.map Prod.fst) ops l f os hq=some (c.map Prod.snd,apF cf f,apO co os,ob,qs.map fun x=>(x,x)):=by kernel_rfl):WG W k l f os:=WG.rd hm hq qs ho c cf co hf he hk
theorem WG.nl (t z:Nat) (ht:mkE l t=.d (.v (.slice none 0 0))) (hk:WG W k ((t,.d (.sl z true []))::l) f os):WG W k l f os:=fun hlen=>by
 refine AW.weak (fun u=>?_) (hk hlen);by_cases hu:u=t
 ·subst hu;have e1:envD W.κ (mkE l) u=(ED.d (.v (.slice none 0 0))).D W.κ:=by unfold envD; rw[ht]
  have e2:envD W.κ (mkE ((u,.d (.sl z true []))::l)) u=(ED.d (.sl z true [])).D W.κ:=by unfold envD; congr 1; simp[mkE,updE]
  rw[e1,e2];exact Wk.nil (b:=true)
 ·have e2:mkE ((t,.d (.sl z true []))::l) u=mkE l u:=by
   show updE (mkE l) t _ u=_;unfold updE;cases hb:Nat.beq u t with
   | false=>rfl
   | true=>exact absurd (Nat.eq_of_beq_eq_true hb) hu
  have e3:envD W.κ (mkE ((t,.d (.sl z true []))::l)) u=envD W.κ (mkE l) u:=by unfold envD; rw[e2]
  rw[e3]; exact Wk.refl _
theorem WG.jP {p:Prop} [Decidable p] {x y:Option ρ} {r:ρ} (h:(if p then x else y)=some r) {c:Operand} {a b:Code}
  (h1:p→x=some r→WG W (.code a::k') l f os) (h2:¬p→y=some r→WG W (.code b::k') l f os) (hf:flatK 64 k=.code (.cond c a b)::k':=by exact rfl) (hc:evO W.X.G (mkE l) c=.d (.v (.bool (decide p))):=by kernel_rfl):WG W k l f os:=WG.cP h hf hc h1 h2
theorem WG.jT {v:Bool} {x y:Option ρ} {r:ρ} (h:(if v=true then x else y)=some r) {c:Operand} {a b:Code}
  (h1:v=true→x=some r→WG W (.code a::k') l f os) (h2:¬v=true→y=some r→WG W (.code b::k') l f os) (hf:flatK 64 k=.code (.cond c a b)::k':=by exact rfl) (hc:evO W.X.G (mkE l) c=.d (.v (.bool v)):=by kernel_rfl):WG W k l f os:=WG.cT h hf hc h1 h2
theorem WG.lg {l':List (Nat×ED)} {f':List (Nat×EObj)} {os':List (Option EObj)} (hj:WG W k' l' f' os') (fogs:List Nat) (hf:flatK 64 k=k':=by exact rfl) (he:(lessE fogs (mkE l) (l'.map Prod.fst),f,os)=(l'.map Prod.snd,f',os'):=by kernel_rfl):WG W k l f os:=WG.lf hj hf fogs he
theorem WG.rt {rs:List ResultVar} {d:ED} {outs:List EObj} (hK:W.F (d.D (kap 0 W.ks)) (W.low (osA (kap 0 W.ks) (outs.map some)))) (hf:flatK 64 k=.code .ret::k':=by exact rfl) (hr:W.fn.results.toList=rs:=by exact rfl) (he:evRet W.X.T.t rs (mkE l) f os=some (d,outs):=by kernel_rfl):WG W k l f os:=WG.ret hf hr he hK
end
theorem SCall.n {X:Ctx} {g:Nat} {fn:Func} {c:Code} {N:Nat} {args:List ED} {ins:List (Option EObj)} {d:ED} {outs:List EObj} (hf:X.E.P.funcs[g]? = some fn)
  (h:∀(L:Nat) (ks:List Key) (low:List (Option AObj)→St) (K:D→St→Prop) (hl:Low ks low) (hL:∀os,(low os).length=L),ks.length=ins.length→K (d.D (kap 0 ks)) (low (osA (kap 0 ks) (outs.map some)))→WG ⟨X,fn,L,N,ks,low,K,hl,hL⟩ [.code c] (lA 0 args) [] ins)
  (hb : fn.body = some c := by exact rfl) (hn : (fn.name == "runtime.NumGoroutine") = false := by exact rfl) (hN : fn.ntmps = N := by exact rfl) (hle : (Nat.ble args.length N && okUL ins.length none args && okUO ins.length (ins.filterMap id)) = true := by kernel_rfl) : SCall X.E g args ins d outs := SCall.m hf hb hn hN hle h
end Go.Mx
namespace Go.Ev
open Go.Mx
end Go.Ev
namespace Go.Mx
set_option linter.unusedVariables false
set_option linter.unusedSimpArgs false
end Go.Mx
namespace Go.Ev
open Go.Mx (KD ED EObj forL forI seqS iterM)
set_option linter.unusedVariables false
set_option linter.unusedSimpArgs false
def Ex {α:Type} (f:Nat→Option α) (Q:α→Prop):Prop:=∃v,Evt f v∧Q v
section
variable {α β σ ω τ : Type}
theorem Ex.evt {f:Nat→Option α} {v:α} (h:Ex f (· = v)):Evt f v:=by obtain⟨w,h1,rfl⟩:=h; exact h1
theorem Evt.ex {f:Nat→Option α} {v:α} (h:Evt f v):Ex f (· = v):=⟨v,h,rfl⟩
theorem Ex.mono {f:Nat→Option α} {Q R:α→Prop} (h:Ex f Q) (hr:∀v,Q v→R v):Ex f R:=by obtain⟨w,h1,h2⟩:=h; exact⟨w,h1,hr w h2⟩
theorem Ex.pure {v:α} {Q:α→Prop} (h:Q v):Ex (fun _=>some v) Q:=⟨v,.pure v,h⟩
theorem Ex.succ {f:Nat→Option α} {Q:α→Prop} (h:Ex (fun n=>f (n+1)) Q):Ex f Q:=by obtain⟨w,h1,h2⟩:=h; exact⟨w,.succ h1,h2⟩
theorem Ex.bind {f:Nat→Option α} {g:Nat→α→Option β} {P:α→Prop} {Q:β→Prop} (hf:Ex f P) (hg:∀a,P a→Ex (fun n=>g n a) Q):Ex (fun n=>(f n).bind (g n)) Q:=by
 obtain⟨a,h1,h2⟩:=hf;obtain⟨b,k1,k2⟩:=hg a h2;exact⟨b,h1.bind k1,k2⟩
theorem Ex.bp {x:Option α} {g:Nat→α→Option β} {Q:β→Prop} (a:α) (h:x=some a) (hg:Ex (fun n=>g n a) Q):Ex (fun n=>x.bind (g n)) Q:=by
 obtain⟨b,k1,k2⟩:=hg;exact⟨b,Evt.bind (f:=fun _=>x) (.const h) k1,k2⟩
theorem Ex.bv {f:Nat→Option α} {g:Nat→α→Option β} {a:α} {Q:β→Prop} (h:Evt f a) (hg:Ex (fun n=>g n a) Q):Ex (fun n=>(f n).bind (g n)) Q:=by
 obtain⟨b,k1,k2⟩:=hg;exact⟨b,h.bind k1,k2⟩
theorem Ex.pos {c:Prop} [Decidable c] {f g:Nat→Option α} {Q:α→Prop} (hc:c) (h:Ex f Q):Ex (fun n=>if c then f n else g n) Q:=by obtain⟨v,h1,h2⟩:=h; exact⟨v,.pos hc h1,h2⟩
theorem Ex.neg {c:Prop} [Decidable c] {f g:Nat→Option α} {Q:α→Prop} (hc:¬c) (h:Ex g Q):Ex (fun n=>if c then f n else g n) Q:=by obtain⟨v,h1,h2⟩:=h; exact⟨v,.neg hc h1,h2⟩
theorem Ex.ite {c:Prop} [Decidable c] {f g:Nat→Option α} {Q:α→Prop} (h1:c→Ex f Q) (h2:¬c→Ex g Q):Ex (fun n=>if c then f n else g n) Q:=by
 by_cases hc:c
 ·exact .pos hc (h1 hc)
 ·exact .neg hc (h2 hc)
theorem Ex.seqS {f:Nat→Option (ω⊕τ)} {g:Nat→τ→Option ω} {P:ω⊕τ→Prop} {Q:ω→Prop} (hf:Ex f P) (hl:∀w,P (.inl w)→Q w) (hg:∀t,P (.inr t)→Ex (fun n=>g n t) Q):Ex (fun n=>Mx.seqS (f n) (g n)) Q:=by
 obtain⟨a,h1,h2⟩:=hf;cases a with
 | inl w=>exact⟨w,h1.seqL,hl w h2⟩
 | inr t=>obtain⟨b,k1,k2⟩:=hg t h2; exact⟨b,h1.seqR k1,k2⟩
theorem Ex.iter {step:Nat→σ→Option (ω⊕σ)} {Q:ω→Prop} (μ:σ→Nat) (I:σ→Prop) (s0:σ) (h0:I s0) (hs:∀s,I s→Ex (fun n=>step n s) (fun r=>(∀w,r=.inl w→Q w)∧∀s',r=.inr s'→I s'∧μ s'<μ s)):Ex (fun n=>iterM n (step n) s0) Q:=by
 obtain⟨w,h1,h2⟩:=iter_ev (step:=step) μ I Q (fun s hi=>by
  obtain⟨r,k1,k2,k3⟩:=hs s hi;cases r with
  | inl w=>exact .inl ⟨w,k1,k2 w rfl⟩
  | inr s'=>obtain⟨q1,q2⟩:=k3 s' rfl; exact .inr ⟨s',k1,q1,q2⟩) s0 h0
 exact⟨w,h1,h2⟩
theorem Ex.forL {step:Nat→σ→Nat→α→Option σ} {xs:List α} {s0:σ} {Q:σ→Prop} (I:Nat→List α→σ→Prop) (h0:I 0 xs s0) (hs:∀i x q s,I i (x::q) s→Ex (fun n=>step n s i x) (I (i+1) q)) (hq:∀s,I xs.length [] s→Q s):Ex (fun n=>Mx.forL (step n) 0 xs s0) Q:=by
 obtain⟨s',h1,h2⟩:=Evt.forL (step:=step) I (fun i x q s h=>by obtain⟨v,k1,k2⟩:=hs i x q s h; exact⟨v,k1,k2⟩) xs 0 s0 h0;exact⟨s',h1,hq s' (by simpa using h2)⟩
theorem Ex.forI {step:Nat→σ→Nat→α→Option (ω⊕σ)} {xs:List α} {s0:σ} {Q:ω⊕σ→Prop} (I:Nat→List α→σ→Prop) (h0:I 0 xs s0) (hs:∀i x q s,I i (x::q) s→Ex (fun n=>step n s i x) (fun r=>(∀w,r=.inl w→Q (.inl w))∧∀s',r=.inr s'→I (i+1) q s')) (hq:∀s,I xs.length [] s→Q (.inr s)):Ex (fun n=>Mx.forI (step n) 0 xs s0) Q:=by
 rcases Evt.forI (step:=step) I (fun w=>Q (.inl w)) (fun i x q s h=>by
  obtain⟨r,k1,k2,k3⟩:=hs i x q s h;cases r with
  | inl w=>exact .inl ⟨w,k1,k2 w rfl⟩
  | inr s'=>exact .inr ⟨s',k1,k3 s' rfl⟩) xs 0 s0 h0 with ⟨w,h1,h2⟩ | ⟨s',h1,h2⟩
 ·exact⟨_,h1,h2⟩
 ·exact⟨_,h1,hq s' (by simpa using h2)⟩
theorem Ex.fo {w:ω} {P:ω→Prop} {I:σ→Prop} (h:P w):Ex (fun _=>some (Sum.inl w:ω⊕σ)) (fun r=>(∀w,r=.inl w→P w)∧∀s',r=.inr s'→I s'):=
 .pure ⟨fun _ e=>by cases e; exact h,fun _ e=>by cases e⟩
theorem Ex.fg {s':σ} {P:ω→Prop} {I:σ→Prop} (h:I s'):Ex (fun _=>some (Sum.inr s':ω⊕σ)) (fun r=>(∀w,r=.inl w→P w)∧∀s',r=.inr s'→I s'):=
 .pure ⟨fun _ e=>by(cases e),fun _ e=>by cases e; exact h⟩
end
theorem catS_ok {a b:List UInt8} (h:a.length+b.length≤9223372036854775807):catS a b=some (a++b):=if_pos h
theorem apB_ok {α:Type} {be:Nat} {l ys:List α} (h:(l.length+ys.length)*be≤140737488355328):apB be l ys=some (l++ys):=if_pos h
theorem atI_nat {α:Type} {l:List α} {i:Nat} {x:α} (h:l[i]? = some x):atI l (i:Int)=some x:=by unfold atI; rw[if_pos (by omega),Int.toNat_natCast]; exact h
theorem lenB_of {α:Type} {l:List α} {n:Nat} (h:l.length=n):lenB l n=some ():=if_pos h
theorem u8B_of {x:Int} (h0:0≤x) (h:x<256):u8B x=some (UInt8.ofNat x.toNat):=if_pos ⟨h0,h⟩
theorem rem_some {a b:Int} (hb:b≠0):remI a b=some (a.tmod b):=if_pos hb
theorem quo_some {a b:Int} (hb:b≠0):quoI a b=some (w64 (a.tdiv b)):=if_pos hb
theorem drop_hd {α:Type} {xs q:List α} {x:α} {i:Nat} (h:xs.drop i=x::q):xs[i]? = some x∧xs.drop (i+1)=q∧i<xs.length∧x∈xs:=by
 have hi:i<xs.length:=by
  rcases Nat.lt_or_ge i xs.length with h' | h'
  ·exact h'
  ·rw[List.drop_eq_nil_of_le h'] at h; cases h
 rw[List.drop_eq_getElem_cons hi] at h;obtain⟨rfl,rfl⟩:=List.cons.inj h;exact⟨List.getElem?_eq_getElem hi,rfl,hi,List.getElem_mem hi⟩
end Go.Ev
namespace Go.Mx
set_option linter.unusedVariables false
theorem SCall.of_calls {E : Setting} {g : Nat} {fn : Func} {c : Code} {args : List ED} {d : ED} {vs : List Value} {v : Value} (hf : E.P.funcs[g]? = some fn) (hb : fn.body = some c) (hn : (fn.name == "runtime.NumGoroutine") = false)
  (hd:∀κ,d.D κ=.v v) (ha:∀κ,ED.DL κ args=vs.map D.v) (h:∀w,Calls E.P g vs.toArray w fun e w'=>e=.returned v∧w'=w):SCall E g args [] d []:=by
 refine⟨⟨fn,c,hf,hb,hn⟩,fun ks low K hl hk hK=>?_⟩;rw[ha];rw[hd] at hK;intro cx w xs hr hx;have:xs=vs:=by
  obtain⟨h1,h2⟩:=hx;rw[List.length_map] at h1;apply List.ext_getElem?;intro i;rcases Nat.lt_or_ge i xs.length with hi | hi
  ·have hi':i<vs.length:=by omega
   have:=h2 i (.v vs[i]) xs[i] (by simp[hi']) (by simp[hi]);generalize hy:xs[i]=y at this;cases this;simp[hi,hi',hy]
  ·rw[List.getElem?_eq_none hi,List.getElem?_eq_none (by omega)]
 subst this;refine(h w).mono ?_;rintro e w' ⟨rfl,rfl⟩;exact⟨.v v,_,cx,v,rfl,hK,rfl,hr,.v v,Ext.refl _ _ _⟩
structure OnRow (w w':World) (g:Nat) (zs:List Int):Prop where
 os:w'.os=w.os
 tape:w'.tape=w.tape
 output:w'.output=w.output
 size:w.heap.size≤w'.heap.size
 other:∀b,b<w.heap.size→b≠g→w'.heap[b]? = w.heap[b]?
 row:∀cur e,w.heap[g]? = some (.cells cur e (0,0))→∃cur',w'.heap[g]? = some (.cells cur' e (0,0))∧cur'.size=cur.size∧∀(i:Nat) x,zs[i]? = some x→i<cur.size→cur'[i]? = some (.int .i64 x)
theorem OnRow.of_put (w:World) (q g:Nat) (zs:List Int) (os:Array Obj) (hg:g<w.heap.size):OnRow w (Go.Sort.grow (Go.Sort.putRow (Value.int .i64) (Go.Sort.ahead w q) g 0 zs.toArray) os) g zs where
 os:=rfl
 tape:=rfl
 output:=rfl
 size:=by simp[Go.Sort.grow,Go.Sort.putRow,Go.Sort.mapBlock,Go.Sort.ahead]
 other b hb hne:=by
  rw[Go.Sort.heap_grow_old _ _ (by simpa [Go.Sort.putRow,Go.Sort.mapBlock,Go.Sort.ahead] using hb)];simp[Go.Sort.putRow,Go.Sort.mapBlock,Go.Sort.ahead,Array.getElem?_modify,Ne.symm hne]
 row cur e hc:=by
  rw[Go.Sort.heap_grow_old _ _ (by simpa [Go.Sort.putRow,Go.Sort.mapBlock,Go.Sort.ahead] using hg)];refine⟨Go.Sort.putCells (Value.int .i64) 0 zs.toArray cur,by simp[Go.Sort.putRow,Go.Sort.mapBlock,Go.Sort.ahead,Array.getElem?_modify,hc,Go.Sort.onCells],by simp[Go.Sort.putCells],fun i x hx hi=>?_⟩;have hl:i<zs.length:=(List.getElem?_eq_some_iff.1 hx).1;have hx':zs[i]=x:=(List.getElem?_eq_some_iff.1 hx).2;simp[Go.Sort.putCells,hi,hl,hx']
theorem OnRow.of_put0 (w:World) (q g:Nat) (zs:List Int) (hg:g<w.heap.size):OnRow w (Go.Sort.putRow (Value.int .i64) (Go.Sort.ahead w q) g 0 zs.toArray) g zs:=by
 have:=OnRow.of_put w q g zs #[] hg
 rwa [Go.Sort.grow_empty] at this
def intsV (zs:List Int):List D:=zs.map fun x=>.v (.int .i64 x)
theorem ksInt_flat (zs:List Int):(KD.DLL (Go.Ev.ksInt zs)).flatten=intsV zs:=by
 rw[KD.DLL_map]
 induction zs with
 | nil=>rfl
 | cons x r ih=>simp only[Go.Ev.ksInt,List.map_cons,List.flatten_cons,intsV] at ih ⊢; rw[ih]; rfl
theorem ksInt_len (zs:List Int):(Go.Ev.ksInt zs).length=zs.length:=by simp[Go.Ev.ksInt]
theorem intsV_lv {p:Key→Bool} (zs:List Int):allL p (intsV zs)=true:=by
 induction zs with
 | nil=>rfl
 | cons x r ih=>simp only[intsV,List.map_cons,allL,D.all,Bool.true_and]; exact ih
theorem cell_heap {w w':World} {b o:Nat} (h:w'.heap[b]? = w.heap[b]?):w'.cell? ⟨b,o,none⟩=w.cell? ⟨b,o,none⟩:=by simp only[World.cell?,h]
theorem frozen_heap {w w':World} {b o:Nat} (h:w'.heap[b]? = w.heap[b]?):w'.frozen? ⟨b,o,none⟩=w.frozen? ⟨b,o,none⟩:=by simp only[World.frozen?,h]
theorem foot_lt {E:Setting} {cx:Cx} {st:St} {w:World} (r:Rel E cx st w) {k:Key} {b o:Nat} (h:foot cx st k b o):b<w.heap.size:=by
 obtain⟨⟨x,hx⟩,_⟩:=r.foot k b o h;exact cell_lt hx
theorem Rel.rowInts {E:Setting} {cx:Cx} {st:St} {w:World} (r:Rel E cx st w) {key:Key} {n:Nat} {e:TypeId} {zs:List Int} (hs:st.get key=some (.vec n e 1 (intsV zs))) {g c:Nat} {z:Nat} (htk:cx.tk key=some (n,e,some (g,c,z))) :
  n=zs.length∧z=1∧g<w.heap.size∧n≤c∧c≤maxLen∧(∃cur,w.heap[g]? = some (.cells cur e (0,0))∧cur.size=c)∧(∀o,o<c→Mx.foot cx st key g o)∧∀(j:Nat) x,zs[j]? = some x→w.cell? ⟨g,j,none⟩=some (.int .i64 x):=by
 obtain⟨v1,v2,v3,v4⟩:=r.vec key n e 1 _ hs;obtain⟨rfl,v5⟩:=v4 g c z htk;obtain⟨tl,t1,t2⟩:=r.tok key _ n e ⟨hs,rfl⟩;rw[htk] at t1; cases t1;obtain⟨t3,t4,cur,t5,t6⟩:=t2;have hn:n=zs.length:=by simpa [intsV] using v2.symm
 refine⟨hn,rfl,(Array.getElem?_eq_some_iff.1 t5).1,t3,t4,⟨cur,t5,by rw[t6,Nat.mul_one]⟩,fun o ho=>.inr ⟨_,n,e,c,1,⟨hs,rfl⟩,htk,Nat.zero_le _,by omega⟩,fun j x hj=>?_⟩;obtain⟨y,hy,hr⟩:=v5 j (.v (.int .i64 x)) (by simp[intsV,hj]);cases hr;exact hy
theorem Rel.onRow {E:Setting} {cx:Cx} {st:St} {w w':World} (r:Rel E cx st w) {key:Key} (hlt:key.1<st.length) {n:Nat} {e:TypeId} {zs ys:List Int} (hs:st.get key=some (.vec n e 1 (intsV zs))) {g c:Nat} {z:Nat} (htk:cx.tk key=some (n,e,some (g,c,z)))
  (hl:ys.length=n) (ho:OnRow w w' g ys) :
  ∃cx',Rel E cx' (st.set key (some (.vec n e 1 (intsV ys)))) w'∧Ext (fun _=>true) cx w cx' w':=by
 obtain⟨rfl,rfl,hg,hnc,hcm,⟨cur,hcur,hsz⟩,hfoot,hcell⟩:=r.rowInts hs htk;obtain⟨cur',hcur',hsz',hin⟩:=ho.row cur e hcur;have hne:∀k b o,k≠key→Mx.foot cx st k b o→b≠g:=fun k b o hk hf he=>by
  subst he;rcases hf with ⟨cs,o0,g1,g2,_⟩ | ⟨_,n0,e0,c0,z0,g1,g2,_⟩
  ·exact r.apart _ _ _ _ _ _ _ _ _ g2 htk rfl
  ·exact hk (r.rows _ _ _ _ _ _ _ _ _ _ _ g2 htk)
 obtain⟨h1,h2⟩:=r.rowStep (key:=key) hlt (fun cs h=>by rw[hs] at h; cases h) (n:=zs.length) (e:=e) (tl:=some (g,c,1)) (o':=.vec zs.length e 1 (intsV ys)) rfl (w':=w') (M':=cx.M)
  (fun n0 l0 h=>by rw[htk] at h; cases h; exact⟨Nat.le_refl _,fun _=>rfl⟩)
  ho.os ho.tape ho.output ho.size
  (fun b hb hm=>by
   by_cases hbg:b=g
   ·subst hbg;rcases Nat.eq_zero_or_pos c with h0 | h0
    ·obtain⟨q1,q2⟩:=Array.getElem?_eq_some_iff.1 hcur;have hc0:cur=#[]:=Array.eq_empty_of_size_eq_zero (by omega);have hc0':cur'=#[]:=Array.eq_empty_of_size_eq_zero (by omega);rw[hcur',hcur,hc0,hc0']
    ·exact absurd (r.foot _ _ _ (hfoot 0 h0)).2.2 (hm 0)
   ·exact ho.other b hb hbg)
  (fun b o hb hm=>by
   by_cases hbg:b=g
   ·subst hbg;rcases Nat.lt_or_ge o c with h0 | h0
    ·have hf:=hfoot o h0;exact absurd (hm (r.foot _ _ _ hf).2.2) (r.nz _ _ _ hf)
    ·simp only[World.cell?,hcur,hcur'];rw[Array.getElem?_eq_none (by omega),Array.getElem?_eq_none (by omega)]
   ·exact cell_heap (ho.other b hb hbg))
  (fun b o h=>.inl h) (fun b o h=>Nat.lt_of_lt_of_le (r.mlt b o h) ho.size) (fun b o h=>r.zm b o h)
  (fun b o hb=>by
   by_cases hbg:b=g
   ·subst hbg; simp only[World.frozen?,hcur,hcur']
   ·exact frozen_heap (ho.other b hb hbg))
  (fun g' c' z0 ht _=>by cases ht; exact⟨_,_,_,_,_,htk⟩)
  (fun k b o hk hf=>⟨cell_heap (ho.other b (foot_lt r hf) (hne k b o hk hf)),frozen_heap (ho.other b (foot_lt r hf) (hne k b o hk hf)),(r.foot k b o hf).2.2⟩)
  (fun k n' e' g' c' z0 hk h=>by
   obtain⟨ob,n1,e1,q1,q2⟩:=r.domt k _ h;obtain⟨tl,t1,t2⟩:=r.tok k ob n1 e1 ⟨q1,q2⟩;rw[h] at t1; cases t1;obtain⟨_,_,cu,t5,_⟩:=t2;exact ho.other g' (Array.getElem?_eq_some_iff.1 t5).1 (fun he=>by subst he; exact hk (r.rows _ _ _ _ _ _ _ _ _ _ _ h htk)))
  (fun g' c' z0 ht=>by
   cases ht;exact⟨hnc,hcm,⟨cur',hcur',by rw[hsz',hsz,Nat.mul_one]⟩,fun o _ h2=>⟨(r.foot key _ _ (hfoot o (by omega))).2.2,r.nz key _ o (hfoot o (by omega))⟩,
    fun k n' e' c' z' hk h=>hk (r.rows _ _ _ _ _ _ _ _ _ _ _ h htk),fun k b o h=>r.apart _ _ _ _ _ _ _ _ _ h htk⟩)
  (fun z' cs h=>by
   cases h;refine⟨intsV_lv _,by simp[intsV,hl],fun h=>by(cases h),fun g' c' z' h=>?_⟩;cases h;refine⟨rfl,fun j d hj=>?_⟩;simp only[intsV,List.getElem?_map,Option.map_eq_some_iff] at hj;obtain⟨x,hx,rfl⟩:=hj;have hjl:j<ys.length:=(List.getElem?_eq_some_iff.1 hx).1;refine⟨.int .i64 x,?_,.v _⟩;simp only[World.cell?,hcur',Option.isSome_none,Bool.false_eq_true,if_false];exact hin j x hx (by omega))
 exact⟨_,h1,h2⟩
theorem Rel.onRowCut {E:Setting} {cx:Cx} {st:St} {w w':World} (r:Rel E cx st w) {key:Key} (hlt:key.1<st.length) {n:Nat} {e:TypeId} {zs ys:List Int} (hs:st.get key=some (.vec n e 1 (intsV zs))) {g c:Nat} {z:Nat} (htk:cx.tk key=some (n,e,some (g,c,z)))
  (hl:ys.length≤n) (ho:OnRow w w' g ys) :
  ∃cx',Rel E cx' (st.set key (some (.tok 9223372036854775808 e))) w'∧Ext (fun _=>true) cx w cx' w'∧Rd cx' w' (.sl 1 .ro (ys.map fun x=>[.v (.int .i64 x)])) (.slice (some ⟨g,0,none⟩) ys.length c):=by
 obtain⟨rfl,rfl,hg,hnc,hcm,⟨cur,hcur,hsz⟩,hfoot,hcell⟩:=r.rowInts hs htk;obtain⟨cur',hcur',hsz',hin⟩:=ho.row cur e hcur;have hne:∀k b o,k≠key→Mx.foot cx st k b o→b≠g:=fun k b o hk hf he=>by
  subst he;rcases hf with ⟨cs,o0,g1,g2,_⟩ | ⟨_,n0,e0,c0,z0,g1,g2,_⟩
  ·exact r.apart _ _ _ _ _ _ _ _ _ g2 htk rfl
  ·exact hk (r.rows _ _ _ _ _ _ _ _ _ _ _ g2 htk)
 obtain⟨h1,h2⟩:=r.rowStep (key:=key) hlt (fun cs h=>by rw[hs] at h; cases h) (n:=9223372036854775808) (e:=e) (tl:=none) (o':=.tok 9223372036854775808 e) rfl (w':=w') (M':=fun b o=>cx.M b o∧¬(b=g∧o<c))
  (fun n0 l0 h=>by rw[htk] at h; cases h; unfold maxLen at hcm; exact⟨by omega,fun h=>by omega⟩)
  ho.os ho.tape ho.output ho.size
  (fun b hb hm=>by
   by_cases hbg:b=g
   ·subst hbg;rcases Nat.eq_zero_or_pos c with h0 | h0
    ·have hc0:cur=#[]:=Array.eq_empty_of_size_eq_zero (by omega);have hc0':cur'=#[]:=Array.eq_empty_of_size_eq_zero (by omega);rw[hcur',hcur,hc0,hc0']
    ·exact absurd (r.foot _ _ _ (hfoot 0 h0)).2.2 (hm 0)
   ·exact ho.other b hb hbg)
  (fun b o hb hm=>by
   by_cases hbg:b=g
   ·subst hbg;rcases Nat.lt_or_ge o c with h0 | h0
    ·have hf:=hfoot o h0;exact absurd (hm (r.foot _ _ _ hf).2.2) (r.nz _ _ _ hf)
    ·simp only[World.cell?,hcur,hcur'];rw[Array.getElem?_eq_none (by omega),Array.getElem?_eq_none (by omega)]
   ·exact cell_heap (ho.other b hb hbg))
  (fun b o h=>.inl h.1) (fun b o h=>Nat.lt_of_lt_of_le (r.mlt b o h.1) ho.size) (fun b o h=>⟨r.zm b o h,fun hx=>by obtain⟨rfl,h0⟩:=hx; exact r.nz _ _ _ (hfoot o h0) h⟩)
  (fun b o hb=>by
   by_cases hbg:b=g
   ·subst hbg; simp only[World.frozen?,hcur,hcur']
   ·exact frozen_heap (ho.other b hb hbg))
  (fun g' c' z0 ht _=>by cases ht)
  (fun k b o hk hf=>⟨cell_heap (ho.other b (foot_lt r hf) (hne k b o hk hf)),frozen_heap (ho.other b (foot_lt r hf) (hne k b o hk hf)),(r.foot k b o hf).2.2,fun hx=>hne k b o hk hf hx.1⟩)
  (fun k n' e' g' c' z0 hk h=>by
   obtain⟨ob,n1,e1,q1,q2⟩:=r.domt k _ h;obtain⟨tl,t1,t2⟩:=r.tok k ob n1 e1 ⟨q1,q2⟩;rw[h] at t1; cases t1;obtain⟨_,_,cu,t5,_⟩:=t2;exact ho.other g' (Array.getElem?_eq_some_iff.1 t5).1 (fun he=>by subst he; exact hk (r.rows _ _ _ _ _ _ _ _ _ _ _ h htk)))
  (fun g' c' z0 ht=>by cases ht)
  (fun z' cs h=>by cases h)
 refine⟨_,h1,h2,?_⟩;have hlen:ys.length=(ys.map fun x=>[D.v (.int .i64 x)]).length:=by simp
 rw[hlen];refine .sl (g,0) (fun i _=>.int .i64 (ys.getD i 0)) (by rw[← hlen]; omega) hcm (fun i cs hi=>?_) (fun _=>rfl) (fun i j cs d hi hj=>?_) (fun i j cs d hi hj=>?_) trivial
 ·simp only[List.getElem?_map,Option.map_eq_some_iff] at hi;obtain⟨x,_,rfl⟩:=hi; rfl
 ·simp only[List.getElem?_map,Option.map_eq_some_iff] at hi;obtain⟨x,hx,rfl⟩:=hi;have hil:i<ys.length:=(List.getElem?_eq_some_iff.1 hx).1;have hj0:j=0:=by have:=(List.getElem?_eq_some_iff.1 hj).1; simpa using this
  subst hj0;have hgd:ys.getD i 0=x:=by simp[List.getD,hx]
  refine⟨?_,fun hM=>hM.2 ⟨rfl,by simp only; omega⟩⟩;simp only[World.cell?,hcur',Option.isSome_none,Bool.false_eq_true,if_false,hgd,Nat.zero_add,Nat.mul_one,Nat.add_zero];exact hin i x hx (by omega)
 ·simp only[List.getElem?_map,Option.map_eq_some_iff] at hi;obtain⟨x,hx,rfl⟩:=hi;have hj0:j=0:=by have:=(List.getElem?_eq_some_iff.1 hj).1; simpa using this
  subst hj0;simp only[List.getElem?_cons_zero,Option.some.injEq] at hj;subst hj;have hgd:ys.getD i 0=x:=by simp[List.getD,hx]
  rw[hgd];exact .v _
theorem ksInt_DLL (ys:List Int):KD.DLL (Go.Ev.ksInt ys)=ys.map fun x=>[D.v (.int .i64 x)]:=by
 rw[KD.DLL_map]; simp only[Go.Ev.ksInt,List.map_map]; rfl
theorem vecInt_A {κ:Pl→Key} {e:TypeId} (zs:List Int):EObj.A κ (.vec e 1 (Go.Ev.ksInt zs))=.vec zs.length e 1 (intsV zs):=by
 simp only[EObj.A,ksInt_flat,ksInt_len]
theorem SCall.row {E : Setting} {g : Nat} {fn : Func} {c : Code} {e : TypeId} {zs ys : List Int} (hf : E.P.funcs[g]? = some fn) (hb : fn.body = some c) (hn : (fn.name == "runtime.NumGoroutine") = false) (hl : ys.length = zs.length)
  (h0:zs=[]→∀p cap w,Calls E.P g #[.slice p 0 cap] w fun e w'=>e=.returned (.tuple #[])∧w'=w)
  (h1:∀b cap w,zs.length≤cap→Go.Sort.Holds (Value.int .i64) w b 0 zs.toArray→b<w.heap.size→Calls E.P g #[.slice (some ⟨b,0,none⟩) zs.length cap] w fun e w'=>e=.returned (.tuple #[])∧OnRow w w' b ys) :
  SCall E g [.vs (.low 0) 1 (Go.Ev.ksInt zs).length] [some (.vec e 1 (Go.Ev.ksInt zs))] (.tup []) [.vec e 1 (Go.Ev.ksInt ys)]:=by
 refine⟨⟨fn,c,hf,hb,hn⟩,fun ks low K hlow hk hK=>?_⟩;intro cx w vs hr hd;obtain⟨key,hkey⟩:∃key,ks[0]? = some key:=⟨ks[0]'(by rw[hk]; exact Nat.zero_lt_one),List.getElem?_eq_getElem _⟩
 have hκ:kap 0 ks (.low 0)=key:=kap_low hkey;simp only[osA,List.map_cons,List.map_nil,Option.map_some,vecInt_A] at hr hK;have hget:=hlow.get [some (AObj.vec zs.length e 1 (intsV zs))] (by rw[hk]; rfl) 0 key hkey;have hset:=hlow.set [some (AObj.vec zs.length e 1 (intsV zs))] (by rw[hk]; rfl) 0 key (some (.vec ys.length e 1 (intsV ys))) hkey;simp only[List.getElem?_cons_zero,Option.getD_some,List.set_cons_zero] at hget hset;have hlt:=hlow.lt [some (AObj.vec zs.length e 1 (intsV zs))] 0 key hkey;obtain⟨hd1,hd2⟩:=hd;simp only[ED.DL,ED.D,List.length_cons,List.length_nil,ksInt_len,hκ] at hd1 hd2;obtain⟨v,rfl⟩:∃v,vs=[v]:=List.length_eq_one_iff.1 hd1.symm;have hv:=hd2 0 _ v rfl rfl;obtain⟨a,cap,tl,rfl,p1,p2,p3,p4⟩:=hr.vsInv hget hv;rcases List.eq_nil_or_concat zs with hz | ⟨q,x,hz⟩
 ·subst hz;have hy:ys=[]:=List.eq_nil_of_length_eq_zero hl;subst hy;refine(h0 rfl a cap w).mono ?_;rintro en w' ⟨rfl,rfl⟩;exact⟨.tup [],_,cx,.tuple #[],rfl,hK,rfl,hr,.tup (vs:=[]) rfl (by simp),Ext.refl _ _ _⟩
 ·have hne:0<zs.length:=by rw[hz]; simp
  cases tl with
  | none=>obtain⟨_,h⟩:=p4; omega
  | some l=>
   obtain⟨b,cc,z⟩:=l;obtain⟨rfl,rfl,rfl⟩:=p4;obtain⟨_,_,hg,_,_,_,hfoot,hcell⟩:=hr.rowInts hget p3;refine(h1 b cc w p1 (fun j hj=>?_) hg).mono ?_
   ·have hj':j<zs.length:=by simpa using hj
    refine⟨?_,by rw[Nat.zero_add]; exact(hr.foot _ _ _ (hfoot j (by omega))).2.1⟩;rw[Nat.zero_add,hcell j zs[j] (List.getElem?_eq_getElem hj')];simp[hj']
   ·rintro en w' ⟨rfl,ho⟩;obtain⟨cx',r1,r2⟩:=hr.onRow hlt hget p3 hl ho;rw[hl] at hset hK;rw[hset] at r1;exact⟨.tup [],_,cx',.tuple #[],rfl,hK,hlow.len _ _,r1,.tup (vs:=[]) rfl (by simp),r2⟩
theorem SCall.rowCut {E : Setting} {g : Nat} {fn : Func} {c : Code} {e : TypeId} {zs ys : List Int} (hf : E.P.funcs[g]? = some fn) (hb : fn.body = some c) (hn : (fn.name == "runtime.NumGoroutine") = false) (hl : ys.length ≤ zs.length)
  (h0:zs=[]→∀p cap w,Calls E.P g #[.slice p 0 cap] w fun e w'=>e=.returned (.slice p 0 cap)∧w'=w)
  (h1:∀b cap w,zs.length≤cap→zs.length≤maxLen→Go.Sort.Holds (Value.int .i64) w b 0 zs.toArray→b<w.heap.size→Calls E.P g #[.slice (some ⟨b,0,none⟩) zs.length cap] w fun e w'=>e=.returned (.slice (some ⟨b,0,none⟩) ys.length cap)∧OnRow w w' b ys) :
  SCall E g [.vs (.low 0) 1 (Go.Ev.ksInt zs).length] [some (.vec e 1 (Go.Ev.ksInt zs))] (.d (.sl 1 false (Go.Ev.ksInt ys))) [.tok 9223372036854775808 e]:=by
 refine⟨⟨fn,c,hf,hb,hn⟩,fun ks low K hlow hk hK=>?_⟩;intro cx w vs hr hd;obtain⟨key,hkey⟩:∃key,ks[0]? = some key:=⟨ks[0]'(by rw[hk]; exact Nat.zero_lt_one),List.getElem?_eq_getElem _⟩
 have hκ:kap 0 ks (.low 0)=key:=kap_low hkey;simp only[osA,List.map_cons,List.map_nil,Option.map_some,vecInt_A] at hr hK;simp only[EObj.A,ED.D,KD.D,tkB,ksInt_DLL] at hK;have hget:=hlow.get [some (AObj.vec zs.length e 1 (intsV zs))] (by rw[hk]; rfl) 0 key hkey;have hset:=hlow.set [some (AObj.vec zs.length e 1 (intsV zs))] (by rw[hk]; rfl) 0 key (some (.tok 9223372036854775808 e)) hkey;simp only[List.getElem?_cons_zero,Option.getD_some,List.set_cons_zero] at hget hset;have hlt:=hlow.lt [some (AObj.vec zs.length e 1 (intsV zs))] 0 key hkey;obtain⟨hd1,hd2⟩:=hd;simp only[ED.DL,ED.D,List.length_cons,List.length_nil,ksInt_len,hκ] at hd1 hd2;obtain⟨v,rfl⟩:∃v,vs=[v]:=List.length_eq_one_iff.1 hd1.symm;have hv:=hd2 0 _ v rfl rfl;obtain⟨a,cap,tl,rfl,p1,p2,p3,p4⟩:=hr.vsInv hget hv;have key2:∀w' v',(∃cx',Rel E cx' ((low [some (AObj.vec zs.length e 1 (intsV zs))]).set key (some (.tok 9223372036854775808 e))) w'∧Ext (fun _=>true) cx w cx' w'∧Rd cx' w' (.sl 1 .ro (ys.map fun x=>[.v (.int .i64 x)])) v') →
   ∃d st' cx' v,Ending.returned v'=.returned v∧K d st'∧st'.length=(low (osA (kap 0 ks) [some (.vec e 1 (Go.Ev.ksInt zs))])).length∧Rel E cx' st' w'∧Rd cx' w' d v∧Ext (fun _=>true) cx w cx' w':=by
  rintro w' v' ⟨cx',r1,r2,r3⟩;rw[hset] at r1;exact⟨_,_,cx',v',rfl,hK,hlow.len _ _,r1,r3,r2⟩
 rcases List.eq_nil_or_concat zs with hz | ⟨q,x,hz⟩
 ·subst hz;have hy:ys=[]:=List.eq_nil_of_length_eq_zero (by simpa using hl);subst hy;refine(h0 rfl a cap w).mono ?_;rintro en w' ⟨rfl,rfl⟩;refine key2 _ _ ?_;cases tl with
  | some l=>
   obtain⟨b,cc,z⟩:=l;obtain⟨rfl,rfl,rfl⟩:=p4;obtain⟨_,_,hg,_,_,_,hfoot,hcell⟩:=hr.rowInts hget p3;exact hr.onRowCut hlt hget p3 (Nat.le_refl _) ⟨rfl,rfl,rfl,Nat.le_refl _,fun _ _ _=>rfl,fun cur e h=>⟨cur,h,rfl,fun i x hx=>by simp at hx⟩⟩
  | none=>
   obtain⟨r1,r2⟩:=hr.rowStep (key:=key) hlt (fun cs h=>by rw[hget] at h; cases h) (n:=9223372036854775808) (e:=e) (tl:=none) (o':=.tok 9223372036854775808 e) rfl (w':=w') (M':=cx.M)
    (fun n0 l0 h=>by rw[p3] at h; cases h; exact⟨by simp,fun h=>by simp at h⟩)
    rfl rfl rfl (Nat.le_refl _) (fun _ _ _=>rfl) (fun _ _ _ _=>rfl) (fun _ _ h=>.inl h) (fun b o h=>hr.mlt b o h) (fun b o h=>hr.zm b o h) (fun _ _ _=>rfl) (fun g' c' z0 ht _=>by cases ht)
    (fun k b o hk hf=>⟨rfl,rfl,(hr.foot k b o hf).2.2⟩) (fun _ _ _ _ _ _ _ _=>rfl) (fun g' c' z0 ht=>by cases ht) (fun z' cs h=>by cases h)
   refine⟨_,r1,r2,?_⟩;exact .sl (xs:=[]) (0,0) (fun _ _=>.int .i64 0) (Nat.zero_le _) p2 (fun i cs h=>by simp at h) (fun h=>absurd rfl h) (fun i j cs d h=>by simp at h) (fun i j cs d h=>by simp at h) trivial
 ·have hne:0<zs.length:=by rw[hz]; simp
  cases tl with
  | none=>obtain⟨_,h⟩:=p4; omega
  | some l=>
   obtain⟨b,cc,z⟩:=l;obtain⟨rfl,rfl,rfl⟩:=p4;obtain⟨_,_,hg,_,_,_,hfoot,hcell⟩:=hr.rowInts hget p3;refine(h1 b cc w p1 (by omega) (fun j hj=>?_) hg).mono ?_
   ·have hj':j<zs.length:=by simpa using hj
    refine⟨?_,by rw[Nat.zero_add]; exact(hr.foot _ _ _ (hfoot j (by omega))).2.1⟩;rw[Nat.zero_add,hcell j zs[j] (List.getElem?_eq_getElem hj')];simp[hj']
   ·rintro en w' ⟨rfl,ho⟩;exact key2 _ _ (hr.onRowCut hlt hget p3 hl ho)
theorem OnRow.pre {w w':World} {g:Nat} {ys t:List Int} (h:OnRow w w' g (ys++t)):OnRow w w' g ys:=
 ⟨h.os,h.tape,h.output,h.size,h.other,fun cur e hc=>by
  obtain⟨cur',h1,h2,h3⟩:=h.row cur e hc;exact⟨cur',h1,h2,fun i x hx hi=>h3 i x (by rw[List.getElem?_append_left (List.getElem?_eq_some_iff.1 hx).1]; exact hx) hi⟩⟩
end Go.Mx
namespace Go.Mx
open Go.RowKit
set_option linter.unusedVariables false
theorem Rel.below {E:Setting} {cx:Cx} {st:St} {w w':World} (r:Rel E cx st w) (hb:Below w.heap.size w w'):Rel E cx st w'∧Ext (fun _=>true) cx w cx w':=by
 have hh:∀{b:Nat},b<w.heap.size→w'.heap[b]? = w.heap[b]?:=fun h=>hb.block _ h;have he:Ext (fun _=>true) cx w cx w':=
  ⟨hb.os,hb.tape,hb.output,hb.size,fun b h _=>hh h,fun b q h _=>cell_heap (hh h),fun _ _ _ h=>h,fun _ _ _ h=>h,fun k n l _ h=>⟨n,l,h,Nat.le_refl _,fun _=>rfl⟩,rfl,fun k n e g c z h _=>⟨k,n,e,c,z,h⟩,fun b q h=>frozen_heap (hh h)⟩
 refine⟨⟨fun k cs h=>?_,fun k n e z cs h=>r.vecKeep h rfl (fun g c z' j x _ _ hx=>by rw[cell_heap (hh (cell_lt hx))]; exact hx) (fun j d x _ hr=>hr.mono he (RelF.ext.all_true _)),fun k ob n e h=>?_,fun k b q h=>?_,r.sep,r.domb,r.domt,fun b q h=>Nat.lt_of_lt_of_le (r.mlt b q h) he.size,r.nz,r.zm,fun k b q h=>Nat.lt_of_lt_of_le (r.bxlt k b q h) he.size,r.apart,r.rows,fun g=>(r.glob g).mono he (RelF.ext.all_true _)⟩,he⟩
 ·obtain⟨h1,b,q,h2,h3⟩:=r.cells k cs h;refine⟨h1,b,q,h2,fun j d hj=>?_⟩;obtain⟨x,hx,hrd⟩:=h3 j d hj;exact⟨x,by rw[cell_heap (hh (cell_lt hx))]; exact hx,hrd.mono he (RelF.ext.all_true _)⟩
 ·obtain⟨tl,t1,t2⟩:=r.tok k ob n e h;refine⟨tl,t1,?_⟩;cases tl with
  | none=>trivial
  | some l=>
   obtain⟨g,c,z⟩:=l;obtain⟨a1,a2,cur,a3,a4⟩:=t2;exact⟨a1,a2,cur,by rw[hh (Array.getElem?_eq_some_iff.1 a3).1]; exact a3,a4⟩
 ·obtain⟨⟨x,hx⟩,h2,h3⟩:=r.foot k b q h;exact⟨⟨x,by rw[cell_heap (hh (cell_lt hx))]; exact hx⟩,by rw[frozen_heap (hh (cell_lt hx))]; exact h2,h3⟩
theorem SCall.of_growR {E : Setting} {g : Nat} {fn : Func} {c : Code} {args : List ED} {d : ED} {v : Value} (hf : E.P.funcs[g]? = some fn) (hb : fn.body = some c) (hn : (fn.name == "runtime.NumGoroutine") = false)
  (hd:∀κ,d.D κ=.v v) (h:∀κ cx st w vs,Rel E cx st w→RdL cx w (ED.DL κ args) vs→Calls E.P g vs.toArray w fun e w'=>e=.returned v∧Below w.heap.size w w'):SCall E g args [] d []:=by
 refine⟨⟨fn,c,hf,hb,hn⟩,fun ks low K hl hk hK=>?_⟩;rw[hd] at hK;intro cx w xs hr hx;refine(h _ _ _ w xs hr hx).mono ?_;rintro e w' ⟨rfl,hb'⟩;obtain⟨r1,r2⟩:=hr.below hb';exact⟨.v v,_,cx,v,rfl,hK,rfl,r1,.v v,r2⟩
theorem rdl_vals {cx:Cx} {w:World} {vs xs:List Value} (h:RdL cx w (vs.map D.v) xs):xs=vs:=by
 obtain⟨h1,h2⟩:=h;rw[List.length_map] at h1;apply List.ext_getElem?;intro i;rcases Nat.lt_or_ge i xs.length with hi | hi
 ·have hi':i<vs.length:=by omega
  have:=h2 i (.v vs[i]) xs[i] (by simp[hi']) (by simp[hi]);generalize hy:xs[i]=y at this;cases this;simp[hi,hi',hy]
 ·rw[List.getElem?_eq_none hi,List.getElem?_eq_none (by omega)]
theorem SCall.of_grow {E : Setting} {g : Nat} {fn : Func} {c : Code} {args : List ED} {d : ED} {vs : List Value} {v : Value} (hf : E.P.funcs[g]? = some fn) (hb : fn.body = some c) (hn : (fn.name == "runtime.NumGoroutine") = false)
  (hd:∀κ,d.D κ=.v v) (ha:∀κ,ED.DL κ args=vs.map D.v) (h:∀cx st w,Rel E cx st w→Calls E.P g vs.toArray w fun e w'=>e=.returned v∧Below w.heap.size w w'):SCall E g args [] d []:=
 .of_growR hf hb hn hd fun κ cx st w xs hr hx=>by
  rw[ha] at hx;rw[rdl_vals hx];exact h cx st w hr
theorem rd_slice {cx:Cx} {w:World} {z:Nat} {t:Tok} {xs:List (List D)} {v:Value} (h:Rd cx w (.sl z t xs) v):∃a c,v=.slice a xs.length c:=by cases h; exact⟨_,_,rfl⟩
theorem Rel.gblock {E:Setting} {cx:Cx} {st:St} {w:World} (r:Rel E cx st w) {g:Nat} {p:Array Value→Prop} (hg:E.G g=.gb p):∃vs e fz,w.heap[g]? = some (.cells vs e fz)∧p vs:=by
 have h:=r.glob g;rw[hg] at h;cases h with
 | gb hb hm hp=>exact⟨_,_,_,hb,hp⟩
theorem gb_of_var {P:Program} {W:World} {n:String} {g:Nat} {cs:Array Value} {p:Array Value→Prop} (hg:P.globalNamed n=some g) (h:W.var? P n=some cs) (hp:p cs):Rd cx0 W (.gb p) (.pointer (some ⟨g,0,none⟩)):=by
 unfold World.var? at h;rw[hg,Option.bind_some] at h;split at h
 ·rename_i c e z hh;cases h;exact .gb hh (fun _ hm=>hm) hp
 ·cases h
end Go.Mx
