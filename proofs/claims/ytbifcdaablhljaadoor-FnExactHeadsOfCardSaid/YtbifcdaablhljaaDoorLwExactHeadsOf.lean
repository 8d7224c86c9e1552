/- Plain laws of models. No condition. -/
import Derived.Test.YtbifcdaablhljaaDoorMdExactHeadsOf
import Derived.Test.YtbifcdaablhljaaDoorEvTri
namespace Go.Ev
open Go.Mx (KD ED EObj forL forI seqS iterM)
set_option linter.unusedVariables false
set_option linter.unusedSimpArgs false
theorem szIntS_evt (sc:List Int) (hs:sc.length≤mxL) (b:Int) (h0:0≤b) (h1:b≤1048576):Evt (fun n=>la_szIntS n sc b) (szR sc.length b):=by
 simp only[la_szIntS,sub_w h0 h1 hs];exact Evt.szA (w2:=0) fun h=>.szZ (by omega)
theorem szForm_evt (f:Form) (hf:okF f) (b:Int) (h0:0≤b) (h1:b≤1048576):Evt (fun n=>la_szForm n f b) (szR (wF f) b):=by
 obtain⟨o1,o2,o3,o4⟩:=(okF_eq f).1 hf;refine .succ ?_;simp only[la_szForm,sub_w h0 h1 o1];rw[wF_eq,show f.name.length+f.scopes.length+f.kids.length+wFs f.kids=f.name.length+(f.scopes.length+((f.kids.length+wFs f.kids)+0)) by omega];refine .szA fun q1=>.szB (szIntS_evt _ o2 _ (by omega) (by omega)) fun q2=>.szB ?_ fun q3=>.szZ (by omega);refine .succ ?_;simp only[la_szFormS];rw[sub_w (by omega) (by omega) o3];refine .szA fun q4=>?_;exact szS_evt (m:=fun n x b=>la_szForm n x b) rfl (fun _ _=>by rw[wFs]) (fun x hx b h0 h1=>szForm_evt x (okFs_iff.1 o4 x hx) b h0 h1) _ (by omega) (by omega)
termination_by SizeOf.sizeOf f
decreasing_by exact szF_lt hx
theorem szCore_evt (f:Core) (hf:okC f) (b:Int) (h0:0≤b) (h1:b≤1048576):Evt (fun n=>la_szCore n f b) (szR (wC f) b):=by
 obtain⟨o1,o2,od,o3,o4⟩:=(okC_eq f).1 hf;refine .succ ?_;simp only[la_szCore,sub_w h0 h1 o1];rw[wC_eq,show f.name.length+f.ids.length+wF f.data+f.kids.length+wCs f.kids=f.name.length+(f.ids.length+(wF f.data+((f.kids.length+wCs f.kids)+0))) by omega];refine .szA fun q1=>.szB (szIntS_evt _ o2 _ (by omega) (by omega)) fun q2=>.szB (szForm_evt _ od _ (by omega) (by omega)) fun q5=>.szB ?_ fun q3=>.szZ (by omega);refine .succ ?_;simp only[la_szCoreS];rw[sub_w (by omega) (by omega) o3];refine .szA fun q4=>?_;exact szS_evt (m:=fun n x b=>la_szCore n x b) rfl (fun _ _=>by rw[wCs]) (fun x hx b h0 h1=>szCore_evt x (okCs_iff.1 o4 x hx) b h0 h1) _ (by omega) (by omega)
termination_by SizeOf.sizeOf f
decreasing_by exact szC_lt hx
theorem eqIntS_evt (l:List Int):Evt (fun n=>la_eqIntS n l l) true:=by
 simp only[la_eqIntS,not_true_eq_false,if_false];have:=eqS_evt (e:=fun _ (x y:Int)=>some (decide (x=y))) (xs:=l) (fun x _=>by simpa using Evt.pure true)
 simpa only[Option.bind_some,Bool.not_eq_true',decide_eq_false_iff_not] using this
theorem eqForm_evt (f:Form):Evt (fun n=>la_eqForm n f f) true:=by
 refine .succ ?_;simp only[la_eqForm,not_true_eq_false,if_false];refine .bind (eqIntS_evt _) (.neg (by simp) (.bind (a:=true) ?_ (.neg (by simp) (.pure _))));refine .succ ?_;simp only[la_eqFormS,not_true_eq_false,if_false];exact eqS_evt (e:=fun n x y=>la_eqForm n x y) (fun x hx=>eqForm_evt x)
termination_by SizeOf.sizeOf f
decreasing_by exact szF_lt hx
theorem eqCore_evt (f:Core):Evt (fun n=>la_eqCore n f f) true:=by
 refine .succ ?_;simp only[la_eqCore,not_true_eq_false,if_false];refine .bind (eqIntS_evt _) (.neg (by simp) (.bind (eqForm_evt _) (.neg (by simp) (.bind (a:=true) ?_ (.neg (by simp) (.pure _))))));refine .succ ?_;simp only[la_eqCoreS,not_true_eq_false,if_false];exact eqS_evt (e:=fun n x y=>la_eqCore n x y) (fun x hx=>eqCore_evt x)
termination_by SizeOf.sizeOf f
decreasing_by exact szC_lt hx
theorem heldIntS_evt (k:Int) (m:Nat) (hk:0≤k) (hb:k+m<4611686018427387904):Evt (fun n=>la_heldIntS n ((List.range m).map fun j:Nat=>k+(j:Int)) k) (k+m):=by
 simp only[la_heldIntS];refine Evt.seqR (t:=k+m) ?_ (.pure _);have:=Evt.forI (step:=fun(_:Nat) (s2:Int) (_:Nat) (x4:Int)=>(if ¬x4=s2 then some (Sum.inl (-1)) else some (Sum.inr (w64 (s2+1))):Option (Int⊕Int)))
  (fun i q s=>s=k+i∧i+q.length=m∧q=((List.range m).map fun j:Nat=>k+(j:Int)).drop i) (fun _=>False) (fun i x q s ⟨h1,h2,h3⟩=>.inr ⟨k+(i+1:Nat),?_,?_,?_,?_⟩) ((List.range m).map fun j:Nat=>k+(j:Int)) 0 k ⟨by simp,by simp,by simp⟩
 ·rcases this with ⟨w,_,h⟩ | ⟨s,h1,h2,h3,_⟩
  ·exact h.elim
  ·simp at h2 h3; rw[h2] at h1; exact h1
 ·simp at h2;have hx:((List.range m).map fun j:Nat=>k+(j:Int))[i]? = some x:=by
   have:(x::q)[0]? = some x:=rfl;rw[h3,List.getElem?_drop] at this; simpa using this
  rw[List.getElem?_map,List.getElem?_range (by omega)] at hx;simp at hx;refine .neg (by rw[h1,← hx]; simp) (.const ?_);rw[h1,w_id (by omega) (by omega)];congr 2; omega
 ·rfl
 ·simp at h2 ⊢; omega
 ·have:=congrArg List.tail h3
  simpa [List.tail_drop] using this
theorem contS_eq (n:Nat) (l:List (List UInt8)) (x:List UInt8):slices_Contains_string n l x=some (decide (x∈l)):=by
 unfold slices_Contains_string slices_Index_string;have main:∀(l:List (List UInt8)) (i:Nat),∃k:Int,seqS (Mx.forI (fun(_:Unit) (i:Nat) (y:List UInt8)=>((if x=y then some (Sum.inl (i:Int)) else some (Sum.inr ())):Option (Int⊕Unit))) i l ()) (fun _=>some (-1))=some k∧(k≥0↔x∈l):=by
  intro l
  induction l with
  | nil=>intro i; exact⟨-1,rfl,by simp⟩
  | cons y r ih=>
   intro i;by_cases h:x=y
   ·subst h;exact⟨(i:Int),by simp[Mx.forI,Mx.seqS],by simp⟩
   ·obtain⟨k,h1,h2⟩:=ih (i+1);refine⟨k,?_,by rw[h2]; simp[h]⟩;rw[← h1];simp[Mx.forI,h]
 obtain⟨k,h1,h2⟩:=main l 0;rw[h1,Option.bind_some];congr 1;rw[Bool.eq_iff_iff,decide_eq_true_eq,decide_eq_true_eq]; exact h2
mutual
def cC:Core→Nat
 | ⟨_,_,_,_,_,_,kids⟩=>1+cCs kids
def cCs:List Core→Nat
 | []=>0
 | x::r=>cC x+cCs r
end
theorem cC_eq (f:Core):cC f=1+cCs f.kids:=by cases f; simp only[cC]
mutual
theorem cC_le:∀f:Core,cC f≤wC f+1
 | ⟨k,id,nm,n,ids,dt,kids⟩=>by have:=cCs_le kids; simp only[cC,wC]; omega
theorem cCs_le:∀l:List Core,cCs l≤wCs l+l.length
 | []=>by simp[cCs]
 | x::r=>by have:=cC_le x; have:=cCs_le r; simp only[cCs,wCs,List.length_cons]; omega
end
theorem atI_0 {α:Type} {l:List α} {x:α} (h:l[0]? = some x):atI l 0=some x:=atI_nat (i:=0) h
def hdK (c:Core):Option Nat:=if c.kind=6 then(match c.kids with
 | []=>none
 | x::_=>some (if x.kind=5 then 0 else if x.kind=2∧x.name∈lp2 then 1 else if x.kind=1 then 2 else 3)) else none
mutual
def hdN (k:Nat):Core→Nat
 | ⟨kd,i,nm,n,ids,dt,kids⟩=>(if hdK ⟨kd,i,nm,n,ids,dt,kids⟩=some k then 1 else 0)+hdNs k kids
def hdNs (k:Nat):List Core→Nat
 | []=>0
 | x::r=>hdN k x+hdNs k r
end
theorem hdN_eq (k:Nat) (c:Core):hdN k c=(if hdK c=some k then 1 else 0)+hdNs k c.kids:=by cases c; simp only[hdN]
mutual
theorem hdN_le (k:Nat):∀c:Core,hdN k c≤cC c
 | ⟨kd,i,nm,n,ids,dt,kids⟩=>by have:=hdNs_le k kids; simp only[hdN,cC]; split <;> omega
theorem hdNs_le (k:Nat):∀l:List Core,hdNs k l≤cCs l
 | []=>by simp[hdNs]
 | x::r=>by have:=hdN_le k x; have:=hdNs_le k r; simp only[hdNs,cCs]; omega
end
def lst (v:Nat→Nat):List Int:=[(v 0:Int),(v 1:Int),(v 2:Int),(v 3:Int)]
theorem lst_len (v:Nat→Nat):(lst v).length=4:=rfl
theorem lst_get {v:Nat→Nat} {k:Nat} (h:k<4):(lst v)[k]? = some (v k:Int):=by
 have:k=0∨k=1∨k=2∨k=3:=by omega
 rcases this with rfl | rfl | rfl | rfl <;> rfl
theorem lst_set {v:Nat→Nat} {k y:Nat} (h:k<4):(lst v).set k (y:Int)=lst (fun j=>if j=k then y else v j):=by
 have:k=0∨k=1∨k=2∨k=3:=by omega
 rcases this with rfl | rfl | rfl | rfl <;> simp[lst]
theorem lst_ext {v w:Nat→Nat} (h:∀k,k<4→v k=w k):lst v=lst w:=by
 unfold lst;rw[h 0 (by omega),h 1 (by omega),h 2 (by omega),h 3 (by omega)]
theorem lst_up {v:Nat→Nat} {j:Nat} (hj:j<4) (hv:∀k,v k≤1000000000) {o:Option Nat} (ho:o=some j):(lst v).set j (w64 ((v j:Int)+1))=lst (fun k=>v k+if o=some k then 1 else 0):=by
 have:=hv j;rw[w_id (by omega) (by omega),show((v j:Int)+1)=((v j+1:Nat):Int) by omega,lst_set hj];refine lst_ext fun k _=>?_;subst ho;by_cases h:k=j
 ·subst h; simp
 ·simp[h,Ne.symm h]
def bmpH (o:Option Nat) (v:Nat→Nat):Nat→Nat:=fun k=>v k+if o=some k then 1 else 0
theorem hdK_cons {c x:Core} {r:List Core} (h6:c.kind=6) (hk:c.kids=x::r):hdK c=some (if x.kind=5 then 0 else if x.kind=2∧x.name∈lp2 then 1 else if x.kind=1 then 2 else 3):=by unfold hdK; rw[if_pos h6,hk]
theorem hdK_nil {c:Core} (hk:c.kids=[]):hdK c=none:=by unfold hdK; rw[hk]; split <;> rfl
theorem hdK_no {c:Core} (h6:¬c.kind=6):hdK c=none:=by unfold hdK; rw[if_neg h6]
theorem hd_step (c:Core) (v:Nat→Nat) (hv:∀k,v k≤1000000000) (n:Nat):im_HeadsOf_1 n c (lst v)=some (lst (bmpH (hdK c) v)):=by
 unfold im_HeadsOf_1 im_isPrimitive;have z:lst (bmpH none v)=lst v:=lst_ext fun k _=>by simp[bmpH]
 have up:∀j:Nat,j<4→((inB ((j:Nat):Int) (lst v).length).bind fun _=>((lst v)[(Int.toNat ((j:Nat):Int))]?).bind fun e=>(inB ((j:Nat):Int) (lst v).length).bind fun _=>some ((lst v).set (Int.toNat ((j:Nat):Int)) (w64 (e+1))))=some (lst (bmpH (some j) v)):=fun j hj=>by
  have hi:=inB_ok (i:=((j:Nat):Int)) (n:=(lst v).length) (by omega) (by rw[lst_len]; omega);rw[hi,Option.bind_some,Int.toNat_natCast,lst_get hj,Option.bind_some,Option.bind_some,lst_up hj hv rfl];rfl
 by_cases h6:c.kind=6
 ·rw[if_neg (by simpa using h6)];cases hk:c.kids with
  | nil=>rw[hdK_nil hk,z]; rfl
  | cons x r=>
   have h0:atI (x::r) 0=some x:=atI_0 rfl;have hl:decide (((x::r).length:Int)=0)=false:=by simp; omega
   have hd:=hdK_cons h6 hk;rw[hl];simp only[Option.bind_some,Bool.false_eq_true,if_false,h0,contS_eq];by_cases h5:x.kind=5
   ·rw[if_pos h5] at hd;rw[if_pos h5,hd]; exact up 0 (by omega)
   rw[if_neg h5] at hd;rw[if_neg h5];by_cases h2:x.kind=2
   ·rw[if_pos h2,Option.bind_some];by_cases hm:x.name∈lp2
    ·rw[if_pos ⟨h2,hm⟩] at hd;rw[decide_eq_true hm]
     repeat rw[Option.bind_some]
     rw[if_pos rfl,hd]; exact up 1 (by omega)
    ·have h1:¬x.kind=1:=by omega
     rw[if_neg (fun h=>hm h.2),if_neg h1] at hd;rw[decide_eq_false hm]
     repeat rw[Option.bind_some]
     rw[if_neg (by simp),if_neg h1,hd]; exact up 3 (by omega)
   ·rw[if_neg (fun h=>h2 h.1)] at hd;rw[if_neg h2]
    repeat rw[Option.bind_some]
    rw[if_neg (by simp)];by_cases h1:x.kind=1
    ·rw[if_pos h1] at hd;rw[if_pos h1,hd]; exact up 2 (by omega)
    ·rw[if_neg h1] at hd;rw[if_neg h1,hd]; exact up 3 (by omega)
 ·rw[if_pos h6,hdK_no h6,z]; rfl
theorem ihd_evt (c:Core) (v:Nat→Nat) (hv:∀k,v k+cC c≤1000000000):Evt (fun n=>im_eachCore__im_HeadsOf_1 n c (lst v)) (lst fun k=>v k+hdN k c):=by
 have hc:=cC_eq c;refine .succ ?_;simp only[im_eachCore__im_HeadsOf_1];refine Ex.evt (.bv ⟨0,fun n _=>hd_step c v (fun k=>by have:=hv k; omega) n⟩ ?_);refine Ex.bind (P:=fun s=>s=lst fun k=>v k+hdN k c) ?_ (fun s hs=>.pure hs);refine Ex.forL (I:=fun i q s=>∃u:Nat→Nat,s=lst u∧(∀k,u k+hdNs k q=v k+hdN k c)∧(∀k,u k+cCs q≤1000000000)∧∀x∈q,x∈c.kids) ⟨bmpH (hdK c) v,rfl,fun k=>by rw[hdN_eq]; unfold bmpH; omega,fun k=>by have:=hv k; unfold bmpH; split <;> omega,fun _ h=>h⟩ ?_ ?_
 ·rintro i x q s ⟨u,rfl,h1,h2,h3⟩;have g4:=h3 x List.mem_cons_self;simp only[hdNs,cCs] at h1 h2;refine .bv (ihd_evt x u (fun k=>by have:=h2 k; omega)) (.pure ⟨_,rfl,fun k=>by have:=h1 k; omega,fun k=>by have:=h2 k; have:=hdN_le k x; omega,fun y hy=>h3 y (List.mem_cons_of_mem _ hy)⟩)
 ·rintro s ⟨u,rfl,h1,_,_⟩;exact lst_ext fun k _=>by have:=h1 k; simp only[hdNs] at this; omega
termination_by SizeOf.sizeOf c
decreasing_by exact szC_lt g4
theorem rep4:List.replicate (4:Int).toNat (0:Int)=lst fun _=>0:=rfl
theorem mk84:mkB 8 4=some ():=by decide
theorem ihead_evt (c:Core) (hc:cC c≤1000000000):Evt (fun n=>im_HeadsOf n c) (lst fun k=>hdN k c):=by
 unfold im_HeadsOf;rw[rep4];have h:=ihd_evt c (fun _=>0) (fun k=>by omega);simp only[Nat.zero_add] at h;exact Ex.evt (.bp () mk84 (.bv h (.pure rfl)))
theorem primsH_mem (x:List UInt8):decide (x∈([[43],[60],[61],[108,105,115,116],[104,101,97,100],[116,97,105,108]]:List (List UInt8)))=decide (x∈lp2):=by
 simp only[decide_eq_decide];unfold lp2;simp only[List.mem_cons,List.not_mem_nil,or_false];constructor <;> rintro (h | h | h | h | h | h) <;> simp[h]
theorem sinH_eq (n:Nat) (l:List (List UInt8)) (x:List UInt8):sp_l1In n l x=some (decide (x∈l)):=by
 obtain⟨N,h⟩:=mem_evt (xs:=l) (y:=x);exact h N (Nat.le_refl N)
theorem shd_evt (c:Core) (v:Nat→Nat) (hv:∀k,v k+cC c≤1000000000):Evt (fun n=>sp_l12Heads n (lst v) c) (lst fun k=>v k+hdN k c):=by
 have hc:=cC_eq c;refine .succ ?_;simp only[sp_l12Heads,sp_l8Prims,sinH_eq,primsH_mem,Option.bind_some];have z:lst (fun k=>v k+if(none:Option Nat)=some k then 1 else 0)=lst v:=lst_ext fun k _=>by simp
 refine Ex.evt ?_;refine Ex.bind (P:=fun o=>o=(hdK c).isSome) ?_ ?_
 ·unfold hdK;by_cases h6:c.kind=6
  ·refine .pos h6 (.pure ?_);rw[if_pos h6];cases c.kids with
   | nil=>rfl
   | cons x r=>simp
  ·exact .neg h6 (.pure (by rw[if_neg h6]; rfl))
 rintro o rfl;refine Ex.bind (P:=fun s=>s=lst (fun k=>v k+if hdK c=some k then 1 else 0)) ?_ ?_
 ·cases hk:hdK c with
  | none=>exact .neg (by simp) (.pure z.symm)
  | some j=>
   refine .pos rfl ?_;have hj:j<4∧∃x r,c.kids=x::r∧j=(if x.kind=5 then 0 else if x.kind=2∧x.name∈lp2 then 1 else if x.kind=1 then 2 else 3):=by
    unfold hdK at hk;by_cases h6:c.kind=6
    ·rw[if_pos h6] at hk;cases hkd:c.kids with
     | nil=>rw[hkd] at hk; cases hk
     | cons x r=>
      rw[hkd] at hk;simp only[Option.some.injEq] at hk;refine⟨?_,x,r,rfl,hk.symm⟩;rw[← hk]; split
      ·omega
      ·split
       ·omega
       ·split <;> omega
    ·rw[if_neg h6] at hk; cases hk
   obtain⟨hj4,x,r,hkd,hje⟩:=hj;rw[hkd];refine Ex.bind (P:=fun q=>q=(j:Int)) (.bp x (atI_0 rfl) ?_) ?_
   ·by_cases h5:x.kind=5
    ·exact .pos h5 (.pure (by rw[hje,if_pos h5]; rfl))
    refine .neg h5 ?_;rw[if_neg h5] at hje;refine Ex.bind (P:=fun b=>b=decide (x.kind=2∧x.name∈lp2)) ?_ ?_
    ·by_cases h2:x.kind=2
     ·exact .pos h2 (.pure (by simp[h2]))
     ·exact .neg h2 (.pure (by simp[h2]))
    rintro b rfl;by_cases h2:x.kind=2∧x.name∈lp2
    ·exact .pos (by simpa using h2) (.pure (by rw[hje,if_pos h2]; rfl))
    refine .neg (by simpa using h2) ?_;rw[if_neg h2] at hje;by_cases h1:x.kind=1
    ·exact .pos h1 (.pure (by rw[hje,if_pos h1]; rfl))
    ·exact .neg h1 (.pure (by rw[hje,if_neg h1]; rfl))
   ·rintro q rfl;have hi:=inB_ok (i:=((j:Nat):Int)) (n:=(lst v).length) (by omega) (by rw[lst_len]; omega);refine .bp () hi (.bp (v j:Int) (by rw[Int.toNat_natCast]; exact lst_get hj4) (.bp () hi (.pure ?_)));rw[Int.toNat_natCast];exact lst_up hj4 (fun k=>by have:=hv k; omega) rfl
 rintro s rfl;refine Ex.bind (P:=fun s=>s=lst fun k=>v k+hdN k c) ?_ (fun s hs=>.pure hs);refine Ex.forL (I:=fun i q s=>∃u:Nat→Nat,s=lst u∧(∀k,u k+hdNs k q=v k+hdN k c)∧(∀k,u k+cCs q≤1000000000)∧∀x∈q,x∈c.kids) ⟨bmpH (hdK c) v,rfl,fun k=>by rw[hdN_eq]; unfold bmpH; omega,fun k=>by have:=hv k; unfold bmpH; split <;> omega,fun _ h=>h⟩ ?_ ?_
 ·rintro i x q s ⟨u,rfl,h1,h2,h3⟩;have g4:=h3 x List.mem_cons_self;simp only[hdNs,cCs] at h1 h2;refine .bv (shd_evt x u (fun k=>by have:=h2 k; omega)) (.pure ⟨_,rfl,fun k=>by have:=h1 k; omega,fun k=>by have:=h2 k; have:=hdN_le k x; omega,fun y hy=>h3 y (List.mem_cons_of_mem _ hy)⟩)
 ·rintro s ⟨u,rfl,h1,_,_⟩;exact lst_ext fun k _=>by have:=h1 k; simp only[hdNs] at this; omega
termination_by SizeOf.sizeOf c
decreasing_by exact szC_lt g4
theorem shead_evt (c:Core) (hc:cC c≤1000000000):Evt (fun n=>sp_HeadsOf n c) (lst fun k=>hdN k c):=by
 unfold sp_HeadsOf;rw[rep4];have h:=shd_evt c (fun _=>0) (fun k=>by omega);simp only[Nat.zero_add] at h;exact Ex.evt (.bp () mk84 (.bv h (.pure rfl)))
end Go.Ev
